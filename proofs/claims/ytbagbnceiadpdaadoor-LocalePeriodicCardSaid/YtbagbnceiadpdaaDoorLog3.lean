/- Rules for numbers, plainly: the law of two rules; a test turned round. No program in sight. -/
import Derived.Test.YtbagbnceiadpdaaDoorLog2
namespace Go.Proofs.YtbagbnceiadpdaaDoor
set_option linter.unusedVariables false
set_option linter.unusedSimpArgs false

def sOr : List UInt8 := [32, 111, 114, 32]
def sAnd : List UInt8 := [32, 97, 110, 100, 32]
def sIs : List UInt8 := [32, 105, 115, 32]
def sNot : List UInt8 := [32, 110, 111, 116, 32]
/-- A rule's two answers. -/
def okW (ws : List (List UInt8)) : Bool := (rul 0 ws).2
def vlW (n : Nat) (ws : List (List UInt8)) : Bool := (rul n ws).1
theorem rfL_ok (n : Nat) (ws : List (List UInt8)) : (rfL n false true ws).1 = okW ws ∧ (okW ws = true → (rfL n false true ws).2 = vlW n ws) := by
  rw [rfL_rul]
  have e : (rul n ws).2 = okW ws := congrArg id (rul_ind n 0 ws)
  rw [e]
  cases h : okW ws
  · exact ⟨rfl, fun h => by cases h⟩
  · exact ⟨rfl, fun _ => rfl⟩
theorem or_law (n : Nat) (A B : List (List UInt8)) : okW (A ++ wOr :: B) = (okW A && okW B) ∧ (okW A = true → okW B = true → vlW n (A ++ wOr :: B) = (vlW n A || vlW n B)) := by
  have h := fun n => or_app n B A.length false true A (Nat.le_refl _)
  have key : ∀ n, rfL n false true (A ++ wOr :: B) = if okW A && okW B then (true, vlW n A || vlW n B) else (false, false) := by
    intro n
    obtain ⟨a1, a2⟩ := rfL_ok n A
    obtain ⟨b1, b2⟩ := rfL_ok n B
    rw [h n, a1]
    cases ha : okW A
    · rfl
    · rw [a2 ha, if_pos rfl, any_out n _ _ true B (Nat.le_refl _), b1]
      cases hb : okW B
      · rfl
      · rw [b2 hb]; rfl
  obtain ⟨c1, c2⟩ := rfL_ok 0 (A ++ wOr :: B)
  have e1 : okW (A ++ wOr :: B) = (okW A && okW B) := by
    rw [← c1, key 0]
    cases okW A && okW B <;> rfl
  refine ⟨e1, fun ha hb => ?_⟩
  have hk := (rfL_ok n (A ++ wOr :: B)).2 (by rw [e1, ha, hb]; rfl)
  rw [← hk, key n, ha, hb]
  rfl
theorem and_law (n : Nat) (A B : List (List UInt8)) (hA : noOr A) (hB : noOr B) (ha : okW A = true) (hb : okW B = true) : okW (A ++ wAnd :: B) = true ∧ vlW n (A ++ wAnd :: B) = (vlW n A && vlW n B) := by
  have key : ∀ n, rfL n false true (A ++ wAnd :: B) = (true, vlW n A && vlW n B) := by
    intro n
    obtain ⟨a1, a2⟩ := rfL_ok n A
    obtain ⟨b1, b2⟩ := rfL_ok n B
    rw [and_app n B _ true A (Nat.le_refl _) hA, a1, a2 ha, ha, if_pos rfl, all_out n _ _ B (Nat.le_refl _) hB, b1, b2 hb, hb]
    rfl
  have e : okW (A ++ wAnd :: B) = true := by rw [← (rfL_ok 0 _).1, key 0]
  exact ⟨e, by rw [← (rfL_ok n _).2 e, key n]⟩
/-- A rule in which the text of a joining word does not stand has no such word. -/
theorem no_kw (s : List UInt8) (x : List UInt8) (hx : kw x) (h : okW (spl 32 s) = true) (hc : Lib.contains s (32 :: x ++ [32]) = false) : ∀ y ∈ spl 32 s, y ≠ x := by
  rintro y hy rfl
  have h1 : (rfL 0 false true (spl 32 s)).1 = true := by rw [(rfL_ok 0 _).1]; exact h
  obtain ⟨p, q, e, hp, hq⟩ := or_inner 0 _ false true (spl 32 s) (Nat.le_refl _) h1 y hx hy
  have := inner_word 32 s y p q e hp hq
  rw [hc] at this
  cases this
theorem contains_app {a b t : List UInt8} (h : Lib.contains (a ++ b) t = false) : Lib.contains a t = false ∧ Lib.contains b t = false := by
  constructor
  · cases e : Lib.contains a t with
    | false => rfl
    | true =>
      obtain ⟨u, v, rfl⟩ := (contains_iff _ _).1 e
      rw [(contains_iff _ _).2 ⟨u, v ++ b, by simp⟩] at h; cases h
  · cases e : Lib.contains b t with
    | false => rfl
    | true =>
      obtain ⟨u, v, rfl⟩ := (contains_iff _ _).1 e
      rw [(contains_iff _ _).2 ⟨a ++ u, v, by simp⟩] at h; cases h
/-- A rule without joining words is one test. -/
theorem one_test (n : Nat) (ws : List (List UInt8)) (h : okW ws = true) (h1 : ∀ y ∈ ws, y ≠ wOr) (h2 : ∀ y ∈ ws, y ≠ wAnd) : teB ws = true ∧ teR ws = [] ∧ vlW n ws = teH n ws := by
  have k1 : (rfL n false true ws).1 = true := by rw [(rfL_ok n _).1]; exact h
  have k2 := (rfL_ok n ws).2 h
  cases hb : teB ws with
  | false => rw [rfL_bad n false true _ hb] at k1; cases k1
  | true =>
    cases hr : teR ws with
    | nil => exact ⟨rfl, rfl, by rw [← k2, rfL_end n false true _ hb hr]; simp⟩
    | cons w r =>
      exfalso
      have hm : w ∈ ws := by
        rcases te_form ws hb with ⟨o, l, r', rfl, _, _, e, _⟩ | ⟨_, o, l, r', rfl, _, _, _, _, e, _⟩
        all_goals
          rw [hr] at e
          subst e
          simp
      rw [rfL_go n false true _ w r hb hr, if_neg (h1 w hm), if_neg (h2 w hm)] at k1
      cases k1
/-- The test turned round. -/
theorem te_turn (n : Nat) (p q : List (List UInt8)) (o o' : List UInt8) (ho : (o = wIs ∧ o' = wNot) ∨ (o = wNot ∧ o' = wIs)) (hp : p ≠ []) (hq : q ≠ []) (h : teB (p ++ o :: q) = true) (hr : teR (p ++ o :: q) = []) :
    okW (p ++ o' :: q) = true ∧ vlW n (p ++ o' :: q) = !teH n (p ++ o :: q) := by
  have main : teB (p ++ o' :: q) = true ∧ teR (p ++ o' :: q) = [] ∧ ∀ n, teH n (p ++ o' :: q) = !teH n (p ++ o :: q) := by
    have ho1 : o = wIs ∨ o = wNot := ho.imp (·.1) (·.1)
    have ho2 : o' = wIs ∨ o' = wNot := (ho.imp (·.2) (·.2)).symm
    have hd : decide (o' = wIs) = !decide (o = wIs) := by rcases ho with ⟨rfl, rfl⟩ | ⟨rfl, rfl⟩ <;> decide
    have on : o ≠ wN ∧ o ≠ wMod ∧ numB o = false := by rcases ho1 with rfl | rfl <;> decide
    have flip : ∀ b c : Bool, (b == !c) = !(b == c) := by decide
    rcases te_form _ h with ⟨w, l, r, e, hw, hl, e2, hh⟩ | ⟨k, w, l, r, e, hk, hk0, hw, hl, e2, hh⟩
    · rw [hr] at e2
      subst e2
      rcases p with _ | ⟨a, _ | ⟨b, p⟩⟩
      · exact absurd rfl hp
      · simp only [List.cons_append, List.nil_append, List.cons.injEq] at e
        obtain ⟨rfl, rfl, rfl⟩ := e
        obtain ⟨x, y, z⟩ := te_three o' l [] ho2 hl
        refine ⟨x, y, fun n => ?_⟩
        rw [hh]
        exact (z n).trans (by rw [hd, flip])
      · exfalso
        rcases q with _ | ⟨c, q⟩
        · exact hq rfl
        · have := congrArg List.length e
          simp at this
          omega
    · rw [hr] at e2
      subst e2
      rcases p with _ | ⟨a, _ | ⟨b, _ | ⟨c, _ | ⟨d, p⟩⟩⟩⟩
      · exact absurd rfl hp
      · simp only [List.cons_append, List.nil_append, List.cons.injEq] at e
        exact absurd e.2.1 on.2.1
      · simp only [List.cons_append, List.nil_append, List.cons.injEq] at e
        have := on.2.2
        rw [e.2.2.1, hk] at this; cases this
      · simp only [List.cons_append, List.nil_append, List.cons.injEq] at e
        obtain ⟨rfl, rfl, rfl, rfl, rfl⟩ := e
        obtain ⟨x, y, z⟩ := te_five c o' l [] hk hk0 ho2 hl
        refine ⟨x, y, fun n => ?_⟩
        rw [hh]
        exact (z n).trans (by rw [hd, flip])
      · exfalso
        rcases q with _ | ⟨f, q⟩
        · exact hq rfl
        · have := congrArg List.length e
          simp at this
          omega
  obtain ⟨m1, m2, m3⟩ := main
  have k := fun n => rfL_end n false true _ m1 m2
  have e : okW (p ++ o' :: q) = true := by rw [← (rfL_ok 0 _).1, k 0]
  refine ⟨e, ?_⟩
  rw [← (rfL_ok n _).2 e, k n, m3]
  simp
end Go.Proofs.YtbagbnceiadpdaaDoor
