/- Rules for numbers, plainly: what a rule of two rules says; a test turned round. No program in sight. -/
import Derived.Test.YtbagbnceiadpdaaDoorLog
namespace Go.Proofs.YtbagbnceiadpdaaDoor
set_option linter.unusedVariables false
set_option linter.unusedSimpArgs false

theorem rfL_bad (n : Nat) (any all : Bool) (ws : List (List UInt8)) (h : teB ws = false) : rfL n any all ws = (false, false) := by rw [rfL.eq_def, if_pos h]
theorem rfL_end (n : Nat) (any all : Bool) (ws : List (List UInt8)) (h : teB ws = true) (e : teR ws = []) : rfL n any all ws = (true, any || (all && teH n ws)) := by
  rw [rfL.eq_def, if_neg (by simp [h])]
  split
  · rfl
  · rename_i w r q; rw [e] at q; cases q
theorem rfL_go (n : Nat) (any all : Bool) (ws : List (List UInt8)) (w : List UInt8) (r : List (List UInt8)) (h : teB ws = true) (e : teR ws = w :: r) :
    rfL n any all ws = if w = wOr then rfL n (any || (all && teH n ws)) true r else if w = wAnd then rfL n any (all && teH n ws) r else (false, false) := by
  rw [rfL.eq_def, if_neg (by simp [h])]
  split
  · rename_i q; rw [e] at q; cases q
  · rename_i w' r' q
    rw [e] at q
    injection q with q1 q2
    subst q1; subst q2
    rfl
/-- With 'or' between them. -/
theorem or_app (n : Nat) (B : List (List UInt8)) (k : Nat) : ∀ (any all : Bool) (A : List (List UInt8)), A.length ≤ k →
    rfL n any all (A ++ wOr :: B) = if (rfL n any all A).1 then rfL n (rfL n any all A).2 true B else (false, false) := by
  induction k with
  | zero =>
    intro any all A hk
    obtain rfl : A = [] := List.length_eq_zero_iff.1 (by omega)
    have e : teB ([] : List (List UInt8)) = false := by decide
    rw [rfL_bad n any all _ (((te_app [] wOr B (.inl rfl)).1).trans e), rfL_bad n any all _ e]
    rfl
  | succ k ih =>
    intro any all A hk
    obtain ⟨h1, h2⟩ := te_app A wOr B (.inl rfl)
    cases hb : teB A with
    | false => rw [rfL_bad n any all _ (h1.trans hb), rfL_bad n any all _ hb]; rfl
    | true =>
      obtain ⟨h3, h4⟩ := h2 hb
      have hl := teR_len A
      cases hr : teR A with
      | nil =>
        rw [hr, List.nil_append] at h3
        rw [rfL_go n any all _ _ _ (h1.trans hb) h3, if_pos rfl, rfL_end n any all _ hb hr, h4]
        rfl
      | cons w r =>
        rw [hr] at hl h3
        simp only [List.length_cons] at hl
        rw [rfL_go n any all _ w (r ++ wOr :: B) (h1.trans hb) h3, rfL_go n any all _ w r hb hr, h4]
        have hd : teR A ≠ [] := by rw [hr]; simp
        have hlt : r.length ≤ k := by
          have : (teR A).length < A.length + 1 := by rw [hr]; simp; omega
          rw [hr] at this; simp at this
          rcases te_form A hb with ⟨o, l, r', rfl, _, _, e, _⟩ | ⟨_, o, l, r', rfl, _, _, _, _, e, _⟩
          all_goals
            rw [hr] at e
            subst e
            simp at hk
            omega
        by_cases c1 : w = wOr
        · rw [if_pos c1, if_pos c1]; exact ih _ _ r hlt
        · rw [if_neg c1, if_neg c1]
          by_cases c2 : w = wAnd
          · rw [if_pos c2, if_pos c2]; exact ih _ _ r hlt
          · rw [if_neg c2, if_neg c2]; rfl
/-- What stood before is joined on. -/
theorem any_out (n : Nat) (k : Nat) : ∀ (any all : Bool) (A : List (List UInt8)), A.length ≤ k →
    rfL n any all A = if (rfL n false all A).1 then (true, any || (rfL n false all A).2) else (false, false) := by
  induction k with
  | zero =>
    intro any all A hk
    obtain rfl : A = [] := List.length_eq_zero_iff.1 (by omega)
    have e : teB ([] : List (List UInt8)) = false := by decide
    rw [rfL_bad n any all _ e, rfL_bad n false all _ e]
    rfl
  | succ k ih =>
    intro any all A hk
    cases hb : teB A with
    | false => rw [rfL_bad n any all _ hb, rfL_bad n false all _ hb]; rfl
    | true =>
      cases hr : teR A with
      | nil => rw [rfL_end n any all _ hb hr, rfL_end n false all _ hb hr]; simp
      | cons w r =>
        rw [rfL_go n any all _ w r hb hr, rfL_go n false all _ w r hb hr]
        have hlt : r.length ≤ k := by
          rcases te_form A hb with ⟨o, l, r', rfl, _, _, e, _⟩ | ⟨_, o, l, r', rfl, _, _, _, _, e, _⟩
          all_goals
            rw [hr] at e
            subst e
            simp at hk
            omega
        by_cases c1 : w = wOr
        · rw [if_pos c1, if_pos c1, ih _ _ r hlt, ih (false || (all && teH n A)) true r hlt]
          cases (rfL n false true r).1 <;> simp [Bool.or_assoc]
        · rw [if_neg c1, if_neg c1]
          by_cases c2 : w = wAnd
          · rw [if_pos c2, if_pos c2]; exact ih _ _ r hlt
          · rw [if_neg c2, if_neg c2]; rfl
/-- No word 'or'. -/
def noOr (A : List (List UInt8)) : Prop := ∀ x ∈ A, x ≠ wOr
/-- With 'and' between them, the first one without 'or'. -/
theorem and_app (n : Nat) (B : List (List UInt8)) (k : Nat) : ∀ (all : Bool) (A : List (List UInt8)), A.length ≤ k → noOr A →
    rfL n false all (A ++ wAnd :: B) = if (rfL n false all A).1 then rfL n false (rfL n false all A).2 B else (false, false) := by
  induction k with
  | zero =>
    intro all A hk _
    obtain rfl : A = [] := List.length_eq_zero_iff.1 (by omega)
    have e : teB ([] : List (List UInt8)) = false := by decide
    rw [rfL_bad n false all _ (((te_app [] wAnd B (.inr rfl)).1).trans e), rfL_bad n false all _ e]
    rfl
  | succ k ih =>
    intro all A hk hno
    obtain ⟨h1, h2⟩ := te_app A wAnd B (.inr rfl)
    cases hb : teB A with
    | false => rw [rfL_bad n false all _ (h1.trans hb), rfL_bad n false all _ hb]; rfl
    | true =>
      obtain ⟨h3, h4⟩ := h2 hb
      cases hr : teR A with
      | nil =>
        rw [hr, List.nil_append] at h3
        rw [rfL_go n false all _ _ _ (h1.trans hb) h3, if_neg (Ne.symm or_and), if_pos rfl, rfL_end n false all _ hb hr, h4]
        simp
      | cons w r =>
        rw [hr] at h3
        rw [rfL_go n false all _ w (r ++ wAnd :: B) (h1.trans hb) h3, rfL_go n false all _ w r hb hr, h4]
        have hh : r.length ≤ k ∧ w ≠ wOr ∧ noOr r := by
          rcases te_form A hb with ⟨o, l, r', rfl, _, _, e, _⟩ | ⟨_, o, l, r', rfl, _, _, _, _, e, _⟩
          all_goals
            rw [hr] at e
            subst e
            refine ⟨by simp at hk; omega, hno w (by simp), fun x hx => hno x (by simp [hx])⟩
        rw [if_neg hh.2.1, if_neg hh.2.1]
        by_cases c2 : w = wAnd
        · rw [if_pos c2, if_pos c2]; exact ih _ r hh.1 hh.2.2
        · rw [if_neg c2, if_neg c2]; rfl
/-- Without 'or' all tests must hold. -/
theorem all_out (n : Nat) (k : Nat) : ∀ (all : Bool) (A : List (List UInt8)), A.length ≤ k → noOr A →
    rfL n false all A = if (rfL n false true A).1 then (true, all && (rfL n false true A).2) else (false, false) := by
  induction k with
  | zero =>
    intro all A hk _
    obtain rfl : A = [] := List.length_eq_zero_iff.1 (by omega)
    have e : teB ([] : List (List UInt8)) = false := by decide
    rw [rfL_bad n false all _ e, rfL_bad n false true _ e]
    rfl
  | succ k ih =>
    intro all A hk hno
    cases hb : teB A with
    | false => rw [rfL_bad n false all _ hb, rfL_bad n false true _ hb]; rfl
    | true =>
      cases hr : teR A with
      | nil => rw [rfL_end n false all _ hb hr, rfL_end n false true _ hb hr]; simp
      | cons w r =>
        rw [rfL_go n false all _ w r hb hr, rfL_go n false true _ w r hb hr]
        have hh : r.length ≤ k ∧ w ≠ wOr ∧ noOr r := by
          rcases te_form A hb with ⟨o, l, r', rfl, _, _, e, _⟩ | ⟨_, o, l, r', rfl, _, _, _, _, e, _⟩
          all_goals
            rw [hr] at e
            subst e
            refine ⟨by simp at hk; omega, hno w (by simp), fun x hx => hno x (by simp [hx])⟩
        rw [if_neg hh.2.1, if_neg hh.2.1]
        by_cases c2 : w = wAnd
        · rw [if_pos c2, if_pos c2, ih _ r hh.1 hh.2.2, ih (true && teH n A) r hh.1 hh.2.2]
          cases (rfL n false true r).1 <;> simp [Bool.and_assoc]
        · rw [if_neg c2, if_neg c2]; rfl
/-- A word of a rule that is 'or' stands within. -/
theorem or_inner (n : Nat) (k : Nat) : ∀ (any all : Bool) (A : List (List UInt8)), A.length ≤ k → (rfL n any all A).1 = true → ∀ x : List UInt8, kw x → x ∈ A → ∃ p q, A = p ++ x :: q ∧ p ≠ [] ∧ q ≠ [] := by
  induction k with
  | zero =>
    intro any all A hk h x hx hm
    obtain rfl : A = [] := List.length_eq_zero_iff.1 (by omega)
    cases hm
  | succ k ih =>
    intro any all A hk h x hx hm
    obtain ⟨k1, k2, k3, k4, k5, k6⟩ := kw_facts hx
    cases hb : teB A with
    | false => rw [rfL_bad n any all _ hb] at h; cases h
    | true =>
      -- the words of the first test, and the rest
      obtain ⟨T, hT, hne, hx2⟩ : ∃ T, A = T ++ teR A ∧ T ≠ [] ∧ x ∉ T := by
        rcases te_form A hb with ⟨o, l, r', rfl, ho, hl, e, _⟩ | ⟨c, o, l, r', rfl, hc, _, ho, hl, e, _⟩
        · refine ⟨[wN, o, l], by rw [e]; rfl, by simp, ?_⟩
          simp only [List.mem_cons, List.not_mem_nil, or_false, not_or]
          exact ⟨k1, fun q => (by rcases ho with e | e; exact k3 (q.trans e); exact k4 (q.trans e)), fun q => (by rw [q, hl] at k6; cases k6)⟩
        · refine ⟨[wN, wMod, c, o, l], by rw [e]; rfl, by simp, ?_⟩
          simp only [List.mem_cons, List.not_mem_nil, or_false, not_or]
          exact ⟨k1, k2, fun q => (by rw [q, hc] at k5; cases k5), fun q => (by rcases ho with e | e; exact k3 (q.trans e); exact k4 (q.trans e)), fun q => (by rw [q, hl] at k6; cases k6)⟩
      have hlen : (teR A).length < A.length := by
        have := congrArg List.length hT
        have h0 : 0 < T.length := List.length_pos_iff.2 hne
        simp at this; omega
      cases hr : teR A with
      | nil => rw [hr] at hT; rw [hT] at hm; simp at hm; exact absurd hm hx2
      | cons w r =>
        rw [hr] at hT hlen
        simp only [List.length_cons] at hlen
        rw [rfL_go n any all _ w r hb hr] at h
        have hrr : ∃ any' all', (rfL n any' all' r).1 = true := by
          by_cases c1 : w = wOr
          · rw [if_pos c1] at h; exact ⟨_, _, h⟩
          · rw [if_neg c1] at h
            by_cases c2 : w = wAnd
            · rw [if_pos c2] at h; exact ⟨_, _, h⟩
            · rw [if_neg c2] at h; cases h
        obtain ⟨any', all', hrr⟩ := hrr
        have hrne : r ≠ [] := by
          rintro rfl
          rw [rfL_bad n any' all' [] (by decide)] at hrr; cases hrr
        rw [hT] at hm
        simp only [List.mem_append, List.mem_cons] at hm
        rcases hm with hm | hm | hm
        · exact absurd hm hx2
        · exact ⟨T, r, by rw [hT, hm], hne, hrne⟩
        · obtain ⟨p, q, e, _, hq⟩ := ih any' all' r (by omega) hrr x hx hm
          exact ⟨T ++ w :: p, q, by rw [hT, e]; simp, by simp, hq⟩
end Go.Proofs.YtbagbnceiadpdaaDoor
