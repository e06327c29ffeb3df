/- Rules for numbers, plainly: the first ' is ' made ' not '. No program in sight. -/
import Derived.Test.YtbagbnceiadpdaaDoorLog3
import Derived.Lib.CountLaws
namespace Go.Proofs.YtbagbnceiadpdaaDoor
set_option linter.unusedVariables false
set_option linter.unusedSimpArgs false

theorem repl_no (s old new : List UInt8) (h : Lib.contains s old = false) : Lib.replace s old new 1 = s := by
  have hi : Lib.index s old = -1 := by
    unfold Lib.contains at h
    have := Lib.index_ge s old
    simp at h; omega
  have h : ∀ k, Lib.replaceK old new k s = s := by
    intro k
    cases k with
    | zero => rfl
    | succ k => rw [Lib.replaceK, hi]; rfl
  unfold Lib.replace
  split
  · rfl
  · exact h _
theorem repl_one (s old new : List UInt8) (hne : old ≠ new) (h : Lib.contains s old = true) : ∃ u v, s = u ++ old ++ v ∧ Lib.replace s old new 1 = u ++ new ++ v := by
  rcases Lib.index_spec s old with ⟨h1, _⟩ | ⟨i, h1, h2, h3, _⟩
  · unfold Lib.contains at h; rw [h1] at h; simp at h
  · unfold Lib.occAt at h3
    obtain ⟨v, hv⟩ := List.isPrefixOf_iff_prefix.1 h3
    refine ⟨s.take i, v, by rw [List.append_assoc, hv, List.take_append_drop], ?_⟩
    have hm : ¬ (Lib.index s old == -1) = true := fun e => by have := beq_iff_eq.1 e; omega
    have hc : 1 ≤ Lib.count s old := by
      unfold Lib.count Lib.countFrom
      rw [if_neg hm]; omega
    have hn : Lib.replaceNum s old 1 = 1 := by
      unfold Lib.replaceNum
      rw [if_neg (by omega)]; rfl
    unfold Lib.replace
    rw [if_neg (by simpa using hne), hn, Lib.replaceK_hit old new 0 s i h1]
    have e : s.drop (i + old.length) = v := by
      rw [← List.drop_drop, ← hv, List.drop_left]
    rw [e]
    rfl
def turn (s : List UInt8) : List UInt8 := if Lib.contains s sIs then Lib.replace s sIs sNot 1 else Lib.replace s sNot sIs 1
theorem spl_word (u v x : List UInt8) (hx : spl 32 x = [x]) : spl 32 (u ++ (32 :: x ++ [32]) ++ v) = spl 32 u ++ x :: spl 32 v := by
  rw [show u ++ (32 :: x ++ [32]) ++ v = u ++ 32 :: (x ++ 32 :: v) by simp, spl_app, spl_app, hx]
  rfl
theorem spl_is : spl 32 wIs = [wIs] := by decide
theorem spl_not : spl 32 wNot = [wNot] := by decide
theorem turn_law (n : Nat) (s : List UInt8) (h : okW (spl 32 s) = true) (ho : Lib.contains s sOr = false) (ha : Lib.contains s sAnd = false) :
    okW (spl 32 (turn s)) = true ∧ vlW n (spl 32 (turn s)) = !vlW n (spl 32 s) ∧ (turn s).length ≤ s.length + 1 := by
  obtain ⟨t1, t2, t3⟩ := one_test n _ h (no_kw s wOr (.inl rfl) h ho) (no_kw s wAnd (.inr rfl) h ha)
  unfold turn
  cases hc : Lib.contains s sIs with
  | true =>
    obtain ⟨u, v, e1, e2⟩ := repl_one s sIs sNot (by decide) hc
    have f1 : spl 32 s = spl 32 u ++ wIs :: spl 32 v := by rw [e1]; exact spl_word u v wIs spl_is
    have f2 : spl 32 (u ++ sNot ++ v) = spl 32 u ++ wNot :: spl 32 v := spl_word u v wNot spl_not
    rw [if_pos rfl, e2, f2, t3, f1]
    rw [f1] at t1 t2
    obtain ⟨a, b⟩ := te_turn n _ _ wIs wNot (.inl ⟨rfl, rfl⟩) (spl_ne 32 u) (spl_ne 32 v) t1 t2
    exact ⟨a, b, by rw [e1]; simp [sIs, sNot]; omega⟩
  | false =>
    have hn : Lib.contains s sNot = true := by
      rcases te_form _ t1 with ⟨o, l, r, e, hw, hl, e2, _⟩ | ⟨k, o, l, r, e, hk, hk0, hw, hl, e2, _⟩
      · rcases hw with rfl | rfl
        · have := inner_word 32 s wIs [wN] (l :: r) e (by simp) (by simp)
          rw [show 32 :: wIs ++ [32] = sIs from rfl, hc] at this; cases this
        · exact inner_word 32 s wNot [wN] (l :: r) e (by simp) (by simp)
      · rcases hw with rfl | rfl
        · have := inner_word 32 s wIs [wN, wMod, k] (l :: r) e (by simp) (by simp)
          rw [show 32 :: wIs ++ [32] = sIs from rfl, hc] at this; cases this
        · exact inner_word 32 s wNot [wN, wMod, k] (l :: r) e (by simp) (by simp)
    obtain ⟨u, v, e1, e2⟩ := repl_one s sNot sIs (by decide) hn
    have f1 : spl 32 s = spl 32 u ++ wNot :: spl 32 v := by rw [e1]; exact spl_word u v wNot spl_not
    have f2 : spl 32 (u ++ sIs ++ v) = spl 32 u ++ wIs :: spl 32 v := spl_word u v wIs spl_is
    rw [if_neg (by simp), e2, f2, t3, f1]
    rw [f1] at t1 t2
    obtain ⟨a, b⟩ := te_turn n _ _ wNot wIs (.inr ⟨rfl, rfl⟩) (spl_ne 32 u) (spl_ne 32 v) t1 t2
    exact ⟨a, b, by rw [e1]; simp [sIs, sNot]; omega⟩
theorem turn_eq (s : List UInt8) : (Lib.contains s sIs = true → Lib.replace s sIs sNot 1 ≠ s) ∧ (Lib.contains s sIs = false → Lib.replace s sIs sNot 1 = s) := by
  refine ⟨fun h => ?_, repl_no s _ _⟩
  obtain ⟨u, v, e1, e2⟩ := repl_one s sIs sNot (by decide) h
  rw [e2]
  intro e
  have := congrArg List.length (e.trans e1)
  simp [sIs, sNot] at this
end Go.Proofs.YtbagbnceiadpdaaDoor
