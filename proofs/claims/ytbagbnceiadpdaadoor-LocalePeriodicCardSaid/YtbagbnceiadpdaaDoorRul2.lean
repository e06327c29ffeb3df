/- Rules for numbers, plainly: the reference's way of reading them is the program's. -/
import Derived.Test.YtbagbnceiadpdaaDoorRul
namespace Go.Proofs.YtbagbnceiadpdaaDoor
set_option linter.unusedVariables false
set_option linter.unusedSimpArgs false

theorem grL_nil (n : Nat) (h b : Bool) : grL n h [] b = (h, [], b) := by rw [grL.eq_def]
theorem grL_and (n : Nat) (h b : Bool) (r : List (List UInt8)) : grL n h (wAnd :: r) b = grL n (teH n r && h) (teR r) (b && teB r) := by rw [grL.eq_def]; simp
theorem grL_no (n : Nat) (h b : Bool) (w : List UInt8) (r : List (List UInt8)) (hw : w ≠ wAnd) : grL n h (w :: r) b = (h, w :: r, b) := by rw [grL.eq_def]; simp [hw]
theorem ruL_nil (n : Nat) (h b : Bool) : ruL n h [] b = (h, [], b) := by rw [ruL.eq_def]
theorem ruL_or (n : Nat) (h b : Bool) (r : List (List UInt8)) : ruL n h (wOr :: r) b = ruL n ((grp n r b).1 || h) (grp n r b).2.1 (grp n r b).2.2 := by rw [ruL.eq_def]; simp
theorem ruL_no (n : Nat) (h b : Bool) (w : List UInt8) (r : List (List UInt8)) (hw : w ≠ wOr) : ruL n h (w :: r) b = (h, w :: r, b) := by rw [ruL.eq_def]; simp [hw]
theorem or_and : wOr ≠ wAnd := by decide
/-- What is not a rule stays none. -/
theorem grL_false (n : Nat) (k : Nat) : ∀ (h : Bool) (ws : List (List UInt8)), ws.length ≤ k → (grL n h ws false).2.2 = false := by
  induction k with
  | zero =>
    intro h ws hk
    obtain rfl : ws = [] := List.length_eq_zero_iff.1 (by omega)
    rw [grL_nil]
  | succ k ih =>
    intro h ws hk
    cases ws with
    | nil => rw [grL_nil]
    | cons w r =>
      by_cases hw : w = wAnd
      · rw [hw, grL_and, Bool.false_and]
        have := teR_len r
        exact ih _ _ (by simp at hk; omega)
      · rw [grL_no _ _ _ _ _ hw]
theorem grp_false (n : Nat) (ws : List (List UInt8)) : (grp n ws false).2.2 = false := by
  unfold grp
  rw [Bool.false_and]
  exact grL_false n _ _ _ (Nat.le_refl _)
theorem ruL_false (n : Nat) (k : Nat) : ∀ (h : Bool) (ws : List (List UInt8)), ws.length ≤ k → (ruL n h ws false).2.2 = false := by
  induction k with
  | zero =>
    intro h ws hk
    obtain rfl : ws = [] := List.length_eq_zero_iff.1 (by omega)
    rw [ruL_nil]
  | succ k ih =>
    intro h ws hk
    cases ws with
    | nil => rw [ruL_nil]
    | cons w r =>
      by_cases hw : w = wOr
      · rw [hw, ruL_or, grp_false]
        have := grp_len n r false
        exact ih _ _ (by simp at hk; omega)
      · rw [ruL_no _ _ _ _ _ hw]
/-- As the reference reads a rule. -/
def rfL (n : Nat) (any all : Bool) (ws : List (List UInt8)) : Bool × Bool :=
  if teB ws = false then (false, false) else
  match _e : teR ws with
  | [] => (true, any || (all && teH n ws))
  | w :: r => if w = wOr then rfL n (any || (all && teH n ws)) true r else if w = wAnd then rfL n any (all && teH n ws) r else (false, false)
termination_by ws.length
decreasing_by
  all_goals
    have h1 := congrArg List.length _e
    have h2 := teR_len ws
    simp at h1; omega
def fin2 (q : Bool × List (List UInt8) × Bool) : Bool × Bool := if q.2.2 && q.2.1.isEmpty then (true, q.1) else (false, false)
theorem fin2_false (h : Bool) (ws : List (List UInt8)) (n : Nat) : fin2 (ruL n h ws false) = (false, false) := by
  unfold fin2
  rw [ruL_false n _ _ _ (Nat.le_refl _)]
  rfl
theorem rfL_eq (n : Nat) (k : Nat) : ∀ (any all : Bool) (ws : List (List UInt8)), ws.length ≤ k →
    rfL n any all ws = fin2 (ruL n ((grL n (teH n ws && all) (teR ws) (teB ws)).1 || any) (grL n (teH n ws && all) (teR ws) (teB ws)).2.1 (grL n (teH n ws && all) (teR ws) (teB ws)).2.2) := by
  induction k with
  | zero =>
    intro any all ws hk
    obtain rfl : ws = [] := List.length_eq_zero_iff.1 (by omega)
    have e : teB [] = false := by decide
    rw [rfL.eq_def, if_pos e, e, grL_false n _ _ _ (Nat.le_refl _), fin2_false]
  | succ k ih =>
    intro any all ws hk
    rw [rfL.eq_def]
    cases hb : teB ws with
    | false =>
      rw [if_pos rfl, grL_false n _ _ _ (Nat.le_refl _), fin2_false]
    | true =>
      rw [if_neg (by simp)]
      have hl := teR_len ws
      split
      · rename_i e
        rw [e, grL_nil, ruL_nil]
        simp [fin2, Bool.and_comm, Bool.or_comm]
      · rename_i w r e
        rw [e] at hl
        simp only [List.length_cons] at hl
        rw [e]
        by_cases h1 : w = wOr
        · rw [if_pos h1, h1, grL_no _ _ _ _ _ or_and, ruL_or, ih _ _ r (by omega)]
          unfold grp
          simp only [Bool.and_true, Bool.true_and]
          rw [Bool.and_comm (teH n ws) all, Bool.or_comm (all && teH n ws) any]
        · rw [if_neg h1]
          by_cases h2 : w = wAnd
          · rw [if_pos h2, h2, grL_and, ih _ _ r (by omega), Bool.true_and, Bool.and_comm all (teH n ws)]
          · rw [if_neg h2, grL_no _ _ _ _ _ h2, ruL_no _ _ _ _ _ h1]
            simp [fin2]
/-- The reference's rule is the program's. -/
theorem rfL_rul (n : Nat) (ws : List (List UInt8)) : rfL n false true ws = if (rul n ws).2 then (true, (rul n ws).1) else (false, false) := by
  rw [rfL_eq n _ _ _ ws (Nat.le_refl _)]
  unfold rul grp fin2
  simp only [Bool.and_true, Bool.or_false, Bool.true_and]
/-- Whether it is a rule does not depend on the number. -/
theorem grL_ind (n m : Nat) (k : Nat) : ∀ (h h' b : Bool) (ws : List (List UInt8)), ws.length ≤ k → (grL n h ws b).2 = (grL m h' ws b).2 := by
  induction k with
  | zero =>
    intro h h' b ws hk
    obtain rfl : ws = [] := List.length_eq_zero_iff.1 (by omega)
    rw [grL_nil, grL_nil]
  | succ k ih =>
    intro h h' b ws hk
    cases ws with
    | nil => rw [grL_nil, grL_nil]
    | cons w r =>
      by_cases hw : w = wAnd
      · rw [hw, grL_and, grL_and]
        have := teR_len r
        exact ih _ _ _ _ (by simp at hk; omega)
      · rw [grL_no _ _ _ _ _ hw, grL_no _ _ _ _ _ hw]
theorem grp_ind (n m : Nat) (b : Bool) (ws : List (List UInt8)) : (grp n ws b).2 = (grp m ws b).2 := grL_ind n m _ _ _ _ _ (Nat.le_refl _)
theorem ruL_ind (n m : Nat) (k : Nat) : ∀ (h h' b : Bool) (ws : List (List UInt8)), ws.length ≤ k → (ruL n h ws b).2 = (ruL m h' ws b).2 := by
  induction k with
  | zero =>
    intro h h' b ws hk
    obtain rfl : ws = [] := List.length_eq_zero_iff.1 (by omega)
    rw [ruL_nil, ruL_nil]
  | succ k ih =>
    intro h h' b ws hk
    cases ws with
    | nil => rw [ruL_nil, ruL_nil]
    | cons w r =>
      by_cases hw : w = wOr
      · rw [hw, ruL_or, ruL_or, grp_ind n m]
        have := grp_len m r b
        exact ih _ _ _ _ (by simp at hk; omega)
      · rw [ruL_no _ _ _ _ _ hw, ruL_no _ _ _ _ _ hw]
theorem rul_ind (n m : Nat) (ws : List (List UInt8)) : (rul n ws).2 = (rul m ws).2 := by
  unfold rul
  simp only
  rw [grp_ind n m, ruL_ind n m _ _ (grp m ws true).1 _ _ (Nat.le_refl _)]
end Go.Proofs.YtbagbnceiadpdaaDoor
