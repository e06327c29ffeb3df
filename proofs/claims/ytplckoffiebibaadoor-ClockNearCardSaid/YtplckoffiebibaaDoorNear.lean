/- Rounding: the plain facts of the law ClockNear. -/
import Derived.Test.YtplckoffiebibaaDoorClk3
namespace Go.Proofs.YtplckoffiebibaaDoor

theorem rnd_ndm (n u : Int) : n - n % u = u * (n / u) := by have := Int.mul_ediv_add_emod n u; omega
theorem rnd_mod (n u k : Int) : rnd n u k % u = 0 := by
  unfold rnd
  rw [rnd_ndm]
  split
  · rw [Int.add_emod_right, Int.mul_emod_right]
  · exact Int.mul_emod_right _ _
theorem rnd_bd (n u k : Int) (hu : 1 ≤ u) : rnd n u k - n < u ∧ n - rnd n u k < u := by
  have h1 := Int.emod_nonneg n (show u ≠ 0 by omega)
  have h2 := Int.emod_lt_of_pos n (show 0 < u by omega)
  unfold rnd
  split <;> omega
theorem rnd_le (n m u k : Int) (hu : 1 ≤ u) (h : n ≤ m) : rnd n u k ≤ rnd m u k := by
  have h1 := Int.emod_nonneg n (show u ≠ 0 by omega)
  have h2 := Int.emod_lt_of_pos n (show 0 < u by omega)
  have h3 := Int.emod_nonneg m (show u ≠ 0 by omega)
  have h4 := Int.emod_lt_of_pos m (show 0 < u by omega)
  have hd : n / u ≤ m / u := Int.ediv_le_ediv (by omega) h
  have e1 := rnd_ndm n u
  have e2 := rnd_ndm m u
  by_cases c : n / u = m / u
  · rw [← c] at e2
    unfold rnd
    split <;> split <;> omega
  · have q : u * (n / u + 1) ≤ u * (m / u) := Int.mul_le_mul_of_nonneg_left (by omega) (by omega)
    rw [Int.mul_add, Int.mul_one] at q
    unfold rnd
    split <;> split <;> omega
theorem rnd_self (n u k : Int) (h : n % u = 0) : rnd n u k = n := by
  unfold rnd
  rw [h, if_neg (by omega)]
  omega
theorem neg_emod (n u : Int) (hu : 1 ≤ u) : (-n) % u = if n % u = 0 then 0 else u - n % u := by
  have h1 := Int.emod_nonneg n (show u ≠ 0 by omega)
  have h2 := Int.emod_lt_of_pos n (show 0 < u by omega)
  have e := Int.mul_ediv_add_emod n u
  split
  · rename_i c
    rw [show -n = u * (-(n / u)) by rw [Int.mul_neg]; omega]
    exact Int.mul_emod_right _ _
  · have : -n = (u - n % u) + u * (-(n / u) - 1) := by rw [Int.mul_sub, Int.mul_neg]; omega
    rw [this, Int.add_mul_emod_self_left]
    exact Int.emod_eq_of_lt (by omega) (by omega)
theorem rnd_neg (n u : Int) (hu : 1 ≤ u) : rnd (-n) u 2 = -(rnd n u 1) := by
  have h1 := Int.emod_nonneg n (show u ≠ 0 by omega)
  have h2 := Int.emod_lt_of_pos n (show 0 < u by omega)
  unfold rnd
  rw [neg_emod n u hu]
  by_cases c : n % u = 0
  · simp [c]
  · rw [if_neg c, if_pos (by omega), if_neg (by omega)]
    omega
theorem lineB_neg (n : Int) : lineB (-n) = lineB n := by unfold lineB; congr 1; apply propext; omega
theorem arg_iff {u k : Int} : argB u k = true ↔ 1 ≤ u ∧ u ≤ 4398046511104 ∧ 1 ≤ k ∧ k ≤ 3 := by unfold argB; simp
theorem line_iff {n : Int} : lineB n = true ↔ -4398046511104 ≤ n ∧ n ≤ 4398046511104 := by unfold lineB; simp
theorem rndE_zero {n u k : Int} : rndE n u k = 0 ↔ argB u k = true ∧ lineB n = true ∧ lineB (rnd n u k) = true := by
  unfold rndE
  rcases Bool.eq_false_or_eq_true (argB u k) with a | a <;> rcases Bool.eq_false_or_eq_true (lineB n) with b | b <;> rcases Bool.eq_false_or_eq_true (lineB (rnd n u k)) with c | c <;> simp [a, b, c]
theorem rndE_two {n u k : Int} (ha : argB u k = true) (h : rndE n u k ≠ 0) : rndE n u k = 2 := by
  unfold rndE at h ⊢
  rw [ha] at h ⊢
  split at h
  · rename_i q; cases q
  · split at h
    · rename_i q; simp [q]
    · exact absurd rfl h
theorem rndE_cases (n u k : Int) : rndE n u k = 0 ∨ rndE n u k = 1 ∨ rndE n u k = 2 := by
  unfold rndE
  split
  · simp
  · split <;> simp
structure NearF (n m u k A B : Int) : Prop where
  u1 : 1 ≤ u
  u2 : u ≤ 4398046511104
  n1 : -4398046511104 ≤ n
  n2 : n ≤ 4398046511104
  a1 : -4398046511104 ≤ A
  a2 : A ≤ 4398046511104
  b1 : -4398046511104 ≤ B
  b2 : B ≤ 4398046511104
  le : n ≤ m → A ≤ B
  md : A.tmod u = 0
  d1 : A - n < u
  d2 : n - A < u
  va : rndV A u k = A
  ea : rndE A u k = 0
  k1 : 1 ≤ k
  k2 : k ≤ 3
theorem nearF {n m u k : Int} (h1 : rndE n u k = 0) (h2 : rndE m u k = 0) : NearF n m u k (rndV n u k) (rndV m u k) := by
  obtain ⟨ha, hn, hr⟩ := rndE_zero.1 h1
  obtain ⟨_, hm, hs⟩ := rndE_zero.1 h2
  obtain ⟨u1, u2, k1, k2⟩ := arg_iff.1 ha
  have v1 : rndV n u k = rnd n u k := by unfold rndV; rw [if_pos h1]
  have v2 : rndV m u k = rnd m u k := by unfold rndV; rw [if_pos h2]
  have e : rndE (rnd n u k) u k = 0 := rndE_zero.2 ⟨ha, hr, by rw [rnd_self _ _ _ (rnd_mod n u k)]; exact hr⟩
  rw [v1, v2]
  obtain ⟨d1, d2⟩ := rnd_bd n u k u1
  exact ⟨u1, u2, (line_iff.1 hn).1, (line_iff.1 hn).2, (line_iff.1 hr).1, (line_iff.1 hr).2, (line_iff.1 hs).1, (line_iff.1 hs).2, rnd_le n m u k u1,
    Int.tmod_eq_zero_of_dvd (Int.dvd_of_emod_eq_zero (rnd_mod n u k)), d1, d2, by unfold rndV; rw [if_pos e, rnd_self _ _ _ (rnd_mod n u k)], e, k1, k2⟩
theorem near_ud {n u : Int} (u1 : 1 ≤ u) (u2 : u ≤ 4398046511104) : rndE (-n) u 2 = rndE n u 1 ∧ rndV (-n) u 2 = -(rndV n u 1) := by
  have e : rndE (-n) u 2 = rndE n u 1 := by
    unfold rndE
    rw [rnd_neg n u u1, lineB_neg, lineB_neg, arg_iff.2 ⟨u1, u2, by omega, by omega⟩, arg_iff.2 ⟨u1, u2, by omega, by omega⟩]
  refine ⟨e, ?_⟩
  unfold rndV
  rw [e, rnd_neg n u u1]
  split <;> simp
/-- The nearest multiple, beside that below. -/
theorem near_dn {n u : Int} (u1 : 1 ≤ u) (h1 : rndE n u 1 = 0) (h3 : rndE n u 3 = 0) :
    -4398046511104 ≤ rndV n u 1 ∧ rndV n u 1 ≤ n ∧ n - rndV n u 1 < u ∧ rndV n u 3 - n ≤ n - rndV n u 1 ∧ -4398046511104 ≤ rndV n u 3 ∧ rndV n u 3 ≤ 4398046511104 ∧ ((2 * (n - rndV n u 1) < u ∧ rndV n u 3 = rndV n u 1) ∨ (u ≤ 2 * (n - rndV n u 1) ∧ rndV n u 3 = rndV n u 1 + u)) := by
  have b1 := line_iff.1 (rndE_zero.1 h1).2.2
  have b3 := line_iff.1 (rndE_zero.1 h3).2.2
  have q1 := Int.emod_nonneg n (show u ≠ 0 by omega)
  have q2 := Int.emod_lt_of_pos n (show 0 < u by omega)
  have v1 : rndV n u 1 = n - n % u := by unfold rndV; rw [if_pos h1]; unfold rnd; rw [if_neg (by omega)]
  have v3 : rndV n u 3 = rnd n u 3 := by unfold rndV; rw [if_pos h3]
  have w1 : rnd n u 1 = n - n % u := by unfold rnd; rw [if_neg (by omega)]
  rw [v1, v3]
  rw [w1] at b1
  unfold rnd at b3 ⊢
  split <;> rename_i c
  · rw [if_pos c] at b3; omega
  · rw [if_neg c] at b3; omega
end Go.Proofs.YtplckoffiebibaaDoor
