/- Decimal digits, plainly. -/
import Derived.Test.YtplckoffiebibaaDoorBase
import Derived.Lib.ItoaNum
namespace Go.Proofs.YtplckoffiebibaaDoor

def dg1 (n : Nat) : UInt8 := UInt8.ofNat (48 + n % 10)
/-- The last k decimal digits of n. -/
def padN : Nat → Nat → List UInt8
  | 0, _ => []
  | k + 1, n => padN k (n / 10) ++ [dg1 n]
theorem padN_length (k n : Nat) : (padN k n).length = k := by
  induction k generalizing n with
  | zero => rfl
  | succ k ih => simp [padN, ih]
theorem dg1_toNat (n : Nat) : (dg1 n).toNat = 48 + n % 10 := by
  unfold dg1
  have : n % 10 < 10 := Nat.mod_lt _ (by decide)
  rw [UInt8.toNat_ofNat']; omega
/-- One digit more, in front. -/
theorem padN_cons (k n : Nat) : padN (k + 1) n = dg1 (n / 10 ^ k) :: padN k n := by
  induction k generalizing n with
  | zero => simp [padN]
  | succ k ih =>
    rw [padN, ih (n / 10)]
    show dg1 (n / 10 / 10 ^ k) :: (padN k (n / 10) ++ [dg1 n]) = _
    rw [Nat.div_div_eq_div_mul, Nat.pow_succ, Nat.mul_comm 10]
    rfl
theorem padN_decDigits (n : Nat) : padN (Lib.nDigits n) n = Lib.decDigits n := by
  induction n using Nat.strongRecOn with
  | _ n ih =>
    by_cases h : n < 10
    · rw [Lib.nDigits_small h, Lib.decDigits, dif_pos h]
      simp [padN, dg1, Nat.mod_eq_of_lt h]
    · rw [Lib.nDigits_big h, Lib.decDigits, dif_neg h, padN, ih (n / 10) (by omega)]
      rfl
/-- A decimal text with at least k digits. -/
def itx (n k : Nat) : List UInt8 := padN (max (Lib.nDigits n) k) n
theorem nDigits_le {n k : Nat} (hk : 1 ≤ k) (h : n < 10 ^ k) : Lib.nDigits n ≤ k := by
  induction k generalizing n with
  | zero => omega
  | succ k ih =>
    by_cases h10 : n < 10
    · rw [Lib.nDigits_small h10]; omega
    · rw [Lib.nDigits_big h10]
      rw [Nat.pow_succ] at h
      rcases Nat.eq_zero_or_pos k with rfl | hk0
      · simp at h; omega
      · have := ih (n := n / 10) hk0 (by omega)
        omega
theorem itx_small {n k : Nat} (hk : 1 ≤ k) (h : n < 10 ^ k) : itx n k = padN k n := by
  unfold itx
  rw [Nat.max_eq_right (nDigits_le hk h)]
theorem itx_one (n : Nat) : itx n 1 = Lib.decDigits n := by
  unfold itx
  rw [Nat.max_eq_left (Lib.nDigits_pos n), padN_decDigits]
theorem pow_nDigits (n : Nat) (j : Nat) (hj : j < Lib.nDigits n) (hn : 0 < n) : 0 < n / 10 ^ j := by
  have : 10 ^ j ≤ n := by
    induction j generalizing n with
    | zero => simp; omega
    | succ j ih =>
      by_cases h : n < 10
      · rw [Lib.nDigits_small h] at hj; omega
      · rw [Lib.nDigits_big h] at hj
        have := ih (n / 10) (by omega) (by omega)
        rw [Nat.pow_succ]; omega
  exact Nat.div_pos this (Nat.pow_pos (by decide))
theorem div_nDigits (n : Nat) : n / 10 ^ Lib.nDigits n = 0 := Nat.div_eq_of_lt (Lib.lt_pow_nDigits n)
theorem nDigits_20 (n : Nat) (h : n < 18446744073709551616) : Lib.nDigits n ≤ 20 := nDigits_le (by decide) (by omega)
theorem div_zero_of {n j : Nat} (hn : 0 < n) (h : n / 10 ^ j = 0) : Lib.nDigits n ≤ j := by
  rcases Nat.lt_or_ge j (Lib.nDigits n) with q | q
  · have := pow_nDigits n j q hn; omega
  · exact q

/-- The cells of the array of 24 bytes when the last j digits lie in it. -/
def txC (n j : Nat) : Array Value := (List.replicate (24 - j) (Value.int .u8 0) ++ (padN j n).map fun c => Value.int .u8 c.toNat).toArray
theorem txC_size (n j : Nat) (h : j ≤ 24) : (txC n j).size = 24 := by simp [txC, padN_length]; omega
theorem txC_zero (n : Nat) : txC n 0 = #[.int .u8 0, .int .u8 0, .int .u8 0, .int .u8 0, .int .u8 0, .int .u8 0, .int .u8 0, .int .u8 0, .int .u8 0, .int .u8 0, .int .u8 0, .int .u8 0, .int .u8 0, .int .u8 0, .int .u8 0, .int .u8 0, .int .u8 0, .int .u8 0, .int .u8 0, .int .u8 0, .int .u8 0, .int .u8 0, .int .u8 0, .int .u8 0] := rfl
theorem txC_step (n j : Nat) (h : j < 24) : (txC n j).setIfInBounds (23 - j) (.int .u8 ((48 + n / 10 ^ j % 10 : Nat) : Int)) = txC n (j + 1) := by
  unfold txC
  rw [padN_cons, List.setIfInBounds_toArray]
  congr 1
  rw [show 24 - j = (24 - (j + 1)) + 1 from by omega, List.replicate_succ', List.append_assoc, List.set_append_right _ _ (by simp <;> omega)]
  have e : 23 - j - (List.replicate (24 - (j + 1)) (Value.int .u8 0)).length = 0 := by simp <;> omega
  rw [e]
  simp [dg1_toNat]
theorem txC_step' (n j q : Nat) (h : j < 24) (hq : q = n / 10 ^ j) : (txC n j).setIfInBounds (24 - j - 1) (.int .u8 (48 + (q : Int) % 10)) = txC n (j + 1) := by
  rw [← txC_step n j h, hq, show 24 - j - 1 = 23 - j from by omega]
  congr 2
theorem div_pow_succ (n j q : Nat) (hq : q = n / 10 ^ j) : q / 10 = n / 10 ^ (j + 1) := by
  rw [hq, Nat.div_div_eq_div_mul, Nat.pow_succ]
theorem txC_get (n j i : Nat) (hj : j ≤ 24) (hi : i < 24) : ∃ x : Int, (txC n j)[i]? = some (.int .u8 x) := by
  have hs := txC_size n j hj
  rw [Array.getElem?_eq_getElem (by omega)]
  unfold txC
  simp only [List.getElem_toArray]
  rw [List.getElem_append]
  split
  · exact ⟨0, by simp⟩
  · exact ⟨_, by simp; rfl⟩
theorem txC_at (n j i : Nat) (_ : j ≤ 24) (c : UInt8) (h : (padN j n)[i]? = some c) : (txC n j)[24 - j + i]? = some (.int .u8 c.toNat) := by
  unfold txC
  simp only [List.getElem?_toArray]
  rw [List.getElem?_append_right (by simp)]
  simp [h]
end Go.Proofs.YtplckoffiebibaaDoor
