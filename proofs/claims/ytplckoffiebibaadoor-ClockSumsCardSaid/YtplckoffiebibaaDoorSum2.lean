/- The walk of the law ClockSums. -/
import Derived.Test.YtplckoffiebibaaDoorSum1
import Derived.Test.YtplckoffiebibaaDoorRead3
namespace Go.Proofs.YtplckoffiebibaaDoor
set_option linter.unusedVariables false
set_option linter.unusedSimpArgs false
open Go.RowKit

set_option maxHeartbeats 1000000 in
theorem sums_d (d h m s : Int) (w : World) (hL : Laid w) (h1 : fewB d = false) :
    Calls Tryd.prog 8 #[.int .i64 d, .int .i64 h, .int .i64 m, .int .i64 s] w fun e w' => e = .returned (.bool true) ∧ Ext w w' := by
  have HL := Lib.hid hL
  clear hL
  go_enter Tryd.func8, Tryd.ntmps8
  go_wp2_with (first
    | (go_at_call 13; refine (awake_c _ HL.out).mono ?_; rintro e w1 ⟨rfl, hE⟩)
    | (go_at_call 36; refine (few_c _ _).mono ?_; (first | rw [h1] | rw [h2] | rw [h3] | rw [h4]); rintro e w2 ⟨rfl, rfl⟩))
  go_ret
  exact ⟨rfl, hE⟩
set_option maxHeartbeats 1000000 in
theorem sums_h (d h m s : Int) (w : World) (hL : Laid w) (h1 : fewB d = true) (h2 : fewB h = false) :
    Calls Tryd.prog 8 #[.int .i64 d, .int .i64 h, .int .i64 m, .int .i64 s] w fun e w' => e = .returned (.bool true) ∧ Ext w w' := by
  have HL := Lib.hid hL
  clear hL
  go_enter Tryd.func8, Tryd.ntmps8
  go_wp2_with (first
    | (go_at_call 13; refine (awake_c _ HL.out).mono ?_; rintro e w1 ⟨rfl, hE⟩)
    | (go_at_call 36; refine (few_c _ _).mono ?_; (first | rw [h1] | rw [h2] | rw [h3] | rw [h4]); rintro e w2 ⟨rfl, rfl⟩))
  go_ret
  exact ⟨rfl, hE⟩
set_option maxHeartbeats 1000000 in
theorem sums_m (d h m s : Int) (w : World) (hL : Laid w) (h1 : fewB d = true) (h2 : fewB h = true) (h3 : fewB m = false) :
    Calls Tryd.prog 8 #[.int .i64 d, .int .i64 h, .int .i64 m, .int .i64 s] w fun e w' => e = .returned (.bool true) ∧ Ext w w' := by
  have HL := Lib.hid hL
  clear hL
  go_enter Tryd.func8, Tryd.ntmps8
  go_wp2_with (first
    | (go_at_call 13; refine (awake_c _ HL.out).mono ?_; rintro e w1 ⟨rfl, hE⟩)
    | (go_at_call 36; refine (few_c _ _).mono ?_; (first | rw [h1] | rw [h2] | rw [h3] | rw [h4]); rintro e w2 ⟨rfl, rfl⟩))
  go_ret
  exact ⟨rfl, hE⟩
set_option maxHeartbeats 1000000 in
theorem sums_s (d h m s : Int) (w : World) (hL : Laid w) (h1 : fewB d = true) (h2 : fewB h = true) (h3 : fewB m = true) (h4 : fewB s = false) :
    Calls Tryd.prog 8 #[.int .i64 d, .int .i64 h, .int .i64 m, .int .i64 s] w fun e w' => e = .returned (.bool true) ∧ Ext w w' := by
  have HL := Lib.hid hL
  clear hL
  go_enter Tryd.func8, Tryd.ntmps8
  go_wp2_with (first
    | (go_at_call 13; refine (awake_c _ HL.out).mono ?_; rintro e w1 ⟨rfl, hE⟩)
    | (go_at_call 36; refine (few_c _ _).mono ?_; (first | rw [h1] | rw [h2] | rw [h3] | rw [h4]); rintro e w2 ⟨rfl, rfl⟩))
  go_ret
  exact ⟨rfl, hE⟩
set_option maxRecDepth 100000 in
set_option maxHeartbeats 2000000 in
theorem sums_in (D H M S : Nat) (w : World) (hL : Laid w) (hD : D ≤ 1000000) (hH : H ≤ 1000000) (hM : M ≤ 1000000) (hS : S ≤ 1000000) :
    Calls Tryd.prog 8 #[.int .i64 (D : Int), .int .i64 (H : Int), .int .i64 (M : Int), .int .i64 (S : Int)] w fun e w' => e = .returned (.bool true) ∧ Ext w w' := by
  have HL := Lib.hid hL
  clear hL
  have a1 := decDigits_len D (by omega)
  have a2 := decDigits_len H (by omega)
  have a3 := decDigits_len M (by omega)
  have a4 := decDigits_len S (by omega)
  have f1 : fewB (D : Int) = true := by unfold fewB; simp; omega
  have f2 : fewB (H : Int) = true := by unfold fewB; simp; omega
  have f3 : fewB (M : Int) = true := by unfold fewB; simp; omega
  have f4 : fewB (S : Int) = true := by unfold fewB; simp; omega
  have P1 := Lib.hid ((parD_pos _ _ (by simp) (sum_all D H M S) (by omega)).trans (show _ = (86400 * (D : Int) + 3600 * (H : Int) + 60 * (M : Int) + (S : Int), (0 : Int)) by congr 1; omega))
  have P2 := Lib.hid ((parD_min _ _ (by simp) (sum_all D H M S) (by omega)).trans (show _ = (-(86400 * (D : Int) + 3600 * (H : Int) + 60 * (M : Int) + (S : Int)), (0 : Int)) by congr 1; omega))
  have P3 := Lib.hid ((parD_pos _ _ (by simp) (sum_day D) (by omega)).trans (show _ = (86400 * (D : Int), (0 : Int)) by congr 1; omega))
  have P4 := Lib.hid ((parD_pos _ _ (by simp) (sum_hs H S) (by omega)).trans (show _ = (3600 * (H : Int) + (S : Int), (0 : Int)) by congr 1; omega))
  have s1 : (⟨#[80]⟩ : ByteArray) ++ ⟨(Lib.decDigits D).toArray⟩ ++ ⟨#[68, 84]⟩ ++ ⟨(Lib.decDigits H).toArray⟩ ++ ⟨#[72]⟩ ++ ⟨(Lib.decDigits M).toArray⟩ ++ ⟨#[77, 48]⟩ ++ ⟨(Lib.decDigits S).toArray⟩ ++ ⟨#[83]⟩ = ⟨(80 :: (Lib.decDigits D ++ 68 :: 84 :: (Lib.decDigits H ++ 72 :: (Lib.decDigits M ++ 77 :: 48 :: (Lib.decDigits S ++ [83]))))).toArray⟩ := by
    apply ByteArray.ext; simp
  have s2 : (⟨#[45]⟩ : ByteArray) ++ ⟨(80 :: (Lib.decDigits D ++ 68 :: 84 :: (Lib.decDigits H ++ 72 :: (Lib.decDigits M ++ 77 :: 48 :: (Lib.decDigits S ++ [83]))))).toArray⟩ = ⟨(45 :: 80 :: (Lib.decDigits D ++ 68 :: 84 :: (Lib.decDigits H ++ 72 :: (Lib.decDigits M ++ 77 :: 48 :: (Lib.decDigits S ++ [83]))))).toArray⟩ := by
    apply ByteArray.ext; simp
  have s3 : (⟨#[80]⟩ : ByteArray) ++ ⟨(Lib.decDigits D).toArray⟩ ++ ⟨#[68]⟩ = ⟨(80 :: (Lib.decDigits D ++ [68])).toArray⟩ := by
    apply ByteArray.ext; simp
  have s4 : (⟨#[80, 84]⟩ : ByteArray) ++ ⟨(Lib.decDigits H).toArray⟩ ++ ⟨#[72]⟩ ++ ⟨(Lib.decDigits S).toArray⟩ ++ ⟨#[83]⟩ = ⟨(80 :: 84 :: (Lib.decDigits H ++ 72 :: (Lib.decDigits S ++ [83]))).toArray⟩ := by
    apply ByteArray.ext; simp
  have S1 := Lib.hid s1
  have S2 := Lib.hid s2
  have S3 := Lib.hid s3
  have S4 := Lib.hid s4
  clear s1 s2 s3 s4
  go_enter Tryd.func8, Tryd.ntmps8
  go_wp2_with (first
    | (go_at_call 13; refine (awake_c _ HL.out).mono ?_; rintro e w1 ⟨rfl, hE⟩)
    | (go_at_call 36; refine (few_c _ _).mono ?_; (first | rw [f1] | rw [f2] | rw [f3] | rw [f4]); rintro e w2 ⟨rfl, rfl⟩)
    | (go_at_call 37; (with_reducible refine (cl_number D _ (by omega)).mono ?_); rintro e w2 ⟨rfl, hE2⟩; replace hE := hE.trans hE2)
    | (go_at_call 37; (with_reducible refine (cl_number H _ (by omega)).mono ?_); rintro e w2 ⟨rfl, hE2⟩; replace hE := hE.trans hE2)
    | (go_at_call 37; (with_reducible refine (cl_number M _ (by omega)).mono ?_); rintro e w2 ⟨rfl, hE2⟩; replace hE := hE.trans hE2)
    | (go_at_call 37; (with_reducible refine (cl_number S _ (by omega)).mono ?_); rintro e w2 ⟨rfl, hE2⟩; replace hE := hE.trans hE2)
    | (go_at_call 34; (with_reducible rw [S1.out]); (with_reducible refine (pd_c _ _ (HL.out.ext hE) (by simp; omega)).mono ?_); (with_reducible rw [P1.out]); rintro e w2 ⟨rfl, hE2⟩; replace hE := hE.trans hE2)
    | (go_at_call 34; (with_reducible rw [S2.out]); (with_reducible refine (pd_c _ _ (HL.out.ext hE) (by simp; omega)).mono ?_); (with_reducible rw [P2.out]); rintro e w2 ⟨rfl, hE2⟩; replace hE := hE.trans hE2)
    | (go_at_call 34; (with_reducible rw [S3.out]); (with_reducible refine (pd_c _ _ (HL.out.ext hE) (by simp; omega)).mono ?_); (with_reducible rw [P3.out]); rintro e w2 ⟨rfl, hE2⟩; replace hE := hE.trans hE2)
    | (go_at_call 34; (with_reducible rw [S4.out]); (with_reducible refine (pd_c _ _ (HL.out.ext hE) (by simp; omega)).mono ?_); (with_reducible rw [P4.out]); rintro e w2 ⟨rfl, hE2⟩; replace hE := hE.trans hE2))
  go_ret
  exact ⟨rfl, hE⟩
theorem sums_walk (d h m s : Int) (w : World) (hL : Laid w) (_ : -9223372036854775808 ≤ d) (_ : d ≤ 9223372036854775807) (_ : -9223372036854775808 ≤ h) (_ : h ≤ 9223372036854775807) (_ : -9223372036854775808 ≤ m) (_ : m ≤ 9223372036854775807) (_ : -9223372036854775808 ≤ s) (_ : s ≤ 9223372036854775807) :
    Calls Tryd.prog 8 #[.int .i64 d, .int .i64 h, .int .i64 m, .int .i64 s] w fun e w' => e = .returned (.bool true) ∧ Ext w w' := by
  rcases Bool.eq_false_or_eq_true (fewB d) with h1 | h1
  · rcases Bool.eq_false_or_eq_true (fewB h) with h2 | h2
    · rcases Bool.eq_false_or_eq_true (fewB m) with h3 | h3
      · rcases Bool.eq_false_or_eq_true (fewB s) with h4 | h4
        · obtain ⟨a1, b1⟩ : 0 ≤ d ∧ d ≤ 1000000 := by simpa [fewB] using h1
          obtain ⟨a2, b2⟩ : 0 ≤ h ∧ h ≤ 1000000 := by simpa [fewB] using h2
          obtain ⟨a3, b3⟩ : 0 ≤ m ∧ m ≤ 1000000 := by simpa [fewB] using h3
          obtain ⟨a4, b4⟩ : 0 ≤ s ∧ s ≤ 1000000 := by simpa [fewB] using h4
          obtain ⟨D, rfl⟩ := Int.eq_ofNat_of_zero_le a1
          obtain ⟨H, rfl⟩ := Int.eq_ofNat_of_zero_le a2
          obtain ⟨M, rfl⟩ := Int.eq_ofNat_of_zero_le a3
          obtain ⟨S, rfl⟩ := Int.eq_ofNat_of_zero_le a4
          exact sums_in D H M S w hL (by omega) (by omega) (by omega) (by omega)
        · exact sums_s d h m s w hL h1 h2 h3 h4
      · exact sums_m d h m s w hL h1 h2 h3
    · exact sums_h d h m s w hL h1 h2
  · exact sums_d d h m s w hL h1
end Go.Proofs.YtplckoffiebibaaDoor
