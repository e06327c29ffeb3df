/- The walks of the reference's texts of durations. -/
import Derived.Test.YtplckoffiebibaaDoorSum1
import Derived.Test.YtplckoffiebibaaDoorDur
namespace Go.Proofs.YtplckoffiebibaaDoor
set_option linter.unusedVariables false
set_option linter.unusedSimpArgs false
open Go.RowKit

theorem snoc_str (l : List UInt8) (c : UInt8) : (⟨l.toArray⟩ : ByteArray) ++ ⟨#[c]⟩ = ⟨(l ++ [c]).toArray⟩ := by
  apply ByteArray.ext
  simp
theorem app_str (a b : List UInt8) : (⟨a.toArray⟩ : ByteArray) ++ ⟨b.toArray⟩ = ⟨(a ++ b).toArray⟩ := by
  apply ByteArray.ext
  simp
theorem rpart_c (n : Int) (c : UInt8) (w : World) (h0 : 0 ≤ n) (hN : n < 10000000000) :
    Calls Tryd.prog 58 #[.int .i64 n, .string ⟨#[c]⟩] w fun e w' => e = .returned (.string ⟨(prt n.toNat c).toArray⟩) ∧ Ext w w' := by
  obtain ⟨N, rfl⟩ := Int.eq_ofNat_of_zero_le h0
  rw [Int.toNat_natCast]
  by_cases hz : N = 0
  · subst hz
    go_enter Tryd.func58, Tryd.ntmps58
    go_wp2
    go_ret
    exact ⟨rfl, Ext.refl _⟩
  · have t0 : ((N : Int) == 0) = false := by simp; omega
    have hp := Lib.hid (prt_pos hz c)
    have hl := decDigits_len N (by omega)
    clear hz
    go_enter Tryd.func58, Tryd.ntmps58
    go_wp2_with (go_at_call 83; refine (rdecimal_c _ _ (by omega)).mono ?_; rintro e w1 ⟨rfl, hE1⟩)
    go_ret
    exact ⟨ret_s (by rw [snoc_str, hp.out]), hE1⟩

set_option maxHeartbeats 1000000 in
theorem rdur_c (n : Int) (w : World) : Calls Tryd.prog 32 #[.int .i64 n] w fun e w' => e = .returned (.string ⟨(durT n).toArray⟩) ∧ Ext w w' := by
  rcases Bool.eq_false_or_eq_true (lineB n) with hl | hl
  · obtain ⟨l1, l2⟩ : -4398046511104 ≤ n ∧ n ≤ 4398046511104 := by simpa [lineB] using hl
    by_cases h0 : n = 0
    · subst h0
      go_enter Tryd.func32, Tryd.ntmps32
      go_wp2_with (go_at_call 33; refine (lineB_c _ _).mono ?_; rw [hl]; rintro e w1 ⟨rfl, rfl⟩)
      go_ret
      exact ⟨ret_s (by decide), Ext.refl _⟩
    · obtain ⟨N, hN⟩ : ∃ N : Nat, N = n.natAbs := ⟨_, rfl⟩
      have b1 := prt_len (N / 86400) 68 (by omega)
      have b2 := prt_len (N / 3600 % 24) 72 (by omega)
      have b3 := prt_len (N / 60 % 60) 77 (by omega)
      have b4 := prt_len (N % 60) 83 (by omega)
      have Hfin : Hid (durT n = (if n < 0 then [45] else []) ++ durP N) := by unfold Hid durT; rw [hl, if_neg (by simp), if_neg h0, hN]
      have t0 : (n == 0) = false := by simpa using h0
      by_cases hn : n < 0
      · obtain rfl : n = -(N : Int) := by omega
        rw [if_pos hn] at Hfin
        clear hN h0
        by_cases ht : tpr N = []
        · have Hd : Hid (durP N = [80] ++ prt (N / 86400) 68 ++ (if true = true then [] else 84 :: (prt (N / 3600 % 24) 72 ++ prt (N / 60 % 60) 77 ++ prt (N % 60) 83))) := by
            unfold Hid durP
            first | (rw [if_pos ht]; rfl) | (rw [if_neg ht]; rfl)
          have t1 : ((⟨(prt (N / 3600 % 24) 72).toArray⟩ : ByteArray) ++ ⟨(prt (N / 60 % 60) 77).toArray⟩ ++ ⟨(prt (N % 60) 83).toArray⟩).toList.isEmpty = true := by
            rw [app_str, app_str, Lib.toList_data]
            show (tpr N).isEmpty = true
            simp [ht]
          clear ht
          go_enter Tryd.func32, Tryd.ntmps32
          go_wp2_with (first
            | (go_at_call 33; refine (lineB_c _ _).mono ?_; rw [hl]; rintro e w1 ⟨rfl, rfl⟩)
            | (go_at_call 58; (with_reducible refine (rpart_c _ 68 _ (by omega) (by omega)).mono ?_); rintro e w2 ⟨rfl, hE2⟩)
            | (go_at_call 58; (with_reducible refine (rpart_c _ 72 _ (by omega) (by omega)).mono ?_); rintro e w3 ⟨rfl, hE3⟩)
            | (go_at_call 58; (with_reducible refine (rpart_c _ 77 _ (by omega) (by omega)).mono ?_); rintro e w4 ⟨rfl, hE4⟩)
            | (go_at_call 58; (with_reducible refine (rpart_c _ 83 _ (by omega) (by omega)).mono ?_); rintro e w5 ⟨rfl, hE5⟩))
          go_ret
          exact ⟨ret_s (by rw [Hfin.out, Hd.out]; apply ByteArray.ext; simp), hE2.trans (hE3.trans (hE4.trans hE5))⟩
        · have Hd : Hid (durP N = [80] ++ prt (N / 86400) 68 ++ (if false = true then [] else 84 :: (prt (N / 3600 % 24) 72 ++ prt (N / 60 % 60) 77 ++ prt (N % 60) 83))) := by
            unfold Hid durP
            first | (rw [if_pos ht]; rfl) | (rw [if_neg ht]; rfl)
          have t1 : ((⟨(prt (N / 3600 % 24) 72).toArray⟩ : ByteArray) ++ ⟨(prt (N / 60 % 60) 77).toArray⟩ ++ ⟨(prt (N % 60) 83).toArray⟩).toList.isEmpty = false := by
            rw [app_str, app_str, Lib.toList_data]
            show (tpr N).isEmpty = false
            simp [ht]
          clear ht
          go_enter Tryd.func32, Tryd.ntmps32
          go_wp2_with (first
            | (go_at_call 33; refine (lineB_c _ _).mono ?_; rw [hl]; rintro e w1 ⟨rfl, rfl⟩)
            | (go_at_call 58; (with_reducible refine (rpart_c _ 68 _ (by omega) (by omega)).mono ?_); rintro e w2 ⟨rfl, hE2⟩)
            | (go_at_call 58; (with_reducible refine (rpart_c _ 72 _ (by omega) (by omega)).mono ?_); rintro e w3 ⟨rfl, hE3⟩)
            | (go_at_call 58; (with_reducible refine (rpart_c _ 77 _ (by omega) (by omega)).mono ?_); rintro e w4 ⟨rfl, hE4⟩)
            | (go_at_call 58; (with_reducible refine (rpart_c _ 83 _ (by omega) (by omega)).mono ?_); rintro e w5 ⟨rfl, hE5⟩))
          go_ret
          exact ⟨ret_s (by rw [Hfin.out, Hd.out]; apply ByteArray.ext; simp), hE2.trans (hE3.trans (hE4.trans hE5))⟩
      · obtain rfl : n = (N : Int) := by omega
        rw [if_neg hn] at Hfin
        clear hN h0
        by_cases ht : tpr N = []
        · have Hd : Hid (durP N = [80] ++ prt (N / 86400) 68 ++ (if true = true then [] else 84 :: (prt (N / 3600 % 24) 72 ++ prt (N / 60 % 60) 77 ++ prt (N % 60) 83))) := by
            unfold Hid durP
            first | (rw [if_pos ht]; rfl) | (rw [if_neg ht]; rfl)
          have t1 : ((⟨(prt (N / 3600 % 24) 72).toArray⟩ : ByteArray) ++ ⟨(prt (N / 60 % 60) 77).toArray⟩ ++ ⟨(prt (N % 60) 83).toArray⟩).toList.isEmpty = true := by
            rw [app_str, app_str, Lib.toList_data]
            show (tpr N).isEmpty = true
            simp [ht]
          clear ht
          go_enter Tryd.func32, Tryd.ntmps32
          go_wp2_with (first
            | (go_at_call 33; refine (lineB_c _ _).mono ?_; rw [hl]; rintro e w1 ⟨rfl, rfl⟩)
            | (go_at_call 58; (with_reducible refine (rpart_c _ 68 _ (by omega) (by omega)).mono ?_); rintro e w2 ⟨rfl, hE2⟩)
            | (go_at_call 58; (with_reducible refine (rpart_c _ 72 _ (by omega) (by omega)).mono ?_); rintro e w3 ⟨rfl, hE3⟩)
            | (go_at_call 58; (with_reducible refine (rpart_c _ 77 _ (by omega) (by omega)).mono ?_); rintro e w4 ⟨rfl, hE4⟩)
            | (go_at_call 58; (with_reducible refine (rpart_c _ 83 _ (by omega) (by omega)).mono ?_); rintro e w5 ⟨rfl, hE5⟩))
          go_ret
          exact ⟨ret_s (by rw [Hfin.out, Hd.out]; apply ByteArray.ext; simp), hE2.trans (hE3.trans (hE4.trans hE5))⟩
        · have Hd : Hid (durP N = [80] ++ prt (N / 86400) 68 ++ (if false = true then [] else 84 :: (prt (N / 3600 % 24) 72 ++ prt (N / 60 % 60) 77 ++ prt (N % 60) 83))) := by
            unfold Hid durP
            first | (rw [if_pos ht]; rfl) | (rw [if_neg ht]; rfl)
          have t1 : ((⟨(prt (N / 3600 % 24) 72).toArray⟩ : ByteArray) ++ ⟨(prt (N / 60 % 60) 77).toArray⟩ ++ ⟨(prt (N % 60) 83).toArray⟩).toList.isEmpty = false := by
            rw [app_str, app_str, Lib.toList_data]
            show (tpr N).isEmpty = false
            simp [ht]
          clear ht
          go_enter Tryd.func32, Tryd.ntmps32
          go_wp2_with (first
            | (go_at_call 33; refine (lineB_c _ _).mono ?_; rw [hl]; rintro e w1 ⟨rfl, rfl⟩)
            | (go_at_call 58; (with_reducible refine (rpart_c _ 68 _ (by omega) (by omega)).mono ?_); rintro e w2 ⟨rfl, hE2⟩)
            | (go_at_call 58; (with_reducible refine (rpart_c _ 72 _ (by omega) (by omega)).mono ?_); rintro e w3 ⟨rfl, hE3⟩)
            | (go_at_call 58; (with_reducible refine (rpart_c _ 77 _ (by omega) (by omega)).mono ?_); rintro e w4 ⟨rfl, hE4⟩)
            | (go_at_call 58; (with_reducible refine (rpart_c _ 83 _ (by omega) (by omega)).mono ?_); rintro e w5 ⟨rfl, hE5⟩))
          go_ret
          exact ⟨ret_s (by rw [Hfin.out, Hd.out]; apply ByteArray.ext; simp), hE2.trans (hE3.trans (hE4.trans hE5))⟩
  · go_enter Tryd.func32, Tryd.ntmps32
    go_wp2_with (go_at_call 33; refine (lineB_c _ _).mono ?_; rw [hl]; rintro e w1 ⟨rfl, rfl⟩)
    go_ret
    exact ⟨ret_s (by simp [durT, hl]), Ext.refl _⟩
end Go.Proofs.YtplckoffiebibaaDoor
