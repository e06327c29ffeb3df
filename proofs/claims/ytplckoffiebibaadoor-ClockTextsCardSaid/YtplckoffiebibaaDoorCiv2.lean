/- The walks of package civil and of its reference, as far as this seat reaches them: validity and the number of a date's day. -/
import Derived.Test.YtplckoffiebibaaDoorCiv
namespace Go.Proofs.YtplckoffiebibaaDoor
open Go.RowKit

set_option maxHeartbeats 1000000 in
theorem rlength_c (y m : Int) (w : World) : Calls Tryd.prog 77 #[.int .i64 y, .int .i64 m] w fun e w' => e = .returned (.int .i64 (mlen y m)) ∧ w = w' := by
  by_cases hy : 1 ≤ y ∧ y ≤ 9999
  · obtain ⟨h1, h2⟩ := hy
    by_cases hm : 1 ≤ m ∧ m ≤ 12
    · obtain ⟨g1, g2⟩ := hm
      rcases m12 g1 g2 with rfl | rfl | rfl | rfl | rfl | rfl | rfl | rfl | rfl | rfl | rfl | rfl
      case inr.inl =>
        rcases Bool.eq_false_or_eq_true (lpB y) with hl | hl
        all_goals
          have Hl : Hid (mlen y 2 = if lpB y then 29 else 28) := by simp [Hid, mlen, lp, hl, h1, h2]
          have H2 := Lib.hid hl
          go_enter Tryd.func77, Tryd.ntmps77
          go_wp2_with (go_at_call 90; refine (rleap_c _ _ h1 h2).mono ?_; rintro e w' ⟨rfl, rfl⟩)
          go_ret
          exact ⟨ret_i (by rw [Hl.out, H2.out]; rfl), rfl⟩
      all_goals
        go_enter Tryd.func77, Tryd.ntmps77
        go_wp2
        go_ret
        exact ⟨ret_i (by simp [mlen, h1, h2]), rfl⟩
    · have Hz := Lib.hid (mlen_zero y m (by omega))
      by_cases g1 : m < 1
      all_goals
        go_enter Tryd.func77, Tryd.ntmps77
        go_wp2
        go_ret
        exact ⟨ret_i Hz.out.symm, rfl⟩
  · have Hz := Lib.hid (mlen_zero y m (by omega))
    by_cases g1 : y < 1
    · have d1 : decide (y < 1) = true := by simp; omega
      go_enter Tryd.func77, Tryd.ntmps77
      go_wp2
      go_ret
      exact ⟨ret_i Hz.out.symm, rfl⟩
    · have d1 : decide (y < 1) = false := by simp; omega
      have d2 : decide (9999 < y) = true := by simp; omega
      go_enter Tryd.func77, Tryd.ntmps77
      go_wp2
      go_ret
      exact ⟨ret_i Hz.out.symm, rfl⟩

theorem vld_no1 {y m d : Int} (h : ¬ 1 ≤ d) : vldB y m d = false := by unfold vldB; simp; omega
theorem vld_eq {y m d : Int} (h : 1 ≤ d) : vldB y m d = decide (d ≤ mlen y m) := by
  unfold vldB
  rw [Bool.eq_iff_iff]; simp; omega

set_option maxHeartbeats 400000 in
theorem valid_c (y m d : Int) (w : World) : Calls Tryd.prog 50 #[.agg #[.int .i64 y, .int .i64 m, .int .i64 d]] w fun e w' => e = .returned (.bool (vldB y m d)) ∧ Ext w w' := by
  by_cases h : 1 ≤ d
  · rw [vld_eq h]
    go_enter Tryd.func50, Tryd.ntmps50
    go_wp2
    go_quiet ((go_at_call 80; exact quiet_of0 ((length_c _ _ _).mono fun _ _ ⟨a, b⟩ => ⟨a, 0, b⟩)))
    go_wp2
    go_ret
    exact ⟨rfl, ((Ext.refl w).alloc _).drewN _⟩
  · rw [vld_no1 h]
    have hd : decide (1 ≤ d) = false := by simp; omega
    go_enter Tryd.func50, Tryd.ntmps50
    go_wp2
    go_quiet (fail)
    go_wp2
    go_ret
    exact ⟨rfl, ((Ext.refl w).alloc _).drewN _⟩
set_option maxHeartbeats 400000 in
theorem rvalid_c (y m d : Int) (w : World) : Calls Tryd.prog 47 #[.agg #[.int .i64 y, .int .i64 m, .int .i64 d]] w fun e w' => e = .returned (.bool (vldB y m d)) ∧ Ext w w' := by
  by_cases h : 1 ≤ d
  · rw [vld_eq h]
    go_enter Tryd.func47, Tryd.ntmps47
    go_wp2
    go_quiet ((go_at_call 77; exact quiet_of0 ((rlength_c _ _ _).mono fun _ _ ⟨a, b⟩ => ⟨a, 0, b⟩)))
    go_wp2
    go_ret
    exact ⟨rfl, ((Ext.refl w).alloc _).drewN _⟩
  · rw [vld_no1 h]
    have hd : decide (1 ≤ d) = false := by simp; omega
    go_enter Tryd.func47, Tryd.ntmps47
    go_wp2
    go_quiet (fail)
    go_wp2
    go_ret
    exact ⟨rfl, ((Ext.refl w).alloc _).drewN _⟩

set_option maxHeartbeats 400000 in
theorem count_c (y m d : Int) (w : World) (h1 : 1 ≤ y) (h2 : y ≤ 10000) (g1 : 1 ≤ m) (g2 : m ≤ 12) (k1 : 1 ≤ d) (k2 : d ≤ 31) :
    Calls Tryd.prog 51 #[.int .i64 y, .int .i64 m, .int .i64 d] w fun e w' => e = .returned (.int .i64 (dn y m d)) ∧ w = w' := by
  rw [← cnt_eq y m d g1 g2]
  by_cases hm : m ≤ 2
  · have Hc : Hid (cnt y m d = _) := Lib.hid (if_pos hm)
    go_enter Tryd.func51, Tryd.ntmps51
    go_wp2
    go_ret
    exact ⟨ret_i (by rw [Hc.out]), rfl⟩
  · have Hc : Hid (cnt y m d = _) := Lib.hid (if_neg hm)
    go_enter Tryd.func51, Tryd.ntmps51
    go_wp2
    go_ret
    exact ⟨ret_i (by rw [Hc.out]), rfl⟩

set_option maxHeartbeats 400000 in
theorem first_c (y : Int) (w : World) (h1 : 1 ≤ y) (h2 : y ≤ 10000) :
    Calls Tryd.prog 78 #[.int .i64 y] w fun e w' => e = .returned (.int .i64 (yd y)) ∧ w = w' := by
  unfold yd
  go_enter Tryd.func78, Tryd.ntmps78
  go_wp2
  go_ret
  exact ⟨ret_i (by first | rfl | omega), rfl⟩

def insB (n : Int) : Bool := decide (-719162 ≤ n ∧ n < 2932897)
set_option maxHeartbeats 400000 in
theorem inside_c (n : Int) (w : World) : Calls Tryd.prog 52 #[.int .i64 n] w fun e w' => e = .returned (.bool (insB n)) ∧ w = w' := by
  unfold insB
  by_cases h1 : -719162 ≤ n
  · have d1 : decide (-719162 ≤ n) = true := by simp; omega
    by_cases h2 : n < 2932897
    all_goals
      go_enter Tryd.func52, Tryd.ntmps52
      go_wp2
      go_ret
      exact ⟨ret_b (by simp [h1, h2]), rfl⟩
  · have d1 : decide (-719162 ≤ n) = false := by simp; omega
    go_enter Tryd.func52, Tryd.ntmps52
    go_wp2
    go_ret
    exact ⟨ret_b (by simp), rfl⟩
end Go.Proofs.YtplckoffiebibaaDoor
