/- The walks of package civil and of its reference, as far as this seat reaches them. -/
import Derived.Test.YtplckoffiebibaaDoorInt
import Derived.Test.YtplckoffiebibaaDoorCal
namespace Go.Proofs.YtplckoffiebibaaDoor
open Go.RowKit

theorem yr_yes {y : Int} (h1 : 1 ≤ y) (h2 : y ≤ 9999) : yrB y = true := by unfold yrB; simp; omega
theorem yr_no {y : Int} (h : ¬ (1 ≤ y ∧ y ≤ 9999)) : yrB y = false := by unfold yrB; simp; omega

set_option maxHeartbeats 400000 in
theorem year_c (y : Int) (w : World) : Calls Tryd.prog 91 #[.int .i64 y] w fun e w' => e = .returned (.bool (yrB y)) ∧ w = w' := by
  unfold yrB
  by_cases h1 : 1 ≤ y
  · have d1 : decide (1 ≤ y) = true := by simp; omega
    by_cases h2 : y ≤ 9999
    all_goals
      go_enter Tryd.func91, Tryd.ntmps91
      go_wp2
      go_ret
      exact ⟨ret_b (by simp [h1, h2]), rfl⟩
  · have d1 : decide (1 ≤ y) = false := by simp; omega
    go_enter Tryd.func91, Tryd.ntmps91
    go_wp2
    go_ret
    exact ⟨ret_b (by simp), rfl⟩

theorem leap4 (y : Int) : lpB y = ((y % 4 == 0) && ((y % 100 != 0) || (y % 400 == 0))) := by
  unfold lpB
  rw [Bool.eq_iff_iff]
  simp

set_option maxHeartbeats 400000 in
theorem leap_c (y : Int) (w : World) (h1 : 1 ≤ y) (h2 : y ≤ 9999) : Calls Tryd.prog 92 #[.int .i64 y] w fun e w' => e = .returned (.bool (lpB y)) ∧ w = w' := by
  rw [leap4]
  have hy := yr_yes h1 h2
  rcases Bool.eq_false_or_eq_true (y % 4 == 0) with a4 | a4 <;> rcases Bool.eq_false_or_eq_true (y % 100 != 0) with a1 | a1 <;> rcases Bool.eq_false_or_eq_true (y % 400 == 0) with a0 | a0
  all_goals
    rw [a4, a1, a0]
    go_enter Tryd.func92, Tryd.ntmps92
    go_wp2_with (go_at_call 91; refine (year_c _ _).mono ?_; rintro e w' ⟨rfl, rfl⟩)
    go_ret
    exact ⟨rfl, rfl⟩
set_option maxHeartbeats 400000 in
theorem rleap_c (y : Int) (w : World) (h1 : 1 ≤ y) (h2 : y ≤ 9999) : Calls Tryd.prog 90 #[.int .i64 y] w fun e w' => e = .returned (.bool (lpB y)) ∧ w = w' := by
  rw [leap4]
  rcases Bool.eq_false_or_eq_true (y % 4 == 0) with a4 | a4 <;> rcases Bool.eq_false_or_eq_true (y % 100 != 0) with a1 | a1 <;> rcases Bool.eq_false_or_eq_true (y % 400 == 0) with a0 | a0
  all_goals first
    | (exfalso; simp at a4 a1 a0; omega)
    | (rw [a4, a1, a0]
       go_enter Tryd.func90, Tryd.ntmps90
       go_wp2
       go_ret
       exact ⟨rfl, rfl⟩)

theorem mi_0 (w : World) : (Instr.index 111 (.agg #[.int .i64 31, .int .i64 28, .int .i64 31, .int .i64 30, .int .i64 31, .int .i64 30, .int .i64 31, .int .i64 31, .int .i64 30, .int .i64 31, .int .i64 30, .int .i64 31]) (.int .i64 0)).run Tryd.prog w = .ok (.int .i64 31) w := by kernel_rfl
theorem mi_1 (w : World) : (Instr.index 111 (.agg #[.int .i64 31, .int .i64 28, .int .i64 31, .int .i64 30, .int .i64 31, .int .i64 30, .int .i64 31, .int .i64 31, .int .i64 30, .int .i64 31, .int .i64 30, .int .i64 31]) (.int .i64 1)).run Tryd.prog w = .ok (.int .i64 28) w := by kernel_rfl
theorem mi_2 (w : World) : (Instr.index 111 (.agg #[.int .i64 31, .int .i64 28, .int .i64 31, .int .i64 30, .int .i64 31, .int .i64 30, .int .i64 31, .int .i64 31, .int .i64 30, .int .i64 31, .int .i64 30, .int .i64 31]) (.int .i64 2)).run Tryd.prog w = .ok (.int .i64 31) w := by kernel_rfl
theorem mi_3 (w : World) : (Instr.index 111 (.agg #[.int .i64 31, .int .i64 28, .int .i64 31, .int .i64 30, .int .i64 31, .int .i64 30, .int .i64 31, .int .i64 31, .int .i64 30, .int .i64 31, .int .i64 30, .int .i64 31]) (.int .i64 3)).run Tryd.prog w = .ok (.int .i64 30) w := by kernel_rfl
theorem mi_4 (w : World) : (Instr.index 111 (.agg #[.int .i64 31, .int .i64 28, .int .i64 31, .int .i64 30, .int .i64 31, .int .i64 30, .int .i64 31, .int .i64 31, .int .i64 30, .int .i64 31, .int .i64 30, .int .i64 31]) (.int .i64 4)).run Tryd.prog w = .ok (.int .i64 31) w := by kernel_rfl
theorem mi_5 (w : World) : (Instr.index 111 (.agg #[.int .i64 31, .int .i64 28, .int .i64 31, .int .i64 30, .int .i64 31, .int .i64 30, .int .i64 31, .int .i64 31, .int .i64 30, .int .i64 31, .int .i64 30, .int .i64 31]) (.int .i64 5)).run Tryd.prog w = .ok (.int .i64 30) w := by kernel_rfl
theorem mi_6 (w : World) : (Instr.index 111 (.agg #[.int .i64 31, .int .i64 28, .int .i64 31, .int .i64 30, .int .i64 31, .int .i64 30, .int .i64 31, .int .i64 31, .int .i64 30, .int .i64 31, .int .i64 30, .int .i64 31]) (.int .i64 6)).run Tryd.prog w = .ok (.int .i64 31) w := by kernel_rfl
theorem mi_7 (w : World) : (Instr.index 111 (.agg #[.int .i64 31, .int .i64 28, .int .i64 31, .int .i64 30, .int .i64 31, .int .i64 30, .int .i64 31, .int .i64 31, .int .i64 30, .int .i64 31, .int .i64 30, .int .i64 31]) (.int .i64 7)).run Tryd.prog w = .ok (.int .i64 31) w := by kernel_rfl
theorem mi_8 (w : World) : (Instr.index 111 (.agg #[.int .i64 31, .int .i64 28, .int .i64 31, .int .i64 30, .int .i64 31, .int .i64 30, .int .i64 31, .int .i64 31, .int .i64 30, .int .i64 31, .int .i64 30, .int .i64 31]) (.int .i64 8)).run Tryd.prog w = .ok (.int .i64 30) w := by kernel_rfl
theorem mi_9 (w : World) : (Instr.index 111 (.agg #[.int .i64 31, .int .i64 28, .int .i64 31, .int .i64 30, .int .i64 31, .int .i64 30, .int .i64 31, .int .i64 31, .int .i64 30, .int .i64 31, .int .i64 30, .int .i64 31]) (.int .i64 9)).run Tryd.prog w = .ok (.int .i64 31) w := by kernel_rfl
theorem mi_10 (w : World) : (Instr.index 111 (.agg #[.int .i64 31, .int .i64 28, .int .i64 31, .int .i64 30, .int .i64 31, .int .i64 30, .int .i64 31, .int .i64 31, .int .i64 30, .int .i64 31, .int .i64 30, .int .i64 31]) (.int .i64 10)).run Tryd.prog w = .ok (.int .i64 30) w := by kernel_rfl
theorem mi_11 (w : World) : (Instr.index 111 (.agg #[.int .i64 31, .int .i64 28, .int .i64 31, .int .i64 30, .int .i64 31, .int .i64 30, .int .i64 31, .int .i64 31, .int .i64 30, .int .i64 31, .int .i64 30, .int .i64 31]) (.int .i64 11)).run Tryd.prog w = .ok (.int .i64 31) w := by kernel_rfl

set_option maxRecDepth 100000 in
set_option maxHeartbeats 1000000 in
theorem length_c (y m : Int) (w : World) : Calls Tryd.prog 80 #[.int .i64 y, .int .i64 m] w fun e w' => e = .returned (.int .i64 (mlen y m)) ∧ w = w' := by
  by_cases hy : 1 ≤ y ∧ y ≤ 9999
  · obtain ⟨h1, h2⟩ := hy
    have hyr := yr_yes h1 h2
    by_cases hm : 1 ≤ m ∧ m ≤ 12
    · obtain ⟨g1, g2⟩ := hm
      rcases m12 g1 g2 with rfl | rfl | rfl | rfl | rfl | rfl | rfl | rfl | rfl | rfl | rfl | rfl
      case inr.inl =>
        rcases Bool.eq_false_or_eq_true (lpB y) with hl | hl
        · have Hl : Hid (mlen y 2 = 29) := by simp [Hid, mlen, lp, hl, h1, h2]
          go_enter Tryd.func80, Tryd.ntmps80
          go_wp2_with (first | (go_at_call 91; refine (year_c _ _).mono ?_; rintro e w' ⟨rfl, rfl⟩) | (go_at_call 92; refine (leap_c _ _ h1 h2).mono ?_; rintro e w' ⟨rfl, rfl⟩))
          go_ret
          exact ⟨ret_i Hl.out.symm, rfl⟩
        · have Hl : Hid (mlen y 2 = 28) := by simp [Hid, mlen, lp, hl, h1, h2]
          have i1 := mi_1
          go_enter Tryd.func80, Tryd.ntmps80
          go_wp2_with (first | (go_at_call 91; refine (year_c _ _).mono ?_; rintro e w' ⟨rfl, rfl⟩) | (go_at_call 92; refine (leap_c _ _ h1 h2).mono ?_; rintro e w' ⟨rfl, rfl⟩))
          go_ret
          exact ⟨ret_i Hl.out.symm, rfl⟩
      all_goals
        have i0 := mi_0; have i1 := mi_1; have i2 := mi_2; have i3 := mi_3; have i4 := mi_4; have i5 := mi_5; have i6 := mi_6; have i7 := mi_7; have i8 := mi_8; have i9 := mi_9; have i10 := mi_10; have i11 := mi_11
        go_enter Tryd.func80, Tryd.ntmps80
        go_wp2_with (go_at_call 91; refine (year_c _ _).mono ?_; rintro e w' ⟨rfl, rfl⟩)
        go_ret
        exact ⟨ret_i (by simp [mlen, h1, h2]), rfl⟩
    · have Hz := Lib.hid (mlen_zero y m (by omega))
      by_cases g1 : m < 1
      · have d1 : decide (m < 1) = true := by simp; omega
        go_enter Tryd.func80, Tryd.ntmps80
        go_wp2_with (go_at_call 91; refine (year_c _ _).mono ?_; rintro e w' ⟨rfl, rfl⟩)
        go_ret
        exact ⟨ret_i Hz.out.symm, rfl⟩
      · have d1 : decide (m < 1) = false := by simp; omega
        have d2 : decide (12 < m) = true := by simp; omega
        go_enter Tryd.func80, Tryd.ntmps80
        go_wp2_with (go_at_call 91; refine (year_c _ _).mono ?_; rintro e w' ⟨rfl, rfl⟩)
        go_ret
        exact ⟨ret_i Hz.out.symm, rfl⟩
  · have Hz := Lib.hid (mlen_zero y m (by omega))
    have hyr := yr_no hy
    clear hy
    go_enter Tryd.func80, Tryd.ntmps80
    go_wp2_with (go_at_call 91; refine (year_c _ _).mono ?_; rintro e w' ⟨rfl, rfl⟩)
    go_ret
    exact ⟨ret_i Hz.out.symm, rfl⟩
end Go.Proofs.YtplckoffiebibaaDoor
