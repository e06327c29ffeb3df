/- The walks of package integer and of its reference. -/
import Derived.Test.YtgndogpgfgliaaaGreatDoorQ00
import Derived.Test.YtgndogpgfgliaaaGreatDoorQ02
namespace Go.Proofs.YtgndogpgfgliaaaGreatDoor
open Go.RowKit

theorem Div_nn (a b : Int) (w : World) (hb : 0 < b) (hb2 : b ≤ 9223372036854775807) (ha : 0 ≤ a) (ha2 : a ≤ 9223372036854775807) :
    Calls Tryz.prog 161 #[.int .i64 a, .int .i64 b] w fun e w' => e = .returned (.tuple #[.int .i64 (a / b), .int .i64 (a % b), .int .i64 0]) ∧ ∃ n, w.drewN n = w' := by
  have h0 : (b == 0) = false := by simp; omega
  have h1 : (a == -9223372036854775808) = false := by simp; omega
  have q1 := Int.emod_nonneg a (show b ≠ 0 by omega)
  have h3 : decide (b < 0) = false := by simp; omega
  have h4 : decide (a % b < 0) = false := by simp; omega
  go_enter Tryz.func161, Tryz.ntmps161
  go_wp2
  go_quiet (fail)
  go_wp2
  all_goals
    go_ret3
    exact ⟨ret_i3 (by rfl) (by first | rfl | omega) (by rfl), _, rfl⟩
set_option maxHeartbeats 400000 in
theorem Div_neg (a b : Int) (w : World) (hb : 0 < b) (hb2 : b ≤ 9223372036854775807) (ha : 0 < a) (ha2 : a ≤ 9223372036854775808) :
    Calls Tryz.prog 161 #[.int .i64 (-a), .int .i64 b] w fun e w' => e = .returned (.tuple #[.int .i64 (-a / b), .int .i64 (-a % b), .int .i64 0]) ∧ ∃ n, w.drewN n = w' := by
  have h0 : (b == 0) = false := by simp; omega
  have h1 : (b == -1) = false := by simp; omega
  have h3 : decide (b < 0) = false := by simp; omega
  have q1 := Int.emod_nonneg a (show b ≠ 0 by omega)
  have q2 := Int.emod_lt_of_pos a hb
  have q3 := Int.ediv_nonneg (a := a) (b := b) (by omega) (by omega)
  have q4 : a / b ≤ 9223372036854775808 := by have := Int.ediv_le_self b (show 0 ≤ a by omega); omega
  have hq : a.tdiv b = a / b := Int.tdiv_eq_ediv_of_nonneg (by omega)
  have H1 := Lib.hid (neg_div a b hb)
  have H2 := Lib.hid (neg_mod a b hb)
  by_cases hm : a % b = 0
  · have h5 : (-(a % b) != 0) = false := by simp [hm]
    have Hm := Lib.hid hm
    clear hm
    by_cases h1 : (-a == -9223372036854775808) = true
    all_goals
      go_enter Tryz.func161, Tryz.ntmps161
      go_wp2
      go_quiet (fail)
      go_wp2
      go_ret3
      exact ⟨ret_i3 (by rw [H1.out, if_pos Hm.out]) (by rw [H2.out, if_pos Hm.out, Hm.out]; rfl) (by rfl), _, rfl⟩
  · have h5 : (-(a % b) != 0) = true := by simp [hm]
    have h6 : decide (0 < a % b) = true := by simp; omega
    have q5 : 2 * (a / b) ≤ a := div_half a b (by omega) (by omega)
    have Hm := Lib.hid hm
    clear hm
    by_cases h1 : (-a == -9223372036854775808) = true
    all_goals
      go_enter Tryz.func161, Tryz.ntmps161
      go_wp2
      go_quiet (fail)
      go_wp2
      go_ret3
      exact ⟨ret_i3 (by rw [H1.out, if_neg Hm.out]) (by rw [H2.out, if_neg Hm.out]; omega) (by rfl), _, rfl⟩
theorem Div_c (a b : Int) (w : World) (hb : 0 < b) (hb2 : b ≤ 9223372036854775807) (ha : -9223372036854775808 ≤ a) (ha2 : a ≤ 9223372036854775807) :
    Calls Tryz.prog 161 #[.int .i64 a, .int .i64 b] w fun e w' => e = .returned (.tuple #[.int .i64 (a / b), .int .i64 (a % b), .int .i64 0]) ∧ ∃ n, w.drewN n = w' := by
  by_cases h : 0 ≤ a
  · exact Div_nn a b w hb hb2 h ha2
  · have e : a = -(-a) := by omega
    rw [e]
    exact Div_neg (-a) b w hb hb2 (by omega) (by omega)
theorem RDiv_nn (a b : Int) (w : World) (hb : 0 < b) (hb2 : b ≤ 9223372036854775807) (ha : 0 ≤ a) (ha2 : a ≤ 9223372036854775807) :
    Calls Tryz.prog 193 #[.int .i64 a, .int .i64 b] w fun e w' => e = .returned (.tuple #[.int .i64 (a / b), .int .i64 (a % b), .int .i64 0]) ∧ ∃ n, w.drewN n = w' := by
  have h0 : (b == 0) = false := by simp; omega
  have h1 : (a == -9223372036854775808) = false := by simp; omega
  have q1 := Int.emod_nonneg a (show b ≠ 0 by omega)
  have h3 : decide (b < 0) = false := by simp; omega
  have h4 : decide (a % b < 0) = false := by simp; omega
  go_enter Tryz.func193, Tryz.ntmps193
  go_wp2
  go_quiet (fail)
  go_wp2
  all_goals
    go_ret3
    exact ⟨ret_i3 (by rfl) (by first | rfl | omega) (by rfl), _, rfl⟩
set_option maxHeartbeats 400000 in
theorem RDiv_neg (a b : Int) (w : World) (hb : 0 < b) (hb2 : b ≤ 9223372036854775807) (ha : 0 < a) (ha2 : a ≤ 9223372036854775808) :
    Calls Tryz.prog 193 #[.int .i64 (-a), .int .i64 b] w fun e w' => e = .returned (.tuple #[.int .i64 (-a / b), .int .i64 (-a % b), .int .i64 0]) ∧ ∃ n, w.drewN n = w' := by
  have h0 : (b == 0) = false := by simp; omega
  have h1 : (b == -1) = false := by simp; omega
  have h3 : decide (b < 0) = false := by simp; omega
  have q1 := Int.emod_nonneg a (show b ≠ 0 by omega)
  have q2 := Int.emod_lt_of_pos a hb
  have q3 := Int.ediv_nonneg (a := a) (b := b) (by omega) (by omega)
  have q4 : a / b ≤ 9223372036854775808 := by have := Int.ediv_le_self b (show 0 ≤ a by omega); omega
  have hq : a.tdiv b = a / b := Int.tdiv_eq_ediv_of_nonneg (by omega)
  have H1 := Lib.hid (neg_div a b hb)
  have H2 := Lib.hid (neg_mod a b hb)
  by_cases hm : a % b = 0
  · have h5 : (-(a % b) != 0) = false := by simp [hm]
    have Hm := Lib.hid hm
    clear hm
    by_cases h1 : (-a == -9223372036854775808) = true
    all_goals
      go_enter Tryz.func193, Tryz.ntmps193
      go_wp2
      go_quiet (fail)
      go_wp2
      go_ret3
      exact ⟨ret_i3 (by rw [H1.out, if_pos Hm.out]) (by rw [H2.out, if_pos Hm.out, Hm.out]; rfl) (by rfl), _, rfl⟩
  · have h5 : (-(a % b) != 0) = true := by simp [hm]
    have h6 : decide (0 < a % b) = true := by simp; omega
    have q5 : 2 * (a / b) ≤ a := div_half a b (by omega) (by omega)
    have Hm := Lib.hid hm
    clear hm
    by_cases h1 : (-a == -9223372036854775808) = true
    all_goals
      go_enter Tryz.func193, Tryz.ntmps193
      go_wp2
      go_quiet (fail)
      go_wp2
      go_ret3
      exact ⟨ret_i3 (by rw [H1.out, if_neg Hm.out]) (by rw [H2.out, if_neg Hm.out]; omega) (by rfl), _, rfl⟩
theorem RDiv_c (a b : Int) (w : World) (hb : 0 < b) (hb2 : b ≤ 9223372036854775807) (ha : -9223372036854775808 ≤ a) (ha2 : a ≤ 9223372036854775807) :
    Calls Tryz.prog 193 #[.int .i64 a, .int .i64 b] w fun e w' => e = .returned (.tuple #[.int .i64 (a / b), .int .i64 (a % b), .int .i64 0]) ∧ ∃ n, w.drewN n = w' := by
  by_cases h : 0 ≤ a
  · exact RDiv_nn a b w hb hb2 h ha2
  · have e : a = -(-a) := by omega
    rw [e]
    exact RDiv_neg (-a) b w hb hb2 (by omega) (by omega)
theorem Mod_c (a b : Int) (w : World) (hb : 0 < b) (hb2 : b ≤ 9223372036854775807) (ha : -9223372036854775808 ≤ a) (ha2 : a ≤ 9223372036854775807) :
    Calls Tryz.prog 118 #[.int .i64 a, .int .i64 b] w fun e w' => e = .returned (.int .i64 (a % b)) ∧ ∃ n, w.drewN n = w' := by
  go_enter Tryz.func118, Tryz.ntmps118
  go_wp2_with (go_at_call 161; refine (Div_c _ _ _ hb hb2 ha ha2).mono ?_; rintro e w' ⟨rfl, nq, rfl⟩)
  go_ret
  exact ⟨rfl, _, rfl⟩
theorem RFloor_c (a b : Int) (w : World) (hb : 0 < b) (hb2 : b ≤ 9223372036854775807) (ha : -9223372036854775808 ≤ a) (ha2 : a ≤ 9223372036854775807) :
    Calls Tryz.prog 175 #[.int .i64 a, .int .i64 b] w fun e w' => e = .returned (.int .i64 (a / b)) ∧ ∃ n, w.drewN n = w' := by
  go_enter Tryz.func175, Tryz.ntmps175
  go_wp2_with (go_at_call 193; refine (RDiv_c _ _ _ hb hb2 ha ha2).mono ?_; rintro e w' ⟨rfl, nq, rfl⟩)
  go_ret
  exact ⟨rfl, _, rfl⟩
end Go.Proofs.YtgndogpgfgliaaaGreatDoor
/- The walks of package civil and of its reference, as far as this seat reaches them. -/
namespace Go.Proofs.YtgndogpgfgliaaaGreatDoor
open Go.RowKit

theorem yr_yes {y : Int} (h1 : 1 ≤ y) (h2 : y ≤ 9999) : yrB y = true := by unfold yrB; simp; omega
theorem yr_no {y : Int} (h : ¬ (1 ≤ y ∧ y ≤ 9999)) : yrB y = false := by unfold yrB; simp; omega

set_option maxHeartbeats 400000 in
theorem year_c (y : Int) (w : World) : Calls Tryz.prog 213 #[.int .i64 y] w fun e w' => e = .returned (.bool (yrB y)) ∧ w = w' := by
  unfold yrB
  by_cases h1 : 1 ≤ y
  · have d1 : decide (1 ≤ y) = true := by simp; omega
    by_cases h2 : y ≤ 9999
    all_goals
      go_enter Tryz.func213, Tryz.ntmps213
      go_wp2
      go_ret
      exact ⟨ret_b (by simp [h1, h2]), rfl⟩
  · have d1 : decide (1 ≤ y) = false := by simp; omega
    go_enter Tryz.func213, Tryz.ntmps213
    go_wp2
    go_ret
    exact ⟨ret_b (by simp), rfl⟩

theorem leap4 (y : Int) : lpB y = ((y % 4 == 0) && ((y % 100 != 0) || (y % 400 == 0))) := by
  unfold lpB
  rw [Bool.eq_iff_iff]
  simp

set_option maxHeartbeats 400000 in
theorem leap_c (y : Int) (w : World) (h1 : 1 ≤ y) (h2 : y ≤ 9999) : Calls Tryz.prog 214 #[.int .i64 y] w fun e w' => e = .returned (.bool (lpB y)) ∧ w = w' := by
  rw [leap4]
  have hy := yr_yes h1 h2
  rcases Bool.eq_false_or_eq_true (y % 4 == 0) with a4 | a4 <;> rcases Bool.eq_false_or_eq_true (y % 100 != 0) with a1 | a1 <;> rcases Bool.eq_false_or_eq_true (y % 400 == 0) with a0 | a0
  all_goals
    rw [a4, a1, a0]
    go_enter Tryz.func214, Tryz.ntmps214
    go_wp2_with (go_at_call 213; refine (year_c _ _).mono ?_; rintro e w' ⟨rfl, rfl⟩)
    go_ret
    exact ⟨rfl, rfl⟩
set_option maxHeartbeats 400000 in
theorem rleap_c (y : Int) (w : World) (h1 : 1 ≤ y) (h2 : y ≤ 9999) : Calls Tryz.prog 194 #[.int .i64 y] w fun e w' => e = .returned (.bool (lpB y)) ∧ w = w' := by
  rw [leap4]
  rcases Bool.eq_false_or_eq_true (y % 4 == 0) with a4 | a4 <;> rcases Bool.eq_false_or_eq_true (y % 100 != 0) with a1 | a1 <;> rcases Bool.eq_false_or_eq_true (y % 400 == 0) with a0 | a0
  all_goals first
    | (exfalso; simp at a4 a1 a0; omega)
    | (rw [a4, a1, a0]
       go_enter Tryz.func194, Tryz.ntmps194
       go_wp2
       go_ret
       exact ⟨rfl, rfl⟩)

theorem mi_0 (w : World) : (Instr.index 215 (.agg #[.int .i64 31, .int .i64 28, .int .i64 31, .int .i64 30, .int .i64 31, .int .i64 30, .int .i64 31, .int .i64 31, .int .i64 30, .int .i64 31, .int .i64 30, .int .i64 31]) (.int .i64 0)).run Tryz.prog w = .ok (.int .i64 31) w := by kernel_rfl
theorem mi_1 (w : World) : (Instr.index 215 (.agg #[.int .i64 31, .int .i64 28, .int .i64 31, .int .i64 30, .int .i64 31, .int .i64 30, .int .i64 31, .int .i64 31, .int .i64 30, .int .i64 31, .int .i64 30, .int .i64 31]) (.int .i64 1)).run Tryz.prog w = .ok (.int .i64 28) w := by kernel_rfl
theorem mi_2 (w : World) : (Instr.index 215 (.agg #[.int .i64 31, .int .i64 28, .int .i64 31, .int .i64 30, .int .i64 31, .int .i64 30, .int .i64 31, .int .i64 31, .int .i64 30, .int .i64 31, .int .i64 30, .int .i64 31]) (.int .i64 2)).run Tryz.prog w = .ok (.int .i64 31) w := by kernel_rfl
theorem mi_3 (w : World) : (Instr.index 215 (.agg #[.int .i64 31, .int .i64 28, .int .i64 31, .int .i64 30, .int .i64 31, .int .i64 30, .int .i64 31, .int .i64 31, .int .i64 30, .int .i64 31, .int .i64 30, .int .i64 31]) (.int .i64 3)).run Tryz.prog w = .ok (.int .i64 30) w := by kernel_rfl
theorem mi_4 (w : World) : (Instr.index 215 (.agg #[.int .i64 31, .int .i64 28, .int .i64 31, .int .i64 30, .int .i64 31, .int .i64 30, .int .i64 31, .int .i64 31, .int .i64 30, .int .i64 31, .int .i64 30, .int .i64 31]) (.int .i64 4)).run Tryz.prog w = .ok (.int .i64 31) w := by kernel_rfl
theorem mi_5 (w : World) : (Instr.index 215 (.agg #[.int .i64 31, .int .i64 28, .int .i64 31, .int .i64 30, .int .i64 31, .int .i64 30, .int .i64 31, .int .i64 31, .int .i64 30, .int .i64 31, .int .i64 30, .int .i64 31]) (.int .i64 5)).run Tryz.prog w = .ok (.int .i64 30) w := by kernel_rfl
theorem mi_6 (w : World) : (Instr.index 215 (.agg #[.int .i64 31, .int .i64 28, .int .i64 31, .int .i64 30, .int .i64 31, .int .i64 30, .int .i64 31, .int .i64 31, .int .i64 30, .int .i64 31, .int .i64 30, .int .i64 31]) (.int .i64 6)).run Tryz.prog w = .ok (.int .i64 31) w := by kernel_rfl
theorem mi_7 (w : World) : (Instr.index 215 (.agg #[.int .i64 31, .int .i64 28, .int .i64 31, .int .i64 30, .int .i64 31, .int .i64 30, .int .i64 31, .int .i64 31, .int .i64 30, .int .i64 31, .int .i64 30, .int .i64 31]) (.int .i64 7)).run Tryz.prog w = .ok (.int .i64 31) w := by kernel_rfl
theorem mi_8 (w : World) : (Instr.index 215 (.agg #[.int .i64 31, .int .i64 28, .int .i64 31, .int .i64 30, .int .i64 31, .int .i64 30, .int .i64 31, .int .i64 31, .int .i64 30, .int .i64 31, .int .i64 30, .int .i64 31]) (.int .i64 8)).run Tryz.prog w = .ok (.int .i64 30) w := by kernel_rfl
theorem mi_9 (w : World) : (Instr.index 215 (.agg #[.int .i64 31, .int .i64 28, .int .i64 31, .int .i64 30, .int .i64 31, .int .i64 30, .int .i64 31, .int .i64 31, .int .i64 30, .int .i64 31, .int .i64 30, .int .i64 31]) (.int .i64 9)).run Tryz.prog w = .ok (.int .i64 31) w := by kernel_rfl
theorem mi_10 (w : World) : (Instr.index 215 (.agg #[.int .i64 31, .int .i64 28, .int .i64 31, .int .i64 30, .int .i64 31, .int .i64 30, .int .i64 31, .int .i64 31, .int .i64 30, .int .i64 31, .int .i64 30, .int .i64 31]) (.int .i64 10)).run Tryz.prog w = .ok (.int .i64 30) w := by kernel_rfl
theorem mi_11 (w : World) : (Instr.index 215 (.agg #[.int .i64 31, .int .i64 28, .int .i64 31, .int .i64 30, .int .i64 31, .int .i64 30, .int .i64 31, .int .i64 31, .int .i64 30, .int .i64 31, .int .i64 30, .int .i64 31]) (.int .i64 11)).run Tryz.prog w = .ok (.int .i64 31) w := by kernel_rfl

set_option maxRecDepth 100000 in
set_option maxHeartbeats 1000000 in
theorem length_c (y m : Int) (w : World) : Calls Tryz.prog 192 #[.int .i64 y, .int .i64 m] w fun e w' => e = .returned (.int .i64 (mlen y m)) ∧ w = w' := by
  by_cases hy : 1 ≤ y ∧ y ≤ 9999
  · obtain ⟨h1, h2⟩ := hy
    have hyr := yr_yes h1 h2
    by_cases hm : 1 ≤ m ∧ m ≤ 12
    · obtain ⟨g1, g2⟩ := hm
      rcases m12 g1 g2 with rfl | rfl | rfl | rfl | rfl | rfl | rfl | rfl | rfl | rfl | rfl | rfl
      case inr.inl =>
        rcases Bool.eq_false_or_eq_true (lpB y) with hl | hl
        · have Hl : Hid (mlen y 2 = 29) := by simp [Hid, mlen, lp, hl, h1, h2]
          go_enter Tryz.func192, Tryz.ntmps192
          go_wp2_with (first | (go_at_call 213; refine (year_c _ _).mono ?_; rintro e w' ⟨rfl, rfl⟩) | (go_at_call 214; refine (leap_c _ _ h1 h2).mono ?_; rintro e w' ⟨rfl, rfl⟩))
          go_ret
          exact ⟨ret_i Hl.out.symm, rfl⟩
        · have Hl : Hid (mlen y 2 = 28) := by simp [Hid, mlen, lp, hl, h1, h2]
          have i1 := mi_1
          go_enter Tryz.func192, Tryz.ntmps192
          go_wp2_with (first | (go_at_call 213; refine (year_c _ _).mono ?_; rintro e w' ⟨rfl, rfl⟩) | (go_at_call 214; refine (leap_c _ _ h1 h2).mono ?_; rintro e w' ⟨rfl, rfl⟩))
          go_ret
          exact ⟨ret_i Hl.out.symm, rfl⟩
      all_goals
        have i0 := mi_0; have i1 := mi_1; have i2 := mi_2; have i3 := mi_3; have i4 := mi_4; have i5 := mi_5; have i6 := mi_6; have i7 := mi_7; have i8 := mi_8; have i9 := mi_9; have i10 := mi_10; have i11 := mi_11
        go_enter Tryz.func192, Tryz.ntmps192
        go_wp2_with (go_at_call 213; refine (year_c _ _).mono ?_; rintro e w' ⟨rfl, rfl⟩)
        go_ret
        exact ⟨ret_i (by simp [mlen, h1, h2]), rfl⟩
    · have Hz := Lib.hid (mlen_zero y m (by omega))
      by_cases g1 : m < 1
      · have d1 : decide (m < 1) = true := by simp; omega
        go_enter Tryz.func192, Tryz.ntmps192
        go_wp2_with (go_at_call 213; refine (year_c _ _).mono ?_; rintro e w' ⟨rfl, rfl⟩)
        go_ret
        exact ⟨ret_i Hz.out.symm, rfl⟩
      · have d1 : decide (m < 1) = false := by simp; omega
        have d2 : decide (12 < m) = true := by simp; omega
        go_enter Tryz.func192, Tryz.ntmps192
        go_wp2_with (go_at_call 213; refine (year_c _ _).mono ?_; rintro e w' ⟨rfl, rfl⟩)
        go_ret
        exact ⟨ret_i Hz.out.symm, rfl⟩
  · have Hz := Lib.hid (mlen_zero y m (by omega))
    have hyr := yr_no hy
    clear hy
    go_enter Tryz.func192, Tryz.ntmps192
    go_wp2_with (go_at_call 213; refine (year_c _ _).mono ?_; rintro e w' ⟨rfl, rfl⟩)
    go_ret
    exact ⟨ret_i Hz.out.symm, rfl⟩
end Go.Proofs.YtgndogpgfgliaaaGreatDoor
/- The walks of package civil and of its reference, as far as this seat reaches them: validity and the number of a date's day. -/
namespace Go.Proofs.YtgndogpgfgliaaaGreatDoor
open Go.RowKit

set_option maxHeartbeats 1000000 in
theorem rlength_c (y m : Int) (w : World) : Calls Tryz.prog 176 #[.int .i64 y, .int .i64 m] w fun e w' => e = .returned (.int .i64 (mlen y m)) ∧ w = w' := by
  by_cases hy : 1 ≤ y ∧ y ≤ 9999
  · obtain ⟨h1, h2⟩ := hy
    by_cases hm : 1 ≤ m ∧ m ≤ 12
    · obtain ⟨g1, g2⟩ := hm
      rcases m12 g1 g2 with rfl | rfl | rfl | rfl | rfl | rfl | rfl | rfl | rfl | rfl | rfl | rfl
      case inr.inl =>
        rcases Bool.eq_false_or_eq_true (lpB y) with hl | hl
        all_goals
          have Hl : Hid (mlen y 2 = if lpB y then 29 else 28) := by simp [Hid, mlen, lp, hl, h1, h2]
          have H2 := Lib.hid hl
          go_enter Tryz.func176, Tryz.ntmps176
          go_wp2_with (go_at_call 194; refine (rleap_c _ _ h1 h2).mono ?_; rintro e w' ⟨rfl, rfl⟩)
          go_ret
          exact ⟨ret_i (by rw [Hl.out, H2.out]; rfl), rfl⟩
      all_goals
        go_enter Tryz.func176, Tryz.ntmps176
        go_wp2
        go_ret
        exact ⟨ret_i (by simp [mlen, h1, h2]), rfl⟩
    · have Hz := Lib.hid (mlen_zero y m (by omega))
      by_cases g1 : m < 1
      all_goals
        go_enter Tryz.func176, Tryz.ntmps176
        go_wp2
        go_ret
        exact ⟨ret_i Hz.out.symm, rfl⟩
  · have Hz := Lib.hid (mlen_zero y m (by omega))
    by_cases g1 : y < 1
    · have d1 : decide (y < 1) = true := by simp; omega
      go_enter Tryz.func176, Tryz.ntmps176
      go_wp2
      go_ret
      exact ⟨ret_i Hz.out.symm, rfl⟩
    · have d1 : decide (y < 1) = false := by simp; omega
      have d2 : decide (9999 < y) = true := by simp; omega
      go_enter Tryz.func176, Tryz.ntmps176
      go_wp2
      go_ret
      exact ⟨ret_i Hz.out.symm, rfl⟩

theorem vld_no1 {y m d : Int} (h : ¬ 1 ≤ d) : vldB y m d = false := by unfold vldB; simp; omega
theorem vld_eq {y m d : Int} (h : 1 ≤ d) : vldB y m d = decide (d ≤ mlen y m) := by
  unfold vldB
  rw [Bool.eq_iff_iff]; simp; omega

set_option maxHeartbeats 400000 in
theorem valid_c (y m d : Int) (w : World) : Calls Tryz.prog 172 #[.agg #[.int .i64 y, .int .i64 m, .int .i64 d]] w fun e w' => e = .returned (.bool (vldB y m d)) ∧ Ext w w' := by
  by_cases h : 1 ≤ d
  · rw [vld_eq h]
    go_enter Tryz.func172, Tryz.ntmps172
    go_wp2
    go_quiet ((go_at_call 192; exact quiet_of0 ((length_c _ _ _).mono fun _ _ ⟨a, b⟩ => ⟨a, 0, b⟩)))
    go_wp2
    go_ret
    exact ⟨rfl, ((Ext.refl w).alloc _).drewN _⟩
  · rw [vld_no1 h]
    have hd : decide (1 ≤ d) = false := by simp; omega
    go_enter Tryz.func172, Tryz.ntmps172
    go_wp2
    go_quiet (fail)
    go_wp2
    go_ret
    exact ⟨rfl, ((Ext.refl w).alloc _).drewN _⟩
set_option maxHeartbeats 400000 in
theorem rvalid_c (y m d : Int) (w : World) : Calls Tryz.prog 154 #[.agg #[.int .i64 y, .int .i64 m, .int .i64 d]] w fun e w' => e = .returned (.bool (vldB y m d)) ∧ Ext w w' := by
  by_cases h : 1 ≤ d
  · rw [vld_eq h]
    go_enter Tryz.func154, Tryz.ntmps154
    go_wp2
    go_quiet ((go_at_call 176; exact quiet_of0 ((rlength_c _ _ _).mono fun _ _ ⟨a, b⟩ => ⟨a, 0, b⟩)))
    go_wp2
    go_ret
    exact ⟨rfl, ((Ext.refl w).alloc _).drewN _⟩
  · rw [vld_no1 h]
    have hd : decide (1 ≤ d) = false := by simp; omega
    go_enter Tryz.func154, Tryz.ntmps154
    go_wp2
    go_quiet (fail)
    go_wp2
    go_ret
    exact ⟨rfl, ((Ext.refl w).alloc _).drewN _⟩

set_option maxHeartbeats 400000 in
theorem count_c (y m d : Int) (w : World) (h1 : 1 ≤ y) (h2 : y ≤ 10000) (g1 : 1 ≤ m) (g2 : m ≤ 12) (k1 : 1 ≤ d) (k2 : d ≤ 31) :
    Calls Tryz.prog 173 #[.int .i64 y, .int .i64 m, .int .i64 d] w fun e w' => e = .returned (.int .i64 (dn y m d)) ∧ w = w' := by
  rw [← cnt_eq y m d g1 g2]
  by_cases hm : m ≤ 2
  · have Hc : Hid (cnt y m d = _) := Lib.hid (if_pos hm)
    go_enter Tryz.func173, Tryz.ntmps173
    go_wp2
    go_ret
    exact ⟨ret_i (by rw [Hc.out]), rfl⟩
  · have Hc : Hid (cnt y m d = _) := Lib.hid (if_neg hm)
    go_enter Tryz.func173, Tryz.ntmps173
    go_wp2
    go_ret
    exact ⟨ret_i (by rw [Hc.out]), rfl⟩

set_option maxHeartbeats 400000 in
theorem first_c (y : Int) (w : World) (h1 : 1 ≤ y) (h2 : y ≤ 10000) :
    Calls Tryz.prog 156 #[.int .i64 y] w fun e w' => e = .returned (.int .i64 (yd y)) ∧ w = w' := by
  unfold yd
  go_enter Tryz.func156, Tryz.ntmps156
  go_wp2
  go_ret
  exact ⟨ret_i (by first | rfl | omega), rfl⟩

def insB (n : Int) : Bool := decide (-719162 ≤ n ∧ n < 2932897)
set_option maxHeartbeats 400000 in
theorem inside_c (n : Int) (w : World) : Calls Tryz.prog 177 #[.int .i64 n] w fun e w' => e = .returned (.bool (insB n)) ∧ w = w' := by
  unfold insB
  by_cases h1 : -719162 ≤ n
  · have d1 : decide (-719162 ≤ n) = true := by simp; omega
    by_cases h2 : n < 2932897
    all_goals
      go_enter Tryz.func177, Tryz.ntmps177
      go_wp2
      go_ret
      exact ⟨ret_b (by simp [h1, h2]), rfl⟩
  · have d1 : decide (-719162 ≤ n) = false := by simp; omega
    go_enter Tryz.func177, Tryz.ntmps177
    go_wp2
    go_ret
    exact ⟨ret_b (by simp), rfl⟩
end Go.Proofs.YtgndogpgfgliaaaGreatDoor
/- The walks of package civil and of its reference: a date's day, and a day's date. -/
namespace Go.Proofs.YtgndogpgfgliaaaGreatDoor
open Go.RowKit

set_option maxHeartbeats 400000 in
theorem day_yes (y m d : Int) (w : World) (hv : vldB y m d = true) : Calls Tryz.prog 133 #[.agg #[.int .i64 y, .int .i64 m, .int .i64 d]] w fun e w' => e = .returned (.tuple #[.int .i64 (dn y m d), .int .i64 0]) ∧ Ext w w' := by
  obtain ⟨a, b, c, f, g, i, _⟩ := vld_parts hv
  go_enter Tryz.func133, Tryz.ntmps133
  go_wp2_with (first
    | (go_at_call 172; refine (valid_c _ _ _ _).mono ?_; rintro e w1 ⟨rfl, hE⟩; have hc := hE.cells)
    | (go_at_call 173; refine (count_c _ _ _ _ a (by omega) c f g i).mono ?_; rintro e w2 ⟨rfl, rfl⟩))
  go_ret2
  exact ⟨rfl, ((Ext.refl w).alloc _).trans hE⟩
set_option maxHeartbeats 400000 in
theorem day_no (y m d : Int) (w : World) (hv : vldB y m d = false) : Calls Tryz.prog 133 #[.agg #[.int .i64 y, .int .i64 m, .int .i64 d]] w fun e w' => e = .returned (.tuple #[.int .i64 0, .int .i64 1]) ∧ Ext w w' := by
  go_enter Tryz.func133, Tryz.ntmps133
  go_wp2_with (go_at_call 172; refine (valid_c _ _ _ _).mono ?_; rintro e w1 ⟨rfl, hE⟩)
  go_ret2
  exact ⟨rfl, ((Ext.refl w).alloc _).trans hE⟩

set_option maxHeartbeats 1000000 in
theorem yearday_yes (y m d : Int) (w : World) (hv : vldB y m d = true) : Calls Tryz.prog 157 #[.agg #[.int .i64 y, .int .i64 m, .int .i64 d]] w fun e w' => e = .returned (.int .i64 (cum y m + d)) ∧ Ext w w' := by
  obtain ⟨a, b, c, f, g, i, _⟩ := vld_parts hv
  go_enter Tryz.func157, Tryz.ntmps157
  go_wp2_with (first
    | (go_at_call 154; refine (rvalid_c _ _ _ _).mono ?_; rintro e w1 ⟨rfl, hE⟩; have hc := hE.cells))
  go_loop [3, 4] (fun n k => ∃ j : Int, 1 ≤ j ∧ j ≤ m ∧ k = .int .i64 j ∧ n = .int .i64 (cum y j + d)) (fun _ k => (m - intOf k).toNat)
  case atStart => exact ⟨1, by omega, by omega, rfl, by rw [cum1]; simp⟩
  case round =>
    obtain ⟨j, hj1, hj2, rfl, rfl⟩ := hrel
    have hb := cum_bd y j hj1 (by omega)
    have hl := mlen_bd y j
    have hp := lp_01 y
    by_cases hlt : j < m
    · have Hs := Lib.hid (cum_succ y j a b hj1 (by omega))
      go_wp2_with (first | (go_at_call 176; refine (rlength_c _ _ _).mono ?_; rintro e w2 ⟨rfl, rfl⟩))
      go_round
      case rel => exact ⟨j + 1, by omega, by omega, rfl, by rw [Hs.out]; congr 1; omega⟩
      case measure => simp [intOf]; omega
    · obtain rfl : j = m := by omega
      go_wp2
      go_ret
      exact ⟨rfl, ((Ext.refl w).alloc _).trans hE⟩

set_option maxHeartbeats 1000000 in
theorem rday_yes (y m d : Int) (w : World) (hv : vldB y m d = true) : Calls Tryz.prog 113 #[.agg #[.int .i64 y, .int .i64 m, .int .i64 d]] w fun e w' => e = .returned (.tuple #[.int .i64 (dn y m d), .int .i64 0]) ∧ Ext w w' := by
  obtain ⟨a, b, c, f, g, i, _⟩ := vld_parts hv
  have q1 := cum_bd y m c (by omega)
  have q2 := lp_01 y
  have q3 := yd_bd y a (by omega)
  have Hd : Hid (dn y m d = yd y + (cum y m + d) - 1) := by unfold Hid dn; omega
  go_enter Tryz.func113, Tryz.ntmps113
  go_wp2_with (first
    | (go_at_call 154; refine (rvalid_c _ _ _ _).mono ?_; rintro e w1 ⟨rfl, hE⟩; have hc := hE.cells))
  go_region_with (first
    | (go_at_call 156; refine (first_c _ _ a (by omega)).mono ?_; rintro e w2 ⟨rfl, rfl⟩)
    | (go_at_call 157; refine (yearday_yes _ _ _ _ hv).mono ?_; rintro e w2 ⟨rfl, hE2⟩))
  all_goals
    go_wp2
    go_ret2
    exact ⟨ret_i2 (by rw [IntWalk.i64_in (yd y + (cum y m + d)) (by omega), IntWalk.i64_in _ (by omega)]; exact Hd.out.symm) rfl, (((Ext.refl w).alloc _).trans hE).drew.trans hE2⟩

set_option maxHeartbeats 400000 in
theorem rday_no (y m d : Int) (w : World) (hv : vldB y m d = false) : Calls Tryz.prog 113 #[.agg #[.int .i64 y, .int .i64 m, .int .i64 d]] w fun e w' => e = .returned (.tuple #[.int .i64 0, .int .i64 1]) ∧ Ext w w' := by
  go_enter Tryz.func113, Tryz.ntmps113
  go_wp2_with (go_at_call 154; refine (rvalid_c _ _ _ _).mono ?_; rintro e w1 ⟨rfl, hE⟩)
  go_ret2
  exact ⟨rfl, ((Ext.refl w).alloc _).trans hE⟩

theorem guess (n : Int) (h1 : -719162 ≤ n) (h2 : n < 2932897) : yd ((n + 719162) / 366 + 1) ≤ n := by unfold yd; omega

set_option maxHeartbeats 400000 in
theorem date_no (n : Int) (w : World) (h : insB n = false) :
    Calls Tryz.prog 147 #[.int .i64 n] w fun e w' => e = .returned (.tuple #[.agg #[.int .i64 0, .int .i64 0, .int .i64 0], .int .i64 2]) ∧ Ext w w' := by
  go_enter Tryz.func147, Tryz.ntmps147
  go_wp2_with (go_at_call 177; refine (inside_c _ _).mono ?_; rintro e w1 ⟨rfl, rfl⟩)
  exact bodyPost_ret (v := .tuple #[.agg #[.int .i64 0, .int .i64 0, .int .i64 0], .int .i64 2]) (by simp [results, Tryz.results147, go_sem]) rfl ⟨rfl, ((Ext.refl w).alloc _)⟩

set_option maxHeartbeats 1000000 in
theorem date_yes (n : Int) (w : World) (h : insB n = true) :
    Calls Tryz.prog 147 #[.int .i64 n] w fun e w' => ∃ y m d : Int, e = .returned (.tuple #[.agg #[.int .i64 y, .int .i64 m, .int .i64 d], .int .i64 0]) ∧ IsDate n y m d ∧ Ext w w' := by
  have hn : -719162 ≤ n ∧ n < 2932897 := by simpa [insB] using h
  obtain ⟨n1, n2⟩ := hn
  have g0 := Lib.hid (guess n n1 n2)
  have hdiv : (n + 719162) / 366 ≤ 9998 := by omega
  have hdiv0 : 0 ≤ (n + 719162) / 366 := by omega
  go_enter Tryz.func147, Tryz.ntmps147
  go_wp2_with (go_at_call 177; refine (inside_c _ _).mono ?_; rintro e w1 ⟨rfl, rfl⟩)
  go_loop [4] (fun t => ∃ y : Int, 1 ≤ y ∧ y ≤ 9999 ∧ yd y ≤ n ∧ t = .int .i64 y) (fun t => (9999 - intOf t).toNat)
  case atStart => exact ⟨_, by omega, by omega, g0.out, rfl⟩
  case round =>
    obtain ⟨y, hy1, hy2, hy3, rfl⟩ := hrel
    have hb := yd_bd (y + 1) (by omega) (by omega)
    have Hf : Hid (∀ z, dn z 1 1 = yd z) := by intro z; unfold dn; rw [cum1]; omega
    by_cases hc : y < 9999 ∧ yd (y + 1) ≤ n
    · obtain ⟨hlt, hd⟩ := hc
      go_wp2_with (go_at_call 173; refine (count_c _ _ _ _ (by omega) (by omega) (by omega) (by omega) (by omega) (by omega)).mono ?_; rintro e w' ⟨rfl, rfl⟩; rw [Hf.out])
      go_round
      case rel => exact ⟨y + 1, by omega, by omega, hd, rfl⟩
      case measure => simp [intOf]; omega
    · have hz : n < yd (y + 1) := by
        by_cases e : y = 9999
        · subst e; have : yd (9999 + 1) = 2932897 := by decide
          omega
        · omega
      have hs := yd_succ y
      have hl := lp_01 y
      have Hs := Lib.hid hs
      clear hc hs
      by_cases hlt : y < 9999
      all_goals
        go_wp2_with (go_at_call 173; refine (count_c _ _ _ _ (by omega) (by omega) (by omega) (by omega) (by omega) (by omega)).mono ?_; rintro e w' ⟨rfl, rfl⟩; rw [Hf.out])
        go_loop [5] (fun k => ∃ m : Int, 1 ≤ m ∧ m ≤ 12 ∧ k = .int .i64 m ∧ yd y + cum y m ≤ n) (fun k => (12 - intOf k).toNat)
        case atStart => exact ⟨1, by omega, by omega, rfl, by rw [cum1]; omega⟩
        case round =>
          obtain ⟨m, hm1, hm2, rfl, hr⟩ := hrel
          have Hg : Hid (∀ z, dn y z 1 = yd y + cum y z) := by intro z; unfold dn; omega
          have cb := cum_bd y m hm1 (by omega)
          have yb := yd_bd y (by omega) (by omega)
          by_cases hc : m < 12 ∧ yd y + cum y (m + 1) ≤ n
          · obtain ⟨hm, hd⟩ := hc
            go_wp2_with (go_at_call 173; refine (count_c _ _ _ _ (by omega) (by omega) (by omega) (by omega) (by omega) (by omega)).mono ?_; rintro e w' ⟨rfl, rfl⟩; rw [Hg.out])
            go_round
            case rel => exact ⟨m + 1, by omega, by omega, rfl, hd⟩
            case measure => simp [intOf]; omega
          · have hv : n < yd y + cum y (m + 1) := by
              by_cases e : m = 12
              · subst e; have := cum13 y; have := Hs.out; rw [show (12 : Int) + 1 = 13 from rfl]; omega
              · omega
            have Hr := Lib.hid (IsDate.of hy1 hy2 hm1 hm2 hr hv)
            clear hc
            by_cases hm : m < 12
            all_goals
              go_wp2_with (go_at_call 173; refine (count_c _ _ _ _ (by omega) (by omega) (by omega) (by omega) (by omega) (by omega)).mono ?_; rintro e w' ⟨rfl, rfl⟩; rw [Hg.out])
              exact bodyPost_ret (v := .tuple #[.agg #[.int .i64 y, .int .i64 m, .int .i64 (n - (yd y + cum y m) + 1)], .int .i64 0]) (by simp [results, Tryz.results147, go_sem]) rfl ⟨y, m, _, rfl, Hr.out, ((Ext.refl w).alloc _)⟩
end Go.Proofs.YtgndogpgfgliaaaGreatDoor
