/- The walks of package integer and of its reference. -/
import Derived.Test.YtplckoffiebibaaDoorBase
namespace Go.Proofs.YtplckoffiebibaaDoor
open Go.RowKit

theorem Div_nn (a b : Int) (w : World) (hb : 0 < b) (hb2 : b ≤ 9223372036854775807) (ha : 0 ≤ a) (ha2 : a ≤ 9223372036854775807) :
    Calls Tryd.prog 45 #[.int .i64 a, .int .i64 b] w fun e w' => e = .returned (.tuple #[.int .i64 (a / b), .int .i64 (a % b), .int .i64 0]) ∧ ∃ n, w.drewN n = w' := by
  have h0 : (b == 0) = false := by simp; omega
  have h1 : (a == -9223372036854775808) = false := by simp; omega
  have q1 := Int.emod_nonneg a (show b ≠ 0 by omega)
  have h3 : decide (b < 0) = false := by simp; omega
  have h4 : decide (a % b < 0) = false := by simp; omega
  go_enter Tryd.func45, Tryd.ntmps45
  go_wp2
  go_quiet (fail)
  go_wp2
  all_goals
    go_ret3
    exact ⟨ret_i3 (by rfl) (by first | rfl | omega) (by rfl), _, rfl⟩
set_option maxHeartbeats 400000 in
theorem Div_neg (a b : Int) (w : World) (hb : 0 < b) (hb2 : b ≤ 9223372036854775807) (ha : 0 < a) (ha2 : a ≤ 9223372036854775808) :
    Calls Tryd.prog 45 #[.int .i64 (-a), .int .i64 b] w fun e w' => e = .returned (.tuple #[.int .i64 (-a / b), .int .i64 (-a % b), .int .i64 0]) ∧ ∃ n, w.drewN n = w' := by
  have h0 : (b == 0) = false := by simp; omega
  have h1 : (b == -1) = false := by simp; omega
  have h3 : decide (b < 0) = false := by simp; omega
  have q1 := Int.emod_nonneg a (show b ≠ 0 by omega)
  have q2 := Int.emod_lt_of_pos a hb
  have q3 := Int.ediv_nonneg (a := a) (b := b) (by omega) (by omega)
  have q4 : a / b ≤ 9223372036854775808 := by have := Int.ediv_le_self b (show 0 ≤ a by omega); omega
  have hq : a.tdiv b = a / b := Int.tdiv_eq_ediv_of_nonneg (by omega)
  have H1 := Lib.hid (neg_div a b hb)
  have H2 := Lib.hid (neg_mod a b hb)
  by_cases hm : a % b = 0
  · have h5 : (-(a % b) != 0) = false := by simp [hm]
    have Hm := Lib.hid hm
    clear hm
    by_cases h1 : (-a == -9223372036854775808) = true
    all_goals
      go_enter Tryd.func45, Tryd.ntmps45
      go_wp2
      go_quiet (fail)
      go_wp2
      go_ret3
      exact ⟨ret_i3 (by rw [H1.out, if_pos Hm.out]) (by rw [H2.out, if_pos Hm.out, Hm.out]; rfl) (by rfl), _, rfl⟩
  · have h5 : (-(a % b) != 0) = true := by simp [hm]
    have h6 : decide (0 < a % b) = true := by simp; omega
    have q5 : 2 * (a / b) ≤ a := div_half a b (by omega) (by omega)
    have Hm := Lib.hid hm
    clear hm
    by_cases h1 : (-a == -9223372036854775808) = true
    all_goals
      go_enter Tryd.func45, Tryd.ntmps45
      go_wp2
      go_quiet (fail)
      go_wp2
      go_ret3
      exact ⟨ret_i3 (by rw [H1.out, if_neg Hm.out]) (by rw [H2.out, if_neg Hm.out]; omega) (by rfl), _, rfl⟩
theorem Div_c (a b : Int) (w : World) (hb : 0 < b) (hb2 : b ≤ 9223372036854775807) (ha : -9223372036854775808 ≤ a) (ha2 : a ≤ 9223372036854775807) :
    Calls Tryd.prog 45 #[.int .i64 a, .int .i64 b] w fun e w' => e = .returned (.tuple #[.int .i64 (a / b), .int .i64 (a % b), .int .i64 0]) ∧ ∃ n, w.drewN n = w' := by
  by_cases h : 0 ≤ a
  · exact Div_nn a b w hb hb2 h ha2
  · have e : a = -(-a) := by omega
    rw [e]
    exact Div_neg (-a) b w hb hb2 (by omega) (by omega)
theorem RDiv_nn (a b : Int) (w : World) (hb : 0 < b) (hb2 : b ≤ 9223372036854775807) (ha : 0 ≤ a) (ha2 : a ≤ 9223372036854775807) :
    Calls Tryd.prog 76 #[.int .i64 a, .int .i64 b] w fun e w' => e = .returned (.tuple #[.int .i64 (a / b), .int .i64 (a % b), .int .i64 0]) ∧ ∃ n, w.drewN n = w' := by
  have h0 : (b == 0) = false := by simp; omega
  have h1 : (a == -9223372036854775808) = false := by simp; omega
  have q1 := Int.emod_nonneg a (show b ≠ 0 by omega)
  have h3 : decide (b < 0) = false := by simp; omega
  have h4 : decide (a % b < 0) = false := by simp; omega
  go_enter Tryd.func76, Tryd.ntmps76
  go_wp2
  go_quiet (fail)
  go_wp2
  all_goals
    go_ret3
    exact ⟨ret_i3 (by rfl) (by first | rfl | omega) (by rfl), _, rfl⟩
set_option maxHeartbeats 400000 in
theorem RDiv_neg (a b : Int) (w : World) (hb : 0 < b) (hb2 : b ≤ 9223372036854775807) (ha : 0 < a) (ha2 : a ≤ 9223372036854775808) :
    Calls Tryd.prog 76 #[.int .i64 (-a), .int .i64 b] w fun e w' => e = .returned (.tuple #[.int .i64 (-a / b), .int .i64 (-a % b), .int .i64 0]) ∧ ∃ n, w.drewN n = w' := by
  have h0 : (b == 0) = false := by simp; omega
  have h1 : (b == -1) = false := by simp; omega
  have h3 : decide (b < 0) = false := by simp; omega
  have q1 := Int.emod_nonneg a (show b ≠ 0 by omega)
  have q2 := Int.emod_lt_of_pos a hb
  have q3 := Int.ediv_nonneg (a := a) (b := b) (by omega) (by omega)
  have q4 : a / b ≤ 9223372036854775808 := by have := Int.ediv_le_self b (show 0 ≤ a by omega); omega
  have hq : a.tdiv b = a / b := Int.tdiv_eq_ediv_of_nonneg (by omega)
  have H1 := Lib.hid (neg_div a b hb)
  have H2 := Lib.hid (neg_mod a b hb)
  by_cases hm : a % b = 0
  · have h5 : (-(a % b) != 0) = false := by simp [hm]
    have Hm := Lib.hid hm
    clear hm
    by_cases h1 : (-a == -9223372036854775808) = true
    all_goals
      go_enter Tryd.func76, Tryd.ntmps76
      go_wp2
      go_quiet (fail)
      go_wp2
      go_ret3
      exact ⟨ret_i3 (by rw [H1.out, if_pos Hm.out]) (by rw [H2.out, if_pos Hm.out, Hm.out]; rfl) (by rfl), _, rfl⟩
  · have h5 : (-(a % b) != 0) = true := by simp [hm]
    have h6 : decide (0 < a % b) = true := by simp; omega
    have q5 : 2 * (a / b) ≤ a := div_half a b (by omega) (by omega)
    have Hm := Lib.hid hm
    clear hm
    by_cases h1 : (-a == -9223372036854775808) = true
    all_goals
      go_enter Tryd.func76, Tryd.ntmps76
      go_wp2
      go_quiet (fail)
      go_wp2
      go_ret3
      exact ⟨ret_i3 (by rw [H1.out, if_neg Hm.out]) (by rw [H2.out, if_neg Hm.out]; omega) (by rfl), _, rfl⟩
theorem RDiv_c (a b : Int) (w : World) (hb : 0 < b) (hb2 : b ≤ 9223372036854775807) (ha : -9223372036854775808 ≤ a) (ha2 : a ≤ 9223372036854775807) :
    Calls Tryd.prog 76 #[.int .i64 a, .int .i64 b] w fun e w' => e = .returned (.tuple #[.int .i64 (a / b), .int .i64 (a % b), .int .i64 0]) ∧ ∃ n, w.drewN n = w' := by
  by_cases h : 0 ≤ a
  · exact RDiv_nn a b w hb hb2 h ha2
  · have e : a = -(-a) := by omega
    rw [e]
    exact RDiv_neg (-a) b w hb hb2 (by omega) (by omega)
theorem Mod_c (a b : Int) (w : World) (hb : 0 < b) (hb2 : b ≤ 9223372036854775807) (ha : -9223372036854775808 ≤ a) (ha2 : a ≤ 9223372036854775807) :
    Calls Tryd.prog 63 #[.int .i64 a, .int .i64 b] w fun e w' => e = .returned (.int .i64 (a % b)) ∧ ∃ n, w.drewN n = w' := by
  go_enter Tryd.func63, Tryd.ntmps63
  go_wp2_with (go_at_call 45; refine (Div_c _ _ _ hb hb2 ha ha2).mono ?_; rintro e w' ⟨rfl, nq, rfl⟩)
  go_ret
  exact ⟨rfl, _, rfl⟩
theorem RFloor_c (a b : Int) (w : World) (hb : 0 < b) (hb2 : b ≤ 9223372036854775807) (ha : -9223372036854775808 ≤ a) (ha2 : a ≤ 9223372036854775807) :
    Calls Tryd.prog 46 #[.int .i64 a, .int .i64 b] w fun e w' => e = .returned (.int .i64 (a / b)) ∧ ∃ n, w.drewN n = w' := by
  go_enter Tryd.func46, Tryd.ntmps46
  go_wp2_with (go_at_call 76; refine (RDiv_c _ _ _ hb hb2 ha ha2).mono ?_; rintro e w' ⟨rfl, nq, rfl⟩)
  go_ret
  exact ⟨rfl, _, rfl⟩
end Go.Proofs.YtplckoffiebibaaDoor
