/- The walks of package civil and of its reference: a date's day, and a day's date. -/
import Derived.Test.YtplckoffiebibaaDoorCiv2
namespace Go.Proofs.YtplckoffiebibaaDoor
open Go.RowKit

set_option maxHeartbeats 400000 in
theorem day_yes (y m d : Int) (w : World) (hv : vldB y m d = true) : Calls Tryd.prog 29 #[.agg #[.int .i64 y, .int .i64 m, .int .i64 d]] w fun e w' => e = .returned (.tuple #[.int .i64 (dn y m d), .int .i64 0]) ∧ Ext w w' := by
  obtain ⟨a, b, c, f, g, i, _⟩ := vld_parts hv
  go_enter Tryd.func29, Tryd.ntmps29
  go_wp2_with (first
    | (go_at_call 50; refine (valid_c _ _ _ _).mono ?_; rintro e w1 ⟨rfl, hE⟩; have hc := hE.cells)
    | (go_at_call 51; refine (count_c _ _ _ _ a (by omega) c f g i).mono ?_; rintro e w2 ⟨rfl, rfl⟩))
  go_ret2
  exact ⟨rfl, ((Ext.refl w).alloc _).trans hE⟩
set_option maxHeartbeats 400000 in
theorem day_no (y m d : Int) (w : World) (hv : vldB y m d = false) : Calls Tryd.prog 29 #[.agg #[.int .i64 y, .int .i64 m, .int .i64 d]] w fun e w' => e = .returned (.tuple #[.int .i64 0, .int .i64 1]) ∧ Ext w w' := by
  go_enter Tryd.func29, Tryd.ntmps29
  go_wp2_with (go_at_call 50; refine (valid_c _ _ _ _).mono ?_; rintro e w1 ⟨rfl, hE⟩)
  go_ret2
  exact ⟨rfl, ((Ext.refl w).alloc _).trans hE⟩

set_option maxHeartbeats 1000000 in
theorem yearday_yes (y m d : Int) (w : World) (hv : vldB y m d = true) : Calls Tryd.prog 79 #[.agg #[.int .i64 y, .int .i64 m, .int .i64 d]] w fun e w' => e = .returned (.int .i64 (cum y m + d)) ∧ Ext w w' := by
  obtain ⟨a, b, c, f, g, i, _⟩ := vld_parts hv
  go_enter Tryd.func79, Tryd.ntmps79
  go_wp2_with (first
    | (go_at_call 47; refine (rvalid_c _ _ _ _).mono ?_; rintro e w1 ⟨rfl, hE⟩; have hc := hE.cells))
  go_loop [3, 4] (fun n k => ∃ j : Int, 1 ≤ j ∧ j ≤ m ∧ k = .int .i64 j ∧ n = .int .i64 (cum y j + d)) (fun _ k => (m - intOf k).toNat)
  case atStart => exact ⟨1, by omega, by omega, rfl, by rw [cum1]; simp⟩
  case round =>
    obtain ⟨j, hj1, hj2, rfl, rfl⟩ := hrel
    have hb := cum_bd y j hj1 (by omega)
    have hl := mlen_bd y j
    have hp := lp_01 y
    by_cases hlt : j < m
    · have Hs := Lib.hid (cum_succ y j a b hj1 (by omega))
      go_wp2_with (first | (go_at_call 77; refine (rlength_c _ _ _).mono ?_; rintro e w2 ⟨rfl, rfl⟩))
      go_round
      case rel => exact ⟨j + 1, by omega, by omega, rfl, by rw [Hs.out]; congr 1; omega⟩
      case measure => simp [intOf]; omega
    · obtain rfl : j = m := by omega
      go_wp2
      go_ret
      exact ⟨rfl, ((Ext.refl w).alloc _).trans hE⟩

set_option maxHeartbeats 1000000 in
theorem rday_yes (y m d : Int) (w : World) (hv : vldB y m d = true) : Calls Tryd.prog 48 #[.agg #[.int .i64 y, .int .i64 m, .int .i64 d]] w fun e w' => e = .returned (.tuple #[.int .i64 (dn y m d), .int .i64 0]) ∧ Ext w w' := by
  obtain ⟨a, b, c, f, g, i, _⟩ := vld_parts hv
  have q1 := cum_bd y m c (by omega)
  have q2 := lp_01 y
  have q3 := yd_bd y a (by omega)
  have Hd : Hid (dn y m d = yd y + (cum y m + d) - 1) := by unfold Hid dn; omega
  go_enter Tryd.func48, Tryd.ntmps48
  go_wp2_with (first
    | (go_at_call 47; refine (rvalid_c _ _ _ _).mono ?_; rintro e w1 ⟨rfl, hE⟩; have hc := hE.cells))
  go_region_with (first
    | (go_at_call 78; refine (first_c _ _ a (by omega)).mono ?_; rintro e w2 ⟨rfl, rfl⟩)
    | (go_at_call 79; refine (yearday_yes _ _ _ _ hv).mono ?_; rintro e w2 ⟨rfl, hE2⟩))
  all_goals
    go_wp2
    go_ret2
    exact ⟨ret_i2 (by rw [IntWalk.i64_in (yd y + (cum y m + d)) (by omega), IntWalk.i64_in _ (by omega)]; exact Hd.out.symm) rfl, (((Ext.refl w).alloc _).trans hE).drew.trans hE2⟩

set_option maxHeartbeats 400000 in
theorem rday_no (y m d : Int) (w : World) (hv : vldB y m d = false) : Calls Tryd.prog 48 #[.agg #[.int .i64 y, .int .i64 m, .int .i64 d]] w fun e w' => e = .returned (.tuple #[.int .i64 0, .int .i64 1]) ∧ Ext w w' := by
  go_enter Tryd.func48, Tryd.ntmps48
  go_wp2_with (go_at_call 47; refine (rvalid_c _ _ _ _).mono ?_; rintro e w1 ⟨rfl, hE⟩)
  go_ret2
  exact ⟨rfl, ((Ext.refl w).alloc _).trans hE⟩

theorem guess (n : Int) (h1 : -719162 ≤ n) (h2 : n < 2932897) : yd ((n + 719162) / 366 + 1) ≤ n := by unfold yd; omega

set_option maxHeartbeats 400000 in
theorem date_no (n : Int) (w : World) (h : insB n = false) :
    Calls Tryd.prog 30 #[.int .i64 n] w fun e w' => e = .returned (.tuple #[.agg #[.int .i64 0, .int .i64 0, .int .i64 0], .int .i64 2]) ∧ Ext w w' := by
  go_enter Tryd.func30, Tryd.ntmps30
  go_wp2_with (go_at_call 52; refine (inside_c _ _).mono ?_; rintro e w1 ⟨rfl, rfl⟩)
  exact bodyPost_ret (v := .tuple #[.agg #[.int .i64 0, .int .i64 0, .int .i64 0], .int .i64 2]) (by simp [results, Tryd.results30, go_sem]) rfl ⟨rfl, ((Ext.refl w).alloc _)⟩

set_option maxHeartbeats 1000000 in
theorem date_yes (n : Int) (w : World) (h : insB n = true) :
    Calls Tryd.prog 30 #[.int .i64 n] w fun e w' => ∃ y m d : Int, e = .returned (.tuple #[.agg #[.int .i64 y, .int .i64 m, .int .i64 d], .int .i64 0]) ∧ IsDate n y m d ∧ Ext w w' := by
  have hn : -719162 ≤ n ∧ n < 2932897 := by simpa [insB] using h
  obtain ⟨n1, n2⟩ := hn
  have g0 := Lib.hid (guess n n1 n2)
  have hdiv : (n + 719162) / 366 ≤ 9998 := by omega
  have hdiv0 : 0 ≤ (n + 719162) / 366 := by omega
  go_enter Tryd.func30, Tryd.ntmps30
  go_wp2_with (go_at_call 52; refine (inside_c _ _).mono ?_; rintro e w1 ⟨rfl, rfl⟩)
  go_loop [4] (fun t => ∃ y : Int, 1 ≤ y ∧ y ≤ 9999 ∧ yd y ≤ n ∧ t = .int .i64 y) (fun t => (9999 - intOf t).toNat)
  case atStart => exact ⟨_, by omega, by omega, g0.out, rfl⟩
  case round =>
    obtain ⟨y, hy1, hy2, hy3, rfl⟩ := hrel
    have hb := yd_bd (y + 1) (by omega) (by omega)
    have Hf : Hid (∀ z, dn z 1 1 = yd z) := by intro z; unfold dn; rw [cum1]; omega
    by_cases hc : y < 9999 ∧ yd (y + 1) ≤ n
    · obtain ⟨hlt, hd⟩ := hc
      go_wp2_with (go_at_call 51; refine (count_c _ _ _ _ (by omega) (by omega) (by omega) (by omega) (by omega) (by omega)).mono ?_; rintro e w' ⟨rfl, rfl⟩; rw [Hf.out])
      go_round
      case rel => exact ⟨y + 1, by omega, by omega, hd, rfl⟩
      case measure => simp [intOf]; omega
    · have hz : n < yd (y + 1) := by
        by_cases e : y = 9999
        · subst e; have : yd (9999 + 1) = 2932897 := by decide
          omega
        · omega
      have hs := yd_succ y
      have hl := lp_01 y
      have Hs := Lib.hid hs
      clear hc hs
      by_cases hlt : y < 9999
      all_goals
        go_wp2_with (go_at_call 51; refine (count_c _ _ _ _ (by omega) (by omega) (by omega) (by omega) (by omega) (by omega)).mono ?_; rintro e w' ⟨rfl, rfl⟩; rw [Hf.out])
        go_loop [5] (fun k => ∃ m : Int, 1 ≤ m ∧ m ≤ 12 ∧ k = .int .i64 m ∧ yd y + cum y m ≤ n) (fun k => (12 - intOf k).toNat)
        case atStart => exact ⟨1, by omega, by omega, rfl, by rw [cum1]; omega⟩
        case round =>
          obtain ⟨m, hm1, hm2, rfl, hr⟩ := hrel
          have Hg : Hid (∀ z, dn y z 1 = yd y + cum y z) := by intro z; unfold dn; omega
          have cb := cum_bd y m hm1 (by omega)
          have yb := yd_bd y (by omega) (by omega)
          by_cases hc : m < 12 ∧ yd y + cum y (m + 1) ≤ n
          · obtain ⟨hm, hd⟩ := hc
            go_wp2_with (go_at_call 51; refine (count_c _ _ _ _ (by omega) (by omega) (by omega) (by omega) (by omega) (by omega)).mono ?_; rintro e w' ⟨rfl, rfl⟩; rw [Hg.out])
            go_round
            case rel => exact ⟨m + 1, by omega, by omega, rfl, hd⟩
            case measure => simp [intOf]; omega
          · have hv : n < yd y + cum y (m + 1) := by
              by_cases e : m = 12
              · subst e; have := cum13 y; have := Hs.out; rw [show (12 : Int) + 1 = 13 from rfl]; omega
              · omega
            have Hr := Lib.hid (IsDate.of hy1 hy2 hm1 hm2 hr hv)
            clear hc
            by_cases hm : m < 12
            all_goals
              go_wp2_with (go_at_call 51; refine (count_c _ _ _ _ (by omega) (by omega) (by omega) (by omega) (by omega) (by omega)).mono ?_; rintro e w' ⟨rfl, rfl⟩; rw [Hg.out])
              exact bodyPost_ret (v := .tuple #[.agg #[.int .i64 y, .int .i64 m, .int .i64 (n - (yd y + cum y m) + 1)], .int .i64 0]) (by simp [results, Tryd.results30, go_sem]) rfl ⟨y, m, _, rfl, Hr.out, ((Ext.refl w).alloc _)⟩
end Go.Proofs.YtplckoffiebibaaDoor
