/- The walk of the reference's Date. -/
import Derived.Test.YtplckoffiebibaaDoorCiv3
namespace Go.Proofs.YtplckoffiebibaaDoor
open Go.RowKit

set_option maxHeartbeats 400000 in
theorem rdate_no (n : Int) (w : World) (h : insB n = false) :
    Calls Tryd.prog 49 #[.int .i64 n] w fun e w' => e = .returned (.tuple #[.agg #[.int .i64 0, .int .i64 0, .int .i64 0], .int .i64 2]) ∧ Ext w w' := by
  have hn : ¬ (-719162 ≤ n ∧ n < 2932897) := by simpa [insB] using h
  by_cases h1 : n < -719162
  all_goals
    go_enter Tryd.func49, Tryd.ntmps49
    go_wp2
    exact bodyPost_ret (v := .tuple #[.agg #[.int .i64 0, .int .i64 0, .int .i64 0], .int .i64 2]) (by simp [results, Tryd.results49, go_sem]) rfl ⟨rfl, ((Ext.refl w).alloc _)⟩

set_option maxHeartbeats 1000000 in
theorem rdate_yes (n : Int) (w : World) (h : insB n = true) :
    Calls Tryd.prog 49 #[.int .i64 n] w fun e w' => ∃ y m d : Int, e = .returned (.tuple #[.agg #[.int .i64 y, .int .i64 m, .int .i64 d], .int .i64 0]) ∧ IsDate n y m d ∧ Ext w w' := by
  have hn : -719162 ≤ n ∧ n < 2932897 := by simpa [insB] using h
  obtain ⟨n1, n2⟩ := hn
  have g0 := Lib.hid (guess n n1 n2)
  have hdiv : (n + 719162) / 366 ≤ 9998 := by omega
  have hdiv0 : 0 ≤ (n + 719162) / 366 := by omega
  have n3 : ¬ n < -719162 := by omega
  have Hy : Hid (∀ y, yd (y + 1) ≤ n → y + 1 ≤ 9999) := by
    intro y hy
    rcases Int.lt_or_le y 9999 with h | h
    · omega
    · have := yd_mono 10000 (y + 1) (by omega)
      have : yd 10000 = 2932897 := by decide
      omega
  go_enter Tryd.func49, Tryd.ntmps49
  go_wp2_with fail
  go_loop [4] (fun t => ∃ y : Int, 1 ≤ y ∧ y ≤ 9999 ∧ yd y ≤ n ∧ t = .int .i64 y) (fun t => (9999 - intOf t).toNat)
  case atStart => exact ⟨_, by omega, by omega, g0.out, rfl⟩
  case round =>
    obtain ⟨y, hy1, hy2, hy3, rfl⟩ := hrel
    have hb := yd_bd (y + 1) (by omega) (by omega)
    by_cases hd : yd (y + 1) ≤ n
    · have hy4 := Hy.out y hd
      go_wp2_with (go_at_call 78; refine (first_c _ _ (by omega) (by omega)).mono ?_; rintro e w' ⟨rfl, rfl⟩)
      go_round
      case rel => exact ⟨y + 1, by omega, by omega, hd, rfl⟩
      case measure => simp [intOf]; omega
    · have hs := yd_succ y
      have hl := lp_01 y
      have yb := yd_bd y (by omega) (by omega)
      have Hs := Lib.hid hs
      clear hs
      go_wp2_with (go_at_call 78; refine (first_c _ _ (by omega) (by omega)).mono ?_; rintro e w' ⟨rfl, rfl⟩)
      go_loop [5, 6] (fun t k => ∃ m : Int, 1 ≤ m ∧ m ≤ 12 ∧ k = .int .i64 m ∧ yd y + cum y m ≤ n ∧ t = .int .i64 (n - (yd y + cum y m) + 1)) (fun _ k => (12 - intOf k).toNat)
      case atStart => exact ⟨1, by omega, by omega, rfl, by rw [cum1]; omega, by rw [cum1]; congr 1; omega⟩
      case round =>
        obtain ⟨m, hm1, hm2, rfl, hr, rfl⟩ := hrel
        have Hc := Lib.hid (cum_succ y m hy1 hy2 hm1 hm2)
        have cb := cum_bd y m hm1 (by omega)
        have lb := mlen_bd y m
        by_cases hd : mlen y m < n - (yd y + cum y m) + 1
        · have hm3 : m < 12 := by
            by_cases e : m = 12
            · subst e; have := cum13 y; have := Hs.out; have h2 := Hc.out; rw [show (12 : Int) + 1 = 13 from rfl] at h2; omega
            · omega
          go_wp2_with (go_at_call 77; refine (rlength_c _ _ _).mono ?_; rintro e w' ⟨rfl, rfl⟩)
          go_round
          case rel => exact ⟨m + 1, by omega, by omega, rfl, by rw [Hc.out]; omega, by rw [Hc.out]; congr 1; omega⟩
          case measure => simp [intOf]; omega
        · have Hr : Hid (IsDate n y m (n - (yd y + cum y m) + 1)) := IsDate.of hy1 hy2 hm1 hm2 hr (by rw [Hc.out]; omega)
          go_wp2_with (go_at_call 77; refine (rlength_c _ _ _).mono ?_; rintro e w' ⟨rfl, rfl⟩)
          exact bodyPost_ret (v := .tuple #[.agg #[.int .i64 y, .int .i64 m, .int .i64 (n - (yd y + cum y m) + 1)], .int .i64 0]) (by simp [results, Tryd.results49, go_sem]) rfl ⟨y, m, _, rfl, Hr.out, ((Ext.refl w).alloc _)⟩
end Go.Proofs.YtplckoffiebibaaDoor
