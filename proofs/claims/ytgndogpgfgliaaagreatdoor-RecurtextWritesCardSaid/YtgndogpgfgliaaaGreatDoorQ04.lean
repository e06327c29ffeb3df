/- The walk of the reference's Date. -/
import Derived.Test.YtgndogpgfgliaaaGreatDoorQ03
namespace Go.Proofs.YtgndogpgfgliaaaGreatDoor
open Go.RowKit

set_option maxHeartbeats 400000 in
theorem rdate_no (n : Int) (w : World) (h : insB n = false) :
    Calls Tryz.prog 143 #[.int .i64 n] w fun e w' => e = .returned (.tuple #[.agg #[.int .i64 0, .int .i64 0, .int .i64 0], .int .i64 2]) ∧ Ext w w' := by
  have hn : ¬ (-719162 ≤ n ∧ n < 2932897) := by simpa [insB] using h
  by_cases h1 : n < -719162
  all_goals
    go_enter Tryz.func143, Tryz.ntmps143
    go_wp2
    exact bodyPost_ret (v := .tuple #[.agg #[.int .i64 0, .int .i64 0, .int .i64 0], .int .i64 2]) (by simp [results, Tryz.results143, go_sem]) rfl ⟨rfl, ((Ext.refl w).alloc _)⟩

set_option maxHeartbeats 1000000 in
theorem rdate_yes (n : Int) (w : World) (h : insB n = true) :
    Calls Tryz.prog 143 #[.int .i64 n] w fun e w' => ∃ y m d : Int, e = .returned (.tuple #[.agg #[.int .i64 y, .int .i64 m, .int .i64 d], .int .i64 0]) ∧ IsDate n y m d ∧ Ext w w' := by
  have hn : -719162 ≤ n ∧ n < 2932897 := by simpa [insB] using h
  obtain ⟨n1, n2⟩ := hn
  have g0 := Lib.hid (guess n n1 n2)
  have hdiv : (n + 719162) / 366 ≤ 9998 := by omega
  have hdiv0 : 0 ≤ (n + 719162) / 366 := by omega
  have n3 : ¬ n < -719162 := by omega
  have Hy : Hid (∀ y, yd (y + 1) ≤ n → y + 1 ≤ 9999) := by
    intro y hy
    rcases Int.lt_or_le y 9999 with h | h
    · omega
    · have := yd_mono 10000 (y + 1) (by omega)
      have : yd 10000 = 2932897 := by decide
      omega
  go_enter Tryz.func143, Tryz.ntmps143
  go_wp2_with fail
  go_loop [4] (fun t => ∃ y : Int, 1 ≤ y ∧ y ≤ 9999 ∧ yd y ≤ n ∧ t = .int .i64 y) (fun t => (9999 - intOf t).toNat)
  case atStart => exact ⟨_, by omega, by omega, g0.out, rfl⟩
  case round =>
    obtain ⟨y, hy1, hy2, hy3, rfl⟩ := hrel
    have hb := yd_bd (y + 1) (by omega) (by omega)
    by_cases hd : yd (y + 1) ≤ n
    · have hy4 := Hy.out y hd
      go_wp2_with (go_at_call 156; refine (first_c _ _ (by omega) (by omega)).mono ?_; rintro e w' ⟨rfl, rfl⟩)
      go_round
      case rel => exact ⟨y + 1, by omega, by omega, hd, rfl⟩
      case measure => simp [intOf]; omega
    · have hs := yd_succ y
      have hl := lp_01 y
      have yb := yd_bd y (by omega) (by omega)
      have Hs := Lib.hid hs
      clear hs
      go_wp2_with (go_at_call 156; refine (first_c _ _ (by omega) (by omega)).mono ?_; rintro e w' ⟨rfl, rfl⟩)
      go_loop [5, 6] (fun t k => ∃ m : Int, 1 ≤ m ∧ m ≤ 12 ∧ k = .int .i64 m ∧ yd y + cum y m ≤ n ∧ t = .int .i64 (n - (yd y + cum y m) + 1)) (fun _ k => (12 - intOf k).toNat)
      case atStart => exact ⟨1, by omega, by omega, rfl, by rw [cum1]; omega, by rw [cum1]; congr 1; omega⟩
      case round =>
        obtain ⟨m, hm1, hm2, rfl, hr, rfl⟩ := hrel
        have Hc := Lib.hid (cum_succ y m hy1 hy2 hm1 hm2)
        have cb := cum_bd y m hm1 (by omega)
        have lb := mlen_bd y m
        by_cases hd : mlen y m < n - (yd y + cum y m) + 1
        · have hm3 : m < 12 := by
            by_cases e : m = 12
            · subst e; have := cum13 y; have := Hs.out; have h2 := Hc.out; rw [show (12 : Int) + 1 = 13 from rfl] at h2; omega
            · omega
          go_wp2_with (go_at_call 176; refine (rlength_c _ _ _).mono ?_; rintro e w' ⟨rfl, rfl⟩)
          go_round
          case rel => exact ⟨m + 1, by omega, by omega, rfl, by rw [Hc.out]; omega, by rw [Hc.out]; congr 1; omega⟩
          case measure => simp [intOf]; omega
        · have Hr : Hid (IsDate n y m (n - (yd y + cum y m) + 1)) := IsDate.of hy1 hy2 hm1 hm2 hr (by rw [Hc.out]; omega)
          go_wp2_with (go_at_call 176; refine (rlength_c _ _ _).mono ?_; rintro e w' ⟨rfl, rfl⟩)
          exact bodyPost_ret (v := .tuple #[.agg #[.int .i64 y, .int .i64 m, .int .i64 (n - (yd y + cum y m) + 1)], .int .i64 0]) (by simp [results, Tryz.results143, go_sem]) rfl ⟨y, m, _, rfl, Hr.out, ((Ext.refl w).alloc _)⟩
end Go.Proofs.YtgndogpgfgliaaaGreatDoor
/- The walks of package clock and of its reference: times of day, instants, moments. -/
namespace Go.Proofs.YtgndogpgfgliaaaGreatDoor
open Go.RowKit

def tmB (h m s : Int) : Bool := decide (0 ≤ h ∧ h ≤ 23 ∧ 0 ≤ m ∧ m ≤ 59 ∧ 0 ≤ s ∧ s ≤ 59)
def secs (h m s : Int) : Int := 3600 * h + 60 * m + s
def sdB (s : Int) : Bool := decide (0 ≤ s ∧ s < 86400)
def insT (t : Int) : Bool := decide (-62135596800 ≤ t ∧ t < 253402300800)
theorem tm_iff {h m s : Int} : tmB h m s = true ↔ 0 ≤ h ∧ h ≤ 23 ∧ 0 ≤ m ∧ m ≤ 59 ∧ 0 ≤ s ∧ s ≤ 59 := by unfold tmB; simp
theorem tm_no {h m s : Int} (q : tmB h m s = false) : ¬ (0 ≤ h ∧ h ≤ 23 ∧ 0 ≤ m ∧ m ≤ 59 ∧ 0 ≤ s ∧ s ≤ 59) := by
  intro k
  rw [tm_iff.2 k] at q
  cases q
theorem ins_iff {n : Int} : insB n = true ↔ -719162 ≤ n ∧ n < 2932897 := by unfold insB; simp
theorem ins_no {n : Int} (h : insB n = false) : ¬ (-719162 ≤ n ∧ n < 2932897) := by intro k; rw [ins_iff.2 k] at h; cases h
theorem insT_iff {n : Int} : insT n = true ↔ -62135596800 ≤ n ∧ n < 253402300800 := by unfold insT; simp
theorem insT_no {n : Int} (h : insT n = false) : ¬ (-62135596800 ≤ n ∧ n < 253402300800) := by intro k; rw [insT_iff.2 k] at h; cases h
theorem sd_iff {n : Int} : sdB n = true ↔ 0 ≤ n ∧ n < 86400 := by unfold sdB; simp
theorem sd_no {n : Int} (h : sdB n = false) : ¬ (0 ≤ n ∧ n < 86400) := by intro k; rw [sd_iff.2 k] at h; cases h

set_option maxHeartbeats 400000 in
theorem seconds_yes (h m s : Int) (w : World) (hv : tmB h m s = true) : Calls Tryz.prog 134 #[.agg #[.int .i64 h, .int .i64 m, .int .i64 s]] w fun e w' => e = .returned (.tuple #[.int .i64 (secs h m s), .int .i64 0]) ∧ Ext w w' := by
  obtain ⟨a, b, c, d, f, g⟩ := tm_iff.1 hv
  unfold secs
  go_enter Tryz.func134, Tryz.ntmps134
  go_wp2
  go_ret2
  exact ⟨rfl, (Ext.refl w).alloc _⟩
set_option maxHeartbeats 400000 in
theorem seconds_no (h m s : Int) (w : World) (hv : tmB h m s = false) : Calls Tryz.prog 134 #[.agg #[.int .i64 h, .int .i64 m, .int .i64 s]] w fun e w' => e = .returned (.tuple #[.int .i64 0, .int .i64 1]) ∧ Ext w w' := by
  have Hn := Lib.hid (tm_no hv)
  go_enter Tryz.func134, Tryz.ntmps134
  go_wp2
  all_goals first
    | (go_ret2
       exact ⟨rfl, (Ext.refl w).alloc _⟩)
    | (exfalso; have := Hn.out; first | omega | (simp_all; done) | (simp_all; omega))
theorem rseconds_yes (h m s : Int) (w : World) (hv : tmB h m s = true) : Calls Tryz.prog 114 #[.agg #[.int .i64 h, .int .i64 m, .int .i64 s]] w fun e w' => e = .returned (.int .i64 (secs h m s)) ∧ Ext w w' := by
  obtain ⟨a, b, c, d, f, g⟩ := tm_iff.1 hv
  unfold secs
  go_enter Tryz.func114, Tryz.ntmps114
  go_wp2
  go_ret
  exact ⟨rfl, (Ext.refl w).alloc _⟩
set_option maxHeartbeats 400000 in
theorem validtime_yes (h m s : Int) (w : World) (hv : tmB h m s = true) : Calls Tryz.prog 155 #[.agg #[.int .i64 h, .int .i64 m, .int .i64 s]] w fun e w' => e = .returned (.bool true) ∧ Ext w w' := by
  obtain ⟨a, b, c, d, f, g⟩ := tm_iff.1 hv
  go_enter Tryz.func155, Tryz.ntmps155
  go_wp2
  go_ret
  exact ⟨ret_b (by first | rfl | (simp; omega)), (Ext.refl w).alloc _⟩
set_option maxHeartbeats 400000 in
theorem validtime_no (h m s : Int) (w : World) (hv : tmB h m s = false) : Calls Tryz.prog 155 #[.agg #[.int .i64 h, .int .i64 m, .int .i64 s]] w fun e w' => e = .returned (.bool false) ∧ Ext w w' := by
  have hn := tm_no hv
  by_cases a : 0 ≤ h
  · have da : decide (0 ≤ h) = true := by simp; omega
    by_cases b : h < 24
    · have db : decide (h < 24) = true := by simp; omega
      by_cases c : 0 ≤ m
      · have dc : decide (0 ≤ m) = true := by simp; omega
        by_cases d : m < 60
        · have dd : decide (m < 60) = true := by simp; omega
          by_cases f : 0 ≤ s
          · have df : decide (0 ≤ s) = true := by simp; omega
            have dg : decide (s < 60) = false := by simp; omega
            clear hn
            go_enter Tryz.func155, Tryz.ntmps155
            go_wp2
            go_ret
            exact ⟨rfl, (Ext.refl w).alloc _⟩
          · have df : decide (0 ≤ s) = false := by simp; omega
            clear hn
            go_enter Tryz.func155, Tryz.ntmps155
            go_wp2
            go_ret
            exact ⟨rfl, (Ext.refl w).alloc _⟩
        · have dd : decide (m < 60) = false := by simp; omega
          clear hn
          go_enter Tryz.func155, Tryz.ntmps155
          go_wp2
          go_ret
          exact ⟨rfl, (Ext.refl w).alloc _⟩
      · have dc : decide (0 ≤ m) = false := by simp; omega
        clear hn
        go_enter Tryz.func155, Tryz.ntmps155
        go_wp2
        go_ret
        exact ⟨rfl, (Ext.refl w).alloc _⟩
    · have db : decide (h < 24) = false := by simp; omega
      clear hn
      go_enter Tryz.func155, Tryz.ntmps155
      go_wp2
      go_ret
      exact ⟨rfl, (Ext.refl w).alloc _⟩
  · have da : decide (0 ≤ h) = false := by simp; omega
    clear hn
    go_enter Tryz.func155, Tryz.ntmps155
    go_wp2
    go_ret
    exact ⟨rfl, (Ext.refl w).alloc _⟩

set_option maxHeartbeats 400000 in
theorem time_yes (s : Int) (w : World) (hv : sdB s = true) : Calls Tryz.prog 148 #[.int .i64 s] w fun e w' => e = .returned (.tuple #[.agg #[.int .i64 (s / 3600), .int .i64 (s / 60 % 60), .int .i64 (s % 60)], .int .i64 0]) ∧ Ext w w' := by
  obtain ⟨a, b⟩ := sd_iff.1 hv
  have : 0 ≤ s / 60 := by omega
  go_enter Tryz.func148, Tryz.ntmps148
  go_wp2
  exact bodyPost_ret (v := .tuple #[.agg #[.int .i64 (s / 3600), .int .i64 (s / 60 % 60), .int .i64 (s % 60)], .int .i64 0]) (by simp [results, Tryz.results148, go_sem]) rfl ⟨rfl, ((Ext.refl w).alloc _)⟩
set_option maxHeartbeats 400000 in
theorem time_no (s : Int) (w : World) (hv : sdB s = false) : Calls Tryz.prog 148 #[.int .i64 s] w fun e w' => e = .returned (.tuple #[.agg #[.int .i64 0, .int .i64 0, .int .i64 0], .int .i64 2]) ∧ Ext w w' := by
  have hn := sd_no hv
  by_cases a : s < 0
  all_goals
    go_enter Tryz.func148, Tryz.ntmps148
    go_wp2
    exact bodyPost_ret (v := .tuple #[.agg #[.int .i64 0, .int .i64 0, .int .i64 0], .int .i64 2]) (by simp [results, Tryz.results148, go_sem]) rfl ⟨rfl, ((Ext.refl w).alloc _)⟩
set_option maxHeartbeats 400000 in
theorem rtime_yes (s : Int) (w : World) (hv : sdB s = true) : Calls Tryz.prog 144 #[.int .i64 s] w fun e w' => e = .returned (.agg #[.int .i64 (s / 3600), .int .i64 (s / 60 % 60), .int .i64 (s % 60)]) ∧ Ext w w' := by
  obtain ⟨a, b⟩ := sd_iff.1 hv
  have : 0 ≤ s / 60 := by omega
  go_enter Tryz.func144, Tryz.ntmps144
  go_wp2
  exact bodyPost_ret (v := .agg #[.int .i64 (s / 3600), .int .i64 (s / 60 % 60), .int .i64 (s % 60)]) (by simp [results, Tryz.results144, go_sem]) rfl ⟨rfl, ((Ext.refl w).alloc _)⟩

set_option maxHeartbeats 400000 in
theorem at_yes (n s : Int) (w : World) (h1 : insB n = true) (h2 : sdB s = true) : Calls Tryz.prog 135 #[.int .i64 n, .int .i64 s] w fun e w' => e = .returned (.tuple #[.int .i64 (86400 * n + s), .int .i64 0]) ∧ w = w' := by
  obtain ⟨a, b⟩ := ins_iff.1 h1
  obtain ⟨c, d⟩ := sd_iff.1 h2
  go_enter Tryz.func135, Tryz.ntmps135
  go_wp2
  go_ret2
  exact ⟨ret_i2 (by omega) rfl, rfl⟩
set_option maxHeartbeats 400000 in
theorem at_no (n s : Int) (w : World) (h : ¬ (insB n = true ∧ sdB s = true)) : Calls Tryz.prog 135 #[.int .i64 n, .int .i64 s] w fun e w' => e = .returned (.tuple #[.int .i64 0, .int .i64 2]) ∧ w = w' := by
  rw [ins_iff, sd_iff] at h
  by_cases a : n < -719162
  · go_enter Tryz.func135, Tryz.ntmps135
    go_wp2
    go_ret2
    exact ⟨rfl, rfl⟩
  · by_cases b : 2932897 ≤ n
    · go_enter Tryz.func135, Tryz.ntmps135
      go_wp2
      go_ret2
      exact ⟨rfl, rfl⟩
    · by_cases c : s < 0
      · go_enter Tryz.func135, Tryz.ntmps135
        go_wp2
        go_ret2
        exact ⟨rfl, rfl⟩
      · have d : 86400 ≤ s := by omega
        go_enter Tryz.func135, Tryz.ntmps135
        go_wp2
        go_ret2
        exact ⟨rfl, rfl⟩

set_option maxHeartbeats 400000 in
theorem split_yes (t : Int) (w : World) (h : insT t = true) : Calls Tryz.prog 146 #[.int .i64 t] w fun e w' => e = .returned (.tuple #[.int .i64 (t / 86400), .int .i64 (t % 86400), .int .i64 0]) ∧ ∃ n, w.drewN n = w' := by
  obtain ⟨a, b⟩ := insT_iff.1 h
  go_enter Tryz.func146, Tryz.ntmps146
  go_wp2_with (go_at_call 161; refine (Div_c _ _ _ (by omega) (by omega) (by omega) (by omega)).mono ?_; rintro e w' ⟨rfl, nq, rfl⟩)
  go_ret3
  exact ⟨rfl, _, rfl⟩
set_option maxHeartbeats 400000 in
theorem split_no (t : Int) (w : World) (h : insT t = false) : Calls Tryz.prog 146 #[.int .i64 t] w fun e w' => e = .returned (.tuple #[.int .i64 0, .int .i64 0, .int .i64 2]) ∧ ∃ n, w.drewN n = w' := by
  have hn := insT_no h
  by_cases a : t < -62135596800
  all_goals
    go_enter Tryz.func146, Tryz.ntmps146
    go_wp2
    go_ret3
    exact ⟨rfl, 0, rfl⟩
set_option maxHeartbeats 400000 in
theorem rsplit_yes (t : Int) (w : World) (h : insT t = true) : Calls Tryz.prog 142 #[.int .i64 t] w fun e w' => e = .returned (.tuple #[.int .i64 (t / 86400), .int .i64 (t % 86400)]) ∧ ∃ n, w.drewN n = w' := by
  obtain ⟨a, b⟩ := insT_iff.1 h
  go_enter Tryz.func142, Tryz.ntmps142
  go_wp2_with (go_at_call 175; refine (RFloor_c _ _ _ (by omega) (by omega) (by omega) (by omega)).mono ?_; rintro e w' ⟨rfl, nq, rfl⟩)
  go_ret2
  exact ⟨ret_i2 rfl (by omega), _, rfl⟩
end Go.Proofs.YtgndogpgfgliaaaGreatDoor
