/- The walks of package clock and of its reference: times of day, instants, moments. -/
import Derived.Test.YtplckoffiebibaaDoorCiv4
namespace Go.Proofs.YtplckoffiebibaaDoor
open Go.RowKit

def tmB (h m s : Int) : Bool := decide (0 ≤ h ∧ h ≤ 23 ∧ 0 ≤ m ∧ m ≤ 59 ∧ 0 ≤ s ∧ s ≤ 59)
def secs (h m s : Int) : Int := 3600 * h + 60 * m + s
def sdB (s : Int) : Bool := decide (0 ≤ s ∧ s < 86400)
def insT (t : Int) : Bool := decide (-62135596800 ≤ t ∧ t < 253402300800)
theorem tm_iff {h m s : Int} : tmB h m s = true ↔ 0 ≤ h ∧ h ≤ 23 ∧ 0 ≤ m ∧ m ≤ 59 ∧ 0 ≤ s ∧ s ≤ 59 := by unfold tmB; simp
theorem tm_no {h m s : Int} (q : tmB h m s = false) : ¬ (0 ≤ h ∧ h ≤ 23 ∧ 0 ≤ m ∧ m ≤ 59 ∧ 0 ≤ s ∧ s ≤ 59) := by
  intro k
  rw [tm_iff.2 k] at q
  cases q
theorem ins_iff {n : Int} : insB n = true ↔ -719162 ≤ n ∧ n < 2932897 := by unfold insB; simp
theorem ins_no {n : Int} (h : insB n = false) : ¬ (-719162 ≤ n ∧ n < 2932897) := by intro k; rw [ins_iff.2 k] at h; cases h
theorem insT_iff {n : Int} : insT n = true ↔ -62135596800 ≤ n ∧ n < 253402300800 := by unfold insT; simp
theorem insT_no {n : Int} (h : insT n = false) : ¬ (-62135596800 ≤ n ∧ n < 253402300800) := by intro k; rw [insT_iff.2 k] at h; cases h
theorem sd_iff {n : Int} : sdB n = true ↔ 0 ≤ n ∧ n < 86400 := by unfold sdB; simp
theorem sd_no {n : Int} (h : sdB n = false) : ¬ (0 ≤ n ∧ n < 86400) := by intro k; rw [sd_iff.2 k] at h; cases h

set_option maxHeartbeats 400000 in
theorem seconds_yes (h m s : Int) (w : World) (hv : tmB h m s = true) : Calls Tryd.prog 14 #[.agg #[.int .i64 h, .int .i64 m, .int .i64 s]] w fun e w' => e = .returned (.tuple #[.int .i64 (secs h m s), .int .i64 0]) ∧ Ext w w' := by
  obtain ⟨a, b, c, d, f, g⟩ := tm_iff.1 hv
  unfold secs
  go_enter Tryd.func14, Tryd.ntmps14
  go_wp2
  go_ret2
  exact ⟨rfl, (Ext.refl w).alloc _⟩
set_option maxHeartbeats 400000 in
theorem seconds_no (h m s : Int) (w : World) (hv : tmB h m s = false) : Calls Tryd.prog 14 #[.agg #[.int .i64 h, .int .i64 m, .int .i64 s]] w fun e w' => e = .returned (.tuple #[.int .i64 0, .int .i64 1]) ∧ Ext w w' := by
  have Hn := Lib.hid (tm_no hv)
  go_enter Tryd.func14, Tryd.ntmps14
  go_wp2
  all_goals first
    | (go_ret2
       exact ⟨rfl, (Ext.refl w).alloc _⟩)
    | (exfalso; have := Hn.out; first | omega | (simp_all; done) | (simp_all; omega))
theorem rseconds_yes (h m s : Int) (w : World) (hv : tmB h m s = true) : Calls Tryd.prog 17 #[.agg #[.int .i64 h, .int .i64 m, .int .i64 s]] w fun e w' => e = .returned (.int .i64 (secs h m s)) ∧ Ext w w' := by
  obtain ⟨a, b, c, d, f, g⟩ := tm_iff.1 hv
  unfold secs
  go_enter Tryd.func17, Tryd.ntmps17
  go_wp2
  go_ret
  exact ⟨rfl, (Ext.refl w).alloc _⟩
set_option maxHeartbeats 400000 in
theorem validtime_yes (h m s : Int) (w : World) (hv : tmB h m s = true) : Calls Tryd.prog 15 #[.agg #[.int .i64 h, .int .i64 m, .int .i64 s]] w fun e w' => e = .returned (.bool true) ∧ Ext w w' := by
  obtain ⟨a, b, c, d, f, g⟩ := tm_iff.1 hv
  go_enter Tryd.func15, Tryd.ntmps15
  go_wp2
  go_ret
  exact ⟨ret_b (by first | rfl | (simp; omega)), (Ext.refl w).alloc _⟩
set_option maxHeartbeats 400000 in
theorem validtime_no (h m s : Int) (w : World) (hv : tmB h m s = false) : Calls Tryd.prog 15 #[.agg #[.int .i64 h, .int .i64 m, .int .i64 s]] w fun e w' => e = .returned (.bool false) ∧ Ext w w' := by
  have hn := tm_no hv
  by_cases a : 0 ≤ h
  · have da : decide (0 ≤ h) = true := by simp; omega
    by_cases b : h < 24
    · have db : decide (h < 24) = true := by simp; omega
      by_cases c : 0 ≤ m
      · have dc : decide (0 ≤ m) = true := by simp; omega
        by_cases d : m < 60
        · have dd : decide (m < 60) = true := by simp; omega
          by_cases f : 0 ≤ s
          · have df : decide (0 ≤ s) = true := by simp; omega
            have dg : decide (s < 60) = false := by simp; omega
            clear hn
            go_enter Tryd.func15, Tryd.ntmps15
            go_wp2
            go_ret
            exact ⟨rfl, (Ext.refl w).alloc _⟩
          · have df : decide (0 ≤ s) = false := by simp; omega
            clear hn
            go_enter Tryd.func15, Tryd.ntmps15
            go_wp2
            go_ret
            exact ⟨rfl, (Ext.refl w).alloc _⟩
        · have dd : decide (m < 60) = false := by simp; omega
          clear hn
          go_enter Tryd.func15, Tryd.ntmps15
          go_wp2
          go_ret
          exact ⟨rfl, (Ext.refl w).alloc _⟩
      · have dc : decide (0 ≤ m) = false := by simp; omega
        clear hn
        go_enter Tryd.func15, Tryd.ntmps15
        go_wp2
        go_ret
        exact ⟨rfl, (Ext.refl w).alloc _⟩
    · have db : decide (h < 24) = false := by simp; omega
      clear hn
      go_enter Tryd.func15, Tryd.ntmps15
      go_wp2
      go_ret
      exact ⟨rfl, (Ext.refl w).alloc _⟩
  · have da : decide (0 ≤ h) = false := by simp; omega
    clear hn
    go_enter Tryd.func15, Tryd.ntmps15
    go_wp2
    go_ret
    exact ⟨rfl, (Ext.refl w).alloc _⟩

set_option maxHeartbeats 400000 in
theorem time_yes (s : Int) (w : World) (hv : sdB s = true) : Calls Tryd.prog 16 #[.int .i64 s] w fun e w' => e = .returned (.tuple #[.agg #[.int .i64 (s / 3600), .int .i64 (s / 60 % 60), .int .i64 (s % 60)], .int .i64 0]) ∧ Ext w w' := by
  obtain ⟨a, b⟩ := sd_iff.1 hv
  have : 0 ≤ s / 60 := by omega
  go_enter Tryd.func16, Tryd.ntmps16
  go_wp2
  exact bodyPost_ret (v := .tuple #[.agg #[.int .i64 (s / 3600), .int .i64 (s / 60 % 60), .int .i64 (s % 60)], .int .i64 0]) (by simp [results, Tryd.results16, go_sem]) rfl ⟨rfl, ((Ext.refl w).alloc _)⟩
set_option maxHeartbeats 400000 in
theorem time_no (s : Int) (w : World) (hv : sdB s = false) : Calls Tryd.prog 16 #[.int .i64 s] w fun e w' => e = .returned (.tuple #[.agg #[.int .i64 0, .int .i64 0, .int .i64 0], .int .i64 2]) ∧ Ext w w' := by
  have hn := sd_no hv
  by_cases a : s < 0
  all_goals
    go_enter Tryd.func16, Tryd.ntmps16
    go_wp2
    exact bodyPost_ret (v := .tuple #[.agg #[.int .i64 0, .int .i64 0, .int .i64 0], .int .i64 2]) (by simp [results, Tryd.results16, go_sem]) rfl ⟨rfl, ((Ext.refl w).alloc _)⟩
set_option maxHeartbeats 400000 in
theorem rtime_yes (s : Int) (w : World) (hv : sdB s = true) : Calls Tryd.prog 18 #[.int .i64 s] w fun e w' => e = .returned (.agg #[.int .i64 (s / 3600), .int .i64 (s / 60 % 60), .int .i64 (s % 60)]) ∧ Ext w w' := by
  obtain ⟨a, b⟩ := sd_iff.1 hv
  have : 0 ≤ s / 60 := by omega
  go_enter Tryd.func18, Tryd.ntmps18
  go_wp2
  exact bodyPost_ret (v := .agg #[.int .i64 (s / 3600), .int .i64 (s / 60 % 60), .int .i64 (s % 60)]) (by simp [results, Tryd.results18, go_sem]) rfl ⟨rfl, ((Ext.refl w).alloc _)⟩

set_option maxHeartbeats 400000 in
theorem at_yes (n s : Int) (w : World) (h1 : insB n = true) (h2 : sdB s = true) : Calls Tryd.prog 19 #[.int .i64 n, .int .i64 s] w fun e w' => e = .returned (.tuple #[.int .i64 (86400 * n + s), .int .i64 0]) ∧ w = w' := by
  obtain ⟨a, b⟩ := ins_iff.1 h1
  obtain ⟨c, d⟩ := sd_iff.1 h2
  go_enter Tryd.func19, Tryd.ntmps19
  go_wp2
  go_ret2
  exact ⟨ret_i2 (by omega) rfl, rfl⟩
set_option maxHeartbeats 400000 in
theorem at_no (n s : Int) (w : World) (h : ¬ (insB n = true ∧ sdB s = true)) : Calls Tryd.prog 19 #[.int .i64 n, .int .i64 s] w fun e w' => e = .returned (.tuple #[.int .i64 0, .int .i64 2]) ∧ w = w' := by
  rw [ins_iff, sd_iff] at h
  by_cases a : n < -719162
  · go_enter Tryd.func19, Tryd.ntmps19
    go_wp2
    go_ret2
    exact ⟨rfl, rfl⟩
  · by_cases b : 2932897 ≤ n
    · go_enter Tryd.func19, Tryd.ntmps19
      go_wp2
      go_ret2
      exact ⟨rfl, rfl⟩
    · by_cases c : s < 0
      · go_enter Tryd.func19, Tryd.ntmps19
        go_wp2
        go_ret2
        exact ⟨rfl, rfl⟩
      · have d : 86400 ≤ s := by omega
        go_enter Tryd.func19, Tryd.ntmps19
        go_wp2
        go_ret2
        exact ⟨rfl, rfl⟩

set_option maxHeartbeats 400000 in
theorem split_yes (t : Int) (w : World) (h : insT t = true) : Calls Tryd.prog 21 #[.int .i64 t] w fun e w' => e = .returned (.tuple #[.int .i64 (t / 86400), .int .i64 (t % 86400), .int .i64 0]) ∧ ∃ n, w.drewN n = w' := by
  obtain ⟨a, b⟩ := insT_iff.1 h
  go_enter Tryd.func21, Tryd.ntmps21
  go_wp2_with (go_at_call 45; refine (Div_c _ _ _ (by omega) (by omega) (by omega) (by omega)).mono ?_; rintro e w' ⟨rfl, nq, rfl⟩)
  go_ret3
  exact ⟨rfl, _, rfl⟩
set_option maxHeartbeats 400000 in
theorem split_no (t : Int) (w : World) (h : insT t = false) : Calls Tryd.prog 21 #[.int .i64 t] w fun e w' => e = .returned (.tuple #[.int .i64 0, .int .i64 0, .int .i64 2]) ∧ ∃ n, w.drewN n = w' := by
  have hn := insT_no h
  by_cases a : t < -62135596800
  all_goals
    go_enter Tryd.func21, Tryd.ntmps21
    go_wp2
    go_ret3
    exact ⟨rfl, 0, rfl⟩
theorem rday_c (n : Int) (w : World) : Calls Tryd.prog 20 #[.int .i64 n] w fun e w' => e = .returned (.bool (insB n)) ∧ w = w' := by
  by_cases a : -719162 ≤ n
  · by_cases b : n < 2932897
    all_goals
      have Hi : Hid (insB n = _) := Lib.hid rfl
      go_enter Tryd.func20, Tryd.ntmps20
      go_wp2
      go_ret
      exact ⟨ret_b (by simp [insB, a, b]), rfl⟩
  · have d : decide (-719162 ≤ n) = false := by simp; omega
    go_enter Tryd.func20, Tryd.ntmps20
    go_wp2
    go_ret
    exact ⟨ret_b (by unfold insB; simp; omega), rfl⟩
theorem rinst_c (n : Int) (w : World) : Calls Tryd.prog 22 #[.int .i64 n] w fun e w' => e = .returned (.bool (insT n)) ∧ w = w' := by
  by_cases a : -62135596800 ≤ n
  · by_cases b : n < 253402300800
    all_goals
      go_enter Tryd.func22, Tryd.ntmps22
      go_wp2
      go_ret
      exact ⟨ret_b (by simp [insT, a, b]), rfl⟩
  · have d : decide (-62135596800 ≤ n) = false := by simp; omega
    go_enter Tryd.func22, Tryd.ntmps22
    go_wp2
    go_ret
    exact ⟨ret_b (by unfold insT; simp; omega), rfl⟩
set_option maxHeartbeats 400000 in
theorem rsplit_yes (t : Int) (w : World) (h : insT t = true) : Calls Tryd.prog 23 #[.int .i64 t] w fun e w' => e = .returned (.tuple #[.int .i64 (t / 86400), .int .i64 (t % 86400)]) ∧ ∃ n, w.drewN n = w' := by
  obtain ⟨a, b⟩ := insT_iff.1 h
  go_enter Tryd.func23, Tryd.ntmps23
  go_wp2_with (go_at_call 46; refine (RFloor_c _ _ _ (by omega) (by omega) (by omega) (by omega)).mono ?_; rintro e w' ⟨rfl, nq, rfl⟩)
  go_ret2
  exact ⟨ret_i2 rfl (by omega), _, rfl⟩
end Go.Proofs.YtplckoffiebibaaDoor
