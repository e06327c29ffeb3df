/- The walk of the law ClockTimes. -/
import Derived.Test.YtplckoffiebibaaDoorAwk
import Derived.Deep.RegionWith
import Derived.Deep.RegionHeld3
namespace Go.Proofs.YtplckoffiebibaaDoor
open Go.RowKit
set_option linter.unusedVariables false
set_option linter.unusedSimpArgs false

theorem tm_bounds {s : Int} (h : sdB s = true) : tmB (s / 3600) (s / 60 % 60) (s % 60) = true := by
  have := sd_iff.1 h
  rw [tm_iff]; omega
theorem time_secs {s : Int} (h : sdB s = true) : secs (s / 3600) (s / 60 % 60) (s % 60) = s := by have := sd_iff.1 h; unfold secs; omega
theorem secs_time {h m s : Int} (q : tmB h m s = true) : secs h m s / 3600 = h ∧ secs h m s / 60 % 60 = m ∧ secs h m s % 60 = s := by have := tm_iff.1 q; unfold secs; omega

theorem time_back (h m s : Int) (w : World) (hv : tmB h m s = true) : Calls Tryd.prog 16 #[.int .i64 (secs h m s)] w fun e w' => e = .returned (.tuple #[.agg #[.int .i64 h, .int .i64 m, .int .i64 s], .int .i64 0]) ∧ Ext w w' := by
  have q := time_yes (secs h m s) w (sd_of_tm hv)
  rw [(secs_time hv).1, (secs_time hv).2.1, (secs_time hv).2.2] at q
  exact q

set_option maxHeartbeats 2000000 in
theorem times_nn (h m s t : Int) (w : World) (hL : Laid w) (hv : tmB h m s = false) (ht : sdB t = false) (t3 : t < 0) (t1 : -9223372036854775808 ≤ t) (t2 : t ≤ 9223372036854775807) :
    Calls Tryd.prog 3 #[.agg #[.int .i64 h, .int .i64 m, .int .i64 s], .int .i64 t] w fun e w' => e = .returned (.bool true) ∧ Ext w w' := by
  have HL := Lib.hid hL
  clear hL
  
  go_enter Tryd.func3, Tryd.ntmps3
  go_wp2_with (first
    | (go_at_call 13; refine (awake_c _ (HL.out.ext ((Ext.refl _).alloc _))).mono ?_; rintro e w1 ⟨rfl, hE1⟩; have hc1 := hE1.cells; have z1 : w.heap.size < w1.heap.size := (by have := hE1.size; (try simp at this); omega); have zl1 : w.heap.size ≤ w1.heap.size := Nat.le_of_lt z1)
    | (go_at_call 14; with_reducible refine (seconds_no h m s _ hv).mono ?_; rintro e w2 ⟨rfl, hE2⟩; have hc2 := hE2.cells; have z2 : w.heap.size < w2.heap.size := (by have := hE2.size; (try simp at this); omega); have zl2 : w.heap.size ≤ w2.heap.size := Nat.le_of_lt z2)
    | (go_at_call 15; refine (validtime_no _ _ _ _ hv).mono ?_; rintro e w3 ⟨rfl, hE3⟩; have hc3 := hE3.cells; have z3 : w.heap.size < w3.heap.size := (by have := hE3.size; (try simp at this); omega); have zl3 : w.heap.size ≤ w3.heap.size := Nat.le_of_lt z3)
    | (go_at_call 16; with_reducible refine (time_no t _ ht).mono ?_; rintro e w6 ⟨rfl, hE6⟩; have hc6 := hE6.cells; have z6 : w.heap.size < w6.heap.size := (by have := hE6.size; (try simp at this); omega); have zl6 : w.heap.size ≤ w6.heap.size := Nat.le_of_lt z6))
  refine bodyPost_ret (v := .bool true) ?_ rfl ⟨rfl, ?_⟩
  · simp [results, Tryd.results3, go_sem]
  · refine Ext.alloc ?_ _
    exact (((Ext.refl _).alloc _).trans hE1).trans (hE2.trans (hE3.trans hE6))
set_option maxHeartbeats 2000000 in
theorem times_nb (h m s t : Int) (w : World) (hL : Laid w) (hv : tmB h m s = false) (ht : sdB t = false) (t3 : ¬ t < 0) (t4 : 86400 ≤ t) (t1 : -9223372036854775808 ≤ t) (t2 : t ≤ 9223372036854775807) :
    Calls Tryd.prog 3 #[.agg #[.int .i64 h, .int .i64 m, .int .i64 s], .int .i64 t] w fun e w' => e = .returned (.bool true) ∧ Ext w w' := by
  have HL := Lib.hid hL
  clear hL
  
  go_enter Tryd.func3, Tryd.ntmps3
  go_wp2_with (first
    | (go_at_call 13; refine (awake_c _ (HL.out.ext ((Ext.refl _).alloc _))).mono ?_; rintro e w1 ⟨rfl, hE1⟩; have hc1 := hE1.cells; have z1 : w.heap.size < w1.heap.size := (by have := hE1.size; (try simp at this); omega); have zl1 : w.heap.size ≤ w1.heap.size := Nat.le_of_lt z1)
    | (go_at_call 14; with_reducible refine (seconds_no h m s _ hv).mono ?_; rintro e w2 ⟨rfl, hE2⟩; have hc2 := hE2.cells; have z2 : w.heap.size < w2.heap.size := (by have := hE2.size; (try simp at this); omega); have zl2 : w.heap.size ≤ w2.heap.size := Nat.le_of_lt z2)
    | (go_at_call 15; refine (validtime_no _ _ _ _ hv).mono ?_; rintro e w3 ⟨rfl, hE3⟩; have hc3 := hE3.cells; have z3 : w.heap.size < w3.heap.size := (by have := hE3.size; (try simp at this); omega); have zl3 : w.heap.size ≤ w3.heap.size := Nat.le_of_lt z3)
    | (go_at_call 16; with_reducible refine (time_no t _ ht).mono ?_; rintro e w6 ⟨rfl, hE6⟩; have hc6 := hE6.cells; have z6 : w.heap.size < w6.heap.size := (by have := hE6.size; (try simp at this); omega); have zl6 : w.heap.size ≤ w6.heap.size := Nat.le_of_lt z6))
  refine bodyPost_ret (v := .bool true) ?_ rfl ⟨rfl, ?_⟩
  · simp [results, Tryd.results3, go_sem]
  · refine Ext.alloc ?_ _
    exact (((Ext.refl _).alloc _).trans hE1).trans (hE2.trans (hE3.trans hE6))
set_option maxHeartbeats 2000000 in
theorem times_yn (h m s t : Int) (w : World) (hL : Laid w) (hv : tmB h m s = true) (ht : sdB t = false) (t3 : t < 0) (t1 : -9223372036854775808 ≤ t) (t2 : t ≤ 9223372036854775807) :
    Calls Tryd.prog 3 #[.agg #[.int .i64 h, .int .i64 m, .int .i64 s], .int .i64 t] w fun e w' => e = .returned (.bool true) ∧ Ext w w' := by
  have HL := Lib.hid hL
  clear hL
  
  go_enter Tryd.func3, Tryd.ntmps3
  go_wp2_with (first
    | (go_at_call 13; refine (awake_c _ (HL.out.ext ((Ext.refl _).alloc _))).mono ?_; rintro e w1 ⟨rfl, hE1⟩; have hc1 := hE1.cells; have z1 : w.heap.size < w1.heap.size := (by have := hE1.size; (try simp at this); omega); have zl1 : w.heap.size ≤ w1.heap.size := Nat.le_of_lt z1)
    | (go_at_call 14; with_reducible refine (seconds_yes h m s _ hv).mono ?_; rintro e w2 ⟨rfl, hE2⟩; have hc2 := hE2.cells; have z2 : w.heap.size < w2.heap.size := (by have := hE2.size; (try simp at this); omega); have zl2 : w.heap.size ≤ w2.heap.size := Nat.le_of_lt z2)
    | (go_at_call 15; refine (validtime_yes _ _ _ _ hv).mono ?_; rintro e w3 ⟨rfl, hE3⟩; have hc3 := hE3.cells; have z3 : w.heap.size < w3.heap.size := (by have := hE3.size; (try simp at this); omega); have zl3 : w.heap.size ≤ w3.heap.size := Nat.le_of_lt z3)
    | (go_at_call 16; with_reducible refine (time_back h m s _ hv).mono ?_; rintro e w4 ⟨rfl, hE4⟩; have hc4 := hE4.cells; have z4 : w.heap.size < w4.heap.size := (by have := hE4.size; (try simp at this); omega); have zl4 : w.heap.size ≤ w4.heap.size := Nat.le_of_lt z4)
    | (go_at_call 17; refine (rseconds_yes _ _ _ _ hv).mono ?_; rintro e w5 ⟨rfl, hE5⟩; have hc5 := hE5.cells; have z5 : w.heap.size < w5.heap.size := (by have := hE5.size; (try simp at this); omega); have zl5 : w.heap.size ≤ w5.heap.size := Nat.le_of_lt z5; have z45 : w4.heap.size < w5.heap.size := (by have := hE5.size; (try simp at this); omega))
    | (go_at_call 16; with_reducible refine (time_no t _ ht).mono ?_; rintro e w6 ⟨rfl, hE6⟩; have hc6 := hE6.cells; have z6 : w.heap.size < w6.heap.size := (by have := hE6.size; (try simp at this); omega); have zl6 : w.heap.size ≤ w6.heap.size := Nat.le_of_lt z6))
  refine bodyPost_ret (v := .bool true) ?_ rfl ⟨rfl, ?_⟩
  · simp [results, Tryd.results3, go_sem]
  · refine Ext.alloc ?_ _
    exact (((Ext.refl _).alloc _).trans hE1).trans (hE2.trans (hE3.trans (hE4.trans ((((Ext.refl _).alloc _).trans hE5).trans hE6))))
set_option maxHeartbeats 2000000 in
theorem times_yb (h m s t : Int) (w : World) (hL : Laid w) (hv : tmB h m s = true) (ht : sdB t = false) (t3 : ¬ t < 0) (t4 : 86400 ≤ t) (t1 : -9223372036854775808 ≤ t) (t2 : t ≤ 9223372036854775807) :
    Calls Tryd.prog 3 #[.agg #[.int .i64 h, .int .i64 m, .int .i64 s], .int .i64 t] w fun e w' => e = .returned (.bool true) ∧ Ext w w' := by
  have HL := Lib.hid hL
  clear hL
  
  go_enter Tryd.func3, Tryd.ntmps3
  go_wp2_with (first
    | (go_at_call 13; refine (awake_c _ (HL.out.ext ((Ext.refl _).alloc _))).mono ?_; rintro e w1 ⟨rfl, hE1⟩; have hc1 := hE1.cells; have z1 : w.heap.size < w1.heap.size := (by have := hE1.size; (try simp at this); omega); have zl1 : w.heap.size ≤ w1.heap.size := Nat.le_of_lt z1)
    | (go_at_call 14; with_reducible refine (seconds_yes h m s _ hv).mono ?_; rintro e w2 ⟨rfl, hE2⟩; have hc2 := hE2.cells; have z2 : w.heap.size < w2.heap.size := (by have := hE2.size; (try simp at this); omega); have zl2 : w.heap.size ≤ w2.heap.size := Nat.le_of_lt z2)
    | (go_at_call 15; refine (validtime_yes _ _ _ _ hv).mono ?_; rintro e w3 ⟨rfl, hE3⟩; have hc3 := hE3.cells; have z3 : w.heap.size < w3.heap.size := (by have := hE3.size; (try simp at this); omega); have zl3 : w.heap.size ≤ w3.heap.size := Nat.le_of_lt z3)
    | (go_at_call 16; with_reducible refine (time_back h m s _ hv).mono ?_; rintro e w4 ⟨rfl, hE4⟩; have hc4 := hE4.cells; have z4 : w.heap.size < w4.heap.size := (by have := hE4.size; (try simp at this); omega); have zl4 : w.heap.size ≤ w4.heap.size := Nat.le_of_lt z4)
    | (go_at_call 17; refine (rseconds_yes _ _ _ _ hv).mono ?_; rintro e w5 ⟨rfl, hE5⟩; have hc5 := hE5.cells; have z5 : w.heap.size < w5.heap.size := (by have := hE5.size; (try simp at this); omega); have zl5 : w.heap.size ≤ w5.heap.size := Nat.le_of_lt z5; have z45 : w4.heap.size < w5.heap.size := (by have := hE5.size; (try simp at this); omega))
    | (go_at_call 16; with_reducible refine (time_no t _ ht).mono ?_; rintro e w6 ⟨rfl, hE6⟩; have hc6 := hE6.cells; have z6 : w.heap.size < w6.heap.size := (by have := hE6.size; (try simp at this); omega); have zl6 : w.heap.size ≤ w6.heap.size := Nat.le_of_lt z6))
  refine bodyPost_ret (v := .bool true) ?_ rfl ⟨rfl, ?_⟩
  · simp [results, Tryd.results3, go_sem]
  · refine Ext.alloc ?_ _
    exact (((Ext.refl _).alloc _).trans hE1).trans (hE2.trans (hE3.trans (hE4.trans ((((Ext.refl _).alloc _).trans hE5).trans hE6))))
set_option maxHeartbeats 2000000 in
theorem times_ny (h m s t : Int) (w : World) (hL : Laid w) (hv : tmB h m s = false) (ht : sdB t = true) (t3 : ¬ t < 0) (t4 : ¬ 86400 ≤ t) (t1 : -9223372036854775808 ≤ t) (t2 : t ≤ 9223372036854775807) :
    Calls Tryd.prog 3 #[.agg #[.int .i64 h, .int .i64 m, .int .i64 s], .int .i64 t] w fun e w' => e = .returned (.bool true) ∧ Ext w w' := by
  have HL := Lib.hid hL
  clear hL
  
  go_enter Tryd.func3, Tryd.ntmps3
  go_wp2_with (first
    | (go_at_call 13; refine (awake_c _ (HL.out.ext ((Ext.refl _).alloc _))).mono ?_; rintro e w1 ⟨rfl, hE1⟩; have hc1 := hE1.cells; have z1 : w.heap.size < w1.heap.size := (by have := hE1.size; (try simp at this); omega); have zl1 : w.heap.size ≤ w1.heap.size := Nat.le_of_lt z1)
    | (go_at_call 14; with_reducible refine (seconds_no h m s _ hv).mono ?_; rintro e w2 ⟨rfl, hE2⟩; have hc2 := hE2.cells; have z2 : w.heap.size < w2.heap.size := (by have := hE2.size; (try simp at this); omega); have zl2 : w.heap.size ≤ w2.heap.size := Nat.le_of_lt z2)
    | (go_at_call 15; refine (validtime_no _ _ _ _ hv).mono ?_; rintro e w3 ⟨rfl, hE3⟩; have hc3 := hE3.cells; have z3 : w.heap.size < w3.heap.size := (by have := hE3.size; (try simp at this); omega); have zl3 : w.heap.size ≤ w3.heap.size := Nat.le_of_lt z3)
    | (go_at_call 16; with_reducible refine (time_yes t _ ht).mono ?_; rintro e w6 ⟨rfl, hE6⟩; have hc6 := hE6.cells; have z6 : w.heap.size < w6.heap.size := (by have := hE6.size; (try simp at this); omega); have zl6 : w.heap.size ≤ w6.heap.size := Nat.le_of_lt z6)
    | (go_at_call 14; with_reducible refine (seconds_yes (t / 3600) (t / 60 % 60) (t % 60) _ (tm_bounds ht)).mono ?_; rw [time_secs ht]; rintro e w7 ⟨rfl, hE7⟩; have hc7 := hE7.cells; have z7 : w.heap.size < w7.heap.size := (by have := hE7.size; (try simp at this); omega); have zl7 : w.heap.size ≤ w7.heap.size := Nat.le_of_lt z7; have z67 : w6.heap.size < w7.heap.size := (by have := hE7.size; (try simp at this); omega)))
  have k0 : w7.cell? ⟨w6.heap.size, 0, none⟩ = some (.int .i64 (t / 3600)) := by rw [hc7 _ _ (by simp)]; simp
  have k1 : w7.cell? ⟨w6.heap.size, 1, none⟩ = some (.int .i64 (t / 60 % 60)) := by rw [hc7 _ _ (by simp)]; simp
  have k2 : w7.cell? ⟨w6.heap.size, 2, none⟩ = some (.int .i64 (t % 60)) := by rw [hc7 _ _ (by simp)]; simp
  have Z := Lib.hid (hE6.trans (((Ext.refl _).alloc _).trans hE7))
  have E17 := Lib.hid ((((Ext.refl _).alloc _).trans hE1).trans (hE2.trans (hE3.trans Z.out)))
  clear hc1 hc2 hc3 hc6 hc7
  generalize w6.heap.size = B at z67 k0 k1 k2 ⊢
  go_region_held3 (fun w' => w'.cell? ⟨B, 0, none⟩ = some (.int .i64 (t / 3600)) ∧ w'.cell? ⟨B, 1, none⟩ = some (.int .i64 (t / 60 % 60)) ∧ w'.cell? ⟨B, 2, none⟩ = some (.int .i64 (t % 60)) ∧ B < w'.heap.size) (first | go_keep | exact S8.out)
    (first | (go_at_call 18; refine (rtime_yes t _ ht).mono ?_; rintro e w8 ⟨rfl, hE8⟩; have S8 := Lib.hid (ext3 hE8 ⟨k0, k1, k2, z67⟩)))
  all_goals go_wp2
  all_goals
    refine bodyPost_ret (v := .bool true) ?_ rfl ⟨rfl, ?_⟩
    · simp [results, Tryd.results3, go_sem]
    · exact E17.out.trans (((Ext.refl _).drew).trans hE8)
set_option maxHeartbeats 2000000 in
theorem times_yy (h m s t : Int) (w : World) (hL : Laid w) (hv : tmB h m s = true) (ht : sdB t = true) (t3 : ¬ t < 0) (t4 : ¬ 86400 ≤ t) (t1 : -9223372036854775808 ≤ t) (t2 : t ≤ 9223372036854775807) :
    Calls Tryd.prog 3 #[.agg #[.int .i64 h, .int .i64 m, .int .i64 s], .int .i64 t] w fun e w' => e = .returned (.bool true) ∧ Ext w w' := by
  have HL := Lib.hid hL
  clear hL
  
  go_enter Tryd.func3, Tryd.ntmps3
  go_wp2_with (first
    | (go_at_call 13; refine (awake_c _ (HL.out.ext ((Ext.refl _).alloc _))).mono ?_; rintro e w1 ⟨rfl, hE1⟩; have hc1 := hE1.cells; have z1 : w.heap.size < w1.heap.size := (by have := hE1.size; (try simp at this); omega); have zl1 : w.heap.size ≤ w1.heap.size := Nat.le_of_lt z1)
    | (go_at_call 14; with_reducible refine (seconds_yes h m s _ hv).mono ?_; rintro e w2 ⟨rfl, hE2⟩; have hc2 := hE2.cells; have z2 : w.heap.size < w2.heap.size := (by have := hE2.size; (try simp at this); omega); have zl2 : w.heap.size ≤ w2.heap.size := Nat.le_of_lt z2)
    | (go_at_call 15; refine (validtime_yes _ _ _ _ hv).mono ?_; rintro e w3 ⟨rfl, hE3⟩; have hc3 := hE3.cells; have z3 : w.heap.size < w3.heap.size := (by have := hE3.size; (try simp at this); omega); have zl3 : w.heap.size ≤ w3.heap.size := Nat.le_of_lt z3)
    | (go_at_call 16; with_reducible refine (time_back h m s _ hv).mono ?_; rintro e w4 ⟨rfl, hE4⟩; have hc4 := hE4.cells; have z4 : w.heap.size < w4.heap.size := (by have := hE4.size; (try simp at this); omega); have zl4 : w.heap.size ≤ w4.heap.size := Nat.le_of_lt z4)
    | (go_at_call 17; refine (rseconds_yes _ _ _ _ hv).mono ?_; rintro e w5 ⟨rfl, hE5⟩; have hc5 := hE5.cells; have z5 : w.heap.size < w5.heap.size := (by have := hE5.size; (try simp at this); omega); have zl5 : w.heap.size ≤ w5.heap.size := Nat.le_of_lt z5; have z45 : w4.heap.size < w5.heap.size := (by have := hE5.size; (try simp at this); omega))
    | (go_at_call 16; with_reducible refine (time_yes t _ ht).mono ?_; rintro e w6 ⟨rfl, hE6⟩; have hc6 := hE6.cells; have z6 : w.heap.size < w6.heap.size := (by have := hE6.size; (try simp at this); omega); have zl6 : w.heap.size ≤ w6.heap.size := Nat.le_of_lt z6)
    | (go_at_call 14; with_reducible refine (seconds_yes (t / 3600) (t / 60 % 60) (t % 60) _ (tm_bounds ht)).mono ?_; rw [time_secs ht]; rintro e w7 ⟨rfl, hE7⟩; have hc7 := hE7.cells; have z7 : w.heap.size < w7.heap.size := (by have := hE7.size; (try simp at this); omega); have zl7 : w.heap.size ≤ w7.heap.size := Nat.le_of_lt z7; have z67 : w6.heap.size < w7.heap.size := (by have := hE7.size; (try simp at this); omega)))
  have k0 : w7.cell? ⟨w6.heap.size, 0, none⟩ = some (.int .i64 (t / 3600)) := by rw [hc7 _ _ (by simp)]; simp
  have k1 : w7.cell? ⟨w6.heap.size, 1, none⟩ = some (.int .i64 (t / 60 % 60)) := by rw [hc7 _ _ (by simp)]; simp
  have k2 : w7.cell? ⟨w6.heap.size, 2, none⟩ = some (.int .i64 (t % 60)) := by rw [hc7 _ _ (by simp)]; simp
  have Z := Lib.hid (hE6.trans (((Ext.refl _).alloc _).trans hE7))
  have E17 := Lib.hid ((((Ext.refl _).alloc _).trans hE1).trans (hE2.trans (hE3.trans (hE4.trans ((((Ext.refl _).alloc _).trans hE5).trans Z.out)))))
  clear hc1 hc2 hc3 hc6 hc7
  generalize w6.heap.size = B at z67 k0 k1 k2 ⊢
  go_region_held3 (fun w' => w'.cell? ⟨B, 0, none⟩ = some (.int .i64 (t / 3600)) ∧ w'.cell? ⟨B, 1, none⟩ = some (.int .i64 (t / 60 % 60)) ∧ w'.cell? ⟨B, 2, none⟩ = some (.int .i64 (t % 60)) ∧ B < w'.heap.size) (first | go_keep | exact S8.out)
    (first | (go_at_call 18; refine (rtime_yes t _ ht).mono ?_; rintro e w8 ⟨rfl, hE8⟩; have S8 := Lib.hid (ext3 hE8 ⟨k0, k1, k2, z67⟩)))
  all_goals go_wp2
  all_goals
    refine bodyPost_ret (v := .bool true) ?_ rfl ⟨rfl, ?_⟩
    · simp [results, Tryd.results3, go_sem]
    · exact E17.out.trans (((Ext.refl _).drew).trans hE8)
theorem times_walk (h m s t : Int) (w : World) (hL : Laid w) (t1 : -9223372036854775808 ≤ t) (t2 : t ≤ 9223372036854775807) :
    Calls Tryd.prog 3 #[.agg #[.int .i64 h, .int .i64 m, .int .i64 s], .int .i64 t] w fun e w' => e = .returned (.bool true) ∧ Ext w w' := by
  rcases Bool.eq_false_or_eq_true (tmB h m s) with hv | hv
  · by_cases c : t < 0
    · exact times_yn h m s t w hL hv (by unfold sdB; simp; omega) c t1 t2
    · by_cases d : 86400 ≤ t
      · exact times_yb h m s t w hL hv (by unfold sdB; simp; omega) c d t1 t2
      · exact times_yy h m s t w hL hv (sd_iff.2 (by omega)) c d t1 t2
  · by_cases c : t < 0
    · exact times_nn h m s t w hL hv (by unfold sdB; simp; omega) c t1 t2
    · by_cases d : 86400 ≤ t
      · exact times_nb h m s t w hL hv (by unfold sdB; simp; omega) c d t1 t2
      · exact times_ny h m s t w hL hv (sd_iff.2 (by omega)) c d t1 t2
end Go.Proofs.YtplckoffiebibaaDoor
