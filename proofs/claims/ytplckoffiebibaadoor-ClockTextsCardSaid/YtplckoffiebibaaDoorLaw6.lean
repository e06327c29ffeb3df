/- The walk of the law ClockMoments. -/
import Derived.Test.YtplckoffiebibaaDoorLaw5
import Derived.Test.YtplckoffiebibaaDoorLaw3
namespace Go.Proofs.YtplckoffiebibaaDoor
open Go.RowKit
set_option linter.unusedVariables false
set_option linter.unusedSimpArgs false

theorem hms_tm {t a b c : Int} (e : hmsOf t a b c) : tmB a b c = true := by
  obtain ⟨rfl, rfl, rfl⟩ := e
  exact tm_bounds (split_sd t)
theorem inst_back {t Y M D a b c : Int} (hD : IsDate (t / 86400) Y M D) (e : hmsOf t a b c) : inst Y M D a b c = t := by
  obtain ⟨rfl, rfl, rfl⟩ := e
  unfold inst
  rw [hD.2, time_secs (split_sd t)]
  omega
theorem rmoment_hms (t : Int) {H M S : Int} (w : World) (h : insT t = true) (e : hmsOf t H M S) :
    Calls Tryd.prog 28 #[.int .i64 t] w fun e w' => ∃ y m d : Int, e = .returned (.agg #[.int .i64 y, .int .i64 m, .int .i64 d, .int .i64 H, .int .i64 M, .int .i64 S]) ∧ IsDate (t / 86400) y m d ∧ Ext w w' := by
  obtain ⟨rfl, rfl, rfl⟩ := e
  exact rmoment_yes t w h
theorem moment_back (y mo d h mi s : Int) (w : World) (hv : vldB y mo d = true) (ht : tmB h mi s = true) :
    Calls Tryd.prog 26 #[.int .i64 (inst y mo d h mi s)] w fun e w' => e = .returned (.tuple #[.agg #[.int .i64 y, .int .i64 mo, .int .i64 d, .int .i64 h, .int .i64 mi, .int .i64 s], .int .i64 0]) ∧ Ext w w' := by
  have b := ins_iff.1 (ins_of_vld hv)
  have c := secs_bd ht
  have e1 : inst y mo d h mi s / 86400 = dn y mo d := by unfold inst; omega
  have e2 : inst y mo d h mi s % 86400 = secs h mi s := by unfold inst; omega
  refine (moment_yes _ w (insT_iff.2 (by unfold inst; omega))).mono ?_
  rintro e w' ⟨Y, M, D, rfl, hD, hE⟩
  rw [e1] at hD
  obtain ⟨rfl, rfl, rfl⟩ := hD.inj ⟨hv, rfl⟩
  refine ⟨?_, hE⟩
  unfold momv
  rw [e2, (secs_time ht).1, (secs_time ht).2.1, (secs_time ht).2.2]

set_option maxHeartbeats 2000000 in
theorem moments_nn (y mo d h mi s t : Int) (w : World) (hL : Laid w) (hv : ¬ (vldB y mo d = true ∧ tmB h mi s = true)) (ht : insT t = false) (t1 : -9223372036854775808 ≤ t) (t2 : t ≤ 9223372036854775807) :
    Calls Tryd.prog 5 #[.agg #[.int .i64 y, .int .i64 mo, .int .i64 d, .int .i64 h, .int .i64 mi, .int .i64 s], .int .i64 t] w fun e w' => e = .returned (.bool true) ∧ Ext w w' := by
  have HL := Lib.hid hL
  clear hL
  go_enter Tryd.func5, Tryd.ntmps5
  go_wp2_with (first
    | (go_at_call 13; refine (awake_c _ (HL.out.ext ((Ext.refl _).alloc _))).mono ?_; rintro e w1 ⟨rfl, hE1⟩; have hc1 := hE1.cells; have z1 : w.heap.size < w1.heap.size := (by have := hE1.size; (try simp at this); omega); have zl1 : w.heap.size ≤ w1.heap.size := Nat.le_of_lt z1)
    | (go_at_call 24; (with_reducible refine (of_no y mo d h mi s _ hv).mono ?_); rintro e w2 ⟨rfl, hE2⟩; have hc2 := hE2.cells; have z2 : w.heap.size < w2.heap.size := (by have := hE2.size; (try simp at this); omega); have zl2 : w.heap.size ≤ w2.heap.size := Nat.le_of_lt z2)
    | (go_at_call 25; refine (rvalidm_no _ _ _ _ _ _ _ hv).mono ?_; rintro e w3 ⟨rfl, hE3⟩; have hc3 := hE3.cells; have z3 : w.heap.size < w3.heap.size := (by have := hE3.size; (try simp at this); omega); have zl3 : w.heap.size ≤ w3.heap.size := Nat.le_of_lt z3)
    | (go_at_call 22; refine (rinst_c _ _).mono ?_; rw [ht]; rintro e wi ⟨rfl, rfl⟩)
    | (go_at_call 26; (with_reducible refine (moment_no t _ ht).mono ?_); rintro e w6 ⟨rfl, hE6⟩; unfold mom0; have hc6 := hE6.cells; have z6 : w.heap.size < w6.heap.size := (by have := hE6.size; (try simp at this); omega); have zl6 : w.heap.size ≤ w6.heap.size := Nat.le_of_lt z6))
  refine bodyPost_ret (v := .bool true) ?_ rfl ⟨rfl, ?_⟩
  · simp [results, Tryd.results5, go_sem]
  · refine Ext.alloc ?_ _
    exact (((Ext.refl _).alloc _).trans hE1).trans (hE2.trans (hE3.trans hE6))
set_option maxHeartbeats 2000000 in
theorem moments_yn (y mo d h mi s t : Int) (w : World) (hL : Laid w) (hv : vldB y mo d = true ∧ tmB h mi s = true) (ht : insT t = false) (t1 : -9223372036854775808 ≤ t) (t2 : t ≤ 9223372036854775807) :
    Calls Tryd.prog 5 #[.agg #[.int .i64 y, .int .i64 mo, .int .i64 d, .int .i64 h, .int .i64 mi, .int .i64 s], .int .i64 t] w fun e w' => e = .returned (.bool true) ∧ Ext w w' := by
  have HL := Lib.hid hL
  clear hL
  go_enter Tryd.func5, Tryd.ntmps5
  go_wp2_with (first
    | (go_at_call 13; refine (awake_c _ (HL.out.ext ((Ext.refl _).alloc _))).mono ?_; rintro e w1 ⟨rfl, hE1⟩; have hc1 := hE1.cells; have z1 : w.heap.size < w1.heap.size := (by have := hE1.size; (try simp at this); omega); have zl1 : w.heap.size ≤ w1.heap.size := Nat.le_of_lt z1)
    | (go_at_call 24; (with_reducible refine (of_yes y mo d h mi s _ hv.1 hv.2).mono ?_); rintro e w2 ⟨rfl, hE2⟩; have hc2 := hE2.cells; have z2 : w.heap.size < w2.heap.size := (by have := hE2.size; (try simp at this); omega); have zl2 : w.heap.size ≤ w2.heap.size := Nat.le_of_lt z2)
    | (go_at_call 25; refine (rvalidm_yes _ _ _ _ _ _ _ hv.1 hv.2).mono ?_; rintro e w3 ⟨rfl, hE3⟩; have hc3 := hE3.cells; have z3 : w.heap.size < w3.heap.size := (by have := hE3.size; (try simp at this); omega); have zl3 : w.heap.size ≤ w3.heap.size := Nat.le_of_lt z3)
    | (go_at_call 26; (with_reducible refine (moment_back y mo d h mi s _ hv.1 hv.2).mono ?_); rintro e w4 ⟨rfl, hE4⟩; have hc4 := hE4.cells; have z4 : w.heap.size < w4.heap.size := (by have := hE4.size; (try simp at this); omega); have zl4 : w.heap.size ≤ w4.heap.size := Nat.le_of_lt z4)
    | (go_at_call 27; refine (rof_yes _ _ _ _ _ _ _ hv.1 hv.2).mono ?_; rintro e w5 ⟨rfl, hE5⟩; have hc5 := hE5.cells; have z5 : w.heap.size < w5.heap.size := (by have := hE5.size; (try simp at this); omega); have zl5 : w.heap.size ≤ w5.heap.size := Nat.le_of_lt z5; have z45 : w4.heap.size < w5.heap.size := (by have := hE5.size; (try simp at this); omega))
    | (go_at_call 22; refine (rinst_c _ _).mono ?_; rw [ht]; rintro e wi ⟨rfl, rfl⟩)
    | (go_at_call 26; (with_reducible refine (moment_no t _ ht).mono ?_); rintro e w6 ⟨rfl, hE6⟩; unfold mom0; have hc6 := hE6.cells; have z6 : w.heap.size < w6.heap.size := (by have := hE6.size; (try simp at this); omega); have zl6 : w.heap.size ≤ w6.heap.size := Nat.le_of_lt z6))
  refine bodyPost_ret (v := .bool true) ?_ rfl ⟨rfl, ?_⟩
  · simp [results, Tryd.results5, go_sem]
  · refine Ext.alloc ?_ _
    exact (((Ext.refl _).alloc _).trans hE1).trans (hE2.trans (hE3.trans (hE4.trans ((((Ext.refl _).alloc _).trans hE5).trans hE6))))
set_option maxHeartbeats 2000000 in
theorem moments_ny (y mo d h mi s t : Int) (w : World) (hL : Laid w) (hv : ¬ (vldB y mo d = true ∧ tmB h mi s = true)) (ht : insT t = true) (a b c : Int) (he : hmsOf t a b c) (t1 : -9223372036854775808 ≤ t) (t2 : t ≤ 9223372036854775807) :
    Calls Tryd.prog 5 #[.agg #[.int .i64 y, .int .i64 mo, .int .i64 d, .int .i64 h, .int .i64 mi, .int .i64 s], .int .i64 t] w fun e w' => e = .returned (.bool true) ∧ Ext w w' := by
  have HL := Lib.hid hL
  clear hL
  go_enter Tryd.func5, Tryd.ntmps5
  go_wp2_with (first
    | (go_at_call 13; refine (awake_c _ (HL.out.ext ((Ext.refl _).alloc _))).mono ?_; rintro e w1 ⟨rfl, hE1⟩; have hc1 := hE1.cells; have z1 : w.heap.size < w1.heap.size := (by have := hE1.size; (try simp at this); omega); have zl1 : w.heap.size ≤ w1.heap.size := Nat.le_of_lt z1)
    | (go_at_call 24; (with_reducible refine (of_no y mo d h mi s _ hv).mono ?_); rintro e w2 ⟨rfl, hE2⟩; have hc2 := hE2.cells; have z2 : w.heap.size < w2.heap.size := (by have := hE2.size; (try simp at this); omega); have zl2 : w.heap.size ≤ w2.heap.size := Nat.le_of_lt z2)
    | (go_at_call 25; refine (rvalidm_no _ _ _ _ _ _ _ hv).mono ?_; rintro e w3 ⟨rfl, hE3⟩; have hc3 := hE3.cells; have z3 : w.heap.size < w3.heap.size := (by have := hE3.size; (try simp at this); omega); have zl3 : w.heap.size ≤ w3.heap.size := Nat.le_of_lt z3)
    | (go_at_call 22; refine (rinst_c _ _).mono ?_; rw [ht]; rintro e wi ⟨rfl, rfl⟩)
    | (go_at_call 26; (with_reducible refine (moment_hms t _ ht he).mono ?_); rintro e w6 ⟨Y, M, D, rfl, hD, hE6⟩; have hV := hD.1; have hc6 := hE6.cells; have z6 : w.heap.size < w6.heap.size := (by have := hE6.size; (try simp at this); omega); have zl6 : w.heap.size ≤ w6.heap.size := Nat.le_of_lt z6)
    | (go_at_call 24; (with_reducible refine (of_yes Y M D a b c _ hV (hms_tm he)).mono ?_); rw [inst_back hD he]; rintro e w7 ⟨rfl, hE7⟩; have hc7 := hE7.cells; have z7 : w.heap.size < w7.heap.size := (by have := hE7.size; (try simp at this); omega); have zl7 : w.heap.size ≤ w7.heap.size := Nat.le_of_lt z7; have z67 : w6.heap.size < w7.heap.size := (by have := hE7.size; (try simp at this); omega)))
  have k0 : w7.cell? ⟨w6.heap.size, 0, none⟩ = some (.int .i64 Y) := by rw [hc7 _ _ (by simp)]; simp
  have k1 : w7.cell? ⟨w6.heap.size, 1, none⟩ = some (.int .i64 M) := by rw [hc7 _ _ (by simp)]; simp
  have k2 : w7.cell? ⟨w6.heap.size, 2, none⟩ = some (.int .i64 D) := by rw [hc7 _ _ (by simp)]; simp
  have k3 : w7.cell? ⟨w6.heap.size, 3, none⟩ = some (.int .i64 a) := by rw [hc7 _ _ (by simp)]; simp
  have k4 : w7.cell? ⟨w6.heap.size, 4, none⟩ = some (.int .i64 b) := by rw [hc7 _ _ (by simp)]; simp
  have k5 : w7.cell? ⟨w6.heap.size, 5, none⟩ = some (.int .i64 c) := by rw [hc7 _ _ (by simp)]; simp
  have Z := Lib.hid (hE6.trans (((Ext.refl _).alloc _).trans hE7))
  have E17 := Lib.hid ((((Ext.refl _).alloc _).trans hE1).trans (hE2.trans (hE3.trans Z.out)))
  clear hc1 hc2 hc3 hc6 hc7
  generalize w6.heap.size = B at z67 k0 k1 k2 k3 k4 k5 ⊢
  go_region_held3 (fun w' => w'.cell? ⟨B, 0, none⟩ = some (.int .i64 Y) ∧ w'.cell? ⟨B, 1, none⟩ = some (.int .i64 M) ∧ w'.cell? ⟨B, 2, none⟩ = some (.int .i64 D) ∧ w'.cell? ⟨B, 3, none⟩ = some (.int .i64 a) ∧ w'.cell? ⟨B, 4, none⟩ = some (.int .i64 b) ∧ w'.cell? ⟨B, 5, none⟩ = some (.int .i64 c) ∧ B < w'.heap.size) (first | go_keep | exact S8.out)
    (first | (go_at_call 28; refine (rmoment_hms t _ ht he).mono ?_; rintro e w8 ⟨Y2, M2, D2, rfl, hD2, hE8⟩; obtain ⟨rfl, rfl, rfl⟩ := hD.inj hD2; have S8 := Lib.hid (ext6 hE8 ⟨k0, k1, k2, k3, k4, k5, z67⟩)))
  all_goals go_wp2
  all_goals
    refine bodyPost_ret (v := .bool true) ?_ rfl ⟨rfl, ?_⟩
    · simp [results, Tryd.results5, go_sem]
    · exact E17.out.trans (((Ext.refl _).drew).trans hE8)
set_option maxHeartbeats 2000000 in
theorem moments_yy (y mo d h mi s t : Int) (w : World) (hL : Laid w) (hv : vldB y mo d = true ∧ tmB h mi s = true) (ht : insT t = true) (a b c : Int) (he : hmsOf t a b c) (t1 : -9223372036854775808 ≤ t) (t2 : t ≤ 9223372036854775807) :
    Calls Tryd.prog 5 #[.agg #[.int .i64 y, .int .i64 mo, .int .i64 d, .int .i64 h, .int .i64 mi, .int .i64 s], .int .i64 t] w fun e w' => e = .returned (.bool true) ∧ Ext w w' := by
  have HL := Lib.hid hL
  clear hL
  go_enter Tryd.func5, Tryd.ntmps5
  go_wp2_with (first
    | (go_at_call 13; refine (awake_c _ (HL.out.ext ((Ext.refl _).alloc _))).mono ?_; rintro e w1 ⟨rfl, hE1⟩; have hc1 := hE1.cells; have z1 : w.heap.size < w1.heap.size := (by have := hE1.size; (try simp at this); omega); have zl1 : w.heap.size ≤ w1.heap.size := Nat.le_of_lt z1)
    | (go_at_call 24; (with_reducible refine (of_yes y mo d h mi s _ hv.1 hv.2).mono ?_); rintro e w2 ⟨rfl, hE2⟩; have hc2 := hE2.cells; have z2 : w.heap.size < w2.heap.size := (by have := hE2.size; (try simp at this); omega); have zl2 : w.heap.size ≤ w2.heap.size := Nat.le_of_lt z2)
    | (go_at_call 25; refine (rvalidm_yes _ _ _ _ _ _ _ hv.1 hv.2).mono ?_; rintro e w3 ⟨rfl, hE3⟩; have hc3 := hE3.cells; have z3 : w.heap.size < w3.heap.size := (by have := hE3.size; (try simp at this); omega); have zl3 : w.heap.size ≤ w3.heap.size := Nat.le_of_lt z3)
    | (go_at_call 26; (with_reducible refine (moment_back y mo d h mi s _ hv.1 hv.2).mono ?_); rintro e w4 ⟨rfl, hE4⟩; have hc4 := hE4.cells; have z4 : w.heap.size < w4.heap.size := (by have := hE4.size; (try simp at this); omega); have zl4 : w.heap.size ≤ w4.heap.size := Nat.le_of_lt z4)
    | (go_at_call 27; refine (rof_yes _ _ _ _ _ _ _ hv.1 hv.2).mono ?_; rintro e w5 ⟨rfl, hE5⟩; have hc5 := hE5.cells; have z5 : w.heap.size < w5.heap.size := (by have := hE5.size; (try simp at this); omega); have zl5 : w.heap.size ≤ w5.heap.size := Nat.le_of_lt z5; have z45 : w4.heap.size < w5.heap.size := (by have := hE5.size; (try simp at this); omega))
    | (go_at_call 22; refine (rinst_c _ _).mono ?_; rw [ht]; rintro e wi ⟨rfl, rfl⟩)
    | (go_at_call 26; (with_reducible refine (moment_hms t _ ht he).mono ?_); rintro e w6 ⟨Y, M, D, rfl, hD, hE6⟩; have hV := hD.1; have hc6 := hE6.cells; have z6 : w.heap.size < w6.heap.size := (by have := hE6.size; (try simp at this); omega); have zl6 : w.heap.size ≤ w6.heap.size := Nat.le_of_lt z6)
    | (go_at_call 24; (with_reducible refine (of_yes Y M D a b c _ hV (hms_tm he)).mono ?_); rw [inst_back hD he]; rintro e w7 ⟨rfl, hE7⟩; have hc7 := hE7.cells; have z7 : w.heap.size < w7.heap.size := (by have := hE7.size; (try simp at this); omega); have zl7 : w.heap.size ≤ w7.heap.size := Nat.le_of_lt z7; have z67 : w6.heap.size < w7.heap.size := (by have := hE7.size; (try simp at this); omega)))
  have k0 : w7.cell? ⟨w6.heap.size, 0, none⟩ = some (.int .i64 Y) := by rw [hc7 _ _ (by simp)]; simp
  have k1 : w7.cell? ⟨w6.heap.size, 1, none⟩ = some (.int .i64 M) := by rw [hc7 _ _ (by simp)]; simp
  have k2 : w7.cell? ⟨w6.heap.size, 2, none⟩ = some (.int .i64 D) := by rw [hc7 _ _ (by simp)]; simp
  have k3 : w7.cell? ⟨w6.heap.size, 3, none⟩ = some (.int .i64 a) := by rw [hc7 _ _ (by simp)]; simp
  have k4 : w7.cell? ⟨w6.heap.size, 4, none⟩ = some (.int .i64 b) := by rw [hc7 _ _ (by simp)]; simp
  have k5 : w7.cell? ⟨w6.heap.size, 5, none⟩ = some (.int .i64 c) := by rw [hc7 _ _ (by simp)]; simp
  have Z := Lib.hid (hE6.trans (((Ext.refl _).alloc _).trans hE7))
  have E17 := Lib.hid ((((Ext.refl _).alloc _).trans hE1).trans (hE2.trans (hE3.trans (hE4.trans ((((Ext.refl _).alloc _).trans hE5).trans Z.out)))))
  clear hc1 hc2 hc3 hc6 hc7
  generalize w6.heap.size = B at z67 k0 k1 k2 k3 k4 k5 ⊢
  go_region_held3 (fun w' => w'.cell? ⟨B, 0, none⟩ = some (.int .i64 Y) ∧ w'.cell? ⟨B, 1, none⟩ = some (.int .i64 M) ∧ w'.cell? ⟨B, 2, none⟩ = some (.int .i64 D) ∧ w'.cell? ⟨B, 3, none⟩ = some (.int .i64 a) ∧ w'.cell? ⟨B, 4, none⟩ = some (.int .i64 b) ∧ w'.cell? ⟨B, 5, none⟩ = some (.int .i64 c) ∧ B < w'.heap.size) (first | go_keep | exact S8.out)
    (first | (go_at_call 28; refine (rmoment_hms t _ ht he).mono ?_; rintro e w8 ⟨Y2, M2, D2, rfl, hD2, hE8⟩; obtain ⟨rfl, rfl, rfl⟩ := hD.inj hD2; have S8 := Lib.hid (ext6 hE8 ⟨k0, k1, k2, k3, k4, k5, z67⟩)))
  all_goals go_wp2
  all_goals
    refine bodyPost_ret (v := .bool true) ?_ rfl ⟨rfl, ?_⟩
    · simp [results, Tryd.results5, go_sem]
    · exact E17.out.trans (((Ext.refl _).drew).trans hE8)
theorem moments_walk (y mo d h mi s t : Int) (w : World) (hL : Laid w) (t1 : -9223372036854775808 ≤ t) (t2 : t ≤ 9223372036854775807) :
    Calls Tryd.prog 5 #[.agg #[.int .i64 y, .int .i64 mo, .int .i64 d, .int .i64 h, .int .i64 mi, .int .i64 s], .int .i64 t] w fun e w' => e = .returned (.bool true) ∧ Ext w w' := by
  by_cases hv : vldB y mo d = true ∧ tmB h mi s = true
  · rcases Bool.eq_false_or_eq_true (insT t) with ht | ht
    · exact moments_yy y mo d h mi s t w hL hv ht _ _ _ ⟨rfl, rfl, rfl⟩ t1 t2
    · exact moments_yn y mo d h mi s t w hL hv ht t1 t2
  · rcases Bool.eq_false_or_eq_true (insT t) with ht | ht
    · exact moments_ny y mo d h mi s t w hL hv ht _ _ _ ⟨rfl, rfl, rfl⟩ t1 t2
    · exact moments_nn y mo d h mi s t w hL hv ht t1 t2
end Go.Proofs.YtplckoffiebibaaDoor
