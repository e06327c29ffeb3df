/- The walk of the law ClockSteps. -/
import Derived.Test.YtplckoffiebibaaDoorAwk
import Derived.Sort.Row
namespace Go.Proofs.YtplckoffiebibaaDoor
open Go.RowKit

theorem setCell2 (w : World) (b o : Nat) (u v : Value) : (w.setCell ⟨b, o, none⟩ u).setCell ⟨b, o, none⟩ v = w.setCell ⟨b, o, none⟩ v := by
  rw [Go.Sort.setCell_eq, Go.Sort.setCell_eq, Go.Sort.mapBlock_mapBlock, Go.Sort.setCell_eq]
  congr 1
  funext c
  simp

def hmsOf (t H M S : Int) : Prop := t % 86400 / 3600 = H ∧ t % 86400 / 60 % 60 = M ∧ t % 86400 % 60 = S
theorem moment_hms (t : Int) {H M S : Int} (w : World) (h : insT t = true) (e : hmsOf t H M S) :
    Calls Tryd.prog 26 #[.int .i64 t] w fun e w' => ∃ y m d : Int, e = .returned (.tuple #[.agg #[.int .i64 y, .int .i64 m, .int .i64 d, .int .i64 H, .int .i64 M, .int .i64 S], .int .i64 0]) ∧ IsDate (t / 86400) y m d ∧ Ext w w' := by
  obtain ⟨rfl, rfl, rfl⟩ := e
  exact moment_yes t w h

set_option maxHeartbeats 2000000 in
theorem steps_a (t H M S : Int) (w : World) (hL : Laid w) (h : insT t = true) (h' : insT (t + 1) = true) (e1 : hmsOf t H M S) (e2 : hmsOf (t + 1) H M (S + 1)) (s1 : 0 ≤ S) (s2 : S < 59) (hday : (t + 1) / 86400 = t / 86400) (m1 : 0 ≤ M) (m2 : M < 60) (k1 : 0 ≤ H) (k2 : H < 24) (b1 : -62135596800 ≤ t) (b2 : t < 253402300799) :
    Calls Tryd.prog 6 #[.int .i64 t] w fun e w' => e = .returned (.bool true) ∧ Ext w w' := by
  have HL := Lib.hid hL
  have H1 := Lib.hid h
  have H2 := Lib.hid h'
  have E1 := Lib.hid e1
  have E2 := Lib.hid e2
  clear hL h h' e1 e2
  have g1 : (S + 1 == 60) = false := (by simp; omega); have g2 : (M == 60) = false := (by simp; omega); have g3 : (H == 24) = false := (by simp; omega)
  go_enter Tryd.func6, Tryd.ntmps6
  go_wp2_with (first
    | (go_at_call 13; refine (awake_c _ HL.out).mono ?_; rintro e w1 ⟨rfl, hE1⟩)
    | (go_at_call 26; with_reducible refine (moment_hms t _ H1.out E1.out).mono ?_; rintro e w2 ⟨y, m, d, rfl, hD, hE2⟩)
    | (go_at_call 26; with_reducible refine (moment_hms (t + 1) _ H2.out E2.out).mono ?_; rintro e w3 ⟨y', m', d', rfl, hD', hE3⟩; rw [hday] at hD'; obtain ⟨rfl, rfl, rfl⟩ := hD'.inj hD; have hc3 := hE3.cells; have hf3 := hE3.frozens; have hz3 : w2.heap.size < w3.heap.size := (by have := hE3.size; simp at this; omega))
    )
  refine bodyPost_ret (v := .bool true) ?_ rfl ⟨rfl, ?_⟩
  · simp [results, Tryd.results6, go_sem]
  · refine (hE1.trans hE2).trans ?_
    refine Ext.alloc ?_ _; iterate 1 refine Ext.setCell ?_ (by simp) _
    exact ((Ext.refl _).alloc _).trans hE3
set_option maxHeartbeats 2000000 in
theorem steps_b (t H M S : Int) (w : World) (hL : Laid w) (h : insT t = true) (h' : insT (t + 1) = true) (e1 : hmsOf t H M S) (e2 : hmsOf (t + 1) H (M + 1) 0) (s1 : S = 59) (hday : (t + 1) / 86400 = t / 86400) (m1 : 0 ≤ M) (m2 : M < 59) (k1 : 0 ≤ H) (k2 : H < 24) (b1 : -62135596800 ≤ t) (b2 : t < 253402300799) :
    Calls Tryd.prog 6 #[.int .i64 t] w fun e w' => e = .returned (.bool true) ∧ Ext w w' := by
  have HL := Lib.hid hL
  have H1 := Lib.hid h
  have H2 := Lib.hid h'
  have E1 := Lib.hid e1
  have E2 := Lib.hid e2
  clear hL h h' e1 e2
  subst s1; have hss := setCell2; have g2 : (M + 1 == 60) = false := (by simp; omega); have g3 : (H == 24) = false := (by simp; omega)
  go_enter Tryd.func6, Tryd.ntmps6
  go_wp2_with (first
    | (go_at_call 13; refine (awake_c _ HL.out).mono ?_; rintro e w1 ⟨rfl, hE1⟩)
    | (go_at_call 26; with_reducible refine (moment_hms t _ H1.out E1.out).mono ?_; rintro e w2 ⟨y, m, d, rfl, hD, hE2⟩)
    | (go_at_call 26; with_reducible refine (moment_hms (t + 1) _ H2.out E2.out).mono ?_; rintro e w3 ⟨y', m', d', rfl, hD', hE3⟩; rw [hday] at hD'; obtain ⟨rfl, rfl, rfl⟩ := hD'.inj hD; have hc3 := hE3.cells; have hf3 := hE3.frozens; have hz3 : w2.heap.size < w3.heap.size := (by have := hE3.size; simp at this; omega))
    )
  refine bodyPost_ret (v := .bool true) ?_ rfl ⟨rfl, ?_⟩
  · simp [results, Tryd.results6, go_sem]
  · refine (hE1.trans hE2).trans ?_
    refine Ext.alloc ?_ _; iterate 2 refine Ext.setCell ?_ (by simp) _
    exact ((Ext.refl _).alloc _).trans hE3
set_option maxHeartbeats 2000000 in
theorem steps_c (t H M S : Int) (w : World) (hL : Laid w) (h : insT t = true) (h' : insT (t + 1) = true) (e1 : hmsOf t H M S) (e2 : hmsOf (t + 1) (H + 1) 0 0) (s1 : S = 59) (m1 : M = 59) (hday : (t + 1) / 86400 = t / 86400) (k1 : 0 ≤ H) (k2 : H < 23) (b1 : -62135596800 ≤ t) (b2 : t < 253402300799) :
    Calls Tryd.prog 6 #[.int .i64 t] w fun e w' => e = .returned (.bool true) ∧ Ext w w' := by
  have HL := Lib.hid hL
  have H1 := Lib.hid h
  have H2 := Lib.hid h'
  have E1 := Lib.hid e1
  have E2 := Lib.hid e2
  clear hL h h' e1 e2
  subst s1 m1; have hss := setCell2; have g3 : (H + 1 == 24) = false := (by simp; omega)
  go_enter Tryd.func6, Tryd.ntmps6
  go_wp2_with (first
    | (go_at_call 13; refine (awake_c _ HL.out).mono ?_; rintro e w1 ⟨rfl, hE1⟩)
    | (go_at_call 26; with_reducible refine (moment_hms t _ H1.out E1.out).mono ?_; rintro e w2 ⟨y, m, d, rfl, hD, hE2⟩)
    | (go_at_call 26; with_reducible refine (moment_hms (t + 1) _ H2.out E2.out).mono ?_; rintro e w3 ⟨y', m', d', rfl, hD', hE3⟩; rw [hday] at hD'; obtain ⟨rfl, rfl, rfl⟩ := hD'.inj hD; have hc3 := hE3.cells; have hf3 := hE3.frozens; have hz3 : w2.heap.size < w3.heap.size := (by have := hE3.size; simp at this; omega))
    )
  refine bodyPost_ret (v := .bool true) ?_ rfl ⟨rfl, ?_⟩
  · simp [results, Tryd.results6, go_sem]
  · refine (hE1.trans hE2).trans ?_
    refine Ext.alloc ?_ _; iterate 3 refine Ext.setCell ?_ (by simp) _
    exact ((Ext.refl _).alloc _).trans hE3
set_option maxHeartbeats 2000000 in
theorem steps_d (t H M S : Int) (w : World) (hL : Laid w) (h : insT t = true) (h' : insT (t + 1) = true) (e1 : hmsOf t H M S) (e2 : hmsOf (t + 1) 0 0 0) (s1 : S = 59) (m1 : M = 59) (k1 : H = 23) (hday : (t + 1) / 86400 = t / 86400 + 1) (b1 : -62135596800 ≤ t) (b2 : t < 253402300799) :
    Calls Tryd.prog 6 #[.int .i64 t] w fun e w' => e = .returned (.bool true) ∧ Ext w w' := by
  have HL := Lib.hid hL
  have H1 := Lib.hid h
  have H2 := Lib.hid h'
  have E1 := Lib.hid e1
  have E2 := Lib.hid e2
  clear hL h h' e1 e2
  subst s1 m1 k1; have hss := setCell2; have H3 := Lib.hid (show insB (t / 86400 + 1) = true from by rw [ins_iff]; omega)
  go_enter Tryd.func6, Tryd.ntmps6
  go_wp2_with (first
    | (go_at_call 13; refine (awake_c _ HL.out).mono ?_; rintro e w1 ⟨rfl, hE1⟩)
    | (go_at_call 26; with_reducible refine (moment_hms t _ H1.out E1.out).mono ?_; rintro e w2 ⟨y, m, d, rfl, hD, hE2⟩)
    | (go_at_call 26; with_reducible refine (moment_hms (t + 1) _ H2.out E2.out).mono ?_; rintro e w3 ⟨y', m', d', rfl, hD', hE3⟩; rw [hday] at hD'; have hc3 := hE3.cells; have hf3 := hE3.frozens; have hz3 : w2.heap.size < w3.heap.size := (by have := hE3.size; simp at this; omega))
    | (go_at_call 29; refine (day_yes _ _ _ _ hD.1).mono ?_; rw [hD.2]; rintro e w4 ⟨rfl, hE4⟩; have hc4 := hE4.cells; have hf4 := hE4.frozens; have hz4 : w3.heap.size < w4.heap.size := (by have := hE4.size; simp at this; omega))
        | (go_at_call 30; refine (date_yes _ _ H3.out).mono ?_; rintro e w5 ⟨y5, m5, d5, rfl, hD5, hE5⟩; obtain ⟨rfl, rfl, rfl⟩ := hD5.inj hD'; have hc5 := hE5.cells; have hf5 := hE5.frozens; have hz5 : w3.heap.size < w5.heap.size := (by have := hE5.size; omega); have hz42 : w2.heap.size < w4.heap.size := (by omega); have hz52 : w2.heap.size < w5.heap.size := (by omega); have q0 : w5.cell? ⟨w2.heap.size, 0, none⟩ = some (.int .i64 y) := (by rw [hc5 _ _ hz42, hc4 _ _ (by simp; omega)]; simp [go_sem, hc3, hz3]); have q1 : w5.cell? ⟨w2.heap.size, 1, none⟩ = some (.int .i64 m) := (by rw [hc5 _ _ hz42, hc4 _ _ (by simp; omega)]; simp [go_sem, hc3, hz3]); have q2 : w5.cell? ⟨w2.heap.size, 2, none⟩ = some (.int .i64 d) := (by rw [hc5 _ _ hz42, hc4 _ _ (by simp; omega)]; simp [go_sem, hc3, hz3]); have r0 := World.cell?_setCell_same w5 _ (.int .i64 y5) q0; have r1 := World.cell?_setCell_same (w5.setCell ⟨w2.heap.size, 0, none⟩ (.int .i64 y5)) _ (.int .i64 m5) ((World.cell?_setCell_other _ _ _ _ (by simp)).trans q1); have r2 := World.cell?_setCell_same ((w5.setCell ⟨w2.heap.size, 0, none⟩ (.int .i64 y5)).setCell ⟨w2.heap.size, 1, none⟩ (.int .i64 m5)) _ (.int .i64 d5) ((World.cell?_setCell_other _ _ _ _ (by simp)).trans ((World.cell?_setCell_other _ _ _ _ (by simp)).trans q2))))
  refine bodyPost_ret (v := .bool true) ?_ rfl ⟨rfl, ?_⟩
  · simp [results, Tryd.results6, go_sem]
  · refine (hE1.trans hE2).trans ?_
    refine Ext.alloc ?_ _; iterate 3 refine Ext.setCell ?_ (by simp) _
    refine Ext.trans ?_ (hE4.trans hE5)
    refine Ext.alloc ?_ _; iterate 3 refine Ext.setCell ?_ (by simp) _
    exact ((Ext.refl _).alloc _).trans hE3

set_option maxHeartbeats 1000000 in
theorem steps_out (t : Int) (w : World) (hL : Laid w) (h : t < -62135596800 ∨ 253402300799 ≤ t) :
    Calls Tryd.prog 6 #[.int .i64 t] w fun e w' => e = .returned (.bool true) ∧ Ext w w' := by
  have HL := Lib.hid hL
  clear hL
  by_cases c : t < -62135596800
  all_goals
    go_enter Tryd.func6, Tryd.ntmps6
    go_wp2_with (first
      | (go_at_call 13; refine (awake_c _ HL.out).mono ?_; rintro e w1 ⟨rfl, hE1⟩))
    go_ret
    exact ⟨rfl, hE1⟩
theorem steps_walk (t : Int) (w : World) (hL : Laid w) (_ : -9223372036854775808 ≤ t) (_ : t ≤ 9223372036854775807) :
    Calls Tryd.prog 6 #[.int .i64 t] w fun e w' => e = .returned (.bool true) ∧ Ext w w' := by
  by_cases c : t < -62135596800 ∨ 253402300799 ≤ t
  · exact steps_out t w hL c
  have i1 : insT t = true := by rw [insT_iff]; omega
  have i2 : insT (t + 1) = true := by rw [insT_iff]; omega
  by_cases s : t % 86400 % 60 < 59
  · exact steps_a t (t % 86400 / 3600) (t % 86400 / 60 % 60) (t % 86400 % 60) w hL i1 i2 ⟨rfl, rfl, rfl⟩ ⟨by omega, by omega, by omega⟩ (by omega) (by omega) (by omega) (by omega) (by omega) (by omega) (by omega) (by omega) (by omega)
  by_cases m : t % 86400 / 60 % 60 < 59
  · exact steps_b t (t % 86400 / 3600) (t % 86400 / 60 % 60) 59 w hL i1 i2 ⟨rfl, rfl, by omega⟩ ⟨by omega, by omega, by omega⟩ rfl (by omega) (by omega) (by omega) (by omega) (by omega) (by omega) (by omega)
  by_cases k : t % 86400 / 3600 < 23
  · exact steps_c t (t % 86400 / 3600) 59 59 w hL i1 i2 ⟨rfl, by omega, by omega⟩ ⟨by omega, by omega, by omega⟩ rfl rfl (by omega) (by omega) (by omega) (by omega) (by omega)
  · exact steps_d t 23 59 59 w hL i1 i2 ⟨by omega, by omega, by omega⟩ ⟨by omega, by omega, by omega⟩ rfl rfl rfl (by omega) (by omega) (by omega)
end Go.Proofs.YtplckoffiebibaaDoor
