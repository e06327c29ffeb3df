/- The walk of the law ClockTexts. -/
import Derived.Test.YtplckoffiebibaaDoorRPrs2
import Derived.Test.YtplckoffiebibaaDoorLaw6
namespace Go.Proofs.YtplckoffiebibaaDoor
set_option linter.unusedVariables false
set_option linter.unusedSimpArgs false
open Go.RowKit

theorem vld_99 {y m d h mi s : Int} (v : vldB y m d = true) (t : tmB h mi s = true) : 0 ≤ y ∧ y ≤ 9999 ∧ 0 ≤ m ∧ m ≤ 99 ∧ 0 ≤ d ∧ d ≤ 99 ∧ 0 ≤ h ∧ h ≤ 99 ∧ 0 ≤ mi ∧ mi ≤ 99 ∧ 0 ≤ s ∧ s ≤ 99 := by
  obtain ⟨a1, a2, a3, a4, a5, a6, _⟩ := vld_parts v
  obtain ⟨c1, c2, c3, c4, c5, c6⟩ := tm_iff.1 t
  omega
theorem parse_V {y m d hh mi s : Int} (w : World) (hb : 0 ≤ y ∧ y ≤ 9999 ∧ 0 ≤ m ∧ m ≤ 99 ∧ 0 ≤ d ∧ d ≤ 99 ∧ 0 ≤ hh ∧ hh ≤ 99 ∧ 0 ≤ mi ∧ mi ≤ 99 ∧ 0 ≤ s ∧ s ≤ 99) (hv : vldB y m d = true) (ht : tmB hh mi s = true) :
    Calls Tryd.prog 42 #[.string ⟨(mtx y m d hh mi s).toArray⟩] w fun e w' => e = .returned (.tuple #[.agg #[.int .i64 y, .int .i64 m, .int .i64 d, .int .i64 hh, .int .i64 mi, .int .i64 s], .int .i64 0]) ∧ Ext w w' := by
  obtain ⟨a1, a2, a3, a4, a5, a6, a7, a8, a9, b1, b2, b3⟩ := hb
  exact parse_v y m d hh mi s w a1 a2 a3 a4 a5 a6 a7 a8 a9 b1 b2 b3 hv ht
theorem parse_I {y m d hh mi s : Int} (w : World) (hb : 0 ≤ y ∧ y ≤ 9999 ∧ 0 ≤ m ∧ m ≤ 99 ∧ 0 ≤ d ∧ d ≤ 99 ∧ 0 ≤ hh ∧ hh ≤ 99 ∧ 0 ≤ mi ∧ mi ≤ 99 ∧ 0 ≤ s ∧ s ≤ 99) (hv : ¬ (vldB y m d = true ∧ tmB hh mi s = true)) :
    Calls Tryd.prog 42 #[.string ⟨(mtx y m d hh mi s).toArray⟩] w fun e w' => e = .returned (.tuple #[.agg #[.int .i64 0, .int .i64 0, .int .i64 0, .int .i64 0, .int .i64 0, .int .i64 0], .int .i64 1]) ∧ Ext w w' := by
  obtain ⟨a1, a2, a3, a4, a5, a6, a7, a8, a9, b1, b2, b3⟩ := hb
  exact parse_i y m d hh mi s w a1 a2 a3 a4 a5 a6 a7 a8 a9 b1 b2 b3 hv
theorem rparse_V {y m d hh mi s : Int} (w : World) (hb : 0 ≤ y ∧ y ≤ 9999 ∧ 0 ≤ m ∧ m ≤ 99 ∧ 0 ≤ d ∧ d ≤ 99 ∧ 0 ≤ hh ∧ hh ≤ 99 ∧ 0 ≤ mi ∧ mi ≤ 99 ∧ 0 ≤ s ∧ s ≤ 99) (hv : vldB y m d = true) (ht : tmB hh mi s = true) :
    Calls Tryd.prog 44 #[.string ⟨(mtx y m d hh mi s).toArray⟩] w fun e w' => e = .returned (.tuple #[.agg #[.int .i64 y, .int .i64 m, .int .i64 d, .int .i64 hh, .int .i64 mi, .int .i64 s], .int .i64 0]) ∧ Ext w w' := by
  obtain ⟨a1, a2, a3, a4, a5, a6, a7, a8, a9, b1, b2, b3⟩ := hb
  have h := rparse_f y m d hh mi s w a1 a2 a3 a4 a5 a6 a7 a8 a9 b1 b2 b3
  rw [show prsR y m d hh mi s = _ from if_pos ⟨hv, ht⟩] at h
  exact h
theorem rparse_I {y m d hh mi s : Int} (w : World) (hb : 0 ≤ y ∧ y ≤ 9999 ∧ 0 ≤ m ∧ m ≤ 99 ∧ 0 ≤ d ∧ d ≤ 99 ∧ 0 ≤ hh ∧ hh ≤ 99 ∧ 0 ≤ mi ∧ mi ≤ 99 ∧ 0 ≤ s ∧ s ≤ 99) (hv : ¬ (vldB y m d = true ∧ tmB hh mi s = true)) :
    Calls Tryd.prog 44 #[.string ⟨(mtx y m d hh mi s).toArray⟩] w fun e w' => e = .returned (.tuple #[.agg #[.int .i64 0, .int .i64 0, .int .i64 0, .int .i64 0, .int .i64 0, .int .i64 0], .int .i64 1]) ∧ Ext w w' := by
  obtain ⟨a1, a2, a3, a4, a5, a6, a7, a8, a9, b1, b2, b3⟩ := hb
  have h := rparse_f y m d hh mi s w a1 a2 a3 a4 a5 a6 a7 a8 a9 b1 b2 b3
  rw [show prsR y m d hh mi s = _ from if_neg hv] at h
  exact h
theorem parse_N {l : List UInt8} (w : World) (h : ¬ formL l) (hb : l.length ≤ 9223372036854775807) :
    Calls Tryd.prog 42 #[.string ⟨l.toArray⟩] w fun e w' => e = .returned (.tuple #[.agg #[.int .i64 0, .int .i64 0, .int .i64 0, .int .i64 0, .int .i64 0, .int .i64 0], .int .i64 3]) ∧ Ext w w' := parse_n l w h hb
theorem rparse_N {l : List UInt8} (w : World) (h : ¬ formL l) (hb : l.length ≤ 9223372036854775807) :
    Calls Tryd.prog 44 #[.string ⟨l.toArray⟩] w fun e w' => e = .returned (.tuple #[.agg #[.int .i64 0, .int .i64 0, .int .i64 0, .int .i64 0, .int .i64 0, .int .i64 0], .int .i64 3]) ∧ Ext w w' := rparse_n l w h hb

set_option maxRecDepth 100000 in
set_option maxHeartbeats 4000000 in
theorem texts_nn (y mo d h mi s : Int) (w : World) (hL : Laid w) (hv : ¬ (vldB y mo d = true ∧ tmB h mi s = true)) (l : List UInt8) (hf : ¬ formL l) (hb : l.length ≤ 9223372036854775807) :
    Calls Tryd.prog 12 #[.agg #[.int .i64 y, .int .i64 mo, .int .i64 d, .int .i64 h, .int .i64 mi, .int .i64 s], .string ⟨(l).toArray⟩] w fun e w' => e = .returned (.bool true) ∧ Ext w w' := by
  have HL := Lib.hid hL
  have HV := Lib.hid hv
  try have HF := Lib.hid hf
  try have HB0 := Lib.hid hb0
  try have HB1 := Lib.hid hb1
  clear hL hv
  try clear hf
  try clear hb0
  try clear hb1
  go_enter Tryd.func12, Tryd.ntmps12
  go_wp2_with (first
    | (go_at_call 13; refine (awake_c _ (HL.out.ext ((Ext.refl _).alloc _))).mono ?_; rintro e w1 ⟨rfl, hE1⟩; have hc1 := hE1.cells; have z1 : w.heap.size < w1.heap.size := (by have := hE1.size; (try simp at this); omega); have zl1 : w.heap.size ≤ w1.heap.size := Nat.le_of_lt z1)
    | (go_at_call 40; (with_reducible refine (mtext_no y mo d h mi s _ HV.out).mono ?_); rintro e w2 ⟨rfl, hE2⟩; have hc2 := hE2.cells; have z2 : w.heap.size < w2.heap.size := (by have := hE2.size; (try simp at this); omega); have zl2 : w.heap.size ≤ w2.heap.size := Nat.le_of_lt z2)
    | (go_at_call 25; (with_reducible refine (rvalidm_no y mo d h mi s _ HV.out).mono ?_); rintro e w3 ⟨rfl, hE3⟩; have hc3 := hE3.cells; have z3 : w.heap.size < w3.heap.size := (by have := hE3.size; (try simp at this); omega); have zl3 : w.heap.size ≤ w3.heap.size := Nat.le_of_lt z3; have HX := Lib.hid (hE2.trans hE3))
    | (go_at_call 42; (with_reducible refine (parse_N (l := l) _ HF.out hb).mono ?_); rintro e w6 ⟨rfl, hE6⟩; have hc6 := hE6.cells; have z6 : w.heap.size < w6.heap.size := (by have := hE6.size; (try simp at this); omega); have zl6 : w.heap.size ≤ w6.heap.size := Nat.le_of_lt z6)
    | (go_at_call 44; (with_reducible refine (rparse_N (l := l) _ HF.out hb).mono ?_); rintro e w7 ⟨rfl, hE7⟩; have hc7 := hE7.cells; have z7 : w.heap.size < w7.heap.size := (by have := hE7.size; (try simp at this); omega); have zl7 : w.heap.size ≤ w7.heap.size := Nat.le_of_lt z7; have z67 : w6.heap.size < w7.heap.size := (by have := hE7.size; (try simp at this); omega); have HY := Lib.hid ((Ext.refl w7).alloc (.cells #[.int .i64 0, .int .i64 0, .int .i64 0, .int .i64 0, .int .i64 0, .int .i64 0] 44))))
  go_ret
  exact ⟨rfl, (((Ext.refl w).alloc _).trans hE1).trans (HX.out.trans (hE6.trans ((((Ext.refl _).alloc _).trans hE7).trans HY.out)))⟩
set_option maxRecDepth 100000 in
set_option maxHeartbeats 4000000 in
theorem texts_ni (y mo d h mi s : Int) (w : World) (hL : Laid w) (hv : ¬ (vldB y mo d = true ∧ tmB h mi s = true)) (Y M D H I S : Int) (hb1 : 0 ≤ Y ∧ Y ≤ 9999 ∧ 0 ≤ M ∧ M ≤ 99 ∧ 0 ≤ D ∧ D ≤ 99 ∧ 0 ≤ H ∧ H ≤ 99 ∧ 0 ≤ I ∧ I ≤ 99 ∧ 0 ≤ S ∧ S ≤ 99) (hf : ¬ (vldB Y M D = true ∧ tmB H I S = true)) :
    Calls Tryd.prog 12 #[.agg #[.int .i64 y, .int .i64 mo, .int .i64 d, .int .i64 h, .int .i64 mi, .int .i64 s], .string ⟨(mtx Y M D H I S).toArray⟩] w fun e w' => e = .returned (.bool true) ∧ Ext w w' := by
  have HL := Lib.hid hL
  have HV := Lib.hid hv
  try have HF := Lib.hid hf
  try have HB0 := Lib.hid hb0
  try have HB1 := Lib.hid hb1
  clear hL hv
  try clear hf
  try clear hb0
  try clear hb1
  go_enter Tryd.func12, Tryd.ntmps12
  go_wp2_with (first
    | (go_at_call 13; refine (awake_c _ (HL.out.ext ((Ext.refl _).alloc _))).mono ?_; rintro e w1 ⟨rfl, hE1⟩; have hc1 := hE1.cells; have z1 : w.heap.size < w1.heap.size := (by have := hE1.size; (try simp at this); omega); have zl1 : w.heap.size ≤ w1.heap.size := Nat.le_of_lt z1)
    | (go_at_call 40; (with_reducible refine (mtext_no y mo d h mi s _ HV.out).mono ?_); rintro e w2 ⟨rfl, hE2⟩; have hc2 := hE2.cells; have z2 : w.heap.size < w2.heap.size := (by have := hE2.size; (try simp at this); omega); have zl2 : w.heap.size ≤ w2.heap.size := Nat.le_of_lt z2)
    | (go_at_call 25; (with_reducible refine (rvalidm_no y mo d h mi s _ HV.out).mono ?_); rintro e w3 ⟨rfl, hE3⟩; have hc3 := hE3.cells; have z3 : w.heap.size < w3.heap.size := (by have := hE3.size; (try simp at this); omega); have zl3 : w.heap.size ≤ w3.heap.size := Nat.le_of_lt z3; have HX := Lib.hid (hE2.trans hE3))
    | (go_at_call 42; (with_reducible refine (parse_I (y := Y) (m := M) (d := D) (hh := H) (mi := I) (s := S) _ HB1.out HF.out).mono ?_); rintro e w6 ⟨rfl, hE6⟩; have hc6 := hE6.cells; have z6 : w.heap.size < w6.heap.size := (by have := hE6.size; (try simp at this); omega); have zl6 : w.heap.size ≤ w6.heap.size := Nat.le_of_lt z6)
    | (go_at_call 44; (with_reducible refine (rparse_I (y := Y) (m := M) (d := D) (hh := H) (mi := I) (s := S) _ HB1.out HF.out).mono ?_); rintro e w7 ⟨rfl, hE7⟩; have hc7 := hE7.cells; have z7 : w.heap.size < w7.heap.size := (by have := hE7.size; (try simp at this); omega); have zl7 : w.heap.size ≤ w7.heap.size := Nat.le_of_lt z7; have z67 : w6.heap.size < w7.heap.size := (by have := hE7.size; (try simp at this); omega); have HY := Lib.hid ((Ext.refl w7).alloc (.cells #[.int .i64 0, .int .i64 0, .int .i64 0, .int .i64 0, .int .i64 0, .int .i64 0] 44))))
  go_ret
  exact ⟨rfl, (((Ext.refl w).alloc _).trans hE1).trans (HX.out.trans (hE6.trans ((((Ext.refl _).alloc _).trans hE7).trans HY.out)))⟩
set_option maxRecDepth 100000 in
set_option maxHeartbeats 4000000 in
theorem texts_nv (y mo d h mi s : Int) (w : World) (hL : Laid w) (hv : ¬ (vldB y mo d = true ∧ tmB h mi s = true)) (Y M D H I S : Int) (hb1 : 0 ≤ Y ∧ Y ≤ 9999 ∧ 0 ≤ M ∧ M ≤ 99 ∧ 0 ≤ D ∧ D ≤ 99 ∧ 0 ≤ H ∧ H ≤ 99 ∧ 0 ≤ I ∧ I ≤ 99 ∧ 0 ≤ S ∧ S ≤ 99) (hf : vldB Y M D = true) (hg : tmB H I S = true) :
    Calls Tryd.prog 12 #[.agg #[.int .i64 y, .int .i64 mo, .int .i64 d, .int .i64 h, .int .i64 mi, .int .i64 s], .string ⟨(mtx Y M D H I S).toArray⟩] w fun e w' => e = .returned (.bool true) ∧ Ext w w' := by
  have HL := Lib.hid hL
  have HV := Lib.hid hv
  try have HF := Lib.hid hf
  try have HB0 := Lib.hid hb0
  try have HB1 := Lib.hid hb1
  clear hL hv
  try clear hf
  try clear hb0
  try clear hb1
  go_enter Tryd.func12, Tryd.ntmps12
  go_wp2_with (first
    | (go_at_call 13; refine (awake_c _ (HL.out.ext ((Ext.refl _).alloc _))).mono ?_; rintro e w1 ⟨rfl, hE1⟩; have hc1 := hE1.cells; have z1 : w.heap.size < w1.heap.size := (by have := hE1.size; (try simp at this); omega); have zl1 : w.heap.size ≤ w1.heap.size := Nat.le_of_lt z1)
    | (go_at_call 40; (with_reducible refine (mtext_no y mo d h mi s _ HV.out).mono ?_); rintro e w2 ⟨rfl, hE2⟩; have hc2 := hE2.cells; have z2 : w.heap.size < w2.heap.size := (by have := hE2.size; (try simp at this); omega); have zl2 : w.heap.size ≤ w2.heap.size := Nat.le_of_lt z2)
    | (go_at_call 25; (with_reducible refine (rvalidm_no y mo d h mi s _ HV.out).mono ?_); rintro e w3 ⟨rfl, hE3⟩; have hc3 := hE3.cells; have z3 : w.heap.size < w3.heap.size := (by have := hE3.size; (try simp at this); omega); have zl3 : w.heap.size ≤ w3.heap.size := Nat.le_of_lt z3; have HX := Lib.hid (hE2.trans hE3))
    | (go_at_call 42; (with_reducible refine (parse_V (y := Y) (m := M) (d := D) (hh := H) (mi := I) (s := S) _ HB1.out HF.out hg).mono ?_); rintro e w6 ⟨rfl, hE6⟩; have hc6 := hE6.cells; have z6 : w.heap.size < w6.heap.size := (by have := hE6.size; (try simp at this); omega); have zl6 : w.heap.size ≤ w6.heap.size := Nat.le_of_lt z6)
    | (go_at_call 44; (with_reducible refine (rparse_V (y := Y) (m := M) (d := D) (hh := H) (mi := I) (s := S) _ HB1.out HF.out hg).mono ?_); rintro e w7 ⟨rfl, hE7⟩; have hc7 := hE7.cells; have z7 : w.heap.size < w7.heap.size := (by have := hE7.size; (try simp at this); omega); have zl7 : w.heap.size ≤ w7.heap.size := Nat.le_of_lt z7; have z67 : w6.heap.size < w7.heap.size := (by have := hE7.size; (try simp at this); omega))
    | (go_at_call 40; (with_reducible refine (mtext_yes Y M D H I S _ HF.out hg).mono ?_); rintro e w8 ⟨rfl, hE8⟩; have HY := Lib.hid (((Ext.refl w7).alloc (.cells #[.int .i64 Y, .int .i64 M, .int .i64 D, .int .i64 H, .int .i64 I, .int .i64 S] 44)).trans hE8)))
  go_ret
  exact ⟨rfl, (((Ext.refl w).alloc _).trans hE1).trans (HX.out.trans (hE6.trans ((((Ext.refl _).alloc _).trans hE7).trans HY.out)))⟩
set_option maxRecDepth 100000 in
set_option maxHeartbeats 4000000 in
theorem texts_yn (y mo d h mi s : Int) (w : World) (hL : Laid w) (hv : vldB y mo d = true) (ht : tmB h mi s = true) (hb0 : 0 ≤ y ∧ y ≤ 9999 ∧ 0 ≤ mo ∧ mo ≤ 99 ∧ 0 ≤ d ∧ d ≤ 99 ∧ 0 ≤ h ∧ h ≤ 99 ∧ 0 ≤ mi ∧ mi ≤ 99 ∧ 0 ≤ s ∧ s ≤ 99) (l : List UInt8) (hf : ¬ formL l) (hb : l.length ≤ 9223372036854775807) :
    Calls Tryd.prog 12 #[.agg #[.int .i64 y, .int .i64 mo, .int .i64 d, .int .i64 h, .int .i64 mi, .int .i64 s], .string ⟨(l).toArray⟩] w fun e w' => e = .returned (.bool true) ∧ Ext w w' := by
  have HL := Lib.hid hL
  have HV := Lib.hid hv
  try have HF := Lib.hid hf
  try have HB0 := Lib.hid hb0
  try have HB1 := Lib.hid hb1
  clear hL hv
  try clear hf
  try clear hb0
  try clear hb1
  go_enter Tryd.func12, Tryd.ntmps12
  go_wp2_with (first
    | (go_at_call 13; refine (awake_c _ (HL.out.ext ((Ext.refl _).alloc _))).mono ?_; rintro e w1 ⟨rfl, hE1⟩; have hc1 := hE1.cells; have z1 : w.heap.size < w1.heap.size := (by have := hE1.size; (try simp at this); omega); have zl1 : w.heap.size ≤ w1.heap.size := Nat.le_of_lt z1)
    | (go_at_call 40; (with_reducible refine (mtext_yes y mo d h mi s _ HV.out ht).mono ?_); rintro e w2 ⟨rfl, hE2⟩; have hc2 := hE2.cells; have z2 : w.heap.size < w2.heap.size := (by have := hE2.size; (try simp at this); omega); have zl2 : w.heap.size ≤ w2.heap.size := Nat.le_of_lt z2)
    | (go_at_call 25; (with_reducible refine (rvalidm_yes y mo d h mi s _ HV.out ht).mono ?_); rintro e w3 ⟨rfl, hE3⟩; have hc3 := hE3.cells; have z3 : w.heap.size < w3.heap.size := (by have := hE3.size; (try simp at this); omega); have zl3 : w.heap.size ≤ w3.heap.size := Nat.le_of_lt z3)
    | (go_at_call 42; (with_reducible refine (parse_V (y := y) (m := mo) (d := d) (hh := h) (mi := mi) (s := s) _ HB0.out HV.out ht).mono ?_); rintro e w4 ⟨rfl, hE4⟩; have hc4 := hE4.cells; have z4 : w.heap.size < w4.heap.size := (by have := hE4.size; (try simp at this); omega); have zl4 : w.heap.size ≤ w4.heap.size := Nat.le_of_lt z4)
    | (go_at_call 43; (with_reducible refine (rmtext_yes y mo d h mi s _ HV.out ht).mono ?_); rintro e w5 ⟨rfl, hE5⟩; have hc5 := hE5.cells; have z5 : w.heap.size < w5.heap.size := (by have := hE5.size; (try simp at this); omega); have zl5 : w.heap.size ≤ w5.heap.size := Nat.le_of_lt z5; have z45 : w4.heap.size < w5.heap.size := (by have := hE5.size; (try simp at this); omega); have HX := Lib.hid (hE2.trans (hE3.trans (hE4.trans (((Ext.refl _).alloc _).trans hE5)))))
    | (go_at_call 42; (with_reducible refine (parse_N (l := l) _ HF.out hb).mono ?_); rintro e w6 ⟨rfl, hE6⟩; have hc6 := hE6.cells; have z6 : w.heap.size < w6.heap.size := (by have := hE6.size; (try simp at this); omega); have zl6 : w.heap.size ≤ w6.heap.size := Nat.le_of_lt z6)
    | (go_at_call 44; (with_reducible refine (rparse_N (l := l) _ HF.out hb).mono ?_); rintro e w7 ⟨rfl, hE7⟩; have hc7 := hE7.cells; have z7 : w.heap.size < w7.heap.size := (by have := hE7.size; (try simp at this); omega); have zl7 : w.heap.size ≤ w7.heap.size := Nat.le_of_lt z7; have z67 : w6.heap.size < w7.heap.size := (by have := hE7.size; (try simp at this); omega); have HY := Lib.hid ((Ext.refl w7).alloc (.cells #[.int .i64 0, .int .i64 0, .int .i64 0, .int .i64 0, .int .i64 0, .int .i64 0] 44))))
  go_ret
  exact ⟨rfl, (((Ext.refl w).alloc _).trans hE1).trans (HX.out.trans (hE6.trans ((((Ext.refl _).alloc _).trans hE7).trans HY.out)))⟩
set_option maxRecDepth 100000 in
set_option maxHeartbeats 4000000 in
theorem texts_yi (y mo d h mi s : Int) (w : World) (hL : Laid w) (hv : vldB y mo d = true) (ht : tmB h mi s = true) (hb0 : 0 ≤ y ∧ y ≤ 9999 ∧ 0 ≤ mo ∧ mo ≤ 99 ∧ 0 ≤ d ∧ d ≤ 99 ∧ 0 ≤ h ∧ h ≤ 99 ∧ 0 ≤ mi ∧ mi ≤ 99 ∧ 0 ≤ s ∧ s ≤ 99) (Y M D H I S : Int) (hb1 : 0 ≤ Y ∧ Y ≤ 9999 ∧ 0 ≤ M ∧ M ≤ 99 ∧ 0 ≤ D ∧ D ≤ 99 ∧ 0 ≤ H ∧ H ≤ 99 ∧ 0 ≤ I ∧ I ≤ 99 ∧ 0 ≤ S ∧ S ≤ 99) (hf : ¬ (vldB Y M D = true ∧ tmB H I S = true)) :
    Calls Tryd.prog 12 #[.agg #[.int .i64 y, .int .i64 mo, .int .i64 d, .int .i64 h, .int .i64 mi, .int .i64 s], .string ⟨(mtx Y M D H I S).toArray⟩] w fun e w' => e = .returned (.bool true) ∧ Ext w w' := by
  have HL := Lib.hid hL
  have HV := Lib.hid hv
  try have HF := Lib.hid hf
  try have HB0 := Lib.hid hb0
  try have HB1 := Lib.hid hb1
  clear hL hv
  try clear hf
  try clear hb0
  try clear hb1
  go_enter Tryd.func12, Tryd.ntmps12
  go_wp2_with (first
    | (go_at_call 13; refine (awake_c _ (HL.out.ext ((Ext.refl _).alloc _))).mono ?_; rintro e w1 ⟨rfl, hE1⟩; have hc1 := hE1.cells; have z1 : w.heap.size < w1.heap.size := (by have := hE1.size; (try simp at this); omega); have zl1 : w.heap.size ≤ w1.heap.size := Nat.le_of_lt z1)
    | (go_at_call 40; (with_reducible refine (mtext_yes y mo d h mi s _ HV.out ht).mono ?_); rintro e w2 ⟨rfl, hE2⟩; have hc2 := hE2.cells; have z2 : w.heap.size < w2.heap.size := (by have := hE2.size; (try simp at this); omega); have zl2 : w.heap.size ≤ w2.heap.size := Nat.le_of_lt z2)
    | (go_at_call 25; (with_reducible refine (rvalidm_yes y mo d h mi s _ HV.out ht).mono ?_); rintro e w3 ⟨rfl, hE3⟩; have hc3 := hE3.cells; have z3 : w.heap.size < w3.heap.size := (by have := hE3.size; (try simp at this); omega); have zl3 : w.heap.size ≤ w3.heap.size := Nat.le_of_lt z3)
    | (go_at_call 42; (with_reducible refine (parse_V (y := y) (m := mo) (d := d) (hh := h) (mi := mi) (s := s) _ HB0.out HV.out ht).mono ?_); rintro e w4 ⟨rfl, hE4⟩; have hc4 := hE4.cells; have z4 : w.heap.size < w4.heap.size := (by have := hE4.size; (try simp at this); omega); have zl4 : w.heap.size ≤ w4.heap.size := Nat.le_of_lt z4)
    | (go_at_call 43; (with_reducible refine (rmtext_yes y mo d h mi s _ HV.out ht).mono ?_); rintro e w5 ⟨rfl, hE5⟩; have hc5 := hE5.cells; have z5 : w.heap.size < w5.heap.size := (by have := hE5.size; (try simp at this); omega); have zl5 : w.heap.size ≤ w5.heap.size := Nat.le_of_lt z5; have z45 : w4.heap.size < w5.heap.size := (by have := hE5.size; (try simp at this); omega); have HX := Lib.hid (hE2.trans (hE3.trans (hE4.trans (((Ext.refl _).alloc _).trans hE5)))))
    | (go_at_call 42; (with_reducible refine (parse_I (y := Y) (m := M) (d := D) (hh := H) (mi := I) (s := S) _ HB1.out HF.out).mono ?_); rintro e w6 ⟨rfl, hE6⟩; have hc6 := hE6.cells; have z6 : w.heap.size < w6.heap.size := (by have := hE6.size; (try simp at this); omega); have zl6 : w.heap.size ≤ w6.heap.size := Nat.le_of_lt z6)
    | (go_at_call 44; (with_reducible refine (rparse_I (y := Y) (m := M) (d := D) (hh := H) (mi := I) (s := S) _ HB1.out HF.out).mono ?_); rintro e w7 ⟨rfl, hE7⟩; have hc7 := hE7.cells; have z7 : w.heap.size < w7.heap.size := (by have := hE7.size; (try simp at this); omega); have zl7 : w.heap.size ≤ w7.heap.size := Nat.le_of_lt z7; have z67 : w6.heap.size < w7.heap.size := (by have := hE7.size; (try simp at this); omega); have HY := Lib.hid ((Ext.refl w7).alloc (.cells #[.int .i64 0, .int .i64 0, .int .i64 0, .int .i64 0, .int .i64 0, .int .i64 0] 44))))
  go_ret
  exact ⟨rfl, (((Ext.refl w).alloc _).trans hE1).trans (HX.out.trans (hE6.trans ((((Ext.refl _).alloc _).trans hE7).trans HY.out)))⟩
set_option maxRecDepth 100000 in
set_option maxHeartbeats 4000000 in
theorem texts_yv (y mo d h mi s : Int) (w : World) (hL : Laid w) (hv : vldB y mo d = true) (ht : tmB h mi s = true) (hb0 : 0 ≤ y ∧ y ≤ 9999 ∧ 0 ≤ mo ∧ mo ≤ 99 ∧ 0 ≤ d ∧ d ≤ 99 ∧ 0 ≤ h ∧ h ≤ 99 ∧ 0 ≤ mi ∧ mi ≤ 99 ∧ 0 ≤ s ∧ s ≤ 99) (Y M D H I S : Int) (hb1 : 0 ≤ Y ∧ Y ≤ 9999 ∧ 0 ≤ M ∧ M ≤ 99 ∧ 0 ≤ D ∧ D ≤ 99 ∧ 0 ≤ H ∧ H ≤ 99 ∧ 0 ≤ I ∧ I ≤ 99 ∧ 0 ≤ S ∧ S ≤ 99) (hf : vldB Y M D = true) (hg : tmB H I S = true) :
    Calls Tryd.prog 12 #[.agg #[.int .i64 y, .int .i64 mo, .int .i64 d, .int .i64 h, .int .i64 mi, .int .i64 s], .string ⟨(mtx Y M D H I S).toArray⟩] w fun e w' => e = .returned (.bool true) ∧ Ext w w' := by
  have HL := Lib.hid hL
  have HV := Lib.hid hv
  try have HF := Lib.hid hf
  try have HB0 := Lib.hid hb0
  try have HB1 := Lib.hid hb1
  clear hL hv
  try clear hf
  try clear hb0
  try clear hb1
  go_enter Tryd.func12, Tryd.ntmps12
  go_wp2_with (first
    | (go_at_call 13; refine (awake_c _ (HL.out.ext ((Ext.refl _).alloc _))).mono ?_; rintro e w1 ⟨rfl, hE1⟩; have hc1 := hE1.cells; have z1 : w.heap.size < w1.heap.size := (by have := hE1.size; (try simp at this); omega); have zl1 : w.heap.size ≤ w1.heap.size := Nat.le_of_lt z1)
    | (go_at_call 40; (with_reducible refine (mtext_yes y mo d h mi s _ HV.out ht).mono ?_); rintro e w2 ⟨rfl, hE2⟩; have hc2 := hE2.cells; have z2 : w.heap.size < w2.heap.size := (by have := hE2.size; (try simp at this); omega); have zl2 : w.heap.size ≤ w2.heap.size := Nat.le_of_lt z2)
    | (go_at_call 25; (with_reducible refine (rvalidm_yes y mo d h mi s _ HV.out ht).mono ?_); rintro e w3 ⟨rfl, hE3⟩; have hc3 := hE3.cells; have z3 : w.heap.size < w3.heap.size := (by have := hE3.size; (try simp at this); omega); have zl3 : w.heap.size ≤ w3.heap.size := Nat.le_of_lt z3)
    | (go_at_call 42; (with_reducible refine (parse_V (y := y) (m := mo) (d := d) (hh := h) (mi := mi) (s := s) _ HB0.out HV.out ht).mono ?_); rintro e w4 ⟨rfl, hE4⟩; have hc4 := hE4.cells; have z4 : w.heap.size < w4.heap.size := (by have := hE4.size; (try simp at this); omega); have zl4 : w.heap.size ≤ w4.heap.size := Nat.le_of_lt z4)
    | (go_at_call 43; (with_reducible refine (rmtext_yes y mo d h mi s _ HV.out ht).mono ?_); rintro e w5 ⟨rfl, hE5⟩; have hc5 := hE5.cells; have z5 : w.heap.size < w5.heap.size := (by have := hE5.size; (try simp at this); omega); have zl5 : w.heap.size ≤ w5.heap.size := Nat.le_of_lt z5; have z45 : w4.heap.size < w5.heap.size := (by have := hE5.size; (try simp at this); omega); have HX := Lib.hid (hE2.trans (hE3.trans (hE4.trans (((Ext.refl _).alloc _).trans hE5)))))
    | (go_at_call 42; (with_reducible refine (parse_V (y := Y) (m := M) (d := D) (hh := H) (mi := I) (s := S) _ HB1.out HF.out hg).mono ?_); rintro e w6 ⟨rfl, hE6⟩; have hc6 := hE6.cells; have z6 : w.heap.size < w6.heap.size := (by have := hE6.size; (try simp at this); omega); have zl6 : w.heap.size ≤ w6.heap.size := Nat.le_of_lt z6)
    | (go_at_call 44; (with_reducible refine (rparse_V (y := Y) (m := M) (d := D) (hh := H) (mi := I) (s := S) _ HB1.out HF.out hg).mono ?_); rintro e w7 ⟨rfl, hE7⟩; have hc7 := hE7.cells; have z7 : w.heap.size < w7.heap.size := (by have := hE7.size; (try simp at this); omega); have zl7 : w.heap.size ≤ w7.heap.size := Nat.le_of_lt z7; have z67 : w6.heap.size < w7.heap.size := (by have := hE7.size; (try simp at this); omega))
    | (go_at_call 40; (with_reducible refine (mtext_yes Y M D H I S _ HF.out hg).mono ?_); rintro e w8 ⟨rfl, hE8⟩; have HY := Lib.hid (((Ext.refl w7).alloc (.cells #[.int .i64 Y, .int .i64 M, .int .i64 D, .int .i64 H, .int .i64 I, .int .i64 S] 44)).trans hE8)))
  go_ret
  exact ⟨rfl, (((Ext.refl w).alloc _).trans hE1).trans (HX.out.trans (hE6.trans ((((Ext.refl _).alloc _).trans hE7).trans HY.out)))⟩
theorem texts_walk (y mo d h mi s : Int) (x : ByteArray) (w : World) (hL : Laid w) (hx : x.size ≤ maxLen) :
    Calls Tryd.prog 12 #[.agg #[.int .i64 y, .int .i64 mo, .int .i64 d, .int .i64 h, .int .i64 mi, .int .i64 s], .string x] w fun e w' => e = .returned (.bool true) ∧ Ext w w' := by
  have hs : x.data.toList.length = x.size := Array.length_toList
  have hb : x.data.toList.length ≤ 9223372036854775807 := by unfold maxLen at hx; omega
  rw [ba_mk x]
  by_cases hf : formL x.data.toList
  · obtain ⟨Y, M, D, H, I, S, b1, b2, b3, b4, b5, b6, e⟩ := form_mtx hf
    rw [e]
    have hb1 : 0 ≤ (Y : Int) ∧ (Y : Int) ≤ 9999 ∧ 0 ≤ (M : Int) ∧ (M : Int) ≤ 99 ∧ 0 ≤ (D : Int) ∧ (D : Int) ≤ 99 ∧ 0 ≤ (H : Int) ∧ (H : Int) ≤ 99 ∧ 0 ≤ (I : Int) ∧ (I : Int) ≤ 99 ∧ 0 ≤ (S : Int) ∧ (S : Int) ≤ 99 := by omega
    by_cases hv : vldB y mo d = true ∧ tmB h mi s = true
    · by_cases hg : vldB (Y : Int) M D = true ∧ tmB (H : Int) I S = true
      · exact texts_yv y mo d h mi s w hL hv.1 hv.2 (vld_99 hv.1 hv.2) _ _ _ _ _ _ hb1 hg.1 hg.2
      · exact texts_yi y mo d h mi s w hL hv.1 hv.2 (vld_99 hv.1 hv.2) _ _ _ _ _ _ hb1 hg
    · by_cases hg : vldB (Y : Int) M D = true ∧ tmB (H : Int) I S = true
      · exact texts_nv y mo d h mi s w hL hv _ _ _ _ _ _ hb1 hg.1 hg.2
      · exact texts_ni y mo d h mi s w hL hv _ _ _ _ _ _ hb1 hg
  · by_cases hv : vldB y mo d = true ∧ tmB h mi s = true
    · exact texts_yn y mo d h mi s w hL hv.1 hv.2 (vld_99 hv.1 hv.2) _ hf hb
    · exact texts_nn y mo d h mi s w hL hv _ hf hb
end Go.Proofs.YtplckoffiebibaaDoor
