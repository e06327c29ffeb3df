/- The walk of the reference's Parse of moments. -/
import Derived.Test.YtplckoffiebibaaDoorRPrs
import Derived.Deep.RegionWith
import Derived.Deep.DeepCutAuto
namespace Go.Proofs.YtplckoffiebibaaDoor
set_option linter.unusedVariables false
set_option linter.unusedSimpArgs false
open Go.RowKit

theorem rnum_x (l f : List UInt8) (a b : Nat) (v : Int) (w : World) (hf : (l.drop a).take (b - a) = f) (h1 : f.length ≤ 9) (hd : ∀ c ∈ f, isDg c = true) (hv : (val f : Int) = v) :
    Calls Tryd.prog 75 #[.string ((⟨l.toArray⟩ : ByteArray).extract a b)] w fun e w' => e = .returned (.int .i64 v) ∧ w = w' := by
  rw [bmid, hf, ← hv]
  exact rnumber_c f w h1 hd
/-- What the reference's Parse gives at a text of the form. -/
def prsR (y m d hh mi s : Int) : Value := if vldB y m d = true ∧ tmB hh mi s = true then .tuple #[.agg #[.int .i64 y, .int .i64 m, .int .i64 d, .int .i64 hh, .int .i64 mi, .int .i64 s], .int .i64 0] else .tuple #[mom0, .int .i64 1]
set_option maxRecDepth 100000 in
set_option maxHeartbeats 4000000 in
theorem rparse_f (y m d hh mi s : Int) (w : World) (y0 : 0 ≤ y) (y1 : y ≤ 9999) (m0 : 0 ≤ m) (m1 : m ≤ 99) (d0 : 0 ≤ d) (d1 : d ≤ 99) (h0 : 0 ≤ hh) (h1 : hh ≤ 99) (i0 : 0 ≤ mi) (i1 : mi ≤ 99) (s0 : 0 ≤ s) (s1 : s ≤ 99) :
    Calls Tryd.prog 44 #[.string ⟨(mtx y m d hh mi s).toArray⟩] w fun e w' => e = .returned (prsR y m d hh mi s) ∧ Ext w w' := by
  have HF := Lib.hid (mtx_form y m d hh mi s)
  have hl := mtx_length y m d hh mi s
  have P0 := Lib.hid (mtx_s0 y m d hh mi s)
  have P1 := Lib.hid (mtx_s1 y m d hh mi s)
  have P2 := Lib.hid (mtx_s2 y m d hh mi s)
  have P3 := Lib.hid (mtx_s3 y m d hh mi s)
  have P4 := Lib.hid (mtx_s4 y m d hh mi s)
  have P5 := Lib.hid (mtx_s5 y m d hh mi s)
  have V0 : Hid ((val (padN 4 y.toNat) : Int) = y) := by rw [Hid, val_padN 4 y.toNat (by omega)]; omega
  have V1 : Hid ((val (padN 2 m.toNat) : Int) = m) := by rw [Hid, val_padN 2 m.toNat (by omega)]; omega
  have V2 : Hid ((val (padN 2 d.toNat) : Int) = d) := by rw [Hid, val_padN 2 d.toNat (by omega)]; omega
  have V3 : Hid ((val (padN 2 hh.toNat) : Int) = hh) := by rw [Hid, val_padN 2 hh.toNat (by omega)]; omega
  have V4 : Hid ((val (padN 2 mi.toNat) : Int) = mi) := by rw [Hid, val_padN 2 mi.toNat (by omega)]; omega
  have V5 : Hid ((val (padN 2 s.toNat) : Int) = s) := by rw [Hid, val_padN 2 s.toNat (by omega)]; omega
  have Hl := Lib.hid hl
  generalize mtx y m d hh mi s = l at hl HF P0 P1 P2 P3 P4 P5 Hl ⊢
  go_enter Tryd.func44, Tryd.ntmps44
  go_wp2_with (go_at_call 74; refine (rform_y l _ HF.out).mono ?_; rintro e w' ⟨rfl, rfl⟩)
  go_cut [4] (fun a wx => a = .pointer (some ⟨w.heap.size + 1, 0, none⟩) ∧ wx = ((w.alloc (.cells #[.int .i64 0, .int .i64 0, .int .i64 0, .int .i64 0, .int .i64 0, .int .i64 0] 44)).alloc (.cells #[.int .i64 y, .int .i64 m, .int .i64 d, .int .i64 hh, .int .i64 mi, .int .i64 s] 44)).drew)
  case first =>
    go_region_with (first
      | (go_at_call 75; (with_reducible refine (rnum_x l _ 0 4 _ _ P0.out (by rw [padN_length]; omega) (padN_dg _ _) V0.out).mono ?_); rintro e w' ⟨rfl, rfl⟩)
      | (go_at_call 75; (with_reducible refine (rnum_x l _ 5 7 _ _ P1.out (by rw [padN_length]; omega) (padN_dg _ _) V1.out).mono ?_); rintro e w' ⟨rfl, rfl⟩)
      | (go_at_call 75; (with_reducible refine (rnum_x l _ 8 10 _ _ P2.out (by rw [padN_length]; omega) (padN_dg _ _) V2.out).mono ?_); rintro e w' ⟨rfl, rfl⟩)
      | (go_at_call 75; (with_reducible refine (rnum_x l _ 11 13 _ _ P3.out (by rw [padN_length]; omega) (padN_dg _ _) V3.out).mono ?_); rintro e w' ⟨rfl, rfl⟩)
      | (go_at_call 75; (with_reducible refine (rnum_x l _ 14 16 _ _ P4.out (by rw [padN_length]; omega) (padN_dg _ _) V4.out).mono ?_); rintro e w' ⟨rfl, rfl⟩)
      | (go_at_call 75; (with_reducible refine (rnum_x l _ 17 19 _ _ P5.out (by rw [padN_length]; omega) (padN_dg _ _) V5.out).mono ?_); rintro e w' ⟨rfl, rfl⟩))
    all_goals
      go_wp2_with fail
      go_meet
      exact ⟨rfl, rfl⟩
  case rest =>
    obtain ⟨rfl, rfl⟩ := hcut
    by_cases hv : vldB y m d = true ∧ tmB hh mi s = true
    · obtain ⟨hv1, hv2⟩ := hv
      have HR : Hid (prsR y m d hh mi s = .tuple #[.agg #[.int .i64 y, .int .i64 m, .int .i64 d, .int .i64 hh, .int .i64 mi, .int .i64 s], .int .i64 0]) := if_pos ⟨hv1, hv2⟩
      go_wp2_with (go_at_call 25; (with_reducible refine (rvalidm_yes y m d hh mi s _ hv1 hv2).mono ?_); rintro e w9 ⟨rfl, hE9⟩; have k9 := hE9.cells; have f9 := hE9.frozens; have z9 : w.heap.size + 1 < w9.heap.size := (by have := hE9.size; simp at this; omega))
      refine bodyPost_ret (v := prsR y m d hh mi s) ?_ rfl ⟨rfl, ?_⟩
      · rw [HR.out]
        have r0 : w9.cell? ⟨w.heap.size, 0, none⟩ = some (.int .i64 0) := by rw [k9 _ _ (by simp; omega)]; simp
        have r1 : w9.cell? ⟨w.heap.size, 1, none⟩ = some (.int .i64 0) := by rw [k9 _ _ (by simp; omega)]; simp
        have r2 : w9.cell? ⟨w.heap.size, 2, none⟩ = some (.int .i64 0) := by rw [k9 _ _ (by simp; omega)]; simp
        have r3 : w9.cell? ⟨w.heap.size, 3, none⟩ = some (.int .i64 0) := by rw [k9 _ _ (by simp; omega)]; simp
        have r4 : w9.cell? ⟨w.heap.size, 4, none⟩ = some (.int .i64 0) := by rw [k9 _ _ (by simp; omega)]; simp
        have r5 : w9.cell? ⟨w.heap.size, 5, none⟩ = some (.int .i64 0) := by rw [k9 _ _ (by simp; omega)]; simp
        obtain ⟨s0, s1, s2, s3, s4, s5⟩ := set6 w9 w.heap.size (v0 := .int .i64 y) (v1 := .int .i64 m) (v2 := .int .i64 d) (v3 := .int .i64 hh) (v4 := .int .i64 mi) (v5 := .int .i64 s) r0 r1 r2 r3 r4 r5
        simp [results, Tryd.results44, go_sem, s0, s1, s2, s3, s4, s5]
      · iterate 6 refine Ext.setCell ?_ (by simp) _
        exact (((((Ext.refl w).alloc _).alloc _).drew).trans hE9)
    · have HR : Hid (prsR y m d hh mi s = .tuple #[mom0, .int .i64 1]) := if_neg hv
      have Hv := Lib.hid hv
      clear hv
      go_wp2_with (go_at_call 25; (with_reducible refine (rvalidm_no y m d hh mi s _ Hv.out).mono ?_); rintro e w9 ⟨rfl, hE9⟩; have k9 := hE9.cells; have f9 := hE9.frozens; have z9 : w.heap.size + 1 < w9.heap.size := (by have := hE9.size; simp at this; omega))
      refine bodyPost_ret (v := prsR y m d hh mi s) ?_ rfl ⟨rfl, ?_⟩
      · rw [HR.out]
        unfold mom0
        have r0 : w9.cell? ⟨w.heap.size, 0, none⟩ = some (.int .i64 0) := by rw [k9 _ _ (by simp; omega)]; simp
        have r1 : w9.cell? ⟨w.heap.size, 1, none⟩ = some (.int .i64 0) := by rw [k9 _ _ (by simp; omega)]; simp
        have r2 : w9.cell? ⟨w.heap.size, 2, none⟩ = some (.int .i64 0) := by rw [k9 _ _ (by simp; omega)]; simp
        have r3 : w9.cell? ⟨w.heap.size, 3, none⟩ = some (.int .i64 0) := by rw [k9 _ _ (by simp; omega)]; simp
        have r4 : w9.cell? ⟨w.heap.size, 4, none⟩ = some (.int .i64 0) := by rw [k9 _ _ (by simp; omega)]; simp
        have r5 : w9.cell? ⟨w.heap.size, 5, none⟩ = some (.int .i64 0) := by rw [k9 _ _ (by simp; omega)]; simp
        obtain ⟨s0, s1, s2, s3, s4, s5⟩ := set6 w9 w.heap.size (v0 := .int .i64 0) (v1 := .int .i64 0) (v2 := .int .i64 0) (v3 := .int .i64 0) (v4 := .int .i64 0) (v5 := .int .i64 0) r0 r1 r2 r3 r4 r5
        simp [results, Tryd.results44, go_sem, s0, s1, s2, s3, s4, s5]
      · iterate 6 refine Ext.setCell ?_ (by simp) _
        exact (((((Ext.refl w).alloc _).alloc _).drew).trans hE9)
set_option maxRecDepth 100000 in
theorem rparse_n (l : List UInt8) (w : World) (h : ¬ formL l) (hb : l.length ≤ 9223372036854775807) :
    Calls Tryd.prog 44 #[.string ⟨l.toArray⟩] w fun e w' => e = .returned (.tuple #[mom0, .int .i64 3]) ∧ Ext w w' := by
  have Hf := Lib.hid h
  clear h
  go_enter Tryd.func44, Tryd.ntmps44
  go_wp2_with (go_at_call 74; refine (rform_n l _ Hf.out hb).mono ?_; rintro e w' ⟨rfl, rfl⟩)
  refine bodyPost_ret (v := .tuple #[mom0, .int .i64 3]) ?_ rfl ⟨rfl, ?_⟩
  · simp [results, Tryd.results44, go_sem, mom0]
  · (repeat (with_reducible (first | assumption | exact Ext.refl _ | refine Ext.alloc ?_ _ | refine Ext.setCell ?_ (by simp) _ | refine Ext.setCell ?_ (by simp; omega) _ | refine Ext.drewN ?_ _ | refine Ext.drew ?_)))
end Go.Proofs.YtplckoffiebibaaDoor
