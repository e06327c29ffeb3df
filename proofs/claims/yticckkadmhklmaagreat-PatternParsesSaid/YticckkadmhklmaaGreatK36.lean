/- The walk of the law on Format: the program's answer is the reference's. -/
import Derived.Test.YticckkadmhklmaaGreatK35
import Derived.Test.YticckkadmhklmaaGreatK31
import Derived.Test.YticckkadmhklmaaGreatK24
import Derived.Test.YticckkadmhklmaaGreatK29
namespace Go.Proofs.YticckkadmhklmaaGreat
set_option linter.unusedVariables false
set_option linter.unusedSimpArgs false
open Go.RowKit Go.Maps

theorem formats_both (l : List Prt) (N : Nms) (o sa l0 : Int) (tn : List UInt8) (ao : Option Addr) (cap : Nat) (hl : ∀ p ∈ l, p.t.length ≤ 4000) (hN : N.ok) (hNl : ∀ s ∈ N.all, s.length ≤ 100000) (htl : tn.length ≤ 100000) :
    ∃ (X : List UInt8) (z : Int),
      (∀ w, PtV ao cap l w → Calls Tryz.prog 8 #[.slice ao l.length cap, .agg (sv N.all).toArray, .int .i64 l0, .agg #[.int .i64 o, .int .i64 sa, .string ⟨tn.toArray⟩]] w fun e w' => e = .returned (.tuple #[.string ⟨X.toArray⟩, .int .i64 z]) ∧ Ext w w') ∧
      (∀ w, PtV ao cap l w → Calls Tryz.prog 9 #[.slice ao l.length cap, .agg (sv N.all).toArray, .int .i64 l0, .agg #[.int .i64 o, .int .i64 sa, .string ⟨tn.toArray⟩]] w fun e w' => e = .returned (.tuple #[.string ⟨X.toArray⟩, .int .i64 z]) ∧ Ext w w') := by
  by_cases hg : validB l = true ∧ nmOk N = true ∧ -93600 < o ∧ o < 93600 ∧ typB tn = true ∧ -62135596800 ≤ l0 ∧ l0 < 253402300800
  · obtain ⟨hv, hn, ho1, ho2, ht, r1, r2⟩ := hg
    obtain ⟨F, hF⟩ := isF_ex r1 r2
    exact ⟨fmtL N F o tn l, 0, fun w hp => format_ok l N F o sa l0 tn ao cap w hp hl hN hNl hv hn ho1 ho2 htl ht hF, fun w hp => rformat_ok l N F o sa l0 tn ao cap w hp hl hN hNl hv hn ho1 ho2 htl ht hF⟩
  · exact ⟨[], fmtE l N o tn, fun w hp => format_e l N o sa l0 tn ao cap w hp hl hN hNl htl hg, fun w hp => rformat_e l N o sa l0 tn ao cap w hp hl hN hNl htl hg⟩
theorem great_texts {l : List Prt} (hg : greatB l = false) : ∀ p ∈ l, p.t.length ≤ 4000 := fun p hp => by
  unfold greatB at hg
  rw [Bool.or_eq_false_iff, List.any_eq_false] at hg
  have := hg.2 p hp
  unfold grB at this
  simp at this
  omega
theorem long_names {N : Nms} (hlg : lngB N = false) : ∀ s ∈ N.all, s.length ≤ 100000 := fun s hs => by
  unfold lngB at hlg
  rw [List.any_eq_false] at hlg
  have := hlg s hs
  unfold lgB at this
  simp at this
  omega
set_option maxRecDepth 100000 in
set_option maxHeartbeats 2000000 in
theorem formats_walk (l : List Prt) (ao : Option Addr) (cap : Nat) (N : Nms) (l0 o sa : Int) (tb : ByteArray) (w : World) (h : PtV ao cap l w) (hN : N.ok) (htb : tb.size ≤ 9223372036854775807) :
    Calls Tryz.prog 3 #[.slice ao l.length cap, .agg (sv N.all).toArray, .int .i64 l0, .agg #[.int .i64 o, .int .i64 sa, .string tb]] w fun e w' => e = .returned (.bool true) ∧ Ext w w' := by
  obtain ⟨tn, rfl⟩ : ∃ s : List UInt8, tb = ⟨s.toArray⟩ := ⟨tb.data.toList, ba_mk tb⟩
  have htl : tn.length ≤ 9223372036854775807 := by simpa [ByteArray.size] using htb
  have hI := names_size hN
  have hR : ((w.alloc (.cells (sv N.all).toArray 27)).alloc (.cells #[.int .i64 o, .int .i64 sa, .string ⟨tn.toArray⟩] 29)).rangeAt w.heap.size 0 (sv N.all) := by
    intro j v hv
    rw [World.cell?_alloc_lt _ _ _ (by simp), Nat.zero_add, World.cell?_alloc_new]
    simpa using hv
  have hEW : Ext w ((w.alloc (.cells (sv N.all).toArray 27)).alloc (.cells #[.int .i64 o, .int .i64 sa, .string ⟨tn.toArray⟩] 29)) := ((Ext.refl w).alloc _).alloc _
  have t0 : ((w.alloc (.cells (sv N.all).toArray 27)).alloc (.cells #[.int .i64 o, .int .i64 sa, .string ⟨tn.toArray⟩] 29)).cell? ⟨w.heap.size + 1, 0, none⟩ = some (.int .i64 o) := by
    simp
  have t1 : ((w.alloc (.cells (sv N.all).toArray 27)).alloc (.cells #[.int .i64 o, .int .i64 sa, .string ⟨tn.toArray⟩] 29)).cell? ⟨w.heap.size + 1, 1, none⟩ = some (.int .i64 sa) := by
    simp
  have t2 : ((w.alloc (.cells (sv N.all).toArray 27)).alloc (.cells #[.int .i64 o, .int .i64 sa, .string ⟨tn.toArray⟩] 29)).cell? ⟨w.heap.size + 1, 2, none⟩ = some (.string ⟨tn.toArray⟩) := by
    simp
  have hz1 : w.heap.size < ((w.alloc (.cells (sv N.all).toArray 27)).alloc (.cells #[.int .i64 o, .int .i64 sa, .string ⟨tn.toArray⟩] 29)).heap.size := by simp; omega
  have hz2 : w.heap.size + 1 < ((w.alloc (.cells (sv N.all).toArray 27)).alloc (.cells #[.int .i64 o, .int .i64 sa, .string ⟨tn.toArray⟩] 29)).heap.size := by simp
  have HPt := Lib.hid (h.ext hEW)
  have HEW := Lib.hid hEW
  have HN := Lib.hid hN
  clear htb h hEW hN
  rcases Bool.eq_false_or_eq_true (greatB l) with hg | hg
  · have HG := Lib.hid hg
    clear hg
    go_enter Tryz.func3, Tryz.ntmps3
    go_upto_region 1 with fail
    generalize (w.alloc (.cells (sv N.all).toArray 27)).alloc (.cells #[.int .i64 o, .int .i64 sa, .string ⟨tn.toArray⟩] 29) = W0 at hR HEW t0 t1 t2 hz1 hz2 HPt ⊢
    generalize w.heap.size + 1 = T at t0 t1 t2 hz2 ⊢
    generalize w.heap.size = B at hR hz1 ⊢
    have hTy0 : ∀ W, Ext W0 W → W.cell? ⟨T, 0, none⟩ = some (.int .i64 o) := fun W hW => (hW.cells _ _ hz2).trans t0
    have hTy1 : ∀ W, Ext W0 W → W.cell? ⟨T, 1, none⟩ = some (.int .i64 sa) := fun W hW => (hW.cells _ _ hz2).trans t1
    have hTy2 : ∀ W, Ext W0 W → W.cell? ⟨T, 2, none⟩ = some (.string ⟨tn.toArray⟩) := fun W hW => (hW.cells _ _ hz2).trans t2
    clear t0 t1 t2
    go_upto_region 4 with (first
      | (go_at_call 5; (with_reducible refine (awake_c _).mono ?_); rintro e w1 ⟨rfl, hX⟩)
      | (go_at_call 6; (with_reducible refine (great_c l ao cap _ _ (HPt.out.ext (by (repeat (with_reducible (first | assumption | exact Ext.refl _ | refine Ext.alloc ?_ _ | refine Ext.drewN ?_ _ | refine Ext.drew ?_))))) HG.out).mono ?_); rintro e w2 ⟨rfl, hE2⟩; have hX := Ext.trans (show Ext W0 _ from (by (repeat (with_reducible (first | assumption | exact Ext.refl _ | refine Ext.alloc ?_ _ | refine Ext.drewN ?_ _ | refine Ext.drew ?_))))) hE2; clear hE2)
      | (refine wpList_load_midg (by rfl) 27 _ rfl B 0 rfl (sv N.all) _ (rangeAt_ext hR hz1 (show Ext W0 _ from (by (repeat (with_reducible (first | assumption | exact Ext.refl _ | refine Ext.alloc ?_ _ | refine Ext.drewN ?_ _ | refine Ext.drew ?_)))))) Tryz.underlying27 rfl hI ?_)
      | (go_at_call 7; (with_reducible refine (long_c N HN.out _ _ HLN.out).mono ?_); rintro e w3 ⟨rfl, hE3⟩; have hX := Ext.trans (show Ext W0 _ from (by (repeat (with_reducible (first | assumption | exact Ext.refl _ | refine Ext.alloc ?_ _ | refine Ext.drewN ?_ _ | refine Ext.drew ?_))))) hE3; have ty0 := hTy0 _ hX; have ty1 := hTy1 _ hX; have ty2 := hTy2 _ hX; clear hE3)
      | fail
      | go_in)
    go_wp2_with fail
    go_ret
    exact ⟨rfl, HEW.out.trans (by (repeat (with_reducible (first | assumption | exact Ext.refl _ | refine Ext.alloc ?_ _ | refine Ext.drewN ?_ _ | refine Ext.drew ?_))))⟩
  · have HG := Lib.hid hg
    have Hl := Lib.hid (great_texts hg)
    clear hg
    rcases Bool.eq_false_or_eq_true (lngB N) with hlg | hlg
    · have HLN := Lib.hid hlg
      clear hlg
      go_enter Tryz.func3, Tryz.ntmps3
      go_upto_region 1 with fail
      generalize (w.alloc (.cells (sv N.all).toArray 27)).alloc (.cells #[.int .i64 o, .int .i64 sa, .string ⟨tn.toArray⟩] 29) = W0 at hR HEW t0 t1 t2 hz1 hz2 HPt ⊢
      generalize w.heap.size + 1 = T at t0 t1 t2 hz2 ⊢
      generalize w.heap.size = B at hR hz1 ⊢
      have hTy0 : ∀ W, Ext W0 W → W.cell? ⟨T, 0, none⟩ = some (.int .i64 o) := fun W hW => (hW.cells _ _ hz2).trans t0
      have hTy1 : ∀ W, Ext W0 W → W.cell? ⟨T, 1, none⟩ = some (.int .i64 sa) := fun W hW => (hW.cells _ _ hz2).trans t1
      have hTy2 : ∀ W, Ext W0 W → W.cell? ⟨T, 2, none⟩ = some (.string ⟨tn.toArray⟩) := fun W hW => (hW.cells _ _ hz2).trans t2
      clear t0 t1 t2
      go_upto_region 4 with (first
        | (go_at_call 5; (with_reducible refine (awake_c _).mono ?_); rintro e w1 ⟨rfl, hX⟩)
        | (go_at_call 6; (with_reducible refine (great_c l ao cap _ _ (HPt.out.ext (by (repeat (with_reducible (first | assumption | exact Ext.refl _ | refine Ext.alloc ?_ _ | refine Ext.drewN ?_ _ | refine Ext.drew ?_))))) HG.out).mono ?_); rintro e w2 ⟨rfl, hE2⟩; have hX := Ext.trans (show Ext W0 _ from (by (repeat (with_reducible (first | assumption | exact Ext.refl _ | refine Ext.alloc ?_ _ | refine Ext.drewN ?_ _ | refine Ext.drew ?_))))) hE2; clear hE2)
        | (refine wpList_load_midg (by rfl) 27 _ rfl B 0 rfl (sv N.all) _ (rangeAt_ext hR hz1 (show Ext W0 _ from (by (repeat (with_reducible (first | assumption | exact Ext.refl _ | refine Ext.alloc ?_ _ | refine Ext.drewN ?_ _ | refine Ext.drew ?_)))))) Tryz.underlying27 rfl hI ?_)
        | (go_at_call 7; (with_reducible refine (long_c N HN.out _ _ HLN.out).mono ?_); rintro e w3 ⟨rfl, hE3⟩; have hX := Ext.trans (show Ext W0 _ from (by (repeat (with_reducible (first | assumption | exact Ext.refl _ | refine Ext.alloc ?_ _ | refine Ext.drewN ?_ _ | refine Ext.drew ?_))))) hE3; have ty0 := hTy0 _ hX; have ty1 := hTy1 _ hX; have ty2 := hTy2 _ hX; clear hE3)
        | fail
        | go_in)
      go_wp2_with fail
      go_ret
      exact ⟨rfl, HEW.out.trans (by (repeat (with_reducible (first | assumption | exact Ext.refl _ | refine Ext.alloc ?_ _ | refine Ext.drewN ?_ _ | refine Ext.drew ?_))))⟩
    · have HLN := Lib.hid hlg
      have HNl := Lib.hid (long_names hlg)
      clear hlg
      by_cases htn : tn.length ≤ 100
      · have d1 : ¬ (100 : Int) < (tn.length : Int) := by omega
        obtain ⟨X, z, h1, h2⟩ := formats_both l N o sa l0 tn ao cap Hl.out HN.out HNl.out (by omega)
        have HFM := Lib.hid h1
        have HRM := Lib.hid h2
        clear h1 h2 htn
        go_enter Tryz.func3, Tryz.ntmps3
        go_upto_region 1 with fail
        generalize (w.alloc (.cells (sv N.all).toArray 27)).alloc (.cells #[.int .i64 o, .int .i64 sa, .string ⟨tn.toArray⟩] 29) = W0 at hR HEW t0 t1 t2 hz1 hz2 HPt ⊢
        generalize w.heap.size + 1 = T at t0 t1 t2 hz2 ⊢
        generalize w.heap.size = B at hR hz1 ⊢
        have hTy0 : ∀ W, Ext W0 W → W.cell? ⟨T, 0, none⟩ = some (.int .i64 o) := fun W hW => (hW.cells _ _ hz2).trans t0
        have hTy1 : ∀ W, Ext W0 W → W.cell? ⟨T, 1, none⟩ = some (.int .i64 sa) := fun W hW => (hW.cells _ _ hz2).trans t1
        have hTy2 : ∀ W, Ext W0 W → W.cell? ⟨T, 2, none⟩ = some (.string ⟨tn.toArray⟩) := fun W hW => (hW.cells _ _ hz2).trans t2
        clear t0 t1 t2
        go_upto_region 7 with (first
          | (go_at_call 5; (with_reducible refine (awake_c _).mono ?_); rintro e w1 ⟨rfl, hX⟩)
          | (go_at_call 6; (with_reducible refine (great_c l ao cap _ _ (HPt.out.ext (by (repeat (with_reducible (first | assumption | exact Ext.refl _ | refine Ext.alloc ?_ _ | refine Ext.drewN ?_ _ | refine Ext.drew ?_))))) HG.out).mono ?_); rintro e w2 ⟨rfl, hE2⟩; have hX := Ext.trans (show Ext W0 _ from (by (repeat (with_reducible (first | assumption | exact Ext.refl _ | refine Ext.alloc ?_ _ | refine Ext.drewN ?_ _ | refine Ext.drew ?_))))) hE2; clear hE2)
          | (refine wpList_load_midg (by rfl) 27 _ rfl B 0 rfl (sv N.all) _ (rangeAt_ext hR hz1 (show Ext W0 _ from (by (repeat (with_reducible (first | assumption | exact Ext.refl _ | refine Ext.alloc ?_ _ | refine Ext.drewN ?_ _ | refine Ext.drew ?_)))))) Tryz.underlying27 rfl hI ?_)
          | (go_at_call 7; (with_reducible refine (long_c N HN.out _ _ HLN.out).mono ?_); rintro e w3 ⟨rfl, hE3⟩; have hX := Ext.trans (show Ext W0 _ from (by (repeat (with_reducible (first | assumption | exact Ext.refl _ | refine Ext.alloc ?_ _ | refine Ext.drewN ?_ _ | refine Ext.drew ?_))))) hE3; have ty0 := hTy0 _ hX; have ty1 := hTy1 _ hX; have ty2 := hTy2 _ hX; clear hE3)
          | (first
                  | (go_at_call 8; (with_reducible refine (HFM.out _ (HPt.out.ext (by (repeat (with_reducible (first | assumption | exact Ext.refl _ | refine Ext.alloc ?_ _ | refine Ext.drewN ?_ _ | refine Ext.drew ?_)))))).mono ?_); rintro e w5 ⟨rfl, hE5⟩; have hX := Ext.trans (show Ext W0 _ from (by (repeat (with_reducible (first | assumption | exact Ext.refl _ | refine Ext.alloc ?_ _ | refine Ext.drewN ?_ _ | refine Ext.drew ?_))))) hE5; have ty0 := hTy0 _ hX; have ty1 := hTy1 _ hX; have ty2 := hTy2 _ hX; clear hE5)
                  | (go_at_call 9; (with_reducible refine (HRM.out _ (HPt.out.ext (by (repeat (with_reducible (first | assumption | exact Ext.refl _ | refine Ext.alloc ?_ _ | refine Ext.drewN ?_ _ | refine Ext.drew ?_)))))).mono ?_); rintro e w6 ⟨rfl, hE6⟩; have hX := Ext.trans (show Ext W0 _ from (by (repeat (with_reducible (first | assumption | exact Ext.refl _ | refine Ext.alloc ?_ _ | refine Ext.drewN ?_ _ | refine Ext.drew ?_))))) hE6; clear hE6))
          | go_in)
        go_wp2_with fail
        go_ret
        exact ⟨rfl, HEW.out.trans (by (repeat (with_reducible (first | assumption | exact Ext.refl _ | refine Ext.alloc ?_ _ | refine Ext.drewN ?_ _ | refine Ext.drew ?_))))⟩
      · have d1 : (100 : Int) < (tn.length : Int) := by omega
        clear htn
        go_enter Tryz.func3, Tryz.ntmps3
        go_upto_region 1 with fail
        generalize (w.alloc (.cells (sv N.all).toArray 27)).alloc (.cells #[.int .i64 o, .int .i64 sa, .string ⟨tn.toArray⟩] 29) = W0 at hR HEW t0 t1 t2 hz1 hz2 HPt ⊢
        generalize w.heap.size + 1 = T at t0 t1 t2 hz2 ⊢
        generalize w.heap.size = B at hR hz1 ⊢
        have hTy0 : ∀ W, Ext W0 W → W.cell? ⟨T, 0, none⟩ = some (.int .i64 o) := fun W hW => (hW.cells _ _ hz2).trans t0
        have hTy1 : ∀ W, Ext W0 W → W.cell? ⟨T, 1, none⟩ = some (.int .i64 sa) := fun W hW => (hW.cells _ _ hz2).trans t1
        have hTy2 : ∀ W, Ext W0 W → W.cell? ⟨T, 2, none⟩ = some (.string ⟨tn.toArray⟩) := fun W hW => (hW.cells _ _ hz2).trans t2
        clear t0 t1 t2
        go_upto_region 4 with (first
          | (go_at_call 5; (with_reducible refine (awake_c _).mono ?_); rintro e w1 ⟨rfl, hX⟩)
          | (go_at_call 6; (with_reducible refine (great_c l ao cap _ _ (HPt.out.ext (by (repeat (with_reducible (first | assumption | exact Ext.refl _ | refine Ext.alloc ?_ _ | refine Ext.drewN ?_ _ | refine Ext.drew ?_))))) HG.out).mono ?_); rintro e w2 ⟨rfl, hE2⟩; have hX := Ext.trans (show Ext W0 _ from (by (repeat (with_reducible (first | assumption | exact Ext.refl _ | refine Ext.alloc ?_ _ | refine Ext.drewN ?_ _ | refine Ext.drew ?_))))) hE2; clear hE2)
          | (refine wpList_load_midg (by rfl) 27 _ rfl B 0 rfl (sv N.all) _ (rangeAt_ext hR hz1 (show Ext W0 _ from (by (repeat (with_reducible (first | assumption | exact Ext.refl _ | refine Ext.alloc ?_ _ | refine Ext.drewN ?_ _ | refine Ext.drew ?_)))))) Tryz.underlying27 rfl hI ?_)
          | (go_at_call 7; (with_reducible refine (long_c N HN.out _ _ HLN.out).mono ?_); rintro e w3 ⟨rfl, hE3⟩; have hX := Ext.trans (show Ext W0 _ from (by (repeat (with_reducible (first | assumption | exact Ext.refl _ | refine Ext.alloc ?_ _ | refine Ext.drewN ?_ _ | refine Ext.drew ?_))))) hE3; have ty0 := hTy0 _ hX; have ty1 := hTy1 _ hX; have ty2 := hTy2 _ hX; clear hE3)
          | fail
          | go_in)
        go_wp2_with fail
        go_ret
        exact ⟨rfl, HEW.out.trans (by (repeat (with_reducible (first | assumption | exact Ext.refl _ | refine Ext.alloc ?_ _ | refine Ext.drewN ?_ _ | refine Ext.drew ?_))))⟩
end Go.Proofs.YticckkadmhklmaaGreat
