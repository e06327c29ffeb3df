/- The walk of the law PatternLossless. -/
import Derived.Test.YticckkadmhklmaaK28
import Derived.Test.YticckkadmhklmaaK29
namespace Go.Proofs.Yticckkadmhklmaa
set_option linter.unusedVariables false
set_option linter.unusedSimpArgs false
open Go.RowKit

theorem prs_full {N : Nms} (hN : N.ok) (hn : nmOk N = true) {F : Fv} {a : Int} (hF : IsF F a) {o : Int} {tn : List UInt8} (ho : o.natAbs < 93600) (ht : typB tn = true) {l : List Prt} (hl : losB l = true) (hlen : (fmtL N F o tn l).length ≤ 4000) : prsT N l (fmtL N F o tn l) = (a, 0, 0) := by
  have hv : validB l = true := by
    unfold losB at hl
    simp only [Bool.and_eq_true] at hl
    exact hl.1.1.1.1.1.1.1
  have hL : losL l = true := by
    unfold losB at hl
    simp only [Bool.and_eq_true] at hl
    exact hl.2
  have hp : ∀ p ∈ l, partB p = true := by
    unfold validB at hv
    simp only [Bool.and_eq_true, decide_eq_true_eq] at hv
    exact tailB_all l none hv.2
  have hr := rdL_fmt hN hn hF.ok ho ht l 0 [] hp hL
  have hc : clB (l.flatMap (valsK F)) = false := (clB_iff _).2 (vals_cons F l)
  have hm := mom_back hF hl
  unfold prsT
  rw [if_pos ⟨hv, hn⟩, if_neg (by omega), hr]
  simp only [List.nil_append]
  rw [hc, hm]
  rfl
theorem los_valid {l : List Prt} (hl : losB l = true) : validB l = true := by
  unfold losB at hl
  simp only [Bool.and_eq_true] at hl
  exact hl.1.1.1.1.1.1.1
theorem par_l (N : Nms) (hN : N.ok) (hNl : ∀ s ∈ N.all, s.length ≤ 100000) (l : List Prt) (s : List UInt8) (ao : Option Addr) (cap : Nat) (a : Int) (c : Nat) (e : Int) (hT : prsT N l s = (a, c, e)) (w : World) (h : PtV ao cap l w) (hl : ∀ p ∈ l, p.t.length ≤ 4000) (hs : s.length ≤ 9223372036854775806) :
    Calls Try.prog 9 #[.slice ao l.length cap, .agg (sv N.all).toArray, .string ⟨s.toArray⟩] w fun x w' => ∃ z1 z2 : Int, x = .returned (.tuple #[.int .i64 a, .agg #[.int .i64 z1, .int .i64 z2], .int .i64 e]) ∧ Ext w w' := by
  have q := parse_c l N s ao cap w h hl hN hNl hs
  unfold PrsR at q
  rw [hT] at q
  exact q.mono fun x w' ⟨h1, h2⟩ => ⟨_, _, h1, h2⟩
set_option maxRecDepth 100000 in
set_option maxHeartbeats 2000000 in
theorem lossless_walk (l : List Prt) (ao : Option Addr) (cap : Nat) (N : Nms) (l0 o sa : Int) (tb : ByteArray) (w : World) (h : PtV ao cap l w) (hN : N.ok) (htb : tb.size ≤ 9223372036854775807) :
    Calls Try.prog 5 #[.slice ao l.length cap, .agg (sv N.all).toArray, .int .i64 l0, .agg #[.int .i64 o, .int .i64 sa, .string tb]] w fun e w' => e = .returned (.bool true) ∧ Ext w w' := by
  obtain ⟨tn, rfl⟩ : ∃ s : List UInt8, tb = ⟨s.toArray⟩ := ⟨tb.data.toList, ba_mk tb⟩
  have htl : tn.length ≤ 9223372036854775807 := by simpa [ByteArray.size] using htb
  have hI := names_size hN
  have hR : ((w.alloc (.cells (sv N.all).toArray 37)).alloc (.cells #[.int .i64 o, .int .i64 sa, .string ⟨tn.toArray⟩] 24)).rangeAt w.heap.size 0 (sv N.all) := by
    intro j v hv
    rw [World.cell?_alloc_lt _ _ _ (by simp), Nat.zero_add, World.cell?_alloc_new]
    simpa using hv
  have hEW : Ext w ((w.alloc (.cells (sv N.all).toArray 37)).alloc (.cells #[.int .i64 o, .int .i64 sa, .string ⟨tn.toArray⟩] 24)) := ((Ext.refl w).alloc _).alloc _
  have t0 : ((w.alloc (.cells (sv N.all).toArray 37)).alloc (.cells #[.int .i64 o, .int .i64 sa, .string ⟨tn.toArray⟩] 24)).cell? ⟨w.heap.size + 1, 0, none⟩ = some (.int .i64 o) := by
    simp
  have t1 : ((w.alloc (.cells (sv N.all).toArray 37)).alloc (.cells #[.int .i64 o, .int .i64 sa, .string ⟨tn.toArray⟩] 24)).cell? ⟨w.heap.size + 1, 1, none⟩ = some (.int .i64 sa) := by
    simp
  have t2 : ((w.alloc (.cells (sv N.all).toArray 37)).alloc (.cells #[.int .i64 o, .int .i64 sa, .string ⟨tn.toArray⟩] 24)).cell? ⟨w.heap.size + 1, 2, none⟩ = some (.string ⟨tn.toArray⟩) := by
    simp
  have hz1 : w.heap.size < ((w.alloc (.cells (sv N.all).toArray 37)).alloc (.cells #[.int .i64 o, .int .i64 sa, .string ⟨tn.toArray⟩] 24)).heap.size := by simp; omega
  have hz2 : w.heap.size + 1 < ((w.alloc (.cells (sv N.all).toArray 37)).alloc (.cells #[.int .i64 o, .int .i64 sa, .string ⟨tn.toArray⟩] 24)).heap.size := by simp
  have HPt := Lib.hid (h.ext hEW)
  have HEW := Lib.hid hEW
  have HN := Lib.hid hN
  clear htb h hEW hN
  rcases Bool.eq_false_or_eq_true (greatB l) with hg | hg
  · have HG := Lib.hid hg
    clear hg
    go_enter Try.func5, Try.ntmps5
    go_upto_region 1 with fail
    generalize (w.alloc (.cells (sv N.all).toArray 37)).alloc (.cells #[.int .i64 o, .int .i64 sa, .string ⟨tn.toArray⟩] 24) = W0 at hR HEW t0 t1 t2 hz1 hz2 HPt ⊢
    generalize w.heap.size + 1 = T at t0 t1 t2 hz2 ⊢
    generalize w.heap.size = B at hR hz1 ⊢
    have hTy0 : ∀ W, Ext W0 W → W.cell? ⟨T, 0, none⟩ = some (.int .i64 o) := fun W hW => (hW.cells _ _ hz2).trans t0
    have hTy1 : ∀ W, Ext W0 W → W.cell? ⟨T, 1, none⟩ = some (.int .i64 sa) := fun W hW => (hW.cells _ _ hz2).trans t1
    have hTy2 : ∀ W, Ext W0 W → W.cell? ⟨T, 2, none⟩ = some (.string ⟨tn.toArray⟩) := fun W hW => (hW.cells _ _ hz2).trans t2
    clear t0 t1 t2
    go_upto_region 4 with (first
      | (go_at_call 6; (with_reducible refine (awake_c _).mono ?_); rintro e w1 ⟨rfl, hX⟩)
      | (go_at_call 7; (with_reducible refine (great_c l ao cap _ _ (HPt.out.ext (by (repeat (with_reducible (first | assumption | exact Ext.refl _ | refine Ext.alloc ?_ _ | refine Ext.drewN ?_ _ | refine Ext.drew ?_))))) HG.out).mono ?_); rintro e w2 ⟨rfl, hE2⟩; have hX := Ext.trans (show Ext W0 _ from (by (repeat (with_reducible (first | assumption | exact Ext.refl _ | refine Ext.alloc ?_ _ | refine Ext.drewN ?_ _ | refine Ext.drew ?_))))) hE2; clear hE2)
      | (refine wpList_load_midg (by rfl) 37 _ rfl B 0 rfl (sv N.all) _ (rangeAt_ext hR hz1 (show Ext W0 _ from (by (repeat (with_reducible (first | assumption | exact Ext.refl _ | refine Ext.alloc ?_ _ | refine Ext.drewN ?_ _ | refine Ext.drew ?_)))))) Try.underlying37 rfl hI ?_)
      | (go_at_call 18; (with_reducible refine (long_c N HN.out _ _ HLN.out).mono ?_); rintro e w3 ⟨rfl, hE3⟩; have hX := Ext.trans (show Ext W0 _ from (by (repeat (with_reducible (first | assumption | exact Ext.refl _ | refine Ext.alloc ?_ _ | refine Ext.drewN ?_ _ | refine Ext.drew ?_))))) hE3; have ty2 := hTy2 _ hX; clear hE3)
      | (go_at_call 14; (with_reducible refine (loss_l l ao cap _ HLB.out _ (HPt.out.ext (by (repeat (with_reducible (first | assumption | exact Ext.refl _ | refine Ext.alloc ?_ _ | refine Ext.drewN ?_ _ | refine Ext.drew ?_))))) Hl.out).mono ?_); rintro e w4 ⟨rfl, hE4⟩; have hX := Ext.trans (show Ext W0 _ from (by (repeat (with_reducible (first | assumption | exact Ext.refl _ | refine Ext.alloc ?_ _ | refine Ext.drewN ?_ _ | refine Ext.drew ?_))))) hE4; have ty0 := hTy0 _ hX; have ty1 := hTy1 _ hX; have ty2 := hTy2 _ hX; clear hE4)
      | fail
      | go_in)
    go_wp2_with fail
    go_ret
    exact ⟨rfl, HEW.out.trans (by (repeat (with_reducible (first | assumption | exact Ext.refl _ | refine Ext.alloc ?_ _ | refine Ext.drewN ?_ _ | refine Ext.drew ?_))))⟩
  · have HG := Lib.hid hg
    have Hl : Hid (∀ p ∈ l, p.t.length ≤ 4000) := fun p hp => by
      have h2 := hg
      unfold greatB at h2
      rw [Bool.or_eq_false_iff, List.any_eq_false] at h2
      have := h2.2 p hp
      unfold grB at this
      simp at this
      omega
    clear hg
    rcases Bool.eq_false_or_eq_true (lngB N) with hlg | hlg
    · have HLN := Lib.hid hlg
      clear hlg
      go_enter Try.func5, Try.ntmps5
      go_upto_region 1 with fail
      generalize (w.alloc (.cells (sv N.all).toArray 37)).alloc (.cells #[.int .i64 o, .int .i64 sa, .string ⟨tn.toArray⟩] 24) = W0 at hR HEW t0 t1 t2 hz1 hz2 HPt ⊢
      generalize w.heap.size + 1 = T at t0 t1 t2 hz2 ⊢
      generalize w.heap.size = B at hR hz1 ⊢
      have hTy0 : ∀ W, Ext W0 W → W.cell? ⟨T, 0, none⟩ = some (.int .i64 o) := fun W hW => (hW.cells _ _ hz2).trans t0
      have hTy1 : ∀ W, Ext W0 W → W.cell? ⟨T, 1, none⟩ = some (.int .i64 sa) := fun W hW => (hW.cells _ _ hz2).trans t1
      have hTy2 : ∀ W, Ext W0 W → W.cell? ⟨T, 2, none⟩ = some (.string ⟨tn.toArray⟩) := fun W hW => (hW.cells _ _ hz2).trans t2
      clear t0 t1 t2
      go_upto_region 4 with (first
        | (go_at_call 6; (with_reducible refine (awake_c _).mono ?_); rintro e w1 ⟨rfl, hX⟩)
        | (go_at_call 7; (with_reducible refine (great_c l ao cap _ _ (HPt.out.ext (by (repeat (with_reducible (first | assumption | exact Ext.refl _ | refine Ext.alloc ?_ _ | refine Ext.drewN ?_ _ | refine Ext.drew ?_))))) HG.out).mono ?_); rintro e w2 ⟨rfl, hE2⟩; have hX := Ext.trans (show Ext W0 _ from (by (repeat (with_reducible (first | assumption | exact Ext.refl _ | refine Ext.alloc ?_ _ | refine Ext.drewN ?_ _ | refine Ext.drew ?_))))) hE2; clear hE2)
        | (refine wpList_load_midg (by rfl) 37 _ rfl B 0 rfl (sv N.all) _ (rangeAt_ext hR hz1 (show Ext W0 _ from (by (repeat (with_reducible (first | assumption | exact Ext.refl _ | refine Ext.alloc ?_ _ | refine Ext.drewN ?_ _ | refine Ext.drew ?_)))))) Try.underlying37 rfl hI ?_)
        | (go_at_call 18; (with_reducible refine (long_c N HN.out _ _ HLN.out).mono ?_); rintro e w3 ⟨rfl, hE3⟩; have hX := Ext.trans (show Ext W0 _ from (by (repeat (with_reducible (first | assumption | exact Ext.refl _ | refine Ext.alloc ?_ _ | refine Ext.drewN ?_ _ | refine Ext.drew ?_))))) hE3; have ty2 := hTy2 _ hX; clear hE3)
        | (go_at_call 14; (with_reducible refine (loss_l l ao cap _ HLB.out _ (HPt.out.ext (by (repeat (with_reducible (first | assumption | exact Ext.refl _ | refine Ext.alloc ?_ _ | refine Ext.drewN ?_ _ | refine Ext.drew ?_))))) Hl.out).mono ?_); rintro e w4 ⟨rfl, hE4⟩; have hX := Ext.trans (show Ext W0 _ from (by (repeat (with_reducible (first | assumption | exact Ext.refl _ | refine Ext.alloc ?_ _ | refine Ext.drewN ?_ _ | refine Ext.drew ?_))))) hE4; have ty0 := hTy0 _ hX; have ty1 := hTy1 _ hX; have ty2 := hTy2 _ hX; clear hE4)
        | fail
        | go_in)
      go_wp2_with fail
      go_ret
      exact ⟨rfl, HEW.out.trans (by (repeat (with_reducible (first | assumption | exact Ext.refl _ | refine Ext.alloc ?_ _ | refine Ext.drewN ?_ _ | refine Ext.drew ?_))))⟩
    · have HLN := Lib.hid hlg
      have HNl : Hid (∀ s ∈ N.all, s.length ≤ 100000) := fun s hs => by
        unfold lngB at hlg
        rw [List.any_eq_false] at hlg
        have := hlg s hs
        unfold lgB at this
        simp at this
        omega
      clear hlg
      by_cases htn : tn.length ≤ 100
      · have d1 : ¬ (100 : Int) < (tn.length : Int) := by omega
        have htn8 : tn.length ≤ 100000 := by omega
        clear htn
        rcases Bool.eq_false_or_eq_true (losB l) with hlb | hlb
        · have HLB := Lib.hid hlb
          by_cases hgood : nmOk N = true ∧ -93600 < o ∧ o < 93600 ∧ typB tn = true ∧ -62135596800 ≤ l0 ∧ l0 < 253402300800
          · obtain ⟨hn, ho1, ho2, ht, r1, r2⟩ := hgood
            obtain ⟨F, hF⟩ := isF_ex r1 r2
            obtain ⟨u, hu⟩ : ∃ u, u = fmtL N F o tn l := ⟨_, rfl⟩
            have HFM : ∀ w, PtV ao cap l w → Calls Try.prog 13 #[.slice ao l.length cap, .agg (sv N.all).toArray, .int .i64 l0, .agg #[.int .i64 o, .int .i64 sa, .string ⟨tn.toArray⟩]] w fun e w' => e = .returned (.tuple #[.string ⟨u.toArray⟩, .int .i64 0]) ∧ Ext w w' := by
              intro w hp
              rw [hu]
              exact format_ok l N F o sa l0 tn ao cap w hp Hl.out HN.out HNl.out (los_valid hlb) hn ho1 ho2 htn8 ht hF
            have HFM := Lib.hid HFM
            by_cases hul : u.length ≤ 4000
            · have HT : Hid (prsT N l u = (l0, 0, 0)) := by
                rw [Hid, hu]
                exact prs_full HN.out hn hF (by omega) ht hlb (by rw [← hu]; exact hul)
              have d2 : ¬ (4000 : Int) < (u.length : Int) := by omega
              clear hlb hn ho1 ho2 ht r1 r2 hF hu
              go_enter Try.func5, Try.ntmps5
              go_upto_region 1 with fail
              generalize (w.alloc (.cells (sv N.all).toArray 37)).alloc (.cells #[.int .i64 o, .int .i64 sa, .string ⟨tn.toArray⟩] 24) = W0 at hR HEW t0 t1 t2 hz1 hz2 HPt ⊢
              generalize w.heap.size + 1 = T at t0 t1 t2 hz2 ⊢
              generalize w.heap.size = B at hR hz1 ⊢
              have hTy0 : ∀ W, Ext W0 W → W.cell? ⟨T, 0, none⟩ = some (.int .i64 o) := fun W hW => (hW.cells _ _ hz2).trans t0
              have hTy1 : ∀ W, Ext W0 W → W.cell? ⟨T, 1, none⟩ = some (.int .i64 sa) := fun W hW => (hW.cells _ _ hz2).trans t1
              have hTy2 : ∀ W, Ext W0 W → W.cell? ⟨T, 2, none⟩ = some (.string ⟨tn.toArray⟩) := fun W hW => (hW.cells _ _ hz2).trans t2
              clear t0 t1 t2
              go_upto_region 9 with (first
                | (go_at_call 6; (with_reducible refine (awake_c _).mono ?_); rintro e w1 ⟨rfl, hX⟩)
                | (go_at_call 7; (with_reducible refine (great_c l ao cap _ _ (HPt.out.ext (by (repeat (with_reducible (first | assumption | exact Ext.refl _ | refine Ext.alloc ?_ _ | refine Ext.drewN ?_ _ | refine Ext.drew ?_))))) HG.out).mono ?_); rintro e w2 ⟨rfl, hE2⟩; have hX := Ext.trans (show Ext W0 _ from (by (repeat (with_reducible (first | assumption | exact Ext.refl _ | refine Ext.alloc ?_ _ | refine Ext.drewN ?_ _ | refine Ext.drew ?_))))) hE2; clear hE2)
                | (refine wpList_load_midg (by rfl) 37 _ rfl B 0 rfl (sv N.all) _ (rangeAt_ext hR hz1 (show Ext W0 _ from (by (repeat (with_reducible (first | assumption | exact Ext.refl _ | refine Ext.alloc ?_ _ | refine Ext.drewN ?_ _ | refine Ext.drew ?_)))))) Try.underlying37 rfl hI ?_)
                | (go_at_call 18; (with_reducible refine (long_c N HN.out _ _ HLN.out).mono ?_); rintro e w3 ⟨rfl, hE3⟩; have hX := Ext.trans (show Ext W0 _ from (by (repeat (with_reducible (first | assumption | exact Ext.refl _ | refine Ext.alloc ?_ _ | refine Ext.drewN ?_ _ | refine Ext.drew ?_))))) hE3; have ty2 := hTy2 _ hX; clear hE3)
                | (go_at_call 14; (with_reducible refine (loss_l l ao cap _ HLB.out _ (HPt.out.ext (by (repeat (with_reducible (first | assumption | exact Ext.refl _ | refine Ext.alloc ?_ _ | refine Ext.drewN ?_ _ | refine Ext.drew ?_))))) Hl.out).mono ?_); rintro e w4 ⟨rfl, hE4⟩; have hX := Ext.trans (show Ext W0 _ from (by (repeat (with_reducible (first | assumption | exact Ext.refl _ | refine Ext.alloc ?_ _ | refine Ext.drewN ?_ _ | refine Ext.drew ?_))))) hE4; have ty0 := hTy0 _ hX; have ty1 := hTy1 _ hX; have ty2 := hTy2 _ hX; clear hE4)
                | (first
                              | (go_at_call 13; (with_reducible refine (HFM.out _ (HPt.out.ext (by (repeat (with_reducible (first | assumption | exact Ext.refl _ | refine Ext.alloc ?_ _ | refine Ext.drewN ?_ _ | refine Ext.drew ?_)))))).mono ?_); rintro e w5 ⟨rfl, hE5⟩; have hX := Ext.trans (show Ext W0 _ from (by (repeat (with_reducible (first | assumption | exact Ext.refl _ | refine Ext.alloc ?_ _ | refine Ext.drewN ?_ _ | refine Ext.drew ?_))))) hE5; clear hE5)
                              | (go_at_call 9; (with_reducible refine (par_l N HN.out HNl.out l u ao cap _ 0 _ HT.out _ (HPt.out.ext (by (repeat (with_reducible (first | assumption | exact Ext.refl _ | refine Ext.alloc ?_ _ | refine Ext.drewN ?_ _ | refine Ext.drew ?_))))) Hl.out (by omega)).mono ?_); rintro e w6 ⟨z1, z2, rfl, hE6⟩; have hX := Ext.trans (show Ext W0 _ from (by (repeat (with_reducible (first | assumption | exact Ext.refl _ | refine Ext.alloc ?_ _ | refine Ext.drewN ?_ _ | refine Ext.drew ?_))))) hE6; clear hE6))
                | go_in)
              go_wp2_with fail
              go_ret
              exact ⟨rfl, HEW.out.trans (by (repeat (with_reducible (first | assumption | exact Ext.refl _ | refine Ext.alloc ?_ _ | refine Ext.drewN ?_ _ | refine Ext.drew ?_))))⟩
            · have d2 : (4000 : Int) < (u.length : Int) := by omega
              have hne : u.isEmpty = false := by
                cases u with
                | nil => exact absurd (Nat.zero_le 4000) hul
                | cons x r => rfl
              clear hlb hn ho1 ho2 ht r1 r2 hF hu hul
              go_enter Try.func5, Try.ntmps5
              go_upto_region 1 with fail
              generalize (w.alloc (.cells (sv N.all).toArray 37)).alloc (.cells #[.int .i64 o, .int .i64 sa, .string ⟨tn.toArray⟩] 24) = W0 at hR HEW t0 t1 t2 hz1 hz2 HPt ⊢
              generalize w.heap.size + 1 = T at t0 t1 t2 hz2 ⊢
              generalize w.heap.size = B at hR hz1 ⊢
              have hTy0 : ∀ W, Ext W0 W → W.cell? ⟨T, 0, none⟩ = some (.int .i64 o) := fun W hW => (hW.cells _ _ hz2).trans t0
              have hTy1 : ∀ W, Ext W0 W → W.cell? ⟨T, 1, none⟩ = some (.int .i64 sa) := fun W hW => (hW.cells _ _ hz2).trans t1
              have hTy2 : ∀ W, Ext W0 W → W.cell? ⟨T, 2, none⟩ = some (.string ⟨tn.toArray⟩) := fun W hW => (hW.cells _ _ hz2).trans t2
              clear t0 t1 t2
              go_upto_region 7 with (first
                | (go_at_call 6; (with_reducible refine (awake_c _).mono ?_); rintro e w1 ⟨rfl, hX⟩)
                | (go_at_call 7; (with_reducible refine (great_c l ao cap _ _ (HPt.out.ext (by (repeat (with_reducible (first | assumption | exact Ext.refl _ | refine Ext.alloc ?_ _ | refine Ext.drewN ?_ _ | refine Ext.drew ?_))))) HG.out).mono ?_); rintro e w2 ⟨rfl, hE2⟩; have hX := Ext.trans (show Ext W0 _ from (by (repeat (with_reducible (first | assumption | exact Ext.refl _ | refine Ext.alloc ?_ _ | refine Ext.drewN ?_ _ | refine Ext.drew ?_))))) hE2; clear hE2)
                | (refine wpList_load_midg (by rfl) 37 _ rfl B 0 rfl (sv N.all) _ (rangeAt_ext hR hz1 (show Ext W0 _ from (by (repeat (with_reducible (first | assumption | exact Ext.refl _ | refine Ext.alloc ?_ _ | refine Ext.drewN ?_ _ | refine Ext.drew ?_)))))) Try.underlying37 rfl hI ?_)
                | (go_at_call 18; (with_reducible refine (long_c N HN.out _ _ HLN.out).mono ?_); rintro e w3 ⟨rfl, hE3⟩; have hX := Ext.trans (show Ext W0 _ from (by (repeat (with_reducible (first | assumption | exact Ext.refl _ | refine Ext.alloc ?_ _ | refine Ext.drewN ?_ _ | refine Ext.drew ?_))))) hE3; have ty2 := hTy2 _ hX; clear hE3)
                | (go_at_call 14; (with_reducible refine (loss_l l ao cap _ HLB.out _ (HPt.out.ext (by (repeat (with_reducible (first | assumption | exact Ext.refl _ | refine Ext.alloc ?_ _ | refine Ext.drewN ?_ _ | refine Ext.drew ?_))))) Hl.out).mono ?_); rintro e w4 ⟨rfl, hE4⟩; have hX := Ext.trans (show Ext W0 _ from (by (repeat (with_reducible (first | assumption | exact Ext.refl _ | refine Ext.alloc ?_ _ | refine Ext.drewN ?_ _ | refine Ext.drew ?_))))) hE4; have ty0 := hTy0 _ hX; have ty1 := hTy1 _ hX; have ty2 := hTy2 _ hX; clear hE4)
                | (first
                              | (go_at_call 13; (with_reducible refine (HFM.out _ (HPt.out.ext (by (repeat (with_reducible (first | assumption | exact Ext.refl _ | refine Ext.alloc ?_ _ | refine Ext.drewN ?_ _ | refine Ext.drew ?_)))))).mono ?_); rintro e w5 ⟨rfl, hE5⟩; have hX := Ext.trans (show Ext W0 _ from (by (repeat (with_reducible (first | assumption | exact Ext.refl _ | refine Ext.alloc ?_ _ | refine Ext.drewN ?_ _ | refine Ext.drew ?_))))) hE5; clear hE5))
                | go_in)
              go_wp2_with fail
              go_ret
              exact ⟨rfl, HEW.out.trans (by (repeat (with_reducible (first | assumption | exact Ext.refl _ | refine Ext.alloc ?_ _ | refine Ext.drewN ?_ _ | refine Ext.drew ?_))))⟩
          · have HFM : ∀ w, PtV ao cap l w → Calls Try.prog 13 #[.slice ao l.length cap, .agg (sv N.all).toArray, .int .i64 l0, .agg #[.int .i64 o, .int .i64 sa, .string ⟨tn.toArray⟩]] w fun e w' => ∃ z : Int, (z != 0) = true ∧ e = .returned (.tuple #[.string .empty, .int .i64 z]) ∧ Ext w w' :=
              fun w hp => format_no l N o sa l0 tn ao cap w hp Hl.out HN.out HNl.out htn8 (fun q => hgood q.2)
            have HFM := Lib.hid HFM
            clear hgood hlb
            go_enter Try.func5, Try.ntmps5
            go_upto_region 1 with fail
            generalize (w.alloc (.cells (sv N.all).toArray 37)).alloc (.cells #[.int .i64 o, .int .i64 sa, .string ⟨tn.toArray⟩] 24) = W0 at hR HEW t0 t1 t2 hz1 hz2 HPt ⊢
            generalize w.heap.size + 1 = T at t0 t1 t2 hz2 ⊢
            generalize w.heap.size = B at hR hz1 ⊢
            have hTy0 : ∀ W, Ext W0 W → W.cell? ⟨T, 0, none⟩ = some (.int .i64 o) := fun W hW => (hW.cells _ _ hz2).trans t0
            have hTy1 : ∀ W, Ext W0 W → W.cell? ⟨T, 1, none⟩ = some (.int .i64 sa) := fun W hW => (hW.cells _ _ hz2).trans t1
            have hTy2 : ∀ W, Ext W0 W → W.cell? ⟨T, 2, none⟩ = some (.string ⟨tn.toArray⟩) := fun W hW => (hW.cells _ _ hz2).trans t2
            clear t0 t1 t2
            go_upto_region 7 with (first
              | (go_at_call 6; (with_reducible refine (awake_c _).mono ?_); rintro e w1 ⟨rfl, hX⟩)
              | (go_at_call 7; (with_reducible refine (great_c l ao cap _ _ (HPt.out.ext (by (repeat (with_reducible (first | assumption | exact Ext.refl _ | refine Ext.alloc ?_ _ | refine Ext.drewN ?_ _ | refine Ext.drew ?_))))) HG.out).mono ?_); rintro e w2 ⟨rfl, hE2⟩; have hX := Ext.trans (show Ext W0 _ from (by (repeat (with_reducible (first | assumption | exact Ext.refl _ | refine Ext.alloc ?_ _ | refine Ext.drewN ?_ _ | refine Ext.drew ?_))))) hE2; clear hE2)
              | (refine wpList_load_midg (by rfl) 37 _ rfl B 0 rfl (sv N.all) _ (rangeAt_ext hR hz1 (show Ext W0 _ from (by (repeat (with_reducible (first | assumption | exact Ext.refl _ | refine Ext.alloc ?_ _ | refine Ext.drewN ?_ _ | refine Ext.drew ?_)))))) Try.underlying37 rfl hI ?_)
              | (go_at_call 18; (with_reducible refine (long_c N HN.out _ _ HLN.out).mono ?_); rintro e w3 ⟨rfl, hE3⟩; have hX := Ext.trans (show Ext W0 _ from (by (repeat (with_reducible (first | assumption | exact Ext.refl _ | refine Ext.alloc ?_ _ | refine Ext.drewN ?_ _ | refine Ext.drew ?_))))) hE3; have ty2 := hTy2 _ hX; clear hE3)
              | (go_at_call 14; (with_reducible refine (loss_l l ao cap _ HLB.out _ (HPt.out.ext (by (repeat (with_reducible (first | assumption | exact Ext.refl _ | refine Ext.alloc ?_ _ | refine Ext.drewN ?_ _ | refine Ext.drew ?_))))) Hl.out).mono ?_); rintro e w4 ⟨rfl, hE4⟩; have hX := Ext.trans (show Ext W0 _ from (by (repeat (with_reducible (first | assumption | exact Ext.refl _ | refine Ext.alloc ?_ _ | refine Ext.drewN ?_ _ | refine Ext.drew ?_))))) hE4; have ty0 := hTy0 _ hX; have ty1 := hTy1 _ hX; have ty2 := hTy2 _ hX; clear hE4)
              | (first
                          | (go_at_call 13; (with_reducible refine (HFM.out _ (HPt.out.ext (by (repeat (with_reducible (first | assumption | exact Ext.refl _ | refine Ext.alloc ?_ _ | refine Ext.drewN ?_ _ | refine Ext.drew ?_)))))).mono ?_); rintro e w5 ⟨z, hz, rfl, hE5⟩; have hX := Ext.trans (show Ext W0 _ from (by (repeat (with_reducible (first | assumption | exact Ext.refl _ | refine Ext.alloc ?_ _ | refine Ext.drewN ?_ _ | refine Ext.drew ?_))))) hE5; clear hE5))
              | go_in)
            go_wp2_with fail
            go_ret
            exact ⟨rfl, HEW.out.trans (by (repeat (with_reducible (first | assumption | exact Ext.refl _ | refine Ext.alloc ?_ _ | refine Ext.drewN ?_ _ | refine Ext.drew ?_))))⟩
        · have HLB := Lib.hid hlb
          clear hlb
          go_enter Try.func5, Try.ntmps5
          go_upto_region 1 with fail
          generalize (w.alloc (.cells (sv N.all).toArray 37)).alloc (.cells #[.int .i64 o, .int .i64 sa, .string ⟨tn.toArray⟩] 24) = W0 at hR HEW t0 t1 t2 hz1 hz2 HPt ⊢
          generalize w.heap.size + 1 = T at t0 t1 t2 hz2 ⊢
          generalize w.heap.size = B at hR hz1 ⊢
          have hTy0 : ∀ W, Ext W0 W → W.cell? ⟨T, 0, none⟩ = some (.int .i64 o) := fun W hW => (hW.cells _ _ hz2).trans t0
          have hTy1 : ∀ W, Ext W0 W → W.cell? ⟨T, 1, none⟩ = some (.int .i64 sa) := fun W hW => (hW.cells _ _ hz2).trans t1
          have hTy2 : ∀ W, Ext W0 W → W.cell? ⟨T, 2, none⟩ = some (.string ⟨tn.toArray⟩) := fun W hW => (hW.cells _ _ hz2).trans t2
          clear t0 t1 t2
          go_upto_region 4 with (first
            | (go_at_call 6; (with_reducible refine (awake_c _).mono ?_); rintro e w1 ⟨rfl, hX⟩)
            | (go_at_call 7; (with_reducible refine (great_c l ao cap _ _ (HPt.out.ext (by (repeat (with_reducible (first | assumption | exact Ext.refl _ | refine Ext.alloc ?_ _ | refine Ext.drewN ?_ _ | refine Ext.drew ?_))))) HG.out).mono ?_); rintro e w2 ⟨rfl, hE2⟩; have hX := Ext.trans (show Ext W0 _ from (by (repeat (with_reducible (first | assumption | exact Ext.refl _ | refine Ext.alloc ?_ _ | refine Ext.drewN ?_ _ | refine Ext.drew ?_))))) hE2; clear hE2)
            | (refine wpList_load_midg (by rfl) 37 _ rfl B 0 rfl (sv N.all) _ (rangeAt_ext hR hz1 (show Ext W0 _ from (by (repeat (with_reducible (first | assumption | exact Ext.refl _ | refine Ext.alloc ?_ _ | refine Ext.drewN ?_ _ | refine Ext.drew ?_)))))) Try.underlying37 rfl hI ?_)
            | (go_at_call 18; (with_reducible refine (long_c N HN.out _ _ HLN.out).mono ?_); rintro e w3 ⟨rfl, hE3⟩; have hX := Ext.trans (show Ext W0 _ from (by (repeat (with_reducible (first | assumption | exact Ext.refl _ | refine Ext.alloc ?_ _ | refine Ext.drewN ?_ _ | refine Ext.drew ?_))))) hE3; have ty2 := hTy2 _ hX; clear hE3)
            | (go_at_call 14; (with_reducible refine (loss_l l ao cap _ HLB.out _ (HPt.out.ext (by (repeat (with_reducible (first | assumption | exact Ext.refl _ | refine Ext.alloc ?_ _ | refine Ext.drewN ?_ _ | refine Ext.drew ?_))))) Hl.out).mono ?_); rintro e w4 ⟨rfl, hE4⟩; have hX := Ext.trans (show Ext W0 _ from (by (repeat (with_reducible (first | assumption | exact Ext.refl _ | refine Ext.alloc ?_ _ | refine Ext.drewN ?_ _ | refine Ext.drew ?_))))) hE4; have ty0 := hTy0 _ hX; have ty1 := hTy1 _ hX; have ty2 := hTy2 _ hX; clear hE4)
            | fail
            | go_in)
          go_wp2_with fail
          go_ret
          exact ⟨rfl, HEW.out.trans (by (repeat (with_reducible (first | assumption | exact Ext.refl _ | refine Ext.alloc ?_ _ | refine Ext.drewN ?_ _ | refine Ext.drew ?_))))⟩
      · have d1 : (100 : Int) < (tn.length : Int) := by omega
        clear htn
        go_enter Try.func5, Try.ntmps5
        go_upto_region 1 with fail
        generalize (w.alloc (.cells (sv N.all).toArray 37)).alloc (.cells #[.int .i64 o, .int .i64 sa, .string ⟨tn.toArray⟩] 24) = W0 at hR HEW t0 t1 t2 hz1 hz2 HPt ⊢
        generalize w.heap.size + 1 = T at t0 t1 t2 hz2 ⊢
        generalize w.heap.size = B at hR hz1 ⊢
        have hTy0 : ∀ W, Ext W0 W → W.cell? ⟨T, 0, none⟩ = some (.int .i64 o) := fun W hW => (hW.cells _ _ hz2).trans t0
        have hTy1 : ∀ W, Ext W0 W → W.cell? ⟨T, 1, none⟩ = some (.int .i64 sa) := fun W hW => (hW.cells _ _ hz2).trans t1
        have hTy2 : ∀ W, Ext W0 W → W.cell? ⟨T, 2, none⟩ = some (.string ⟨tn.toArray⟩) := fun W hW => (hW.cells _ _ hz2).trans t2
        clear t0 t1 t2
        go_upto_region 4 with (first
          | (go_at_call 6; (with_reducible refine (awake_c _).mono ?_); rintro e w1 ⟨rfl, hX⟩)
          | (go_at_call 7; (with_reducible refine (great_c l ao cap _ _ (HPt.out.ext (by (repeat (with_reducible (first | assumption | exact Ext.refl _ | refine Ext.alloc ?_ _ | refine Ext.drewN ?_ _ | refine Ext.drew ?_))))) HG.out).mono ?_); rintro e w2 ⟨rfl, hE2⟩; have hX := Ext.trans (show Ext W0 _ from (by (repeat (with_reducible (first | assumption | exact Ext.refl _ | refine Ext.alloc ?_ _ | refine Ext.drewN ?_ _ | refine Ext.drew ?_))))) hE2; clear hE2)
          | (refine wpList_load_midg (by rfl) 37 _ rfl B 0 rfl (sv N.all) _ (rangeAt_ext hR hz1 (show Ext W0 _ from (by (repeat (with_reducible (first | assumption | exact Ext.refl _ | refine Ext.alloc ?_ _ | refine Ext.drewN ?_ _ | refine Ext.drew ?_)))))) Try.underlying37 rfl hI ?_)
          | (go_at_call 18; (with_reducible refine (long_c N HN.out _ _ HLN.out).mono ?_); rintro e w3 ⟨rfl, hE3⟩; have hX := Ext.trans (show Ext W0 _ from (by (repeat (with_reducible (first | assumption | exact Ext.refl _ | refine Ext.alloc ?_ _ | refine Ext.drewN ?_ _ | refine Ext.drew ?_))))) hE3; have ty2 := hTy2 _ hX; clear hE3)
          | (go_at_call 14; (with_reducible refine (loss_l l ao cap _ HLB.out _ (HPt.out.ext (by (repeat (with_reducible (first | assumption | exact Ext.refl _ | refine Ext.alloc ?_ _ | refine Ext.drewN ?_ _ | refine Ext.drew ?_))))) Hl.out).mono ?_); rintro e w4 ⟨rfl, hE4⟩; have hX := Ext.trans (show Ext W0 _ from (by (repeat (with_reducible (first | assumption | exact Ext.refl _ | refine Ext.alloc ?_ _ | refine Ext.drewN ?_ _ | refine Ext.drew ?_))))) hE4; have ty0 := hTy0 _ hX; have ty1 := hTy1 _ hX; have ty2 := hTy2 _ hX; clear hE4)
          | fail
          | go_in)
        go_wp2_with fail
        go_ret
        exact ⟨rfl, HEW.out.trans (by (repeat (with_reducible (first | assumption | exact Ext.refl _ | refine Ext.alloc ?_ _ | refine Ext.drewN ?_ _ | refine Ext.drew ?_))))⟩
end Go.Proofs.Yticckkadmhklmaa
