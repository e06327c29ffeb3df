/- Locales: the walk of the reference's Valid. -/
import Derived.Test.YtnhdmnhfllecgaaGreatDoorQ18
import Derived.Test.YtnhdmnhfllecgaaGreatDoorQ20
import Derived.Test.YtnhdmnhfllecgaaGreatDoorQ22
namespace Go.Proofs.YtnhdmnhfllecgaaGreatDoor
set_option linter.unusedVariables false
set_option linter.unusedSimpArgs false
open Go.RowKit

theorem rcom_e (s : List UInt8) (c : Nat) (w : World) (hs : s.length ≤ 7000) (h : (cmpT s).2.2 = c) : Calls Tryz.prog 35 #[.string ⟨s.toArray⟩] w fun e w' => ∃ (ao : Option Addr) (n cap : Nat) (a b : Int), e = .returned (.tuple #[.slice ao n cap, .agg #[.int .i64 a, .int .i64 b], .int .i64 (c : Int)]) ∧ Ext w w' := by
  rw [← h]
  exact (rcompile_c s w (by omega)).mono fun _ _ ⟨ao, cap, h1, h2, h3⟩ => ⟨ao, _, cap, _, _, h1, h3⟩
theorem rformq_c (s : List UInt8) (b : Bool) (w : World) (hs : s.length ≤ 9223372036854775806) (hb : formB s = b) : Calls Tryz.prog 40 #[.string ⟨s.toArray⟩] w fun e w' => e = .returned (.bool b) ∧ ∃ n, w.drewN n = w' :=
  (rform_c s b w hs hb).mono fun _ _ ⟨h1, h2⟩ => ⟨h1, 0, by rw [World.drewN_zero]; exact h2⟩
theorem rvnames_l (N : Nms) (b : Bool) (hN : N.ok) (w : World) (hl : ∀ s ∈ N.all, s.length ≤ 2000000) (hv : nmOk N = b) : Calls Tryz.prog 37 #[.agg (sv N.all).toArray] w fun e w' => e = .returned (.bool b) ∧ Ext w w' := by
  rw [← hv]; exact rvalidnames_c N _ hN w hl rfl
set_option maxRecDepth 100000 in
set_option maxHeartbeats 2000000 in
theorem rvalid_c (L : Loc) (b : Bool) (w : World) (h : LcV L w) (hs : shL L) (hNl : ∀ s ∈ L.N.all, s.length ≤ 2000000) (hb : validLB L = b) :
    Calls Tryz.prog 10 #[.agg L.vals.toArray] w fun e w' => e = .returned (.bool b) ∧ Ext w w' := by
  have hN := h.1
  have hI := names_size hN
  have hE0 : Ext w (w.alloc (.cells L.vals.toArray 30)) := (Ext.refl w).alloc _
  have hB := LcB.new L w 30
  have hV := h.ext hE0
  obtain ⟨g0, g1, g2, g3, g4⟩ := hB.cells hN
  have HV := Lib.hid hV
  have HBk := Lib.hid hB
  have HVp := Lib.hid hV.2.1
  have HVo := Lib.hid hV.2.2.1
  have HVu := Lib.hid hV.2.2.2
  have Hs1 := Lib.hid hs.1
  have Hs2 := Lib.hid hs.2.1
  have HN := Lib.hid hN
  have HE0 := Lib.hid hE0
  have HNl := Lib.hid hNl
  have Hs := Lib.hid hs
  have hl1 := hs.2.2.2.1
  have hl2 := hs.2.2.2.2
  have hl1' : L.nm.length ≤ 9223372036854775806 := by omega
  unfold validLB at hb
  obtain ⟨ce, h1⟩ : ∃ c, (cmpT L.pt).2.2 = c := ⟨_, rfl⟩
  obtain ⟨z, h2⟩ : ∃ c, zNameB L.nm = c := ⟨_, rfl⟩
  obtain ⟨nv, h3⟩ : ∃ c, nmOk L.N = c := ⟨_, rfl⟩
  obtain ⟨r1, h4⟩ : ∃ c, ruledB L.P = c := ⟨_, rfl⟩
  obtain ⟨r2, h5⟩ : ∃ c, ruledB L.O = c := ⟨_, rfl⟩
  obtain ⟨a1, h6⟩ : ∃ c, (L.P.all fun p => wordB p.c) = c := ⟨_, rfl⟩
  obtain ⟨a2, h8⟩ : ∃ c, (L.O.all fun p => suffB p.c) = c := ⟨_, rfl⟩
  obtain ⟨un, h7⟩ : ∃ c, unB L.P L.U = c := ⟨_, rfl⟩
  unfold rulB at hb
  rw [h1, h2, h3, h4, h5, h7, h6, h8] at hb
  have H1 := Lib.hid h1
  have H2 := Lib.hid h2
  have H3 := Lib.hid h3
  have H4 := Lib.hid h4
  have H5 := Lib.hid h5
  have H6 := Lib.hid h6
  have H7 := Lib.hid h7
  have H8 := Lib.hid h8
  have hp1 := hV.2.1.1
  have hp2 := hV.2.1.2.1
  have ho1 := hV.2.2.1.1
  have ho2 := hV.2.2.1.2.1
  unfold maxLen at hp2 ho2
  clear h1 h2 h3 h4 h5 h6 h7 h8 hs hNl h hE0 hB hV
  cases z
  · have hF : Hid (b = false) := by rw [Hid, ← hb]; simp
    clear hb
    go_enter Tryz.func10, Tryz.ntmps10
    go_upto_region 1 with fail
    generalize w.alloc (.cells L.vals.toArray 30) = W0 at *
    generalize w.heap.size = B at *
    go_wp2_with (first
      | (go_at_call 35; (with_reducible refine (rcom_e L.pt _ _ hl2 H1.out).mono ?_); rintro e w1 ⟨ao1, n1, cap1, p1, p2, rfl, hE1⟩; have hX := hE1; have f0 := (hE1.cells B 0 HBk.out.1).trans g0; have f1 := (hE1.cells B 41 HBk.out.1).trans g1; have f2 := (hE1.cells B 42 HBk.out.1).trans g2; have hzB := hE1.lt HBk.out.1; have hXA : Ext W0 (w1.alloc (.cells #[.int .i64 p1, .int .i64 p2] 39)) := hE1.alloc _; have hRN := (HBk.out.ext hXA).names HN.out; clear hE1)
      | (first | (go_at_call 36; (with_reducible refine (rzname_c L.nm _ _ hl1' H2.out).mono ?_); rintro e w2 ⟨rfl, rfl⟩) | (first
                                                                                                                              | (go_at_call 37; (with_reducible refine (rvnames_l L.N _ HN.out _ HNl.out H3.out).mono ?_); rintro e w3 ⟨rfl, hE3⟩; have hX := Ext.trans (show Ext W0 _ from (by (repeat (with_reducible (first | assumption | exact Ext.refl _ | refine Ext.alloc ?_ _ | refine Ext.drewN ?_ _ | refine Ext.drew ?_))))) hE3; have f1b := ((show Ext W0 w3 from (by (repeat (with_reducible (first | assumption | exact Ext.refl _ | refine Ext.alloc ?_ _ | refine Ext.drewN ?_ _ | refine Ext.drew ?_))))).cells B 41 HBk.out.1).trans g1; have f2b := ((show Ext W0 w3 from (by (repeat (with_reducible (first | assumption | exact Ext.refl _ | refine Ext.alloc ?_ _ | refine Ext.drewN ?_ _ | refine Ext.drew ?_))))).cells B 42 HBk.out.1).trans g2; clear hE3)
                                                                                                                              | (refine load_midg (by rfl) 26 _ rfl B 1 rfl (sv L.N.all) _ hRN Tryz.underlying26 rfl hI ?_)) | (go_at_call 38; (with_reducible refine (ruled_c L.P L.pa L.pc _ _ (HVp.out.ext (by (repeat (with_reducible (first | assumption | exact Ext.refl _ | refine Ext.alloc ?_ _ | refine Ext.drewN ?_ _ | refine Ext.drew ?_))))) Hs1.out H4.out).mono ?_); rintro e w4 ⟨rfl, hE4⟩; have hX := Ext.trans (show Ext W0 _ from (by (repeat (with_reducible (first | assumption | exact Ext.refl _ | refine Ext.alloc ?_ _ | refine Ext.drewN ?_ _ | refine Ext.drew ?_))))) hE4; have f2c := ((show Ext W0 w4 from (by (repeat (with_reducible (first | assumption | exact Ext.refl _ | refine Ext.alloc ?_ _ | refine Ext.drewN ?_ _ | refine Ext.drew ?_))))).cells B 42 HBk.out.1).trans g2; have f1c := ((show Ext W0 w4 from (by (repeat (with_reducible (first | assumption | exact Ext.refl _ | refine Ext.alloc ?_ _ | refine Ext.drewN ?_ _ | refine Ext.drew ?_))))).cells B 41 HBk.out.1).trans g1; clear hE4) | (go_at_call 38; (with_reducible refine (ruled_c L.O L.oa L.oc _ _ (HVo.out.ext (by (repeat (with_reducible (first | assumption | exact Ext.refl _ | refine Ext.alloc ?_ _ | refine Ext.drewN ?_ _ | refine Ext.drew ?_))))) Hs2.out H5.out).mono ?_); rintro e w5 ⟨rfl, hE5⟩; have hX := Ext.trans (show Ext W0 _ from (by (repeat (with_reducible (first | assumption | exact Ext.refl _ | refine Ext.alloc ?_ _ | refine Ext.drewN ?_ _ | refine Ext.drew ?_))))) hE5; have f1d := ((show Ext W0 w5 from (by (repeat (with_reducible (first | assumption | exact Ext.refl _ | refine Ext.alloc ?_ _ | refine Ext.drewN ?_ _ | refine Ext.drew ?_))))).cells B 41 HBk.out.1).trans g1; clear hE5)))
    go_ret
    exact ⟨by rw [hF.out]; rfl, HE0.out.trans (by (repeat (with_reducible (first | assumption | exact Ext.refl _ | refine Ext.alloc ?_ _ | refine Ext.drewN ?_ _ | refine Ext.drew ?_))))⟩
  · cases nv
    · have hF : Hid (b = false) := by rw [Hid, ← hb]; simp
      clear hb
      go_enter Tryz.func10, Tryz.ntmps10
      go_upto_region 1 with fail
      generalize w.alloc (.cells L.vals.toArray 30) = W0 at *
      generalize w.heap.size = B at *
      go_wp2_with (first
        | (go_at_call 35; (with_reducible refine (rcom_e L.pt _ _ hl2 H1.out).mono ?_); rintro e w1 ⟨ao1, n1, cap1, p1, p2, rfl, hE1⟩; have hX := hE1; have f0 := (hE1.cells B 0 HBk.out.1).trans g0; have f1 := (hE1.cells B 41 HBk.out.1).trans g1; have f2 := (hE1.cells B 42 HBk.out.1).trans g2; have hzB := hE1.lt HBk.out.1; have hXA : Ext W0 (w1.alloc (.cells #[.int .i64 p1, .int .i64 p2] 39)) := hE1.alloc _; have hRN := (HBk.out.ext hXA).names HN.out; clear hE1)
        | (first | (go_at_call 36; (with_reducible refine (rzname_c L.nm _ _ hl1' H2.out).mono ?_); rintro e w2 ⟨rfl, rfl⟩) | (first
                                                                                                                                | (go_at_call 37; (with_reducible refine (rvnames_l L.N _ HN.out _ HNl.out H3.out).mono ?_); rintro e w3 ⟨rfl, hE3⟩; have hX := Ext.trans (show Ext W0 _ from (by (repeat (with_reducible (first | assumption | exact Ext.refl _ | refine Ext.alloc ?_ _ | refine Ext.drewN ?_ _ | refine Ext.drew ?_))))) hE3; have f1b := ((show Ext W0 w3 from (by (repeat (with_reducible (first | assumption | exact Ext.refl _ | refine Ext.alloc ?_ _ | refine Ext.drewN ?_ _ | refine Ext.drew ?_))))).cells B 41 HBk.out.1).trans g1; have f2b := ((show Ext W0 w3 from (by (repeat (with_reducible (first | assumption | exact Ext.refl _ | refine Ext.alloc ?_ _ | refine Ext.drewN ?_ _ | refine Ext.drew ?_))))).cells B 42 HBk.out.1).trans g2; clear hE3)
                                                                                                                                | (refine load_midg (by rfl) 26 _ rfl B 1 rfl (sv L.N.all) _ hRN Tryz.underlying26 rfl hI ?_)) | (go_at_call 38; (with_reducible refine (ruled_c L.P L.pa L.pc _ _ (HVp.out.ext (by (repeat (with_reducible (first | assumption | exact Ext.refl _ | refine Ext.alloc ?_ _ | refine Ext.drewN ?_ _ | refine Ext.drew ?_))))) Hs1.out H4.out).mono ?_); rintro e w4 ⟨rfl, hE4⟩; have hX := Ext.trans (show Ext W0 _ from (by (repeat (with_reducible (first | assumption | exact Ext.refl _ | refine Ext.alloc ?_ _ | refine Ext.drewN ?_ _ | refine Ext.drew ?_))))) hE4; have f2c := ((show Ext W0 w4 from (by (repeat (with_reducible (first | assumption | exact Ext.refl _ | refine Ext.alloc ?_ _ | refine Ext.drewN ?_ _ | refine Ext.drew ?_))))).cells B 42 HBk.out.1).trans g2; have f1c := ((show Ext W0 w4 from (by (repeat (with_reducible (first | assumption | exact Ext.refl _ | refine Ext.alloc ?_ _ | refine Ext.drewN ?_ _ | refine Ext.drew ?_))))).cells B 41 HBk.out.1).trans g1; clear hE4) | (go_at_call 38; (with_reducible refine (ruled_c L.O L.oa L.oc _ _ (HVo.out.ext (by (repeat (with_reducible (first | assumption | exact Ext.refl _ | refine Ext.alloc ?_ _ | refine Ext.drewN ?_ _ | refine Ext.drew ?_))))) Hs2.out H5.out).mono ?_); rintro e w5 ⟨rfl, hE5⟩; have hX := Ext.trans (show Ext W0 _ from (by (repeat (with_reducible (first | assumption | exact Ext.refl _ | refine Ext.alloc ?_ _ | refine Ext.drewN ?_ _ | refine Ext.drew ?_))))) hE5; have f1d := ((show Ext W0 w5 from (by (repeat (with_reducible (first | assumption | exact Ext.refl _ | refine Ext.alloc ?_ _ | refine Ext.drewN ?_ _ | refine Ext.drew ?_))))).cells B 41 HBk.out.1).trans g1; clear hE5)))
      go_ret
      exact ⟨by rw [hF.out]; rfl, HE0.out.trans (by (repeat (with_reducible (first | assumption | exact Ext.refl _ | refine Ext.alloc ?_ _ | refine Ext.drewN ?_ _ | refine Ext.drew ?_))))⟩
    · by_cases hce : ce = 0
      · subst hce
        cases r1
        · have hF : Hid (b = false) := by rw [Hid, ← hb]; simp
          clear hb
          go_enter Tryz.func10, Tryz.ntmps10
          go_upto_region 1 with fail
          generalize w.alloc (.cells L.vals.toArray 30) = W0 at *
          generalize w.heap.size = B at *
          go_wp2_with (first
            | (go_at_call 35; (with_reducible refine (rcom_e L.pt _ _ hl2 H1.out).mono ?_); rintro e w1 ⟨ao1, n1, cap1, p1, p2, rfl, hE1⟩; have hX := hE1; have f0 := (hE1.cells B 0 HBk.out.1).trans g0; have f1 := (hE1.cells B 41 HBk.out.1).trans g1; have f2 := (hE1.cells B 42 HBk.out.1).trans g2; have hzB := hE1.lt HBk.out.1; have hXA : Ext W0 (w1.alloc (.cells #[.int .i64 p1, .int .i64 p2] 39)) := hE1.alloc _; have hRN := (HBk.out.ext hXA).names HN.out; clear hE1)
            | (first | (go_at_call 36; (with_reducible refine (rzname_c L.nm _ _ hl1' H2.out).mono ?_); rintro e w2 ⟨rfl, rfl⟩) | (first
                                                                                                                                    | (go_at_call 37; (with_reducible refine (rvnames_l L.N _ HN.out _ HNl.out H3.out).mono ?_); rintro e w3 ⟨rfl, hE3⟩; have hX := Ext.trans (show Ext W0 _ from (by (repeat (with_reducible (first | assumption | exact Ext.refl _ | refine Ext.alloc ?_ _ | refine Ext.drewN ?_ _ | refine Ext.drew ?_))))) hE3; have f1b := ((show Ext W0 w3 from (by (repeat (with_reducible (first | assumption | exact Ext.refl _ | refine Ext.alloc ?_ _ | refine Ext.drewN ?_ _ | refine Ext.drew ?_))))).cells B 41 HBk.out.1).trans g1; have f2b := ((show Ext W0 w3 from (by (repeat (with_reducible (first | assumption | exact Ext.refl _ | refine Ext.alloc ?_ _ | refine Ext.drewN ?_ _ | refine Ext.drew ?_))))).cells B 42 HBk.out.1).trans g2; clear hE3)
                                                                                                                                    | (refine load_midg (by rfl) 26 _ rfl B 1 rfl (sv L.N.all) _ hRN Tryz.underlying26 rfl hI ?_)) | (go_at_call 38; (with_reducible refine (ruled_c L.P L.pa L.pc _ _ (HVp.out.ext (by (repeat (with_reducible (first | assumption | exact Ext.refl _ | refine Ext.alloc ?_ _ | refine Ext.drewN ?_ _ | refine Ext.drew ?_))))) Hs1.out H4.out).mono ?_); rintro e w4 ⟨rfl, hE4⟩; have hX := Ext.trans (show Ext W0 _ from (by (repeat (with_reducible (first | assumption | exact Ext.refl _ | refine Ext.alloc ?_ _ | refine Ext.drewN ?_ _ | refine Ext.drew ?_))))) hE4; have f2c := ((show Ext W0 w4 from (by (repeat (with_reducible (first | assumption | exact Ext.refl _ | refine Ext.alloc ?_ _ | refine Ext.drewN ?_ _ | refine Ext.drew ?_))))).cells B 42 HBk.out.1).trans g2; have f1c := ((show Ext W0 w4 from (by (repeat (with_reducible (first | assumption | exact Ext.refl _ | refine Ext.alloc ?_ _ | refine Ext.drewN ?_ _ | refine Ext.drew ?_))))).cells B 41 HBk.out.1).trans g1; clear hE4) | (go_at_call 38; (with_reducible refine (ruled_c L.O L.oa L.oc _ _ (HVo.out.ext (by (repeat (with_reducible (first | assumption | exact Ext.refl _ | refine Ext.alloc ?_ _ | refine Ext.drewN ?_ _ | refine Ext.drew ?_))))) Hs2.out H5.out).mono ?_); rintro e w5 ⟨rfl, hE5⟩; have hX := Ext.trans (show Ext W0 _ from (by (repeat (with_reducible (first | assumption | exact Ext.refl _ | refine Ext.alloc ?_ _ | refine Ext.drewN ?_ _ | refine Ext.drew ?_))))) hE5; have f1d := ((show Ext W0 w5 from (by (repeat (with_reducible (first | assumption | exact Ext.refl _ | refine Ext.alloc ?_ _ | refine Ext.drewN ?_ _ | refine Ext.drew ?_))))).cells B 41 HBk.out.1).trans g1; clear hE5)))
          go_ret
          exact ⟨by rw [hF.out]; rfl, HE0.out.trans (by (repeat (with_reducible (first | assumption | exact Ext.refl _ | refine Ext.alloc ?_ _ | refine Ext.drewN ?_ _ | refine Ext.drew ?_))))⟩
        · cases r2
          · have hF : Hid (b = false) := by rw [Hid, ← hb]; simp
            clear hb
            go_enter Tryz.func10, Tryz.ntmps10
            go_upto_region 1 with fail
            generalize w.alloc (.cells L.vals.toArray 30) = W0 at *
            generalize w.heap.size = B at *
            go_wp2_with (first
              | (go_at_call 35; (with_reducible refine (rcom_e L.pt _ _ hl2 H1.out).mono ?_); rintro e w1 ⟨ao1, n1, cap1, p1, p2, rfl, hE1⟩; have hX := hE1; have f0 := (hE1.cells B 0 HBk.out.1).trans g0; have f1 := (hE1.cells B 41 HBk.out.1).trans g1; have f2 := (hE1.cells B 42 HBk.out.1).trans g2; have hzB := hE1.lt HBk.out.1; have hXA : Ext W0 (w1.alloc (.cells #[.int .i64 p1, .int .i64 p2] 39)) := hE1.alloc _; have hRN := (HBk.out.ext hXA).names HN.out; clear hE1)
              | (first | (go_at_call 36; (with_reducible refine (rzname_c L.nm _ _ hl1' H2.out).mono ?_); rintro e w2 ⟨rfl, rfl⟩) | (first
                                                                                                                                      | (go_at_call 37; (with_reducible refine (rvnames_l L.N _ HN.out _ HNl.out H3.out).mono ?_); rintro e w3 ⟨rfl, hE3⟩; have hX := Ext.trans (show Ext W0 _ from (by (repeat (with_reducible (first | assumption | exact Ext.refl _ | refine Ext.alloc ?_ _ | refine Ext.drewN ?_ _ | refine Ext.drew ?_))))) hE3; have f1b := ((show Ext W0 w3 from (by (repeat (with_reducible (first | assumption | exact Ext.refl _ | refine Ext.alloc ?_ _ | refine Ext.drewN ?_ _ | refine Ext.drew ?_))))).cells B 41 HBk.out.1).trans g1; have f2b := ((show Ext W0 w3 from (by (repeat (with_reducible (first | assumption | exact Ext.refl _ | refine Ext.alloc ?_ _ | refine Ext.drewN ?_ _ | refine Ext.drew ?_))))).cells B 42 HBk.out.1).trans g2; clear hE3)
                                                                                                                                      | (refine load_midg (by rfl) 26 _ rfl B 1 rfl (sv L.N.all) _ hRN Tryz.underlying26 rfl hI ?_)) | (go_at_call 38; (with_reducible refine (ruled_c L.P L.pa L.pc _ _ (HVp.out.ext (by (repeat (with_reducible (first | assumption | exact Ext.refl _ | refine Ext.alloc ?_ _ | refine Ext.drewN ?_ _ | refine Ext.drew ?_))))) Hs1.out H4.out).mono ?_); rintro e w4 ⟨rfl, hE4⟩; have hX := Ext.trans (show Ext W0 _ from (by (repeat (with_reducible (first | assumption | exact Ext.refl _ | refine Ext.alloc ?_ _ | refine Ext.drewN ?_ _ | refine Ext.drew ?_))))) hE4; have f2c := ((show Ext W0 w4 from (by (repeat (with_reducible (first | assumption | exact Ext.refl _ | refine Ext.alloc ?_ _ | refine Ext.drewN ?_ _ | refine Ext.drew ?_))))).cells B 42 HBk.out.1).trans g2; have f1c := ((show Ext W0 w4 from (by (repeat (with_reducible (first | assumption | exact Ext.refl _ | refine Ext.alloc ?_ _ | refine Ext.drewN ?_ _ | refine Ext.drew ?_))))).cells B 41 HBk.out.1).trans g1; clear hE4) | (go_at_call 38; (with_reducible refine (ruled_c L.O L.oa L.oc _ _ (HVo.out.ext (by (repeat (with_reducible (first | assumption | exact Ext.refl _ | refine Ext.alloc ?_ _ | refine Ext.drewN ?_ _ | refine Ext.drew ?_))))) Hs2.out H5.out).mono ?_); rintro e w5 ⟨rfl, hE5⟩; have hX := Ext.trans (show Ext W0 _ from (by (repeat (with_reducible (first | assumption | exact Ext.refl _ | refine Ext.alloc ?_ _ | refine Ext.drewN ?_ _ | refine Ext.drew ?_))))) hE5; have f1d := ((show Ext W0 w5 from (by (repeat (with_reducible (first | assumption | exact Ext.refl _ | refine Ext.alloc ?_ _ | refine Ext.drewN ?_ _ | refine Ext.drew ?_))))).cells B 41 HBk.out.1).trans g1; clear hE5)))
            go_ret
            exact ⟨by rw [hF.out]; rfl, HE0.out.trans (by (repeat (with_reducible (first | assumption | exact Ext.refl _ | refine Ext.alloc ?_ _ | refine Ext.drewN ?_ _ | refine Ext.drew ?_))))⟩
          · have HB : Hid ((a1 && a2 && dsB L.P && un) = b) := by rw [Hid, ← hb]; simp
            clear hb
            go_enter Tryz.func10, Tryz.ntmps10
            go_upto_region 1 with fail
            generalize w.alloc (.cells L.vals.toArray 30) = W0 at *
            generalize w.heap.size = B at *
            go_wp2_with (first
              | (go_at_call 35; (with_reducible refine (rcom_e L.pt _ _ hl2 H1.out).mono ?_); rintro e w1 ⟨ao1, n1, cap1, p1, p2, rfl, hE1⟩; have hX := hE1; have f0 := (hE1.cells B 0 HBk.out.1).trans g0; have f1 := (hE1.cells B 41 HBk.out.1).trans g1; have f2 := (hE1.cells B 42 HBk.out.1).trans g2; have hzB := hE1.lt HBk.out.1; have hXA : Ext W0 (w1.alloc (.cells #[.int .i64 p1, .int .i64 p2] 39)) := hE1.alloc _; have hRN := (HBk.out.ext hXA).names HN.out; clear hE1)
              | (first | (go_at_call 36; (with_reducible refine (rzname_c L.nm true _ hl1' H2.out).mono ?_); rintro e w2 ⟨rfl, rfl⟩) | (first
                                                                                                                                         | (go_at_call 37; (with_reducible refine (rvnames_l L.N true HN.out _ HNl.out H3.out).mono ?_); rintro e w3 ⟨rfl, hE3⟩; have hX := Ext.trans (show Ext W0 _ from (by (repeat (with_reducible (first | assumption | exact Ext.refl _ | refine Ext.alloc ?_ _ | refine Ext.drewN ?_ _ | refine Ext.drew ?_))))) hE3; have f1b := ((show Ext W0 w3 from (by (repeat (with_reducible (first | assumption | exact Ext.refl _ | refine Ext.alloc ?_ _ | refine Ext.drewN ?_ _ | refine Ext.drew ?_))))).cells B 41 HBk.out.1).trans g1; have f2b := ((show Ext W0 w3 from (by (repeat (with_reducible (first | assumption | exact Ext.refl _ | refine Ext.alloc ?_ _ | refine Ext.drewN ?_ _ | refine Ext.drew ?_))))).cells B 42 HBk.out.1).trans g2; clear hE3)
                                                                                                                                         | (refine load_midg (by rfl) 26 _ rfl B 1 rfl (sv L.N.all) _ hRN Tryz.underlying26 rfl hI ?_)) | (go_at_call 38; (with_reducible refine (ruled_c L.P L.pa L.pc true _ (HVp.out.ext (by (repeat (with_reducible (first | assumption | exact Ext.refl _ | refine Ext.alloc ?_ _ | refine Ext.drewN ?_ _ | refine Ext.drew ?_))))) Hs1.out H4.out).mono ?_); rintro e w4 ⟨rfl, hE4⟩; have hX := Ext.trans (show Ext W0 _ from (by (repeat (with_reducible (first | assumption | exact Ext.refl _ | refine Ext.alloc ?_ _ | refine Ext.drewN ?_ _ | refine Ext.drew ?_))))) hE4; have f2c := ((show Ext W0 w4 from (by (repeat (with_reducible (first | assumption | exact Ext.refl _ | refine Ext.alloc ?_ _ | refine Ext.drewN ?_ _ | refine Ext.drew ?_))))).cells B 42 HBk.out.1).trans g2; have f1c := ((show Ext W0 w4 from (by (repeat (with_reducible (first | assumption | exact Ext.refl _ | refine Ext.alloc ?_ _ | refine Ext.drewN ?_ _ | refine Ext.drew ?_))))).cells B 41 HBk.out.1).trans g1; clear hE4) | (go_at_call 38; (with_reducible refine (ruled_c L.O L.oa L.oc true _ (HVo.out.ext (by (repeat (with_reducible (first | assumption | exact Ext.refl _ | refine Ext.alloc ?_ _ | refine Ext.drewN ?_ _ | refine Ext.drew ?_))))) Hs2.out H5.out).mono ?_); rintro e w5 ⟨rfl, hE5⟩; have hX := Ext.trans (show Ext W0 _ from (by (repeat (with_reducible (first | assumption | exact Ext.refl _ | refine Ext.alloc ?_ _ | refine Ext.drewN ?_ _ | refine Ext.drew ?_))))) hE5; have f1d := ((show Ext W0 w5 from (by (repeat (with_reducible (first | assumption | exact Ext.refl _ | refine Ext.alloc ?_ _ | refine Ext.drewN ?_ _ | refine Ext.drew ?_))))).cells B 41 HBk.out.1).trans g1; clear hE5)))
            go_loopw [6] (fun i wr => ∃ j : Nat, j ≤ L.P.length ∧ i = .int .i64 (j : Int) ∧ Hid (∀ i (hi : i < L.P.length), i < j → wordB (L.P[i]).c = true ∧ dsAt L.P i) ∧ Ext W0 wr) (fun i _ => L.P.length - (intOf i).toNat)
            case atStart => exact ⟨0, Nat.zero_le _, rfl, fun i _ hi => absurd hi (Nat.not_lt_zero i), (by (repeat (with_reducible (first | assumption | exact Ext.refl _ | refine Ext.alloc ?_ _ | refine Ext.drewN ?_ _ | refine Ext.drew ?_))))⟩
            case round =>
              obtain ⟨j, hj, rfl, Hall, hE⟩ := hrel
              have e1 := (hE.cells B 41 HBk.out.1).trans g1
              have hzr := hE.lt HBk.out.1
              clear f0 f1 f2 f1b f2b f1c f2c f1d
              by_cases hlt : j < L.P.length
              · have HW1 : Hid (wordB (L.P[j]).c = false → b = false) := fun q => by rw [← HB.out, ← H6.out, all_plu_no (good := wordB) j hlt q]; rfl
                have HN1 : Hid (∀ k (hk : k < j), (L.P[k]'(by omega)).c = (L.P[j]).c → b = false) := fun k hk e => by rw [← HB.out, dsB_no j hlt (fun q => q hlt k hk e)]; simp
                have HY1 : Hid (wordB (L.P[j]).c = true → (∀ k (hk : k < j), (L.P[k]'(by omega)).c ≠ (L.P[j]).c) → ∀ i (hi : i < L.P.length), i < j + 1 → wordB (L.P[i]).c = true ∧ dsAt L.P i) := fun h1 h2 i hi hij => by
                  by_cases e : i = j
                  · subst e; exact ⟨h1, fun _ k hk => h2 k hk⟩
                  · exact Hall.out i hi (by omega)
                have hsh := (Hs1.out L.P[j] (List.getElem_mem _)).1
                obtain ⟨hv1, hv2, hv3⟩ := HVp.out
                have Hv3 := Lib.hid hv3
                have HG1 : Hid (W0.cell? ⟨B, 41, none⟩ = some (.slice L.pa L.P.length L.pc)) := g1
                clear hv3 HVp g1 g2 g3 g4 g0
                generalize L.pa = pa at *
                obtain ⟨R, off, rfl, hR0, hc⟩ := Hv3.out (by intro e; rw [e] at hlt; simp at hlt)
                have Hc := Lib.hid hc
                obtain ⟨c0, -⟩ := hc j hlt
                replace c0 := (hE.cells R _ hR0).trans c0
                have hRr := hE.lt hR0
                obtain ⟨pc, hp⟩ : ∃ p, p = (L.P[j]).c := ⟨_, rfl⟩
                rw [← hp] at c0 HW1 HN1 HY1 hsh
                clear hp hc Hv3
                have hpl : pc.length ≤ 9223372036854775806 := by omega
                rcases Bool.eq_false_or_eq_true (wordB pc) with hwb | hwb
                · have HWb := Lib.hid (show onlyB smC 10 pc = true from hwb)
                  have HY2 := Lib.hid (HY1.out hwb)
                  obtain ⟨wo, rfl⟩ : ∃ wo : World, wo = wr := ⟨_, rfl⟩
                  clear hwb
                  go_wp2_with (first
                    | (go_at_call 39; (with_reducible refine (rlet_sm pc true _ hpl HWb.out).mono ?_); rintro e w6 ⟨rfl, rfl⟩))
                  go_loopw [7] (fun i wk => ∃ q : Nat, q ≤ j ∧ i = .int .i64 (q : Int) ∧ Hid (∀ k (hk : k < j), k < q → (L.P[k]'(by omega)).c ≠ pc) ∧ Ext wo wk) (fun i _ => j - (intOf i).toNat)
                  case atStart => exact ⟨0, Nat.zero_le _, rfl, fun k _ hk => absurd hk (Nat.not_lt_zero k), Ext.refl _⟩
                  case round =>
                    obtain ⟨q, hq, rfl, Hin, hEk⟩ := hrel
                    by_cases hlq : q < j
                    · obtain ⟨k0, -⟩ := Hc.out q (by omega)
                      replace k0 := ((hE.trans hEk).cells R _ hR0).trans k0
                      have e1k := (hEk.cells B 41 hzr).trans e1
                      have c0k := (hEk.cells R _ hRr).trans c0
                      have hqP : q < L.P.length := by omega
                      have HX1 := Lib.hid (HN1.out q hlq)
                      have HX2 : Hid ((L.P[q]'(by omega)).c ≠ pc → ∀ k (hk : k < j), k < q + 1 → (L.P[k]'(by omega)).c ≠ pc) := fun h k hk hkq => by
                        by_cases e : k = q
                        · subst e; exact h
                        · exact Hin.out k hk (by omega)
                      obtain ⟨qc, hqc⟩ : ∃ c, c = (L.P[q]'(by omega)).c := ⟨_, rfl⟩
                      rw [← hqc] at k0 HX1 HX2
                      clear hqc
                      have hRk := hEk.lt hRr
                      have hzk := hEk.lt hzr
                      by_cases heq : qc = pc
                      · have s1 : (qc == pc) = true := by simpa using heq
                        have HF := Lib.hid (HX1.out heq)
                        clear heq
                        go_upto_region 12 with fail
                        go_quiet (fail)
                        go_wp2_with fail
                        go_ret
                        exact ⟨by rw [HF.out]; rfl, HE0.out.trans (hE.trans (hEk.trans (by (repeat (with_reducible (first | assumption | exact Ext.refl _ | refine Ext.alloc ?_ _ | refine Ext.drewN ?_ _ | refine Ext.drew ?_))))))⟩
                      · have s1 : (qc == pc) = false := by simpa using heq
                        have HS := Lib.hid (HX2.out heq)
                        clear heq
                        go_upto_region 12 with fail
                        go_quiet (fail)
                        go_wp2_with fail
                        go_roundw
                        case rel => exact ⟨q + 1, by omega, by go_num, HS, hEk.trans (by (repeat (with_reducible (first | assumption | exact Ext.refl _ | refine Ext.alloc ?_ _ | refine Ext.drewN ?_ _ | refine Ext.drew ?_))))⟩
                        case measure => simp [intOf]; omega
                    · obtain rfl : q = j := by omega
                      have HS := Lib.hid (HY2.out fun k hk => Hin.out k hk hk)
                      go_wp2_with fail
                      go_roundw
                      case rel => exact ⟨q + 1, by omega, by go_num, HS, hE.trans hEk⟩
                      case measure => simp [intOf]; omega
                · have HWb := Lib.hid (show onlyB smC 10 pc = false from hwb)
                  have HF := Lib.hid (HW1.out hwb)
                  clear hwb
                  go_wp2_with (first
                    | (go_at_call 39; (with_reducible refine (rlet_sm pc false _ hpl HWb.out).mono ?_); rintro e w6 ⟨rfl, rfl⟩))
                  go_ret
                  exact ⟨by rw [HF.out]; rfl, HE0.out.trans hE⟩
              · obtain rfl : j = L.P.length := by omega
                have HA1 : Hid (a1 = true) := by rw [Hid, ← H6.out]; exact all_plu fun i hi => (Hall.out i hi hi).1
                have HD1 : Hid (dsB L.P = true) := dsB_yes fun i hi => (Hall.out i hi hi).2
                have HB2 : Hid ((a2 && un) = b) := by rw [Hid, ← HB.out, HA1.out, HD1.out]; simp
                obtain ⟨wo, rfl⟩ : ∃ wo : World, wo = wr := ⟨_, rfl⟩
                have HBz := Lib.hid HBk.out.1
                clear HB HA1 HD1 Hall H6
                go_wp2_with fail
                go_loopw [8] (fun i wk => ∃ q : Nat, q ≤ L.O.length ∧ i = .int .i64 (q : Int) ∧ Hid (∀ i (hi : i < L.O.length), i < q → suffB (L.O[i]).c = true) ∧ Ext W0 wk) (fun i _ => L.O.length - (intOf i).toNat)
                case atStart => exact ⟨0, Nat.zero_le _, rfl, fun i _ hi => absurd hi (Nat.not_lt_zero i), hE⟩
                case round =>
                  obtain ⟨q, hq, rfl, Hall, hEk⟩ := hrel
                  have e2 := (hEk.cells B 42 HBk.out.1).trans g2
                  have hzr := hEk.lt HBk.out.1
                  clear e1
                  by_cases hlq : q < L.O.length
                  · have HW1 : Hid (suffB (L.O[q]).c = false → b = false) := fun h => by rw [← HB2.out, ← H8.out, all_plu_no (good := suffB) q hlq h]; rfl
                    have HY1 : Hid (suffB (L.O[q]).c = true → ∀ i (hi : i < L.O.length), i < q + 1 → suffB (L.O[i]).c = true) := fun h1 i hi hij => by
                      by_cases e : i = q
                      · subst e; exact h1
                      · exact Hall.out i hi (by omega)
                    have hsh := (Hs2.out L.O[q] (List.getElem_mem _)).1
                    obtain ⟨hv1, hv2, hv3⟩ := HVo.out
                    have Hv3 := Lib.hid hv3
                    clear hv3 HVo g1 g2 g3 g4 g0
                    generalize L.oa = oa at *
                    obtain ⟨R, off, rfl, hR0, hc⟩ := Hv3.out (by intro e; rw [e] at hlq; simp at hlq)
                    obtain ⟨c0, -⟩ := hc q hlq
                    replace c0 := (hEk.cells R _ hR0).trans c0
                    have hRr := hEk.lt hR0
                    obtain ⟨pc, hp⟩ : ∃ p, p = (L.O[q]).c := ⟨_, rfl⟩
                    rw [← hp] at c0 HW1 HY1 hsh
                    clear hp hc Hv3
                    have hpl : pc.length ≤ 9223372036854775806 := by omega
                    rcases Bool.eq_false_or_eq_true (suffB pc) with hwb | hwb
                    · have HWb := Lib.hid (show onlyB sfC 8 pc = true from hwb)
                      have HS := Lib.hid (HY1.out hwb)
                      clear hwb
                      go_wp2_with (first
                        | (go_at_call 39; (with_reducible refine (rlet_sf pc true _ hpl HWb.out).mono ?_); rintro e w6 ⟨rfl, rfl⟩))
                      go_roundw
                      case rel => exact ⟨q + 1, by omega, by go_num, HS, hEk⟩
                      case measure => simp [intOf]; omega
                    · have HWb := Lib.hid (show onlyB sfC 8 pc = false from hwb)
                      have HF := Lib.hid (HW1.out hwb)
                      clear hwb
                      go_wp2_with (first
                        | (go_at_call 39; (with_reducible refine (rlet_sf pc false _ hpl HWb.out).mono ?_); rintro e w6 ⟨rfl, rfl⟩))
                      go_ret
                      exact ⟨by rw [HF.out]; rfl, HE0.out.trans hEk⟩
                  · obtain rfl : q = L.O.length := by omega
                    have HA2 : Hid (a2 = true) := by rw [Hid, ← H8.out]; exact all_plu fun i hi => Hall.out i hi hi
                    have HBn : Hid (unB L.P L.U = b) := by rw [Hid, H7.out, ← HB2.out, HA2.out]; simp
                    have hsz := HBk.out.1
                    clear HB2 HA2 Hall H8 H7 hE
                    obtain ⟨wo, rfl⟩ : ∃ wo : World, wo = wr := ⟨_, rfl⟩
                    have e3 := (hEk.cells B 43 hsz).trans g3
                    obtain ⟨_, ⟨_, _, hp3⟩, _, ⟨hu1, hu2, hu3, hu4⟩⟩ := HV.out
                    unfold maxLen at hu2
                    have HP := Lib.hid hp3
                    have HU := Lib.hid hu3
                    have HUf := Lib.hid hu4
                    have Hsu := Lib.hid Hs.out.2.2.1
                    clear hp3 hu3 hu4 HV HVp HVo HVu Hs Hs1 Hs2 H1 H2 H3 H4 H5 HN HNl hN g0 g2 g4 HBk
                    generalize L.P = P at *
                    generalize L.U = U at *
                    generalize L.pa = pa at *
                    generalize L.pc = pc at *
                    generalize L.ua = ua at *
                    generalize L.uc = uc at *
                    by_cases h1 : 1 ≤ U.length
                    · by_cases h2 : U.length ≤ 10
                      · obtain ⟨R, off, rfl, hR0, hc⟩ := HU.out (by rintro rfl; simp at h1)
                        obtain ⟨c0, -⟩ := hc 0 (by omega)
                        obtain ⟨z, hz⟩ : ∃ z, z = U.length - 1 := ⟨_, rfl⟩
                        have hzi : (U.length : Int) - 1 = (z : Int) := by omega
                        have hzl : z < U.length := by omega
                        obtain ⟨cz, -⟩ := hc z hzl
                        have HH : Hid (uHead U ↔ (U[0]'(by omega)).s ≤ 1099511627776 ∧ (U[z]'hzl).s = 1) := by
                          subst hz; exact ⟨fun ⟨_, _, a, b⟩ => ⟨a, b⟩, fun ⟨a, b⟩ => ⟨h1, h2, a, b⟩⟩
                        have HC := Lib.hid hc
                        obtain ⟨s0, hs0⟩ : ∃ s, s = (U[0]'(by omega)).s := ⟨_, rfl⟩
                        obtain ⟨sz, hsz2⟩ : ∃ s, s = (U[z]'hzl).s := ⟨_, rfl⟩
                        rw [← hs0] at c0 HH
                        rw [← hsz2] at cz HH
                        rw [Nat.zero_mul, Nat.add_zero] at c0
                        replace c0 := (hEk.cells R _ hR0).trans c0
                        replace cz := (hEk.cells R _ hR0).trans cz
                        clear hs0 hsz2 hz hc
                        by_cases h3 : s0 ≤ 1099511627776
                        · by_cases h4 : sz = 1
                          · have HHd := Lib.hid (HH.out.2 ⟨h3, h4⟩)
                            have t4 : (sz != 1) = false := by simp [h4]
                            clear h4 HH
                            go_wp2_with fail
                            clear c0 cz t4 hzi hzl h3
                            go_loopw [10] (fun i wr => ∃ j : Nat, j ≤ U.length ∧ i = .int .i64 (j : Int) ∧ Hid (∀ i, i < j → unAt P U i) ∧ Ext W0 wr) (fun i _ => U.length - (intOf i).toNat)
                            case atStart => exact ⟨0, Nat.zero_le _, rfl, fun i hi => absurd hi (Nat.not_lt_zero i), hEk⟩
                            case round =>
                              clear hEk e2 e3 hzr
                              obtain ⟨j, hj, rfl, Hall, hE⟩ := hrel
                              by_cases hlt : j < U.length
                              · have e4 := (hE.cells B 43 hsz).trans g3
                                have e2 := (hE.cells B 41 hsz).trans g1
                                have hszr := hE.lt hsz
                                have hRr := hE.lt hR0
                                obtain ⟨c0, c1⟩ := HC.out j hlt
                                replace c0 := (hE.cells R _ hR0).trans c0
                                replace c1 := (hE.cells R _ hR0).trans c1
                                have hfv := (HUf.out U[j] (List.getElem_mem _)).ext hE
                                have hsf := Hsu.out U[j] (List.getElem_mem _)
                                have HF := Lib.hid (fun q : ¬ unAt P U j => unB_a j hlt q)
                                have HUn : Hid (unAt P U j ↔ (∀ h0 : 0 < j, U[j].s < (U[j - 1]'(by omega)).s) ∧ U[j].f.length = P.length ∧ ∀ k (hk : k < U[j].f.length) (hp : k < P.length), (U[j].f[k]).c = (P[k]).c ∧ formB (U[j].f[k]).r = true) := ⟨fun q => q hlt, fun q _ => q⟩
                                have HY : Hid (unAt P U j → ∀ i, i < j + 1 → unAt P U i) := fun q i hi => by
                                  by_cases e : i = j
                                  · rw [e]; exact q
                                  · exact Hall.out i (by omega)
                                obtain ⟨u, hu⟩ : ∃ u, u = U[j] := ⟨_, rfl⟩
                                rw [← hu] at c0 c1 hfv hsf HUn
                                clear hu
                                obtain ⟨us, uao, ucap, uf⟩ := u
                                simp only at c0 c1 hfv hsf HUn
                                have Hfv := Lib.hid hfv
                                have Hsf := Lib.hid hsf
                                clear hfv hsf
                                by_cases j0 : j = 0
                                · have a4 : decide ((0 : Int) < (j : Int)) = false := by simp; omega
                                  have a5 : decide (0 < j) = false := by simp; omega
                                  have HUn2 : Hid (unAt P U j ↔ uf.length = P.length ∧ ∀ k (hk : k < uf.length) (hp : k < P.length), (uf[k]).c = (P[k]).c ∧ formB (uf[k]).r = true) := ⟨fun q => (HUn.out.1 q).2, fun q => HUn.out.2 ⟨fun h0 => by omega, q⟩⟩
                                  clear j0 HUn
                                  by_cases hl : uf.length = P.length
                                  · have t6 : ((uf.length : Int) != (P.length : Int)) = false := by rw [hl]; simp
                                    have HLn := Lib.hid hl
                                    clear hl
                                    go_upto_region 26 with fail
                                    have hEp : Ext wr (wr.alloc (.cells #[.int .i64 us, .slice uao uf.length ucap] 53)) := (Ext.refl wr).alloc _
                                    have y0 : (wr.alloc (.cells #[.int .i64 us, .slice uao uf.length ucap] 53)).cell? ⟨wr.heap.size, 0, none⟩ = some (.int .i64 us) := by rw [World.cell?_alloc_new]; rfl
                                    have y1 : (wr.alloc (.cells #[.int .i64 us, .slice uao uf.length ucap] 53)).cell? ⟨wr.heap.size, 1, none⟩ = some (.slice uao uf.length ucap) := by rw [World.cell?_alloc_new]; rfl
                                    have yz : wr.heap.size < (wr.alloc (.cells #[.int .i64 us, .slice uao uf.length ucap] 53)).heap.size := by simp
                                    generalize wr.alloc (.cells #[.int .i64 us, .slice uao uf.length ucap] 53) = V at hEp y0 y1 yz ⊢
                                    generalize wr.heap.size = D at y0 y1 yz ⊢
                                    have e4V := (hEp.cells B 43 hszr).trans e4
                                    have e2V := (hEp.cells B 41 hszr).trans e2
                                    skip
                                    go_quiet (fail)
                                    skip
                                    have hEq : Ext V (V.drewN nq) := (Ext.refl V).drewN _
                                    have z0 := (hEq.cells D 0 yz).trans y0
                                    have z1 := (hEq.cells D 1 yz).trans y1
                                    have z2 := (hEq.cells B 41 (hEp.lt hszr)).trans e2V
                                    have zD := hEq.lt yz
                                    have zB := hEq.lt (hEp.lt hszr)
                                    generalize V.drewN nq = V2 at hEq z0 z1 z2 zD zB ⊢
                                    have hE2 : Ext wr V2 := hEp.trans hEq
                                    have Hfv2 := Lib.hid (Hfv.out.ext hE2)
                                    have HP2 : Hid (P ≠ [] → ∃ R off, pa = some ⟨R, off, none⟩ ∧ RdPl P R off V2) := fun q => by
                                      obtain ⟨R, off, e, hR⟩ := HP.out q
                                      exact ⟨R, off, e, (hR.ext hE).ext hE2⟩
                                    have hcf := Hfv2.out.2.1
                                    have hcf1 := Hfv2.out.1
                                    unfold maxLen at hcf
                                    have HE2 := Lib.hid (hE.trans hE2)
                                    clear t6 a4 a5 y0 y1 yz e4V e2V hEp hEq c0 c1 e4 e2 hszr hRr hE hE2
                                    obtain ⟨wo, rfl⟩ : ∃ wo : World, wo = wr := ⟨_, rfl⟩
                                    go_wp2_with fail
                                    go_loopw [12] (fun i wk => ∃ q : Nat, q ≤ uf.length ∧ i = .int .i64 (q : Int) ∧ Hid (∀ k (hk : k < uf.length) (hp : k < P.length), k < q → (uf[k]).c = (P[k]).c ∧ formB (uf[k]).r = true) ∧ Ext V2 wk) (fun i _ => uf.length - (intOf i).toNat)
                                    case atStart => exact ⟨0, Nat.zero_le _, rfl, fun k _ _ hk => absurd hk (Nat.not_lt_zero k), Ext.refl _⟩
                                    case round =>
                                      obtain ⟨q, hq, rfl, Hin, hEk⟩ := hrel
                                      by_cases hlq : q < uf.length
                                      · have hqP : q < P.length := by have := HLn.out; omega
                                        obtain ⟨RF, oF, rfl, hRF, hcF⟩ := Hfv2.out.2.2 (by rintro rfl; simp at hlq)
                                        obtain ⟨RP, oP, rfl, hRP, hcP⟩ := HP2.out (by rintro rfl; simp at hqP)
                                        obtain ⟨f0, f1⟩ := hcF q hlq
                                        obtain ⟨p0, -⟩ := hcP q hqP
                                        replace f0 := (hEk.cells RF _ hRF).trans f0
                                        replace f1 := (hEk.cells RF _ hRF).trans f1
                                        replace p0 := (hEk.cells RP _ hRP).trans p0
                                        have x2 := (hEk.cells B 41 zB).trans z2
                                        have x0 := (hEk.cells D 0 zD).trans z0
                                        have x1 := (hEk.cells D 1 zD).trans z1
                                        have HI1 : Hid ((uf[q].c = P[q].c ∧ formB uf[q].r = true) → ∀ k (hk : k < uf.length) (hp : k < P.length), k < q + 1 → (uf[k]).c = (P[k]).c ∧ formB (uf[k]).r = true) := fun h k hk hp hkq => by
                                          by_cases e : k = q
                                          · subst e; exact h
                                          · exact Hin.out k hk hp (by omega)
                                        have HI2 : Hid (¬ (uf[q].c = P[q].c ∧ formB uf[q].r = true) → ¬ unAt P U j) := fun h q' => h ((HUn2.out.1 q').2 q hlq hqP)
                                        have hsq := (Hsf.out uf[q] (List.getElem_mem _)).2
                                        obtain ⟨g, hg⟩ : ∃ g, g = uf[q] := ⟨_, rfl⟩
                                        rw [← hg] at f0 f1 HI1 HI2 hsq
                                        obtain ⟨pq, hpq⟩ : ∃ g, g = P[q].c := ⟨_, rfl⟩
                                        rw [← hpq] at p0 HI1 HI2
                                        clear hg hpq hcF hcP
                                        obtain ⟨gc, gr⟩ := g
                                        simp only at f0 f1 HI1 HI2 hsq
                                        have hgr : gr.length ≤ 9223372036854775806 := by omega
                                        have hRFk := hEk.lt hRF
                                        have hRPk := hEk.lt hRP
                                        have zBk := hEk.lt zB
                                        by_cases hcc : gc = pq
                                        · have s1 : (gc == pq) = true := by simpa using hcc
                                          have s2 : (gc != pq) = false := by simpa using hcc
                                          rcases Bool.eq_false_or_eq_true (formB gr) with hf | hf
                                          · have HFo := Lib.hid (fun w => rformq_c gr true w hgr hf)
                                            have HS := Lib.hid (HI1.out ⟨hcc, hf⟩)
                                            clear hcc hf
                                            go_upto_region 31 with fail
                                            go_quiet ((go_at_call 40; exact quiet_of0 (HFo.out _)))
                                            go_wp2_with fail
                                            go_roundw
                                            case rel => exact ⟨q + 1, by omega, by go_num, HS, hEk.drewN _⟩
                                            case measure => simp [intOf]; omega
                                          · have HFo := Lib.hid (fun w => rformq_c gr false w hgr hf)
                                            have hF := Lib.hid (HF.out (HI2.out (fun q => by rw [hf] at q; cases q.2)))
                                            clear hcc hf
                                            go_upto_region 31 with fail
                                            go_quiet ((go_at_call 40; exact quiet_of0 (HFo.out _)))
                                            go_wp2_with fail
                                            go_ret
                                            exact ⟨by rw [HBn.out.symm.trans hF.out]; rfl, HE0.out.trans (HE2.out.trans (hEk.drewN _))⟩
                                        · have s1 : (gc == pq) = false := by simpa using hcc
                                          have s2 : (gc != pq) = true := by simpa using hcc
                                          have HFo := Lib.hid (fun w => rformq_c gr _ w hgr rfl)
                                          have hF := Lib.hid (HF.out (HI2.out (fun q => hcc q.1)))
                                          clear hcc
                                          go_upto_region 31 with fail
                                          go_quiet ((go_at_call 40; exact quiet_of0 (HFo.out _)))
                                          go_wp2_with fail
                                          go_ret
                                          exact ⟨by rw [HBn.out.symm.trans hF.out]; rfl, HE0.out.trans (HE2.out.trans (hEk.drewN _))⟩
                                      · obtain rfl : q = uf.length := by omega
                                        have x1 := (hEk.cells D 1 zD).trans z1
                                        have HS := Lib.hid (HY.out (HUn2.out.2 ⟨HLn.out, fun k hk hp => Hin.out k hk hp hk⟩))
                                        go_wp2_with fail
                                        go_roundw
                                        case rel => exact ⟨j + 1, by omega, by go_num, HS, HE2.out.trans hEk⟩
                                        case measure => simp [intOf]; omega
                                  · have t6 : ((uf.length : Int) != (P.length : Int)) = true := by rw [bne_iff_ne]; omega
                                    have hF := Lib.hid (HF.out (fun q => hl (HUn2.out.1 q).1))
                                    clear hl
                                    go_upto_region 26 with fail
                                    have hEp : Ext wr (wr.alloc (.cells #[.int .i64 us, .slice uao uf.length ucap] 53)) := (Ext.refl wr).alloc _
                                    have y0 : (wr.alloc (.cells #[.int .i64 us, .slice uao uf.length ucap] 53)).cell? ⟨wr.heap.size, 0, none⟩ = some (.int .i64 us) := by rw [World.cell?_alloc_new]; rfl
                                    have y1 : (wr.alloc (.cells #[.int .i64 us, .slice uao uf.length ucap] 53)).cell? ⟨wr.heap.size, 1, none⟩ = some (.slice uao uf.length ucap) := by rw [World.cell?_alloc_new]; rfl
                                    have yz : wr.heap.size < (wr.alloc (.cells #[.int .i64 us, .slice uao uf.length ucap] 53)).heap.size := by simp
                                    generalize wr.alloc (.cells #[.int .i64 us, .slice uao uf.length ucap] 53) = V at hEp y0 y1 yz ⊢
                                    generalize wr.heap.size = D at y0 y1 yz ⊢
                                    have e4V := (hEp.cells B 43 hszr).trans e4
                                    have e2V := (hEp.cells B 41 hszr).trans e2
                                    skip
                                    go_quiet (fail)
                                    go_wp2_with fail
                                    go_ret
                                    exact ⟨by rw [HBn.out.symm.trans hF.out]; rfl, HE0.out.trans (hE.trans (hEp.drewN _))⟩
                                · obtain ⟨m, hjm⟩ : ∃ m, m + 1 = j := ⟨j - 1, by omega⟩
                                  have hm : m < U.length := by omega
                                  obtain ⟨b0, -⟩ := HC.out m hm
                                  replace b0 := (hE.cells R _ hR0).trans b0
                                  have hpe : (U[j - 1]'(by omega)).s = (U[m]'hm).s := by congr 2; omega
                                  obtain ⟨sp, hsp⟩ : ∃ s, s = (U[m]'hm).s := ⟨_, rfl⟩
                                  rw [← hsp] at b0 hpe
                                  have hj0 : 0 < j := by omega
                                  have HUn1 : Hid (unAt P U j ↔ us < sp ∧ uf.length = P.length ∧ ∀ k (hk : k < uf.length) (hp : k < P.length), (uf[k]).c = (P[k]).c ∧ formB (uf[k]).r = true) := by
                                    rw [Hid, HUn.out]
                                    constructor
                                    · rintro ⟨a, q⟩
                                      exact ⟨by have := a hj0; rw [hpe] at this; exact this, q⟩
                                    · rintro ⟨a, q⟩
                                      exact ⟨fun h0 => by rw [hpe]; exact a, q⟩
                                  clear HUn
                                  have a4 : decide ((0 : Int) < (j : Int)) = true := by simp; omega
                                  have a5 : decide (0 < j) = true := by simp; omega
                                  have hji : (j : Int) - 1 = (m : Int) := by omega
                                  have hji2 : IntKind.i64.wrap ((j : Int) - 1) = (m : Int) := by rw [IntWalk.i64_in _ (by omega)]; exact hji
                                  have hmi : (0 : Int) ≤ (m : Int) := by omega
                                  have hmi2 : (m : Int) < (U.length : Int) := by omega
                                  clear hpe hsp j0
                                  by_cases hss : us < sp
                                  · have t5 : decide (sp ≤ us) = false := decide_eq_false (by omega)
                                    have HUn2 : Hid (unAt P U j ↔ uf.length = P.length ∧ ∀ k (hk : k < uf.length) (hp : k < P.length), (uf[k]).c = (P[k]).c ∧ formB (uf[k]).r = true) := ⟨fun q => (HUn1.out.1 q).2, fun q => HUn1.out.2 ⟨hss, q⟩⟩
                                    clear HUn1 hss hj0 hjm
                                    by_cases hl : uf.length = P.length
                                    · have t6 : ((uf.length : Int) != (P.length : Int)) = false := by rw [hl]; simp
                                      have HLn := Lib.hid hl
                                      clear hl
                                      go_upto_region 26 with fail
                                      have hEp : Ext wr (wr.alloc (.cells #[.int .i64 us, .slice uao uf.length ucap] 53)) := (Ext.refl wr).alloc _
                                      have y0 : (wr.alloc (.cells #[.int .i64 us, .slice uao uf.length ucap] 53)).cell? ⟨wr.heap.size, 0, none⟩ = some (.int .i64 us) := by rw [World.cell?_alloc_new]; rfl
                                      have y1 : (wr.alloc (.cells #[.int .i64 us, .slice uao uf.length ucap] 53)).cell? ⟨wr.heap.size, 1, none⟩ = some (.slice uao uf.length ucap) := by rw [World.cell?_alloc_new]; rfl
                                      have yz : wr.heap.size < (wr.alloc (.cells #[.int .i64 us, .slice uao uf.length ucap] 53)).heap.size := by simp
                                      generalize wr.alloc (.cells #[.int .i64 us, .slice uao uf.length ucap] 53) = V at hEp y0 y1 yz ⊢
                                      generalize wr.heap.size = D at y0 y1 yz ⊢
                                      have e4V := (hEp.cells B 43 hszr).trans e4
                                      have e2V := (hEp.cells B 41 hszr).trans e2
                                      (have b0V := (hEp.cells R _ hRr).trans b0)
                                      go_quiet (fail)
                                      (clear b0V hji hji2 hmi hmi2 t5)
                                      have hEq : Ext V (V.drewN nq) := (Ext.refl V).drewN _
                                      have z0 := (hEq.cells D 0 yz).trans y0
                                      have z1 := (hEq.cells D 1 yz).trans y1
                                      have z2 := (hEq.cells B 41 (hEp.lt hszr)).trans e2V
                                      have zD := hEq.lt yz
                                      have zB := hEq.lt (hEp.lt hszr)
                                      generalize V.drewN nq = V2 at hEq z0 z1 z2 zD zB ⊢
                                      have hE2 : Ext wr V2 := hEp.trans hEq
                                      have Hfv2 := Lib.hid (Hfv.out.ext hE2)
                                      have HP2 : Hid (P ≠ [] → ∃ R off, pa = some ⟨R, off, none⟩ ∧ RdPl P R off V2) := fun q => by
                                        obtain ⟨R, off, e, hR⟩ := HP.out q
                                        exact ⟨R, off, e, (hR.ext hE).ext hE2⟩
                                      have hcf := Hfv2.out.2.1
                                      have hcf1 := Hfv2.out.1
                                      unfold maxLen at hcf
                                      have HE2 := Lib.hid (hE.trans hE2)
                                      clear t6 a4 a5 y0 y1 yz e4V e2V hEp hEq c0 c1 e4 e2 hszr hRr hE hE2
                                      obtain ⟨wo, rfl⟩ : ∃ wo : World, wo = wr := ⟨_, rfl⟩
                                      go_wp2_with fail
                                      go_loopw [12] (fun i wk => ∃ q : Nat, q ≤ uf.length ∧ i = .int .i64 (q : Int) ∧ Hid (∀ k (hk : k < uf.length) (hp : k < P.length), k < q → (uf[k]).c = (P[k]).c ∧ formB (uf[k]).r = true) ∧ Ext V2 wk) (fun i _ => uf.length - (intOf i).toNat)
                                      case atStart => exact ⟨0, Nat.zero_le _, rfl, fun k _ _ hk => absurd hk (Nat.not_lt_zero k), Ext.refl _⟩
                                      case round =>
                                        obtain ⟨q, hq, rfl, Hin, hEk⟩ := hrel
                                        by_cases hlq : q < uf.length
                                        · have hqP : q < P.length := by have := HLn.out; omega
                                          obtain ⟨RF, oF, rfl, hRF, hcF⟩ := Hfv2.out.2.2 (by rintro rfl; simp at hlq)
                                          obtain ⟨RP, oP, rfl, hRP, hcP⟩ := HP2.out (by rintro rfl; simp at hqP)
                                          obtain ⟨f0, f1⟩ := hcF q hlq
                                          obtain ⟨p0, -⟩ := hcP q hqP
                                          replace f0 := (hEk.cells RF _ hRF).trans f0
                                          replace f1 := (hEk.cells RF _ hRF).trans f1
                                          replace p0 := (hEk.cells RP _ hRP).trans p0
                                          have x2 := (hEk.cells B 41 zB).trans z2
                                          have x0 := (hEk.cells D 0 zD).trans z0
                                          have x1 := (hEk.cells D 1 zD).trans z1
                                          have HI1 : Hid ((uf[q].c = P[q].c ∧ formB uf[q].r = true) → ∀ k (hk : k < uf.length) (hp : k < P.length), k < q + 1 → (uf[k]).c = (P[k]).c ∧ formB (uf[k]).r = true) := fun h k hk hp hkq => by
                                            by_cases e : k = q
                                            · subst e; exact h
                                            · exact Hin.out k hk hp (by omega)
                                          have HI2 : Hid (¬ (uf[q].c = P[q].c ∧ formB uf[q].r = true) → ¬ unAt P U j) := fun h q' => h ((HUn2.out.1 q').2 q hlq hqP)
                                          have hsq := (Hsf.out uf[q] (List.getElem_mem _)).2
                                          obtain ⟨g, hg⟩ : ∃ g, g = uf[q] := ⟨_, rfl⟩
                                          rw [← hg] at f0 f1 HI1 HI2 hsq
                                          obtain ⟨pq, hpq⟩ : ∃ g, g = P[q].c := ⟨_, rfl⟩
                                          rw [← hpq] at p0 HI1 HI2
                                          clear hg hpq hcF hcP
                                          obtain ⟨gc, gr⟩ := g
                                          simp only at f0 f1 HI1 HI2 hsq
                                          have hgr : gr.length ≤ 9223372036854775806 := by omega
                                          have hRFk := hEk.lt hRF
                                          have hRPk := hEk.lt hRP
                                          have zBk := hEk.lt zB
                                          by_cases hcc : gc = pq
                                          · have s1 : (gc == pq) = true := by simpa using hcc
                                            have s2 : (gc != pq) = false := by simpa using hcc
                                            rcases Bool.eq_false_or_eq_true (formB gr) with hf | hf
                                            · have HFo := Lib.hid (fun w => rformq_c gr true w hgr hf)
                                              have HS := Lib.hid (HI1.out ⟨hcc, hf⟩)
                                              clear hcc hf
                                              go_upto_region 31 with fail
                                              go_quiet ((go_at_call 40; exact quiet_of0 (HFo.out _)))
                                              go_wp2_with fail
                                              go_roundw
                                              case rel => exact ⟨q + 1, by omega, by go_num, HS, hEk.drewN _⟩
                                              case measure => simp [intOf]; omega
                                            · have HFo := Lib.hid (fun w => rformq_c gr false w hgr hf)
                                              have hF := Lib.hid (HF.out (HI2.out (fun q => by rw [hf] at q; cases q.2)))
                                              clear hcc hf
                                              go_upto_region 31 with fail
                                              go_quiet ((go_at_call 40; exact quiet_of0 (HFo.out _)))
                                              go_wp2_with fail
                                              go_ret
                                              exact ⟨by rw [HBn.out.symm.trans hF.out]; rfl, HE0.out.trans (HE2.out.trans (hEk.drewN _))⟩
                                          · have s1 : (gc == pq) = false := by simpa using hcc
                                            have s2 : (gc != pq) = true := by simpa using hcc
                                            have HFo := Lib.hid (fun w => rformq_c gr _ w hgr rfl)
                                            have hF := Lib.hid (HF.out (HI2.out (fun q => hcc q.1)))
                                            clear hcc
                                            go_upto_region 31 with fail
                                            go_quiet ((go_at_call 40; exact quiet_of0 (HFo.out _)))
                                            go_wp2_with fail
                                            go_ret
                                            exact ⟨by rw [HBn.out.symm.trans hF.out]; rfl, HE0.out.trans (HE2.out.trans (hEk.drewN _))⟩
                                        · obtain rfl : q = uf.length := by omega
                                          have x1 := (hEk.cells D 1 zD).trans z1
                                          have HS := Lib.hid (HY.out (HUn2.out.2 ⟨HLn.out, fun k hk hp => Hin.out k hk hp hk⟩))
                                          go_wp2_with fail
                                          go_roundw
                                          case rel => exact ⟨j + 1, by omega, by go_num, HS, HE2.out.trans hEk⟩
                                          case measure => simp [intOf]; omega
                                    · have t6 : ((uf.length : Int) != (P.length : Int)) = true := by rw [bne_iff_ne]; omega
                                      have hF := Lib.hid (HF.out (fun q => hl (HUn2.out.1 q).1))
                                      clear hl
                                      go_upto_region 26 with fail
                                      have hEp : Ext wr (wr.alloc (.cells #[.int .i64 us, .slice uao uf.length ucap] 53)) := (Ext.refl wr).alloc _
                                      have y0 : (wr.alloc (.cells #[.int .i64 us, .slice uao uf.length ucap] 53)).cell? ⟨wr.heap.size, 0, none⟩ = some (.int .i64 us) := by rw [World.cell?_alloc_new]; rfl
                                      have y1 : (wr.alloc (.cells #[.int .i64 us, .slice uao uf.length ucap] 53)).cell? ⟨wr.heap.size, 1, none⟩ = some (.slice uao uf.length ucap) := by rw [World.cell?_alloc_new]; rfl
                                      have yz : wr.heap.size < (wr.alloc (.cells #[.int .i64 us, .slice uao uf.length ucap] 53)).heap.size := by simp
                                      generalize wr.alloc (.cells #[.int .i64 us, .slice uao uf.length ucap] 53) = V at hEp y0 y1 yz ⊢
                                      generalize wr.heap.size = D at y0 y1 yz ⊢
                                      have e4V := (hEp.cells B 43 hszr).trans e4
                                      have e2V := (hEp.cells B 41 hszr).trans e2
                                      (have b0V := (hEp.cells R _ hRr).trans b0)
                                      go_quiet (fail)
                                      go_wp2_with fail
                                      go_ret
                                      exact ⟨by rw [HBn.out.symm.trans hF.out]; rfl, HE0.out.trans (hE.trans (hEp.drewN _))⟩
                                  · have t5 : decide (sp ≤ us) = true := decide_eq_true (by omega)
                                    have hF := Lib.hid (HF.out (fun q => hss (HUn1.out.1 q).1))
                                    clear HUn1 hss hj0 hjm
                                    go_upto_region 26 with fail
                                    have hEp : Ext wr (wr.alloc (.cells #[.int .i64 us, .slice uao uf.length ucap] 53)) := (Ext.refl wr).alloc _
                                    have y0 : (wr.alloc (.cells #[.int .i64 us, .slice uao uf.length ucap] 53)).cell? ⟨wr.heap.size, 0, none⟩ = some (.int .i64 us) := by rw [World.cell?_alloc_new]; rfl
                                    have y1 : (wr.alloc (.cells #[.int .i64 us, .slice uao uf.length ucap] 53)).cell? ⟨wr.heap.size, 1, none⟩ = some (.slice uao uf.length ucap) := by rw [World.cell?_alloc_new]; rfl
                                    have yz : wr.heap.size < (wr.alloc (.cells #[.int .i64 us, .slice uao uf.length ucap] 53)).heap.size := by simp
                                    generalize wr.alloc (.cells #[.int .i64 us, .slice uao uf.length ucap] 53) = V at hEp y0 y1 yz ⊢
                                    generalize wr.heap.size = D at y0 y1 yz ⊢
                                    have e4V := (hEp.cells B 43 hszr).trans e4
                                    have e2V := (hEp.cells B 41 hszr).trans e2
                                    have b0V := (hEp.cells R _ hRr).trans b0
                                    go_quiet (fail)
                                    go_wp2_with fail
                                    go_ret
                                    exact ⟨by rw [HBn.out.symm.trans hF.out]; rfl, HE0.out.trans (hE.trans (hEp.drewN _))⟩
                              · obtain rfl : j = U.length := by omega
                                have Hn : Hid (b = true) := by rw [Hid, ← HBn.out]; exact unB_y HHd.out Hall.out
                                go_wp2_with fail
                                go_ret
                                exact ⟨by rw [Hn.out]; rfl, HE0.out.trans hE⟩
                          · have hF : Hid (b = false) := by rw [Hid, ← HBn.out]; exact unB_h (fun q => h4 (HH.out.1 q).2)
                            have t4 : (sz != 1) = true := by simpa using h4
                            clear h4 HH
                            go_wp2_with fail
                            go_ret
                            exact ⟨by rw [hF.out]; rfl, HE0.out.trans hEk⟩
                        · have hF : Hid (b = false) := by rw [Hid, ← HBn.out]; exact unB_h (fun q => h3 (HH.out.1 q).1)
                          have t3 : 1099511627776 < s0 := by omega
                          clear h3 HH
                          go_wp2_with fail
                          go_ret
                          exact ⟨by rw [hF.out]; rfl, HE0.out.trans hEk⟩
                      · have hF : Hid (b = false) := by rw [Hid, ← HBn.out]; exact unB_h (fun ⟨_, q, _⟩ => h2 q)
                        have d2 : (10 : Int) < (U.length : Int) := by omega
                        clear h2
                        go_wp2_with fail
                        go_ret
                        exact ⟨by rw [hF.out]; rfl, HE0.out.trans hEk⟩
                    · have hF : Hid (b = false) := by rw [Hid, ← HBn.out]; exact unB_h (fun ⟨q, _⟩ => h1 q)
                      have d2 : (U.length : Int) < 1 := by omega
                      clear h1
                      go_wp2_with fail
                      go_ret
                      exact ⟨by rw [hF.out]; rfl, HE0.out.trans hEk⟩
      · have t1 : ((ce : Int) != 0) = true := by rw [bne_iff_ne]; omega
        have hF : Hid (b = false) := by rw [Hid, ← hb, decide_eq_false hce]; simp
        clear hb hce
        go_enter Tryz.func10, Tryz.ntmps10
        go_upto_region 1 with fail
        generalize w.alloc (.cells L.vals.toArray 30) = W0 at *
        generalize w.heap.size = B at *
        go_wp2_with (first
          | (go_at_call 35; (with_reducible refine (rcom_e L.pt _ _ hl2 H1.out).mono ?_); rintro e w1 ⟨ao1, n1, cap1, p1, p2, rfl, hE1⟩; have hX := hE1; have f0 := (hE1.cells B 0 HBk.out.1).trans g0; have f1 := (hE1.cells B 41 HBk.out.1).trans g1; have f2 := (hE1.cells B 42 HBk.out.1).trans g2; have hzB := hE1.lt HBk.out.1; have hXA : Ext W0 (w1.alloc (.cells #[.int .i64 p1, .int .i64 p2] 39)) := hE1.alloc _; have hRN := (HBk.out.ext hXA).names HN.out; clear hE1)
          | (first | (go_at_call 36; (with_reducible refine (rzname_c L.nm _ _ hl1' H2.out).mono ?_); rintro e w2 ⟨rfl, rfl⟩) | (first
                                                                                                                                  | (go_at_call 37; (with_reducible refine (rvnames_l L.N _ HN.out _ HNl.out H3.out).mono ?_); rintro e w3 ⟨rfl, hE3⟩; have hX := Ext.trans (show Ext W0 _ from (by (repeat (with_reducible (first | assumption | exact Ext.refl _ | refine Ext.alloc ?_ _ | refine Ext.drewN ?_ _ | refine Ext.drew ?_))))) hE3; have f1b := ((show Ext W0 w3 from (by (repeat (with_reducible (first | assumption | exact Ext.refl _ | refine Ext.alloc ?_ _ | refine Ext.drewN ?_ _ | refine Ext.drew ?_))))).cells B 41 HBk.out.1).trans g1; have f2b := ((show Ext W0 w3 from (by (repeat (with_reducible (first | assumption | exact Ext.refl _ | refine Ext.alloc ?_ _ | refine Ext.drewN ?_ _ | refine Ext.drew ?_))))).cells B 42 HBk.out.1).trans g2; clear hE3)
                                                                                                                                  | (refine load_midg (by rfl) 26 _ rfl B 1 rfl (sv L.N.all) _ hRN Tryz.underlying26 rfl hI ?_)) | (go_at_call 38; (with_reducible refine (ruled_c L.P L.pa L.pc _ _ (HVp.out.ext (by (repeat (with_reducible (first | assumption | exact Ext.refl _ | refine Ext.alloc ?_ _ | refine Ext.drewN ?_ _ | refine Ext.drew ?_))))) Hs1.out H4.out).mono ?_); rintro e w4 ⟨rfl, hE4⟩; have hX := Ext.trans (show Ext W0 _ from (by (repeat (with_reducible (first | assumption | exact Ext.refl _ | refine Ext.alloc ?_ _ | refine Ext.drewN ?_ _ | refine Ext.drew ?_))))) hE4; have f2c := ((show Ext W0 w4 from (by (repeat (with_reducible (first | assumption | exact Ext.refl _ | refine Ext.alloc ?_ _ | refine Ext.drewN ?_ _ | refine Ext.drew ?_))))).cells B 42 HBk.out.1).trans g2; have f1c := ((show Ext W0 w4 from (by (repeat (with_reducible (first | assumption | exact Ext.refl _ | refine Ext.alloc ?_ _ | refine Ext.drewN ?_ _ | refine Ext.drew ?_))))).cells B 41 HBk.out.1).trans g1; clear hE4) | (go_at_call 38; (with_reducible refine (ruled_c L.O L.oa L.oc _ _ (HVo.out.ext (by (repeat (with_reducible (first | assumption | exact Ext.refl _ | refine Ext.alloc ?_ _ | refine Ext.drewN ?_ _ | refine Ext.drew ?_))))) Hs2.out H5.out).mono ?_); rintro e w5 ⟨rfl, hE5⟩; have hX := Ext.trans (show Ext W0 _ from (by (repeat (with_reducible (first | assumption | exact Ext.refl _ | refine Ext.alloc ?_ _ | refine Ext.drewN ?_ _ | refine Ext.drew ?_))))) hE5; have f1d := ((show Ext W0 w5 from (by (repeat (with_reducible (first | assumption | exact Ext.refl _ | refine Ext.alloc ?_ _ | refine Ext.drewN ?_ _ | refine Ext.drew ?_))))).cells B 41 HBk.out.1).trans g1; clear hE5)))
        go_ret
        exact ⟨by rw [hF.out]; rfl, HE0.out.trans (by (repeat (with_reducible (first | assumption | exact Ext.refl _ | refine Ext.alloc ?_ _ | refine Ext.drewN ?_ _ | refine Ext.drew ?_))))⟩
end Go.Proofs.YtnhdmnhfllecgaaGreatDoor
