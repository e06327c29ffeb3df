/- Locales: the walk of Valid. -/
import Derived.Test.YtnhdmnhfllecgaaGreatDoorQ13
import Derived.Test.YtnhdmnhfllecgaaGreatDoorQ14
import Derived.Test.YtnhdmnhfllecgaaGreatDoorQ17
namespace Go.Proofs.YtnhdmnhfllecgaaGreatDoor
set_option linter.unusedVariables false
set_option linter.unusedSimpArgs false
open Go.RowKit

theorem load_midg {P : Program} {ops : Array Oper} {rest : List Oper} {op : Oper} {a : Act} {w : World} {Q : Exit → Act → World → Prop} (hw : Region.wanted op (yielded ops a.tmps) = true) (ty : TypeId) (x : Operand) (ho : op.op = .load ty x)
    (b o : Nat) (hx : a.eval x = .pointer (some ⟨b, o, none⟩)) (cs : List Value) (d : TypeDesc) (hc : w.rangeAt b o cs)
    (hu : P.underlying ty = some d) (hd : d.isRow = true) (hi : (P.info? ty).map (·.size) = some cs.length)
    (h : wpList P ops Q rest (a.put op.dst (.agg cs.toArray)) w) : wpList P ops Q (op :: rest) a w := by
  unfold wpList
  rw [if_pos hw]
  exact .inl (wp_load_mid ty x ho b o hx cs d hc hu hd hi h)
theorem loc_size {L : Loc} (h : L.N.ok) : (Tryz.prog.info? 30).map (·.size) = some L.vals.length := by
  rw [Loc.len h]; kernel_rfl
theorem vnames_l (N : Nms) (b : Bool) (hN : N.ok) (w : World) (hl : ∀ s ∈ N.all, s.length ≤ 2000000) (hv : nmOk N = b) : Calls Tryz.prog 28 #[.agg (sv N.all).toArray] w fun e w' => e = .returned (.bool b) ∧ Ext w w' := by
  rw [← hv]; exact validnames_c N hN w hl
theorem com_e (s : List UInt8) (c : Nat) (w : World) (hs : s.length ≤ 7000) (h : (cmpT s).2.2 = c) : Calls Tryz.prog 26 #[.string ⟨s.toArray⟩] w fun e w' => ∃ (ao : Option Addr) (n cap : Nat) (a b : Int), e = .returned (.tuple #[.slice ao n cap, .agg #[.int .i64 a, .int .i64 b], .int .i64 (c : Int)]) ∧ Ext w w' := by
  rw [← h]
  exact (compile_c s w (by omega)).mono fun _ _ ⟨ao, cap, h1, h2, h3⟩ => ⟨ao, _, cap, _, _, h1, h3⟩
theorem conP_t (l : List Plu) (j : Nat) (hj : j ≤ l.length) (ao : Option Addr) (cap D : Nat) (pc : List UInt8) (b : Bool) (w : World) (hl : PlV ao cap l w) (hD : w.cell? ⟨D, 0, none⟩ = some (.string ⟨pc.toArray⟩)) (hDl : D < w.heap.size) (hb : (l.take j).any (fun p => p.c == pc) = b) :
    Calls Tryz.prog 32 #[.slice ao j cap, .func (.func 33) #[] #[.pointer (some ⟨D, 0, none⟩)]] w fun e w' => e = .returned (.bool b) ∧ Ext w w' := by
  have h := conP_c (l.take j) ao cap D pc b w (hl.take j hj) hD hDl hb
  rw [List.length_take, show min j l.length = j by omega] at h
  exact h
theorem dsB_no {P : List Plu} (i : Nat) (hi : i < P.length) (h : ¬ dsAt P i) : dsB P = false := by
  unfold dsB; exact @decide_eq_false _ (_) fun q => h (q i hi)
theorem dsB_yes {P : List Plu} (h : ∀ i, i < P.length → dsAt P i) : dsB P = true := by
  unfold dsB; exact @decide_eq_true _ (_) h
theorem dsAt_any {P : List Plu} (i : Nat) (hi : i < P.length) : (P.take i).any (fun p => p.c == P[i].c) = false ↔ dsAt P i := by
  rw [List.any_eq_false]
  constructor
  · intro h _ k hk e
    exact h (P[k]'(by omega)) (by rw [List.mem_take_iff_getElem]; exact ⟨k, by omega, rfl⟩) (by simpa using e)
  · intro h p hp e
    rw [List.mem_take_iff_getElem] at hp
    obtain ⟨k, hk, rfl⟩ := hp
    exact h hi k (by omega) (by simpa using e)
set_option maxRecDepth 100000 in
set_option maxHeartbeats 2000000 in
theorem valid_c (L : Loc) (b : Bool) (w : World) (h : LcV L w) (hs : shL L) (hm : Lm w) (hNl : ∀ s ∈ L.N.all, s.length ≤ 2000000) (hb : validLB L = b) :
    Calls Tryz.prog 9 #[.agg L.vals.toArray] w fun e w' => e = .returned (.bool b) ∧ Ext w w' := by
  have hN := h.1
  have hI := names_size hN
  have hIL := loc_size hN
  have hE0 : Ext w (w.alloc (.cells L.vals.toArray 30)) := (Ext.refl w).alloc _
  have hB := LcB.new L w 30
  have hV := h.ext hE0
  obtain ⟨g0, g1, g2, g3, g4⟩ := hB.cells hN
  have HV := Lib.hid hV
  have HBk := Lib.hid hB
  have HVp := Lib.hid hV.2.1
  have HVo := Lib.hid hV.2.2.1
  have Hs1 := Lib.hid hs.1
  have Hs2 := Lib.hid hs.2.1
  have HN := Lib.hid hN
  have HE0 := Lib.hid hE0
  have HNl := Lib.hid hNl
  have Hs := Lib.hid hs
  have Hm := Lib.hid (hm.ext hE0)
  have hl1 := hs.2.2.2.1
  have hl2 := hs.2.2.2.2
  have hl1' : L.nm.length ≤ 9223372036854775806 := by omega
  unfold validLB at hb
  obtain ⟨ce, h1⟩ : ∃ c, (cmpT L.pt).2.2 = c := ⟨_, rfl⟩
  obtain ⟨z, h2⟩ : ∃ c, zNameB L.nm = c := ⟨_, rfl⟩
  obtain ⟨nv, h3⟩ : ∃ c, nmOk L.N = c := ⟨_, rfl⟩
  obtain ⟨r1, h4⟩ : ∃ c, rulB wordB L.P = c := ⟨_, rfl⟩
  obtain ⟨r2, h5⟩ : ∃ c, rulB suffB L.O = c := ⟨_, rfl⟩
  obtain ⟨un, h7⟩ : ∃ c, unB L.P L.U = c := ⟨_, rfl⟩
  rw [h1, h2, h3, h4, h5, h7] at hb
  have H1 := Lib.hid h1
  have H2 := Lib.hid h2
  have H3 := Lib.hid h3
  have H4 := Lib.hid h4
  have H5 := Lib.hid h5
  have H7 := Lib.hid h7
  have hp1 := hV.2.1.1
  have hp2 := hV.2.1.2.1
  unfold maxLen at hp2
  clear h1 h2 h3 h4 h5 h7 hs hm hNl h hE0 hB hV
  by_cases hce : ce = 0
  · subst hce
    cases z
    · have hF : Hid (b = false) := by rw [Hid, ← hb]; simp
      clear hb
      go_enter Tryz.func9, Tryz.ntmps9
      go_upto_region 1 with fail
      generalize w.alloc (.cells L.vals.toArray 30) = W0 at *
      generalize w.heap.size = B at *
      go_wp2_with (first
        | (go_at_call 26; (with_reducible refine (com_e L.pt _ _ hl2 H1.out).mono ?_); rintro e w1 ⟨ao1, n1, cap1, p1, p2, rfl, hE1⟩; have hX := hE1; have f0 := (hE1.cells B 0 HBk.out.1).trans g0; have f1 := (hE1.cells B 41 HBk.out.1).trans g1; have f2 := (hE1.cells B 42 HBk.out.1).trans g2; have hzB := hE1.lt HBk.out.1; have hXA : Ext W0 (w1.alloc (.cells #[.int .i64 p1, .int .i64 p2] 39)) := hE1.alloc _; have hRN := (HBk.out.ext hXA).names HN.out; clear hE1)
        | (first | (go_at_call 27; (with_reducible refine (zname_c L.nm _ _ hl1' H2.out).mono ?_); rintro e w2 ⟨rfl, rfl⟩) | (first
                                                                                                                               | (go_at_call 28; (with_reducible refine (vnames_l L.N _ HN.out _ HNl.out H3.out).mono ?_); rintro e w3 ⟨rfl, hE3⟩; have hX := Ext.trans (show Ext W0 _ from (by (repeat (with_reducible (first | assumption | exact Ext.refl _ | refine Ext.alloc ?_ _ | refine Ext.drewN ?_ _ | refine Ext.drew ?_))))) hE3; have f1b := ((show Ext W0 w3 from (by (repeat (with_reducible (first | assumption | exact Ext.refl _ | refine Ext.alloc ?_ _ | refine Ext.drewN ?_ _ | refine Ext.drew ?_))))).cells B 41 HBk.out.1).trans g1; have f2b := ((show Ext W0 w3 from (by (repeat (with_reducible (first | assumption | exact Ext.refl _ | refine Ext.alloc ?_ _ | refine Ext.drewN ?_ _ | refine Ext.drew ?_))))).cells B 42 HBk.out.1).trans g2; clear hE3)
                                                                                                                               | (refine load_midg (by rfl) 26 _ rfl B 1 rfl (sv L.N.all) _ hRN Tryz.underlying26 rfl hI ?_)) | (go_at_call 29; (with_reducible refine (rules_w L.P L.pa L.pc _ _ (HVp.out.ext (by (repeat (with_reducible (first | assumption | exact Ext.refl _ | refine Ext.alloc ?_ _ | refine Ext.drewN ?_ _ | refine Ext.drew ?_))))) Hs1.out (Hm.out.ext (by (repeat (with_reducible (first | assumption | exact Ext.refl _ | refine Ext.alloc ?_ _ | refine Ext.drewN ?_ _ | refine Ext.drew ?_))))) H4.out).mono ?_); rintro e w4 ⟨rfl, hE4⟩; have hX := Ext.trans (show Ext W0 _ from (by (repeat (with_reducible (first | assumption | exact Ext.refl _ | refine Ext.alloc ?_ _ | refine Ext.drewN ?_ _ | refine Ext.drew ?_))))) hE4; have f2c := ((show Ext W0 w4 from (by (repeat (with_reducible (first | assumption | exact Ext.refl _ | refine Ext.alloc ?_ _ | refine Ext.drewN ?_ _ | refine Ext.drew ?_))))).cells B 42 HBk.out.1).trans g2; have f1c := ((show Ext W0 w4 from (by (repeat (with_reducible (first | assumption | exact Ext.refl _ | refine Ext.alloc ?_ _ | refine Ext.drewN ?_ _ | refine Ext.drew ?_))))).cells B 41 HBk.out.1).trans g1; clear hE4) | (go_at_call 29; (with_reducible refine (rules_s L.O L.oa L.oc _ _ (HVo.out.ext (by (repeat (with_reducible (first | assumption | exact Ext.refl _ | refine Ext.alloc ?_ _ | refine Ext.drewN ?_ _ | refine Ext.drew ?_))))) Hs2.out (Hm.out.ext (by (repeat (with_reducible (first | assumption | exact Ext.refl _ | refine Ext.alloc ?_ _ | refine Ext.drewN ?_ _ | refine Ext.drew ?_))))) H5.out).mono ?_); rintro e w5 ⟨rfl, hE5⟩; have hX := Ext.trans (show Ext W0 _ from (by (repeat (with_reducible (first | assumption | exact Ext.refl _ | refine Ext.alloc ?_ _ | refine Ext.drewN ?_ _ | refine Ext.drew ?_))))) hE5; have f1d := ((show Ext W0 w5 from (by (repeat (with_reducible (first | assumption | exact Ext.refl _ | refine Ext.alloc ?_ _ | refine Ext.drewN ?_ _ | refine Ext.drew ?_))))).cells B 41 HBk.out.1).trans g1; clear hE5)))
      go_ret
      exact ⟨by rw [hF.out]; rfl, HE0.out.trans (by (repeat (with_reducible (first | assumption | exact Ext.refl _ | refine Ext.alloc ?_ _ | refine Ext.drewN ?_ _ | refine Ext.drew ?_))))⟩
    · cases nv
      · have hF : Hid (b = false) := by rw [Hid, ← hb]; simp
        clear hb
        go_enter Tryz.func9, Tryz.ntmps9
        go_upto_region 1 with fail
        generalize w.alloc (.cells L.vals.toArray 30) = W0 at *
        generalize w.heap.size = B at *
        go_wp2_with (first
          | (go_at_call 26; (with_reducible refine (com_e L.pt _ _ hl2 H1.out).mono ?_); rintro e w1 ⟨ao1, n1, cap1, p1, p2, rfl, hE1⟩; have hX := hE1; have f0 := (hE1.cells B 0 HBk.out.1).trans g0; have f1 := (hE1.cells B 41 HBk.out.1).trans g1; have f2 := (hE1.cells B 42 HBk.out.1).trans g2; have hzB := hE1.lt HBk.out.1; have hXA : Ext W0 (w1.alloc (.cells #[.int .i64 p1, .int .i64 p2] 39)) := hE1.alloc _; have hRN := (HBk.out.ext hXA).names HN.out; clear hE1)
          | (first | (go_at_call 27; (with_reducible refine (zname_c L.nm _ _ hl1' H2.out).mono ?_); rintro e w2 ⟨rfl, rfl⟩) | (first
                                                                                                                                 | (go_at_call 28; (with_reducible refine (vnames_l L.N _ HN.out _ HNl.out H3.out).mono ?_); rintro e w3 ⟨rfl, hE3⟩; have hX := Ext.trans (show Ext W0 _ from (by (repeat (with_reducible (first | assumption | exact Ext.refl _ | refine Ext.alloc ?_ _ | refine Ext.drewN ?_ _ | refine Ext.drew ?_))))) hE3; have f1b := ((show Ext W0 w3 from (by (repeat (with_reducible (first | assumption | exact Ext.refl _ | refine Ext.alloc ?_ _ | refine Ext.drewN ?_ _ | refine Ext.drew ?_))))).cells B 41 HBk.out.1).trans g1; have f2b := ((show Ext W0 w3 from (by (repeat (with_reducible (first | assumption | exact Ext.refl _ | refine Ext.alloc ?_ _ | refine Ext.drewN ?_ _ | refine Ext.drew ?_))))).cells B 42 HBk.out.1).trans g2; clear hE3)
                                                                                                                                 | (refine load_midg (by rfl) 26 _ rfl B 1 rfl (sv L.N.all) _ hRN Tryz.underlying26 rfl hI ?_)) | (go_at_call 29; (with_reducible refine (rules_w L.P L.pa L.pc _ _ (HVp.out.ext (by (repeat (with_reducible (first | assumption | exact Ext.refl _ | refine Ext.alloc ?_ _ | refine Ext.drewN ?_ _ | refine Ext.drew ?_))))) Hs1.out (Hm.out.ext (by (repeat (with_reducible (first | assumption | exact Ext.refl _ | refine Ext.alloc ?_ _ | refine Ext.drewN ?_ _ | refine Ext.drew ?_))))) H4.out).mono ?_); rintro e w4 ⟨rfl, hE4⟩; have hX := Ext.trans (show Ext W0 _ from (by (repeat (with_reducible (first | assumption | exact Ext.refl _ | refine Ext.alloc ?_ _ | refine Ext.drewN ?_ _ | refine Ext.drew ?_))))) hE4; have f2c := ((show Ext W0 w4 from (by (repeat (with_reducible (first | assumption | exact Ext.refl _ | refine Ext.alloc ?_ _ | refine Ext.drewN ?_ _ | refine Ext.drew ?_))))).cells B 42 HBk.out.1).trans g2; have f1c := ((show Ext W0 w4 from (by (repeat (with_reducible (first | assumption | exact Ext.refl _ | refine Ext.alloc ?_ _ | refine Ext.drewN ?_ _ | refine Ext.drew ?_))))).cells B 41 HBk.out.1).trans g1; clear hE4) | (go_at_call 29; (with_reducible refine (rules_s L.O L.oa L.oc _ _ (HVo.out.ext (by (repeat (with_reducible (first | assumption | exact Ext.refl _ | refine Ext.alloc ?_ _ | refine Ext.drewN ?_ _ | refine Ext.drew ?_))))) Hs2.out (Hm.out.ext (by (repeat (with_reducible (first | assumption | exact Ext.refl _ | refine Ext.alloc ?_ _ | refine Ext.drewN ?_ _ | refine Ext.drew ?_))))) H5.out).mono ?_); rintro e w5 ⟨rfl, hE5⟩; have hX := Ext.trans (show Ext W0 _ from (by (repeat (with_reducible (first | assumption | exact Ext.refl _ | refine Ext.alloc ?_ _ | refine Ext.drewN ?_ _ | refine Ext.drew ?_))))) hE5; have f1d := ((show Ext W0 w5 from (by (repeat (with_reducible (first | assumption | exact Ext.refl _ | refine Ext.alloc ?_ _ | refine Ext.drewN ?_ _ | refine Ext.drew ?_))))).cells B 41 HBk.out.1).trans g1; clear hE5)))
        go_ret
        exact ⟨by rw [hF.out]; rfl, HE0.out.trans (by (repeat (with_reducible (first | assumption | exact Ext.refl _ | refine Ext.alloc ?_ _ | refine Ext.drewN ?_ _ | refine Ext.drew ?_))))⟩
      · cases r1
        · have hF : Hid (b = false) := by rw [Hid, ← hb]; simp
          clear hb
          go_enter Tryz.func9, Tryz.ntmps9
          go_upto_region 1 with fail
          generalize w.alloc (.cells L.vals.toArray 30) = W0 at *
          generalize w.heap.size = B at *
          go_wp2_with (first
            | (go_at_call 26; (with_reducible refine (com_e L.pt _ _ hl2 H1.out).mono ?_); rintro e w1 ⟨ao1, n1, cap1, p1, p2, rfl, hE1⟩; have hX := hE1; have f0 := (hE1.cells B 0 HBk.out.1).trans g0; have f1 := (hE1.cells B 41 HBk.out.1).trans g1; have f2 := (hE1.cells B 42 HBk.out.1).trans g2; have hzB := hE1.lt HBk.out.1; have hXA : Ext W0 (w1.alloc (.cells #[.int .i64 p1, .int .i64 p2] 39)) := hE1.alloc _; have hRN := (HBk.out.ext hXA).names HN.out; clear hE1)
            | (first | (go_at_call 27; (with_reducible refine (zname_c L.nm _ _ hl1' H2.out).mono ?_); rintro e w2 ⟨rfl, rfl⟩) | (first
                                                                                                                                   | (go_at_call 28; (with_reducible refine (vnames_l L.N _ HN.out _ HNl.out H3.out).mono ?_); rintro e w3 ⟨rfl, hE3⟩; have hX := Ext.trans (show Ext W0 _ from (by (repeat (with_reducible (first | assumption | exact Ext.refl _ | refine Ext.alloc ?_ _ | refine Ext.drewN ?_ _ | refine Ext.drew ?_))))) hE3; have f1b := ((show Ext W0 w3 from (by (repeat (with_reducible (first | assumption | exact Ext.refl _ | refine Ext.alloc ?_ _ | refine Ext.drewN ?_ _ | refine Ext.drew ?_))))).cells B 41 HBk.out.1).trans g1; have f2b := ((show Ext W0 w3 from (by (repeat (with_reducible (first | assumption | exact Ext.refl _ | refine Ext.alloc ?_ _ | refine Ext.drewN ?_ _ | refine Ext.drew ?_))))).cells B 42 HBk.out.1).trans g2; clear hE3)
                                                                                                                                   | (refine load_midg (by rfl) 26 _ rfl B 1 rfl (sv L.N.all) _ hRN Tryz.underlying26 rfl hI ?_)) | (go_at_call 29; (with_reducible refine (rules_w L.P L.pa L.pc _ _ (HVp.out.ext (by (repeat (with_reducible (first | assumption | exact Ext.refl _ | refine Ext.alloc ?_ _ | refine Ext.drewN ?_ _ | refine Ext.drew ?_))))) Hs1.out (Hm.out.ext (by (repeat (with_reducible (first | assumption | exact Ext.refl _ | refine Ext.alloc ?_ _ | refine Ext.drewN ?_ _ | refine Ext.drew ?_))))) H4.out).mono ?_); rintro e w4 ⟨rfl, hE4⟩; have hX := Ext.trans (show Ext W0 _ from (by (repeat (with_reducible (first | assumption | exact Ext.refl _ | refine Ext.alloc ?_ _ | refine Ext.drewN ?_ _ | refine Ext.drew ?_))))) hE4; have f2c := ((show Ext W0 w4 from (by (repeat (with_reducible (first | assumption | exact Ext.refl _ | refine Ext.alloc ?_ _ | refine Ext.drewN ?_ _ | refine Ext.drew ?_))))).cells B 42 HBk.out.1).trans g2; have f1c := ((show Ext W0 w4 from (by (repeat (with_reducible (first | assumption | exact Ext.refl _ | refine Ext.alloc ?_ _ | refine Ext.drewN ?_ _ | refine Ext.drew ?_))))).cells B 41 HBk.out.1).trans g1; clear hE4) | (go_at_call 29; (with_reducible refine (rules_s L.O L.oa L.oc _ _ (HVo.out.ext (by (repeat (with_reducible (first | assumption | exact Ext.refl _ | refine Ext.alloc ?_ _ | refine Ext.drewN ?_ _ | refine Ext.drew ?_))))) Hs2.out (Hm.out.ext (by (repeat (with_reducible (first | assumption | exact Ext.refl _ | refine Ext.alloc ?_ _ | refine Ext.drewN ?_ _ | refine Ext.drew ?_))))) H5.out).mono ?_); rintro e w5 ⟨rfl, hE5⟩; have hX := Ext.trans (show Ext W0 _ from (by (repeat (with_reducible (first | assumption | exact Ext.refl _ | refine Ext.alloc ?_ _ | refine Ext.drewN ?_ _ | refine Ext.drew ?_))))) hE5; have f1d := ((show Ext W0 w5 from (by (repeat (with_reducible (first | assumption | exact Ext.refl _ | refine Ext.alloc ?_ _ | refine Ext.drewN ?_ _ | refine Ext.drew ?_))))).cells B 41 HBk.out.1).trans g1; clear hE5)))
          go_ret
          exact ⟨by rw [hF.out]; rfl, HE0.out.trans (by (repeat (with_reducible (first | assumption | exact Ext.refl _ | refine Ext.alloc ?_ _ | refine Ext.drewN ?_ _ | refine Ext.drew ?_))))⟩
        · cases r2
          · have hF : Hid (b = false) := by rw [Hid, ← hb]; simp
            clear hb
            go_enter Tryz.func9, Tryz.ntmps9
            go_upto_region 1 with fail
            generalize w.alloc (.cells L.vals.toArray 30) = W0 at *
            generalize w.heap.size = B at *
            go_wp2_with (first
              | (go_at_call 26; (with_reducible refine (com_e L.pt _ _ hl2 H1.out).mono ?_); rintro e w1 ⟨ao1, n1, cap1, p1, p2, rfl, hE1⟩; have hX := hE1; have f0 := (hE1.cells B 0 HBk.out.1).trans g0; have f1 := (hE1.cells B 41 HBk.out.1).trans g1; have f2 := (hE1.cells B 42 HBk.out.1).trans g2; have hzB := hE1.lt HBk.out.1; have hXA : Ext W0 (w1.alloc (.cells #[.int .i64 p1, .int .i64 p2] 39)) := hE1.alloc _; have hRN := (HBk.out.ext hXA).names HN.out; clear hE1)
              | (first | (go_at_call 27; (with_reducible refine (zname_c L.nm _ _ hl1' H2.out).mono ?_); rintro e w2 ⟨rfl, rfl⟩) | (first
                                                                                                                                     | (go_at_call 28; (with_reducible refine (vnames_l L.N _ HN.out _ HNl.out H3.out).mono ?_); rintro e w3 ⟨rfl, hE3⟩; have hX := Ext.trans (show Ext W0 _ from (by (repeat (with_reducible (first | assumption | exact Ext.refl _ | refine Ext.alloc ?_ _ | refine Ext.drewN ?_ _ | refine Ext.drew ?_))))) hE3; have f1b := ((show Ext W0 w3 from (by (repeat (with_reducible (first | assumption | exact Ext.refl _ | refine Ext.alloc ?_ _ | refine Ext.drewN ?_ _ | refine Ext.drew ?_))))).cells B 41 HBk.out.1).trans g1; have f2b := ((show Ext W0 w3 from (by (repeat (with_reducible (first | assumption | exact Ext.refl _ | refine Ext.alloc ?_ _ | refine Ext.drewN ?_ _ | refine Ext.drew ?_))))).cells B 42 HBk.out.1).trans g2; clear hE3)
                                                                                                                                     | (refine load_midg (by rfl) 26 _ rfl B 1 rfl (sv L.N.all) _ hRN Tryz.underlying26 rfl hI ?_)) | (go_at_call 29; (with_reducible refine (rules_w L.P L.pa L.pc _ _ (HVp.out.ext (by (repeat (with_reducible (first | assumption | exact Ext.refl _ | refine Ext.alloc ?_ _ | refine Ext.drewN ?_ _ | refine Ext.drew ?_))))) Hs1.out (Hm.out.ext (by (repeat (with_reducible (first | assumption | exact Ext.refl _ | refine Ext.alloc ?_ _ | refine Ext.drewN ?_ _ | refine Ext.drew ?_))))) H4.out).mono ?_); rintro e w4 ⟨rfl, hE4⟩; have hX := Ext.trans (show Ext W0 _ from (by (repeat (with_reducible (first | assumption | exact Ext.refl _ | refine Ext.alloc ?_ _ | refine Ext.drewN ?_ _ | refine Ext.drew ?_))))) hE4; have f2c := ((show Ext W0 w4 from (by (repeat (with_reducible (first | assumption | exact Ext.refl _ | refine Ext.alloc ?_ _ | refine Ext.drewN ?_ _ | refine Ext.drew ?_))))).cells B 42 HBk.out.1).trans g2; have f1c := ((show Ext W0 w4 from (by (repeat (with_reducible (first | assumption | exact Ext.refl _ | refine Ext.alloc ?_ _ | refine Ext.drewN ?_ _ | refine Ext.drew ?_))))).cells B 41 HBk.out.1).trans g1; clear hE4) | (go_at_call 29; (with_reducible refine (rules_s L.O L.oa L.oc _ _ (HVo.out.ext (by (repeat (with_reducible (first | assumption | exact Ext.refl _ | refine Ext.alloc ?_ _ | refine Ext.drewN ?_ _ | refine Ext.drew ?_))))) Hs2.out (Hm.out.ext (by (repeat (with_reducible (first | assumption | exact Ext.refl _ | refine Ext.alloc ?_ _ | refine Ext.drewN ?_ _ | refine Ext.drew ?_))))) H5.out).mono ?_); rintro e w5 ⟨rfl, hE5⟩; have hX := Ext.trans (show Ext W0 _ from (by (repeat (with_reducible (first | assumption | exact Ext.refl _ | refine Ext.alloc ?_ _ | refine Ext.drewN ?_ _ | refine Ext.drew ?_))))) hE5; have f1d := ((show Ext W0 w5 from (by (repeat (with_reducible (first | assumption | exact Ext.refl _ | refine Ext.alloc ?_ _ | refine Ext.drewN ?_ _ | refine Ext.drew ?_))))).cells B 41 HBk.out.1).trans g1; clear hE5)))
            go_ret
            exact ⟨by rw [hF.out]; rfl, HE0.out.trans (by (repeat (with_reducible (first | assumption | exact Ext.refl _ | refine Ext.alloc ?_ _ | refine Ext.drewN ?_ _ | refine Ext.drew ?_))))⟩
          · have HB : Hid ((dsB L.P && un) = b) := by rw [Hid, ← hb]; simp
            clear hb
            go_enter Tryz.func9, Tryz.ntmps9
            go_upto_region 1 with fail
            generalize w.alloc (.cells L.vals.toArray 30) = W0 at *
            generalize w.heap.size = B at *
            go_wp2_with (first
              | (go_at_call 26; (with_reducible refine (com_e L.pt _ _ hl2 H1.out).mono ?_); rintro e w1 ⟨ao1, n1, cap1, p1, p2, rfl, hE1⟩; have hX := hE1; have f0 := (hE1.cells B 0 HBk.out.1).trans g0; have f1 := (hE1.cells B 41 HBk.out.1).trans g1; have f2 := (hE1.cells B 42 HBk.out.1).trans g2; have hzB := hE1.lt HBk.out.1; have hXA : Ext W0 (w1.alloc (.cells #[.int .i64 p1, .int .i64 p2] 39)) := hE1.alloc _; have hRN := (HBk.out.ext hXA).names HN.out; clear hE1)
              | (first | (go_at_call 27; (with_reducible refine (zname_c L.nm true _ hl1' H2.out).mono ?_); rintro e w2 ⟨rfl, rfl⟩) | (first
                                                                                                                                        | (go_at_call 28; (with_reducible refine (vnames_l L.N true HN.out _ HNl.out H3.out).mono ?_); rintro e w3 ⟨rfl, hE3⟩; have hX := Ext.trans (show Ext W0 _ from (by (repeat (with_reducible (first | assumption | exact Ext.refl _ | refine Ext.alloc ?_ _ | refine Ext.drewN ?_ _ | refine Ext.drew ?_))))) hE3; have f1b := ((show Ext W0 w3 from (by (repeat (with_reducible (first | assumption | exact Ext.refl _ | refine Ext.alloc ?_ _ | refine Ext.drewN ?_ _ | refine Ext.drew ?_))))).cells B 41 HBk.out.1).trans g1; have f2b := ((show Ext W0 w3 from (by (repeat (with_reducible (first | assumption | exact Ext.refl _ | refine Ext.alloc ?_ _ | refine Ext.drewN ?_ _ | refine Ext.drew ?_))))).cells B 42 HBk.out.1).trans g2; clear hE3)
                                                                                                                                        | (refine load_midg (by rfl) 26 _ rfl B 1 rfl (sv L.N.all) _ hRN Tryz.underlying26 rfl hI ?_)) | (go_at_call 29; (with_reducible refine (rules_w L.P L.pa L.pc true _ (HVp.out.ext (by (repeat (with_reducible (first | assumption | exact Ext.refl _ | refine Ext.alloc ?_ _ | refine Ext.drewN ?_ _ | refine Ext.drew ?_))))) Hs1.out (Hm.out.ext (by (repeat (with_reducible (first | assumption | exact Ext.refl _ | refine Ext.alloc ?_ _ | refine Ext.drewN ?_ _ | refine Ext.drew ?_))))) H4.out).mono ?_); rintro e w4 ⟨rfl, hE4⟩; have hX := Ext.trans (show Ext W0 _ from (by (repeat (with_reducible (first | assumption | exact Ext.refl _ | refine Ext.alloc ?_ _ | refine Ext.drewN ?_ _ | refine Ext.drew ?_))))) hE4; have f2c := ((show Ext W0 w4 from (by (repeat (with_reducible (first | assumption | exact Ext.refl _ | refine Ext.alloc ?_ _ | refine Ext.drewN ?_ _ | refine Ext.drew ?_))))).cells B 42 HBk.out.1).trans g2; have f1c := ((show Ext W0 w4 from (by (repeat (with_reducible (first | assumption | exact Ext.refl _ | refine Ext.alloc ?_ _ | refine Ext.drewN ?_ _ | refine Ext.drew ?_))))).cells B 41 HBk.out.1).trans g1; clear hE4) | (go_at_call 29; (with_reducible refine (rules_s L.O L.oa L.oc true _ (HVo.out.ext (by (repeat (with_reducible (first | assumption | exact Ext.refl _ | refine Ext.alloc ?_ _ | refine Ext.drewN ?_ _ | refine Ext.drew ?_))))) Hs2.out (Hm.out.ext (by (repeat (with_reducible (first | assumption | exact Ext.refl _ | refine Ext.alloc ?_ _ | refine Ext.drewN ?_ _ | refine Ext.drew ?_))))) H5.out).mono ?_); rintro e w5 ⟨rfl, hE5⟩; have hX := Ext.trans (show Ext W0 _ from (by (repeat (with_reducible (first | assumption | exact Ext.refl _ | refine Ext.alloc ?_ _ | refine Ext.drewN ?_ _ | refine Ext.drew ?_))))) hE5; have f1d := ((show Ext W0 w5 from (by (repeat (with_reducible (first | assumption | exact Ext.refl _ | refine Ext.alloc ?_ _ | refine Ext.drewN ?_ _ | refine Ext.drew ?_))))).cells B 41 HBk.out.1).trans g1; clear hE5)))
            go_loopw [42] (fun i wr => ∃ j : Nat, j ≤ L.P.length ∧ i = .int .i64 (j : Int) ∧ Hid (∀ i, i < j → dsAt L.P i) ∧ Ext W0 wr) (fun i _ => L.P.length - (intOf i).toNat)
            case atStart => exact ⟨0, Nat.zero_le _, rfl, fun i hi => absurd hi (Nat.not_lt_zero i), (by (repeat (with_reducible (first | assumption | exact Ext.refl _ | refine Ext.alloc ?_ _ | refine Ext.drewN ?_ _ | refine Ext.drew ?_))))⟩
            case round =>
              obtain ⟨j, hj, rfl, Hall, hE⟩ := hrel
              by_cases hlt : j < L.P.length
              · have e1 := (hE.cells B 41 HBk.out.1).trans g1
                have HNo : Hid (¬ dsAt L.P j → b = false) := fun q => by rw [← HB.out, dsB_no j hlt q]; rfl
                have HYe : Hid (dsAt L.P j → ∀ i, i < j + 1 → dsAt L.P i) := fun q i hi => by
                  by_cases e : i = j
                  · rw [e]; exact q
                  · exact Hall.out i (by omega)
                have HAny := Lib.hid (dsAt_any j hlt)
                have hzr := hE.lt HBk.out.1
                obtain ⟨hv1, hv2, hv3⟩ := HVp.out
                have Hv3 := Lib.hid hv3
                have HVr := Lib.hid ((HVp.out).ext hE)
                clear hv3 HVp f0 f1 f2 f1b f2b f1c f2c f1d g1 g2 g3 g4
                generalize L.pa = pa at *
                obtain ⟨R, off, rfl, hR0, hc⟩ := Hv3.out (by intro e; rw [e] at hlt; simp at hlt)
                obtain ⟨c0, c1⟩ := hc j hlt
                replace c0 := (hE.cells R _ hR0).trans c0
                replace c1 := (hE.cells R _ hR0).trans c1
                have hRr := hE.lt hR0
                obtain ⟨p, hp⟩ : ∃ p, p = L.P[j] := ⟨_, rfl⟩
                rw [← hp] at c0 c1 HAny
                clear hp hc Hv3
                obtain ⟨pc, pr⟩ := p
                simp only at c0 c1 HAny
                obtain ⟨G, hG⟩ : ∃ G, (L.P.take j).any (fun p => p.c == pc) = G := ⟨_, rfl⟩
                have HG := Lib.hid hG
                rw [hG] at HAny
                clear hG
                go_upto_region 9 with fail
                have hEp : Ext wr (wr.alloc (.cells #[.string ⟨pc.toArray⟩, .string ⟨pr.toArray⟩] 50)) := (Ext.refl wr).alloc _
                have y0 : (wr.alloc (.cells #[.string ⟨pc.toArray⟩, .string ⟨pr.toArray⟩] 50)).cell? ⟨wr.heap.size, 0, none⟩ = some (.string ⟨pc.toArray⟩) := by rw [World.cell?_alloc_new]; rfl
                have yz : wr.heap.size < (wr.alloc (.cells #[.string ⟨pc.toArray⟩, .string ⟨pr.toArray⟩] 50)).heap.size := by simp
                generalize wr.alloc (.cells #[.string ⟨pc.toArray⟩, .string ⟨pr.toArray⟩] 50) = V at hEp y0 yz ⊢
                generalize wr.heap.size = D at y0 yz ⊢
                have e1V := (hEp.cells B 41 hzr).trans e1
                have HVV := Lib.hid (HVr.out.ext hEp)
                have Hy0 := Lib.hid y0
                cases G
                · have HS := Lib.hid (HYe.out (HAny.out.1 rfl))
                  go_wp2_with (first
                    | (go_at_call 32; (with_reducible refine (conP_t L.P j (by omega) _ _ D pc false _ HVV.out Hy0.out yz HG.out).mono ?_); rintro e w7 ⟨rfl, hE7⟩))
                  go_roundw
                  case rel => exact ⟨j + 1, by omega, by go_num, HS.out, hE.trans (hEp.trans (by (repeat (with_reducible (first | assumption | exact Ext.refl _ | refine Ext.alloc ?_ _ | refine Ext.drewN ?_ _ | refine Ext.drew ?_)))))⟩
                  case measure => simp [intOf]; omega
                · have HF := Lib.hid (HNo.out (fun q => by have := HAny.out.2 q; cases this))
                  go_wp2_with (first
                    | (go_at_call 32; (with_reducible refine (conP_t L.P j (by omega) _ _ D pc true _ HVV.out Hy0.out yz HG.out).mono ?_); rintro e w7 ⟨rfl, hE7⟩))
                  go_ret
                  exact ⟨by rw [HF.out]; rfl, HE0.out.trans (hE.trans (hEp.trans (by (repeat (with_reducible (first | assumption | exact Ext.refl _ | refine Ext.alloc ?_ _ | refine Ext.drewN ?_ _ | refine Ext.drew ?_))))))⟩
              · obtain rfl : j = L.P.length := by omega
                have HU : Hid (un = b) := by rw [Hid, ← HB.out, dsB_yes Hall.out]; rfl
                have hR := (HBk.out.ext hE).2
                go_wp2_with (first
                  | (refine load_midg (by rfl) 30 _ rfl B 0 rfl L.vals _ hR Tryz.underlying30 rfl hIL ?_)
                  | (go_at_call 34; (with_reducible refine (units_c L un _ (HV.out.ext hE) Hs.out H7.out).mono ?_); rintro e w6 ⟨rfl, hE6⟩))
                go_ret
                exact ⟨by rw [HU.out]; rfl, HE0.out.trans (hE.trans hE6)⟩
  · have t1 : ((ce : Int) != 0) = true := by rw [bne_iff_ne]; omega
    have hF : Hid (b = false) := by rw [Hid, ← hb, decide_eq_false hce]; rfl
    clear hb hce
    go_enter Tryz.func9, Tryz.ntmps9
    go_upto_region 1 with fail
    generalize w.alloc (.cells L.vals.toArray 30) = W0 at *
    generalize w.heap.size = B at *
    go_wp2_with (first
      | (go_at_call 26; (with_reducible refine (com_e L.pt _ _ hl2 H1.out).mono ?_); rintro e w1 ⟨ao1, n1, cap1, p1, p2, rfl, hE1⟩; have hX := hE1; have f0 := (hE1.cells B 0 HBk.out.1).trans g0; have f1 := (hE1.cells B 41 HBk.out.1).trans g1; have f2 := (hE1.cells B 42 HBk.out.1).trans g2; have hzB := hE1.lt HBk.out.1; have hXA : Ext W0 (w1.alloc (.cells #[.int .i64 p1, .int .i64 p2] 39)) := hE1.alloc _; have hRN := (HBk.out.ext hXA).names HN.out; clear hE1)
      | fail)
    go_ret
    exact ⟨by rw [hF.out]; rfl, HE0.out.trans (by (repeat (with_reducible (first | assumption | exact Ext.refl _ | refine Ext.alloc ?_ _ | refine Ext.drewN ?_ _ | refine Ext.drew ?_))))⟩
end Go.Proofs.YtnhdmnhfllecgaaGreatDoor
