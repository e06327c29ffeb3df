/- Patterns: the walk of Format. -/
import Derived.Test.YticckkadmhklmaaGreatDoorK11
import Derived.Test.YticckkadmhklmaaGreatDoorK12
import Derived.Test.YticckkadmhklmaaGreatDoorK13
namespace Go.Proofs.YticckkadmhklmaaGreatDoor
set_option linter.unusedVariables false
set_option linter.unusedSimpArgs false
open Go.RowKit Go.Maps

/-- The load of a long struct, guarded or not. -/
theorem wpList_load_midg {P : Program} {ops : Array Oper} {rest : List Oper} {op : Oper} {a : Act} {w : World} {Q : Exit → Act → World → Prop} (hw : Region.wanted op (yielded ops a.tmps) = true) (ty : TypeId) (x : Operand) (ho : op.op = .load ty x)
    (b o : Nat) (hx : a.eval x = .pointer (some ⟨b, o, none⟩)) (cs : List Value) (d : TypeDesc) (hc : w.rangeAt b o cs)
    (hu : P.underlying ty = some d) (hd : d.isRow = true) (hi : (P.info? ty).map (·.size) = some cs.length)
    (h : wpList P ops Q rest (a.put op.dst (.agg cs.toArray)) w) : wpList P ops Q (op :: rest) a w := by
  unfold wpList
  rw [if_pos hw]
  exact .inl (wp_load_mid ty x ho b o hx cs d hc hu hd hi h)
theorem rangeAt_ext {w w' : World} {b : Nat} {cs : List Value} (h : w.rangeAt b 0 cs) (hb : b < w.heap.size) (hE : Ext w w') : w'.rangeAt b 0 cs := fun j v hv => (hE.cells _ _ hb).trans (h j v hv)
theorem RdS_of_cells {N : Nms} {B' : Nat} {w : World} (hB : B' < w.heap.size) (h : ∀ o, w.cell? ⟨B', o, none⟩ = (sv N.all).toArray[o]?) : RdS N.all B' 0 w := ⟨hB, fun i hi => by
  rw [h, Nat.zero_add]
  simp [sv, hi]⟩
/-- The five lists, as a map in whatever memory. -/
def LsR (N : Nms) (x : Value) (w : World) : Prop := ∃ b B' D, x = .map (some b) ∧ w.ownsMap Tryz.prog 3 (slR B') b 5 D ∧ (∀ (z : Int) zd, D.atKey (.int .i64 z) zd = insAt (lsJ B') z zd) ∧ RdS N.all B' 0 w
theorem LsR.ext {N : Nms} {x : Value} {w w' : World} (h : LsR N x w) (hE : Ext w w') : LsR N x w' := by
  obtain ⟨b, B', D, h1, h2, h3, h4⟩ := h
  exact ⟨b, B', D, h1, h2.kept (grown_ext hE none) (by simp), h3, h4.ext hE⟩
def LsK (N : Nms) (O n : Nat) (x : Value) (w : World) : Prop := ∃ B', x = .slice (some ⟨B', O, none⟩) n n ∧ RdS N.all B' 0 w
theorem LsK.ext {N : Nms} {O n : Nat} {x : Value} {w w' : World} (h : LsK N O n x w) (hE : Ext w w') : LsK N O n x w' := by
  obtain ⟨B', h1, h2⟩ := h
  exact ⟨B', h1, h2.ext hE⟩
def LsP (N : Nms) (O : Nat) (x : Value) (w : World) : Prop := ∃ B', x = .pointer (some ⟨B', O, none⟩) ∧ RdS N.all B' 0 w
theorem LsP.ext {N : Nms} {O : Nat} {x : Value} {w w' : World} (h : LsP N O x w) (hE : Ext w w') : LsP N O x w' := by
  obtain ⟨B', h1, h2⟩ := h
  exact ⟨B', h1, h2.ext hE⟩
theorem lists_R (N : Nms) (w : World) : Calls Tryz.prog 36 #[.agg (sv N.all).toArray] w fun e w' => ∃ x, e = .returned x ∧ LsR N x w' ∧ Ext w w' :=
  (lists_c _ w).mono fun _ _ ⟨b, D, h1, h2, h3, h4, h5, h6⟩ => ⟨_, h1, ⟨b, _, D, rfl, h2, h3, RdS_of_cells h4 h5⟩, h6⟩
theorem ld_int (p : Addr) (x : Value) (w : World) (hc : w.cell? p = some x) : (Instr.loadAt 3 (.pointer (some p))).run Tryz.prog w = .ok x w := by go_simp
theorem ld_str (p : Addr) (x : Value) (w : World) (hc : w.cell? p = some x) : (Instr.loadAt 9 (.pointer (some p))).run Tryz.prog w = .ok x w := by go_simp
theorem ix_str (B O n v : Nat) (w : World) (hv : v < n) : (Instr.indexAt 59 (.slice (some ⟨B, O, none⟩) n n) (.int .i64 (v : Int))).run Tryz.prog w = .ok (.pointer (some ⟨B, O + v, none⟩)) w := by
  have h1 : (v : Int) < (n : Int) := by omega
  go_simp
theorem valid_lit (l : List Prt) (b : Bool) (ao : Option Addr) (cap : Nat) (w : World) (h : PtV ao cap l w) (hl : ∀ p ∈ l, p.t.length ≤ 4000) (hv : validB l = b) :
    Calls Tryz.prog 29 #[.slice ao l.length cap] w fun e w' => e = .returned (.bool b) ∧ Ext w w' := by
  rw [← hv]; exact pvalid_c l ao cap w h hl
theorem names_lit (N : Nms) (b : Bool) (hN : N.ok) (w : World) (hl : ∀ s ∈ N.all, s.length ≤ 100000) (hv : nmOk N = b) : Calls Tryz.prog 11 #[.agg (sv N.all).toArray] w fun e w' => e = .returned (.bool b) ∧ Ext w w' := by
  rw [← hv]; exact validnames_c N hN w hl
theorem typ_lit (s : List UInt8) (b : Bool) (w : World) (hs : s.length ≤ 100000) (hv : typB s = b) : Calls Tryz.prog 60 #[.string ⟨s.toArray⟩] w fun e w' => e = .returned (.bool b) ∧ w = w' := by
  rw [← hv]; exact typeName_c s w (by omega)
theorem fmt1_len {N : Nms} {F : Fv} {o : Int} {tn : List UInt8} (hN : N.ok) (hn : nmOk N = true) (hF : F.ok) (ho : o.natAbs < 93600) (ht : typB tn = true) {p : Prt} (hp : partB p = true) : (fmt1 N F o tn p).length ≤ 200 := by
  rcases kinds p hp with h | h | h | h | h
  · unfold fmt1
    rw [if_pos h]
    unfold partB at hp
    rw [if_pos h] at hp
    simp only [Bool.and_eq_true, decide_eq_true_eq] at hp
    omega
  · have e : fmt1 N F o tn p = offT o := by unfold fmt1; rw [if_neg (by omega), if_pos h]
    obtain ⟨sg, a1, a2, a3, a4, h1, d1, d2, d3, d4, h2⟩ := offT_eq o ho
    rw [e]
    rcases h2 with ⟨_, h2⟩ | ⟨x, y, dx, dy, h2⟩ <;> rw [h2] <;> simp
  · have e : fmt1 N F o tn p = tn := by unfold fmt1; rw [if_neg (by omega), if_neg (by omega), if_pos h]
    rw [e]
    have := (typB_parts ht).2.1
    omega
  · obtain ⟨n1, n2, n3⟩ := num_not h
    obtain ⟨w1, w2⟩ := num_width hp h
    have e : fmt1 N F o tn p = itx (valK F p.k) p.w.toNat := by unfold fmt1; rw [if_neg n1, if_neg n2, if_neg n3, if_pos h]
    rw [e]
    have hz : fullZ p.k ≤ 4 := by unfold fullZ; split <;> (try split) <;> omega
    have := (itx_len_le (n := valK F p.k) (k := p.w.toNat) (m := (fullZ p.k).toNat) (by omega) (by omega) (num_val hF h)).2.1
    omega
  · obtain ⟨n1, n2, n3, n4⟩ := nam_not h
    have hl := names_len N hN F hF p.k h
    have e : fmt1 N F o tn p = (lstK N p.k)[valK F p.k] := by unfold fmt1; rw [if_neg n1, if_neg n2, if_neg n3, if_neg n4]; simp [List.getD, hl]
    rw [e]
    have h2 := names_ok N hn p.k
    unfold nmsB at h2
    rw [nmsL_iff] at h2
    have := h2.1 _ (List.getElem_mem hl)
    unfold nameB at this
    simp only [Bool.and_eq_true, decide_eq_true_eq] at this
    omega
theorem offset_l (o : Int) (X : List UInt8) (w : World) (ho : o.natAbs < 93600) (h : offT o = X) : Calls Tryz.prog 61 #[.int .i64 o] w fun e w' => e = .returned (.string ⟨X.toArray⟩) ∧ Ext w w' := by
  rw [← h]; exact offset_c o w ho
theorem value_l {F : Fv} {t : Int} (hF : IsF F t) (k : Int) (v : Nat) (w : World) (h : v = valK F k) : Calls Tryz.prog 62 #[.int .i64 k, .int .i64 t] w fun e w' => e = .returned (.int .i64 (v : Int)) ∧ Ext w w' := by
  rw [h]; exact value_c hF k w
theorem text_w (v : Nat) (wd : Int) (X : List UInt8) (w : World) (hv : v ≤ 100000) (h1 : 0 ≤ wd) (h2 : wd ≤ 20) (h : itx v wd.toNat = X) : Calls Tryz.prog 63 #[.int .i64 (v : Int), .int .i64 wd] w fun e w' => e = .returned (.string ⟨X.toArray⟩) ∧ Ext w w' := by
  have q := text_l v wd.toNat X w (by omega) (by omega) h
  rw [show ((wd.toNat : Nat) : Int) = wd by omega] at q
  exact q
set_option maxRecDepth 100000 in
set_option maxHeartbeats 4000000 in
theorem format_ok (l : List Prt) (N : Nms) (F : Fv) (o sa l0 : Int) (tn : List UInt8) (ao : Option Addr) (cap : Nat) (w : World) (h : PtV ao cap l w) (hl : ∀ p ∈ l, p.t.length ≤ 4000) (hN : N.ok) (hNl : ∀ s ∈ N.all, s.length ≤ 100000)
    (hv : validB l = true) (hn : nmOk N = true) (ho1 : -93600 < o) (ho2 : o < 93600) (htl : tn.length ≤ 100000) (ht : typB tn = true) (hF : IsF F l0) :
    Calls Tryz.prog 21 #[.slice ao l.length cap, .agg (sv N.all).toArray, .int .i64 l0, .agg #[.int .i64 o, .int .i64 sa, .string ⟨tn.toArray⟩]] w fun e w' => e = .returned (.tuple #[.string ⟨(fmtL N F o tn l).toArray⟩, .int .i64 0]) ∧ Ext w w' := by
  have hI := names_size hN
  have hR : ((w.alloc (.cells (sv N.all).toArray 27)).alloc (.cells #[.int .i64 o, .int .i64 sa, .string ⟨tn.toArray⟩] 52)).rangeAt w.heap.size 0 (sv N.all) := by
    intro j v hv
    rw [World.cell?_alloc_lt _ _ _ (by simp), Nat.zero_add, World.cell?_alloc_new]
    simpa using hv
  have hEW : Ext w ((w.alloc (.cells (sv N.all).toArray 27)).alloc (.cells #[.int .i64 o, .int .i64 sa, .string ⟨tn.toArray⟩] 52)) := ((Ext.refl w).alloc _).alloc _
  have t0 : ((w.alloc (.cells (sv N.all).toArray 27)).alloc (.cells #[.int .i64 o, .int .i64 sa, .string ⟨tn.toArray⟩] 52)).cell? ⟨w.heap.size + 1, 0, none⟩ = some (.int .i64 o) := by
    simp
  have t2 : ((w.alloc (.cells (sv N.all).toArray 27)).alloc (.cells #[.int .i64 o, .int .i64 sa, .string ⟨tn.toArray⟩] 52)).cell? ⟨w.heap.size + 1, 2, none⟩ = some (.string ⟨tn.toArray⟩) := by
    simp
  have hz1 : w.heap.size < ((w.alloc (.cells (sv N.all).toArray 27)).alloc (.cells #[.int .i64 o, .int .i64 sa, .string ⟨tn.toArray⟩] 52)).heap.size := by simp; omega
  have hz2 : w.heap.size + 1 < ((w.alloc (.cells (sv N.all).toArray 27)).alloc (.cells #[.int .i64 o, .int .i64 sa, .string ⟨tn.toArray⟩] 52)).heap.size := by simp
  have hins := insT_iff.1 hF.insT
  obtain ⟨r1, r2⟩ := hins
  have Hv := Lib.hid hv
  have Hn := Lib.hid hn
  have Ht := Lib.hid ht
  have Hl := Lib.hid hl
  have HN := Lib.hid hN
  have HNl := Lib.hid hNl
  have HF := Lib.hid hF
  have Hpt := Lib.hid h
  clear hv hn ht hl hN hNl hF h
  go_enter Tryz.func21, Tryz.ntmps21
  go_upto_region 1 with fail
  generalize (w.alloc (.cells (sv N.all).toArray 27)).alloc (.cells #[.int .i64 o, .int .i64 sa, .string ⟨tn.toArray⟩] 52) = W0 at hR hEW t0 t2 hz1 hz2 ⊢
  generalize w.heap.size + 1 = T at t0 t2 hz2 ⊢
  generalize hB : w.heap.size = B at hR hz1 ⊢
  have HB := Lib.hid hB
  clear hB
  go_wp2_with (first
    | (go_at_call 29; (with_reducible refine (valid_lit l true ao cap _ (Hpt.out.ext hEW) Hl.out Hv.out).mono ?_); rintro e w1 ⟨rfl, hE1⟩; have hR1 := rangeAt_ext hR hz1 hE1)
    | (refine wpList_load_midg (by rfl) 27 _ rfl B 0 rfl (sv N.all) _ hR1 Tryz.underlying27 rfl hI ?_)
    | (go_at_call 11; (with_reducible refine (names_lit N true HN.out _ HNl.out Hn.out).mono ?_); rintro e w2 ⟨rfl, hE2⟩; have t0b := ((hE1.trans hE2).cells _ _ hz2).trans t0; have t2b := ((hE1.trans hE2).cells _ _ hz2).trans t2)
    | (go_at_call 60; (with_reducible refine (typ_lit tn true _ htl Ht.out).mono ?_); rintro e w3 ⟨rfl, rfl⟩))
  have hE02 := hE1.trans hE2
  have hR2 := rangeAt_ext hR1 (hE1.lt hz1) hE2
  have hB2 := hE02.lt hz1
  have hT2 := hE02.lt hz2
  have h40 : l.length ≤ 40 := by
    have := Hv.out
    unfold validB at this
    simp only [Bool.and_eq_true, decide_eq_true_eq] at this
    exact this.1
  have HP : Hid (∀ p ∈ l, partB p = true) := by
    have := Hv.out
    unfold validB at this
    simp only [Bool.and_eq_true, decide_eq_true_eq] at this
    exact tailB_all l none this.2
  have hlen := Hpt.out.1
  have hcap := Hpt.out.2.1
  unfold maxLen at hcap
  have hEw2 := hEW.trans hE02
  have Hpt2 := Lib.hid (Hpt.out.ext hEw2)
  have ho : o.natAbs < 93600 := by omega
  clear hR hR1 hE1 hE2 hE02 t0 t2 hz1 hz2 hEW Hpt
  generalize W0.heap.size = z0 at *
  go_loopw [10, 47] (fun out i wr => ∃ (j : Nat) (L : List UInt8), j ≤ l.length ∧ i = .int .i64 (j : Int) ∧ out = .string ⟨L.toArray⟩ ∧ Hid (L = fmtL N F o tn (l.take j)) ∧ L.length ≤ 200 * j ∧ Ext w2 wr) (fun _ i _ => l.length - (intOf i).toNat)
  case atStart => exact ⟨0, [], Nat.zero_le _, rfl, rfl, rfl, Nat.le_refl _, Ext.refl _⟩
  case round =>
    obtain ⟨j, L, hj, rfl, rfl, HL, hLl, hE⟩ := hrel
    have t0r := (hE.cells _ _ hT2).trans t0b
    have t2r := (hE.cells _ _ hT2).trans t2b
    have hTr := hE.lt hT2
    by_cases hlt : j < l.length
    · obtain ⟨R, off, rfl, hR0, hc⟩ := Hpt2.out.2.2 (by rintro rfl; simp at hlt)
      have hRr := hE.lt hR0
      obtain ⟨c0, c1, c2⟩ := hc j hlt
      replace c0 := (hE.cells R _ hR0).trans c0
      replace c1 := (hE.cells R _ hR0).trans c1
      replace c2 := (hE.cells R _ hR0).trans c2
      have hp := HP.out l[j] (List.getElem_mem _)
      have HS : Hid (fmtL N F o tn (l.take (j + 1)) = fmtL N F o tn (l.take j) ++ fmt1 N F o tn l[j]) := by
        unfold Hid fmtL
        rw [List.take_succ_eq_append_getElem hlt, List.flatMap_append]
        simp
      have hfl := fmt1_len (N := N) (F := F) (o := o) (tn := tn) HN.out Hn.out HF.out.ok ho Ht.out hp
      obtain ⟨p, hpp⟩ : ∃ p, p = l[j] := ⟨_, rfl⟩
      rw [← hpp] at c0 c1 c2 hp HS hfl
      clear hpp hc
      have hkk := kinds p hp
      have Hp := Lib.hid hp
      obtain ⟨k, wd, t⟩ := p
      simp only at c0 c1 c2 hkk
      clear hp
      obtain ⟨X, hX⟩ : ∃ X, X = fmt1 N F o tn ⟨k, wd, t⟩ := ⟨_, rfl⟩
      rw [← hX] at HS hfl
      have HX := Lib.hid hX
      clear hX
      have HLn : Hid (L ++ X = fmtL N F o tn (l.take (j + 1))) := by rw [Hid, HS.out, HL.out]
      have hLX : L.length + X.length ≤ 100000 := by omega
      have hLX2 : ¬ 9223372036854775807 < L.length + X.length := by omega
      have hEp : Ext w2 (wr.alloc (.cells #[.int .i64 k, .int .i64 wd, .string ⟨t.toArray⟩] 38)) := hE.trans ((Ext.refl wr).alloc _)
      rcases hkk with hk | hk | hk | hk | hk
      · subst hk
        have hXt : X = t := by rw [HX.out]; rfl
        subst hXt
        go_wp2_with fail
        go_roundw
        case rel => exact ⟨j + 1, L ++ X, by omega, by go_num, by rw [app_str], HLn, by rw [List.length_append]; omega, hEp⟩
        case measure => simp [intOf]; omega
      · subst hk
        have hXt : offT o = X := by rw [HX.out]; rfl
        have HXt := Lib.hid hXt
        clear hXt
        go_wp2_with (first
          | (go_at_call 61; (with_reducible refine (offset_l o X _ ho HXt.out).mono ?_); rintro e w4 ⟨rfl, hE4⟩))
        go_roundw
        case rel => exact ⟨j + 1, L ++ X, by omega, by go_num, by rw [app_str], HLn, by rw [List.length_append]; omega, hEp.trans hE4⟩
        case measure => simp [intOf]; omega
      · subst hk
        have hXt : X = tn := by rw [HX.out]; rfl
        subst hXt
        go_wp2_with fail
        go_roundw
        case rel => exact ⟨j + 1, L ++ X, by omega, by go_num, by rw [app_str], HLn, by rw [List.length_append]; omega, hEp⟩
        case measure => simp [intOf]; omega
      · obtain ⟨n1, n2, n3⟩ := num_not hk
        have n4 : k ≠ 4 ∧ k ≠ 5 ∧ k ≠ 7 ∧ k ≠ 8 ∧ k ≠ 13 := by
          refine ⟨?_, ?_, ?_, ?_, ?_⟩ <;> (rintro rfl; revert hk; decide)
        obtain ⟨m1, m2, m3, m4, m5⟩ := n4
        obtain ⟨w1, w2⟩ := num_width Hp.out hk
        have hz : fullZ k ≤ 4 := by unfold fullZ; split <;> (try split) <;> omega
        have hXt : itx (valK F k) wd.toNat = X := by rw [HX.out]; unfold fmt1; rw [if_neg n1, if_neg n2, if_neg n3, if_pos hk]
        have hval := num_val HF.out.ok hk
        obtain ⟨v, hv⟩ : ∃ v, v = valK F k := ⟨_, rfl⟩
        rw [← hv] at hXt hval
        have HV := Lib.hid hv
        have HXt := Lib.hid hXt
        have hv1 : v ≤ 100000 := by
          have : (10 : Nat) ^ (fullZ k).toNat ≤ 10 ^ 4 := Nat.pow_le_pow_right (by decide) (by omega)
          omega
        have b1 : (k == 1) = false := by simpa using n1
        have b2 : (k == 14) = false := by simpa using n2
        have b3 : (k == 15) = false := by simpa using n3
        have b4 : (k == 4) = false := by simpa using m1
        have b5 : (k == 5) = false := by simpa using m2
        have b6 : (k == 7) = false := by simpa using m3
        have b7 : (k == 8) = false := by simpa using m4
        have b8 : (k == 13) = false := by simpa using m5
        clear hk hval hXt hv n1 n2 n3 m1 m2 m3 m4 m5
        go_wp2_with fail
        have y0 : (wr.alloc (.cells #[.int .i64 k, .int .i64 wd, .string ⟨t.toArray⟩] 38)).cell? ⟨wr.heap.size, 0, none⟩ = some (.int .i64 k) := by rw [World.cell?_alloc_new]; rfl
        have y1 : (wr.alloc (.cells #[.int .i64 k, .int .i64 wd, .string ⟨t.toArray⟩] 38)).cell? ⟨wr.heap.size, 1, none⟩ = some (.int .i64 wd) := by rw [World.cell?_alloc_new]; rfl
        have yz : wr.heap.size < (wr.alloc (.cells #[.int .i64 k, .int .i64 wd, .string ⟨t.toArray⟩] 38)).heap.size := by simp
        generalize wr.alloc (.cells #[.int .i64 k, .int .i64 wd, .string ⟨t.toArray⟩] 38) = V at hEp y0 y1 yz ⊢
        generalize wr.heap.size = D at y0 y1 yz ⊢
        first
          | (go_region_held3 (fun w' => w'.cell? ⟨D, 0, none⟩ = some (.int .i64 k) ∧ w'.cell? ⟨D, 1, none⟩ = some (.int .i64 wd) ∧ D < w'.heap.size) (first | go_keep | exact S1.out | exact S2.out)
              (first
                | (go_at_call 62; (with_reducible refine (value_l HF.out k v _ HV.out).mono ?_); rintro e w5 ⟨rfl, hE5⟩; have S1 := Lib.hid (show w5.cell? ⟨D, 0, none⟩ = some (.int .i64 k) ∧ w5.cell? ⟨D, 1, none⟩ = some (.int .i64 wd) ∧ D < w5.heap.size from ⟨(hE5.cells _ _ yz).trans y0, (hE5.cells _ _ yz).trans y1, hE5.lt yz⟩))
                | (go_at_call 63; (with_reducible refine (text_w v wd X _ hv1 (by omega) (by omega) HXt.out).mono ?_); rintro e w6 ⟨rfl, hE6⟩; have S2 := Lib.hid (show w6.cell? ⟨D, 0, none⟩ = some (.int .i64 k) ∧ w6.cell? ⟨D, 1, none⟩ = some (.int .i64 wd) ∧ D < w6.heap.size from ⟨(hE6.cells _ _ S1.out.2.2).trans S1.out.1, (hE6.cells _ _ S1.out.2.2).trans S1.out.2.1, hE6.lt S1.out.2.2⟩))))
          | fail "region"
        all_goals
          go_wp2_with fail
          go_roundw
          case rel => exact ⟨j + 1, L ++ X, by omega, by go_num, by rw [app_str], HLn, by rw [List.length_append]; omega, hEp.trans ((Ext.refl V).drew.trans (hE5.trans hE6))⟩
          case measure => simp [intOf]; omega
      · have HKK := Lib.hid hk
        obtain ⟨n1, n2, n3, n4⟩ := nam_not hk
        have hvn := names_len N HN.out F HF.out.ok k hk
        have hXt : X = (lstK N k)[valK F k] := by rw [HX.out]; unfold fmt1; rw [if_neg n1, if_neg n2, if_neg n3, if_neg n4]; simp [List.getD, hvn]
        have HLK : Hid (∀ (b' B' : Nat) (D' : DataW Unit) (W : World), W.ownsMap Tryz.prog 3 (slR B') b' 5 D' → (∀ (z : Int) zd, D'.atKey (.int .i64 z) zd = insAt (lsJ B') z zd) →
            Sem.run Tryz.prog (Instr.lookup 66 (.map (some b')) (.int .i64 k) false) W = .ok (.slice (some ⟨B', offK k, none⟩) (lstK N k).length (lstK N k).length) W) := fun b' B' D' W h1 h2 => lookup_ls h1 h2 HN.out hk
        have HNM : Hid (∀ (B' : Nat) (W : World), RdS N.all B' 0 W → W.cell? ⟨B', offK k + valK F k, none⟩ = some (.string ⟨X.toArray⟩)) := fun B' W h => by
          have := (names_at HN.out h hk).2 (valK F k) hvn
          rw [this, hXt]
        obtain ⟨n, hn⟩ : ∃ n, n = (lstK N k).length := ⟨_, rfl⟩
        obtain ⟨O, hO⟩ : ∃ O, O = offK k := ⟨_, rfl⟩
        obtain ⟨v, hv⟩ : ∃ v, v = valK F k := ⟨_, rfl⟩
        have HV := Lib.hid hv
        rw [← hn, ← hO] at HLK
        rw [← hO, ← hv] at HNM
        rw [← hn, ← hv] at hvn
        have hvn2 : (v : Int) < (n : Int) := by omega
        clear hXt hn hO hv n1 n2 n3 n4
        rcases hk with rfl | rfl | rfl | rfl | rfl
        · go_wp2_with fail
          have y0 : (wr.alloc (.cells #[.int .i64 4, .int .i64 wd, .string ⟨t.toArray⟩] 38)).cell? ⟨wr.heap.size, 0, none⟩ = some (.int .i64 4) := by rw [World.cell?_alloc_new]; rfl
          have yz : wr.heap.size < (wr.alloc (.cells #[.int .i64 4, .int .i64 wd, .string ⟨t.toArray⟩] 38)).heap.size := by simp
          have yR := rangeAt_ext hR2 hB2 hEp
          have yB := hEp.lt hB2
          generalize wr.alloc (.cells #[.int .i64 4, .int .i64 wd, .string ⟨t.toArray⟩] 38) = V at hEp y0 yz yR yB ⊢
          generalize wr.heap.size = D at y0 yz ⊢
          refine wp_region_grow [87, 88, 89, 90, 91, 92, 93, 94, 95, 96, 97, 98, 99] [fun x _ => x = .string ⟨L.toArray⟩, fun x _ => x = .agg (sv N.all).toArray, LsR N, fun x _ => x = .pointer (some ⟨D, 0, none⟩), fun x _ => x = .int .i64 4, LsK N O n, fun x _ => x = .pointer (some ⟨D, 0, none⟩), fun x _ => x = .int .i64 4, fun x _ => x = .int .i64 l0, fun x _ => x = .int .i64 (v : Int), LsP N (O + v), fun x _ => x = .string ⟨X.toArray⟩, fun x _ => x = .string (⟨L.toArray⟩ ++ ⟨X.toArray⟩)] 1 (by kernel_rfl) (by kernel_rfl) (by kernel_rfl) (by kernel_rfl) ?_ ?_ ?_
          · intro R hR
            simp only [List.mem_cons, List.not_mem_nil, or_false] at hR
            rcases hR with rfl | rfl | rfl | rfl | rfl | rfl | rfl | rfl | rfl | rfl | rfl | rfl | rfl
            all_goals first
              | exact fun _ _ _ h _ => h
              | exact fun _ _ _ h hE => LsR.ext h hE
              | exact fun _ _ _ h hE => LsK.ext h hE
              | exact fun _ _ _ h hE => LsP.ext h hE
          · refine ⟨?_, ?_, ?_, ?_, ?_, ?_, ?_, ?_, ?_, ?_, ?_, ?_, ?_, trivial⟩
            all_goals intro a w hE hF hD K hK
            · exact gs_val rfl (yr_move rfl ((hF 10 (fr_of rfl)).trans rfl)) (hK _ _ rfl (Ext.refl _))
            · exact gs_val rfl (yr_load rfl ((hF 5 (fr_of rfl)).trans rfl) (run_loadAt_mid w B 0 _ _ _ (rangeAt_ext yR yB hE) Tryz.underlying27 rfl hI)) (hK _ _ rfl (Ext.refl _))
            · have h1 : a.eval (.tmp 88) = .agg (sv N.all).toArray := hD 1 (by kernel_rfl)
              exact gs_call rfl (yr_call rfl rfl (show (#[Operand.tmp 88] : Array Operand).map a.eval = #[.agg (sv N.all).toArray] by simp [h1]) (by kernel_rfl)) (lists_R N w) hK
            · exact gs_val rfl (yr_field rfl ((hF 12 (fr_of rfl)).trans rfl) (by go_simp)) (hK _ _ rfl (Ext.refl _))
            · have h1 : a.eval (.tmp 90) = .pointer (some ⟨D, 0, none⟩) := hD 3 (by kernel_rfl)
              exact gs_val rfl (yr_load rfl h1 (ld_int _ _ _ ((hE.cells _ _ yz).trans y0))) (hK _ _ rfl (Ext.refl _))
            · have h1 : LsR N (a.eval (.tmp 89)) w := hD 2 (by kernel_rfl)
              have h2 : a.eval (.tmp 91) = .int .i64 4 := hD 4 (by kernel_rfl)
              obtain ⟨b5, B5, D5, e1, e2, e3, e4⟩ := h1
              exact gs_val rfl (yr_look rfl e1 h2 (HLK.out b5 B5 D5 w e2 e3)) (hK _ _ ⟨B5, rfl, e4⟩ (Ext.refl _))
            · exact gs_val rfl (yr_field rfl ((hF 12 (fr_of rfl)).trans rfl) (by go_simp)) (hK _ _ rfl (Ext.refl _))
            · have h1 : a.eval (.tmp 93) = .pointer (some ⟨D, 0, none⟩) := hD 6 (by kernel_rfl)
              exact gs_val rfl (yr_load rfl h1 (ld_int _ _ _ ((hE.cells _ _ yz).trans y0))) (hK _ _ rfl (Ext.refl _))
            · exact gs_val rfl (yr_move rfl ((hF 2 (fr_of rfl)).trans rfl)) (hK _ _ rfl (Ext.refl _))
            · have h1 : a.eval (.tmp 94) = .int .i64 4 := hD 7 (by kernel_rfl)
              have h2 : a.eval (.tmp 95) = .int .i64 l0 := hD 8 (by kernel_rfl)
              exact gs_call rfl (yr_call rfl rfl (show (#[Operand.tmp 94, Operand.tmp 95] : Array Operand).map a.eval = #[.int .i64 4, .int .i64 l0] by simp [h1, h2]) (by kernel_rfl)) ((value_l HF.out 4 v w HV.out).mono fun e w' ⟨h1, h2⟩ => ⟨_, h1, rfl, h2⟩) hK
            · have h1 : LsK N O n (a.eval (.tmp 92)) w := hD 5 (by kernel_rfl)
              have h2 : a.eval (.tmp 96) = .int .i64 (v : Int) := hD 9 (by kernel_rfl)
              obtain ⟨B5, e1, e2⟩ := h1
              exact gs_val rfl (yr_idxa rfl e1 h2 (ix_str B5 O n v w (by omega))) (hK _ _ ⟨B5, rfl, e2⟩ (Ext.refl _))
            · have h1 : LsP N (O + v) (a.eval (.tmp 97)) w := hD 10 (by kernel_rfl)
              obtain ⟨B5, e1, e2⟩ := h1
              exact gs_val rfl (yr_load rfl e1 (ld_str _ _ _ (HNM.out B5 w e2))) (hK _ _ rfl (Ext.refl _))
            · have h1 : a.eval (.tmp 87) = .string ⟨L.toArray⟩ := hD 0 (by kernel_rfl)
              have h2 : a.eval (.tmp 98) = .string ⟨X.toArray⟩ := hD 11 (by kernel_rfl)
              exact gs_val rfl (yr_adds rfl h1 h2 (show L.toArray.size + X.toArray.size ≤ _ by simp; omega)) (hK _ _ rfl (Ext.refl _))
          · intro vals w6 hE6 hR
            obtain ⟨h0, h1, -, h3, h4, -, h6, h7, h8, h9, -, h11, h12, -⟩ := hR
            have e12 : vals 12 = .string (⟨L.toArray⟩ ++ ⟨X.toArray⟩) := h12
            simp only [putF, Act.put, List.length_cons, List.length_nil, List.getD_cons_zero, List.getD_cons_succ, List.setIfInBounds_toArray, List.set_cons_zero, List.set_cons_succ, Nat.reduceAdd]
            refine wpAny_one (i := 13) (v := .string (⟨L.toArray⟩ ++ ⟨X.toArray⟩)) (w' := w6) (by kernel_rfl) rfl (by rfl) (by exact yr_assign rfl e12) ?_
            refine wpAny_done (by kernel_rfl) ?_ _
            simp only [Act.put, List.setIfInBounds_toArray, List.set_cons_zero, List.set_cons_succ]
            go_wp2_with fail
            go_roundw
            case rel => exact ⟨j + 1, L ++ X, by omega, by go_num, by rw [app_str], HLn, by rw [List.length_append]; omega, hEp.trans hE6⟩
            case measure => simp [intOf]; omega
        · go_wp2_with fail
          have y0 : (wr.alloc (.cells #[.int .i64 5, .int .i64 wd, .string ⟨t.toArray⟩] 38)).cell? ⟨wr.heap.size, 0, none⟩ = some (.int .i64 5) := by rw [World.cell?_alloc_new]; rfl
          have yz : wr.heap.size < (wr.alloc (.cells #[.int .i64 5, .int .i64 wd, .string ⟨t.toArray⟩] 38)).heap.size := by simp
          have yR := rangeAt_ext hR2 hB2 hEp
          have yB := hEp.lt hB2
          generalize wr.alloc (.cells #[.int .i64 5, .int .i64 wd, .string ⟨t.toArray⟩] 38) = V at hEp y0 yz yR yB ⊢
          generalize wr.heap.size = D at y0 yz ⊢
          refine wp_region_grow [87, 88, 89, 90, 91, 92, 93, 94, 95, 96, 97, 98, 99] [fun x _ => x = .string ⟨L.toArray⟩, fun x _ => x = .agg (sv N.all).toArray, LsR N, fun x _ => x = .pointer (some ⟨D, 0, none⟩), fun x _ => x = .int .i64 5, LsK N O n, fun x _ => x = .pointer (some ⟨D, 0, none⟩), fun x _ => x = .int .i64 5, fun x _ => x = .int .i64 l0, fun x _ => x = .int .i64 (v : Int), LsP N (O + v), fun x _ => x = .string ⟨X.toArray⟩, fun x _ => x = .string (⟨L.toArray⟩ ++ ⟨X.toArray⟩)] 1 (by kernel_rfl) (by kernel_rfl) (by kernel_rfl) (by kernel_rfl) ?_ ?_ ?_
          · intro R hR
            simp only [List.mem_cons, List.not_mem_nil, or_false] at hR
            rcases hR with rfl | rfl | rfl | rfl | rfl | rfl | rfl | rfl | rfl | rfl | rfl | rfl | rfl
            all_goals first
              | exact fun _ _ _ h _ => h
              | exact fun _ _ _ h hE => LsR.ext h hE
              | exact fun _ _ _ h hE => LsK.ext h hE
              | exact fun _ _ _ h hE => LsP.ext h hE
          · refine ⟨?_, ?_, ?_, ?_, ?_, ?_, ?_, ?_, ?_, ?_, ?_, ?_, ?_, trivial⟩
            all_goals intro a w hE hF hD K hK
            · exact gs_val rfl (yr_move rfl ((hF 10 (fr_of rfl)).trans rfl)) (hK _ _ rfl (Ext.refl _))
            · exact gs_val rfl (yr_load rfl ((hF 5 (fr_of rfl)).trans rfl) (run_loadAt_mid w B 0 _ _ _ (rangeAt_ext yR yB hE) Tryz.underlying27 rfl hI)) (hK _ _ rfl (Ext.refl _))
            · have h1 : a.eval (.tmp 88) = .agg (sv N.all).toArray := hD 1 (by kernel_rfl)
              exact gs_call rfl (yr_call rfl rfl (show (#[Operand.tmp 88] : Array Operand).map a.eval = #[.agg (sv N.all).toArray] by simp [h1]) (by kernel_rfl)) (lists_R N w) hK
            · exact gs_val rfl (yr_field rfl ((hF 12 (fr_of rfl)).trans rfl) (by go_simp)) (hK _ _ rfl (Ext.refl _))
            · have h1 : a.eval (.tmp 90) = .pointer (some ⟨D, 0, none⟩) := hD 3 (by kernel_rfl)
              exact gs_val rfl (yr_load rfl h1 (ld_int _ _ _ ((hE.cells _ _ yz).trans y0))) (hK _ _ rfl (Ext.refl _))
            · have h1 : LsR N (a.eval (.tmp 89)) w := hD 2 (by kernel_rfl)
              have h2 : a.eval (.tmp 91) = .int .i64 5 := hD 4 (by kernel_rfl)
              obtain ⟨b5, B5, D5, e1, e2, e3, e4⟩ := h1
              exact gs_val rfl (yr_look rfl e1 h2 (HLK.out b5 B5 D5 w e2 e3)) (hK _ _ ⟨B5, rfl, e4⟩ (Ext.refl _))
            · exact gs_val rfl (yr_field rfl ((hF 12 (fr_of rfl)).trans rfl) (by go_simp)) (hK _ _ rfl (Ext.refl _))
            · have h1 : a.eval (.tmp 93) = .pointer (some ⟨D, 0, none⟩) := hD 6 (by kernel_rfl)
              exact gs_val rfl (yr_load rfl h1 (ld_int _ _ _ ((hE.cells _ _ yz).trans y0))) (hK _ _ rfl (Ext.refl _))
            · exact gs_val rfl (yr_move rfl ((hF 2 (fr_of rfl)).trans rfl)) (hK _ _ rfl (Ext.refl _))
            · have h1 : a.eval (.tmp 94) = .int .i64 5 := hD 7 (by kernel_rfl)
              have h2 : a.eval (.tmp 95) = .int .i64 l0 := hD 8 (by kernel_rfl)
              exact gs_call rfl (yr_call rfl rfl (show (#[Operand.tmp 94, Operand.tmp 95] : Array Operand).map a.eval = #[.int .i64 5, .int .i64 l0] by simp [h1, h2]) (by kernel_rfl)) ((value_l HF.out 5 v w HV.out).mono fun e w' ⟨h1, h2⟩ => ⟨_, h1, rfl, h2⟩) hK
            · have h1 : LsK N O n (a.eval (.tmp 92)) w := hD 5 (by kernel_rfl)
              have h2 : a.eval (.tmp 96) = .int .i64 (v : Int) := hD 9 (by kernel_rfl)
              obtain ⟨B5, e1, e2⟩ := h1
              exact gs_val rfl (yr_idxa rfl e1 h2 (ix_str B5 O n v w (by omega))) (hK _ _ ⟨B5, rfl, e2⟩ (Ext.refl _))
            · have h1 : LsP N (O + v) (a.eval (.tmp 97)) w := hD 10 (by kernel_rfl)
              obtain ⟨B5, e1, e2⟩ := h1
              exact gs_val rfl (yr_load rfl e1 (ld_str _ _ _ (HNM.out B5 w e2))) (hK _ _ rfl (Ext.refl _))
            · have h1 : a.eval (.tmp 87) = .string ⟨L.toArray⟩ := hD 0 (by kernel_rfl)
              have h2 : a.eval (.tmp 98) = .string ⟨X.toArray⟩ := hD 11 (by kernel_rfl)
              exact gs_val rfl (yr_adds rfl h1 h2 (show L.toArray.size + X.toArray.size ≤ _ by simp; omega)) (hK _ _ rfl (Ext.refl _))
          · intro vals w6 hE6 hR
            obtain ⟨h0, h1, -, h3, h4, -, h6, h7, h8, h9, -, h11, h12, -⟩ := hR
            have e12 : vals 12 = .string (⟨L.toArray⟩ ++ ⟨X.toArray⟩) := h12
            simp only [putF, Act.put, List.length_cons, List.length_nil, List.getD_cons_zero, List.getD_cons_succ, List.setIfInBounds_toArray, List.set_cons_zero, List.set_cons_succ, Nat.reduceAdd]
            refine wpAny_one (i := 13) (v := .string (⟨L.toArray⟩ ++ ⟨X.toArray⟩)) (w' := w6) (by kernel_rfl) rfl (by rfl) (by exact yr_assign rfl e12) ?_
            refine wpAny_done (by kernel_rfl) ?_ _
            simp only [Act.put, List.setIfInBounds_toArray, List.set_cons_zero, List.set_cons_succ]
            go_wp2_with fail
            go_roundw
            case rel => exact ⟨j + 1, L ++ X, by omega, by go_num, by rw [app_str], HLn, by rw [List.length_append]; omega, hEp.trans hE6⟩
            case measure => simp [intOf]; omega
        · go_wp2_with fail
          have y0 : (wr.alloc (.cells #[.int .i64 7, .int .i64 wd, .string ⟨t.toArray⟩] 38)).cell? ⟨wr.heap.size, 0, none⟩ = some (.int .i64 7) := by rw [World.cell?_alloc_new]; rfl
          have yz : wr.heap.size < (wr.alloc (.cells #[.int .i64 7, .int .i64 wd, .string ⟨t.toArray⟩] 38)).heap.size := by simp
          have yR := rangeAt_ext hR2 hB2 hEp
          have yB := hEp.lt hB2
          generalize wr.alloc (.cells #[.int .i64 7, .int .i64 wd, .string ⟨t.toArray⟩] 38) = V at hEp y0 yz yR yB ⊢
          generalize wr.heap.size = D at y0 yz ⊢
          refine wp_region_grow [87, 88, 89, 90, 91, 92, 93, 94, 95, 96, 97, 98, 99] [fun x _ => x = .string ⟨L.toArray⟩, fun x _ => x = .agg (sv N.all).toArray, LsR N, fun x _ => x = .pointer (some ⟨D, 0, none⟩), fun x _ => x = .int .i64 7, LsK N O n, fun x _ => x = .pointer (some ⟨D, 0, none⟩), fun x _ => x = .int .i64 7, fun x _ => x = .int .i64 l0, fun x _ => x = .int .i64 (v : Int), LsP N (O + v), fun x _ => x = .string ⟨X.toArray⟩, fun x _ => x = .string (⟨L.toArray⟩ ++ ⟨X.toArray⟩)] 1 (by kernel_rfl) (by kernel_rfl) (by kernel_rfl) (by kernel_rfl) ?_ ?_ ?_
          · intro R hR
            simp only [List.mem_cons, List.not_mem_nil, or_false] at hR
            rcases hR with rfl | rfl | rfl | rfl | rfl | rfl | rfl | rfl | rfl | rfl | rfl | rfl | rfl
            all_goals first
              | exact fun _ _ _ h _ => h
              | exact fun _ _ _ h hE => LsR.ext h hE
              | exact fun _ _ _ h hE => LsK.ext h hE
              | exact fun _ _ _ h hE => LsP.ext h hE
          · refine ⟨?_, ?_, ?_, ?_, ?_, ?_, ?_, ?_, ?_, ?_, ?_, ?_, ?_, trivial⟩
            all_goals intro a w hE hF hD K hK
            · exact gs_val rfl (yr_move rfl ((hF 10 (fr_of rfl)).trans rfl)) (hK _ _ rfl (Ext.refl _))
            · exact gs_val rfl (yr_load rfl ((hF 5 (fr_of rfl)).trans rfl) (run_loadAt_mid w B 0 _ _ _ (rangeAt_ext yR yB hE) Tryz.underlying27 rfl hI)) (hK _ _ rfl (Ext.refl _))
            · have h1 : a.eval (.tmp 88) = .agg (sv N.all).toArray := hD 1 (by kernel_rfl)
              exact gs_call rfl (yr_call rfl rfl (show (#[Operand.tmp 88] : Array Operand).map a.eval = #[.agg (sv N.all).toArray] by simp [h1]) (by kernel_rfl)) (lists_R N w) hK
            · exact gs_val rfl (yr_field rfl ((hF 12 (fr_of rfl)).trans rfl) (by go_simp)) (hK _ _ rfl (Ext.refl _))
            · have h1 : a.eval (.tmp 90) = .pointer (some ⟨D, 0, none⟩) := hD 3 (by kernel_rfl)
              exact gs_val rfl (yr_load rfl h1 (ld_int _ _ _ ((hE.cells _ _ yz).trans y0))) (hK _ _ rfl (Ext.refl _))
            · have h1 : LsR N (a.eval (.tmp 89)) w := hD 2 (by kernel_rfl)
              have h2 : a.eval (.tmp 91) = .int .i64 7 := hD 4 (by kernel_rfl)
              obtain ⟨b5, B5, D5, e1, e2, e3, e4⟩ := h1
              exact gs_val rfl (yr_look rfl e1 h2 (HLK.out b5 B5 D5 w e2 e3)) (hK _ _ ⟨B5, rfl, e4⟩ (Ext.refl _))
            · exact gs_val rfl (yr_field rfl ((hF 12 (fr_of rfl)).trans rfl) (by go_simp)) (hK _ _ rfl (Ext.refl _))
            · have h1 : a.eval (.tmp 93) = .pointer (some ⟨D, 0, none⟩) := hD 6 (by kernel_rfl)
              exact gs_val rfl (yr_load rfl h1 (ld_int _ _ _ ((hE.cells _ _ yz).trans y0))) (hK _ _ rfl (Ext.refl _))
            · exact gs_val rfl (yr_move rfl ((hF 2 (fr_of rfl)).trans rfl)) (hK _ _ rfl (Ext.refl _))
            · have h1 : a.eval (.tmp 94) = .int .i64 7 := hD 7 (by kernel_rfl)
              have h2 : a.eval (.tmp 95) = .int .i64 l0 := hD 8 (by kernel_rfl)
              exact gs_call rfl (yr_call rfl rfl (show (#[Operand.tmp 94, Operand.tmp 95] : Array Operand).map a.eval = #[.int .i64 7, .int .i64 l0] by simp [h1, h2]) (by kernel_rfl)) ((value_l HF.out 7 v w HV.out).mono fun e w' ⟨h1, h2⟩ => ⟨_, h1, rfl, h2⟩) hK
            · have h1 : LsK N O n (a.eval (.tmp 92)) w := hD 5 (by kernel_rfl)
              have h2 : a.eval (.tmp 96) = .int .i64 (v : Int) := hD 9 (by kernel_rfl)
              obtain ⟨B5, e1, e2⟩ := h1
              exact gs_val rfl (yr_idxa rfl e1 h2 (ix_str B5 O n v w (by omega))) (hK _ _ ⟨B5, rfl, e2⟩ (Ext.refl _))
            · have h1 : LsP N (O + v) (a.eval (.tmp 97)) w := hD 10 (by kernel_rfl)
              obtain ⟨B5, e1, e2⟩ := h1
              exact gs_val rfl (yr_load rfl e1 (ld_str _ _ _ (HNM.out B5 w e2))) (hK _ _ rfl (Ext.refl _))
            · have h1 : a.eval (.tmp 87) = .string ⟨L.toArray⟩ := hD 0 (by kernel_rfl)
              have h2 : a.eval (.tmp 98) = .string ⟨X.toArray⟩ := hD 11 (by kernel_rfl)
              exact gs_val rfl (yr_adds rfl h1 h2 (show L.toArray.size + X.toArray.size ≤ _ by simp; omega)) (hK _ _ rfl (Ext.refl _))
          · intro vals w6 hE6 hR
            obtain ⟨h0, h1, -, h3, h4, -, h6, h7, h8, h9, -, h11, h12, -⟩ := hR
            have e12 : vals 12 = .string (⟨L.toArray⟩ ++ ⟨X.toArray⟩) := h12
            simp only [putF, Act.put, List.length_cons, List.length_nil, List.getD_cons_zero, List.getD_cons_succ, List.setIfInBounds_toArray, List.set_cons_zero, List.set_cons_succ, Nat.reduceAdd]
            refine wpAny_one (i := 13) (v := .string (⟨L.toArray⟩ ++ ⟨X.toArray⟩)) (w' := w6) (by kernel_rfl) rfl (by rfl) (by exact yr_assign rfl e12) ?_
            refine wpAny_done (by kernel_rfl) ?_ _
            simp only [Act.put, List.setIfInBounds_toArray, List.set_cons_zero, List.set_cons_succ]
            go_wp2_with fail
            go_roundw
            case rel => exact ⟨j + 1, L ++ X, by omega, by go_num, by rw [app_str], HLn, by rw [List.length_append]; omega, hEp.trans hE6⟩
            case measure => simp [intOf]; omega
        · go_wp2_with fail
          have y0 : (wr.alloc (.cells #[.int .i64 8, .int .i64 wd, .string ⟨t.toArray⟩] 38)).cell? ⟨wr.heap.size, 0, none⟩ = some (.int .i64 8) := by rw [World.cell?_alloc_new]; rfl
          have yz : wr.heap.size < (wr.alloc (.cells #[.int .i64 8, .int .i64 wd, .string ⟨t.toArray⟩] 38)).heap.size := by simp
          have yR := rangeAt_ext hR2 hB2 hEp
          have yB := hEp.lt hB2
          generalize wr.alloc (.cells #[.int .i64 8, .int .i64 wd, .string ⟨t.toArray⟩] 38) = V at hEp y0 yz yR yB ⊢
          generalize wr.heap.size = D at y0 yz ⊢
          refine wp_region_grow [87, 88, 89, 90, 91, 92, 93, 94, 95, 96, 97, 98, 99] [fun x _ => x = .string ⟨L.toArray⟩, fun x _ => x = .agg (sv N.all).toArray, LsR N, fun x _ => x = .pointer (some ⟨D, 0, none⟩), fun x _ => x = .int .i64 8, LsK N O n, fun x _ => x = .pointer (some ⟨D, 0, none⟩), fun x _ => x = .int .i64 8, fun x _ => x = .int .i64 l0, fun x _ => x = .int .i64 (v : Int), LsP N (O + v), fun x _ => x = .string ⟨X.toArray⟩, fun x _ => x = .string (⟨L.toArray⟩ ++ ⟨X.toArray⟩)] 1 (by kernel_rfl) (by kernel_rfl) (by kernel_rfl) (by kernel_rfl) ?_ ?_ ?_
          · intro R hR
            simp only [List.mem_cons, List.not_mem_nil, or_false] at hR
            rcases hR with rfl | rfl | rfl | rfl | rfl | rfl | rfl | rfl | rfl | rfl | rfl | rfl | rfl
            all_goals first
              | exact fun _ _ _ h _ => h
              | exact fun _ _ _ h hE => LsR.ext h hE
              | exact fun _ _ _ h hE => LsK.ext h hE
              | exact fun _ _ _ h hE => LsP.ext h hE
          · refine ⟨?_, ?_, ?_, ?_, ?_, ?_, ?_, ?_, ?_, ?_, ?_, ?_, ?_, trivial⟩
            all_goals intro a w hE hF hD K hK
            · exact gs_val rfl (yr_move rfl ((hF 10 (fr_of rfl)).trans rfl)) (hK _ _ rfl (Ext.refl _))
            · exact gs_val rfl (yr_load rfl ((hF 5 (fr_of rfl)).trans rfl) (run_loadAt_mid w B 0 _ _ _ (rangeAt_ext yR yB hE) Tryz.underlying27 rfl hI)) (hK _ _ rfl (Ext.refl _))
            · have h1 : a.eval (.tmp 88) = .agg (sv N.all).toArray := hD 1 (by kernel_rfl)
              exact gs_call rfl (yr_call rfl rfl (show (#[Operand.tmp 88] : Array Operand).map a.eval = #[.agg (sv N.all).toArray] by simp [h1]) (by kernel_rfl)) (lists_R N w) hK
            · exact gs_val rfl (yr_field rfl ((hF 12 (fr_of rfl)).trans rfl) (by go_simp)) (hK _ _ rfl (Ext.refl _))
            · have h1 : a.eval (.tmp 90) = .pointer (some ⟨D, 0, none⟩) := hD 3 (by kernel_rfl)
              exact gs_val rfl (yr_load rfl h1 (ld_int _ _ _ ((hE.cells _ _ yz).trans y0))) (hK _ _ rfl (Ext.refl _))
            · have h1 : LsR N (a.eval (.tmp 89)) w := hD 2 (by kernel_rfl)
              have h2 : a.eval (.tmp 91) = .int .i64 8 := hD 4 (by kernel_rfl)
              obtain ⟨b5, B5, D5, e1, e2, e3, e4⟩ := h1
              exact gs_val rfl (yr_look rfl e1 h2 (HLK.out b5 B5 D5 w e2 e3)) (hK _ _ ⟨B5, rfl, e4⟩ (Ext.refl _))
            · exact gs_val rfl (yr_field rfl ((hF 12 (fr_of rfl)).trans rfl) (by go_simp)) (hK _ _ rfl (Ext.refl _))
            · have h1 : a.eval (.tmp 93) = .pointer (some ⟨D, 0, none⟩) := hD 6 (by kernel_rfl)
              exact gs_val rfl (yr_load rfl h1 (ld_int _ _ _ ((hE.cells _ _ yz).trans y0))) (hK _ _ rfl (Ext.refl _))
            · exact gs_val rfl (yr_move rfl ((hF 2 (fr_of rfl)).trans rfl)) (hK _ _ rfl (Ext.refl _))
            · have h1 : a.eval (.tmp 94) = .int .i64 8 := hD 7 (by kernel_rfl)
              have h2 : a.eval (.tmp 95) = .int .i64 l0 := hD 8 (by kernel_rfl)
              exact gs_call rfl (yr_call rfl rfl (show (#[Operand.tmp 94, Operand.tmp 95] : Array Operand).map a.eval = #[.int .i64 8, .int .i64 l0] by simp [h1, h2]) (by kernel_rfl)) ((value_l HF.out 8 v w HV.out).mono fun e w' ⟨h1, h2⟩ => ⟨_, h1, rfl, h2⟩) hK
            · have h1 : LsK N O n (a.eval (.tmp 92)) w := hD 5 (by kernel_rfl)
              have h2 : a.eval (.tmp 96) = .int .i64 (v : Int) := hD 9 (by kernel_rfl)
              obtain ⟨B5, e1, e2⟩ := h1
              exact gs_val rfl (yr_idxa rfl e1 h2 (ix_str B5 O n v w (by omega))) (hK _ _ ⟨B5, rfl, e2⟩ (Ext.refl _))
            · have h1 : LsP N (O + v) (a.eval (.tmp 97)) w := hD 10 (by kernel_rfl)
              obtain ⟨B5, e1, e2⟩ := h1
              exact gs_val rfl (yr_load rfl e1 (ld_str _ _ _ (HNM.out B5 w e2))) (hK _ _ rfl (Ext.refl _))
            · have h1 : a.eval (.tmp 87) = .string ⟨L.toArray⟩ := hD 0 (by kernel_rfl)
              have h2 : a.eval (.tmp 98) = .string ⟨X.toArray⟩ := hD 11 (by kernel_rfl)
              exact gs_val rfl (yr_adds rfl h1 h2 (show L.toArray.size + X.toArray.size ≤ _ by simp; omega)) (hK _ _ rfl (Ext.refl _))
          · intro vals w6 hE6 hR
            obtain ⟨h0, h1, -, h3, h4, -, h6, h7, h8, h9, -, h11, h12, -⟩ := hR
            have e12 : vals 12 = .string (⟨L.toArray⟩ ++ ⟨X.toArray⟩) := h12
            simp only [putF, Act.put, List.length_cons, List.length_nil, List.getD_cons_zero, List.getD_cons_succ, List.setIfInBounds_toArray, List.set_cons_zero, List.set_cons_succ, Nat.reduceAdd]
            refine wpAny_one (i := 13) (v := .string (⟨L.toArray⟩ ++ ⟨X.toArray⟩)) (w' := w6) (by kernel_rfl) rfl (by rfl) (by exact yr_assign rfl e12) ?_
            refine wpAny_done (by kernel_rfl) ?_ _
            simp only [Act.put, List.setIfInBounds_toArray, List.set_cons_zero, List.set_cons_succ]
            go_wp2_with fail
            go_roundw
            case rel => exact ⟨j + 1, L ++ X, by omega, by go_num, by rw [app_str], HLn, by rw [List.length_append]; omega, hEp.trans hE6⟩
            case measure => simp [intOf]; omega
        · go_wp2_with fail
          have y0 : (wr.alloc (.cells #[.int .i64 13, .int .i64 wd, .string ⟨t.toArray⟩] 38)).cell? ⟨wr.heap.size, 0, none⟩ = some (.int .i64 13) := by rw [World.cell?_alloc_new]; rfl
          have yz : wr.heap.size < (wr.alloc (.cells #[.int .i64 13, .int .i64 wd, .string ⟨t.toArray⟩] 38)).heap.size := by simp
          have yR := rangeAt_ext hR2 hB2 hEp
          have yB := hEp.lt hB2
          generalize wr.alloc (.cells #[.int .i64 13, .int .i64 wd, .string ⟨t.toArray⟩] 38) = V at hEp y0 yz yR yB ⊢
          generalize wr.heap.size = D at y0 yz ⊢
          refine wp_region_grow [87, 88, 89, 90, 91, 92, 93, 94, 95, 96, 97, 98, 99] [fun x _ => x = .string ⟨L.toArray⟩, fun x _ => x = .agg (sv N.all).toArray, LsR N, fun x _ => x = .pointer (some ⟨D, 0, none⟩), fun x _ => x = .int .i64 13, LsK N O n, fun x _ => x = .pointer (some ⟨D, 0, none⟩), fun x _ => x = .int .i64 13, fun x _ => x = .int .i64 l0, fun x _ => x = .int .i64 (v : Int), LsP N (O + v), fun x _ => x = .string ⟨X.toArray⟩, fun x _ => x = .string (⟨L.toArray⟩ ++ ⟨X.toArray⟩)] 1 (by kernel_rfl) (by kernel_rfl) (by kernel_rfl) (by kernel_rfl) ?_ ?_ ?_
          · intro R hR
            simp only [List.mem_cons, List.not_mem_nil, or_false] at hR
            rcases hR with rfl | rfl | rfl | rfl | rfl | rfl | rfl | rfl | rfl | rfl | rfl | rfl | rfl
            all_goals first
              | exact fun _ _ _ h _ => h
              | exact fun _ _ _ h hE => LsR.ext h hE
              | exact fun _ _ _ h hE => LsK.ext h hE
              | exact fun _ _ _ h hE => LsP.ext h hE
          · refine ⟨?_, ?_, ?_, ?_, ?_, ?_, ?_, ?_, ?_, ?_, ?_, ?_, ?_, trivial⟩
            all_goals intro a w hE hF hD K hK
            · exact gs_val rfl (yr_move rfl ((hF 10 (fr_of rfl)).trans rfl)) (hK _ _ rfl (Ext.refl _))
            · exact gs_val rfl (yr_load rfl ((hF 5 (fr_of rfl)).trans rfl) (run_loadAt_mid w B 0 _ _ _ (rangeAt_ext yR yB hE) Tryz.underlying27 rfl hI)) (hK _ _ rfl (Ext.refl _))
            · have h1 : a.eval (.tmp 88) = .agg (sv N.all).toArray := hD 1 (by kernel_rfl)
              exact gs_call rfl (yr_call rfl rfl (show (#[Operand.tmp 88] : Array Operand).map a.eval = #[.agg (sv N.all).toArray] by simp [h1]) (by kernel_rfl)) (lists_R N w) hK
            · exact gs_val rfl (yr_field rfl ((hF 12 (fr_of rfl)).trans rfl) (by go_simp)) (hK _ _ rfl (Ext.refl _))
            · have h1 : a.eval (.tmp 90) = .pointer (some ⟨D, 0, none⟩) := hD 3 (by kernel_rfl)
              exact gs_val rfl (yr_load rfl h1 (ld_int _ _ _ ((hE.cells _ _ yz).trans y0))) (hK _ _ rfl (Ext.refl _))
            · have h1 : LsR N (a.eval (.tmp 89)) w := hD 2 (by kernel_rfl)
              have h2 : a.eval (.tmp 91) = .int .i64 13 := hD 4 (by kernel_rfl)
              obtain ⟨b5, B5, D5, e1, e2, e3, e4⟩ := h1
              exact gs_val rfl (yr_look rfl e1 h2 (HLK.out b5 B5 D5 w e2 e3)) (hK _ _ ⟨B5, rfl, e4⟩ (Ext.refl _))
            · exact gs_val rfl (yr_field rfl ((hF 12 (fr_of rfl)).trans rfl) (by go_simp)) (hK _ _ rfl (Ext.refl _))
            · have h1 : a.eval (.tmp 93) = .pointer (some ⟨D, 0, none⟩) := hD 6 (by kernel_rfl)
              exact gs_val rfl (yr_load rfl h1 (ld_int _ _ _ ((hE.cells _ _ yz).trans y0))) (hK _ _ rfl (Ext.refl _))
            · exact gs_val rfl (yr_move rfl ((hF 2 (fr_of rfl)).trans rfl)) (hK _ _ rfl (Ext.refl _))
            · have h1 : a.eval (.tmp 94) = .int .i64 13 := hD 7 (by kernel_rfl)
              have h2 : a.eval (.tmp 95) = .int .i64 l0 := hD 8 (by kernel_rfl)
              exact gs_call rfl (yr_call rfl rfl (show (#[Operand.tmp 94, Operand.tmp 95] : Array Operand).map a.eval = #[.int .i64 13, .int .i64 l0] by simp [h1, h2]) (by kernel_rfl)) ((value_l HF.out 13 v w HV.out).mono fun e w' ⟨h1, h2⟩ => ⟨_, h1, rfl, h2⟩) hK
            · have h1 : LsK N O n (a.eval (.tmp 92)) w := hD 5 (by kernel_rfl)
              have h2 : a.eval (.tmp 96) = .int .i64 (v : Int) := hD 9 (by kernel_rfl)
              obtain ⟨B5, e1, e2⟩ := h1
              exact gs_val rfl (yr_idxa rfl e1 h2 (ix_str B5 O n v w (by omega))) (hK _ _ ⟨B5, rfl, e2⟩ (Ext.refl _))
            · have h1 : LsP N (O + v) (a.eval (.tmp 97)) w := hD 10 (by kernel_rfl)
              obtain ⟨B5, e1, e2⟩ := h1
              exact gs_val rfl (yr_load rfl e1 (ld_str _ _ _ (HNM.out B5 w e2))) (hK _ _ rfl (Ext.refl _))
            · have h1 : a.eval (.tmp 87) = .string ⟨L.toArray⟩ := hD 0 (by kernel_rfl)
              have h2 : a.eval (.tmp 98) = .string ⟨X.toArray⟩ := hD 11 (by kernel_rfl)
              exact gs_val rfl (yr_adds rfl h1 h2 (show L.toArray.size + X.toArray.size ≤ _ by simp; omega)) (hK _ _ rfl (Ext.refl _))
          · intro vals w6 hE6 hR
            obtain ⟨h0, h1, -, h3, h4, -, h6, h7, h8, h9, -, h11, h12, -⟩ := hR
            have e12 : vals 12 = .string (⟨L.toArray⟩ ++ ⟨X.toArray⟩) := h12
            simp only [putF, Act.put, List.length_cons, List.length_nil, List.getD_cons_zero, List.getD_cons_succ, List.setIfInBounds_toArray, List.set_cons_zero, List.set_cons_succ, Nat.reduceAdd]
            refine wpAny_one (i := 13) (v := .string (⟨L.toArray⟩ ++ ⟨X.toArray⟩)) (w' := w6) (by kernel_rfl) rfl (by rfl) (by exact yr_assign rfl e12) ?_
            refine wpAny_done (by kernel_rfl) ?_ _
            simp only [Act.put, List.setIfInBounds_toArray, List.set_cons_zero, List.set_cons_succ]
            go_wp2_with fail
            go_roundw
            case rel => exact ⟨j + 1, L ++ X, by omega, by go_num, by rw [app_str], HLn, by rw [List.length_append]; omega, hEp.trans hE6⟩
            case measure => simp [intOf]; omega
    · obtain rfl : j = l.length := by omega
      have HV : Hid (L = fmtL N F o tn l) := by rw [Hid, HL.out, List.take_length]
      go_wp2_with fail
      go_ret2
      exact ⟨by rw [HV.out]; rfl, hEw2.trans hE⟩
end Go.Proofs.YticckkadmhklmaaGreatDoor
