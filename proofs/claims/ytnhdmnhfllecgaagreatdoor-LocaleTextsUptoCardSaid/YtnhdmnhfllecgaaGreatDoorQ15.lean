/- Patterns: the walk of compiler.literal. -/
import Derived.Test.YtnhdmnhfllecgaaGreatDoorQ06
import Derived.Test.YtnhdmnhfllecgaaGreatDoorQ14
import Derived.Test.YtnhdmnhfllecgaaGreatDoorQ08
import Derived.Test.YtnhdmnhfllecgaaGreatDoorQ05
import Derived.Test.YtnhdmnhfllecgaaGreatDoorQ00
import Derived.Laws.OwnMore
import Derived.Laws.BytesString
import Derived.Laws.IdiomStrings
import Derived.Maps.Views
namespace Go.Proofs.YtnhdmnhfllecgaaGreatDoor
set_option linter.unusedVariables false
set_option linter.unusedSimpArgs false
open Go.RowKit

theorem infoPart : (Tryz.prog.info? 110).map (fun i => (i.zero, i.size, i.bytes)) = some (some (.agg #[.int .i64 0, .int .i64 0, .string ByteArray.empty]), 3, 32) := by kernel_rfl
theorem grown_none {a b : World} (h : Ext a b) : a.grownBy b none := ⟨h.os, h.tape, h.output, h.size, fun k hk _ => h.block k hk⟩
/-- A compiler at block B, which has the parts out. -/
structure CW (B : Nat) (ao : Option Addr) (cap : Nat) (out : List Prt) (w : World) : Prop where
  row : w.ownsRow (B + 1) 110 3 (.slice ao out.length cap) out.length (pcs out)
  c0 : w.cell? ⟨B, 0, none⟩ = some (.slice ao out.length cap)
  c1 : w.cell? ⟨B, 1, none⟩ = some (.bool (longB out))
  free : ∀ o, w.frozen? ⟨B, o, none⟩ = false
  lt : B < w.heap.size
/-- The parts' row, if there are any. -/
theorem CW.addr {B : Nat} {ao : Option Addr} {cap : Nat} {out : List Prt} {w : World} (h : CW B ao cap out w) (ho : out ≠ []) : ∃ g, ao = some ⟨g, 0, none⟩ ∧ B < g ∧ g < w.heap.size := by
  obtain ⟨⟨_, h1⟩, _⟩ := h
  rcases h1 with ⟨_, h0⟩ | ⟨g, cap', cur, he, hb, hg, _⟩
  · exact absurd (List.length_eq_zero_iff.1 h0) ho
  · injection he with e1 e2 e3
    exact ⟨g, e1, by omega, (Array.getElem?_eq_some_iff.1 hg).1⟩
theorem CW.ext {B : Nat} {ao : Option Addr} {cap : Nat} {out : List Prt} {w w' : World} (h : CW B ao cap out w) (hE : Ext w w') : CW B ao cap out w' := by
  refine ⟨h.row.kept (grown_none hE) (by cases h : ao <;> simp [Value.ownBlock]), (hE.cells _ _ h.lt).trans h.c0, (hE.cells _ _ h.lt).trans h.c1, fun o => (hE.frozens _ _ h.lt).trans (h.free o), hE.lt h.lt⟩
theorem CW.cells {B : Nat} {ao : Option Addr} {cap : Nat} {r : List Prt} {p : Prt} {w : World} (h : CW B ao cap (r ++ [p]) w) : ∃ g, ao = some ⟨g, 0, none⟩ ∧ B < g ∧ g < w.heap.size ∧ r.length + 1 ≤ cap ∧ cap ≤ maxLen ∧
    w.cell? ⟨g, r.length * 3, none⟩ = some (.int .i64 p.k) ∧ w.cell? ⟨g, r.length * 3 + 2, none⟩ = some (.string ⟨p.t.toArray⟩) ∧ ∀ o, w.frozen? ⟨g, o, none⟩ = false := by
  obtain ⟨g, rfl, hg, hl⟩ := h.addr (by simp)
  have hc := h.row.cellAt
  have hf := h.row.frozenAt
  obtain ⟨⟨_, h1⟩, _⟩ := h
  have hcap : r.length + 1 ≤ cap ∧ cap ≤ maxLen := by
    rcases h1 with ⟨h1, _⟩ | ⟨g', cap', cur, he, _, _, h2, h3, _⟩
    · cases h1
    · injection he with e1 e2 e3
      subst e3
      rw [List.length_append] at h2
      exact ⟨h2, h3⟩
  obtain ⟨a, b, c⟩ := pcs_at (r ++ [p]) r.length (by simp)
  rw [Nat.mul_comm] at a b c
  refine ⟨g, rfl, hg, hl, hcap.1, hcap.2, ?_, ?_, hf⟩
  · rw [hc _ (by rw [List.length_append, List.length_singleton]; omega), a]; simp
  · rw [hc _ (by rw [List.length_append, List.length_singleton]; omega), c]; simp
theorem CW.store {B g cap : Nat} {r : List Prt} {k wd : Int} {t t' : List UInt8} {w : World} (h : CW B (some ⟨g, 0, none⟩) cap (r ++ [⟨k, wd, t⟩]) w) (hBg : B < g) {F : Bool} (hF : longB (r ++ [⟨k, wd, t'⟩]) = F) (o : Obj) :
    CW B (some ⟨g, 0, none⟩) cap (r ++ [⟨k, wd, t'⟩]) ((((w.setCell ⟨g, r.length * 3 + 2, none⟩ (.string ⟨t'.toArray⟩)).setCell ⟨B, 1, none⟩ (.bool F)).alloc o).drew) := by
  have hrow := (h.row.stored (r.length * 3 + 2) (.string ⟨t'.toArray⟩)).1
  have he := pcs_set r ⟨k, wd, t⟩ t'
  rw [Nat.mul_comm 3] at he
  rw [he] at hrow
  have hBs : B < (w.setCell ⟨g, r.length * 3 + 2, none⟩ (.string ⟨t'.toArray⟩)).heap.size := by simpa using h.lt
  have e0 : (r ++ [(⟨k, wd, t⟩ : Prt)]).length = (r ++ [(⟨k, wd, t'⟩ : Prt)]).length := by simp
  have c0 := h.c0
  have c1 := h.c1
  rw [e0] at hrow c0
  have d0 : (w.setCell ⟨g, r.length * 3 + 2, none⟩ (.string ⟨t'.toArray⟩)).cell? ⟨B, 0, none⟩ = w.cell? ⟨B, 0, none⟩ := World.cell?_setCell_other _ _ _ _ (by intro e; injection e with e; omega)
  have d1 : (w.setCell ⟨g, r.length * 3 + 2, none⟩ (.string ⟨t'.toArray⟩)).cell? ⟨B, 1, none⟩ = w.cell? ⟨B, 1, none⟩ := World.cell?_setCell_other _ _ _ _ (by intro e; injection e with e; omega)
  refine CW.ext (w := (w.setCell ⟨g, r.length * 3 + 2, none⟩ (.string ⟨t'.toArray⟩)).setCell ⟨B, 1, none⟩ (.bool F)) ⟨?_, ?_, ?_, ?_, by simpa using h.lt⟩ (((Ext.refl _).alloc o).drew)
  · refine hrow.kept (row := some B) ⟨rfl, rfl, rfl, by simp [World.setCell], fun i hi hne => Below.heap_setCell _ _ _ i (by rintro rfl; exact hne rfl)⟩ (.inr (by simp [Value.ownBlock]; omega))
  · rw [World.cell?_setCell_other _ _ _ _ (by simp), d0, c0]
  · rw [World.cell?_setCell_same _ _ _ (d1.trans c1), hF]
  · intro o
    simp [h.free o]
theorem CW.frm {B g : Nat} {w : World} (hBg : B < g) (x y : Nat) (u v : Value) (o : Obj) (hB : B < w.heap.size) : Frm (fun k => B ≤ k) w ((((w.setCell ⟨g, x, none⟩ u).setCell ⟨B, y, none⟩ v).alloc o).drew) :=
  (((((Frm.refl _ w).setCell (p := ⟨g, x, none⟩) (.inl (Nat.le_of_lt hBg)) u).setCell (p := ⟨B, y, none⟩) (.inl (Nat.le_refl _)) v).alloc o).drew)
theorem blk_cell {a b : World} {k : Nat} (h : b.heap[k]? = a.heap[k]?) (o : Nat) : b.cell? ⟨k, o, none⟩ = a.cell? ⟨k, o, none⟩ := by unfold World.cell?; rw [h]
theorem blk_frz {a b : World} {k : Nat} (h : b.heap[k]? = a.heap[k]?) (o : Nat) : b.frozen? ⟨k, o, none⟩ = a.frozen? ⟨k, o, none⟩ := by unfold World.frozen?; rw [h]
/-- A part more, behind the others: before the new slice is stored. -/
theorem CW.grow0 {B : Nat} {ao : Option Addr} {cap : Nat} {out : List Prt} {w w2 w3 : World} (h : CW B ao cap out w) (hE : Ext w w2) (hg : w2.grownBy w3 (Value.slice ao out.length cap).ownBlock) :
    w3.cell? ⟨B, 0, none⟩ = some (.slice ao out.length cap) ∧ w3.cell? ⟨B, 1, none⟩ = some (.bool (longB out)) ∧ (∀ o, w3.frozen? ⟨B, o, none⟩ = false) ∧ B < w3.heap.size := by
  have hb : w3.heap[B]? = w2.heap[B]? := hg.block B (hE.lt h.lt) (fun e => by have := (h.row.lt B e.symm).1; omega)
  have h2 := h.ext hE
  exact ⟨(blk_cell hb 0).trans h2.c0, (blk_cell hb 1).trans h2.c1, fun o => (blk_frz hb o).trans (h2.free o), Nat.lt_of_lt_of_le h2.lt hg.size⟩
theorem CW.grow {B : Nat} {ao : Option Addr} {cap : Nat} {out : List Prt} {w w2 w3 : World} {v' : Value} {q : Prt} (h : CW B ao cap out w) (hE : Ext w w2) (hg : w2.grownBy w3 (Value.slice ao out.length cap).ownBlock)
    (hown : w3.ownsRow (B + 1) 110 3 v' (out.length + 1) (pcs out ++ pc q)) (hq : q.t.length ≤ 100) :
    ∃ ao' cap', v' = .slice ao' (out.length + 1) cap' ∧ CW B ao' cap' (out ++ [q]) (w3.setCell ⟨B, 0, none⟩ v') ∧ Frm (fun k => B ≤ k) w (w3.setCell ⟨B, 0, none⟩ v') := by
  obtain ⟨e0, e1, e2, e3⟩ := h.grow0 hE hg
  obtain ⟨ao', cap', rfl⟩ := own_slice hown
  refine ⟨ao', cap', rfl, ⟨?_, ?_, ?_, ?_, by simpa using e3⟩, ?_⟩
  · rw [pcs_app, pcs_one, List.length_append]
    refine hown.kept (row := some B) ⟨rfl, rfl, rfl, by simp [World.setCell], fun i hi hne => Below.heap_setCell _ _ _ i (by rintro rfl; exact hne rfl)⟩ (.inr (fun e => ?_))
    have := (hown.lt B e).1
    omega
  · rw [World.cell?_setCell_same _ _ _ e0, List.length_append]; rfl
  · rw [World.cell?_setCell_other _ _ _ _ (by simp), e1, longB_snoc, decide_eq_false (by omega), Bool.or_false]
  · intro o
    simp [e2 o]
  · refine Frm.setCell (S := fun k => B ≤ k) (p := ⟨B, 0, none⟩) ?_ (.inl (Nat.le_refl B)) _
    refine (Frm.of_ext (S := fun k => B ≤ k) hE).trans ((Frm.refl (fun k => B ≤ k) w2).grown hg (fun k hk => .inl ?_))
    have := (h.row.lt k hk).1
    omega
theorem cell_three_new (w : World) (x y z : Value) (t : TypeId) : ∀ j u, [x, y, z][j]? = some u → (w.alloc (.cells #[x, y, z] t)).cell? ((⟨w.heap.size, 0, none⟩ : Addr).add j) = some u := by
  intro j u hj
  match j, hj with
  | 0, hj => simp at hj; subst hj; rw [show ((⟨w.heap.size, 0, none⟩ : Addr).add 0) = ⟨w.heap.size, 0, none⟩ from rfl, World.cell?_alloc_new]; rfl
  | 1, hj => simp at hj; subst hj; rw [show ((⟨w.heap.size, 0, none⟩ : Addr).add 1) = ⟨w.heap.size, 1, none⟩ from rfl, World.cell?_alloc_new]; rfl
  | 2, hj => simp at hj; subst hj; rw [show ((⟨w.heap.size, 0, none⟩ : Addr).add 2) = ⟨w.heap.size, 2, none⟩ from rfl, World.cell?_alloc_new]; rfl
  | j + 3, hj => simp at hj
set_option maxRecDepth 100000 in
set_option maxHeartbeats 1000000 in
theorem literal_old (B : Nat) (ao : Option Addr) (cap : Nat) (r : List Prt) (wd : Int) (t : List UInt8) (b : UInt8) (w : World) (h : CW B ao cap (r ++ [⟨1, wd, t⟩]) w) (hn : r.length ≤ 1000) (ht : t.length ≤ 1000) :
    Calls Tryz.prog 66 #[.pointer (some ⟨B, 0, none⟩), .int .u8 (b.toNat : Int)] w fun e w' => e = .returned (.tuple #[]) ∧ CW B ao cap (r ++ [⟨1, wd, t ++ [b]⟩]) w' ∧ Frm (fun k => B ≤ k) w w' := by
  have H := Lib.hid h
  obtain ⟨g, rfl, hBg, hgl, hcap, hcm, k0, k2, hfr⟩ := h.cells
  have hB := h.lt
  have c0 := h.c0
  have c1 := h.c1
  have fB := h.free
  rw [List.length_append, List.length_singleton] at c0
  unfold maxLen at hcm
  have hgB : g ≠ B := by omega
  have Hlg : Hid (longB (r ++ [⟨1, wd, t ++ [b]⟩]) = (longB (r ++ [⟨1, wd, t⟩]) || decide ((100 : Int) < (t.length : Int) + 1))) := by
    rw [Hid, longB_snoc, longB_snoc]
    simp only [List.length_append, List.length_singleton]
    cases longB r
    · rw [Bool.eq_iff_iff]; simp; omega
    · simp
  generalize longB (r ++ [⟨1, wd, t⟩]) = lg at c1 Hlg
  clear h
  simp only at k0 k2
  obtain ⟨m, hm⟩ : ∃ m, r.length = m := ⟨_, rfl⟩; rw [hm] at hn
  rw [hm] at hcap k0 k2 c0
  have Hm := Lib.hid hm
  clear hm
  have t0 : (((m : Int) + 1) == 0) = false := by rw [beq_eq_false_iff_ne]; omega
  go_enter Tryz.func66, Tryz.ntmps66
  go_wp2_with fail
  have hcv : (convert 94 9 (.slice (some ⟨w.heap.size, 0, none⟩) 1 1)).run Tryz.prog (w.alloc (.cells #[.int .u8 (b.toNat : Int)] 5)).drew = .ok (.string ⟨#[b]⟩) (w.alloc (.cells #[.int .u8 (b.toNat : Int)] 5)).drew := by
    refine run_convert_bytes_back (P := Tryz.prog) (w.alloc (.cells #[.int .u8 (b.toNat : Int)] 5)).drew 94 9 5 ⟨w.heap.size, 0, none⟩ 1 [b] Tryz.underlying94 Tryz.underlying5 Tryz.underlying9 ?_
    intro i hi
    obtain rfl : i = 0 := by simpa using hi
    exact World.cell?_alloc_new _ _ _ 0
  go_region
  rw [snoc_str]
  obtain ⟨t', ht'⟩ : ∃ t', t' = t ++ [b] := ⟨_, rfl⟩
  rw [← ht']
  have hl' : t'.length = t.length + 1 := by rw [ht']; simp
  have Ht := Lib.hid ht'
  clear ht'
  have HF : Hid (longB (r ++ [⟨1, wd, t'⟩]) = (lg || decide ((100 : Int) < (t.length : Int) + 1))) := by rw [Hid, Ht.out]; exact Hlg.out
  cases lg
  · go_wp2
    refine bodyPost_end (v := .tuple #[]) (by simp [results, Tryz.results66, go_sem]) rfl ⟨rfl, ?_, ?_⟩
    · have q := H.out.store hBg (t' := t') HF.out (.cells #[.int .u8 (b.toNat : Int)] 5)
      rw [Hm.out, Bool.false_or] at q
      (rw [← Ht.out]; exact q)
    · exact id (CW.frm hBg _ _ _ _ _ hB)
  · go_wp2
    refine bodyPost_end (v := .tuple #[]) (by simp [results, Tryz.results66, go_sem]) rfl ⟨rfl, ?_, ?_⟩
    · have q := H.out.store hBg (t' := t') HF.out (.cells #[.int .u8 (b.toNat : Int)] 5)
      rw [Hm.out, Bool.true_or] at q
      (rw [← Ht.out]; exact q)
    · exact id (CW.frm hBg _ _ _ _ _ hB)
set_option maxRecDepth 100000 in
set_option maxHeartbeats 1000000 in
theorem literal_new (B : Nat) (ao : Option Addr) (cap : Nat) (out : List Prt) (b : UInt8) (w0 : World) (h0 : CW B ao cap out w0) (hn : out.length ≤ 1000) (hl : lastLit out = false) :
    Calls Tryz.prog 66 #[.pointer (some ⟨B, 0, none⟩), .int .u8 (b.toNat : Int)] w0 fun e w' => e = .returned (.tuple #[]) ∧ (∃ ao' cap', CW B ao' cap' (out ++ [⟨1, 0, [] ++ [b]⟩]) w') ∧ Frm (fun k => B ≤ k) w0 w' := by
  obtain ⟨i0, hi, hz0, hz1, hz2⟩ := info_parts infoPart
  have Hi := Lib.hid hi
  have Hz0 := Lib.hid hz0
  have Hz1 := Lib.hid hz1
  have Hz2 := Lib.hid hz2
  clear hi hz0 hz1 hz2
  have H0 := Lib.hid h0
  have hB0 := h0.lt
  have q0 := h0.c0
  have q1 := h0.c1
  have qf := h0.free
  have ho : out = [] ∨ ∃ r x, out = r ++ [x] ∧ x.k ≠ 1 := by
    rcases snoc_cases out with rfl | ⟨r, x, rfl⟩
    · exact .inl rfl
    · refine .inr ⟨r, x, rfl, ?_⟩
      unfold lastLit at hl
      rw [List.getLast?_concat] at hl
      simpa using hl
  have hrow := h0.row
  obtain ⟨m, hm⟩ : ∃ m, out.length = m := ⟨_, rfl⟩
  rw [hm] at q0 hrow hn
  have Hlen := Lib.hid hm
  rcases ho with ho | ⟨r, x, ho, hx⟩
  · have t0 : ((m : Int) == 0) = true := by rw [beq_iff_eq, ← hm, ho]; rfl
    clear h0 hl ho hm
    go_enter Tryz.func66, Tryz.ntmps66
    go_wp2_with (first
      | (at_builtin; go_loud (refine wpList_append_own _ rfl _ _ 63 rfl (B + 1) 110 i0 (.agg #[.int .i64 0, .int .i64 0, .string ByteArray.empty]) 3 32 Tryz.underlying63 Hi.out Hz0.out Hz1.out Hz2.out rfl (by decide) _ _ _ rfl (hrow.alloc _) ⟨w0.heap.size, 0, none⟩ 1 1 [.int .i64 1, .int .i64 0, .string ⟨#[]⟩] rfl rfl (cell_three_new _ _ _ _ _) (fun x hx => by simp at hx; rcases hx with rfl | rfl | rfl <;> rfl) (by unfold maxLen; omega) (by omega) (by rw [World.size_alloc]; omega) ?_; intro v' w3 hown' hgrow3 hnil3; obtain ⟨ao2, cap2, rfl⟩ := own_slice hown'; obtain ⟨g0, g1, g2, g3⟩ := H0.out.grow0 ((Ext.refl w0).alloc _) (by rw [Hlen.out]; exact hgrow3); rw [Hlen.out] at g0)))
    obtain ⟨ao', cap', e, h, HF0⟩ := H0.out.grow ((Ext.refl w0).alloc _) (by rw [Hlen.out]; exact hgrow3) (v' := .slice ao2 (m + 1) cap2) (q := ⟨1, 0, []⟩) (by rw [Hlen.out]; exact hown') (by simp)
    injection e with e1 e2 e3
    subst e1
    subst e3
    generalize w3.setCell ⟨B, 0, none⟩ (.slice ao2 (m + 1) cap2) = w at h HF0 ⊢
    clear hrow q0 q1 qf g0 g1 g2 g3 hgrow3 hown' hnil3 t0 hB0
    have hm := Hlen.out
    obtain ⟨t, ht0⟩ : ∃ t : List UInt8, t = [] := ⟨_, rfl⟩
    obtain ⟨wd, hwd⟩ : ∃ wd : Int, wd = 0 := ⟨_, rfl⟩
    obtain ⟨r, hr⟩ : ∃ r, r = out := ⟨_, rfl⟩
    rw [← ht0, ← hwd, ← hr] at h
    rw [← hr] at hm
    have ht : t.length ≤ 1000 := by rw [ht0]; simp
    have HT := Lib.hid ht0
    have HW := Lib.hid hwd
    have HR := Lib.hid hr
    clear ht0 hwd hr Hlen
    have H := Lib.hid h
    try clear hgl hfr hcap hBg k0 hji hji2 hji3
    obtain ⟨g, rfl, hBg, hgl, hcap, hcm, k0, k2, hfr⟩ := h.cells
    have hB := h.lt
    have c0 := h.c0
    have c1 := h.c1
    have fB := h.free
    rw [List.length_append, List.length_singleton] at c0
    unfold maxLen at hcm
    have hgB : g ≠ B := by omega
    have Hlg : Hid (longB (r ++ [⟨1, wd, t ++ [b]⟩]) = (longB (r ++ [⟨1, wd, t⟩]) || decide ((100 : Int) < (t.length : Int) + 1))) := by
      rw [Hid, longB_snoc, longB_snoc]
      simp only [List.length_append, List.length_singleton]
      cases longB r
      · rw [Bool.eq_iff_iff]; simp; omega
      · simp
    generalize longB (r ++ [⟨1, wd, t⟩]) = lg at c1 Hlg
    clear h
    simp only at k0 k2
    skip
    rw [hm] at hcap k0 k2 c0
    have Hm := Lib.hid hm
    clear hm
    have t0 : (((m : Int) + 1) == 0) = false := by rw [beq_eq_false_iff_ne]; omega
    have hcv : (convert 94 9 (.slice (some ⟨w.heap.size, 0, none⟩) 1 1)).run Tryz.prog (w.alloc (.cells #[.int .u8 (b.toNat : Int)] 5)).drew = .ok (.string ⟨#[b]⟩) (w.alloc (.cells #[.int .u8 (b.toNat : Int)] 5)).drew := by
      refine run_convert_bytes_back (P := Tryz.prog) (w.alloc (.cells #[.int .u8 (b.toNat : Int)] 5)).drew 94 9 5 ⟨w.heap.size, 0, none⟩ 1 [b] Tryz.underlying94 Tryz.underlying5 Tryz.underlying9 ?_
      intro i hi
      obtain rfl : i = 0 := by simpa using hi
      exact World.cell?_alloc_new _ _ _ 0
    go_region
    rw [snoc_str]
    obtain ⟨t', ht'⟩ : ∃ t', t' = t ++ [b] := ⟨_, rfl⟩
    rw [← ht']
    have hl' : t'.length = t.length + 1 := by rw [ht']; simp
    have Ht := Lib.hid ht'
    clear ht'
    have HF : Hid (longB (r ++ [⟨1, wd, t'⟩]) = (lg || decide ((100 : Int) < (t.length : Int) + 1))) := by rw [Hid, Ht.out]; exact Hlg.out
    cases lg
    · go_wp2
      refine bodyPost_end (v := .tuple #[]) (by simp [results, Tryz.results66, go_sem]) rfl ⟨rfl, ?_, ?_⟩
      · have q := H.out.store hBg (t' := t') HF.out (.cells #[.int .u8 (b.toNat : Int)] 5)
        rw [Hm.out, Bool.false_or] at q
        (rw [show (⟨1, wd, t'⟩ : Prt) = ⟨1, 0, [b]⟩ by rw [Ht.out, HT.out, HW.out]; rfl] at q; exact ⟨_, _, by rw [← HR.out]; exact q⟩)
      · exact HF0.trans (CW.frm hBg _ _ _ _ _ hB)
    · go_wp2
      refine bodyPost_end (v := .tuple #[]) (by simp [results, Tryz.results66, go_sem]) rfl ⟨rfl, ?_, ?_⟩
      · have q := H.out.store hBg (t' := t') HF.out (.cells #[.int .u8 (b.toNat : Int)] 5)
        rw [Hm.out, Bool.true_or] at q
        (rw [show (⟨1, wd, t'⟩ : Prt) = ⟨1, 0, [b]⟩ by rw [Ht.out, HT.out, HW.out]; rfl] at q; exact ⟨_, _, by rw [← HR.out]; exact q⟩)
      · exact HF0.trans (CW.frm hBg _ _ _ _ _ hB)
  · have hc := h0
    rw [ho] at hc
    obtain ⟨g, rfl, hBg, hgl, hcap, hcm, k0, -, hfr⟩ := hc.cells
    obtain ⟨m1, hm1⟩ : ∃ m1, r.length = m1 := ⟨_, rfl⟩
    have hmm : m = m1 + 1 := by rw [← hm, ho, ← hm1]; simp
    rw [hm1] at k0
    have t1 : (x.k == 1) = false := by simpa using hx
    have t0 : ((m : Int) == 0) = false := by rw [beq_eq_false_iff_ne]; omega
    have hji : (m : Int) - 1 = (m1 : Int) := by omega
    have hji2 : (0 : Int) ≤ (m1 : Int) := by omega
    have hji3 : (m1 : Int) < (m : Int) := by omega
    clear h0 hl ho hc hx hm hm1 hmm
    unfold maxLen at hcm
    go_enter Tryz.func66, Tryz.ntmps66
    go_wp2_with (first
      | (at_builtin; go_loud (refine wpList_append_own _ rfl _ _ 63 rfl (B + 1) 110 i0 (.agg #[.int .i64 0, .int .i64 0, .string ByteArray.empty]) 3 32 Tryz.underlying63 Hi.out Hz0.out Hz1.out Hz2.out rfl (by decide) _ _ _ rfl (hrow.alloc _) ⟨w0.heap.size, 0, none⟩ 1 1 [.int .i64 1, .int .i64 0, .string ⟨#[]⟩] rfl rfl (cell_three_new _ _ _ _ _) (fun x hx => by simp at hx; rcases hx with rfl | rfl | rfl <;> rfl) (by unfold maxLen; omega) (by omega) (by rw [World.size_alloc]; omega) ?_; intro v' w3 hown' hgrow3 hnil3; obtain ⟨ao2, cap2, rfl⟩ := own_slice hown'; obtain ⟨g0, g1, g2, g3⟩ := H0.out.grow0 ((Ext.refl w0).alloc _) (by rw [Hlen.out]; exact hgrow3); rw [Hlen.out] at g0)))
    obtain ⟨ao', cap', e, h, HF0⟩ := H0.out.grow ((Ext.refl w0).alloc _) (by rw [Hlen.out]; exact hgrow3) (v' := .slice ao2 (m + 1) cap2) (q := ⟨1, 0, []⟩) (by rw [Hlen.out]; exact hown') (by simp)
    injection e with e1 e2 e3
    subst e1
    subst e3
    generalize w3.setCell ⟨B, 0, none⟩ (.slice ao2 (m + 1) cap2) = w at h HF0 ⊢
    clear hrow q0 q1 qf g0 g1 g2 g3 hgrow3 hown' hnil3 t0 hB0
    have hm := Hlen.out
    obtain ⟨t, ht0⟩ : ∃ t : List UInt8, t = [] := ⟨_, rfl⟩
    obtain ⟨wd, hwd⟩ : ∃ wd : Int, wd = 0 := ⟨_, rfl⟩
    obtain ⟨r, hr⟩ : ∃ r, r = out := ⟨_, rfl⟩
    rw [← ht0, ← hwd, ← hr] at h
    rw [← hr] at hm
    have ht : t.length ≤ 1000 := by rw [ht0]; simp
    have HT := Lib.hid ht0
    have HW := Lib.hid hwd
    have HR := Lib.hid hr
    clear ht0 hwd hr Hlen
    have H := Lib.hid h
    try clear hgl hfr hcap hBg k0 hji hji2 hji3
    obtain ⟨g, rfl, hBg, hgl, hcap, hcm, k0, k2, hfr⟩ := h.cells
    have hB := h.lt
    have c0 := h.c0
    have c1 := h.c1
    have fB := h.free
    rw [List.length_append, List.length_singleton] at c0
    unfold maxLen at hcm
    have hgB : g ≠ B := by omega
    have Hlg : Hid (longB (r ++ [⟨1, wd, t ++ [b]⟩]) = (longB (r ++ [⟨1, wd, t⟩]) || decide ((100 : Int) < (t.length : Int) + 1))) := by
      rw [Hid, longB_snoc, longB_snoc]
      simp only [List.length_append, List.length_singleton]
      cases longB r
      · rw [Bool.eq_iff_iff]; simp; omega
      · simp
    generalize longB (r ++ [⟨1, wd, t⟩]) = lg at c1 Hlg
    clear h
    simp only at k0 k2
    skip
    rw [hm] at hcap k0 k2 c0
    have Hm := Lib.hid hm
    clear hm
    have t0 : (((m : Int) + 1) == 0) = false := by rw [beq_eq_false_iff_ne]; omega
    have hcv : (convert 94 9 (.slice (some ⟨w.heap.size, 0, none⟩) 1 1)).run Tryz.prog (w.alloc (.cells #[.int .u8 (b.toNat : Int)] 5)).drew = .ok (.string ⟨#[b]⟩) (w.alloc (.cells #[.int .u8 (b.toNat : Int)] 5)).drew := by
      refine run_convert_bytes_back (P := Tryz.prog) (w.alloc (.cells #[.int .u8 (b.toNat : Int)] 5)).drew 94 9 5 ⟨w.heap.size, 0, none⟩ 1 [b] Tryz.underlying94 Tryz.underlying5 Tryz.underlying9 ?_
      intro i hi
      obtain rfl : i = 0 := by simpa using hi
      exact World.cell?_alloc_new _ _ _ 0
    go_region
    rw [snoc_str]
    obtain ⟨t', ht'⟩ : ∃ t', t' = t ++ [b] := ⟨_, rfl⟩
    rw [← ht']
    have hl' : t'.length = t.length + 1 := by rw [ht']; simp
    have Ht := Lib.hid ht'
    clear ht'
    have HF : Hid (longB (r ++ [⟨1, wd, t'⟩]) = (lg || decide ((100 : Int) < (t.length : Int) + 1))) := by rw [Hid, Ht.out]; exact Hlg.out
    cases lg
    · go_wp2
      refine bodyPost_end (v := .tuple #[]) (by simp [results, Tryz.results66, go_sem]) rfl ⟨rfl, ?_, ?_⟩
      · have q := H.out.store hBg (t' := t') HF.out (.cells #[.int .u8 (b.toNat : Int)] 5)
        rw [Hm.out, Bool.false_or] at q
        (rw [show (⟨1, wd, t'⟩ : Prt) = ⟨1, 0, [b]⟩ by rw [Ht.out, HT.out, HW.out]; rfl] at q; exact ⟨_, _, by rw [← HR.out]; exact q⟩)
      · exact HF0.trans (CW.frm hBg _ _ _ _ _ hB)
    · go_wp2
      refine bodyPost_end (v := .tuple #[]) (by simp [results, Tryz.results66, go_sem]) rfl ⟨rfl, ?_, ?_⟩
      · have q := H.out.store hBg (t' := t') HF.out (.cells #[.int .u8 (b.toNat : Int)] 5)
        rw [Hm.out, Bool.true_or] at q
        (rw [show (⟨1, wd, t'⟩ : Prt) = ⟨1, 0, [b]⟩ by rw [Ht.out, HT.out, HW.out]; rfl] at q; exact ⟨_, _, by rw [← HR.out]; exact q⟩)
      · exact HF0.trans (CW.frm hBg _ _ _ _ _ hB)
/-- A byte more of a literal. -/
theorem literal_c (B : Nat) (ao : Option Addr) (cap : Nat) (out : List Prt) (b : UInt8) (w : World) (h : CW B ao cap out w) (hn : out.length ≤ 1000) (ht : ∀ p ∈ out, p.t.length ≤ 1000) :
    Calls Tryz.prog 66 #[.pointer (some ⟨B, 0, none⟩), .int .u8 (b.toNat : Int)] w fun e w' => e = .returned (.tuple #[]) ∧ (∃ ao' cap', CW B ao' cap' (addLit out b) w') ∧ Frm (fun k => B ≤ k) w w' := by
  rcases snoc_cases out with rfl | ⟨r, ⟨k, wd, t⟩, rfl⟩
  · rw [addLit_nil]
    exact literal_new B ao cap [] b w h hn rfl
  · rw [addLit_snoc]
    by_cases hk : k = 1
    · subst hk
      rw [if_pos rfl]
      refine (literal_old B ao cap r wd t b w h (by simp at hn; omega) (ht ⟨1, wd, t⟩ (by simp))).mono ?_
      rintro e w' ⟨a, c, d⟩
      exact ⟨a, ⟨_, _, c⟩, d⟩
    · rw [if_neg hk]
      exact literal_new B ao cap _ b w h hn (by unfold lastLit; rw [List.getLast?_concat]; simpa using hk)
end Go.Proofs.YtnhdmnhfllecgaaGreatDoor
/- Patterns, plainly: the two tables of letters, as maps. -/
namespace Go.Proofs.YtnhdmnhfllecgaaGreatDoor
set_option linter.unusedVariables false
set_option linter.unusedSimpArgs false

def smL : List (Nat × Int) := [(121, 2), (77, 3), (100, 6), (72, 9), (104, 10), (109, 11), (115, 12)]
/-- The letters of numbers, as a map. -/
def smD : DataW Unit := smL.foldl (fun m x => m.put (.int .u8 (x.1 : Int)) (.lit (.int .i64 x.2))) (.map [])
def nmL : List (List UInt8 × Int) := [([77, 77, 77], 4), ([77, 77, 77, 77], 5), ([69, 69, 69], 7), ([69, 69, 69, 69], 8), ([97], 13), ([90], 14), ([122], 15)]
/-- The runs of letters of names, as a map. -/
def nmD : DataW Unit := nmL.foldl (fun m x => m.put (.string x.1) (.lit (.int .i64 x.2))) (.map [])
theorem smD_eq : smD = .map [(.int .u8 72, .lit (.int .i64 9)), (.int .u8 77, .lit (.int .i64 3)), (.int .u8 100, .lit (.int .i64 6)), (.int .u8 104, .lit (.int .i64 10)), (.int .u8 109, .lit (.int .i64 11)), (.int .u8 115, .lit (.int .i64 12)), (.int .u8 121, .lit (.int .i64 2))] := by rfl
theorem nmD_eq : nmD = .map [(.string [69, 69, 69], .lit (.int .i64 7)), (.string [69, 69, 69, 69], .lit (.int .i64 8)), (.string [77, 77, 77], .lit (.int .i64 4)), (.string [77, 77, 77, 77], .lit (.int .i64 5)), (.string [90], .lit (.int .i64 14)), (.string [97], .lit (.int .i64 13)), (.string [122], .lit (.int .i64 15))] := by rfl
theorem u8_int {c : UInt8} {k : Nat} (hk : k < 256) : ((k : Int) = (c.toNat : Int)) ↔ c = UInt8.ofNat k := by
  constructor
  · intro h
    have : c.toNat = k := by omega
    rw [← this]; simp
  · rintro rfl
    simp; omega
theorem smD_at (c : UInt8) : smD.atKey (.int .u8 (c.toNat : Int)) (.lit (.int .i64 0)) = .lit (.int .i64 (numK c : Int)) ∧ Maps.has smD (.int .u8 (c.toNat : Int)) = decide (numK c ≠ 0) := by
  rw [smD_eq]
  by_cases h1 : c = 121
  · subst h1; exact ⟨rfl, rfl⟩
  by_cases h2 : c = 77
  · subst h2; exact ⟨rfl, rfl⟩
  by_cases h3 : c = 100
  · subst h3; exact ⟨rfl, rfl⟩
  by_cases h4 : c = 72
  · subst h4; exact ⟨rfl, rfl⟩
  by_cases h5 : c = 104
  · subst h5; exact ⟨rfl, rfl⟩
  by_cases h6 : c = 109
  · subst h6; exact ⟨rfl, rfl⟩
  by_cases h7 : c = 115
  · subst h7; exact ⟨rfl, rfl⟩
  have e : numK c = 0 := by unfold numK; simp [h1, h2, h3, h4, h5, h6, h7]
  have f : ∀ k : Nat, k < 256 → c ≠ UInt8.ofNat k → ¬ ((k : Int) = (c.toNat : Int)) := fun k hk hn q => hn ((u8_int hk).1 q)
  have g1 : ¬ ((72 : Int) = (c.toNat : Int)) := f 72 (by decide) h4
  have g2 : ¬ ((77 : Int) = (c.toNat : Int)) := f 77 (by decide) h2
  have g3 : ¬ ((100 : Int) = (c.toNat : Int)) := f 100 (by decide) h3
  have g4 : ¬ ((104 : Int) = (c.toNat : Int)) := f 104 (by decide) h5
  have g5 : ¬ ((109 : Int) = (c.toNat : Int)) := f 109 (by decide) h6
  have g6 : ¬ ((115 : Int) = (c.toNat : Int)) := f 115 (by decide) h7
  have g7 : ¬ ((121 : Int) = (c.toNat : Int)) := f 121 (by decide) h1
  rw [e]
  constructor
  · simp [DataW.atKey, Lit.sameKey, g1, g2, g3, g4, g5, g6, g7]
  · simp [Maps.has, Lit.sameKey, g1, g2, g3, g4, g5, g6, g7]
theorem rep_eq (c d : UInt8) (n m : Nat) (hm : m ≠ 0) : List.replicate n c = List.replicate m d ↔ c = d ∧ n = m := by
  rw [List.replicate_inj]
  constructor
  · rintro ⟨rfl, h | h⟩
    · exact absurd h hm
    · exact ⟨h, rfl⟩
  · rintro ⟨rfl, rfl⟩
    exact ⟨rfl, .inr rfl⟩
theorem nmD_at (c : UInt8) (n : Nat) : nmD.atKey (.string (List.replicate n c)) (.lit (.int .i64 0)) = .lit (.int .i64 (namK c n : Int)) := by
  rw [nmD_eq]
  have k1 : ∀ (d : UInt8) (m : Nat), m ≠ 0 → (List.replicate m d == List.replicate n c) = decide (c = d ∧ n = m) := by
    intro d m hm
    rw [Bool.eq_iff_iff, beq_iff_eq, decide_eq_true_eq, eq_comm]
    exact rep_eq c d n m hm
  have q1 := k1 77 3 (by decide)
  have q2 := k1 77 4 (by decide)
  have q3 := k1 69 3 (by decide)
  have q4 := k1 69 4 (by decide)
  have q5 := k1 97 1 (by decide)
  have q6 := k1 90 1 (by decide)
  have q7 := k1 122 1 (by decide)
  have r : ∀ (d : UInt8), List.replicate 3 d = [d, d, d] ∧ List.replicate 4 d = [d, d, d, d] ∧ List.replicate 1 d = [d] := fun d => ⟨rfl, rfl, rfl⟩
  rw [(r 77).1] at q1; rw [(r 77).2.1] at q2; rw [(r 69).1] at q3; rw [(r 69).2.1] at q4
  rw [(r 97).2.2] at q5; rw [(r 90).2.2] at q6; rw [(r 122).2.2] at q7
  simp only [DataW.atKey, List.find?, Lit.sameKey, q1, q2, q3, q4, q5, q6, q7]
  unfold namK
  by_cases h1 : c = 69 ∧ n = 3
  · obtain ⟨rfl, rfl⟩ := h1; rfl
  by_cases h2 : c = 69 ∧ n = 4
  · obtain ⟨rfl, rfl⟩ := h2; rfl
  by_cases h3 : c = 77 ∧ n = 3
  · obtain ⟨rfl, rfl⟩ := h3; rfl
  by_cases h4 : c = 77 ∧ n = 4
  · obtain ⟨rfl, rfl⟩ := h4; rfl
  by_cases h5 : c = 90 ∧ n = 1
  · obtain ⟨rfl, rfl⟩ := h5; rfl
  by_cases h6 : c = 97 ∧ n = 1
  · obtain ⟨rfl, rfl⟩ := h6; rfl
  by_cases h7 : c = 122 ∧ n = 1
  · obtain ⟨rfl, rfl⟩ := h7; rfl
  simp only [h1, h2, h3, h4, h5, h6, h7, decide_false, if_false]
  rfl
end Go.Proofs.YtnhdmnhfllecgaaGreatDoor
