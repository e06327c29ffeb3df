/- Locales: the walks of what reads a line: a category. -/
import Derived.Test.YtnhdmnhfllecgaaGreatDoorQ34
import Derived.Test.YtnhdmnhfllecgaaGreatDoorQ15
import Derived.Test.YtnhdmnhfllecgaaGreatDoorQ35
import Derived.Test.YtnhdmnhfllecgaaGreatDoorQ28
namespace Go.Proofs.YtnhdmnhfllecgaaGreatDoor
set_option linter.unusedVariables false
set_option linter.unusedSimpArgs false
open Go.RowKit

theorem infoPlu : (Tryz.prog.info? 50).map (fun i => (i.zero, i.size, i.bytes)) = some (some (.agg #[.string ByteArray.empty, .string ByteArray.empty]), 2, 32) := by kernel_rfl
theorem cell_two_new (w : World) (x y : Value) (t : TypeId) : ∀ j u, [x, y][j]? = some u → (w.alloc (.cells #[x, y] t)).cell? ((⟨w.heap.size, 0, none⟩ : Addr).add j) = some u := by
  intro j u hj
  match j, hj with
  | 0, hj => simp at hj; subst hj; rw [show ((⟨w.heap.size, 0, none⟩ : Addr).add 0) = ⟨w.heap.size, 0, none⟩ from rfl, World.cell?_alloc_new]; rfl
  | 1, hj => simp at hj; subst hj; rw [show ((⟨w.heap.size, 0, none⟩ : Addr).add 1) = ⟨w.heap.size, 1, none⟩ from rfl, World.cell?_alloc_new]; rfl
theorem yr_bld2 {P : Program} {o : Oper} {a : Act} {w w' : World} {t : TypeId} {x y : Operand} {u v r : Value} (hop : o.op = .build t #[(0, x), (1, y)]) (hx : a.eval x = u) (hy : a.eval y = v) (hrun : (Instr.build t #[(0, u), (1, v)]).run P w = .ok r w') : (execOp a.eval o).run P w = .ok (.value r) w' := by
  subst hx
  subst hy
  unfold execOp; simp only [hop]
  simp only [Sem.run_bind, List.map_toArray, List.map_cons, List.map_nil, hrun, Result.andThen]
  rfl
theorem bld_plu (x y : ByteArray) (w : World) : (Instr.build 50 #[(0, .string x), (1, .string y)]).run Tryz.prog w = .ok (.agg #[.string x, .string y]) w := by kernel_rfl
theorem bs1_plu (x y : ByteArray) (w : World) : (Instr.buildSlice 27 1 #[(0, .agg #[.string x, .string y])]).run Tryz.prog w = .ok (.slice (some ⟨w.heap.size, 0, none⟩) 1 1) (w.alloc (.cells #[.string x, .string y] 50)) := by kernel_rfl
theorem ld_pp (p : Addr) (x : Value) (w : World) (hc : w.cell? p = some x) : (Instr.loadAt 79 (.pointer (some p))).run Tryz.prog w = .ok x w := by go_simp
theorem st_plu (p : Addr) (x : Value) (ao : Option Addr) (n c : Nat) (w : World) (hc : w.cell? p = some x) (hf : w.frozen? p = false) : (Instr.storeAt 27 (.pointer (some p)) (.slice ao n c)).run Tryz.prog w = .ok () (w.setCell p (.slice ao n c)) := by go_simp
theorem gs_store {P : Program} {o : Oper} {Q : Exit → Act → World → Prop} {K : Act → World → Prop} {a : Act} {w w' : World} {t : TypeId} {x y : Operand} {p u : Value} (hd : o.dst = none) (hop : o.op = .store t x y) (hx : a.eval x = p) (hy : a.eval y = u) (hrun : (Instr.storeAt t p u).run P w = .ok () w') (h : K (a.put none undef) w') : o.wp P a w K Q := by
  subst hx
  subst hy
  unfold Oper.wp execOp
  simp only [hop, Sem.run_bind, hrun, Result.andThen]
  show K (a.put o.dst undef) w'
  rw [hd]; exact h
/-- A slice of two texts' struct, in a block of its own. -/
def TwoS (S : Nat → Prop) (x y : List UInt8) (v : Value) (w : World) : Prop := ∃ g, v = .slice (some ⟨g, 0, none⟩) 1 1 ∧ w.cell? ⟨g, 0, none⟩ = some (.string ⟨x.toArray⟩) ∧ w.cell? ⟨g, 1, none⟩ = some (.string ⟨y.toArray⟩) ∧ ¬ S g ∧ g < w.heap.size
theorem TwoS.frm {S : Nat → Prop} {x y : List UInt8} {v : Value} {w w' : World} (h : TwoS S x y v w) (hF : Frm S w w') : TwoS S x y v w' := by
  obtain ⟨g, h1, h2, h3, h4, h5⟩ := h
  exact ⟨g, h1, (hF.cel h5 h4 0).trans h2, (hF.cel h5 h4 1).trans h3, h4, hF.lt h5⟩
theorem TwoS.new {S : Nat → Prop} {z : Nat} {w : World} (hS : ∀ k, S k → k < z) (hz : z ≤ w.heap.size) (x y : List UInt8) : TwoS S x y (.slice (some ⟨w.heap.size, 0, none⟩) 1 1) (w.alloc (.cells #[.string ⟨x.toArray⟩, .string ⟨y.toArray⟩] 50)) :=
  ⟨_, rfl, by rw [World.cell?_alloc_new]; rfl, by rw [World.cell?_alloc_new]; rfl, fun h => by have := hS _ h; omega, by simp⟩
theorem two_at {x y : Value} {g : Nat} {w : World} (h0 : w.cell? ⟨g, 0, none⟩ = some x) (h1 : w.cell? ⟨g, 1, none⟩ = some y) : ∀ (j : Nat) v, [x, y][j]? = some v → w.cell? ((⟨g, 0, none⟩ : Addr).add j) = some v := by
  intro j v hj
  match j, hj with
  | 0, hj => simp at hj; subst hj; exact h0
  | 1, hj => simp at hj; subst hj; exact h1
/-- A row that has grown by one. -/
def RowS (b : Nat) (ao : Option Addr) (n : Nat) (xs : List Value) (z : Nat) (v : Value) (w : World) : Prop := ∃ g cap, v = .slice (some ⟨g, 0, none⟩) (n + 1) cap ∧ w.ownsRow b 50 2 (.slice (some ⟨g, 0, none⟩) (n + 1) cap) (n + 1) xs ∧ (bk ao = some g ∨ z ≤ g)
theorem RowS.ext {b : Nat} {ao : Option Addr} {n : Nat} {xs : List Value} {z : Nat} {v : Value} {w w' : World} (h : RowS b ao n xs z v w) (hE : Ext w w') : RowS b ao n xs z v w' := by
  obtain ⟨g, cap, h1, h2, h3⟩ := h
  exact ⟨g, cap, h1, own_ext h2 hE, h3⟩
theorem grown_frm {w w' : World} {r : Option Nat} (h : w.grownBy w' r) : Frm (fun k => r = some k) w w' := ⟨h.os, h.tape, h.output, h.size, fun k hk hs => h.block k hk (fun e => hs e.symm)⟩
theorem frm_grown {w w' : World} {r : Option Nat} (h : Frm (fun k => r = some k) w w') : w.grownBy w' r := ⟨h.os, h.tape, h.output, h.size, fun k hk hs => h.block k hk (fun e => hs e.symm)⟩
/-- A cell of the reader's own. -/
def KdB (B Y : Nat) (v : Value) : Loc → World → Prop := fun L w => w.cell? ⟨Y, 0, none⟩ = some v ∧ Y < w.heap.size ∧ Far L B Y
/-- The locale's object when another row of it grows. -/
theorem obj_grown {L : Loc} {b B : Nat} {w w2 w3 : World} {row : Option Nat} (h : LSw L b B w) (hE : Ext w w2) (hg : w2.grownBy w3 row) (hr : row ≠ some B) :
    w3.cell? ⟨B, 41, none⟩ = some (.slice L.pa L.P.length L.pc) ∧ w3.cell? ⟨B, 42, none⟩ = some (.slice L.oa L.O.length L.oc) ∧ w3.cell? ⟨B, 43, none⟩ = some (.slice L.ua L.U.length L.uc) ∧ ∀ o, w3.frozen? ⟨B, o, none⟩ = false := by
  have ho : w3.heap[B]? = some (.cells L.vals.toArray 30 (0, 0)) := (hg.block B (hE.lt h.lt) (fun e => hr e.symm)).trans (h.ext hE).obj
  have hB : LcB L B w3 := by
    refine ⟨?_, fun j v hv => ?_⟩
    · rcases Nat.lt_or_ge B w3.heap.size with q | q
      · exact q
      · rw [Array.getElem?_eq_none q] at ho; cases ho
    · rw [Nat.zero_add, cell_of_row w3 B j _ _ (0, 0) ho]
      simpa using hv
  obtain ⟨g0, g1, g2, g3, g4⟩ := hB.cells h.ok
  exact ⟨g1, g2, g3, fun o => frz_obj ho o⟩
theorem add_cat {st : Nat} {D : LocD} {t A R : List UInt8} {two : Bool} (h6 : 6 ≤ st) (h7 : st ≤ 7) (hcut : cut1 t = (A, R, two)) :
    addL st D t = if A = [] ∨ (two = true ∧ R = []) then none else some (if st = 6 then { D with P := D.P ++ [⟨A, R⟩] } else { D with O := D.O ++ [⟨A, R⟩] }) := by
  rw [addL, if_neg (by omega), if_neg (by omega), if_pos h7, hcut]
set_option maxRecDepth 100000 in
set_option maxHeartbeats 2000000 in
theorem acc_P (b B Y : Nat) : AccS 6 93 (.pointer (some ⟨Y, 0, none⟩)) b B (KdB B Y (.pointer (some ⟨B, 41, none⟩))) := by
  refine ⟨fun xs w' => by kernel_rfl, ?_⟩
  intro L D k t w h hD hz hk ht hm hY
  obtain ⟨hy0, hyz, hyf⟩ := hY
  obtain ⟨A, R, two, hcut⟩ : ∃ A R two, cut1 t = (A, R, two) := ⟨_, _, _, rfl⟩
  have hcl : A.length ≤ t.length ∧ R.length ≤ t.length := by
    have := cut_len t [32]
    unfold cut1 at hcut
    rw [hcut] at this
    exact this
  have H := Lib.hid h
  have HD := Lib.hid hD
  have Hm := Lib.hid hm
  have Hcut : Hid (Lib.cut t [32] = (A, R, two)) := hcut
  have hn : L.P.length ≤ 60000 := by have := hz.nP; rw [hD.P]; omega
  obtain ⟨i0, hi, hz0, hz1, hz2⟩ := info_parts infoPlu
  have Hi := Lib.hid hi
  have Hz0 := Lib.hid hz0
  have Hz1 := Lib.hid hz1
  have Hz2 := Lib.hid hz2
  have HAD : Hid (addL 6 D t = if A = [] ∨ (two = true ∧ R = []) then none else some (if 6 = 6 then { D with P := D.P ++ [⟨A, R⟩] } else { D with O := D.O ++ [⟨A, R⟩] })) := add_cat (by decide) (by decide) hcut
  clear hcut
  clear h hD hz hm hi hz0 hz1 hz2
  by_cases hA : A = []
  · have tA : (A == []) = true := by simpa using hA
    have tA2 : (A != []) = false := by simpa using hA
    have tA3 : A.isEmpty = true := by simpa using hA
    have HnA := Lib.hid hA
    clear hA
    go_enter Tryz.func93, Tryz.ntmps93
    go_upto_region 2 with (first
      | (go_at_call 47; (with_reducible refine (cutS_c t [32] A R _ _ Hm.out (by omega) Hcut.out).mono ?_); rintro e w1 ⟨rfl, hE1⟩))
    have H1 := Lib.hid (H.out.ext hE1)
    have HE1 := Lib.hid hE1
    have c1 : w1.cell? ⟨B, 41, none⟩ = some (.slice L.pa L.P.length L.pc) := by
      obtain ⟨g0, g1, g2, g3, g4⟩ := H1.out.lcb.cells H1.out.ok
      assumption
    have hB1 := H1.out.lt
    have y1 := (hE1.cells Y 0 hyz).trans hy0
    have yz1 := hE1.lt hyz
    have hs1 := H1.out.bB
    have hown1 := H1.out.oP
    have hSlt : ∀ k, bk L.pa = some k → k < w1.heap.size := fun k e => (H1.out.blk_in 0 k e).2
    have hnY : ¬ bk L.pa = some Y := fun e => hyf.2 0 e
    have hnB : ¬ bk L.pa = some B := H1.out.nB 0
    refine wp_region_growP [13, 14, 15, 16, 17, 18, 19, 20, 21, 22] [fun x _ => x = .pointer (some ⟨B, 41, none⟩), fun x _ => x = .pointer (some ⟨B, 41, none⟩), fun x _ => x = .pointer (some ⟨B, 41, none⟩), fun x _ => x = .slice L.pa L.P.length L.pc, fun x _ => x = .string ⟨A.toArray⟩, fun x _ => x = .string ⟨R.toArray⟩, fun x _ => x = .agg #[.string ⟨A.toArray⟩, .string ⟨R.toArray⟩], TwoS (fun k => bk L.pa = some k) A R, RowS b L.pa L.P.length (plcs L.P ++ [.string ⟨A.toArray⟩, .string ⟨R.toArray⟩]) w1.heap.size, fun x _ => x = .pointer (some ⟨B, 41, none⟩)] (fun k => bk L.pa = some k) 8 1 (by kernel_rfl) (by kernel_rfl) (by kernel_rfl) (by kernel_rfl) ?_ ?_ ?_ ?_ ?_
    · refine ⟨?_, ?_, ?_, ?_, ?_, ?_, ?_, ?_, ?_, ?_, trivial⟩
      · exact fun _ _ _ _ h _ => h
      · exact fun _ _ _ _ h _ => h
      · exact fun _ _ _ _ h _ => h
      · exact fun _ _ _ _ h _ => h
      · exact fun _ _ _ _ h _ => h
      · exact fun _ _ _ _ h _ => h
      · exact fun _ _ _ _ h _ => h
      · exact fun _ _ _ _ h hF => TwoS.frm h hF
      · exact fun h => absurd rfl h
      · exact fun _ _ _ _ h _ => h
    · exact fun _ _ _ h hE => RowS.ext h hE
    · refine ⟨?_, ?_, ?_, ?_, ?_, ?_, ?_, ?_, ?_, ?_, trivial⟩
      · intro _ a w hE hF hD K hK
        exact gs_val rfl (yr_load rfl ((hF 1 (fr_of rfl)).trans rfl) (ld_pp _ _ _ ((hE.cel yz1 hnY 0).trans y1))) (hK _ _ rfl (Ext.refl _))
      · intro _ a w hE hF hD K hK
        exact gs_val rfl (yr_load rfl ((hF 1 (fr_of rfl)).trans rfl) (ld_pp _ _ _ ((hE.cel yz1 hnY 0).trans y1))) (hK _ _ rfl (Ext.refl _))
      · intro _ a w hE hF hD K hK
        have u14 : a.eval (.tmp 14) = .pointer (some ⟨B, 41, none⟩) := hD 1 (by kernel_rfl)
        exact gs_val rfl (yr_nil rfl u14) (hK _ _ rfl (Ext.refl _))
      · intro _ a w hE hF hD K hK
        have u15 : a.eval (.tmp 15) = .pointer (some ⟨B, 41, none⟩) := hD 2 (by kernel_rfl)
        exact gs_val rfl (yr_load rfl u15 (ld_plu _ _ _ ((hE.cel hB1 hnB 41).trans c1))) (hK _ _ rfl (Ext.refl _))
      · intro _ a w hE hF hD K hK
        exact gs_val rfl (yr_move rfl ((hF 4 (fr_of rfl)).trans rfl)) (hK _ _ rfl (Ext.refl _))
      · intro _ a w hE hF hD K hK
        exact gs_val rfl (yr_move rfl ((hF 5 (fr_of rfl)).trans rfl)) (hK _ _ rfl (Ext.refl _))
      · intro _ a w hE hF hD K hK
        have u17 : a.eval (.tmp 17) = .string ⟨A.toArray⟩ := hD 4 (by kernel_rfl)
        have u18 : a.eval (.tmp 18) = .string ⟨R.toArray⟩ := hD 5 (by kernel_rfl)
        exact gs_val rfl (yr_bld2 rfl u17 u18 (bld_plu _ _ w)) (hK _ _ rfl (Ext.refl _))
      · intro _ a w hE hF hD K hK
        have u19 : a.eval (.tmp 19) = .agg #[.string ⟨A.toArray⟩, .string ⟨R.toArray⟩] := hD 6 (by kernel_rfl)
        exact gs_mkE rfl (yr_bs1 rfl u19 (bs1_plu _ _ w)) (hK _ _ (TwoS.new hSlt (Nat.le_trans hE.size (Nat.le_refl _)) _ _) ((Ext.refl _).alloc _))
      · exact fun h => absurd rfl h
      · intro _ a w hE hF hD K hK
        have u13 : a.eval (.tmp 13) = .pointer (some ⟨B, 41, none⟩) := hD 0 (by kernel_rfl)
        exact gs_val rfl (yr_nil rfl u13) (hK _ _ rfl (Ext.refl _))
    · intro a w hE hF hD K hK
      have u16 : a.eval (.tmp 16) = .slice L.pa L.P.length L.pc := hD 3 (by kernel_rfl)
      have u20 : (TwoS (fun k => bk L.pa = some k) A R) (a.eval (.tmp 20)) w := hD 7 (by kernel_rfl)
      obtain ⟨g2, e20, k0, k1, k2, k3⟩ := u20
      refine wp_append_lies w (.tmp 16) (.tmp 20) 27 rfl b 50 i0 (.agg #[.string ByteArray.empty, .string ByteArray.empty]) 2 32 Tryz.underlying27 Hi.out Hz0.out Hz1.out Hz2.out rfl (by decide) (.slice L.pa L.P.length L.pc) L.P.length (plcs L.P) u16 (own_ext hown1 hE) ⟨g2, 0, none⟩ 1 1 [.string ⟨A.toArray⟩, .string ⟨R.toArray⟩] e20 rfl (two_at k0 k1) (fun x hx => by simp at hx; rcases hx with rfl | rfl <;> rfl) (by decide) (by unfold maxLen; omega) (by omega) (by have := hE.size; omega) _ rfl ?_
      intro g3 cap3 w3 hown3 hgrow3 hat3 hlt3
      rw [own_bk] at hgrow3 hat3
      exact hK _ _ ⟨g3, cap3, rfl, hown3, hat3.imp id (fun q => by rw [q]; exact hE.size)⟩ (grown_frm hgrow3)
    intro vals wz hEz hRz
    obtain ⟨h0, -, -, -, -, -, -, -, h8, h9, -⟩ := hRz
    have e13 : vals 0 = .pointer (some ⟨B, 41, none⟩) := h0
    obtain ⟨g3, cap3, e21, hown3, hat3⟩ := h8
    have e22 : vals 9 = .pointer (some ⟨B, 41, none⟩) := h9
    simp only [putF, Act.put, List.length_cons, List.length_nil, List.getD_cons_zero, List.getD_cons_succ, List.setIfInBounds_toArray, List.set_cons_zero, List.set_cons_succ, Nat.reduceAdd, e13, e21, e22]
    clear e13 e21 e22
    obtain ⟨G41, G42, G43, GF⟩ := obj_grown H1.out (Ext.refl w1) (frm_grown hEz) (H1.out.nB 0)
    have hx := Lib.hid (H1.out.app_P ⟨A, R⟩ hown3 (frm_grown hEz) hat3)
    refine wpAny_op (i := 10) (by kernel_rfl) rfl (by rfl) ?_
    refine gs_store rfl rfl rfl rfl (st_plu _ _ _ _ _ _ (by assumption) (GF 41)) ?_
    refine wpAny_done (by kernel_rfl) ?_ _
    simp only [Act.put, List.setIfInBounds_toArray, List.set_cons_zero, List.set_cons_succ]
    have HE2 := Lib.hid (Stp.of_ext L B HE1.out)
    clear hown3 hat3 G41 G42 G43 GF c1 y1 hown1 hnY hnB hSlt hEz
    go_wp2_with fail
    go_ret
    unfold AccQ
    exact ⟨false, _, rfl, HE2.out.trans hx.out.2, (fun q => by cases q), fun _ => by rw [HAD.out, if_pos (by exact .inl HnA.out)]⟩
  · have tA : (A == []) = false := by simpa using hA
    have tA2 : (A != []) = true := by simpa using hA
    have tA3 : A.isEmpty = false := by simpa using hA
    have HnA := Lib.hid hA
    clear hA
    cases two with
    | false => go_enter Tryz.func93, Tryz.ntmps93
               go_upto_region 2 with (first
                 | (go_at_call 47; (with_reducible refine (cutS_c t [32] A R _ _ Hm.out (by omega) Hcut.out).mono ?_); rintro e w1 ⟨rfl, hE1⟩))
               have H1 := Lib.hid (H.out.ext hE1)
               have HE1 := Lib.hid hE1
               have c1 : w1.cell? ⟨B, 41, none⟩ = some (.slice L.pa L.P.length L.pc) := by
                 obtain ⟨g0, g1, g2, g3, g4⟩ := H1.out.lcb.cells H1.out.ok
                 assumption
               have hB1 := H1.out.lt
               have y1 := (hE1.cells Y 0 hyz).trans hy0
               have yz1 := hE1.lt hyz
               have hs1 := H1.out.bB
               have hown1 := H1.out.oP
               have hSlt : ∀ k, bk L.pa = some k → k < w1.heap.size := fun k e => (H1.out.blk_in 0 k e).2
               have hnY : ¬ bk L.pa = some Y := fun e => hyf.2 0 e
               have hnB : ¬ bk L.pa = some B := H1.out.nB 0
               refine wp_region_growP [13, 14, 15, 16, 17, 18, 19, 20, 21, 22] [fun x _ => x = .pointer (some ⟨B, 41, none⟩), fun x _ => x = .pointer (some ⟨B, 41, none⟩), fun x _ => x = .pointer (some ⟨B, 41, none⟩), fun x _ => x = .slice L.pa L.P.length L.pc, fun x _ => x = .string ⟨A.toArray⟩, fun x _ => x = .string ⟨R.toArray⟩, fun x _ => x = .agg #[.string ⟨A.toArray⟩, .string ⟨R.toArray⟩], TwoS (fun k => bk L.pa = some k) A R, RowS b L.pa L.P.length (plcs L.P ++ [.string ⟨A.toArray⟩, .string ⟨R.toArray⟩]) w1.heap.size, fun x _ => x = .pointer (some ⟨B, 41, none⟩)] (fun k => bk L.pa = some k) 8 1 (by kernel_rfl) (by kernel_rfl) (by kernel_rfl) (by kernel_rfl) ?_ ?_ ?_ ?_ ?_
               · refine ⟨?_, ?_, ?_, ?_, ?_, ?_, ?_, ?_, ?_, ?_, trivial⟩
                 · exact fun _ _ _ _ h _ => h
                 · exact fun _ _ _ _ h _ => h
                 · exact fun _ _ _ _ h _ => h
                 · exact fun _ _ _ _ h _ => h
                 · exact fun _ _ _ _ h _ => h
                 · exact fun _ _ _ _ h _ => h
                 · exact fun _ _ _ _ h _ => h
                 · exact fun _ _ _ _ h hF => TwoS.frm h hF
                 · exact fun h => absurd rfl h
                 · exact fun _ _ _ _ h _ => h
               · exact fun _ _ _ h hE => RowS.ext h hE
               · refine ⟨?_, ?_, ?_, ?_, ?_, ?_, ?_, ?_, ?_, ?_, trivial⟩
                 · intro _ a w hE hF hD K hK
                   exact gs_val rfl (yr_load rfl ((hF 1 (fr_of rfl)).trans rfl) (ld_pp _ _ _ ((hE.cel yz1 hnY 0).trans y1))) (hK _ _ rfl (Ext.refl _))
                 · intro _ a w hE hF hD K hK
                   exact gs_val rfl (yr_load rfl ((hF 1 (fr_of rfl)).trans rfl) (ld_pp _ _ _ ((hE.cel yz1 hnY 0).trans y1))) (hK _ _ rfl (Ext.refl _))
                 · intro _ a w hE hF hD K hK
                   have u14 : a.eval (.tmp 14) = .pointer (some ⟨B, 41, none⟩) := hD 1 (by kernel_rfl)
                   exact gs_val rfl (yr_nil rfl u14) (hK _ _ rfl (Ext.refl _))
                 · intro _ a w hE hF hD K hK
                   have u15 : a.eval (.tmp 15) = .pointer (some ⟨B, 41, none⟩) := hD 2 (by kernel_rfl)
                   exact gs_val rfl (yr_load rfl u15 (ld_plu _ _ _ ((hE.cel hB1 hnB 41).trans c1))) (hK _ _ rfl (Ext.refl _))
                 · intro _ a w hE hF hD K hK
                   exact gs_val rfl (yr_move rfl ((hF 4 (fr_of rfl)).trans rfl)) (hK _ _ rfl (Ext.refl _))
                 · intro _ a w hE hF hD K hK
                   exact gs_val rfl (yr_move rfl ((hF 5 (fr_of rfl)).trans rfl)) (hK _ _ rfl (Ext.refl _))
                 · intro _ a w hE hF hD K hK
                   have u17 : a.eval (.tmp 17) = .string ⟨A.toArray⟩ := hD 4 (by kernel_rfl)
                   have u18 : a.eval (.tmp 18) = .string ⟨R.toArray⟩ := hD 5 (by kernel_rfl)
                   exact gs_val rfl (yr_bld2 rfl u17 u18 (bld_plu _ _ w)) (hK _ _ rfl (Ext.refl _))
                 · intro _ a w hE hF hD K hK
                   have u19 : a.eval (.tmp 19) = .agg #[.string ⟨A.toArray⟩, .string ⟨R.toArray⟩] := hD 6 (by kernel_rfl)
                   exact gs_mkE rfl (yr_bs1 rfl u19 (bs1_plu _ _ w)) (hK _ _ (TwoS.new hSlt (Nat.le_trans hE.size (Nat.le_refl _)) _ _) ((Ext.refl _).alloc _))
                 · exact fun h => absurd rfl h
                 · intro _ a w hE hF hD K hK
                   have u13 : a.eval (.tmp 13) = .pointer (some ⟨B, 41, none⟩) := hD 0 (by kernel_rfl)
                   exact gs_val rfl (yr_nil rfl u13) (hK _ _ rfl (Ext.refl _))
               · intro a w hE hF hD K hK
                 have u16 : a.eval (.tmp 16) = .slice L.pa L.P.length L.pc := hD 3 (by kernel_rfl)
                 have u20 : (TwoS (fun k => bk L.pa = some k) A R) (a.eval (.tmp 20)) w := hD 7 (by kernel_rfl)
                 obtain ⟨g2, e20, k0, k1, k2, k3⟩ := u20
                 refine wp_append_lies w (.tmp 16) (.tmp 20) 27 rfl b 50 i0 (.agg #[.string ByteArray.empty, .string ByteArray.empty]) 2 32 Tryz.underlying27 Hi.out Hz0.out Hz1.out Hz2.out rfl (by decide) (.slice L.pa L.P.length L.pc) L.P.length (plcs L.P) u16 (own_ext hown1 hE) ⟨g2, 0, none⟩ 1 1 [.string ⟨A.toArray⟩, .string ⟨R.toArray⟩] e20 rfl (two_at k0 k1) (fun x hx => by simp at hx; rcases hx with rfl | rfl <;> rfl) (by decide) (by unfold maxLen; omega) (by omega) (by have := hE.size; omega) _ rfl ?_
                 intro g3 cap3 w3 hown3 hgrow3 hat3 hlt3
                 rw [own_bk] at hgrow3 hat3
                 exact hK _ _ ⟨g3, cap3, rfl, hown3, hat3.imp id (fun q => by rw [q]; exact hE.size)⟩ (grown_frm hgrow3)
               intro vals wz hEz hRz
               obtain ⟨h0, -, -, -, -, -, -, -, h8, h9, -⟩ := hRz
               have e13 : vals 0 = .pointer (some ⟨B, 41, none⟩) := h0
               obtain ⟨g3, cap3, e21, hown3, hat3⟩ := h8
               have e22 : vals 9 = .pointer (some ⟨B, 41, none⟩) := h9
               simp only [putF, Act.put, List.length_cons, List.length_nil, List.getD_cons_zero, List.getD_cons_succ, List.setIfInBounds_toArray, List.set_cons_zero, List.set_cons_succ, Nat.reduceAdd, e13, e21, e22]
               clear e13 e21 e22
               obtain ⟨G41, G42, G43, GF⟩ := obj_grown H1.out (Ext.refl w1) (frm_grown hEz) (H1.out.nB 0)
               have hx := Lib.hid (H1.out.app_P ⟨A, R⟩ hown3 (frm_grown hEz) hat3)
               refine wpAny_op (i := 10) (by kernel_rfl) rfl (by rfl) ?_
               refine gs_store rfl rfl rfl rfl (st_plu _ _ _ _ _ _ (by assumption) (GF 41)) ?_
               refine wpAny_done (by kernel_rfl) ?_ _
               simp only [Act.put, List.setIfInBounds_toArray, List.set_cons_zero, List.set_cons_succ]
               have HE2 := Lib.hid (Stp.of_ext L B HE1.out)
               clear hown3 hat3 G41 G42 G43 GF c1 y1 hown1 hnY hnB hSlt hEz
               go_wp2_with fail
               go_ret
               unfold AccQ
               exact ⟨true, _, rfl, HE2.out.trans hx.out.2, (fun _ => ⟨{ D with P := D.P ++ [⟨A, R⟩] }, by rw [HAD.out, if_neg (by rintro (q | ⟨q, -⟩); exact HnA.out q; cases q)]; rfl, hx.out.1, ⟨HD.out.nm, HD.out.N, by show L.P ++ _ = _; rw [HD.out.P], HD.out.O, HD.out.U, HD.out.pt⟩⟩), fun q => by cases q⟩
    | true =>
      by_cases hR : R = []
      · have tR : (R == []) = true := by simpa using hR
        have tR2 : (R != []) = false := by simpa using hR
        have tR3 : R.isEmpty = true := by simpa using hR
        have HnR := Lib.hid hR
        clear hR
        go_enter Tryz.func93, Tryz.ntmps93
        go_upto_region 2 with (first
          | (go_at_call 47; (with_reducible refine (cutS_c t [32] A R _ _ Hm.out (by omega) Hcut.out).mono ?_); rintro e w1 ⟨rfl, hE1⟩))
        have H1 := Lib.hid (H.out.ext hE1)
        have HE1 := Lib.hid hE1
        have c1 : w1.cell? ⟨B, 41, none⟩ = some (.slice L.pa L.P.length L.pc) := by
          obtain ⟨g0, g1, g2, g3, g4⟩ := H1.out.lcb.cells H1.out.ok
          assumption
        have hB1 := H1.out.lt
        have y1 := (hE1.cells Y 0 hyz).trans hy0
        have yz1 := hE1.lt hyz
        have hs1 := H1.out.bB
        have hown1 := H1.out.oP
        have hSlt : ∀ k, bk L.pa = some k → k < w1.heap.size := fun k e => (H1.out.blk_in 0 k e).2
        have hnY : ¬ bk L.pa = some Y := fun e => hyf.2 0 e
        have hnB : ¬ bk L.pa = some B := H1.out.nB 0
        refine wp_region_growP [13, 14, 15, 16, 17, 18, 19, 20, 21, 22] [fun x _ => x = .pointer (some ⟨B, 41, none⟩), fun x _ => x = .pointer (some ⟨B, 41, none⟩), fun x _ => x = .pointer (some ⟨B, 41, none⟩), fun x _ => x = .slice L.pa L.P.length L.pc, fun x _ => x = .string ⟨A.toArray⟩, fun x _ => x = .string ⟨R.toArray⟩, fun x _ => x = .agg #[.string ⟨A.toArray⟩, .string ⟨R.toArray⟩], TwoS (fun k => bk L.pa = some k) A R, RowS b L.pa L.P.length (plcs L.P ++ [.string ⟨A.toArray⟩, .string ⟨R.toArray⟩]) w1.heap.size, fun x _ => x = .pointer (some ⟨B, 41, none⟩)] (fun k => bk L.pa = some k) 8 1 (by kernel_rfl) (by kernel_rfl) (by kernel_rfl) (by kernel_rfl) ?_ ?_ ?_ ?_ ?_
        · refine ⟨?_, ?_, ?_, ?_, ?_, ?_, ?_, ?_, ?_, ?_, trivial⟩
          · exact fun _ _ _ _ h _ => h
          · exact fun _ _ _ _ h _ => h
          · exact fun _ _ _ _ h _ => h
          · exact fun _ _ _ _ h _ => h
          · exact fun _ _ _ _ h _ => h
          · exact fun _ _ _ _ h _ => h
          · exact fun _ _ _ _ h _ => h
          · exact fun _ _ _ _ h hF => TwoS.frm h hF
          · exact fun h => absurd rfl h
          · exact fun _ _ _ _ h _ => h
        · exact fun _ _ _ h hE => RowS.ext h hE
        · refine ⟨?_, ?_, ?_, ?_, ?_, ?_, ?_, ?_, ?_, ?_, trivial⟩
          · intro _ a w hE hF hD K hK
            exact gs_val rfl (yr_load rfl ((hF 1 (fr_of rfl)).trans rfl) (ld_pp _ _ _ ((hE.cel yz1 hnY 0).trans y1))) (hK _ _ rfl (Ext.refl _))
          · intro _ a w hE hF hD K hK
            exact gs_val rfl (yr_load rfl ((hF 1 (fr_of rfl)).trans rfl) (ld_pp _ _ _ ((hE.cel yz1 hnY 0).trans y1))) (hK _ _ rfl (Ext.refl _))
          · intro _ a w hE hF hD K hK
            have u14 : a.eval (.tmp 14) = .pointer (some ⟨B, 41, none⟩) := hD 1 (by kernel_rfl)
            exact gs_val rfl (yr_nil rfl u14) (hK _ _ rfl (Ext.refl _))
          · intro _ a w hE hF hD K hK
            have u15 : a.eval (.tmp 15) = .pointer (some ⟨B, 41, none⟩) := hD 2 (by kernel_rfl)
            exact gs_val rfl (yr_load rfl u15 (ld_plu _ _ _ ((hE.cel hB1 hnB 41).trans c1))) (hK _ _ rfl (Ext.refl _))
          · intro _ a w hE hF hD K hK
            exact gs_val rfl (yr_move rfl ((hF 4 (fr_of rfl)).trans rfl)) (hK _ _ rfl (Ext.refl _))
          · intro _ a w hE hF hD K hK
            exact gs_val rfl (yr_move rfl ((hF 5 (fr_of rfl)).trans rfl)) (hK _ _ rfl (Ext.refl _))
          · intro _ a w hE hF hD K hK
            have u17 : a.eval (.tmp 17) = .string ⟨A.toArray⟩ := hD 4 (by kernel_rfl)
            have u18 : a.eval (.tmp 18) = .string ⟨R.toArray⟩ := hD 5 (by kernel_rfl)
            exact gs_val rfl (yr_bld2 rfl u17 u18 (bld_plu _ _ w)) (hK _ _ rfl (Ext.refl _))
          · intro _ a w hE hF hD K hK
            have u19 : a.eval (.tmp 19) = .agg #[.string ⟨A.toArray⟩, .string ⟨R.toArray⟩] := hD 6 (by kernel_rfl)
            exact gs_mkE rfl (yr_bs1 rfl u19 (bs1_plu _ _ w)) (hK _ _ (TwoS.new hSlt (Nat.le_trans hE.size (Nat.le_refl _)) _ _) ((Ext.refl _).alloc _))
          · exact fun h => absurd rfl h
          · intro _ a w hE hF hD K hK
            have u13 : a.eval (.tmp 13) = .pointer (some ⟨B, 41, none⟩) := hD 0 (by kernel_rfl)
            exact gs_val rfl (yr_nil rfl u13) (hK _ _ rfl (Ext.refl _))
        · intro a w hE hF hD K hK
          have u16 : a.eval (.tmp 16) = .slice L.pa L.P.length L.pc := hD 3 (by kernel_rfl)
          have u20 : (TwoS (fun k => bk L.pa = some k) A R) (a.eval (.tmp 20)) w := hD 7 (by kernel_rfl)
          obtain ⟨g2, e20, k0, k1, k2, k3⟩ := u20
          refine wp_append_lies w (.tmp 16) (.tmp 20) 27 rfl b 50 i0 (.agg #[.string ByteArray.empty, .string ByteArray.empty]) 2 32 Tryz.underlying27 Hi.out Hz0.out Hz1.out Hz2.out rfl (by decide) (.slice L.pa L.P.length L.pc) L.P.length (plcs L.P) u16 (own_ext hown1 hE) ⟨g2, 0, none⟩ 1 1 [.string ⟨A.toArray⟩, .string ⟨R.toArray⟩] e20 rfl (two_at k0 k1) (fun x hx => by simp at hx; rcases hx with rfl | rfl <;> rfl) (by decide) (by unfold maxLen; omega) (by omega) (by have := hE.size; omega) _ rfl ?_
          intro g3 cap3 w3 hown3 hgrow3 hat3 hlt3
          rw [own_bk] at hgrow3 hat3
          exact hK _ _ ⟨g3, cap3, rfl, hown3, hat3.imp id (fun q => by rw [q]; exact hE.size)⟩ (grown_frm hgrow3)
        intro vals wz hEz hRz
        obtain ⟨h0, -, -, -, -, -, -, -, h8, h9, -⟩ := hRz
        have e13 : vals 0 = .pointer (some ⟨B, 41, none⟩) := h0
        obtain ⟨g3, cap3, e21, hown3, hat3⟩ := h8
        have e22 : vals 9 = .pointer (some ⟨B, 41, none⟩) := h9
        simp only [putF, Act.put, List.length_cons, List.length_nil, List.getD_cons_zero, List.getD_cons_succ, List.setIfInBounds_toArray, List.set_cons_zero, List.set_cons_succ, Nat.reduceAdd, e13, e21, e22]
        clear e13 e21 e22
        obtain ⟨G41, G42, G43, GF⟩ := obj_grown H1.out (Ext.refl w1) (frm_grown hEz) (H1.out.nB 0)
        have hx := Lib.hid (H1.out.app_P ⟨A, R⟩ hown3 (frm_grown hEz) hat3)
        refine wpAny_op (i := 10) (by kernel_rfl) rfl (by rfl) ?_
        refine gs_store rfl rfl rfl rfl (st_plu _ _ _ _ _ _ (by assumption) (GF 41)) ?_
        refine wpAny_done (by kernel_rfl) ?_ _
        simp only [Act.put, List.setIfInBounds_toArray, List.set_cons_zero, List.set_cons_succ]
        have HE2 := Lib.hid (Stp.of_ext L B HE1.out)
        clear hown3 hat3 G41 G42 G43 GF c1 y1 hown1 hnY hnB hSlt hEz
        go_wp2_with fail
        go_ret
        unfold AccQ
        exact ⟨false, _, rfl, HE2.out.trans hx.out.2, (fun q => by cases q), fun _ => by rw [HAD.out, if_pos (by exact .inr ⟨by trivial, HnR.out⟩)]⟩
      · have tR : (R == []) = false := by simpa using hR
        have tR2 : (R != []) = true := by simpa using hR
        have tR3 : R.isEmpty = false := by simpa using hR
        have HnR := Lib.hid hR
        clear hR
        go_enter Tryz.func93, Tryz.ntmps93
        go_upto_region 2 with (first
          | (go_at_call 47; (with_reducible refine (cutS_c t [32] A R _ _ Hm.out (by omega) Hcut.out).mono ?_); rintro e w1 ⟨rfl, hE1⟩))
        have H1 := Lib.hid (H.out.ext hE1)
        have HE1 := Lib.hid hE1
        have c1 : w1.cell? ⟨B, 41, none⟩ = some (.slice L.pa L.P.length L.pc) := by
          obtain ⟨g0, g1, g2, g3, g4⟩ := H1.out.lcb.cells H1.out.ok
          assumption
        have hB1 := H1.out.lt
        have y1 := (hE1.cells Y 0 hyz).trans hy0
        have yz1 := hE1.lt hyz
        have hs1 := H1.out.bB
        have hown1 := H1.out.oP
        have hSlt : ∀ k, bk L.pa = some k → k < w1.heap.size := fun k e => (H1.out.blk_in 0 k e).2
        have hnY : ¬ bk L.pa = some Y := fun e => hyf.2 0 e
        have hnB : ¬ bk L.pa = some B := H1.out.nB 0
        refine wp_region_growP [13, 14, 15, 16, 17, 18, 19, 20, 21, 22] [fun x _ => x = .pointer (some ⟨B, 41, none⟩), fun x _ => x = .pointer (some ⟨B, 41, none⟩), fun x _ => x = .pointer (some ⟨B, 41, none⟩), fun x _ => x = .slice L.pa L.P.length L.pc, fun x _ => x = .string ⟨A.toArray⟩, fun x _ => x = .string ⟨R.toArray⟩, fun x _ => x = .agg #[.string ⟨A.toArray⟩, .string ⟨R.toArray⟩], TwoS (fun k => bk L.pa = some k) A R, RowS b L.pa L.P.length (plcs L.P ++ [.string ⟨A.toArray⟩, .string ⟨R.toArray⟩]) w1.heap.size, fun x _ => x = .pointer (some ⟨B, 41, none⟩)] (fun k => bk L.pa = some k) 8 1 (by kernel_rfl) (by kernel_rfl) (by kernel_rfl) (by kernel_rfl) ?_ ?_ ?_ ?_ ?_
        · refine ⟨?_, ?_, ?_, ?_, ?_, ?_, ?_, ?_, ?_, ?_, trivial⟩
          · exact fun _ _ _ _ h _ => h
          · exact fun _ _ _ _ h _ => h
          · exact fun _ _ _ _ h _ => h
          · exact fun _ _ _ _ h _ => h
          · exact fun _ _ _ _ h _ => h
          · exact fun _ _ _ _ h _ => h
          · exact fun _ _ _ _ h _ => h
          · exact fun _ _ _ _ h hF => TwoS.frm h hF
          · exact fun h => absurd rfl h
          · exact fun _ _ _ _ h _ => h
        · exact fun _ _ _ h hE => RowS.ext h hE
        · refine ⟨?_, ?_, ?_, ?_, ?_, ?_, ?_, ?_, ?_, ?_, trivial⟩
          · intro _ a w hE hF hD K hK
            exact gs_val rfl (yr_load rfl ((hF 1 (fr_of rfl)).trans rfl) (ld_pp _ _ _ ((hE.cel yz1 hnY 0).trans y1))) (hK _ _ rfl (Ext.refl _))
          · intro _ a w hE hF hD K hK
            exact gs_val rfl (yr_load rfl ((hF 1 (fr_of rfl)).trans rfl) (ld_pp _ _ _ ((hE.cel yz1 hnY 0).trans y1))) (hK _ _ rfl (Ext.refl _))
          · intro _ a w hE hF hD K hK
            have u14 : a.eval (.tmp 14) = .pointer (some ⟨B, 41, none⟩) := hD 1 (by kernel_rfl)
            exact gs_val rfl (yr_nil rfl u14) (hK _ _ rfl (Ext.refl _))
          · intro _ a w hE hF hD K hK
            have u15 : a.eval (.tmp 15) = .pointer (some ⟨B, 41, none⟩) := hD 2 (by kernel_rfl)
            exact gs_val rfl (yr_load rfl u15 (ld_plu _ _ _ ((hE.cel hB1 hnB 41).trans c1))) (hK _ _ rfl (Ext.refl _))
          · intro _ a w hE hF hD K hK
            exact gs_val rfl (yr_move rfl ((hF 4 (fr_of rfl)).trans rfl)) (hK _ _ rfl (Ext.refl _))
          · intro _ a w hE hF hD K hK
            exact gs_val rfl (yr_move rfl ((hF 5 (fr_of rfl)).trans rfl)) (hK _ _ rfl (Ext.refl _))
          · intro _ a w hE hF hD K hK
            have u17 : a.eval (.tmp 17) = .string ⟨A.toArray⟩ := hD 4 (by kernel_rfl)
            have u18 : a.eval (.tmp 18) = .string ⟨R.toArray⟩ := hD 5 (by kernel_rfl)
            exact gs_val rfl (yr_bld2 rfl u17 u18 (bld_plu _ _ w)) (hK _ _ rfl (Ext.refl _))
          · intro _ a w hE hF hD K hK
            have u19 : a.eval (.tmp 19) = .agg #[.string ⟨A.toArray⟩, .string ⟨R.toArray⟩] := hD 6 (by kernel_rfl)
            exact gs_mkE rfl (yr_bs1 rfl u19 (bs1_plu _ _ w)) (hK _ _ (TwoS.new hSlt (Nat.le_trans hE.size (Nat.le_refl _)) _ _) ((Ext.refl _).alloc _))
          · exact fun h => absurd rfl h
          · intro _ a w hE hF hD K hK
            have u13 : a.eval (.tmp 13) = .pointer (some ⟨B, 41, none⟩) := hD 0 (by kernel_rfl)
            exact gs_val rfl (yr_nil rfl u13) (hK _ _ rfl (Ext.refl _))
        · intro a w hE hF hD K hK
          have u16 : a.eval (.tmp 16) = .slice L.pa L.P.length L.pc := hD 3 (by kernel_rfl)
          have u20 : (TwoS (fun k => bk L.pa = some k) A R) (a.eval (.tmp 20)) w := hD 7 (by kernel_rfl)
          obtain ⟨g2, e20, k0, k1, k2, k3⟩ := u20
          refine wp_append_lies w (.tmp 16) (.tmp 20) 27 rfl b 50 i0 (.agg #[.string ByteArray.empty, .string ByteArray.empty]) 2 32 Tryz.underlying27 Hi.out Hz0.out Hz1.out Hz2.out rfl (by decide) (.slice L.pa L.P.length L.pc) L.P.length (plcs L.P) u16 (own_ext hown1 hE) ⟨g2, 0, none⟩ 1 1 [.string ⟨A.toArray⟩, .string ⟨R.toArray⟩] e20 rfl (two_at k0 k1) (fun x hx => by simp at hx; rcases hx with rfl | rfl <;> rfl) (by decide) (by unfold maxLen; omega) (by omega) (by have := hE.size; omega) _ rfl ?_
          intro g3 cap3 w3 hown3 hgrow3 hat3 hlt3
          rw [own_bk] at hgrow3 hat3
          exact hK _ _ ⟨g3, cap3, rfl, hown3, hat3.imp id (fun q => by rw [q]; exact hE.size)⟩ (grown_frm hgrow3)
        intro vals wz hEz hRz
        obtain ⟨h0, -, -, -, -, -, -, -, h8, h9, -⟩ := hRz
        have e13 : vals 0 = .pointer (some ⟨B, 41, none⟩) := h0
        obtain ⟨g3, cap3, e21, hown3, hat3⟩ := h8
        have e22 : vals 9 = .pointer (some ⟨B, 41, none⟩) := h9
        simp only [putF, Act.put, List.length_cons, List.length_nil, List.getD_cons_zero, List.getD_cons_succ, List.setIfInBounds_toArray, List.set_cons_zero, List.set_cons_succ, Nat.reduceAdd, e13, e21, e22]
        clear e13 e21 e22
        obtain ⟨G41, G42, G43, GF⟩ := obj_grown H1.out (Ext.refl w1) (frm_grown hEz) (H1.out.nB 0)
        have hx := Lib.hid (H1.out.app_P ⟨A, R⟩ hown3 (frm_grown hEz) hat3)
        refine wpAny_op (i := 10) (by kernel_rfl) rfl (by rfl) ?_
        refine gs_store rfl rfl rfl rfl (st_plu _ _ _ _ _ _ (by assumption) (GF 41)) ?_
        refine wpAny_done (by kernel_rfl) ?_ _
        simp only [Act.put, List.setIfInBounds_toArray, List.set_cons_zero, List.set_cons_succ]
        have HE2 := Lib.hid (Stp.of_ext L B HE1.out)
        clear hown3 hat3 G41 G42 G43 GF c1 y1 hown1 hnY hnB hSlt hEz
        go_wp2_with fail
        go_ret
        unfold AccQ
        exact ⟨true, _, rfl, HE2.out.trans hx.out.2, (fun _ => ⟨{ D with P := D.P ++ [⟨A, R⟩] }, by rw [HAD.out, if_neg (by rintro (q | ⟨-, q⟩); exact HnA.out q; exact HnR.out q)]; rfl, hx.out.1, ⟨HD.out.nm, HD.out.N, by show L.P ++ _ = _; rw [HD.out.P], HD.out.O, HD.out.U, HD.out.pt⟩⟩), fun q => by cases q⟩
set_option maxRecDepth 100000 in
set_option maxHeartbeats 2000000 in
theorem acc_O (b B Y : Nat) : AccS 7 93 (.pointer (some ⟨Y, 0, none⟩)) b B (KdB B Y (.pointer (some ⟨B, 42, none⟩))) := by
  refine ⟨fun xs w' => by kernel_rfl, ?_⟩
  intro L D k t w h hD hz hk ht hm hY
  obtain ⟨hy0, hyz, hyf⟩ := hY
  obtain ⟨A, R, two, hcut⟩ : ∃ A R two, cut1 t = (A, R, two) := ⟨_, _, _, rfl⟩
  have hcl : A.length ≤ t.length ∧ R.length ≤ t.length := by
    have := cut_len t [32]
    unfold cut1 at hcut
    rw [hcut] at this
    exact this
  have H := Lib.hid h
  have HD := Lib.hid hD
  have Hm := Lib.hid hm
  have Hcut : Hid (Lib.cut t [32] = (A, R, two)) := hcut
  have hn : L.O.length ≤ 60000 := by have := hz.nO; rw [hD.O]; omega
  obtain ⟨i0, hi, hz0, hz1, hz2⟩ := info_parts infoPlu
  have Hi := Lib.hid hi
  have Hz0 := Lib.hid hz0
  have Hz1 := Lib.hid hz1
  have Hz2 := Lib.hid hz2
  have HAD : Hid (addL 7 D t = if A = [] ∨ (two = true ∧ R = []) then none else some (if 7 = 6 then { D with P := D.P ++ [⟨A, R⟩] } else { D with O := D.O ++ [⟨A, R⟩] })) := add_cat (by decide) (by decide) hcut
  clear hcut
  clear h hD hz hm hi hz0 hz1 hz2
  by_cases hA : A = []
  · have tA : (A == []) = true := by simpa using hA
    have tA2 : (A != []) = false := by simpa using hA
    have tA3 : A.isEmpty = true := by simpa using hA
    have HnA := Lib.hid hA
    clear hA
    go_enter Tryz.func93, Tryz.ntmps93
    go_upto_region 2 with (first
      | (go_at_call 47; (with_reducible refine (cutS_c t [32] A R _ _ Hm.out (by omega) Hcut.out).mono ?_); rintro e w1 ⟨rfl, hE1⟩))
    have H1 := Lib.hid (H.out.ext hE1)
    have HE1 := Lib.hid hE1
    have c1 : w1.cell? ⟨B, 42, none⟩ = some (.slice L.oa L.O.length L.oc) := by
      obtain ⟨g0, g1, g2, g3, g4⟩ := H1.out.lcb.cells H1.out.ok
      assumption
    have hB1 := H1.out.lt
    have y1 := (hE1.cells Y 0 hyz).trans hy0
    have yz1 := hE1.lt hyz
    have hs1 := H1.out.bB
    have hown1 := H1.out.oO
    have hSlt : ∀ k, bk L.oa = some k → k < w1.heap.size := fun k e => (H1.out.blk_in 1 k e).2
    have hnY : ¬ bk L.oa = some Y := fun e => hyf.2 1 e
    have hnB : ¬ bk L.oa = some B := H1.out.nB 1
    refine wp_region_growP [13, 14, 15, 16, 17, 18, 19, 20, 21, 22] [fun x _ => x = .pointer (some ⟨B, 42, none⟩), fun x _ => x = .pointer (some ⟨B, 42, none⟩), fun x _ => x = .pointer (some ⟨B, 42, none⟩), fun x _ => x = .slice L.oa L.O.length L.oc, fun x _ => x = .string ⟨A.toArray⟩, fun x _ => x = .string ⟨R.toArray⟩, fun x _ => x = .agg #[.string ⟨A.toArray⟩, .string ⟨R.toArray⟩], TwoS (fun k => bk L.oa = some k) A R, RowS b L.oa L.O.length (plcs L.O ++ [.string ⟨A.toArray⟩, .string ⟨R.toArray⟩]) w1.heap.size, fun x _ => x = .pointer (some ⟨B, 42, none⟩)] (fun k => bk L.oa = some k) 8 1 (by kernel_rfl) (by kernel_rfl) (by kernel_rfl) (by kernel_rfl) ?_ ?_ ?_ ?_ ?_
    · refine ⟨?_, ?_, ?_, ?_, ?_, ?_, ?_, ?_, ?_, ?_, trivial⟩
      · exact fun _ _ _ _ h _ => h
      · exact fun _ _ _ _ h _ => h
      · exact fun _ _ _ _ h _ => h
      · exact fun _ _ _ _ h _ => h
      · exact fun _ _ _ _ h _ => h
      · exact fun _ _ _ _ h _ => h
      · exact fun _ _ _ _ h _ => h
      · exact fun _ _ _ _ h hF => TwoS.frm h hF
      · exact fun h => absurd rfl h
      · exact fun _ _ _ _ h _ => h
    · exact fun _ _ _ h hE => RowS.ext h hE
    · refine ⟨?_, ?_, ?_, ?_, ?_, ?_, ?_, ?_, ?_, ?_, trivial⟩
      · intro _ a w hE hF hD K hK
        exact gs_val rfl (yr_load rfl ((hF 1 (fr_of rfl)).trans rfl) (ld_pp _ _ _ ((hE.cel yz1 hnY 0).trans y1))) (hK _ _ rfl (Ext.refl _))
      · intro _ a w hE hF hD K hK
        exact gs_val rfl (yr_load rfl ((hF 1 (fr_of rfl)).trans rfl) (ld_pp _ _ _ ((hE.cel yz1 hnY 0).trans y1))) (hK _ _ rfl (Ext.refl _))
      · intro _ a w hE hF hD K hK
        have u14 : a.eval (.tmp 14) = .pointer (some ⟨B, 42, none⟩) := hD 1 (by kernel_rfl)
        exact gs_val rfl (yr_nil rfl u14) (hK _ _ rfl (Ext.refl _))
      · intro _ a w hE hF hD K hK
        have u15 : a.eval (.tmp 15) = .pointer (some ⟨B, 42, none⟩) := hD 2 (by kernel_rfl)
        exact gs_val rfl (yr_load rfl u15 (ld_plu _ _ _ ((hE.cel hB1 hnB 42).trans c1))) (hK _ _ rfl (Ext.refl _))
      · intro _ a w hE hF hD K hK
        exact gs_val rfl (yr_move rfl ((hF 4 (fr_of rfl)).trans rfl)) (hK _ _ rfl (Ext.refl _))
      · intro _ a w hE hF hD K hK
        exact gs_val rfl (yr_move rfl ((hF 5 (fr_of rfl)).trans rfl)) (hK _ _ rfl (Ext.refl _))
      · intro _ a w hE hF hD K hK
        have u17 : a.eval (.tmp 17) = .string ⟨A.toArray⟩ := hD 4 (by kernel_rfl)
        have u18 : a.eval (.tmp 18) = .string ⟨R.toArray⟩ := hD 5 (by kernel_rfl)
        exact gs_val rfl (yr_bld2 rfl u17 u18 (bld_plu _ _ w)) (hK _ _ rfl (Ext.refl _))
      · intro _ a w hE hF hD K hK
        have u19 : a.eval (.tmp 19) = .agg #[.string ⟨A.toArray⟩, .string ⟨R.toArray⟩] := hD 6 (by kernel_rfl)
        exact gs_mkE rfl (yr_bs1 rfl u19 (bs1_plu _ _ w)) (hK _ _ (TwoS.new hSlt (Nat.le_trans hE.size (Nat.le_refl _)) _ _) ((Ext.refl _).alloc _))
      · exact fun h => absurd rfl h
      · intro _ a w hE hF hD K hK
        have u13 : a.eval (.tmp 13) = .pointer (some ⟨B, 42, none⟩) := hD 0 (by kernel_rfl)
        exact gs_val rfl (yr_nil rfl u13) (hK _ _ rfl (Ext.refl _))
    · intro a w hE hF hD K hK
      have u16 : a.eval (.tmp 16) = .slice L.oa L.O.length L.oc := hD 3 (by kernel_rfl)
      have u20 : (TwoS (fun k => bk L.oa = some k) A R) (a.eval (.tmp 20)) w := hD 7 (by kernel_rfl)
      obtain ⟨g2, e20, k0, k1, k2, k3⟩ := u20
      refine wp_append_lies w (.tmp 16) (.tmp 20) 27 rfl b 50 i0 (.agg #[.string ByteArray.empty, .string ByteArray.empty]) 2 32 Tryz.underlying27 Hi.out Hz0.out Hz1.out Hz2.out rfl (by decide) (.slice L.oa L.O.length L.oc) L.O.length (plcs L.O) u16 (own_ext hown1 hE) ⟨g2, 0, none⟩ 1 1 [.string ⟨A.toArray⟩, .string ⟨R.toArray⟩] e20 rfl (two_at k0 k1) (fun x hx => by simp at hx; rcases hx with rfl | rfl <;> rfl) (by decide) (by unfold maxLen; omega) (by omega) (by have := hE.size; omega) _ rfl ?_
      intro g3 cap3 w3 hown3 hgrow3 hat3 hlt3
      rw [own_bk] at hgrow3 hat3
      exact hK _ _ ⟨g3, cap3, rfl, hown3, hat3.imp id (fun q => by rw [q]; exact hE.size)⟩ (grown_frm hgrow3)
    intro vals wz hEz hRz
    obtain ⟨h0, -, -, -, -, -, -, -, h8, h9, -⟩ := hRz
    have e13 : vals 0 = .pointer (some ⟨B, 42, none⟩) := h0
    obtain ⟨g3, cap3, e21, hown3, hat3⟩ := h8
    have e22 : vals 9 = .pointer (some ⟨B, 42, none⟩) := h9
    simp only [putF, Act.put, List.length_cons, List.length_nil, List.getD_cons_zero, List.getD_cons_succ, List.setIfInBounds_toArray, List.set_cons_zero, List.set_cons_succ, Nat.reduceAdd, e13, e21, e22]
    clear e13 e21 e22
    obtain ⟨G41, G42, G43, GF⟩ := obj_grown H1.out (Ext.refl w1) (frm_grown hEz) (H1.out.nB 1)
    have hx := Lib.hid (H1.out.app_O ⟨A, R⟩ hown3 (frm_grown hEz) hat3)
    refine wpAny_op (i := 10) (by kernel_rfl) rfl (by rfl) ?_
    refine gs_store rfl rfl rfl rfl (st_plu _ _ _ _ _ _ (by assumption) (GF 42)) ?_
    refine wpAny_done (by kernel_rfl) ?_ _
    simp only [Act.put, List.setIfInBounds_toArray, List.set_cons_zero, List.set_cons_succ]
    have HE2 := Lib.hid (Stp.of_ext L B HE1.out)
    clear hown3 hat3 G41 G42 G43 GF c1 y1 hown1 hnY hnB hSlt hEz
    go_wp2_with fail
    go_ret
    unfold AccQ
    exact ⟨false, _, rfl, HE2.out.trans hx.out.2, (fun q => by cases q), fun _ => by rw [HAD.out, if_pos (by exact .inl HnA.out)]⟩
  · have tA : (A == []) = false := by simpa using hA
    have tA2 : (A != []) = true := by simpa using hA
    have tA3 : A.isEmpty = false := by simpa using hA
    have HnA := Lib.hid hA
    clear hA
    cases two with
    | false => go_enter Tryz.func93, Tryz.ntmps93
               go_upto_region 2 with (first
                 | (go_at_call 47; (with_reducible refine (cutS_c t [32] A R _ _ Hm.out (by omega) Hcut.out).mono ?_); rintro e w1 ⟨rfl, hE1⟩))
               have H1 := Lib.hid (H.out.ext hE1)
               have HE1 := Lib.hid hE1
               have c1 : w1.cell? ⟨B, 42, none⟩ = some (.slice L.oa L.O.length L.oc) := by
                 obtain ⟨g0, g1, g2, g3, g4⟩ := H1.out.lcb.cells H1.out.ok
                 assumption
               have hB1 := H1.out.lt
               have y1 := (hE1.cells Y 0 hyz).trans hy0
               have yz1 := hE1.lt hyz
               have hs1 := H1.out.bB
               have hown1 := H1.out.oO
               have hSlt : ∀ k, bk L.oa = some k → k < w1.heap.size := fun k e => (H1.out.blk_in 1 k e).2
               have hnY : ¬ bk L.oa = some Y := fun e => hyf.2 1 e
               have hnB : ¬ bk L.oa = some B := H1.out.nB 1
               refine wp_region_growP [13, 14, 15, 16, 17, 18, 19, 20, 21, 22] [fun x _ => x = .pointer (some ⟨B, 42, none⟩), fun x _ => x = .pointer (some ⟨B, 42, none⟩), fun x _ => x = .pointer (some ⟨B, 42, none⟩), fun x _ => x = .slice L.oa L.O.length L.oc, fun x _ => x = .string ⟨A.toArray⟩, fun x _ => x = .string ⟨R.toArray⟩, fun x _ => x = .agg #[.string ⟨A.toArray⟩, .string ⟨R.toArray⟩], TwoS (fun k => bk L.oa = some k) A R, RowS b L.oa L.O.length (plcs L.O ++ [.string ⟨A.toArray⟩, .string ⟨R.toArray⟩]) w1.heap.size, fun x _ => x = .pointer (some ⟨B, 42, none⟩)] (fun k => bk L.oa = some k) 8 1 (by kernel_rfl) (by kernel_rfl) (by kernel_rfl) (by kernel_rfl) ?_ ?_ ?_ ?_ ?_
               · refine ⟨?_, ?_, ?_, ?_, ?_, ?_, ?_, ?_, ?_, ?_, trivial⟩
                 · exact fun _ _ _ _ h _ => h
                 · exact fun _ _ _ _ h _ => h
                 · exact fun _ _ _ _ h _ => h
                 · exact fun _ _ _ _ h _ => h
                 · exact fun _ _ _ _ h _ => h
                 · exact fun _ _ _ _ h _ => h
                 · exact fun _ _ _ _ h _ => h
                 · exact fun _ _ _ _ h hF => TwoS.frm h hF
                 · exact fun h => absurd rfl h
                 · exact fun _ _ _ _ h _ => h
               · exact fun _ _ _ h hE => RowS.ext h hE
               · refine ⟨?_, ?_, ?_, ?_, ?_, ?_, ?_, ?_, ?_, ?_, trivial⟩
                 · intro _ a w hE hF hD K hK
                   exact gs_val rfl (yr_load rfl ((hF 1 (fr_of rfl)).trans rfl) (ld_pp _ _ _ ((hE.cel yz1 hnY 0).trans y1))) (hK _ _ rfl (Ext.refl _))
                 · intro _ a w hE hF hD K hK
                   exact gs_val rfl (yr_load rfl ((hF 1 (fr_of rfl)).trans rfl) (ld_pp _ _ _ ((hE.cel yz1 hnY 0).trans y1))) (hK _ _ rfl (Ext.refl _))
                 · intro _ a w hE hF hD K hK
                   have u14 : a.eval (.tmp 14) = .pointer (some ⟨B, 42, none⟩) := hD 1 (by kernel_rfl)
                   exact gs_val rfl (yr_nil rfl u14) (hK _ _ rfl (Ext.refl _))
                 · intro _ a w hE hF hD K hK
                   have u15 : a.eval (.tmp 15) = .pointer (some ⟨B, 42, none⟩) := hD 2 (by kernel_rfl)
                   exact gs_val rfl (yr_load rfl u15 (ld_plu _ _ _ ((hE.cel hB1 hnB 42).trans c1))) (hK _ _ rfl (Ext.refl _))
                 · intro _ a w hE hF hD K hK
                   exact gs_val rfl (yr_move rfl ((hF 4 (fr_of rfl)).trans rfl)) (hK _ _ rfl (Ext.refl _))
                 · intro _ a w hE hF hD K hK
                   exact gs_val rfl (yr_move rfl ((hF 5 (fr_of rfl)).trans rfl)) (hK _ _ rfl (Ext.refl _))
                 · intro _ a w hE hF hD K hK
                   have u17 : a.eval (.tmp 17) = .string ⟨A.toArray⟩ := hD 4 (by kernel_rfl)
                   have u18 : a.eval (.tmp 18) = .string ⟨R.toArray⟩ := hD 5 (by kernel_rfl)
                   exact gs_val rfl (yr_bld2 rfl u17 u18 (bld_plu _ _ w)) (hK _ _ rfl (Ext.refl _))
                 · intro _ a w hE hF hD K hK
                   have u19 : a.eval (.tmp 19) = .agg #[.string ⟨A.toArray⟩, .string ⟨R.toArray⟩] := hD 6 (by kernel_rfl)
                   exact gs_mkE rfl (yr_bs1 rfl u19 (bs1_plu _ _ w)) (hK _ _ (TwoS.new hSlt (Nat.le_trans hE.size (Nat.le_refl _)) _ _) ((Ext.refl _).alloc _))
                 · exact fun h => absurd rfl h
                 · intro _ a w hE hF hD K hK
                   have u13 : a.eval (.tmp 13) = .pointer (some ⟨B, 42, none⟩) := hD 0 (by kernel_rfl)
                   exact gs_val rfl (yr_nil rfl u13) (hK _ _ rfl (Ext.refl _))
               · intro a w hE hF hD K hK
                 have u16 : a.eval (.tmp 16) = .slice L.oa L.O.length L.oc := hD 3 (by kernel_rfl)
                 have u20 : (TwoS (fun k => bk L.oa = some k) A R) (a.eval (.tmp 20)) w := hD 7 (by kernel_rfl)
                 obtain ⟨g2, e20, k0, k1, k2, k3⟩ := u20
                 refine wp_append_lies w (.tmp 16) (.tmp 20) 27 rfl b 50 i0 (.agg #[.string ByteArray.empty, .string ByteArray.empty]) 2 32 Tryz.underlying27 Hi.out Hz0.out Hz1.out Hz2.out rfl (by decide) (.slice L.oa L.O.length L.oc) L.O.length (plcs L.O) u16 (own_ext hown1 hE) ⟨g2, 0, none⟩ 1 1 [.string ⟨A.toArray⟩, .string ⟨R.toArray⟩] e20 rfl (two_at k0 k1) (fun x hx => by simp at hx; rcases hx with rfl | rfl <;> rfl) (by decide) (by unfold maxLen; omega) (by omega) (by have := hE.size; omega) _ rfl ?_
                 intro g3 cap3 w3 hown3 hgrow3 hat3 hlt3
                 rw [own_bk] at hgrow3 hat3
                 exact hK _ _ ⟨g3, cap3, rfl, hown3, hat3.imp id (fun q => by rw [q]; exact hE.size)⟩ (grown_frm hgrow3)
               intro vals wz hEz hRz
               obtain ⟨h0, -, -, -, -, -, -, -, h8, h9, -⟩ := hRz
               have e13 : vals 0 = .pointer (some ⟨B, 42, none⟩) := h0
               obtain ⟨g3, cap3, e21, hown3, hat3⟩ := h8
               have e22 : vals 9 = .pointer (some ⟨B, 42, none⟩) := h9
               simp only [putF, Act.put, List.length_cons, List.length_nil, List.getD_cons_zero, List.getD_cons_succ, List.setIfInBounds_toArray, List.set_cons_zero, List.set_cons_succ, Nat.reduceAdd, e13, e21, e22]
               clear e13 e21 e22
               obtain ⟨G41, G42, G43, GF⟩ := obj_grown H1.out (Ext.refl w1) (frm_grown hEz) (H1.out.nB 1)
               have hx := Lib.hid (H1.out.app_O ⟨A, R⟩ hown3 (frm_grown hEz) hat3)
               refine wpAny_op (i := 10) (by kernel_rfl) rfl (by rfl) ?_
               refine gs_store rfl rfl rfl rfl (st_plu _ _ _ _ _ _ (by assumption) (GF 42)) ?_
               refine wpAny_done (by kernel_rfl) ?_ _
               simp only [Act.put, List.setIfInBounds_toArray, List.set_cons_zero, List.set_cons_succ]
               have HE2 := Lib.hid (Stp.of_ext L B HE1.out)
               clear hown3 hat3 G41 G42 G43 GF c1 y1 hown1 hnY hnB hSlt hEz
               go_wp2_with fail
               go_ret
               unfold AccQ
               exact ⟨true, _, rfl, HE2.out.trans hx.out.2, (fun _ => ⟨{ D with O := D.O ++ [⟨A, R⟩] }, by rw [HAD.out, if_neg (by rintro (q | ⟨q, -⟩); exact HnA.out q; cases q)]; rfl, hx.out.1, ⟨HD.out.nm, HD.out.N, HD.out.P, by show L.O ++ _ = _; rw [HD.out.O], HD.out.U, HD.out.pt⟩⟩), fun q => by cases q⟩
    | true =>
      by_cases hR : R = []
      · have tR : (R == []) = true := by simpa using hR
        have tR2 : (R != []) = false := by simpa using hR
        have tR3 : R.isEmpty = true := by simpa using hR
        have HnR := Lib.hid hR
        clear hR
        go_enter Tryz.func93, Tryz.ntmps93
        go_upto_region 2 with (first
          | (go_at_call 47; (with_reducible refine (cutS_c t [32] A R _ _ Hm.out (by omega) Hcut.out).mono ?_); rintro e w1 ⟨rfl, hE1⟩))
        have H1 := Lib.hid (H.out.ext hE1)
        have HE1 := Lib.hid hE1
        have c1 : w1.cell? ⟨B, 42, none⟩ = some (.slice L.oa L.O.length L.oc) := by
          obtain ⟨g0, g1, g2, g3, g4⟩ := H1.out.lcb.cells H1.out.ok
          assumption
        have hB1 := H1.out.lt
        have y1 := (hE1.cells Y 0 hyz).trans hy0
        have yz1 := hE1.lt hyz
        have hs1 := H1.out.bB
        have hown1 := H1.out.oO
        have hSlt : ∀ k, bk L.oa = some k → k < w1.heap.size := fun k e => (H1.out.blk_in 1 k e).2
        have hnY : ¬ bk L.oa = some Y := fun e => hyf.2 1 e
        have hnB : ¬ bk L.oa = some B := H1.out.nB 1
        refine wp_region_growP [13, 14, 15, 16, 17, 18, 19, 20, 21, 22] [fun x _ => x = .pointer (some ⟨B, 42, none⟩), fun x _ => x = .pointer (some ⟨B, 42, none⟩), fun x _ => x = .pointer (some ⟨B, 42, none⟩), fun x _ => x = .slice L.oa L.O.length L.oc, fun x _ => x = .string ⟨A.toArray⟩, fun x _ => x = .string ⟨R.toArray⟩, fun x _ => x = .agg #[.string ⟨A.toArray⟩, .string ⟨R.toArray⟩], TwoS (fun k => bk L.oa = some k) A R, RowS b L.oa L.O.length (plcs L.O ++ [.string ⟨A.toArray⟩, .string ⟨R.toArray⟩]) w1.heap.size, fun x _ => x = .pointer (some ⟨B, 42, none⟩)] (fun k => bk L.oa = some k) 8 1 (by kernel_rfl) (by kernel_rfl) (by kernel_rfl) (by kernel_rfl) ?_ ?_ ?_ ?_ ?_
        · refine ⟨?_, ?_, ?_, ?_, ?_, ?_, ?_, ?_, ?_, ?_, trivial⟩
          · exact fun _ _ _ _ h _ => h
          · exact fun _ _ _ _ h _ => h
          · exact fun _ _ _ _ h _ => h
          · exact fun _ _ _ _ h _ => h
          · exact fun _ _ _ _ h _ => h
          · exact fun _ _ _ _ h _ => h
          · exact fun _ _ _ _ h _ => h
          · exact fun _ _ _ _ h hF => TwoS.frm h hF
          · exact fun h => absurd rfl h
          · exact fun _ _ _ _ h _ => h
        · exact fun _ _ _ h hE => RowS.ext h hE
        · refine ⟨?_, ?_, ?_, ?_, ?_, ?_, ?_, ?_, ?_, ?_, trivial⟩
          · intro _ a w hE hF hD K hK
            exact gs_val rfl (yr_load rfl ((hF 1 (fr_of rfl)).trans rfl) (ld_pp _ _ _ ((hE.cel yz1 hnY 0).trans y1))) (hK _ _ rfl (Ext.refl _))
          · intro _ a w hE hF hD K hK
            exact gs_val rfl (yr_load rfl ((hF 1 (fr_of rfl)).trans rfl) (ld_pp _ _ _ ((hE.cel yz1 hnY 0).trans y1))) (hK _ _ rfl (Ext.refl _))
          · intro _ a w hE hF hD K hK
            have u14 : a.eval (.tmp 14) = .pointer (some ⟨B, 42, none⟩) := hD 1 (by kernel_rfl)
            exact gs_val rfl (yr_nil rfl u14) (hK _ _ rfl (Ext.refl _))
          · intro _ a w hE hF hD K hK
            have u15 : a.eval (.tmp 15) = .pointer (some ⟨B, 42, none⟩) := hD 2 (by kernel_rfl)
            exact gs_val rfl (yr_load rfl u15 (ld_plu _ _ _ ((hE.cel hB1 hnB 42).trans c1))) (hK _ _ rfl (Ext.refl _))
          · intro _ a w hE hF hD K hK
            exact gs_val rfl (yr_move rfl ((hF 4 (fr_of rfl)).trans rfl)) (hK _ _ rfl (Ext.refl _))
          · intro _ a w hE hF hD K hK
            exact gs_val rfl (yr_move rfl ((hF 5 (fr_of rfl)).trans rfl)) (hK _ _ rfl (Ext.refl _))
          · intro _ a w hE hF hD K hK
            have u17 : a.eval (.tmp 17) = .string ⟨A.toArray⟩ := hD 4 (by kernel_rfl)
            have u18 : a.eval (.tmp 18) = .string ⟨R.toArray⟩ := hD 5 (by kernel_rfl)
            exact gs_val rfl (yr_bld2 rfl u17 u18 (bld_plu _ _ w)) (hK _ _ rfl (Ext.refl _))
          · intro _ a w hE hF hD K hK
            have u19 : a.eval (.tmp 19) = .agg #[.string ⟨A.toArray⟩, .string ⟨R.toArray⟩] := hD 6 (by kernel_rfl)
            exact gs_mkE rfl (yr_bs1 rfl u19 (bs1_plu _ _ w)) (hK _ _ (TwoS.new hSlt (Nat.le_trans hE.size (Nat.le_refl _)) _ _) ((Ext.refl _).alloc _))
          · exact fun h => absurd rfl h
          · intro _ a w hE hF hD K hK
            have u13 : a.eval (.tmp 13) = .pointer (some ⟨B, 42, none⟩) := hD 0 (by kernel_rfl)
            exact gs_val rfl (yr_nil rfl u13) (hK _ _ rfl (Ext.refl _))
        · intro a w hE hF hD K hK
          have u16 : a.eval (.tmp 16) = .slice L.oa L.O.length L.oc := hD 3 (by kernel_rfl)
          have u20 : (TwoS (fun k => bk L.oa = some k) A R) (a.eval (.tmp 20)) w := hD 7 (by kernel_rfl)
          obtain ⟨g2, e20, k0, k1, k2, k3⟩ := u20
          refine wp_append_lies w (.tmp 16) (.tmp 20) 27 rfl b 50 i0 (.agg #[.string ByteArray.empty, .string ByteArray.empty]) 2 32 Tryz.underlying27 Hi.out Hz0.out Hz1.out Hz2.out rfl (by decide) (.slice L.oa L.O.length L.oc) L.O.length (plcs L.O) u16 (own_ext hown1 hE) ⟨g2, 0, none⟩ 1 1 [.string ⟨A.toArray⟩, .string ⟨R.toArray⟩] e20 rfl (two_at k0 k1) (fun x hx => by simp at hx; rcases hx with rfl | rfl <;> rfl) (by decide) (by unfold maxLen; omega) (by omega) (by have := hE.size; omega) _ rfl ?_
          intro g3 cap3 w3 hown3 hgrow3 hat3 hlt3
          rw [own_bk] at hgrow3 hat3
          exact hK _ _ ⟨g3, cap3, rfl, hown3, hat3.imp id (fun q => by rw [q]; exact hE.size)⟩ (grown_frm hgrow3)
        intro vals wz hEz hRz
        obtain ⟨h0, -, -, -, -, -, -, -, h8, h9, -⟩ := hRz
        have e13 : vals 0 = .pointer (some ⟨B, 42, none⟩) := h0
        obtain ⟨g3, cap3, e21, hown3, hat3⟩ := h8
        have e22 : vals 9 = .pointer (some ⟨B, 42, none⟩) := h9
        simp only [putF, Act.put, List.length_cons, List.length_nil, List.getD_cons_zero, List.getD_cons_succ, List.setIfInBounds_toArray, List.set_cons_zero, List.set_cons_succ, Nat.reduceAdd, e13, e21, e22]
        clear e13 e21 e22
        obtain ⟨G41, G42, G43, GF⟩ := obj_grown H1.out (Ext.refl w1) (frm_grown hEz) (H1.out.nB 1)
        have hx := Lib.hid (H1.out.app_O ⟨A, R⟩ hown3 (frm_grown hEz) hat3)
        refine wpAny_op (i := 10) (by kernel_rfl) rfl (by rfl) ?_
        refine gs_store rfl rfl rfl rfl (st_plu _ _ _ _ _ _ (by assumption) (GF 42)) ?_
        refine wpAny_done (by kernel_rfl) ?_ _
        simp only [Act.put, List.setIfInBounds_toArray, List.set_cons_zero, List.set_cons_succ]
        have HE2 := Lib.hid (Stp.of_ext L B HE1.out)
        clear hown3 hat3 G41 G42 G43 GF c1 y1 hown1 hnY hnB hSlt hEz
        go_wp2_with fail
        go_ret
        unfold AccQ
        exact ⟨false, _, rfl, HE2.out.trans hx.out.2, (fun q => by cases q), fun _ => by rw [HAD.out, if_pos (by exact .inr ⟨by trivial, HnR.out⟩)]⟩
      · have tR : (R == []) = false := by simpa using hR
        have tR2 : (R != []) = true := by simpa using hR
        have tR3 : R.isEmpty = false := by simpa using hR
        have HnR := Lib.hid hR
        clear hR
        go_enter Tryz.func93, Tryz.ntmps93
        go_upto_region 2 with (first
          | (go_at_call 47; (with_reducible refine (cutS_c t [32] A R _ _ Hm.out (by omega) Hcut.out).mono ?_); rintro e w1 ⟨rfl, hE1⟩))
        have H1 := Lib.hid (H.out.ext hE1)
        have HE1 := Lib.hid hE1
        have c1 : w1.cell? ⟨B, 42, none⟩ = some (.slice L.oa L.O.length L.oc) := by
          obtain ⟨g0, g1, g2, g3, g4⟩ := H1.out.lcb.cells H1.out.ok
          assumption
        have hB1 := H1.out.lt
        have y1 := (hE1.cells Y 0 hyz).trans hy0
        have yz1 := hE1.lt hyz
        have hs1 := H1.out.bB
        have hown1 := H1.out.oO
        have hSlt : ∀ k, bk L.oa = some k → k < w1.heap.size := fun k e => (H1.out.blk_in 1 k e).2
        have hnY : ¬ bk L.oa = some Y := fun e => hyf.2 1 e
        have hnB : ¬ bk L.oa = some B := H1.out.nB 1
        refine wp_region_growP [13, 14, 15, 16, 17, 18, 19, 20, 21, 22] [fun x _ => x = .pointer (some ⟨B, 42, none⟩), fun x _ => x = .pointer (some ⟨B, 42, none⟩), fun x _ => x = .pointer (some ⟨B, 42, none⟩), fun x _ => x = .slice L.oa L.O.length L.oc, fun x _ => x = .string ⟨A.toArray⟩, fun x _ => x = .string ⟨R.toArray⟩, fun x _ => x = .agg #[.string ⟨A.toArray⟩, .string ⟨R.toArray⟩], TwoS (fun k => bk L.oa = some k) A R, RowS b L.oa L.O.length (plcs L.O ++ [.string ⟨A.toArray⟩, .string ⟨R.toArray⟩]) w1.heap.size, fun x _ => x = .pointer (some ⟨B, 42, none⟩)] (fun k => bk L.oa = some k) 8 1 (by kernel_rfl) (by kernel_rfl) (by kernel_rfl) (by kernel_rfl) ?_ ?_ ?_ ?_ ?_
        · refine ⟨?_, ?_, ?_, ?_, ?_, ?_, ?_, ?_, ?_, ?_, trivial⟩
          · exact fun _ _ _ _ h _ => h
          · exact fun _ _ _ _ h _ => h
          · exact fun _ _ _ _ h _ => h
          · exact fun _ _ _ _ h _ => h
          · exact fun _ _ _ _ h _ => h
          · exact fun _ _ _ _ h _ => h
          · exact fun _ _ _ _ h _ => h
          · exact fun _ _ _ _ h hF => TwoS.frm h hF
          · exact fun h => absurd rfl h
          · exact fun _ _ _ _ h _ => h
        · exact fun _ _ _ h hE => RowS.ext h hE
        · refine ⟨?_, ?_, ?_, ?_, ?_, ?_, ?_, ?_, ?_, ?_, trivial⟩
          · intro _ a w hE hF hD K hK
            exact gs_val rfl (yr_load rfl ((hF 1 (fr_of rfl)).trans rfl) (ld_pp _ _ _ ((hE.cel yz1 hnY 0).trans y1))) (hK _ _ rfl (Ext.refl _))
          · intro _ a w hE hF hD K hK
            exact gs_val rfl (yr_load rfl ((hF 1 (fr_of rfl)).trans rfl) (ld_pp _ _ _ ((hE.cel yz1 hnY 0).trans y1))) (hK _ _ rfl (Ext.refl _))
          · intro _ a w hE hF hD K hK
            have u14 : a.eval (.tmp 14) = .pointer (some ⟨B, 42, none⟩) := hD 1 (by kernel_rfl)
            exact gs_val rfl (yr_nil rfl u14) (hK _ _ rfl (Ext.refl _))
          · intro _ a w hE hF hD K hK
            have u15 : a.eval (.tmp 15) = .pointer (some ⟨B, 42, none⟩) := hD 2 (by kernel_rfl)
            exact gs_val rfl (yr_load rfl u15 (ld_plu _ _ _ ((hE.cel hB1 hnB 42).trans c1))) (hK _ _ rfl (Ext.refl _))
          · intro _ a w hE hF hD K hK
            exact gs_val rfl (yr_move rfl ((hF 4 (fr_of rfl)).trans rfl)) (hK _ _ rfl (Ext.refl _))
          · intro _ a w hE hF hD K hK
            exact gs_val rfl (yr_move rfl ((hF 5 (fr_of rfl)).trans rfl)) (hK _ _ rfl (Ext.refl _))
          · intro _ a w hE hF hD K hK
            have u17 : a.eval (.tmp 17) = .string ⟨A.toArray⟩ := hD 4 (by kernel_rfl)
            have u18 : a.eval (.tmp 18) = .string ⟨R.toArray⟩ := hD 5 (by kernel_rfl)
            exact gs_val rfl (yr_bld2 rfl u17 u18 (bld_plu _ _ w)) (hK _ _ rfl (Ext.refl _))
          · intro _ a w hE hF hD K hK
            have u19 : a.eval (.tmp 19) = .agg #[.string ⟨A.toArray⟩, .string ⟨R.toArray⟩] := hD 6 (by kernel_rfl)
            exact gs_mkE rfl (yr_bs1 rfl u19 (bs1_plu _ _ w)) (hK _ _ (TwoS.new hSlt (Nat.le_trans hE.size (Nat.le_refl _)) _ _) ((Ext.refl _).alloc _))
          · exact fun h => absurd rfl h
          · intro _ a w hE hF hD K hK
            have u13 : a.eval (.tmp 13) = .pointer (some ⟨B, 42, none⟩) := hD 0 (by kernel_rfl)
            exact gs_val rfl (yr_nil rfl u13) (hK _ _ rfl (Ext.refl _))
        · intro a w hE hF hD K hK
          have u16 : a.eval (.tmp 16) = .slice L.oa L.O.length L.oc := hD 3 (by kernel_rfl)
          have u20 : (TwoS (fun k => bk L.oa = some k) A R) (a.eval (.tmp 20)) w := hD 7 (by kernel_rfl)
          obtain ⟨g2, e20, k0, k1, k2, k3⟩ := u20
          refine wp_append_lies w (.tmp 16) (.tmp 20) 27 rfl b 50 i0 (.agg #[.string ByteArray.empty, .string ByteArray.empty]) 2 32 Tryz.underlying27 Hi.out Hz0.out Hz1.out Hz2.out rfl (by decide) (.slice L.oa L.O.length L.oc) L.O.length (plcs L.O) u16 (own_ext hown1 hE) ⟨g2, 0, none⟩ 1 1 [.string ⟨A.toArray⟩, .string ⟨R.toArray⟩] e20 rfl (two_at k0 k1) (fun x hx => by simp at hx; rcases hx with rfl | rfl <;> rfl) (by decide) (by unfold maxLen; omega) (by omega) (by have := hE.size; omega) _ rfl ?_
          intro g3 cap3 w3 hown3 hgrow3 hat3 hlt3
          rw [own_bk] at hgrow3 hat3
          exact hK _ _ ⟨g3, cap3, rfl, hown3, hat3.imp id (fun q => by rw [q]; exact hE.size)⟩ (grown_frm hgrow3)
        intro vals wz hEz hRz
        obtain ⟨h0, -, -, -, -, -, -, -, h8, h9, -⟩ := hRz
        have e13 : vals 0 = .pointer (some ⟨B, 42, none⟩) := h0
        obtain ⟨g3, cap3, e21, hown3, hat3⟩ := h8
        have e22 : vals 9 = .pointer (some ⟨B, 42, none⟩) := h9
        simp only [putF, Act.put, List.length_cons, List.length_nil, List.getD_cons_zero, List.getD_cons_succ, List.setIfInBounds_toArray, List.set_cons_zero, List.set_cons_succ, Nat.reduceAdd, e13, e21, e22]
        clear e13 e21 e22
        obtain ⟨G41, G42, G43, GF⟩ := obj_grown H1.out (Ext.refl w1) (frm_grown hEz) (H1.out.nB 1)
        have hx := Lib.hid (H1.out.app_O ⟨A, R⟩ hown3 (frm_grown hEz) hat3)
        refine wpAny_op (i := 10) (by kernel_rfl) rfl (by rfl) ?_
        refine gs_store rfl rfl rfl rfl (st_plu _ _ _ _ _ _ (by assumption) (GF 42)) ?_
        refine wpAny_done (by kernel_rfl) ?_ _
        simp only [Act.put, List.setIfInBounds_toArray, List.set_cons_zero, List.set_cons_succ]
        have HE2 := Lib.hid (Stp.of_ext L B HE1.out)
        clear hown3 hat3 G41 G42 G43 GF c1 y1 hown1 hnY hnB hSlt hEz
        go_wp2_with fail
        go_ret
        unfold AccQ
        exact ⟨true, _, rfl, HE2.out.trans hx.out.2, (fun _ => ⟨{ D with O := D.O ++ [⟨A, R⟩] }, by rw [HAD.out, if_neg (by rintro (q | ⟨-, q⟩); exact HnA.out q; exact HnR.out q)]; rfl, hx.out.1, ⟨HD.out.nm, HD.out.N, HD.out.P, by show L.O ++ _ = _; rw [HD.out.O], HD.out.U, HD.out.pt⟩⟩), fun q => by cases q⟩
end Go.Proofs.YtnhdmnhfllecgaaGreatDoor
