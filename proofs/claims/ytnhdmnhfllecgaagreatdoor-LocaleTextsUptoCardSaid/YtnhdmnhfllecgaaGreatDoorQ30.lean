/- The walks of Grow and Concat at five lists of names. -/
import Derived.Test.YtnhdmnhfllecgaaGreatDoorQ08
import Derived.Test.YtnhdmnhfllecgaaGreatDoorQ15
import Derived.Test.YtnhdmnhfllecgaaGreatDoorQ28
import Derived.Test.YtnhdmnhfllecgaaGreatDoorQ29
import Derived.Lib.AppendZeros
import Derived.Laws.OwnMore
import Derived.Lib.Buffer
namespace Go.Proofs.YtnhdmnhfllecgaaGreatDoor
set_option linter.unusedVariables false
set_option linter.unusedSimpArgs false
open Go.RowKit

theorem infoStr : (Tryz.prog.info? 9).map (fun i => (i.zero, i.size, i.bytes)) = some (some (.string .empty), 1, 16) := by kernel_rfl
theorem zc_len (n : Nat) : (Builtin.zeroCells (Value.string ByteArray.empty).cells n).size = n := by simp [size_zeroCells, Value.cells]
/-- Where the j-th list of names begins. -/
def ofN : Nat → Nat
  | 0 => 0
  | 1 => 12
  | 2 => 24
  | 3 => 31
  | 4 => 38
  | _ => 40
theorem ofN_step (j : Nat) (h : j < 5) : ∃ o n, ofN j = o ∧ ofN (j + 1) = o + n ∧ o + n ≤ 40 ∧ 0 < n := by
  match j, h with
  | 0, _ => exact ⟨0, 12, rfl, rfl, by omega, by omega⟩
  | 1, _ => exact ⟨12, 12, rfl, rfl, by omega, by omega⟩
  | 2, _ => exact ⟨24, 7, rfl, rfl, by omega, by omega⟩
  | 3, _ => exact ⟨31, 7, rfl, rfl, by omega, by omega⟩
  | 4, _ => exact ⟨38, 2, rfl, rfl, by omega, by omega⟩
def FiveAt (D B : Nat) (w : World) : Prop := D < w.heap.size ∧ ∀ j, j < 5 → w.cell? ⟨D, j, none⟩ = some (.slice (some ⟨B, ofN j, none⟩) (ofN (j + 1) - ofN j) (ofN (j + 1) - ofN j))
def lgB (s : List UInt8) : Bool := decide (100 < s.length)
def lngB (N : Nms) : Bool := N.all.any lgB
end Go.Proofs.YtnhdmnhfllecgaaGreatDoor
/- The walk of long. -/
namespace Go.Proofs.YtnhdmnhfllecgaaGreatDoor
set_option linter.unusedVariables false
set_option linter.unusedSimpArgs false
open Go.RowKit

def fiveV (B : Nat) : Array Value := #[.slice (some ⟨B, 0, none⟩) 12 12, .slice (some ⟨B, 12, none⟩) 12 12, .slice (some ⟨B, 24, none⟩) 7 7, .slice (some ⟨B, 31, none⟩) 7 7, .slice (some ⟨B, 38, none⟩) 2 2]
set_option maxRecDepth 100000 in
theorem five_run (B : Nat) (w : World) : (Instr.buildSlice 60 5 #[(0, .slice (some ⟨B, 0, none⟩) 12 12), (1, .slice (some ⟨B, 12, none⟩) 12 12), (2, .slice (some ⟨B, 24, none⟩) 7 7), (3, .slice (some ⟨B, 31, none⟩) 7 7), (4, .slice (some ⟨B, 38, none⟩) 2 2)]).run Tryz.prog w = .ok (.slice (some ⟨w.heap.size, 0, none⟩) 5 5) (w.alloc (.cells (fiveV B) 54)) := by
  kernel_rfl
theorem five_at (B : Nat) (w : World) : FiveAt w.heap.size B (w.alloc (.cells (fiveV B) 54)) := by
  refine ⟨by simp, fun j hj => ?_⟩
  rw [World.cell?_alloc_new]
  match j, hj with
  | 0, _ => rfl
  | 1, _ => rfl
  | 2, _ => rfl
  | 3, _ => rfl
  | 4, _ => rfl
theorem yr_sl {P : Program} {o : Oper} {a : Act} {w : World} {t : TypeId} {x : Operand} {u v : Value} (hop : o.op = .slice t x none none none) (hx : a.eval x = u) (hrun : (Instr.sliceAt t u none none none).run P w = .ok v w) : (execOp a.eval o).run P w = .ok (.value v) w := by
  unfold execOp; simp [hop, hx, hrun, Result.andThen]
theorem gs_mk {P : Program} {o : Oper} {Q : Exit → Act → World → Prop} {K : Act → World → Prop} {a : Act} {w w' : World} {v : Value} {dd : Nat} (hd : o.dst = some dd) (hrun : (execOp a.eval o).run P w = .ok (.value v) w') (h : K (a.put (some dd) v) w') : o.wp P a w K Q := by
  unfold Oper.wp
  rw [hrun]
  show K (a.put o.dst v) w'
  rw [hd]; exact h
theorem yr_bsl {P : Program} {o : Oper} {a : Act} {w w' : World} {t : TypeId} {n : Nat} {ps : Array (Nat × Operand)} {us : Array (Nat × Value)} {v : Value} (hop : o.op = .buildSlice t n ps) (hx : (ps.map fun (i, x) => (i, a.eval x)) = us) (hrun : (Instr.buildSlice t n us).run P w = .ok v w') : (execOp a.eval o).run P w = .ok (.value v) w' := by
  subst hx
  unfold execOp; simp only [hop]
  simp only [Sem.run_bind, hrun, Result.andThen]
  rfl
theorem yr_call2 {P : Program} {o : Oper} {a : Act} {w : World} {C : Callee} {xs : Array Operand} {ts : Array TypeId} {f : FuncId} {args : Array Value} (hop : o.op = .call ⟨C, xs, ts⟩) (hc : C = .value (.func f)) (hx : xs.map a.eval = args) (hf : (callFunc f args).run P w = .ok (.enter f args) w) : (execOp a.eval o).run P w = .ok (.enter f args) w := yr_call hop hc hx hf
def AllR (N : Nms) (x : Value) (w : World) : Prop := ∃ R cap, x = .slice (some ⟨R, 0, none⟩) 40 cap ∧ RdS N.all R 0 w ∧ cap ≤ maxLen ∧ 40 ≤ cap
theorem AllR.ext {N : Nms} {x : Value} {w w' : World} (h : AllR N x w) (hE : Ext w w') : AllR N x w' := by
  obtain ⟨R, c, h1, h2, h3, h4⟩ := h
  exact ⟨R, c, h1, h2.ext hE, h3, h4⟩
def FivR (B : Nat) (x : Value) (w : World) : Prop := ∃ D, x = .slice (some ⟨D, 0, none⟩) 5 5 ∧ FiveAt D B w
theorem FivR.ext {B : Nat} {x : Value} {w w' : World} (h : FivR B x w) (hE : Ext w w') : FivR B x w' := by
  obtain ⟨D, h1, h2, h3⟩ := h
  exact ⟨D, h1, hE.lt h2, fun j hj => (hE.cells _ _ h2).trans (h3 j hj)⟩
end Go.Proofs.YtnhdmnhfllecgaaGreatDoor
/- Locales: the walks of the reference's lists and heads. -/
namespace Go.Proofs.YtnhdmnhfllecgaaGreatDoor
set_option linter.unusedVariables false
set_option linter.unusedSimpArgs false
open Go.RowKit

set_option maxRecDepth 100000 in
set_option maxHeartbeats 1000000 in
theorem rlists_c (N : Nms) (hN : N.ok) (w : World) : Calls Tryz.prog 21 #[.agg (sv N.all).toArray] w fun e w' => (∃ D B, e = .returned (.slice (some ⟨D, 0, none⟩) 5 5) ∧ FiveAt D B w' ∧ RdS N.all B 0 w') ∧ Ext w w' := by
  have hE0 : Ext w (w.alloc (.cells (sv N.all).toArray 26)) := (Ext.refl w).alloc _
  have hR0 : RdS N.all w.heap.size 0 (w.alloc (.cells (sv N.all).toArray 26)) := by
    refine ⟨by simp, fun i hi => ?_⟩
    rw [Nat.zero_add, World.cell?_alloc_new]
    simp [sv, hi]
  have h40 := Nms.ok_len hN
  go_enter Tryz.func21, Tryz.ntmps21
  go_upto_region 1 with fail
  generalize w.alloc (.cells (sv N.all).toArray 26) = W0 at hE0 hR0 ⊢
  generalize w.heap.size = B at hR0 ⊢
  refine wp_region_grow [3, 4, 5, 6, 7, 8, 9, 10, 11, 12, 13, 2] [fun x _ => x = .pointer (some ⟨B, 0, none⟩), fun x _ => x = .slice (some ⟨B, 0, none⟩) 12 12, fun x _ => x = .pointer (some ⟨B, 12, none⟩), fun x _ => x = .slice (some ⟨B, 12, none⟩) 12 12, fun x _ => x = .pointer (some ⟨B, 24, none⟩), fun x _ => x = .slice (some ⟨B, 24, none⟩) 7 7, fun x _ => x = .pointer (some ⟨B, 31, none⟩), fun x _ => x = .slice (some ⟨B, 31, none⟩) 7 7, fun x _ => x = .pointer (some ⟨B, 38, none⟩), fun x _ => x = .slice (some ⟨B, 38, none⟩) 2 2, FivR B, FivR B] 0 (by kernel_rfl) (by kernel_rfl) (by kernel_rfl) (by kernel_rfl) ?_ ?_ ?_
  · intro R hR
    simp only [List.mem_cons, List.not_mem_nil, or_false] at hR
    rcases hR with rfl | rfl | rfl | rfl | rfl | rfl | rfl | rfl | rfl | rfl | rfl | rfl
    all_goals first
      | exact fun _ _ _ h _ => h
      | exact fun _ _ _ h hE => FivR.ext h hE
  · refine ⟨?_, ?_, ?_, ?_, ?_, ?_, ?_, ?_, ?_, ?_, ?_, ?_, trivial⟩
    all_goals intro A w hE hF hD K hK
    · exact gs_val rfl (yr_field rfl ((hF 1 (fr_of rfl)).trans rfl) (fa_0 B w)) (hK _ _ rfl (Ext.refl _))
    · exact gs_val rfl (yr_sl rfl (show A.eval (.tmp 3) = _ from hD 0 (by kernel_rfl)) (sl33 B 0 w)) (hK _ _ rfl (Ext.refl _))
    · exact gs_val rfl (yr_field rfl ((hF 1 (fr_of rfl)).trans rfl) (fa_1 B w)) (hK _ _ rfl (Ext.refl _))
    · exact gs_val rfl (yr_sl rfl (show A.eval (.tmp 5) = _ from hD 2 (by kernel_rfl)) (sl33 B 12 w)) (hK _ _ rfl (Ext.refl _))
    · exact gs_val rfl (yr_field rfl ((hF 1 (fr_of rfl)).trans rfl) (fa_2 B w)) (hK _ _ rfl (Ext.refl _))
    · exact gs_val rfl (yr_sl rfl (show A.eval (.tmp 7) = _ from hD 4 (by kernel_rfl)) (sl34 B 24 w)) (hK _ _ rfl (Ext.refl _))
    · exact gs_val rfl (yr_field rfl ((hF 1 (fr_of rfl)).trans rfl) (fa_3 B w)) (hK _ _ rfl (Ext.refl _))
    · exact gs_val rfl (yr_sl rfl (show A.eval (.tmp 9) = _ from hD 6 (by kernel_rfl)) (sl34 B 31 w)) (hK _ _ rfl (Ext.refl _))
    · exact gs_val rfl (yr_field rfl ((hF 1 (fr_of rfl)).trans rfl) (fa_4 B w)) (hK _ _ rfl (Ext.refl _))
    · exact gs_val rfl (yr_sl rfl (show A.eval (.tmp 11) = _ from hD 8 (by kernel_rfl)) (sl35 B 38 w)) (hK _ _ rfl (Ext.refl _))
    · have h1 : A.eval (.tmp 4) = .slice (some ⟨B, 0, none⟩) 12 12 := hD 1 (by kernel_rfl)
      have h2 : A.eval (.tmp 6) = .slice (some ⟨B, 12, none⟩) 12 12 := hD 3 (by kernel_rfl)
      have h3 : A.eval (.tmp 8) = .slice (some ⟨B, 24, none⟩) 7 7 := hD 5 (by kernel_rfl)
      have h4 : A.eval (.tmp 10) = .slice (some ⟨B, 31, none⟩) 7 7 := hD 7 (by kernel_rfl)
      have h5 : A.eval (.tmp 12) = .slice (some ⟨B, 38, none⟩) 2 2 := hD 9 (by kernel_rfl)
      exact gs_mk rfl (yr_bsl rfl (show _ = #[(0, .slice (some ⟨B, 0, none⟩) 12 12), (1, .slice (some ⟨B, 12, none⟩) 12 12), (2, .slice (some ⟨B, 24, none⟩) 7 7), (3, .slice (some ⟨B, 31, none⟩) 7 7), (4, .slice (some ⟨B, 38, none⟩) 2 2)] by simp [h1, h2, h3, h4, h5]) (five_run B w)) (hK _ _ ⟨_, rfl, five_at B w⟩ ((Ext.refl w).alloc _))
    · have h1 : FivR B (A.eval (.tmp 13)) w := hD 10 (by kernel_rfl)
      exact gs_val rfl (yr_assign rfl rfl) (hK _ _ h1 (Ext.refl _))
  · intro vals w8 hE8 hR
    obtain ⟨h0, h1, h2, h3, h4, h5, h6, h7, h8, h9, h10, h11, -⟩ := hR
    obtain ⟨D, e11, e12⟩ : FivR B (vals 11) w8 := h11
    clear h0 h1 h2 h3 h4 h5 h6 h7 h8 h9 h10
    refine wpAny_done (by kernel_rfl) ?_ _
    simp only [putF, Act.put, List.length_cons, List.length_nil, List.getD_cons_zero, List.getD_cons_succ, List.setIfInBounds_toArray, List.set_cons_zero, List.set_cons_succ, Nat.reduceAdd, e11]
    go_wp2_with fail
    go_ret
    exact ⟨⟨D, B, rfl, e12, hR0.ext hE8⟩, hE0.trans hE8⟩
def headW : List (List UInt8) := [wMonths, wShort, wDays, wShortdays, wHalves]
set_option maxRecDepth 100000 in
set_option maxHeartbeats 1000000 in
theorem rheads_c (w : World) : Calls Tryz.prog 22 #[] w fun e w' => (∃ H, e = .returned (.slice (some ⟨H, 0, none⟩) 5 5) ∧ RdS headW H 0 w') ∧ Ext w w' := by
  have hR0 : RdS headW w.heap.size 0 (w.alloc (.cells (sv headW).toArray 9)) := by
    refine ⟨by simp, fun i hi => ?_⟩
    rw [Nat.zero_add, World.cell?_alloc_new]
    simp [sv, hi]
  go_enter Tryz.func22, Tryz.ntmps22
  go_wp2_with fail
  go_ret
  exact ⟨⟨_, rfl, hR0⟩, (Ext.refl w).alloc _⟩
end Go.Proofs.YtnhdmnhfllecgaaGreatDoor
/- Locales: the lines of names, one by one, for the reference's Text. -/
namespace Go.Proofs.YtnhdmnhfllecgaaGreatDoor
set_option linter.unusedVariables false
set_option linter.unusedSimpArgs false
open Go.RowKit

def nlN (N : Nms) : List (List (List UInt8)) := [N.mo, N.sh, N.da, N.sd, N.ha]
def acN (N : Nms) (k : Nat) : List UInt8 := (((List.zip headW (nlN N)).take k).map (fun p => lnN p.1 p.2)).flatten
theorem zip5 (N : Nms) : (List.zip headW (nlN N)).length = 5 := rfl
theorem acN_succ (N : Nms) (k : Nat) (h : k < 5) : acN N (k + 1) = acN N k ++ lnN (headW[k]'h) ((nlN N)[k]'h) := by
  unfold acN
  have h2 : k < (List.zip headW (nlN N)).length := h
  rw [List.take_succ_eq_append_getElem h2, List.map_append, List.flatten_append, List.getElem_zip]
  simp
  rfl
theorem acN_5 (N : Nms) : acN N 5 = lnN wMonths N.mo ++ (lnN wShort N.sh ++ (lnN wDays N.da ++ (lnN wShortdays N.sd ++ lnN wHalves N.ha))) := by
  simp [acN, headW, nlN]
theorem head_len (k : Nat) (h : k < 5) : (headW[k]'h).length ≤ 100 := by
  match k, h with
  | 0, _ => exact (by decide : wMonths.length ≤ 100)
  | 1, _ => exact (by decide : wShort.length ≤ 100)
  | 2, _ => exact (by decide : wDays.length ≤ 100)
  | 3, _ => exact (by decide : wShortdays.length ≤ 100)
  | 4, _ => exact (by decide : wHalves.length ≤ 100)
theorem nl_ok {N : Nms} (hN : N.ok) (h : (∀ a ∈ N.mo, a.length ≤ 30) ∧ (∀ a ∈ N.sh, a.length ≤ 30) ∧ (∀ a ∈ N.da, a.length ≤ 30) ∧ (∀ a ∈ N.sd, a.length ≤ 30) ∧ (∀ a ∈ N.ha, a.length ≤ 30)) (k : Nat) (hk : k < 5) : ((nlN N)[k]'hk).length ≤ 12 ∧ ∀ a ∈ (nlN N)[k]'hk, a.length ≤ 30 := by
  obtain ⟨n1, n2, n3, n4, n5⟩ := hN
  obtain ⟨m1, m2, m3, m4, m5⟩ := h
  match k, hk with
  | 0, _ => exact ⟨show N.mo.length ≤ 12 by omega, m1⟩
  | 1, _ => exact ⟨show N.sh.length ≤ 12 by omega, m2⟩
  | 2, _ => exact ⟨show N.da.length ≤ 12 by omega, m3⟩
  | 3, _ => exact ⟨show N.sd.length ≤ 12 by omega, m4⟩
  | 4, _ => exact ⟨show N.ha.length ≤ 12 by omega, m5⟩
theorem acN_len {N : Nms} (h : ∀ k (hk : k < 5), ((nlN N)[k]'hk).length ≤ 12 ∧ ∀ a ∈ (nlN N)[k]'hk, a.length ≤ 30) (k : Nat) (hk : k ≤ 5) : (acN N k).length ≤ k * 500 := by
  induction k with
  | zero => simp [acN]
  | succ k ih =>
    rw [acN_succ N k (by omega), List.length_append, Nat.succ_mul]
    have h1 := ih (by omega)
    have h2 := lnN_len (headW[k]'(show k < 5 by omega)) ((nlN N)[k]'(show k < 5 by omega)) (h k (by omega)).2 (h k (by omega)).1 (head_len k (by omega))
    omega
theorem nl_rd {N : Nms} (hN : N.ok) {B : Nat} {w : World} (h : RdS N.all B 0 w) (k : Nat) (hk : k < 5) : RdS ((nlN N)[k]'hk) B (ofN k) w ∧ ofN (k + 1) - ofN k = ((nlN N)[k]'hk).length := by
  obtain ⟨n1, n2, n3, n4, n5⟩ := hN
  match k, hk with
  | 0, _ => exact ⟨rds_part (A := []) h, n1.symm⟩
  | 1, _ => exact ⟨by have := rds_part (A := N.mo) (B := N.sh) h; rwa [n1] at this, n2.symm⟩
  | 2, _ => exact ⟨by have := rds_part (A := N.mo ++ N.sh) (B := N.da) (C := N.sd ++ N.ha) (by rw [List.append_assoc]; exact h); rwa [List.length_append, n1, n2] at this, n3.symm⟩
  | 3, _ => exact ⟨by have := rds_part (A := N.mo ++ N.sh ++ N.da) (B := N.sd) (C := N.ha) (by rw [List.append_assoc, List.append_assoc]; exact h); rwa [List.length_append, List.length_append, n1, n2, n3] at this, n4.symm⟩
  | 4, _ => exact ⟨by have := rds_part (A := N.mo ++ N.sh ++ N.da ++ N.sd) (B := N.ha) (C := []) (by rw [List.append_assoc, List.append_assoc, List.append_assoc, List.append_nil]; exact h); rwa [List.length_append, List.length_append, List.length_append, n1, n2, n3, n4] at this, n5.symm⟩
def HdR (x : Value) (w : World) : Prop := ∃ H, x = .slice (some ⟨H, 0, none⟩) 5 5 ∧ RdS headW H 0 w
theorem HdR.ext {x : Value} {w w' : World} (h : HdR x w) (hE : Ext w w') : HdR x w' := by
  obtain ⟨H, h1, h2⟩ := h
  exact ⟨H, h1, h2.ext hE⟩
def HdP (j : Nat) (x : Value) (w : World) : Prop := ∃ H, x = .pointer (some ⟨H, 0 + j, none⟩) ∧ RdS headW H 0 w
theorem HdP.ext {j : Nat} {x : Value} {w w' : World} (h : HdP j x w) (hE : Ext w w') : HdP j x w' := by
  obtain ⟨H, h1, h2⟩ := h
  exact ⟨H, h1, h2.ext hE⟩
theorem ld_ss (p : Addr) (x : Value) (w : World) (hc : w.cell? p = some x) : (Instr.loadAt 54 (.pointer (some p))).run Tryz.prog w = .ok x w := by go_simp
theorem ix_s5 (B O n c v : Nat) (w : World) (hv : v < n) : (Instr.indexAt 54 (.slice (some ⟨B, O, none⟩) n c) (.int .i64 (v : Int))).run Tryz.prog w = .ok (.pointer (some ⟨B, O + v, none⟩)) w := by
  have h1 : (v : Int) < (n : Int) := by omega
  go_simp
theorem ix_ss (B O n c v : Nat) (w : World) (hv : v < n) : (Instr.indexAt 60 (.slice (some ⟨B, O, none⟩) n c) (.int .i64 (v : Int))).run Tryz.prog w = .ok (.pointer (some ⟨B, O + v, none⟩)) w := by
  have h1 : (v : Int) < (n : Int) := by omega
  go_simp
end Go.Proofs.YtnhdmnhfllecgaaGreatDoor
