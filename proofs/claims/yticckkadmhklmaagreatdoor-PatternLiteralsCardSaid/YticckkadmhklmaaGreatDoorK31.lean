/- The walks of Grow and Concat at five lists of names. -/
import Derived.Test.YticckkadmhklmaaGreatDoorK04
import Derived.Test.YticckkadmhklmaaGreatDoorK06
import Derived.Test.YticckkadmhklmaaGreatDoorK13
import Derived.Test.YticckkadmhklmaaGreatDoorK14
import Derived.Test.YticckkadmhklmaaGreatDoorK29
import Derived.Lib.AppendZeros
import Derived.Laws.OwnMore
import Derived.Lib.Buffer
import Derived.OpenShut
namespace Go.Proofs.YticckkadmhklmaaGreatDoor
set_option linter.unusedVariables false
set_option linter.unusedSimpArgs false
open Go.RowKit

theorem infoStr : (Tryz.prog.info? 9).map (fun i => (i.zero, i.size, i.bytes)) = some (some (.string .empty), 1, 16) := by kernel_rfl
theorem zc_len (n : Nat) : (Builtin.zeroCells (Value.string ByteArray.empty).cells n).size = n := by simp [size_zeroCells, Value.cells]
set_option maxRecDepth 100000 in
set_option maxHeartbeats 1000000 in
theorem grow_c (w : World) : Calls Tryz.prog 68 #[.slice none 0 0, .int .i64 40] w fun e w' => ∃ B cap, e = .returned (.slice (some ⟨B, 0, none⟩) 0 cap) ∧ w'.ownsRow w.heap.size 9 1 (.slice (some ⟨B, 0, none⟩) 0 cap) 0 [] ∧ Ext w w' := by
  obtain ⟨i0, hi, hz0, hz1, hz2⟩ := info_parts infoStr
  have happ := Lib.run_append_nil_zeros (P := Tryz.prog) w 59 3 59 9 i0 (.string .empty) .i64 .i64 Tryz.underlying59 Tryz.underlying3 hi hz0 40 (by omega) (by omega) (by omega) (by omega)
  rw [show ((40 : Nat) : Int) = 40 from rfl] at happ
  have hge : 40 ≤ grownCap w 40 0 9 := grownCap_ge w _ 0 _
  have hle : grownCap w 40 0 9 ≤ maxLen := grownCap_le_maxLen w _ 0 _ (by unfold maxLen; omega)
  generalize grownCap w 40 0 9 = cap at happ hge hle
  have hZs : (Builtin.zeroCells (Value.string ByteArray.empty).cells 40 ++ Builtin.zeroCells (Value.string ByteArray.empty).cells (cap - 40)).size = cap := by
    rw [Array.size_append, zc_len, zc_len]; omega
  generalize (Builtin.zeroCells (Value.string ByteArray.empty).cells 40 ++ Builtin.zeroCells (Value.string ByteArray.empty).cells (cap - 40)) = Z at happ hZs
  have hcap := hle
  unfold maxLen at hcap
  have hown : (w.drew.alloc (.cells Z 9)).ownsRow w.heap.size 9 1 (.slice (some ⟨w.heap.size, 0, none⟩) 0 cap) 0 [] := ⟨rfl, .inr ⟨w.heap.size, cap, Z, rfl, Nat.le_refl _, heap_alloc_new w.drew _, Nat.zero_le _, hle, by rw [hZs, Nat.mul_one], by simp⟩⟩
  have hE : Ext w (w.drew.alloc (.cells Z 9)) := (Ext.refl w).drew.alloc _
  clear hi hz0 hz1 hz2
  go_enter Tryz.func68, Tryz.ntmps68
  go_wp2_with (at_builtin; refine Lib.wpList_append_run _ rfl _ _ _ _ rfl _ _ rfl rfl _ _ happ ?_)
  go_ret
  exact ⟨_, _, rfl, hown, hE⟩
/-- Where the j-th list of names begins. -/
def ofN : Nat → Nat
  | 0 => 0
  | 1 => 12
  | 2 => 24
  | 3 => 31
  | 4 => 38
  | _ => 40
theorem ofN_step (j : Nat) (h : j < 5) : ∃ o n, ofN j = o ∧ ofN (j + 1) = o + n ∧ o + n ≤ 40 ∧ 0 < n := by
  match j, h with
  | 0, _ => exact ⟨0, 12, rfl, rfl, by omega, by omega⟩
  | 1, _ => exact ⟨12, 12, rfl, rfl, by omega, by omega⟩
  | 2, _ => exact ⟨24, 7, rfl, rfl, by omega, by omega⟩
  | 3, _ => exact ⟨31, 7, rfl, rfl, by omega, by omega⟩
  | 4, _ => exact ⟨38, 2, rfl, rfl, by omega, by omega⟩
def FiveAt (D B : Nat) (w : World) : Prop := D < w.heap.size ∧ ∀ j, j < 5 → w.cell? ⟨D, j, none⟩ = some (.slice (some ⟨B, ofN j, none⟩) (ofN (j + 1) - ofN j) (ofN (j + 1) - ofN j))
set_option maxRecDepth 100000 in
set_option maxHeartbeats 1000000 in
theorem concat_c (N : Nms) (hN : N.ok) (D B : Nat) (w : World) (hD : FiveAt D B w) (hB : RdS N.all B 0 w) : Calls Tryz.prog 27 #[.slice (some ⟨D, 0, none⟩) 5 5] w fun e w' => ∃ R cap, e = .returned (.slice (some ⟨R, 0, none⟩) 40 cap) ∧ RdS N.all R 0 w' ∧ cap ≤ maxLen ∧ 40 ≤ cap ∧ Ext w w' := by
  obtain ⟨i0, hi, hz0, hz1, hz2⟩ := info_parts infoStr
  have Hi := Lib.hid hi
  have Hz0 := Lib.hid hz0
  have Hz1 := Lib.hid hz1
  have Hz2 := Lib.hid hz2
  have h40 := Nms.ok_len hN
  have HD := Lib.hid hD
  have HB := Lib.hid hB
  clear hi hz0 hz1 hz2 hD hB hN
  go_enter Tryz.func27, Tryz.ntmps27
  go_wp2_with fail
  go_loop [3, 11] (fun s i => ∃ j : Nat, j ≤ 5 ∧ i = .int .i64 (j : Int) ∧ s = .int .i64 (ofN j : Int)) (fun _ i => 5 - (intOf i).toNat)
  case atStart => exact ⟨0, by omega, rfl, rfl⟩
  case round =>
    obtain ⟨j, hj, rfl, rfl⟩ := hrel
    by_cases hlt : j < 5
    · have c0 := HD.out.2 j hlt
      obtain ⟨o, n, e1, e2, hl, hn⟩ := ofN_step j hlt
      rw [e1, e2, show o + n - o = n by omega] at c0
      rw [e1]
      have hgo : ∀ (x : Int), x = (o : Int) + n → x = ((ofN (j + 1) : Nat) : Int) := fun x hx => by rw [hx, e2]; omega
      have Hgo := Lib.hid hgo
      clear hgo e1 e2
      go_wp2_with fail
      go_round
      case rel => exact ⟨j + 1, by omega, by go_num, by congr 1; exact Hgo.out _ (by go_num)⟩
      case measure => simp [intOf]; omega
    · obtain rfl : j = 5 := by omega
      rw [show ofN 5 = 40 from rfl]
      go_wp2_with (first
        | (go_at_call 68; (with_reducible refine (grow_c _).mono ?_); rintro e w1 ⟨R0, cap0, rfl, hown0, hE1⟩))
      obtain ⟨G, hG⟩ : ∃ G, w.heap.size = G := ⟨_, rfl⟩
      rw [hG] at hown0
      have hG1 : G ≤ w1.heap.size := by rw [← hG]; exact hE1.size
      go_loopw [6, 27] (fun v i wr => ∃ (j R cap : Nat), j ≤ 5 ∧ i = .int .i64 (j : Int) ∧ v = .slice (some ⟨R, 0, none⟩) (ofN j) cap ∧ Hid (wr.ownsRow G 9 1 (.slice (some ⟨R, 0, none⟩) (ofN j) cap) (ofN j) (sv (N.all.take (ofN j)))) ∧ Hid (Frm (fun k => G ≤ k) w1 wr)) (fun _ i _ => 5 - (intOf i).toNat)
      case atStart => exact ⟨0, R0, cap0, by omega, rfl, rfl, hown0, Frm.refl _ _⟩
      case round =>
        obtain ⟨j, R, cap, hj, rfl, rfl, Hown, HF⟩ := hrel
        have hEr : Ext w wr := Frm.far hE1 HF.out (fun k hk hS => by omega)
        have hGr : G ≤ wr.heap.size := Nat.le_trans hG1 HF.out.size
        by_cases hlt : j < 5
        · have c0 := (hEr.cells _ _ HD.out.1).trans (HD.out.2 j hlt)
          have HBr := Lib.hid (HB.out.ext hEr)
          obtain ⟨o, n, e1, e2, hl, hn⟩ := ofN_step j hlt
          rw [e1, e2, show o + n - o = n by omega] at c0
          rw [e1] at Hown ⊢
          have He2 := Lib.hid e2
          have hns : Hid (sv (N.all.take o) ++ sv ((N.all.drop o).take n) = sv (N.all.take (o + n))) := by
            rw [Hid, List.take_add]; unfold sv; rw [List.map_append]
          have hnl : Hid ((sv ((N.all.drop o).take n)).length = n * 1) := by
            rw [Hid, sv_len, List.length_take, List.length_drop]; omega
          have hnc : Hid (∀ i u, (sv ((N.all.drop o).take n))[i]? = some u → wr.cell? ((⟨B, o, none⟩ : Addr).add i) = some u) := by
            intro i u hu
            have hi : i < n := by
              have := (List.getElem?_eq_some_iff.1 hu).1
              rw [hnl.out] at this; omega
            have h2 := HBr.out.2 (o + i) (by omega)
            rw [Addr.add_mid]
            rw [Nat.zero_add] at h2
            rw [h2, ← hu]
            unfold sv
            rw [List.getElem?_map, List.getElem?_take_of_lt hi, List.getElem?_drop, List.getElem?_eq_getElem (by omega)]
            rfl
          have hno : Hid (∀ u ∈ sv ((N.all.drop o).take n), u.oneCell' = true) := by
            intro u hu
            unfold sv at hu
            rw [List.mem_map] at hu
            obtain ⟨x, -, rfl⟩ := hu
            rfl
          generalize sv ((N.all.drop o).take n) = news at hns hnl hnc hno
          clear e1 e2
          go_wp2_with (first
            | (at_builtin; go_loud (refine wpList_append_own _ rfl _ _ 59 rfl G 9 i0 (.string .empty) 1 16 Tryz.underlying59 Hi.out Hz0.out Hz1.out Hz2.out rfl (by decide) _ _ _ rfl Hown.out ⟨B, o, none⟩ n n news rfl hnl.out hnc.out hno.out (by unfold maxLen; omega) (by omega) hGr ?_; intro v' w3 hown' hgrow3 hnil3)))
          have HF9 : Hid (Frm (fun j => G ≤ j) w1 w3) := HF.out.grown hgrow3 (fun k hk => .inl (World.ownsRow.lt Hown.out k hk).1)
          rw [hns.out] at hown'
          have hsh : ∃ R' cap', v' = .slice (some ⟨R', 0, none⟩) (o + n) cap' := by
            obtain ⟨_, h2⟩ := hown'
            rcases h2 with ⟨_, h0⟩ | ⟨g, c, cur, h1, _⟩
            · omega
            · exact ⟨g, c, h1⟩
          obtain ⟨R', cap', rfl⟩ := hsh
          go_roundw
          case rel => exact ⟨j + 1, R', cap', by omega, by go_num, by rw [He2.out], by rw [He2.out]; exact hown', HF9⟩
          case measure => simp [intOf]; omega
        · obtain rfl : j = 5 := by omega
          rw [show ofN 5 = 40 from rfl] at Hown ⊢
          go_wp2_with fail
          go_ret
          have h40' : N.all.take 40 = N.all := by rw [← h40, List.take_length]
          have hO := Hown.out
          rw [h40'] at hO
          obtain ⟨_, h2⟩ := id hO
          rcases h2 with ⟨_, h0⟩ | ⟨g, c, cur, h1, hg, hh, hnc, hcm, _⟩
          · cases h0
          · cases h1
            refine ⟨R, cap, rfl, ⟨Lib.lt_of_heap hh, fun i hi => ?_⟩, hcm, hnc, hEr⟩
            rw [Nat.zero_add, hO.cellAt i (by omega)]
            unfold sv
            rw [List.getElem?_map, List.getElem?_eq_getElem hi]
            rfl
def lgB (s : List UInt8) : Bool := decide (100 < s.length)
def lngB (N : Nms) : Bool := N.all.any lgB
set_option maxRecDepth 100000 in
theorem lgc_c (t : List UInt8) (b : Bool) (w : World) (hb : lgB t = b) : Calls Tryz.prog 28 #[.string ⟨t.toArray⟩] w fun e w' => e = .returned (.bool b) ∧ w = w' := by
  unfold lgB at hb
  subst hb
  by_cases h : 100 < t.length
  · have h' : (100 : Int) < (t.length : Int) := by omega
    rw [decide_eq_true h]
    clear h
    go_enter Tryz.func28, Tryz.ntmps28
    go_wp2_with fail
    go_ret
    exact ⟨rfl, rfl⟩
  · have h' : ¬ (100 : Int) < (t.length : Int) := by omega
    rw [decide_eq_false h]
    clear h
    go_enter Tryz.func28, Tryz.ntmps28
    go_wp2_with fail
    go_ret
    exact ⟨rfl, rfl⟩
set_option maxRecDepth 100000 in
set_option maxHeartbeats 1000000 in
theorem idxL_c (l : List (List UInt8)) (R cap : Nat) (w : World) (hl : RdS l R 0 w) (hlen : l.length ≤ cap) (hcap : cap ≤ maxLen) (h40 : l.length ≤ 40) :
    Calls Tryz.prog 67 #[.slice (some ⟨R, 0, none⟩) l.length cap, .func (.func 28) #[] #[]] w fun e w' => (∃ z : Int, e = .returned (.int .i64 z) ∧ decide (0 ≤ z) = l.any lgB) ∧ Ext w w' := by
  unfold maxLen at hcap
  have HL := Lib.hid hl
  obtain ⟨G, hG⟩ : ∃ G, G = l.any lgB := ⟨_, rfl⟩
  have HP := Lib.hid hG
  rw [← hG]
  clear hl hG
  go_enter Tryz.func67, Tryz.ntmps67
  go_wp2_with fail
  go_loopw [8] (fun i wr => ∃ j : Nat, j ≤ l.length ∧ i = .int .i64 (j : Int) ∧ Hid ((l.take j).any lgB = false) ∧ Ext w wr) (fun i _ => l.length - (intOf i).toNat)
  case atStart => exact ⟨0, Nat.zero_le _, rfl, rfl, Ext.refl _⟩
  case round =>
    obtain ⟨j, hj, rfl, Hall, hE⟩ := hrel
    by_cases hlt : j < l.length
    · have c0 := (HL.out.ext hE).2 j hlt
      rw [Nat.zero_add] at c0
      have Hs : Hid ((l.take (j + 1)).any lgB = ((l.take j).any lgB || lgB l[j])) := by rw [Hid, List.take_add_one, List.any_append]; simp [hlt]
      have hmem : l[j] ∈ l := List.getElem_mem _
      obtain ⟨p, hp⟩ : ∃ p, p = l[j] := ⟨_, rfl⟩
      rw [← hp] at c0 Hs hmem
      clear hp
      rcases Bool.eq_false_or_eq_true (lgB p) with hq | hq
      · have HV : Hid (G = true) := by rw [Hid, HP.out, List.any_eq_true]; exact ⟨_, hmem, hq⟩
        have Hq := Lib.hid hq
        clear hq hmem
        go_wp2_with (first
          | (go_at_call 28; (with_reducible refine (lgc_c p true _ Hq.out).mono ?_); rintro e w1 ⟨rfl, rfl⟩))
        go_ret
        exact ⟨⟨(j : Int), rfl, by rw [HV.out]; simp⟩, hE⟩
      · have Hq := Lib.hid hq
        have Hn : Hid ((l.take (j + 1)).any lgB = false) := by rw [Hid, Hs.out, Hall.out, hq]; rfl
        clear hq hmem
        go_wp2_with (first
          | (go_at_call 28; (with_reducible refine (lgc_c p false _ Hq.out).mono ?_); rintro e w1 ⟨rfl, rfl⟩))
        go_roundw
        case rel => exact ⟨j + 1, by omega, by go_num, Hn, hE⟩
        case measure => simp [intOf]; omega
    · obtain rfl : j = l.length := by omega
      have HV : Hid (G = false) := by rw [Hid, HP.out]; have := Hall.out; rwa [List.take_length] at this
      go_wp2_with fail
      go_ret
      exact ⟨⟨-1, rfl, by rw [HV.out]; rfl⟩, hE⟩
theorem cfL_c (l : List (List UInt8)) (R cap : Nat) (b : Bool) (w : World) (hl : RdS l R 0 w) (hlen : l.length ≤ cap) (hcap : cap ≤ maxLen) (h40 : l.length ≤ 40) (hb : l.any lgB = b) :
    Calls Tryz.prog 26 #[.slice (some ⟨R, 0, none⟩) l.length cap, .func (.func 28) #[] #[]] w fun e w' => e = .returned (.bool b) ∧ Ext w w' := by
  have HC := Lib.hid (idxL_c l R cap w hl hlen hcap h40)
  rw [hb] at HC
  clear hl hb
  go_enter Tryz.func26, Tryz.ntmps26
  go_wp2_with (first
    | (go_at_call 67; (with_reducible refine HC.out.mono ?_); rintro e w1 ⟨⟨z, rfl, hz⟩, hE1⟩))
  go_ret
  exact ⟨rfl, hE1⟩
end Go.Proofs.YticckkadmhklmaaGreatDoor
/- The walk of long. -/
namespace Go.Proofs.YticckkadmhklmaaGreatDoor
set_option linter.unusedVariables false
set_option linter.unusedSimpArgs false
open Go.RowKit

def fiveV (B : Nat) : Array Value := #[.slice (some ⟨B, 0, none⟩) 12 12, .slice (some ⟨B, 12, none⟩) 12 12, .slice (some ⟨B, 24, none⟩) 7 7, .slice (some ⟨B, 31, none⟩) 7 7, .slice (some ⟨B, 38, none⟩) 2 2]
set_option maxRecDepth 100000 in
theorem five_run (B : Nat) (w : World) : (Instr.buildSlice 99 5 #[(0, .slice (some ⟨B, 0, none⟩) 12 12), (1, .slice (some ⟨B, 12, none⟩) 12 12), (2, .slice (some ⟨B, 24, none⟩) 7 7), (3, .slice (some ⟨B, 31, none⟩) 7 7), (4, .slice (some ⟨B, 38, none⟩) 2 2)]).run Tryz.prog w = .ok (.slice (some ⟨w.heap.size, 0, none⟩) 5 5) (w.alloc (.cells (fiveV B) 59)) := by
  kernel_rfl
theorem five_at (B : Nat) (w : World) : FiveAt w.heap.size B (w.alloc (.cells (fiveV B) 59)) := by
  refine ⟨by simp, fun j hj => ?_⟩
  rw [World.cell?_alloc_new]
  match j, hj with
  | 0, _ => rfl
  | 1, _ => rfl
  | 2, _ => rfl
  | 3, _ => rfl
  | 4, _ => rfl
theorem yr_sl {P : Program} {o : Oper} {a : Act} {w : World} {t : TypeId} {x : Operand} {u v : Value} (hop : o.op = .slice t x none none none) (hx : a.eval x = u) (hrun : (Instr.sliceAt t u none none none).run P w = .ok v w) : (execOp a.eval o).run P w = .ok (.value v) w := by
  unfold execOp; simp [hop, hx, hrun, Result.andThen]
theorem gs_mk {P : Program} {o : Oper} {Q : Exit → Act → World → Prop} {K : Act → World → Prop} {a : Act} {w w' : World} {v : Value} {dd : Nat} (hd : o.dst = some dd) (hrun : (execOp a.eval o).run P w = .ok (.value v) w') (h : K (a.put (some dd) v) w') : o.wp P a w K Q := by
  unfold Oper.wp
  rw [hrun]
  show K (a.put o.dst v) w'
  rw [hd]; exact h
theorem yr_bsl {P : Program} {o : Oper} {a : Act} {w w' : World} {t : TypeId} {n : Nat} {ps : Array (Nat × Operand)} {us : Array (Nat × Value)} {v : Value} (hop : o.op = .buildSlice t n ps) (hx : (ps.map fun (i, x) => (i, a.eval x)) = us) (hrun : (Instr.buildSlice t n us).run P w = .ok v w') : (execOp a.eval o).run P w = .ok (.value v) w' := by
  subst hx
  unfold execOp; simp only [hop]
  simp only [Sem.run_bind, hrun, Result.andThen]
  rfl
theorem yr_call2 {P : Program} {o : Oper} {a : Act} {w : World} {C : Callee} {xs : Array Operand} {ts : Array TypeId} {f : FuncId} {args : Array Value} (hop : o.op = .call ⟨C, xs, ts⟩) (hc : C = .value (.func f)) (hx : xs.map a.eval = args) (hf : (callFunc f args).run P w = .ok (.enter f args) w) : (execOp a.eval o).run P w = .ok (.enter f args) w := yr_call hop hc hx hf
def AllR (N : Nms) (x : Value) (w : World) : Prop := ∃ R cap, x = .slice (some ⟨R, 0, none⟩) 40 cap ∧ RdS N.all R 0 w ∧ cap ≤ maxLen ∧ 40 ≤ cap
theorem AllR.ext {N : Nms} {x : Value} {w w' : World} (h : AllR N x w) (hE : Ext w w') : AllR N x w' := by
  obtain ⟨R, c, h1, h2, h3, h4⟩ := h
  exact ⟨R, c, h1, h2.ext hE, h3, h4⟩
def FivR (B : Nat) (x : Value) (w : World) : Prop := ∃ D, x = .slice (some ⟨D, 0, none⟩) 5 5 ∧ FiveAt D B w
theorem FivR.ext {B : Nat} {x : Value} {w w' : World} (h : FivR B x w) (hE : Ext w w') : FivR B x w' := by
  obtain ⟨D, h1, h2, h3⟩ := h
  exact ⟨D, h1, hE.lt h2, fun j hj => (hE.cells _ _ h2).trans (h3 j hj)⟩
set_option maxRecDepth 100000 in
set_option maxHeartbeats 1000000 in
theorem long_c (N : Nms) (hN : N.ok) (b : Bool) (w : World) (hb : lngB N = b) : Calls Tryz.prog 7 #[.agg (sv N.all).toArray] w fun e w' => e = .returned (.bool b) ∧ Ext w w' := by
  have hE0 : Ext w (w.alloc (.cells (sv N.all).toArray 27)) := (Ext.refl w).alloc _
  have hR0 : RdS N.all w.heap.size 0 (w.alloc (.cells (sv N.all).toArray 27)) := by
    refine ⟨by simp, fun i hi => ?_⟩
    rw [Nat.zero_add, World.cell?_alloc_new]
    simp [sv, hi]
  have h40 := Nms.ok_len hN
  go_enter Tryz.func7, Tryz.ntmps7
  go_upto_region 1 with fail
  generalize w.alloc (.cells (sv N.all).toArray 27) = W0 at hE0 hR0 ⊢
  generalize w.heap.size = B at hR0 ⊢
  refine wp_region_grow [3, 4, 5, 6, 7, 8, 9, 10, 11, 12, 13, 14, 15, 2] [fun x _ => x = .pointer (some ⟨B, 0, none⟩), fun x _ => x = .slice (some ⟨B, 0, none⟩) 12 12, fun x _ => x = .pointer (some ⟨B, 12, none⟩), fun x _ => x = .slice (some ⟨B, 12, none⟩) 12 12, fun x _ => x = .pointer (some ⟨B, 24, none⟩), fun x _ => x = .slice (some ⟨B, 24, none⟩) 7 7, fun x _ => x = .pointer (some ⟨B, 31, none⟩), fun x _ => x = .slice (some ⟨B, 31, none⟩) 7 7, fun x _ => x = .pointer (some ⟨B, 38, none⟩), fun x _ => x = .slice (some ⟨B, 38, none⟩) 2 2, FivR B, AllR N, fun x _ => x = .bool b, fun x _ => x = .bool b] 0 (by kernel_rfl) (by kernel_rfl) (by kernel_rfl) (by kernel_rfl) ?_ ?_ ?_
  · intro R hR
    simp only [List.mem_cons, List.not_mem_nil, or_false] at hR
    rcases hR with rfl | rfl | rfl | rfl | rfl | rfl | rfl | rfl | rfl | rfl | rfl | rfl | rfl | rfl
    all_goals first
      | exact fun _ _ _ h _ => h
      | exact fun _ _ _ h hE => FivR.ext h hE
      | exact fun _ _ _ h hE => AllR.ext h hE
  · refine ⟨?_, ?_, ?_, ?_, ?_, ?_, ?_, ?_, ?_, ?_, ?_, ?_, ?_, ?_, trivial⟩
    all_goals intro A w hE hF hD K hK
    · exact gs_val rfl (yr_field rfl ((hF 1 (fr_of rfl)).trans rfl) (fa_0 B w)) (hK _ _ rfl (Ext.refl _))
    · exact gs_val rfl (yr_sl rfl (show A.eval (.tmp 3) = _ from hD 0 (by kernel_rfl)) (sl33 B 0 w)) (hK _ _ rfl (Ext.refl _))
    · exact gs_val rfl (yr_field rfl ((hF 1 (fr_of rfl)).trans rfl) (fa_1 B w)) (hK _ _ rfl (Ext.refl _))
    · exact gs_val rfl (yr_sl rfl (show A.eval (.tmp 5) = _ from hD 2 (by kernel_rfl)) (sl33 B 12 w)) (hK _ _ rfl (Ext.refl _))
    · exact gs_val rfl (yr_field rfl ((hF 1 (fr_of rfl)).trans rfl) (fa_2 B w)) (hK _ _ rfl (Ext.refl _))
    · exact gs_val rfl (yr_sl rfl (show A.eval (.tmp 7) = _ from hD 4 (by kernel_rfl)) (sl34 B 24 w)) (hK _ _ rfl (Ext.refl _))
    · exact gs_val rfl (yr_field rfl ((hF 1 (fr_of rfl)).trans rfl) (fa_3 B w)) (hK _ _ rfl (Ext.refl _))
    · exact gs_val rfl (yr_sl rfl (show A.eval (.tmp 9) = _ from hD 6 (by kernel_rfl)) (sl34 B 31 w)) (hK _ _ rfl (Ext.refl _))
    · exact gs_val rfl (yr_field rfl ((hF 1 (fr_of rfl)).trans rfl) (fa_4 B w)) (hK _ _ rfl (Ext.refl _))
    · exact gs_val rfl (yr_sl rfl (show A.eval (.tmp 11) = _ from hD 8 (by kernel_rfl)) (sl35 B 38 w)) (hK _ _ rfl (Ext.refl _))
    · have h1 : A.eval (.tmp 4) = .slice (some ⟨B, 0, none⟩) 12 12 := hD 1 (by kernel_rfl)
      have h2 : A.eval (.tmp 6) = .slice (some ⟨B, 12, none⟩) 12 12 := hD 3 (by kernel_rfl)
      have h3 : A.eval (.tmp 8) = .slice (some ⟨B, 24, none⟩) 7 7 := hD 5 (by kernel_rfl)
      have h4 : A.eval (.tmp 10) = .slice (some ⟨B, 31, none⟩) 7 7 := hD 7 (by kernel_rfl)
      have h5 : A.eval (.tmp 12) = .slice (some ⟨B, 38, none⟩) 2 2 := hD 9 (by kernel_rfl)
      exact gs_mk rfl (yr_bsl rfl (show _ = #[(0, .slice (some ⟨B, 0, none⟩) 12 12), (1, .slice (some ⟨B, 12, none⟩) 12 12), (2, .slice (some ⟨B, 24, none⟩) 7 7), (3, .slice (some ⟨B, 31, none⟩) 7 7), (4, .slice (some ⟨B, 38, none⟩) 2 2)] by simp [h1, h2, h3, h4, h5]) (five_run B w)) (hK _ _ ⟨_, rfl, five_at B w⟩ ((Ext.refl w).alloc _))
    · have h1 : FivR B (A.eval (.tmp 13)) w := hD 10 (by kernel_rfl)
      obtain ⟨D, e1, e2⟩ := h1
      refine gs_call (R := AllR N) rfl (yr_call rfl rfl (show (#[Operand.tmp 13] : Array Operand).map A.eval = #[.slice (some ⟨D, 0, none⟩) 5 5] by simp [e1]) (by kernel_rfl)) ?_ hK
      exact (concat_c N hN D B w e2 (hR0.ext hE)).mono fun e w' h => by
        obtain ⟨R, cap, h1, h2, h3, h4, h5⟩ := h
        exact ⟨_, h1, ⟨R, cap, rfl, h2, h3, h4⟩, h5⟩
    · have h1 : AllR N (A.eval (.tmp 14)) w := hD 11 (by kernel_rfl)
      obtain ⟨R, cap, e1, e2, e3, e4⟩ := h1
      refine gs_call (R := fun x _ => x = .bool b) rfl (yr_call rfl rfl (show (#[Operand.tmp 14, Operand.func 28] : Array Operand).map A.eval = #[.slice (some ⟨R, 0, none⟩) 40 cap, .func (.func 28) #[] #[]] by simp [e1]; rfl) (by kernel_rfl)) ?_ hK
      have q := cfL_c N.all R cap b w e2 (by omega) e3 (by omega) hb
      rw [h40] at q
      exact q.mono fun e w' h => ⟨_, h.1, rfl, h.2⟩
    · exact gs_val rfl (yr_assign rfl (show A.eval (.tmp 15) = _ from hD 12 (by kernel_rfl))) (hK _ _ rfl (Ext.refl _))
  · intro vals w8 hE8 hR
    obtain ⟨h0, h1, h2, h3, h4, h5, h6, h7, h8, h9, h10, h11, h12, h13, -⟩ := hR
    have e13 : vals 13 = .bool b := h13
    clear h0 h1 h2 h3 h4 h5 h6 h7 h8 h9 h10 h11 h12 h13
    refine wpAny_done (by kernel_rfl) ?_ _
    simp only [putF, Act.put, List.length_cons, List.length_nil, List.getD_cons_zero, List.getD_cons_succ, List.setIfInBounds_toArray, List.set_cons_zero, List.set_cons_succ, Nat.reduceAdd, e13]
    go_wp2_with fail
    go_ret
    exact ⟨rfl, hE0.trans hE8⟩
end Go.Proofs.YticckkadmhklmaaGreatDoor
/- Format, where something is not valid: an error. -/
namespace Go.Proofs.YticckkadmhklmaaGreatDoor
set_option linter.unusedVariables false
set_option linter.unusedSimpArgs false
open Go.RowKit Go.Maps

theorem ivt (f : Nat → Int) (n : Int) : ∀ k : Nat, f 0 ≤ n → n < f k → ∃ j, j < k ∧ f j ≤ n ∧ n < f (j + 1)
  | 0, h, k => absurd k (by omega)
  | k + 1, h, q => by
    by_cases c : n < f k
    · obtain ⟨j, h1, h2, h3⟩ := ivt f n k h c
      exact ⟨j, by omega, h2, h3⟩
    · exact ⟨k, by omega, by omega, q⟩
theorem date_ex {n : Int} (h1 : -719162 ≤ n) (h2 : n < 2932897) : ∃ y m d : Int, IsDate n y m d := by
  obtain ⟨j, hj, a, b⟩ := ivt (fun j => yd ((j : Int) + 1)) n 9999 (by show yd _ ≤ n; unfold yd; omega) (by show n < yd _; unfold yd; omega)
  have a : yd ((j : Int) + 1) ≤ n := a
  have b : n < yd ((((j + 1 : Nat)) : Int) + 1) := b
  rw [show (((j + 1 : Nat)) : Int) + 1 = ((j : Int) + 1) + 1 by omega, yd_succ] at b
  obtain ⟨i, hi, c, d⟩ := ivt (fun i => yd ((j : Int) + 1) + cum ((j : Int) + 1) ((i : Int) + 1)) n 12 (by show yd _ + cum _ _ ≤ n; rw [show cum ((j : Int) + 1) (((0 : Nat) : Int) + 1) = 0 by unfold cum; simp]; omega)
    (by show n < yd _ + cum _ _; rw [show ((12 : Nat) : Int) + 1 = 13 from rfl, cum13]; omega)
  exact ⟨(j : Int) + 1, (i : Int) + 1, _, IsDate.of (by omega) (by omega) (by omega) (by omega) c (by have d : n < yd ((j : Int) + 1) + cum ((j : Int) + 1) ((((i + 1 : Nat)) : Int) + 1) := d; rw [show (((i + 1 : Nat)) : Int) + 1 = ((i : Int) + 1) + 1 by omega] at d; exact d)⟩
theorem isF_ex {t : Int} (h1 : -62135596800 ≤ t) (h2 : t < 253402300800) : ∃ F : Fv, IsF F t := by
  obtain ⟨y, m, d, hv, hd⟩ := date_ex (n := t / 86400) (by omega) (by omega)
  obtain ⟨v1, v2, v3, v4, v5, v6, v7⟩ := vld_parts hv
  obtain ⟨y, rfl⟩ : ∃ k : Nat, y = (k : Int) := ⟨y.toNat, by omega⟩
  obtain ⟨m, rfl⟩ : ∃ k : Nat, m = (k : Int) := ⟨m.toNat, by omega⟩
  obtain ⟨d, rfl⟩ : ∃ k : Nat, d = (k : Int) := ⟨d.toNat, by omega⟩
  refine ⟨⟨y, m, d, (t % 86400 / 3600).toNat, (t % 86400 / 60 % 60).toNat, (t % 86400 % 60).toNat, (wdZ (t / 86400)).toNat⟩, hv, hd, ?_, ?_, ?_, ?_⟩
  · show (((t % 86400 / 3600).toNat : Nat) : Int) = _; omega
  · show (((t % 86400 / 60 % 60).toNat : Nat) : Int) = _; omega
  · show (((t % 86400 % 60).toNat : Nat) : Int) = _; omega
  · show (((wdZ (t / 86400)).toNat : Nat) : Int) = _
    have : 1 ≤ wdZ (t / 86400) := by unfold wdZ; omega
    omega
/-- The error of Format. -/
def fmtE (l : List Prt) (N : Nms) (o : Int) (tn : List UInt8) : Int := if validB l = true ∧ nmOk N = true ∧ -93600 < o ∧ o < 93600 ∧ typB tn = true then 2 else 1
set_option maxRecDepth 100000 in
set_option maxHeartbeats 2000000 in
theorem format_e (l : List Prt) (N : Nms) (o sa l0 : Int) (tn : List UInt8) (ao : Option Addr) (cap : Nat) (w : World) (h : PtV ao cap l w) (hl : ∀ p ∈ l, p.t.length ≤ 4000) (hN : N.ok) (hNl : ∀ s ∈ N.all, s.length ≤ 100000)
    (htl : tn.length ≤ 100000) (hbad : ¬ (validB l = true ∧ nmOk N = true ∧ -93600 < o ∧ o < 93600 ∧ typB tn = true ∧ -62135596800 ≤ l0 ∧ l0 < 253402300800)) :
    Calls Tryz.prog 21 #[.slice ao l.length cap, .agg (sv N.all).toArray, .int .i64 l0, .agg #[.int .i64 o, .int .i64 sa, .string ⟨tn.toArray⟩]] w fun e w' => e = .returned (.tuple #[.string .empty, .int .i64 (fmtE l N o tn)]) ∧ Ext w w' := by
  have hI := names_size hN
  have hR : ((w.alloc (.cells (sv N.all).toArray 27)).alloc (.cells #[.int .i64 o, .int .i64 sa, .string ⟨tn.toArray⟩] 52)).rangeAt w.heap.size 0 (sv N.all) := by
    intro j v hv
    rw [World.cell?_alloc_lt _ _ _ (by simp), Nat.zero_add, World.cell?_alloc_new]
    simpa using hv
  have hEW : Ext w ((w.alloc (.cells (sv N.all).toArray 27)).alloc (.cells #[.int .i64 o, .int .i64 sa, .string ⟨tn.toArray⟩] 52)) := ((Ext.refl w).alloc _).alloc _
  have t0 : ((w.alloc (.cells (sv N.all).toArray 27)).alloc (.cells #[.int .i64 o, .int .i64 sa, .string ⟨tn.toArray⟩] 52)).cell? ⟨w.heap.size + 1, 0, none⟩ = some (.int .i64 o) := by
    simp
  have t2 : ((w.alloc (.cells (sv N.all).toArray 27)).alloc (.cells #[.int .i64 o, .int .i64 sa, .string ⟨tn.toArray⟩] 52)).cell? ⟨w.heap.size + 1, 2, none⟩ = some (.string ⟨tn.toArray⟩) := by
    simp
  have hz1 : w.heap.size < ((w.alloc (.cells (sv N.all).toArray 27)).alloc (.cells #[.int .i64 o, .int .i64 sa, .string ⟨tn.toArray⟩] 52)).heap.size := by simp; omega
  have hz2 : w.heap.size + 1 < ((w.alloc (.cells (sv N.all).toArray 27)).alloc (.cells #[.int .i64 o, .int .i64 sa, .string ⟨tn.toArray⟩] 52)).heap.size := by simp
  have Hl := Lib.hid hl
  have HN := Lib.hid hN
  have HNl := Lib.hid hNl
  have Hpt := Lib.hid h
  clear hl hN hNl h
  rcases Bool.eq_false_or_eq_true (validB l) with hv | hv
  · have Hv := Lib.hid hv
    rcases Bool.eq_false_or_eq_true (nmOk N) with hn | hn
    · have Hn := Lib.hid hn
      by_cases ho1 : -93600 < o
      · by_cases ho2 : o < 93600
        · rcases Bool.eq_false_or_eq_true (typB tn) with ht | ht
          · have Ht := Lib.hid ht
            have hr : ¬ (-62135596800 ≤ l0 ∧ l0 < 253402300800) := fun q => hbad ⟨hv, hn, ho1, ho2, ht, q⟩
            have HE : Hid (fmtE l N o tn = 2) := by unfold Hid fmtE; rw [if_pos ⟨hv, hn, ho1, ho2, ht⟩]
            clear hbad hv hn ht
            by_cases r1 : -62135596800 ≤ l0
            · have r2 : ¬ l0 < 253402300800 := fun q => hr ⟨r1, q⟩
              clear hr
              go_enter Tryz.func21, Tryz.ntmps21
              go_upto_region 1 with fail
              generalize (w.alloc (.cells (sv N.all).toArray 27)).alloc (.cells #[.int .i64 o, .int .i64 sa, .string ⟨tn.toArray⟩] 52) = W0 at hR hEW t0 t2 hz1 hz2 ⊢
              generalize w.heap.size + 1 = T at t0 t2 hz2 ⊢
              generalize hB : w.heap.size = B at hR hz1 ⊢
              have HB := Lib.hid hB
              clear hB
              go_wp2_with (first
                | (go_at_call 29; (with_reducible refine (valid_lit l true ao cap _ (Hpt.out.ext hEW) Hl.out Hv.out).mono ?_); rintro e w1 ⟨rfl, hE1⟩; have hEE := hEW.trans hE1; have t0b := (hE1.cells _ _ hz2).trans t0; have t2b := (hE1.cells _ _ hz2).trans t2; have hR1 := rangeAt_ext hR hz1 hE1)
                | (refine wpList_load_midg (by rfl) 27 _ rfl B 0 rfl (sv N.all) _ hR1 Tryz.underlying27 rfl hI ?_)
                | (go_at_call 11; (with_reducible refine (names_lit N true HN.out _ HNl.out Hn.out).mono ?_); rintro e w2 ⟨rfl, hE2⟩; have hEE := hEW.trans (hE1.trans hE2); have t0b := ((hE1.trans hE2).cells _ _ hz2).trans t0; have t2b := ((hE1.trans hE2).cells _ _ hz2).trans t2)
                | (go_at_call 60; (with_reducible refine (typ_lit tn true _ htl Ht.out).mono ?_); rintro e w3 ⟨rfl, rfl⟩))
              go_ret2
              exact ⟨by rw [HE.out]; rfl, hEE⟩
            · clear hr
              go_enter Tryz.func21, Tryz.ntmps21
              go_upto_region 1 with fail
              generalize (w.alloc (.cells (sv N.all).toArray 27)).alloc (.cells #[.int .i64 o, .int .i64 sa, .string ⟨tn.toArray⟩] 52) = W0 at hR hEW t0 t2 hz1 hz2 ⊢
              generalize w.heap.size + 1 = T at t0 t2 hz2 ⊢
              generalize hB : w.heap.size = B at hR hz1 ⊢
              have HB := Lib.hid hB
              clear hB
              go_wp2_with (first
                | (go_at_call 29; (with_reducible refine (valid_lit l true ao cap _ (Hpt.out.ext hEW) Hl.out Hv.out).mono ?_); rintro e w1 ⟨rfl, hE1⟩; have hEE := hEW.trans hE1; have t0b := (hE1.cells _ _ hz2).trans t0; have t2b := (hE1.cells _ _ hz2).trans t2; have hR1 := rangeAt_ext hR hz1 hE1)
                | (refine wpList_load_midg (by rfl) 27 _ rfl B 0 rfl (sv N.all) _ hR1 Tryz.underlying27 rfl hI ?_)
                | (go_at_call 11; (with_reducible refine (names_lit N true HN.out _ HNl.out Hn.out).mono ?_); rintro e w2 ⟨rfl, hE2⟩; have hEE := hEW.trans (hE1.trans hE2); have t0b := ((hE1.trans hE2).cells _ _ hz2).trans t0; have t2b := ((hE1.trans hE2).cells _ _ hz2).trans t2)
                | (go_at_call 60; (with_reducible refine (typ_lit tn true _ htl Ht.out).mono ?_); rintro e w3 ⟨rfl, rfl⟩))
              go_ret2
              exact ⟨by rw [HE.out]; rfl, hEE⟩
          · have Ht := Lib.hid ht
            have HE : Hid (fmtE l N o tn = 1) := by unfold Hid fmtE; rw [if_neg (by rw [ht]; simp)]
            clear hbad hv hn ht
            go_enter Tryz.func21, Tryz.ntmps21
            go_upto_region 1 with fail
            generalize (w.alloc (.cells (sv N.all).toArray 27)).alloc (.cells #[.int .i64 o, .int .i64 sa, .string ⟨tn.toArray⟩] 52) = W0 at hR hEW t0 t2 hz1 hz2 ⊢
            generalize w.heap.size + 1 = T at t0 t2 hz2 ⊢
            generalize hB : w.heap.size = B at hR hz1 ⊢
            have HB := Lib.hid hB
            clear hB
            go_wp2_with (first
              | (go_at_call 29; (with_reducible refine (valid_lit l true ao cap _ (Hpt.out.ext hEW) Hl.out Hv.out).mono ?_); rintro e w1 ⟨rfl, hE1⟩; have hEE := hEW.trans hE1; have t0b := (hE1.cells _ _ hz2).trans t0; have t2b := (hE1.cells _ _ hz2).trans t2; have hR1 := rangeAt_ext hR hz1 hE1)
              | (refine wpList_load_midg (by rfl) 27 _ rfl B 0 rfl (sv N.all) _ hR1 Tryz.underlying27 rfl hI ?_)
              | (go_at_call 11; (with_reducible refine (names_lit N true HN.out _ HNl.out Hn.out).mono ?_); rintro e w2 ⟨rfl, hE2⟩; have hEE := hEW.trans (hE1.trans hE2); have t0b := ((hE1.trans hE2).cells _ _ hz2).trans t0; have t2b := ((hE1.trans hE2).cells _ _ hz2).trans t2)
              | (go_at_call 60; (with_reducible refine (typ_lit tn false _ htl Ht.out).mono ?_); rintro e w3 ⟨rfl, rfl⟩))
            go_ret2
            exact ⟨by rw [HE.out]; rfl, hEE⟩
        · have HE : Hid (fmtE l N o tn = 1) := by unfold Hid fmtE; rw [if_neg (fun q => ho2 q.2.2.2.1)]
          clear hbad hv hn
          have Ht : Hid (typB tn = typB tn) := rfl
          go_enter Tryz.func21, Tryz.ntmps21
          go_upto_region 1 with fail
          generalize (w.alloc (.cells (sv N.all).toArray 27)).alloc (.cells #[.int .i64 o, .int .i64 sa, .string ⟨tn.toArray⟩] 52) = W0 at hR hEW t0 t2 hz1 hz2 ⊢
          generalize w.heap.size + 1 = T at t0 t2 hz2 ⊢
          generalize hB : w.heap.size = B at hR hz1 ⊢
          have HB := Lib.hid hB
          clear hB
          go_wp2_with (first
            | (go_at_call 29; (with_reducible refine (valid_lit l true ao cap _ (Hpt.out.ext hEW) Hl.out Hv.out).mono ?_); rintro e w1 ⟨rfl, hE1⟩; have hEE := hEW.trans hE1; have t0b := (hE1.cells _ _ hz2).trans t0; have t2b := (hE1.cells _ _ hz2).trans t2; have hR1 := rangeAt_ext hR hz1 hE1)
            | (refine wpList_load_midg (by rfl) 27 _ rfl B 0 rfl (sv N.all) _ hR1 Tryz.underlying27 rfl hI ?_)
            | (go_at_call 11; (with_reducible refine (names_lit N true HN.out _ HNl.out Hn.out).mono ?_); rintro e w2 ⟨rfl, hE2⟩; have hEE := hEW.trans (hE1.trans hE2); have t0b := ((hE1.trans hE2).cells _ _ hz2).trans t0; have t2b := ((hE1.trans hE2).cells _ _ hz2).trans t2)
            | (go_at_call 60; (with_reducible refine (typ_lit tn false _ htl Ht.out).mono ?_); rintro e w3 ⟨rfl, rfl⟩))
          go_ret2
          exact ⟨by rw [HE.out]; rfl, hEE⟩
      · have HE : Hid (fmtE l N o tn = 1) := by unfold Hid fmtE; rw [if_neg (fun q => ho1 q.2.2.1)]
        clear hbad hv hn
        have Ht : Hid (typB tn = typB tn) := rfl
        go_enter Tryz.func21, Tryz.ntmps21
        go_upto_region 1 with fail
        generalize (w.alloc (.cells (sv N.all).toArray 27)).alloc (.cells #[.int .i64 o, .int .i64 sa, .string ⟨tn.toArray⟩] 52) = W0 at hR hEW t0 t2 hz1 hz2 ⊢
        generalize w.heap.size + 1 = T at t0 t2 hz2 ⊢
        generalize hB : w.heap.size = B at hR hz1 ⊢
        have HB := Lib.hid hB
        clear hB
        go_wp2_with (first
          | (go_at_call 29; (with_reducible refine (valid_lit l true ao cap _ (Hpt.out.ext hEW) Hl.out Hv.out).mono ?_); rintro e w1 ⟨rfl, hE1⟩; have hEE := hEW.trans hE1; have t0b := (hE1.cells _ _ hz2).trans t0; have t2b := (hE1.cells _ _ hz2).trans t2; have hR1 := rangeAt_ext hR hz1 hE1)
          | (refine wpList_load_midg (by rfl) 27 _ rfl B 0 rfl (sv N.all) _ hR1 Tryz.underlying27 rfl hI ?_)
          | (go_at_call 11; (with_reducible refine (names_lit N true HN.out _ HNl.out Hn.out).mono ?_); rintro e w2 ⟨rfl, hE2⟩; have hEE := hEW.trans (hE1.trans hE2); have t0b := ((hE1.trans hE2).cells _ _ hz2).trans t0; have t2b := ((hE1.trans hE2).cells _ _ hz2).trans t2)
          | (go_at_call 60; (with_reducible refine (typ_lit tn false _ htl Ht.out).mono ?_); rintro e w3 ⟨rfl, rfl⟩))
        go_ret2
        exact ⟨by rw [HE.out]; rfl, hEE⟩
    · have Hn := Lib.hid hn
      have Ht : Hid (typB tn = typB tn) := rfl
      have HE : Hid (fmtE l N o tn = 1) := by unfold Hid fmtE; rw [if_neg (by rw [hn]; simp)]
      clear hbad hv hn
      go_enter Tryz.func21, Tryz.ntmps21
      go_upto_region 1 with fail
      generalize (w.alloc (.cells (sv N.all).toArray 27)).alloc (.cells #[.int .i64 o, .int .i64 sa, .string ⟨tn.toArray⟩] 52) = W0 at hR hEW t0 t2 hz1 hz2 ⊢
      generalize w.heap.size + 1 = T at t0 t2 hz2 ⊢
      generalize hB : w.heap.size = B at hR hz1 ⊢
      have HB := Lib.hid hB
      clear hB
      go_wp2_with (first
        | (go_at_call 29; (with_reducible refine (valid_lit l true ao cap _ (Hpt.out.ext hEW) Hl.out Hv.out).mono ?_); rintro e w1 ⟨rfl, hE1⟩; have hEE := hEW.trans hE1; have t0b := (hE1.cells _ _ hz2).trans t0; have t2b := (hE1.cells _ _ hz2).trans t2; have hR1 := rangeAt_ext hR hz1 hE1)
        | (refine wpList_load_midg (by rfl) 27 _ rfl B 0 rfl (sv N.all) _ hR1 Tryz.underlying27 rfl hI ?_)
        | (go_at_call 11; (with_reducible refine (names_lit N false HN.out _ HNl.out Hn.out).mono ?_); rintro e w2 ⟨rfl, hE2⟩; have hEE := hEW.trans (hE1.trans hE2); have t0b := ((hE1.trans hE2).cells _ _ hz2).trans t0; have t2b := ((hE1.trans hE2).cells _ _ hz2).trans t2)
        | (go_at_call 60; (with_reducible refine (typ_lit tn false _ htl Ht.out).mono ?_); rintro e w3 ⟨rfl, rfl⟩))
      go_ret2
      exact ⟨by rw [HE.out]; rfl, hEE⟩
  · have Hv := Lib.hid hv
    have Hn : Hid (nmOk N = nmOk N) := rfl
    have Ht : Hid (typB tn = typB tn) := rfl
    have HE : Hid (fmtE l N o tn = 1) := by unfold Hid fmtE; rw [if_neg (by rw [hv]; simp)]
    clear hbad hv
    go_enter Tryz.func21, Tryz.ntmps21
    go_upto_region 1 with fail
    generalize (w.alloc (.cells (sv N.all).toArray 27)).alloc (.cells #[.int .i64 o, .int .i64 sa, .string ⟨tn.toArray⟩] 52) = W0 at hR hEW t0 t2 hz1 hz2 ⊢
    generalize w.heap.size + 1 = T at t0 t2 hz2 ⊢
    generalize hB : w.heap.size = B at hR hz1 ⊢
    have HB := Lib.hid hB
    clear hB
    go_wp2_with (first
      | (go_at_call 29; (with_reducible refine (valid_lit l false ao cap _ (Hpt.out.ext hEW) Hl.out Hv.out).mono ?_); rintro e w1 ⟨rfl, hE1⟩; have hEE := hEW.trans hE1; have t0b := (hE1.cells _ _ hz2).trans t0; have t2b := (hE1.cells _ _ hz2).trans t2; have hR1 := rangeAt_ext hR hz1 hE1)
      | (refine wpList_load_midg (by rfl) 27 _ rfl B 0 rfl (sv N.all) _ hR1 Tryz.underlying27 rfl hI ?_)
      | (go_at_call 11; (with_reducible refine (names_lit N false HN.out _ HNl.out Hn.out).mono ?_); rintro e w2 ⟨rfl, hE2⟩; have hEE := hEW.trans (hE1.trans hE2); have t0b := ((hE1.trans hE2).cells _ _ hz2).trans t0; have t2b := ((hE1.trans hE2).cells _ _ hz2).trans t2)
      | (go_at_call 60; (with_reducible refine (typ_lit tn false _ htl Ht.out).mono ?_); rintro e w3 ⟨rfl, rfl⟩))
    go_ret2
    exact ⟨by rw [HE.out]; rfl, hEE⟩
theorem format_no (l : List Prt) (N : Nms) (o sa l0 : Int) (tn : List UInt8) (ao : Option Addr) (cap : Nat) (w : World) (h : PtV ao cap l w) (hl : ∀ p ∈ l, p.t.length ≤ 4000) (hN : N.ok) (hNl : ∀ s ∈ N.all, s.length ≤ 100000)
    (htl : tn.length ≤ 100000) (hbad : ¬ (validB l = true ∧ nmOk N = true ∧ -93600 < o ∧ o < 93600 ∧ typB tn = true ∧ -62135596800 ≤ l0 ∧ l0 < 253402300800)) :
    Calls Tryz.prog 21 #[.slice ao l.length cap, .agg (sv N.all).toArray, .int .i64 l0, .agg #[.int .i64 o, .int .i64 sa, .string ⟨tn.toArray⟩]] w fun e w' => ∃ z : Int, (z != 0) = true ∧ e = .returned (.tuple #[.string .empty, .int .i64 z]) ∧ Ext w w' :=
  (format_e l N o sa l0 tn ao cap w h hl hN hNl htl hbad).mono fun _ _ q => ⟨fmtE l N o tn, by unfold fmtE; split <;> decide, q.1, q.2⟩
end Go.Proofs.YticckkadmhklmaaGreatDoor
/- Opening arguments: names. -/
namespace Go.Proofs.YticckkadmhklmaaGreatDoor
open Go.ChangeShapes Go.WideShapes Go.ChangeAt Go.WideMaps Go.WideElems Go.RowKit
set_option linter.unusedVariables false

theorem c12 : Tryz.prog.cellsOf 23 = 12 := by kernel_rfl
theorem c7 : Tryz.prog.cellsOf 24 = 7 := by kernel_rfl
theorem c2 : Tryz.prog.cellsOf 25 = 2 := by kernel_rfl
theorem cN : Tryz.prog.cellsOf 27 = 40 := by kernel_rfl
theorem strs_of {H : Type} {enc : TypeId × Value → H} {W : World} {base : Nat} {sp : Nat → Bool} {hd : Bool} {fuel : Nat} {t : TypeId} {cs : List Value} {x : DataW H × List MemPlace} {n : Nat}
    (hu : Tryz.prog.underlying t = some (.array n 9)) (hc : Tryz.prog.cellsOf t = n) (h : DataW.trod enc Tryz.prog W base sp hd fuel t cs = some x) : ∃ ws : List (List UInt8), ws.length = n ∧ cs = sv ws ∧ ∀ s ∈ ws, s.length ≤ 9223372036854775807 := by
  obtain ⟨xs, m, _, _, hl, hxl, hx⟩ := DataW.trod_array hu h
  rw [hc] at hl
  have each : ∀ i, i < n → ∃ s : ByteArray, cs[i]? = some (.string s) ∧ s.size ≤ 9223372036854775807 := by
    intro i hi
    have h1 := hx i hi
    rw [cS, Nat.mul_one, List.getElem?_eq_getElem (by omega)] at h1
    obtain ⟨s, e, _, hs⟩ := DataW.trod_string Tryz.underlying9 h1
    refine ⟨s, ?_, by unfold maxLen at hs; omega⟩
    have e2 : (List.take 1 (List.drop i cs))[0]? = some (.string s) := by rw [e]; rfl
    rw [List.getElem?_take_of_lt (by omega), List.getElem?_drop] at e2
    exact e2
  haveI : Inhabited ByteArray := ⟨.empty⟩
  obtain ⟨f, hf⟩ := Go.Deep.choose_lt each
  refine ⟨(List.range n).map (fun i => (f i).data.toList), by simp, ?_, fun s hs => ?_⟩
  · apply List.ext_getElem?
    intro i
    by_cases hi : i < n
    · rw [(hf i hi).1]
      unfold sv
      simp [hi]
    · rw [List.getElem?_eq_none (by omega), List.getElem?_eq_none (by unfold sv; simp; omega)]
  · rw [List.mem_map] at hs
    obtain ⟨i, hi, rfl⟩ := hs
    have := (hf i (List.mem_range.1 hi)).2
    show (f i).data.toList.length ≤ _
    rw [Array.length_toList]
    exact this
theorem cut1 (cs : List Value) (a n : Nat) : cs.drop a = (cs.drop a).take n ++ cs.drop (a + n) := by
  rw [← List.drop_drop, List.take_append_drop]
theorem cut5 (cs : List Value) (h : cs.length = 40) : cs = (cs.drop 0).take 12 ++ ((cs.drop 12).take 12 ++ ((cs.drop 24).take 7 ++ ((cs.drop 31).take 7 ++ (cs.drop 38).take 2))) := by
  have h1 := cut1 cs 0 12
  have h2 := cut1 cs 12 12
  have h3 := cut1 cs 24 7
  have h4 := cut1 cs 31 7
  have h5 : (cs.drop 38).take 2 = cs.drop 38 := List.take_of_length_le (by rw [List.length_drop]; omega)
  rw [h5, ← h4, ← h3, ← h2, ← h1, List.drop_zero]
set_option maxRecDepth 100000 in
theorem open_names {H : Type} {enc : TypeId × Value → H} {W : World} {r : Reach} {b0 base : Nat} {sp : Nat → Bool} {hd : Bool} {v : Value} {d : DataW H} {p : List MemPlace} (hval : Value.okWide Tryz.prog W r b0 27 v) (h : DataW.Trod enc Tryz.prog W base sp hd 27 v d p) :
    ∃ N : Nms, v = .agg (sv N.all).toArray ∧ N.ok ∧ ∀ s ∈ N.all, s.length ≤ 9223372036854775807 := by
  obtain ⟨cs, rfl, _⟩ := okWide_struct Tryz.underlying27 hval
  obtain ⟨fuel, hf⟩ := h
  simp only [Value.cells] at hf
  obtain ⟨xs, n, _, _, hl, hlen, hfs⟩ := DataW.trod_struct Tryz.underlying27 hf
  match xs, hlen with
  | [y0, y1, y2, y3, y4], _ =>
    have h0 : DataW.trod enc Tryz.prog W base sp hd n 23 ((cs.toList.drop 0).take (Tryz.prog.cellsOf 23)) = some y0 := hfs 0 _ rfl
    have h1 : DataW.trod enc Tryz.prog W base sp hd n 23 ((cs.toList.drop 12).take (Tryz.prog.cellsOf 23)) = some y1 := hfs 1 _ rfl
    have h2 : DataW.trod enc Tryz.prog W base sp hd n 24 ((cs.toList.drop 24).take (Tryz.prog.cellsOf 24)) = some y2 := hfs 2 _ rfl
    have h3 : DataW.trod enc Tryz.prog W base sp hd n 24 ((cs.toList.drop 31).take (Tryz.prog.cellsOf 24)) = some y3 := hfs 3 _ rfl
    have h4 : DataW.trod enc Tryz.prog W base sp hd n 25 ((cs.toList.drop 38).take (Tryz.prog.cellsOf 25)) = some y4 := hfs 4 _ rfl
    rw [c12] at h0 h1
    rw [c7] at h2 h3
    rw [c2] at h4
    obtain ⟨a0, l0, e0, m0⟩ := strs_of Tryz.underlying23 c12 h0
    obtain ⟨a1, l1, e1, m1⟩ := strs_of Tryz.underlying23 c12 h1
    obtain ⟨a2, l2, e2, m2⟩ := strs_of Tryz.underlying24 c7 h2
    obtain ⟨a3, l3, e3, m3⟩ := strs_of Tryz.underlying24 c7 h3
    obtain ⟨a4, l4, e4, m4⟩ := strs_of Tryz.underlying25 c2 h4
    refine ⟨⟨a0, a1, a2, a3, a4⟩, ?_, ⟨l0, l1, l2, l3, l4⟩, fun s hs => ?_⟩
    · have hk := cut5 cs.toList (by rw [hl, cN])
      have e : cs.toList = sv (Nms.all ⟨a0, a1, a2, a3, a4⟩) := by
        rw [hk]
        unfold Nms.all sv
        simp only [List.map_append]
        unfold sv at e0 e1 e2 e3 e4
        rw [← e0, ← e1, ← e2, ← e3, ← e4]
      rw [← e]
    · unfold Nms.all at hs
      simp only [List.mem_append] at hs
      rcases hs with q | q | q | q | q
      · exact m0 s q
      · exact m1 s q
      · exact m2 s q
      · exact m3 s q
      · exact m4 s q
end Go.Proofs.YticckkadmhklmaaGreatDoor
