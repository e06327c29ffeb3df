/- Locales: the walks of the reference's comparison of locales: lists of categories; names. -/
import Derived.Test.YtnhdmnhfllecgaaGreatDoorQ40
import Derived.Test.YtnhdmnhfllecgaaGreatDoorQ28
import Derived.DeepKeys
namespace Go.Proofs.YtnhdmnhfllecgaaGreatDoor
set_option linter.unusedVariables false
set_option linter.unusedSimpArgs false
open Go.RowKit

set_option maxRecDepth 100000 in
set_option maxHeartbeats 1000000 in
theorem plurals_c (l : List Plu) (ao ao' : Option Addr) (cap cap' n : Nat) (w : World) (hn : l.length = n) (h : PlV ao cap l w) (h' : PlV ao' cap' l w) :
    Calls Tryz.prog 54 #[.slice ao n cap, .slice ao' n cap'] w fun e w' => e = .returned (.bool true) ∧ ∃ q, w.drewN q = w' := by
  subst hn
  have hlen := h.1
  have hlen' := h'.1
  have hcap := h.2.1
  have hcap' := h'.2.1
  unfold maxLen at hcap hcap'
  have HL := Lib.hid h.2.2
  have HL' := Lib.hid h'.2.2
  clear h h'
  have tl : ((l.length : Int) == (l.length : Int)) = true := by simp
  go_enter Tryz.func54, Tryz.ntmps54
  go_wp2_with fail
  go_loopw [5] (fun i wr => ∃ j q : Nat, j ≤ l.length ∧ i = .int .i64 (j : Int) ∧ wr = w.drewN q) (fun i _ => l.length - (intOf i).toNat)
  case atStart => exact ⟨0, 0, Nat.zero_le _, rfl, rfl⟩
  case round =>
    obtain ⟨j, q, hj, rfl, hw⟩ := hrel
    have hE : Ext w wr := by rw [hw]; exact (Ext.refl w).drewN q
    have Hw := Lib.hid hw
    clear hw
    by_cases hlt : j < l.length
    · obtain ⟨R, off, rfl, hR0, hc⟩ := HL.out (by rintro rfl; simp at hlt)
      obtain ⟨R', off', rfl, hR0', hc'⟩ := HL'.out (by rintro rfl; simp at hlt)
      obtain ⟨c0, c1⟩ := hc j hlt
      obtain ⟨k0, k1⟩ := hc' j hlt
      replace c0 := (hE.cells R _ hR0).trans c0
      replace c1 := (hE.cells R _ hR0).trans c1
      replace k0 := (hE.cells R' _ hR0').trans k0
      replace k1 := (hE.cells R' _ hR0').trans k1
      have hRr := hE.lt hR0
      have hRr' := hE.lt hR0'
      obtain ⟨p, hp⟩ : ∃ p, p = l[j] := ⟨_, rfl⟩
      rw [← hp] at c0 c1 k0 k1
      clear hp hc hc'
      obtain ⟨pc, pr⟩ := p
      simp only at c0 c1 k0 k1
      clear hE
      go_wp2_with fail
      go_quiet (fail)
      go_wp2_with fail
      go_roundw
      case rel => exact ⟨j + 1, _, by omega, by go_num, by rw [Hw.out, World.drewN_drewN]⟩
      case measure => simp [intOf]; omega
    · obtain rfl : j = l.length := by omega
      go_wp2_with fail
      go_ret
      exact ⟨rfl, q, Hw.out.symm⟩
/-- Names are equal to themselves. -/
theorem items_same {P : Program} (w : World) (d : Nat) (e : TypeId) (c : Nat) (xs : Array Value) : ∀ is : List Nat, (∀ i ∈ is, ∃ v, (part e xs (i * c)).run P w = .ok v w ∧ (Op.equalIn d e v v).run P w = .ok true w) → (Op.eqItems d e c xs xs is).run P w = .ok true w
  | [], _ => by simp [Op.eqItems]
  | i :: is, h => by
    obtain ⟨v, h1, h2⟩ := h i (by simp)
    have ih := items_same w d e c xs is (fun j hj => h j (by simp [hj]))
    simp [Op.eqItems, h1, h2, ih]
theorem flds_same {P : Program} (w : World) (d : Nat) (xs : Array Value) : ∀ fs : List Field, (∀ f ∈ fs, ∃ v, (part f.type xs f.offset).run P w = .ok v w ∧ (Op.equalIn d f.type v v).run P w = .ok true w) → (Op.eqFields d xs xs fs).run P w = .ok true w
  | [], _ => by simp [Op.eqFields]
  | f :: fs, h => by
    obtain ⟨v, h1, h2⟩ := h f (by simp)
    have ih := flds_same w d xs fs (fun j hj => h j (by simp [hj]))
    unfold Op.eqFields
    split
    · simp [h1, h2, ih]
    · exact ih
theorem cellsS : Tryz.prog.cellsOf 9 = 1 := by kernel_rfl
theorem arr_same (w : World) (d n : Nat) (t : TypeId) (hu : Tryz.prog.underlying t = some (.array n 9)) (l : List (List UInt8)) (hl : l.length = n) : (Op.equalIn (d + 2) t (.agg (sv l).toArray) (.agg (sv l).toArray)).run Tryz.prog w = .ok true w := by
  obtain ⟨i, hi⟩ := info_of_underlying (show Tryz.prog.underlying 9 = some .string from Tryz.underlying9)
  rw [run_equalIn_array w (d + 1) _ _ hu hi, cellsS]
  refine items_same w (d + 1) 9 1 _ _ (fun k hk => ?_)
  have hk2 : k < l.length := by rw [hl]; simpa using hk
  refine ⟨.string ⟨(l[k]).toArray⟩, run_part_plain w (by kernel_rfl) (by simp [sv, hk2]), ?_⟩
  rw [run_equalIn_string w d 9 _ _ Tryz.underlying9]
  simp
theorem ext_mid (A G C : List Value) : (A ++ (G ++ C)).toArray.extract A.length (A.length + G.length) = G.toArray := by
  rw [List.extract_toArray]
  congr 1
  rw [List.extract_eq_take_drop, Nat.add_sub_cancel_left, List.drop_left, List.take_left]
theorem part_arr (w : World) (t : TypeId) (n : Nat) (hu : Tryz.prog.underlying t = some (.array n 9)) (hc : Tryz.prog.cellsOf t = n) (A G C : List Value) (o : Nat) (ho : A.length = o) (hn : G.length = n) : (part t (A ++ (G ++ C)).toArray o).run Tryz.prog w = .ok (.agg G.toArray) w := by
  obtain ⟨i, hi⟩ := info_of_underlying hu
  subst ho
  have h1 : (part t (A ++ (G ++ C)).toArray A.length).run Tryz.prog w = .ok (.agg ((A ++ (G ++ C)).toArray.extract A.length (A.length + Tryz.prog.cellsOf t))) w := by
    simp [part, isAgg, run_underlying hu, run_sizeOf w hi]
  rw [h1, hc, ← hn, ext_mid]
theorem nms_flds : ((Tryz.prog.fieldsOf 26).toList.all fun f => decide ((f.type = 22 ∧ f.offset = 0) ∨ (f.type = 22 ∧ f.offset = 12) ∨ (f.type = 23 ∧ f.offset = 24) ∨ (f.type = 23 ∧ f.offset = 31) ∨ (f.type = 24 ∧ f.offset = 38))) = true := by kernel_rfl
theorem eql_nms {N : Nms} (h : N.ok) (w : World) : (Op.equal 26 (.agg (sv N.all).toArray) (.agg (sv N.all).toArray)).run Tryz.prog w = .ok true w := by
  obtain ⟨h1, h2, h3, h4, h5⟩ := h
  unfold Op.equal Op.maxDepth
  rw [show (10000 : Nat) = 9999 + 1 from rfl, run_equalIn_struct w 9999 26 _ _ (by kernel_rfl) (by kernel_rfl)]
  refine flds_same w 9999 _ _ (fun f hf => ?_)
  have hq := List.all_eq_true.1 nms_flds f hf
  have l1 : (sv N.mo).length = 12 := by simp [sv, h1]
  have l2 : (sv N.sh).length = 12 := by simp [sv, h2]
  have l3 : (sv N.da).length = 7 := by simp [sv, h3]
  have l4 : (sv N.sd).length = 7 := by simp [sv, h4]
  have l5 : (sv N.ha).length = 2 := by simp [sv, h5]
  have ea : sv N.all = sv N.mo ++ (sv N.sh ++ (sv N.da ++ (sv N.sd ++ sv N.ha))) := by simp [sv, Nms.all]
  rcases of_decide_eq_true hq with ⟨a, b⟩ | ⟨a, b⟩ | ⟨a, b⟩ | ⟨a, b⟩ | ⟨a, b⟩
  · refine ⟨.agg (sv N.mo).toArray, ?_, ?_⟩
    · rw [a, b, ea]; exact part_arr w 22 12 Tryz.underlying22 (by kernel_rfl) [] (sv N.mo) _ 0 rfl l1
    · rw [a]; exact arr_same w 9997 12 _ Tryz.underlying22 _ h1
  · refine ⟨.agg (sv N.sh).toArray, ?_, ?_⟩
    · rw [a, b, ea]; exact part_arr w 22 12 Tryz.underlying22 (by kernel_rfl) (sv N.mo) (sv N.sh) _ 12 l1 l2
    · rw [a]; exact arr_same w 9997 12 _ Tryz.underlying22 _ h2
  · refine ⟨.agg (sv N.da).toArray, ?_, ?_⟩
    · rw [a, b, ea, ← List.append_assoc]; exact part_arr w 23 7 Tryz.underlying23 (by kernel_rfl) (sv N.mo ++ sv N.sh) (sv N.da) _ 24 (by simp [l1, l2]) l3
    · rw [a]; exact arr_same w 9997 7 _ Tryz.underlying23 _ h3
  · refine ⟨.agg (sv N.sd).toArray, ?_, ?_⟩
    · rw [a, b, ea, ← List.append_assoc, ← List.append_assoc]; exact part_arr w 23 7 Tryz.underlying23 (by kernel_rfl) ((sv N.mo ++ sv N.sh) ++ sv N.da) (sv N.sd) _ 31 (by simp [l1, l2, l3]) l4
    · rw [a]; exact arr_same w 9997 7 _ Tryz.underlying23 _ h4
  · refine ⟨.agg (sv N.ha).toArray, ?_, ?_⟩
    · rw [a, b, ea, ← List.append_assoc, ← List.append_assoc, ← List.append_assoc]; have q := part_arr w 24 2 Tryz.underlying24 (by kernel_rfl) (((sv N.mo ++ sv N.sh) ++ sv N.da) ++ sv N.sd) (sv N.ha) [] 38 (by simp [l1, l2, l3, l4]) l5; rw [List.append_nil] at q; exact q
    · rw [a]; exact arr_same w 9997 2 _ Tryz.underlying24 _ h5
theorem grd_nms (x y : Operand) (a b : Array Value) (w : World) : (eqGuard .neq 26 x y (.agg a) (.agg b)).run Tryz.prog w = .ok () w := by
  have h : Tryz.prog.eqGuardType Tryz.prog.depth 26 = false := by kernel_rfl
  unfold eqGuard
  simp [h]
theorem wpList_valg {P : Program} {ops : Array Oper} {rest : List Oper} {op : Oper} {a : Act} {w : World} {Q : Exit → Act → World → Prop} {v : Value} (hw : Region.wanted op (yielded ops a.tmps) = true) (hrun : (execOp a.eval op).run P w = .ok (.value v) w)
    (h : wpList P ops Q rest (a.put op.dst v) w) : wpList P ops Q (op :: rest) a w := by
  unfold wpList
  rw [if_pos hw]
  left
  unfold Oper.wp
  rw [hrun]
  exact h
theorem neq_nms {N : Nms} (h : N.ok) {o : Oper} {a : Act} {w : World} {x y : Operand} {t2 : TypeId} (hop : o.op = .binOp .neq 26 x y t2) (hx : a.eval x = .agg (sv N.all).toArray) (hy : a.eval y = .agg (sv N.all).toArray) : (execOp a.eval o).run Tryz.prog w = .ok (.value (.bool false)) w := by
  unfold execOp
  simp only [hop, hx, hy]
  simp [Result.andThen, grd_nms, binOp, eql_nms h]
end Go.Proofs.YtnhdmnhfllecgaaGreatDoor
/- Locales: the walk of the reference's comparison of locales. -/
namespace Go.Proofs.YtnhdmnhfllecgaaGreatDoor
set_option linter.unusedVariables false
set_option linter.unusedSimpArgs false
open Go.RowKit

/-- Two locales of equal contents. -/
structure SamL (L M : Loc) : Prop where
  nm : L.nm = M.nm
  N : L.N = M.N
  P : L.P = M.P
  O : L.O = M.O
  U : L.U.map Uni.sf = M.U.map Uni.sf
  pt : L.pt = M.pt
theorem Dat.sam {L M : Loc} {D : LocD} (h : Dat L D) (k : Dat M D) : SamL L M := ⟨h.nm.trans k.nm.symm, h.N.trans k.N.symm, h.P.trans k.P.symm, h.O.trans k.O.symm, h.U.trans k.U.symm, h.pt.trans k.pt.symm⟩
theorem SamL.at_ {L M : Loc} (h : SamL L M) (i : Nat) (hi : i < L.U.length) (hj : i < M.U.length) : (L.U[i]).s = (M.U[i]).s ∧ (L.U[i]).f = (M.U[i]).f := by
  have h1 : (L.U.map Uni.sf)[i]? = (M.U.map Uni.sf)[i]? := by rw [h.U]
  rw [List.getElem?_map, List.getElem?_map, List.getElem?_eq_getElem hi, List.getElem?_eq_getElem hj] at h1
  simp only [Option.map_some, Option.some.injEq, Uni.sf, Prod.mk.injEq] at h1
  exact h1
theorem SamL.len {L M : Loc} (h : SamL L M) : L.U.length = M.U.length := by
  have := congrArg List.length h.U
  simpa using this
set_option maxRecDepth 100000 in
set_option maxHeartbeats 4000000 in
theorem same_c (L M : Loc) (w : World) (h : LcV L w) (h' : LcV M w) (hs : SamL L M) :
    Calls Tryz.prog 13 #[.agg L.vals.toArray, .agg M.vals.toArray] w fun e w' => e = .returned (.bool true) ∧ Ext w w' := by
  obtain ⟨nm, N, P, O, U, pt⟩ := hs
  have hlen : L.U.length = M.U.length := (SamL.mk nm N P O U pt).len
  have Hat := Lib.hid (SamL.at_ (SamL.mk nm N P O U pt))
  have hI1 := loc_size h.1
  have hI2 := loc_size h'.1
  have hIN := names_size h.1
  have HNo := Lib.hid h.1
  have hE1 : Ext w (w.alloc (.cells L.vals.toArray 30)) := (Ext.refl w).alloc _
  have hE2 : Ext (w.alloc (.cells L.vals.toArray 30)) ((w.alloc (.cells L.vals.toArray 30)).alloc (.cells M.vals.toArray 30)) := (Ext.refl _).alloc _
  have hB1 := (LcB.new L w 30).ext hE2
  have hB2 := LcB.new M (w.alloc (.cells L.vals.toArray 30)) 30
  have hz : (w.alloc (.cells L.vals.toArray 30)).heap.size = w.heap.size + 1 := by simp
  rw [hz] at hB2
  have HE := Lib.hid (hE1.trans hE2)
  have HV := Lib.hid (h.ext (hE1.trans hE2))
  have HV' := Lib.hid (h'.ext (hE1.trans hE2))
  go_enter Tryz.func13, Tryz.ntmps13
  go_upto_region 1 with fail
  generalize (w.alloc (.cells L.vals.toArray 30)).alloc (.cells M.vals.toArray 30) = W at *
  clear hE1 hE2 hz
  obtain ⟨B2, hB2e⟩ : ∃ B, B = w.heap.size + 1 := ⟨_, rfl⟩
  obtain ⟨B1, hB1e⟩ : ∃ B, B = w.heap.size := ⟨_, rfl⟩
  rw [← hB2e] at hB2
  rw [← hB1e] at hB1
  rw [← hB2e, ← hB1e]
  clear hB2e hB1e h h'
  obtain ⟨g0, g1, g2, g3, g4⟩ := hB1.cells HV.out.1
  obtain ⟨k0, k1, k2, k3, k4⟩ := hB2.cells HV'.out.1
  have hR1 := hB1.names HV.out.1
  have hR2 := hB2.names HV'.out.1
  rw [← N] at hR2
  rw [← nm] at k0
  rw [← pt] at k4
  rw [← P] at k1
  rw [← O] at k2
  obtain ⟨n, hnL⟩ : ∃ n, L.U.length = n := ⟨_, rfl⟩
  have hnM : M.U.length = n := by rw [← hlen]; exact hnL
  rw [hnL] at g3
  rw [hnM] at k3
  have hz1 := hB1.1
  have hz2 := hB2.1
  have HVP := Lib.hid HV.out.2.1
  have HVO := Lib.hid HV.out.2.2.1
  have HVP' : Hid (PlV M.pa M.pc L.P W) := by rw [Hid, P]; exact HV'.out.2.1
  have HVO' : Hid (PlV M.oa M.oc L.O W) := by rw [Hid, O]; exact HV'.out.2.2.1
  have tl : ((n : Int) == (n : Int)) = true := by simp
  have hul := HV.out.2.2.2.1
  have huc := HV.out.2.2.2.2.1
  have hul' := HV'.out.2.2.2.1
  have huc' := HV'.out.2.2.2.2.1
  rw [hnL] at hul
  rw [hnM] at hul'
  unfold maxLen at huc huc'
  have HU := Lib.hid HV.out.2.2.2.2.2
  have HU' := Lib.hid HV'.out.2.2.2.2.2
  have HnL := Lib.hid hnL
  have HnM := Lib.hid hnM
  clear hB1 hB2 nm N P O U pt hlen hnL hnM
  go_wp2_with (first
    | (refine load_midg (by rfl) 26 _ rfl B1 1 rfl (sv L.N.all) _ hR1 Tryz.underlying26 rfl hIN ?_)
    | (refine load_midg (by rfl) 26 _ rfl B2 1 rfl (sv L.N.all) _ hR2 Tryz.underlying26 rfl hIN ?_)
    | (refine wpList_valg (op := ⟨some 16, .binOp .neq 26 _ _ _, _, _, _, _⟩) (by rfl) (neq_nms HNo.out rfl rfl rfl) ?_)
    | (go_at_call 54; (with_reducible refine (plurals_c L.P _ _ _ _ _ _ rfl HVP.out HVP'.out).mono ?_); rintro e w1 ⟨rfl, q1, rfl⟩)
    | (go_at_call 54; (with_reducible refine (plurals_c L.O _ _ _ _ _ _ rfl (HVO.out.ext ((Ext.refl _).drewN _)) (HVO'.out.ext ((Ext.refl _).drewN _))).mono ?_); rintro e w2 ⟨rfl, q2, rfl⟩))
  go_loopw [5] (fun i wr => ∃ j q : Nat, j ≤ n ∧ i = .int .i64 (j : Int) ∧ Hid (wr = W.drewN q)) (fun i _ => n - (intOf i).toNat)
  case atStart => exact ⟨0, _, Nat.zero_le _, rfl, rfl⟩
  case round =>
    obtain ⟨j, q, hj, rfl, Hw⟩ := hrel
    have hE : Ext W wr := by rw [Hw.out]; exact (Ext.refl W).drewN q
    have g3r := (hE.cells B1 43 hz1).trans g3
    have k3r := (hE.cells B2 43 hz2).trans k3
    have hz1r := hE.lt hz1
    have hz2r := hE.lt hz2
    by_cases hlt : j < n
    · have hjL : j < L.U.length := by rw [HnL.out]; exact hlt
      have hjM : j < M.U.length := by rw [HnM.out]; exact hlt
      obtain ⟨R, off, hua, hzR, hcu⟩ := HU.out.1 (by intro e; rw [e] at hjL; simp at hjL)
      obtain ⟨R', off', hua', hzR', hcu'⟩ := HU'.out.1 (by intro e; rw [e] at hjM; simp at hjM)
      obtain ⟨c0, c1⟩ := hcu j hjL
      obtain ⟨d0, d1⟩ := hcu' j hjM
      replace c0 := (hE.cells R _ hzR).trans c0
      replace c1 := (hE.cells R _ hzR).trans c1
      replace d0 := (hE.cells R' _ hzR').trans d0
      replace d1 := (hE.cells R' _ hzR').trans d1
      have hRr := hE.lt hzR
      have hRr' := hE.lt hzR'
      have HF := Lib.hid ((HU.out.2 _ (List.getElem_mem hjL)).ext hE)
      have HF' := Lib.hid ((HU'.out.2 _ (List.getElem_mem hjM)).ext hE)
      obtain ⟨e1, e2⟩ := Hat.out j hjL hjM
      rw [hua] at g3r
      rw [hua'] at k3r
      obtain ⟨u, hu⟩ : ∃ u, u = L.U[j] := ⟨_, rfl⟩
      obtain ⟨v, hv⟩ : ∃ v, v = M.U[j] := ⟨_, rfl⟩
      rw [← hu] at c0 c1 HF e1 e2
      rw [← hv] at d0 d1 HF' e1 e2
      clear hu hv hcu hcu' hua hua'
      obtain ⟨us, uao, ucap, uf⟩ := u
      obtain ⟨vs, vao, vcap, vf⟩ := v
      simp only at c0 c1 d0 d1 HF HF' e1 e2
      subst e1 e2
      have ts : (us == us) = true := by simp
      have HPl : Hid (∀ k, Calls Tryz.prog 54 #[.slice uao uf.length ucap, .slice vao uf.length vcap] (wr.drewN k) fun e w' => e = .returned (.bool true) ∧ ∃ q, (wr.drewN k).drewN q = w') := fun k => plurals_c uf _ _ _ _ _ _ rfl (HF.out.ext ((Ext.refl _).drewN _)) (HF'.out.ext ((Ext.refl _).drewN _))
      clear hE
      go_wp2_with fail
      go_quiet ((go_at_call 54; exact quiet_of0 (HPl.out _)))
      go_wp2_with fail
      go_roundw
      case rel => exact ⟨j + 1, _, by omega, by go_num, by rw [Hid, Hw.out, World.drewN_drewN]⟩
      case measure => simp [intOf]; omega
    · obtain rfl : j = n := by omega
      go_wp2_with fail
      go_ret
      exact ⟨rfl, HE.out.trans hE⟩
end Go.Proofs.YtnhdmnhfllecgaaGreatDoor
/- Locales: stores into new variables, of a locale and a place. -/
namespace Go.Proofs.YtnhdmnhfllecgaaGreatDoor
set_option linter.unusedVariables false
set_option linter.unusedSimpArgs false
open Go.RowKit

/-- A store into a variable of its own: what is known behind it. -/
theorem wpList_store_gen {P : Program} {ops : Array Oper} {rest : List Oper} {op : Oper} {a : Act} {w : World} {Q : Exit → Act → World → Prop} (hgd : op.guard = none) (ty : TypeId) (x y : Operand) (ho : op.op = .store ty x y)
    (B : Nat) (vs : List Value) (hx : a.eval x = .pointer (some ⟨B, 0, none⟩)) (hy : a.eval y = .agg vs.toArray) (hB : B < w.heap.size)
    (ht : w.there B 0 vs.length) (hi : (P.info? ty).map (·.size) = some vs.length) (h1 : vs.toArray.all (·.oneCell') = true)
    (h : ∀ W, Frm (fun k => k = B) w W → B < W.heap.size → W.rangeAt B 0 vs → wpList P ops Q rest (a.put op.dst undef) W) : wpList P ops Q (op :: rest) a w := by
  refine wpList_store_mid hgd ty x y ho B 0 vs.toArray hx hy (by simpa using ht) (by simpa using hi) h1 ?_
  have hf := frm_sets (S := fun k => k = B) w B vs 0 rfl
  obtain ⟨r1, r2⟩ := range_set w B vs hB ht
  exact h _ hf r1 r2
theorem new_there (w : World) (C C' : Array Value) (t t' : TypeId) : ((w.alloc (.cells C t)).alloc (.cells C' t')).there w.heap.size 0 C.size ∧ ((w.alloc (.cells C t)).alloc (.cells C' t')).there (w.heap.size + 1) 0 C'.size ∧ Ext w ((w.alloc (.cells C t)).alloc (.cells C' t')) ∧ ((w.alloc (.cells C t)).alloc (.cells C' t')).heap.size = w.heap.size + 2 := by
  have hz : (w.alloc (.cells C t)).heap.size = w.heap.size + 1 := by simp
  refine ⟨there_frm (thr_new w C t _ rfl) (by simp) (S := fun _ => False) (Frm.of_ext ((Ext.refl _).alloc _)) id, ?_, ((Ext.refl w).alloc _).alloc _, by simp⟩
  have := thr_new (w.alloc (.cells C t)) C' t' _ rfl
  rwa [hz] at this
/-- A locale and a place are stored into new variables. -/
theorem wpList_store_loc {ops : Array Oper} {rest : List Oper} {op : Oper} {a : Act} {w : World} {Q : Exit → Act → World → Prop} {C C' : Array Value} {x y : Operand} (hgd : op.guard = none) (ho : op.op = .store 30 x y)
    (vs : List Value) (hx : a.eval x = .pointer (some ⟨w.heap.size, 0, none⟩)) (hy : a.eval y = .agg vs.toArray) (hC : C.size = 45) (hC' : C'.size = 2) (hv : vs.length = 45) (h1 : ∀ v ∈ vs, v.oneCell' = true)
    (h : ∀ W, Ext w W → w.heap.size + 1 < W.heap.size → W.rangeAt w.heap.size 0 vs → W.there (w.heap.size + 1) 0 2 → wpList Tryz.prog ops Q rest (a.put op.dst undef) W) :
    wpList Tryz.prog ops Q (op :: rest) a ((w.alloc (.cells C 30)).alloc (.cells C' 39)) := by
  obtain ⟨t1, t2, t3, t4⟩ := new_there w C C' 30 39
  refine wpList_store_gen hgd 30 x y ho w.heap.size vs hx hy (by omega) (by rw [hv, ← hC]; exact t1) (by rw [hv]; kernel_rfl) (all_oneCell_toArray h1) ?_
  intro W hF hl hr
  have hs := hF.size
  refine h W (ext_frm t3 hF (fun k e => by omega)) (by omega) hr ?_
  rw [← hC']
  exact there_frm t2 (by omega) hF (fun e => by omega)
theorem wpList_store_pos {ops : Array Oper} {rest : List Oper} {op : Oper} {a : Act} {w : World} {Q : Exit → Act → World → Prop} {x y : Operand} (hgd : op.guard = none) (ho : op.op = .store 39 x y)
    (w3 : World) (B : Nat) (p q : Int) (vs : List Value) (hx : a.eval x = .pointer (some ⟨B + 1, 0, none⟩)) (hy : a.eval y = .agg #[.int .i64 p, .int .i64 q]) (hE : Ext w3 w) (h3 : w3.heap.size = B) (hl : B + 1 < w.heap.size) (hr : w.rangeAt B 0 vs) (ht : w.there (B + 1) 0 2)
    (h : ∀ W, Ext w3 W → B + 1 < W.heap.size → W.rangeAt B 0 vs → W.cell? ⟨B + 1, 0, none⟩ = some (.int .i64 p) → W.cell? ⟨B + 1, 1, none⟩ = some (.int .i64 q) → wpList Tryz.prog ops Q rest (a.put op.dst undef) W) :
    wpList Tryz.prog ops Q (op :: rest) a w := by
  refine wpList_store_gen hgd 39 x y ho (B + 1) [.int .i64 p, .int .i64 q] hx hy hl ht (by kernel_rfl) (pos_one p q) ?_
  intro W hF hl2 hr2
  refine h W (ext_frm hE hF (fun k e => by omega)) hl2 (range_frm ⟨by omega, hr⟩ hF (fun e => by omega)).2 (hr2 0 _ rfl) (hr2 1 _ rfl)
theorem zeroV_len : LocD.zero.loc.vals.length = 45 := by decide
theorem lines_in {s : List UInt8} {k : Nat} (h : s.length ≤ k) : ∀ a ∈ spl 10 s, a.length ≤ k := fun a ha => Nat.le_trans (spl_len 10 s a ha) h
end Go.Proofs.YtnhdmnhfllecgaaGreatDoor
/- A region that draws its order, whose operations read, or make memory by calls, some of them behind guards that all hold: walked once. Plain law over any program. -/
namespace Go.Proofs.YtnhdmnhfllecgaaGreatDoor
set_option linter.unusedVariables false
set_option linter.unusedSimpArgs false
open Go

/-- As growChk, but that a guard may stand before an operation which waits for it. -/
def growChkG (md : Region.Mode) (ops : Array Oper) (n m : Nat) (d : Nat → Nat) : Bool :=
  (List.range n).all (fun i => (gdeps md ops i).all (fun j => decide (j < i)) && ((ops[i]?).map fun o => decide (o.dst = some (d i)) && (match o.guard with | none => true | some g => (gdeps md ops i).contains g.1)).getD false) &&
  (List.range m).all (fun t => (List.range n).all fun j => (gdeps md ops (n + t)).any fun k => greach md ops n k j) && decide (n + m = ops.size)
/-- What a guard asks is so. -/
def GuardOk (ops : Array Oper) (R : Nat → Value → World → Prop) (i : Nat) : Prop := ∀ j b, ((ops[i]?).bind (·.guard)) = some (j, b) → ∀ v w, R j v w → v = .bool b
theorem grow_goG {P : Program} {md : Region.Mode} {ops : Array Oper} {Q : Exit → Act → World → Prop} (n m : Nat) (d : Nat → Nat) (R : Nat → Value → World → Prop) (a0 : Act) (V : World)
    (hc : growChkG md ops n m d = true) (hst : ∀ i v w w', R i v w → Ext w w' → R i v w') (hinj : ∀ i j, i < n → j < n → d i = d j → i = j) (hds : ∀ i, i < n → d i < a0.tmps.size)
    (hgu : ∀ i, i < n → GuardOk ops R i)
    (hstep : ∀ i, i < n → GStep P md ops Q n d R a0 V i)
    (hend : ∀ (vals : Nat → Value) (w : World), Ext V w → (∀ i, i < n → R i (vals i) w) → wpAny P md ops Q m (Array.replicate n true ++ Array.replicate m false) (putAll d vals n a0) w) :
    ∀ (c : Nat) (todo : List Nat) (listed : Array Bool) (a : Act) (w : World), todo.length = c → GInv md ops n m d R a0 V todo listed a w → wpAny P md ops Q (c + m) listed a w := by
  simp only [growChkG, Bool.and_eq_true, List.all_eq_true, List.mem_range, List.any_eq_true, decide_eq_true_eq] at hc
  obtain ⟨⟨hc1, hc2⟩, hsz⟩ := hc
  intro c
  induction c with
  | zero =>
    intro todo listed a w ht hI
    obtain rfl : todo = [] := List.length_eq_zero_iff.1 ht
    have hl : listed = Array.replicate n true ++ Array.replicate m false := by
      apply Array.ext
      · simp [hI.size]
      · intro i h1 h2
        have e : listed[i] = listed.getD i true := by simp [Array.getD, h1]
        rw [e]
        by_cases q : i < n
        · rw [(hI.mem i q).2 (by simp), Array.getElem_append_left (by simpa using q)]
          simp
        · rw [Array.getElem_append_right (by simpa using q)]
          simp only [Array.getElem_replicate]
          cases e : listed.getD i true with
          | false => rfl
          | true =>
            have := hI.tail i (by omega) e
            rw [hI.size] at h1
            omega
    have ha : a = putAll d (fun i => a.eval (.tmp (d i))) n a0 := by
      obtain ⟨p1, p2, p3⟩ := putAll_spec d a a0 hI.asz n hds
      obtain ⟨ts, df⟩ := a
      have e1 : ts = (putAll d (fun i => (⟨ts, df⟩ : Act).eval (.tmp (d i))) n a0).tmps := by
        apply Array.ext_getElem?
        intro k
        rw [p3 k]
        by_cases q : ∃ j, j < n ∧ d j = k
        · rw [if_pos q]
        · rw [if_neg q]
          exact hI.frame k (fun j hj e => q ⟨j, hj, e⟩)
      have e2 : df = (putAll d (fun i => (⟨ts, df⟩ : Act).eval (.tmp (d i))) n a0).defers := by rw [p1]; exact hI.dfr
      generalize putAll d (fun i => (⟨ts, df⟩ : Act).eval (.tmp (d i))) n a0 = b at e1 e2
      obtain ⟨bt, bd⟩ := b
      simp only at e1 e2
      rw [e1, e2]
    have hw := hend (fun i => a.eval (.tmp (d i))) w hI.ext (fun i hi => hI.facts i hi (by simp))
    rw [Nat.zero_add, hl]
    rw [← ha] at hw
    exact hw
  | succ c ih =>
    intro todo listed a w ht hI
    rw [show c + 1 + m = (c + m) + 1 by omega]
    have hLT : ∀ i, i < n → i < listed.size := fun i hi => by rw [hI.size]; omega
    refine ⟨fun h0 => ?_, fun i hi => ?_⟩
    · exfalso
      obtain ⟨i, hi, hmin⟩ := least_of todo (by intro e; rw [e] at ht; cases ht)
      have hin := hI.lt i hi
      have : i ∈ Region.ready md ops listed := by
        rw [mem_ready]
        obtain ⟨hdep, hop⟩ := hc1 i hin
        cases ho : ops[i]? with
        | none => rw [ho] at hop; cases hop
        | some o =>
          refine ⟨?_, o, rfl, fun e he hb => ?_⟩
          · cases e : listed.getD i true with
            | false => rfl
            | true => exact absurd hi ((hI.mem i hin).1 e)
          · have hj : e.on < i := hdep e.on ((mem_gdeps ho).2 ⟨e, he, hb, rfl⟩)
            have hjn : e.on < n := by omega
            rw [getD_in (hLT _ hjn) false true]
            exact (hI.mem _ hjn).2 (fun q => by have := hmin _ q; omega)
      rw [h0] at this
      cases this
    · obtain ⟨hun, o, ho, hall⟩ := mem_ready.1 hi
      have hio : i < ops.size := (Array.getElem?_eq_some_iff.1 ho).1
      have hin : i < n := by
        rcases Nat.lt_or_ge i n with q | q
        · exact q
        · exfalso
          obtain ⟨x, hx⟩ : ∃ x, x ∈ todo := by
            cases todo with
            | nil => cases ht
            | cons x r => exact ⟨x, by simp⟩
          have hxn := hI.lt x hx
          obtain ⟨k, hk, hr⟩ := hc2 (i - n) (by omega) x hxn
          rw [show n + (i - n) = i by omega] at hk
          obtain ⟨e, he, hb, rfl⟩ := (mem_gdeps ho).1 hk
          have h1 := greach_down hI.down _ _ _ hr (hall e he hb)
          rw [getD_in (hLT x hxn) false true] at h1
          exact (hI.mem x hxn).1 h1 hx
      obtain ⟨hdep, hop⟩ := hc1 i hin
      rw [ho] at hop
      simp only [Option.map_some, Option.getD_some, Bool.and_eq_true, decide_eq_true_eq] at hop
      obtain ⟨hdst, hgd⟩ := hop
      have hfacts : ∀ j, j ∈ gdeps md ops i → R j (a.eval (.tmp (d j))) w := fun j hj => by
        have hjn : j < n := by have := hdep j hj; omega
        refine hI.facts j hjn ?_
        obtain ⟨e, he, hb, rfl⟩ := (mem_gdeps ho).1 hj
        have h1 := hall e he hb
        rw [getD_in (hLT _ hjn) false true] at h1
        exact (hI.mem _ hjn).1 h1
      have hwant : Region.wanted o (yielded ops a.tmps) = true := by
        cases hgq : o.guard with
        | none => simp [Region.wanted, hgq]
        | some g =>
          obtain ⟨j, b⟩ := g
          rw [hgq] at hgd
          have hj : j ∈ gdeps md ops i := by simpa using hgd
          have hjn : j < n := by have := hdep j hj; omega
          have hv := hgu i hin j b (by rw [ho]; exact hgq) _ _ (hfacts j hj)
          obtain ⟨_, hopj⟩ := hc1 j hjn
          cases hoj : ops[j]? with
          | none => rw [hoj] at hopj; cases hopj
          | some oj =>
            rw [hoj] at hopj
            simp only [Option.map_some, Option.getD_some, Bool.and_eq_true, decide_eq_true_eq] at hopj
            have hdj : d j < a.tmps.size := by rw [hI.asz]; exact hds j hjn
            have hy : yielded ops a.tmps j = some b := by
              unfold yielded
              rw [hoj]
              simp only [Option.bind_some, hopj.1]
              have : a.tmps[d j]? = some (.bool b) := by
                rw [← hv]; simp [Act.eval, hdj]
              rw [this]
            simp [Region.wanted, hgq, hy]
      have hit : i ∈ todo := Classical.byContradiction fun q => by
        rw [(hI.mem i hin).2 q] at hun; cases hun
      unfold wpOp
      rw [ho]
      simp only [hwant, if_true]
      left
      have hs := hstep i hin a w hI.ext (fun k hk => eval_of_get (hI.frame k hk)) (fun j hj => by
        have hj : j ∈ gdeps md ops i := by simpa using hj
        have hjn : j < n := by have := hdep j hj; omega
        refine hI.facts j hjn ?_
        obtain ⟨e, he, hb, rfl⟩ := (mem_gdeps ho).1 hj
        have h1 := hall e he hb
        rw [getD_in (hLT _ hjn) false true] at h1
        exact (hI.mem _ hjn).1 h1) (wpAny P md ops Q (c + m) (listed.setIfInBounds i true)) (fun v w' hR hE => ?_)
      · rw [ho] at hs
        exact hs
      · refine ih (todo.filter (fun y => y != i)) _ _ _ ?_ ?_
        · have h1 : todo.filter (fun y => y != i) = todo.erase i := by rw [hI.nd.erase_eq_filter]
          rw [h1, List.length_erase_of_mem hit, ht]; rfl
        · have hset : ∀ j, j ≠ i → ∀ b, (listed.setIfInBounds i true).getD j b = listed.getD j b := fun j hj b => getD_set_ne b (Ne.symm hj)
          have hsi : ∀ b, (listed.setIfInBounds i true).getD i b = true := fun b => by
            have := hLT i hin
            simp [Array.getD, this]
          have hdi := hds i hin
          have hget : ∀ k, (a.put (some (d i)) v).tmps[k]? = if d i = k then some v else a.tmps[k]? := fun k => by
            simp only [Act.put, Array.getElem?_setIfInBounds]
            by_cases e : d i = k
            · rw [if_pos e, if_pos e, if_pos (by rw [hI.asz]; exact hdi)]
            · rw [if_neg e, if_neg e]
          refine ⟨by simpa using hI.size, ?_, hI.nd.filter _, ?_, ?_, ?_, by simpa [Act.put] using hI.asz, hI.dfr, ?_, ?_, hI.ext.trans hE⟩
          · intro j hj h1
            rw [hset j (by omega)] at h1
            exact hI.tail j hj h1
          · intro j hj; exact hI.lt j (List.mem_filter.1 hj).1
          · intro j hj
            by_cases e : j = i
            · subst e
              rw [hsi]; simp
            · rw [hset j e, hI.mem j hj, List.mem_filter]
              simp [e]
          · intro j hj k hk
            by_cases e : j = i
            · subst e
              obtain ⟨e, he, hb, rfl⟩ := (mem_gdeps ho).1 hk
              exact getD_set_true (hall e he hb)
            · rw [hset j e] at hj
              exact getD_set_true (hI.down j hj k hk)
          · intro k hk
            rw [hget, if_neg (hk i hin)]
            exact hI.frame k hk
          · intro j hj hjt
            have ev : (a.put (some (d i)) v).eval (.tmp (d j)) = if j = i then v else a.eval (.tmp (d j)) := by
              simp only [Act.eval, Array.getD_eq_getD_getElem?, hget]
              by_cases e : j = i
              · rw [if_pos e, if_pos (by rw [e])]; rfl
              · rw [if_neg e, if_neg (fun q => e (hinj i j hin hj q).symm)]
            rw [ev]
            by_cases e : j = i
            · rw [if_pos e, e]; exact hR
            · rw [if_neg e]
              exact hst _ _ _ _ (hI.facts j hj (fun q => hjt (List.mem_filter.2 ⟨q, by simpa using e⟩))) hE
/-- The law: ds: where the first operations leave their values; Rs: what is known of these. -/
theorem wp_region_growG {P : Program} {id : Nat} {Q : Exit → Act → World → Prop} {a0 : Act} {w : World} {l : List Oper} (ds : List Nat) (Rs : List (Value → World → Prop)) (m : Nat)
    (hm : P.follows .mixedOrders = true) (hc : growChkG .any l.toArray ds.length m (fun i => ds.getD i 0) = true) (hn : nodupB ds = true) (hz : ds.all (fun x => decide (x < a0.tmps.size)) = true)
    (hst : ∀ R ∈ Rs, ∀ v w w', R v w → Ext w w' → R v w')
    (hgu : AllIdx (GuardOk l.toArray (fun i => Rs.getD i (fun _ _ => True))) 0 ds.length)
    (hstep : AllIdx (GStep P .any l.toArray Q ds.length (fun i => ds.getD i 0) (fun i => Rs.getD i (fun _ _ => True)) a0 w) 0 ds.length)
    (hend : ∀ (vals : Nat → Value) (w' : World), Ext w w' → AllIdx (fun i => Rs.getD i (fun _ _ => True) (vals i) w') 0 ds.length → wpAny P .any l.toArray Q m (Array.replicate ds.length true ++ Array.replicate m false) (putF (fun i => ds.getD i 0) vals ds.length 0 a0) w') :
    (Code.region id l.toArray true).wp P Q a0 w := by
  refine wp_region_any hm ?_
  have hsz : ds.length + m = l.toArray.size := by
    have := hc
    simp only [growChkG, Bool.and_eq_true, decide_eq_true_eq] at this
    exact this.2
  rw [← hsz]
  have hall : ∀ (p : Nat → Prop) (k i : Nat), (∀ j, i ≤ j → j < i + k → p j) → AllIdx p i k := by
    intro p k
    induction k with
    | zero => intro i _; trivial
    | succ k ih => intro i h; exact ⟨h i (Nat.le_refl _) (by omega), ih (i + 1) (fun j h1 h2 => h j (by omega) (by omega))⟩
  refine grow_goG ds.length m (fun i => ds.getD i 0) (fun i => Rs.getD i (fun _ _ => True)) a0 w hc ?_ (fun i j hi hj e => nodupB_inj ds hn i j hi hj e) ?_ (fun i hi => hgu.out _ _ i (Nat.zero_le _) (by omega)) (fun i hi => hstep.out _ _ i (Nat.zero_le _) (by omega)) (fun vals w' hE hR => by rw [putAll_F]; exact hend vals w' hE (hall _ _ _ (fun j _ hj => hR j (by omega)))) ds.length (List.range ds.length) _ _ _ (by simp) ?_
  · intro i v w w' h hE
    simp only [List.getD] at h ⊢
    cases e : Rs[i]? with
    | none => trivial
    | some R =>
      rw [e] at h
      exact hst R (List.mem_of_getElem? e) v w w' h hE
  · intro i hi
    have := List.all_eq_true.1 hz _ (List.getElem_mem hi)
    simpa [List.getD, hi] using this
  · refine ⟨by simp, ?_, List.nodup_range, fun i hi => by simpa using hi, ?_, ?_, rfl, rfl, fun _ _ => rfl, ?_, (Ext.refl w).drew⟩
    · intro i hi h
      rcases Nat.lt_or_ge i (ds.length + m) with q | q
      · exfalso
        simp [Array.getD, q] at h
      · exact q
    · intro i hi
      have : i < ds.length + m := by omega
      simp [Array.getD, this, hi]
    · intro i hi
      exfalso
      by_cases q : i < ds.length + m <;> simp [Array.getD, q] at hi
    · intro i hi hni
      exact absurd (List.mem_range.2 hi) hni
end Go.Proofs.YtnhdmnhfllecgaaGreatDoor
