/- Recurrence rules: the reference's Days. -/
import Derived.Test.YtgndogpgfgliaaaGreatDoorQ34
import Derived.Test.YtgndogpgfgliaaaGreatDoorQ25
import Derived.Test.YtgndogpgfgliaaaGreatDoorQ14
import Derived.Test.YtgndogpgfgliaaaGreatDoorQ31
import Derived.Test.YtgndogpgfgliaaaGreatDoorQ00
import Derived.Test.YtgndogpgfgliaaaGreatDoorQ07
import Derived.Laws.IdiomStrings
namespace Go.Proofs.YtgndogpgfgliaaaGreatDoor
set_option linter.unusedVariables false
set_option linter.unnecessarySimpa false
set_option linter.unusedSimpArgs false
open Go.RowKit Go.Maps

def RDaysR (s : List UInt8) (w : World) (e : Ending) (w' : World) : Prop :=
  match daysZ s with
  | some l => ∃ ao cap, e = .returned (.tuple #[.slice ao l.length cap, .bool true]) ∧ OsV ao cap l w' ∧ (∀ R o m, ao = some ⟨R, o, m⟩ → w.heap.size ≤ R) ∧ Ext w w'
  | none => e = .returned (.tuple #[.slice none 0 0, .bool false]) ∧ Ext w w'
def WdS (x : Value) (w : World) : Prop := ∃ H, x = .slice (some ⟨H, 0, none⟩) 7 7 ∧ RdS wkW H 0 w
theorem WdS.ext {x : Value} {w w' : World} (h : WdS x w) (hE : Ext w w') : WdS x w' := by
  obtain ⟨H, h1, h2⟩ := h
  exact ⟨H, h1, h2.ext hE⟩
/-- A new weekday with a number. -/
def AlO (b : Nat) (x : Value) (w : World) : Prop := ∃ B, x = .pointer (some ⟨B, 0, none⟩) ∧ b ≤ B ∧ B < w.heap.size ∧ ∀ k, k < 2 → w.cell? ⟨B, k, none⟩ = some (.int .i64 0) ∧ w.frozen? ⟨B, k, none⟩ = false
theorem AlO.ext {b : Nat} {x : Value} {w w' : World} (h : AlO b x w) (hE : Ext w w') : AlO b x w' := by
  obtain ⟨B, h1, h2, h3, h4⟩ := h
  exact ⟨B, h1, h2, hE.lt h3, fun k hk => ⟨(hE.cells _ _ h3).trans (h4 k hk).1, (hE.frozens _ _ h3).trans (h4 k hk).2⟩⟩
theorem AlO.new {b : Nat} {w : World} (h : b ≤ w.heap.size) : AlO b (.pointer (some ⟨w.heap.size, 0, none⟩)) (w.alloc (.cells #[.int .i64 0, .int .i64 0] 48)) := by
  refine ⟨w.heap.size, rfl, h, by simp, fun k hk => ⟨?_, by rw [World.frozen?_alloc_new]⟩⟩
  rw [World.cell?_alloc_new]
  rcases (show k = 0 ∨ k = 1 by omega) with rfl | rfl <;> rfl
theorem yr_slf {P : Program} {o : Oper} {a : Act} {w : World} {t : TypeId} {x y : Operand} {u z v : Value} (hop : o.op = .slice t x (some y) none none) (hx : a.eval x = u) (hy : a.eval y = z) (hrun : (Instr.sliceAt t u (some z) none none).run P w = .ok v w) : (execOp a.eval o).run P w = .ok (.value v) w := by
  unfold execOp; simp [hop, hx, hy, hrun, Result.andThen]
theorem yr_bldw {P : Program} {o : Oper} {a : Act} {w w' : World} {t : TypeId} {x : Operand} {u r : Value} (hop : o.op = .build t #[(1, x)]) (hx : a.eval x = u) (hrun : (Instr.build t #[(1, u)]).run P w = .ok r w') : (execOp a.eval o).run P w = .ok (.value r) w' := by
  unfold execOp; simp [hop, hx, hrun, Result.andThen]
theorem al_ord (o : Oper) (a : Act) (w : World) (hop : o.op = .alloc 48) : (execOp a.eval o).run Tryz.prog w = .ok (.value (.pointer (some ⟨w.heap.size, 0, none⟩))) (w.alloc (.cells #[.int .i64 0, .int .i64 0] 48)) := by
  unfold execOp; simp only [hop]; kernel_rfl
theorem bld_ord (p : Nat) (w : World) : (Instr.build 48 #[(1, .int .i64 (p : Int))]).run Tryz.prog w = .ok (.agg #[.int .i64 0, .int .i64 (p : Int)]) w := by kernel_rfl
theorem ix_s (H c n j : Nat) (w : World) (hv : j < n) : (Instr.indexAt 55 (.slice (some ⟨H, 0, none⟩) n c) (.int .i64 (j : Int))).run Tryz.prog w = .ok (.pointer (some ⟨H, j, none⟩)) w := by
  have h1 : (j : Int) < (n : Int) := by omega
  go_simp
theorem sl_s (x T : List UInt8) (m : Nat) (w : World) (hl : x.length = m + 2) (hT : (⟨x.toArray⟩ : ByteArray).extract m (m + 2) = ⟨T.toArray⟩) : (Instr.sliceAt 9 (.string ⟨x.toArray⟩) (some (.int .i64 (m : Int))) none none).run Tryz.prog w = .ok (.string ⟨T.toArray⟩) w := by
  have h1 : (⟨x.toArray⟩ : ByteArray).size = m + 2 := by show x.toArray.size = _; simpa using hl
  have h2 : (m : Int) ≤ ((m + 2 : Nat) : Int) := by omega
  generalize (⟨x.toArray⟩ : ByteArray) = X at *
  go_simp
  omega
theorem gs_storeO {P : Program} {o : Oper} {Q : Exit → Act → World → Prop} {K : Act → World → Prop} {a : Act} {w w' : World} {t : TypeId} {x y : Operand} {p u : Value} (hd : o.dst = none) (hop : o.op = .store t x y) (hx : a.eval x = p) (hy : a.eval y = u) (hrun : (Instr.storeAt t p u).run P w = .ok () w') (h : K (a.put none undef) w') : o.wp P a w K Q := by
  unfold Oper.wp
  unfold execOp
  simp only [hop, hx, hy]
  simp only [Sem.run_bind, hrun, Result.andThen]
  show K (a.put o.dst undef) w'
  rw [hd]; exact h
theorem st_ord (B : Nat) (n p : Int) (w : World) (h0 : w.cell? ⟨B, 0, none⟩ = some (.int .i64 0) ∧ w.frozen? ⟨B, 0, none⟩ = false) (h1 : w.cell? ⟨B, 1, none⟩ = some (.int .i64 0) ∧ w.frozen? ⟨B, 1, none⟩ = false) :
    (Instr.storeAt 48 (.pointer (some ⟨B, 0, none⟩)) (.agg #[.int .i64 n, .int .i64 p])).run Tryz.prog w = .ok () ((w.setCell ⟨B, 0, none⟩ (.int .i64 n)).setCell ⟨B, 1, none⟩ (.int .i64 p)) := by
  obtain ⟨a0, b0⟩ := h0
  obtain ⟨a1, b1⟩ := h1
  go_simp
set_option maxRecDepth 100000 in
set_option maxHeartbeats 4000000 in
theorem rdays_c (s : List UInt8) (w : World) (hs : s.length ≤ 50000) :
    Calls Tryz.prog 23 #[.string ⟨s.toArray⟩] w (RDaysR s w) := by
  have hcnt := spl_count 44 s
  have hlen := spl_len 44 s
  obtain ⟨S, hS⟩ : ∃ S, S = spl 44 s := ⟨_, rfl⟩
  have HSp : Hid (Calls Tryz.prog 55 #[.string ⟨s.toArray⟩, .int .u8 44] w fun e w' => ∃ pc, e = .returned pc ∧ OwZ w.heap.size S pc w' ∧ Ext w w') := by
    rw [hS]
    exact rsplit_c s 44 w (by omega)
  have HNZ : Hid (daysZ s = allO dayZ S) := by rw [Hid, hS]; rfl
  rw [← hS] at hcnt hlen
  have HL := Lib.hid hlen
  obtain ⟨i0, hi, hz0, hz1, hz2⟩ := info_parts infoOrd
  have Hi := Lib.hid hi
  have Hz0 := Lib.hid hz0
  have Hz1 := Lib.hid hz1
  have Hz2 := Lib.hid hz2
  have HNone : Hid (∀ j (h : j < S.length), dayZ S[j] = none → daysZ s = none) := fun j h q => by rw [HNZ.out]; exact allO_none h q
  clear hi hz0 hz1 hz2 hS hlen
  go_enter Tryz.func23, Tryz.ntmps23
  go_upto_region 3 with (go_at_call 55; (with_reducible refine HSp.out.mono ?_); rintro e w1 ⟨xS, rfl, ⟨gS, cS, rfl, hoS⟩, hE1⟩)
  have hR := rdS_own hoS
  have HR := Lib.hid hR
  go_wp2_with fail
  have HE1 := Lib.hid hE1
  clear hR hE1 hoS
  go_loopw [4, 6] (fun o i wr => ∃ (l : List (Int × Int)) (ao : Option Addr) (cv : Nat), l.length ≤ S.length ∧ o = .slice ao l.length cv ∧ i = .int .i64 (l.length : Int) ∧ (∀ k (h : k < S.length) (h2 : k < l.length), dayZ S[k] = some l[k]) ∧ wr.ownsRow w1.heap.size 48 2 o l.length (ov l) ∧ Ext w1 wr) (fun _ i _ => S.length - (intOf i).toNat)
  case atStart => exact ⟨[], none, 0, Nat.zero_le _, rfl, rfl, (fun k h h2 => by cases h2), World.ownsRow_nil _ _ _ _, Ext.refl _⟩
  case round =>
    obtain ⟨l, ao, cv, hl, rfl, rfl, hk, hown, hE⟩ := hrel
    have hRr := HR.out.ext hE
    have Hk := Lib.hid hk
    clear hk
    by_cases hlt : l.length < S.length
    · have hRz := hRr.1
      have x0 := hRr.2 l.length hlt
      rw [Nat.zero_add] at x0
      have hx5 := HL.out _ (List.getElem_mem hlt)
      have HNo : Hid (dayZ S[l.length] = none → daysZ s = none) := HNone.out _ hlt
      have HYs : Hid (∀ o, dayZ S[l.length] = some o → ∀ k (h : k < S.length) (h2 : k < (l ++ [o]).length), dayZ S[k] = some (l ++ [o])[k]) := fun o e k h h2 => by
        by_cases q : k < l.length
        · rw [List.getElem_append_left q]; exact Hk.out k h q
        · have : k = l.length := by simp at h2; omega
          subst this
          rw [e]
          simp
      obtain ⟨pc, hx⟩ : ∃ pc, pc = S[l.length] := ⟨_, rfl⟩
      rw [← hx] at x0 hx5 HNo HYs
      clear hx hRr
      by_cases h2 : pc.length < 2
      · have Hn := Lib.hid (HNo.out (dayZ_short h2))
        have t1 : decide ((pc.length : Int) - 2 < 0) = true := decide_eq_true (by omega)
        clear h2
        go_wp2_with fail
        go_ret2
        unfold RDaysR
        rw [Hn.out]
        exact ⟨rfl, HE1.out.trans hE⟩
      · obtain ⟨m, hxl⟩ : ∃ m, pc.length = m + 2 := ⟨pc.length - 2, by omega⟩
        have t1 : (pc.length : Int) - 2 = (m : Int) := by omega
        have t0 : decide ((m : Int) < 0) = false := decide_eq_false (by omega)
        obtain ⟨A, hA⟩ : ∃ A, pc.take m = A := ⟨_, rfl⟩
        obtain ⟨T, hT⟩ : ∃ T, pc.drop m = T := ⟨_, rfl⟩
        have hd0 := dayZ_eq hxl hA hT
        have hm1 : (⟨pc.toArray⟩ : ByteArray).extract 0 m = ⟨A.toArray⟩ := by rw [bmid, ← hA]; simp
        have hm2 : (⟨pc.toArray⟩ : ByteArray).extract m (m + 2) = ⟨T.toArray⟩ := by rw [bmid, ← hT, show m + 2 - m = 2 by omega, List.take_of_length_le (by rw [List.length_drop]; omega)]
        have hAl : A.length ≤ s.length := by rw [← hA, List.length_take]; omega
        have HAm : Hid (A.length = m) := by rw [Hid, ← hA, List.length_take]; omega
        obtain ⟨p, hp⟩ : ∃ p, p = plW wkW T := ⟨_, rfl⟩
        have hp7 : p ≤ 7 := by rw [hp]; exact plW_le wkW T
        rw [← hp] at hd0
        have HPl : Hid (∀ H w', RdS wkW H 0 w' → Calls Tryz.prog 56 #[.slice (some ⟨H, 0, none⟩) 7 7, .string ⟨T.toArray⟩] w' fun e w'' => e = .returned (.int .i64 (p : Int)) ∧ w' = w'') := fun H w' q => by
          have := rplace_c wkW H 7 T p w' q (by decide) (by decide) hp.symm
          exact this
        have hlt2 : l.length < S.length := hlt
        have hm3 : pc.length = m + 2 := hxl
        have Hd0 := Lib.hid hd0
        clear hd0 hp hA hT h2
        obtain ⟨j, hj⟩ : ∃ j, j = l.length := ⟨_, rfl⟩
        rw [← hj] at x0 hlt2 ⊢
        have Hj := Lib.hid hj
        clear hj
        go_upto_region 9 with fail
        refine wp_region_grow [27, 28, 29, 30, 31, 32, 33, 34, 35, 8] [WdS, fun x _ => x = .slice (some ⟨gS, 0, none⟩) S.length cS, fun x _ => x = .int .i64 (j : Int), fun x _ => x = .pointer (some ⟨gS, j, none⟩), fun x _ => x = .string ⟨pc.toArray⟩, fun x _ => x = .int .i64 (m : Int), fun x _ => x = .string ⟨T.toArray⟩, fun x _ => x = .int .i64 (p : Int), fun x _ => x = .agg #[.int .i64 0, .int .i64 (p : Int)], AlO wr.heap.size] 1 (by kernel_rfl) (by kernel_rfl) (by kernel_rfl) (by kernel_rfl) ?_ ?_ ?_
        · intro Rl hRl
          simp only [List.mem_cons, List.not_mem_nil, or_false] at hRl
          rcases hRl with rfl | rfl | rfl | rfl | rfl | rfl | rfl | rfl | rfl | rfl
          all_goals first
            | exact fun _ _ _ h _ => h
            | exact fun _ _ _ h hE => WdS.ext h hE
            | exact fun _ _ _ h hE => AlO.ext h hE
        · refine ⟨?_, ?_, ?_, ?_, ?_, ?_, ?_, ?_, ?_, ?_, trivial⟩
          all_goals intro a w hE hF hD K hK
          · exact gs_call rfl (yr_call rfl rfl (show (#[] : Array Operand).map a.eval = #[] by simp only [List.map_toArray, List.map_cons, List.map_nil] <;> rfl) (by kernel_rfl)) ((rwkd_c w).mono fun e w' ⟨⟨H, h1, h2⟩, h3⟩ => ⟨_, h1, ⟨H, rfl, h2⟩, h3⟩) hK
          · exact gs_val rfl (yr_move rfl ((hF 5 (fr_of rfl)).trans rfl)) (hK _ _ rfl (Ext.refl _))
          · exact gs_val rfl (yr_move rfl ((hF 6 (fr_of rfl)).trans rfl)) (hK _ _ rfl (Ext.refl _))
          · have u28 : a.eval (.tmp 28) = .slice (some ⟨gS, 0, none⟩) S.length cS := hD 1 (by kernel_rfl)
            have u29 : a.eval (.tmp 29) = .int .i64 (j : Int) := hD 2 (by kernel_rfl)
            exact gs_val rfl (yr_idxa rfl u28 u29 (ix_s gS cS S.length j w hlt2)) (hK _ _ rfl (Ext.refl _))
          · have u30 : a.eval (.tmp 30) = .pointer (some ⟨gS, j, none⟩) := hD 3 (by kernel_rfl)
            exact gs_val rfl (yr_load rfl u30 (ld_st _ _ _ ((hE.cells gS j hRz).trans x0))) (hK _ _ rfl (Ext.refl _))
          · exact gs_val rfl (yr_move rfl ((hF 7 (fr_of rfl)).trans rfl)) (hK _ _ rfl (Ext.refl _))
          · have u31 : a.eval (.tmp 31) = .string ⟨pc.toArray⟩ := hD 4 (by kernel_rfl)
            have u32 : a.eval (.tmp 32) = .int .i64 (m : Int) := hD 5 (by kernel_rfl)
            exact gs_val rfl (yr_slf rfl u31 u32 (sl_s pc T m w hm3 hm2)) (hK _ _ rfl (Ext.refl _))
          · have u27 : (WdS) (a.eval (.tmp 27)) w := hD 0 (by kernel_rfl)
            have u33 : a.eval (.tmp 33) = .string ⟨T.toArray⟩ := hD 6 (by kernel_rfl)
            obtain ⟨H, q27, hH⟩ := u27
            exact gs_call rfl (yr_call rfl rfl (show (#[Operand.tmp 27, Operand.tmp 33] : Array Operand).map a.eval = #[.slice (some ⟨H, 0, none⟩) 7 7, .string ⟨T.toArray⟩] by simp only [List.map_toArray, List.map_cons, List.map_nil, q27, u33] <;> rfl) (by kernel_rfl)) ((HPl.out H w hH).mono fun e w' ⟨h1, h2⟩ => ⟨_, h1, rfl, by rw [← h2]; exact Ext.refl _⟩) hK
          · have u34 : a.eval (.tmp 34) = .int .i64 (p : Int) := hD 7 (by kernel_rfl)
            exact gs_val rfl (yr_bldw rfl u34 (bld_ord p w)) (hK _ _ rfl (Ext.refl _))
          · exact gs_mkE rfl (al_ord _ _ _ rfl) (hK _ _ (AlO.new hE.size) ((Ext.refl _).alloc _))
        intro vals wz hEz hRz
        obtain ⟨-, -, -, -, -, -, -, -, h8, h9, -⟩ := hRz
        have e35 : vals 8 = .agg #[.int .i64 0, .int .i64 (p : Int)] := h8
        obtain ⟨B, e8, hB1, hB2, hB3⟩ := h9
        simp only [putF, Act.put, List.length_cons, List.length_nil, List.getD_cons_zero, List.getD_cons_succ, List.setIfInBounds_toArray, List.set_cons_zero, List.set_cons_succ, Nat.reduceAdd, e35, e8]
        clear e35 e8
        refine wpAny_op (i := 10) (by kernel_rfl) rfl (by rfl) ?_
        refine gs_storeO rfl rfl rfl rfl (st_ord B 0 (p : Int) wz (hB3 0 (by omega)) (hB3 1 (by omega))) ?_
        refine wpAny_done (by kernel_rfl) ?_ _
        simp only [Act.put, List.setIfInBounds_toArray, List.set_cons_zero, List.set_cons_succ]
        have d0 : (wz.setCell ⟨B, 0, none⟩ (.int .i64 0)).cell? ⟨B, 0, none⟩ = some (.int .i64 0) := World.cell?_setCell_same _ _ _ (hB3 0 (by omega)).1
        have d1 : (wz.setCell ⟨B, 0, none⟩ (.int .i64 0)).cell? ⟨B, 1, none⟩ = some (.int .i64 0) := (World.cell?_setCell_other _ _ _ _ (by simp)).trans (hB3 1 (by omega)).1
        have c1 : ((wz.setCell ⟨B, 0, none⟩ (.int .i64 0)).setCell ⟨B, 1, none⟩ (.int .i64 (p : Int))).cell? ⟨B, 1, none⟩ = some (.int .i64 (p : Int)) := World.cell?_setCell_same _ _ _ d1
        have c0 : ((wz.setCell ⟨B, 0, none⟩ (.int .i64 0)).setCell ⟨B, 1, none⟩ (.int .i64 (p : Int))).cell? ⟨B, 0, none⟩ = some (.int .i64 0) := (World.cell?_setCell_other _ _ _ _ (by simp)).trans d0
        have hfz : ((wz.setCell ⟨B, 0, none⟩ (.int .i64 0)).setCell ⟨B, 1, none⟩ (.int .i64 (p : Int))).frozen? ⟨B, 0, none⟩ = false := by
          rw [World.frozen?_setCell, World.frozen?_setCell]; exact (hB3 0 (by omega)).2
        have hf4 : Frm (fun k => k = B) wz ((wz.setCell ⟨B, 0, none⟩ (.int .i64 0)).setCell ⟨B, 1, none⟩ (.int .i64 (p : Int))) := ((Frm.refl (fun k => k = B) wz).setCell (p := ⟨B, 0, none⟩) (.inl rfl) _).setCell (p := ⟨B, 1, none⟩) (.inl rfl) _
        have hE3 : Ext wr ((wz.setCell ⟨B, 0, none⟩ (.int .i64 0)).setCell ⟨B, 1, none⟩ (.int .i64 (p : Int))) := Frm.far hEz hf4 (fun k hk e => by omega)
        have hBl := hf4.lt hB2
        generalize (wz.setCell ⟨B, 0, none⟩ (.int .i64 0)).setCell ⟨B, 1, none⟩ (.int .i64 (p : Int)) = W3 at *
        clear d0 d1 hf4 hB2 hB3 hEz
        have hj := Hj.out
        subst hj
        have hEa := hE.trans hE3
        have hown3 := own_ext hown hE3
        have hEaz := hEa.size
        have hBg2 : w1.heap.size ≤ B := Nat.le_trans hE.size hB1
        have hob : (Value.slice ao l.length cv).ownBlock ≠ some B := fun e => by
          have := (hown.lt _ e).2
          omega
        have Hob := Lib.hid hob
        have x3 := (hE3.cells gS l.length hRz).trans x0
        have hRz3 := hE3.lt hRz
        clear hown hRz hob x0
        by_cases hA0 : A = []
        · have hm0 : m = 0 := by have := congrArg List.length hA0; rw [HAm.out] at this; simpa using this
          have tm : decide (0 < m) = false := decide_eq_false (by omega)
          by_cases hp0 : p = 0
          · have Hn := Lib.hid (HNo.out (by rw [Hd0.out, if_pos hp0]))
            subst hp0
            clear hm0 hA0
            go_wp2_with fail
            go_ret2
            unfold RDaysR
            rw [Hn.out]
            exact ⟨rfl, HE1.out.trans hEa⟩
          · have hd := Hd0.out
            rw [if_neg hp0, if_pos hA0] at hd
            have HK2 := Lib.hid (HYs.out _ hd)
            have t2 : ((p : Int) == 0) = false := by rw [beq_eq_false_iff_ne]; omega
            clear hm0 hA0 hd hp0
            go_wp2_with (at_builtin; refine wpList_append_own _ rfl _ _ 23 rfl w1.heap.size 48 i0 (.agg #[.int .i64 0, .int .i64 0]) 2 16 Tryz.underlying23 Hi.out Hz0.out Hz1.out Hz2.out rfl (by decide) _ _ _ rfl (hown3.alloc _) ⟨W3.heap.size, 0, none⟩ 1 1 [.int .i64 0, .int .i64 (p : Int)] rfl rfl (cell_two_new _ _ _ _) (fun x hx => by simp at hx; rcases hx with rfl | rfl <;> rfl) (by unfold maxLen; omega) (by omega) (by simp; omega) ?_; intro v' w5 hown' hgrow3 hnil3)
            have hExt := ext_grown (v := .slice ao l.length cv) (hEa.alloc _) (hown3.alloc _) hgrow3
            obtain ⟨ao2, cv2, rfl⟩ := own_slice hown'
            go_roundw
            case rel => exact ⟨l ++ [(0, (p : Int))], ao2, cv2, by rw [List.length_append]; exact hlt, by rw [List.length_append]; rfl, by rw [List.length_append]; go_num, HK2.out, by rw [ov_app, List.length_append]; exact hown', hExt⟩
            case measure => simp [intOf]; omega
        · have hm0 : 0 < m := by have := List.length_pos_iff.2 hA0; rw [HAm.out] at this; exact this
          have tm : decide (0 < m) = true := decide_eq_true (by omega)
          have HA0 := Lib.hid hA0
          clear hA0 hm0
          cases hz : numZ A with
          | none =>
            have Hn := Lib.hid (HNo.out (by
              rw [Hd0.out, if_neg HA0.out, hz]
              split <;> rfl))
            have HNu : Hid (∀ w', Calls Tryz.prog 59 #[.string ⟨A.toArray⟩] w' fun e w'' => e = .returned (.tuple #[.int .i64 0, .bool false]) ∧ w' = w'') := fun w' => by
              have := rnum_c A w' (by omega)
              rwa [hz] at this
            clear hz
            go_wp2_with (go_at_call 59; (with_reducible refine (HNu.out _).mono ?_); rintro e w4 ⟨rfl, rfl⟩)
            go_ret2
            unfold RDaysR
            rw [Hn.out]
            exact ⟨rfl, HE1.out.trans hEa⟩
          | some n =>
            have HNu : Hid (∀ w', Calls Tryz.prog 59 #[.string ⟨A.toArray⟩] w' fun e w'' => e = .returned (.tuple #[.int .i64 n, .bool true]) ∧ w' = w'') := fun w' => by
              have := rnum_c A w' (by omega)
              rwa [hz] at this
            have hd := Hd0.out
            rw [if_neg HA0.out, hz] at hd
            clear hz
            by_cases hn0 : n = 0
            · have Hn := Lib.hid (HNo.out (by rw [hd]; simp [hn0]))
              subst hn0
              clear hd
              go_wp2_with (go_at_call 59; (with_reducible refine (HNu.out _).mono ?_); rintro e w4 ⟨rfl, rfl⟩)
              go_ret2
              unfold RDaysR
              rw [Hn.out]
              exact ⟨rfl, HE1.out.trans hEa⟩
            · have t6 : (n == 0) = false := by simpa using hn0
              have hd3 : dayZ pc = if p = 0 then none else some (n, (p : Int)) := by rw [hd]; simp [hn0]
              have Hd3 := Lib.hid hd3
              clear hd hd3 hn0
              go_upto_region 15 with (go_at_call 59; (with_reducible refine (HNu.out _).mono ?_); rintro e w4 ⟨rfl, rfl⟩)
              have hf4 : Frm (fun k => k = B) W3 (W3.setCell ⟨B, 0, none⟩ (.int .i64 n)) := (Frm.refl (fun k => k = B) W3).setCell (p := ⟨B, 0, none⟩) (.inl rfl) _
              have hE4 : Ext w1 (W3.setCell ⟨B, 0, none⟩ (.int .i64 n)) := Frm.far hEa hf4 (fun k hk e => by omega)
              have d0 : (W3.setCell ⟨B, 0, none⟩ (.int .i64 n)).cell? ⟨B, 0, none⟩ = some (.int .i64 n) := World.cell?_setCell_same _ _ _ c0
              have d1 : (W3.setCell ⟨B, 0, none⟩ (.int .i64 n)).cell? ⟨B, 1, none⟩ = some (.int .i64 (p : Int)) := (World.cell?_setCell_other _ _ _ _ (by simp)).trans c1
              have hown4 := ownsRow_setCell_other hown3 (a := ⟨B, 0, none⟩) Hob.out (.int .i64 n)
              generalize W3.setCell ⟨B, 0, none⟩ (.int .i64 n) = W4 at *
              have hE4z := hE4.size
              by_cases hp0 : p = 0
              · have Hn := Lib.hid (HNo.out (by rw [Hd3.out, if_pos hp0]))
                subst hp0
                go_wp2_with fail
                go_ret2
                unfold RDaysR
                rw [Hn.out]
                exact ⟨rfl, HE1.out.trans hE4⟩
              · have HK2 := Lib.hid (HYs.out _ (by rw [Hd3.out, if_neg hp0]))
                have t2 : ((p : Int) == 0) = false := by rw [beq_eq_false_iff_ne]; omega
                clear hp0
                go_wp2_with (at_builtin; refine wpList_append_own _ rfl _ _ 23 rfl w1.heap.size 48 i0 (.agg #[.int .i64 0, .int .i64 0]) 2 16 Tryz.underlying23 Hi.out Hz0.out Hz1.out Hz2.out rfl (by decide) _ _ _ rfl (hown4.alloc _) ⟨W4.heap.size, 0, none⟩ 1 1 [.int .i64 n, .int .i64 (p : Int)] rfl rfl (cell_two_new _ _ _ _) (fun x hx => by simp at hx; rcases hx with rfl | rfl <;> rfl) (by unfold maxLen; omega) (by omega) (by simp; omega) ?_; intro v' w5 hown' hgrow3 hnil3)
                have hExt := ext_grown (v := .slice ao l.length cv) (hE4.alloc _) (hown4.alloc _) hgrow3
                obtain ⟨ao2, cv2, rfl⟩ := own_slice hown'
                go_roundw
                case rel => exact ⟨l ++ [(n, (p : Int))], ao2, cv2, by rw [List.length_append]; exact hlt, by rw [List.length_append]; rfl, by rw [List.length_append]; go_num, HK2.out, by rw [ov_app, List.length_append]; exact hown', hExt⟩
                case measure => simp [intOf]; omega
    · obtain hll : l.length = S.length := by omega
      have hn : daysZ s = some l := by
        rw [HNZ.out]
        exact allO_some hll (fun i h => Hk.out i h (by omega))
      have Hn := Lib.hid hn
      have hV := OsV.of_own hown rfl
      have hbs := own_base hown
      have hsz := HE1.out.size
      clear hn
      go_wp2_with fail
      go_ret2
      unfold RDaysR
      rw [Hn.out]
      exact ⟨ao, cv, rfl, hV, fun R o m e => Nat.le_trans hsz (hbs R o m e), HE1.out.trans hE⟩
end Go.Proofs.YtgndogpgfgliaaaGreatDoor
/- The reference's decimal text, up to 2^62. -/
namespace Go.Proofs.YtgndogpgfgliaaaGreatDoor
set_option linter.unusedVariables false
set_option linter.unnecessarySimpa false
set_option linter.unusedSimpArgs false
open Go.RowKit

def strLn (v : Value) : Nat := match v with | .string s => s.size | _ => 0
theorem app2_str (a b : List UInt8) : (⟨a.toArray⟩ : ByteArray) ++ ⟨b.toArray⟩ = ⟨(a ++ b).toArray⟩ := by
  apply ByteArray.ext; simp
theorem conv1 (w : World) (x : UInt8) : (convert 108 9 (.slice (some ⟨w.heap.size, 0, none⟩) 1 1)).run Tryz.prog (w.alloc (.cells #[.int .u8 (x.toNat : Int)] 5)) = .ok (.string ⟨[x].toArray⟩) (w.alloc (.cells #[.int .u8 (x.toNat : Int)] 5)) := by
  refine run_convert_bytes_back (P := Tryz.prog) _ 108 9 5 ⟨w.heap.size, 0, none⟩ 1 [x] (by kernel_rfl) (by kernel_rfl) (by kernel_rfl) ?_
  intro j hj
  obtain rfl : j = 0 := by simpa using hj
  show (w.alloc _).cell? ⟨w.heap.size, 0 + 0, none⟩ = _
  rw [World.cell?_alloc_new]
  rfl
theorem dg1_int (n : Nat) : ((48 + ((n : Int) % 10)) : Int) = ((dg1 n).toNat : Int) := by
  rw [dg1_toNat]; omega
theorem conv2 (w : World) (q : Nat) : (convert 108 9 (.slice (some ⟨w.heap.size, 0, none⟩) 1 1)).run Tryz.prog (w.alloc (.cells #[.int .u8 (48 + (q : Int) % 10)] 5)) = .ok (.string ⟨#[dg1 q]⟩) (w.alloc (.cells #[.int .u8 (48 + (q : Int) % 10)] 5)) := by
  have h := conv1 w (dg1 q)
  rw [← dg1_int] at h
  exact h
theorem nDigits_iff (v j : Nat) (hj : 1 ≤ j) : Lib.nDigits v ≤ j ↔ v < 10 ^ j := by
  constructor
  · intro h
    exact Nat.lt_of_lt_of_le (Lib.lt_pow_nDigits v) (Nat.pow_le_pow_right (by decide) h)
  · exact nDigits_le hj
set_option maxRecDepth 100000 in
set_option maxHeartbeats 1000000 in
theorem rtext_c (v wd : Nat) (X : List UInt8) (w : World) (hv : (v : Int) ≤ 4611686018427387904) (hwd : wd ≤ 20) (hX : itx v wd = X) :
    Calls Tryz.prog 37 #[.int .i64 (v : Int), .int .i64 (wd : Int)] w fun e w' => e = .returned (.string ⟨X.toArray⟩) ∧ Ext w w' := by
  have HX := Lib.hid hX
  clear hX
  have hc1 := conv2
  have e1 : ¬ (wd : Int) < 0 := by omega
  have e2 : ¬ (20 : Int) < (wd : Int) := by omega
  go_enter Tryz.func37, Tryz.ntmps37
  go_wp2_with fail
  go_loopw [5, 6] (fun s m wr => ∃ j : Nat, j ≤ Lib.nDigits v ∧ s = .string ⟨(padN j v).toArray⟩ ∧ m = .int .i64 ((v / 10 ^ j : Nat) : Int) ∧ Ext w wr) (fun _ m _ => (intOf m).toNat)
  case atStart => exact ⟨0, Nat.zero_le _, rfl, by simp, Ext.refl _⟩
  case round =>
    obtain ⟨j, hj, rfl, rfl, hE⟩ := hrel
    obtain ⟨m, hm⟩ : ∃ m, m = v / 10 ^ j := ⟨_, rfl⟩
    have hp := padN_length j v
    have hnd : Lib.nDigits v ≤ 19 := nDigits_le (by decide) (by omega)
    have hpc : Hid (dg1 m :: padN j v = padN (j + 1) v) := by rw [Hid, padN_cons, hm]
    have hm10 : v / 10 ^ (j + 1) = m / 10 := by rw [Nat.pow_succ, ← Nat.div_div_eq_div_mul, ← hm]
    have hml : m ≤ 4611686018427387904 := by rw [hm]; exact Nat.le_trans (Nat.div_le_self _ _) (by omega)
    have hjn : Hid (¬ m = 0 → j + 1 ≤ Lib.nDigits v) := fun h => by
      rcases Nat.lt_or_ge j (Lib.nDigits v) with q | q
      · exact q
      · exfalso
        have : v < 10 ^ j := Nat.lt_of_lt_of_le (Lib.lt_pow_nDigits v) (Nat.pow_le_pow_right (by decide) q)
        exact h (by rw [hm]; exact Nat.div_eq_of_lt this)
    have hvj : Hid (m = 0 → v < 10 ^ j) := fun h => by
      rw [hm] at h
      rcases Nat.lt_or_ge v (10 ^ j) with q | q
      · exact q
      · have := Nat.div_pos q (Nat.pow_pos (by decide)); omega
    have Hm10 := Lib.hid hm10
    rw [← hm]
    clear hm hm10
    by_cases h0 : m = 0
    · have hvj2 := Lib.hid (hvj.out h0)
      subst h0
      clear hjn hpc Hm10 hvj
      go_wp2_with fail
      go_loopw [5] (fun s wy => ∃ q : Nat, q ≤ max (Lib.nDigits v) wd ∧ s = .string ⟨(padN q v).toArray⟩ ∧ Hid (v < 10 ^ q) ∧ Ext wr wy) (fun s _ => max (Lib.nDigits v) wd - strLn s)
      case atStart => exact ⟨j, by omega, rfl, hvj2.out, Ext.refl _⟩
      case round =>
        obtain ⟨q, hq, rfl, Hq, hE2⟩ := hrel
        have hq20 : q ≤ 20 := by omega
        have hpq := padN_length q v
        have hpc : Hid (48 :: padN q v = padN (q + 1) v) := by
          rw [Hid, padN_cons, Nat.div_eq_of_lt Hq.out]; rfl
        have HY : Hid (1 ≤ q → wd ≤ q → padN q v = X) := fun a b => by
          rw [← HX.out]
          unfold itx
          have := nDigits_le a Hq.out
          rw [show max (Lib.nDigits v) wd = q by omega]
        have HP := Lib.hid (Lib.nDigits_pos v)
        obtain ⟨L, hL⟩ : ∃ L, L = padN q v := ⟨_, rfl⟩
        have Hq2 : Hid (v < 10 ^ (q + 1)) := Nat.lt_of_lt_of_le Hq.out (Nat.pow_le_pow_right (by decide) (Nat.le_succ q))
        rw [← hL] at hpc HY hpq ⊢
        clear hL
        by_cases hq0 : q = 0
        · subst hq0
          have : L = [] := List.length_eq_zero_iff.1 hpq
          subst this
          go_wp2_with fail
          go_roundw
          case rel => exact ⟨1, by have := HP.out; omega, by rw [← hpc.out]; rfl, Hq2.out, hE2⟩
          case measure => have := HP.out; simp [strLn, ByteArray.size]; omega
        · have hne : ((⟨L.toArray⟩ : ByteArray).toList == []) = false := by
            have : (⟨L.toArray⟩ : ByteArray).toList = L := by simp
            rw [this, beq_eq_false_iff_ne]
            rintro rfl
            simp at hpq; omega
          have hne2 : L.isEmpty = false := by
            cases L with
            | nil => simp at hpq; omega
            | cons _ _ => rfl
          by_cases hqw : q < wd
          · have a1 : (L.length : Int) < (wd : Int) := by omega
            go_wp2_with fail
            go_roundw
            case rel => exact ⟨q + 1, by omega, by rw [← hpc.out]; exact congrArg Value.string (app2_str [48] L), Hq2.out, hE2⟩
            case measure => simp [strLn, ByteArray.size]; omega
          · have a1 : ¬ (L.length : Int) < (wd : Int) := by omega
            have a2 : ¬ (v : Int) < 0 := by omega
            have HF := Lib.hid (HY.out (by omega) (by omega))
            go_wp2_with fail
            go_ret
            exact ⟨by rw [← HF.out]; rfl, hE.trans hE2⟩
    · have hjn2 := Lib.hid (hjn.out h0)
      have b1 : ((m : Int) != 0) = true := by rw [bne_iff_ne]; omega
      have hmod : Int.tmod (m : Int) 10 = (m : Int) % 10 := Int.tmod_eq_emod_of_nonneg (by omega)
      have hdiv : Int.tdiv (m : Int) 10 = ((m / 10 : Nat) : Int) := by rw [Int.tdiv_eq_ediv_of_nonneg (by omega)]; rfl
      have hdiv2 : (m : Int) / 10 = ((m / 10 : Nat) : Int) := rfl
      obtain ⟨y, hy⟩ : ∃ y, y = m / 10 := ⟨_, rfl⟩
      have hy2 : y ≤ 4611686018427387904 := by omega
      have hy3 : y < m := by omega
      rw [← hy] at hdiv hdiv2 Hm10
      clear hy
      have b2 : ¬ (m : Int) % 10 < 0 := by omega
      clear hjn hvj
      go_wp2_with fail
      go_roundw
      case rel => exact ⟨j + 1, hjn2.out, by rw [← hpc.out]; exact congrArg Value.string (app2_str [dg1 m] (padN j v)), by rw [Hm10.out], hE.alloc _⟩
      case measure => simp [intOf]; omega
end Go.Proofs.YtgndogpgfgliaaaGreatDoor
