/- Locales: the walk of the reference's Text. -/
import Derived.Test.YtnhdmnhfllecgaaGreatDoorQ30
namespace Go.Proofs.YtnhdmnhfllecgaaGreatDoor
set_option linter.unusedVariables false
set_option linter.unusedSimpArgs false
open Go.RowKit

set_option maxRecDepth 100000 in
set_option maxHeartbeats 2000000 in
theorem rtext55_c (L : Loc) (w : World) (h : LcV L w) (hs : shL L) (hNl : ∀ s ∈ L.N.all, s.length ≤ 2000000) :
    Calls Tryz.prog 8 #[.agg L.vals.toArray] w fun e w' => e = .returned (.tuple #[.string ⟨(txV L).toArray⟩, .int .i64 (txE L : Int)]) ∧ Ext w w' := by
  rcases Bool.eq_false_or_eq_true (validLB L) with hv | hv
  · have v1 : txE L = 0 := by unfold txE; rw [if_pos hv]
    have v2 : txV L = txL L := by unfold txV; rw [if_pos hv]
    obtain ⟨Y, hY⟩ : ∃ Y, Y = txV L := ⟨_, rfl⟩
    rw [v1, ← hY]
    rw [v2] at hY
    have HY := Lib.hid hY
    have HVl := Lib.hid hv
    have HUF := Lib.hid (uf_of (vu hv).1 (vu hv).2)
    have hP8 := ruled_8 (valid_P hv).1
    have hO8 := ruled_8 (valid_P hv).2
    obtain ⟨m1, m2, m3, m4, m5⟩ := valid_nm hv
    have hIL := loc_size h.1
    have hIN := names_size h.1
    have hE0 : Ext w (w.alloc (.cells L.vals.toArray 30)) := (Ext.refl w).alloc _
    have hB := LcB.new L w 30
    have hV := h.ext hE0
    obtain ⟨g0, g1, g2, g3, g4⟩ := hB.cells h.1
    have hRn := hB.names h.1
    have HV := Lib.hid hV
    have HzB := Lib.hid hB.1
    have HE0 := Lib.hid hE0
    have Hs := Lib.hid hs
    have HVa : Hid (∀ w', Ext w w' → Calls Tryz.prog 10 #[.agg L.vals.toArray] w' fun e w'' => e = .returned (.bool true) ∧ Ext w' w'') := fun w' hE => rvalid_c L true w' (h.ext hE) hs hNl hv
    have hR := hB.2
    obtain ⟨-, -, -, l1, l2⟩ := hs
    have HNm := Lib.hid (And.intro m1 (And.intro m2 (And.intro m3 (And.intro m4 m5))))
    clear hNl h hE0 hB hV hv v1 v2 hY m1 m2 m3 m4 m5
    have HN1 := Lib.hid HV.out.1
    have HNo := Lib.hid (nl_ok HV.out.1 HNm.out)
    have HAl := Lib.hid (acN_len HNo.out)
    obtain ⟨H0, hH0⟩ : ∃ H, H = wLocale ++ (32 :: (L.nm ++ [10])) := ⟨_, rfl⟩
    have HH0 := Lib.hid hH0
    have hH0l : H0.length ≤ 8000 := by rw [hH0]; simp [wLocale]; omega
    clear hH0 HNm
    go_enter Tryz.func8, Tryz.ntmps8
    go_upto_region 1 with fail
    generalize w.alloc (.cells L.vals.toArray 30) = W0 at *
    generalize w.heap.size = B at *
    have hzB := HzB.out
    go_upto_region 5 with (first
      | (refine load_midg (by rfl) 30 _ rfl B 0 rfl L.vals _ hR Tryz.underlying30 rfl hIL ?_)
      | (go_at_call 10; (with_reducible refine (HVa.out _ HE0.out).mono ?_); rintro e w1 ⟨rfl, hE1⟩; have hRn1 := rng_ext1 hRn hzB hE1; have g01 := (hE1.cells B 0 hzB).trans g0)
      | (refine load_midg (by rfl) 26 _ rfl B 1 rfl (sv L.N.all) _ hRn1 Tryz.underlying26 rfl hIN ?_)
      | (go_at_call 21; (with_reducible refine (rlists_c L.N HN1.out w1).mono ?_); rintro e w2 ⟨⟨D, Q, rfl, hFv, hQ⟩, hE2⟩))
    have hEV := hE1.trans hE2
    have HEV := Lib.hid (HE0.out.trans hEV)
    have hBV := hEV.lt hzB
    have g1V := (hEV.cells B 41 hzB).trans g1
    have g2V := (hEV.cells B 42 hzB).trans g2
    have g3V := (hEV.cells B 43 hzB).trans g3
    have g4V := (hEV.cells B 44 hzB).trans g4
    have HLV := Lib.hid (HV.out.ext hEV)
    have HFv := Lib.hid hFv
    have HQ := Lib.hid hQ
    clear hEV hE1 hE2 hFv hQ g0 g1 g2 g3 g4 g01 hRn1 hRn hR hIL hIN
    go_wp2_with fail
    go_loopw [4, 6] (fun s i wr => ∃ j : Nat, j ≤ 5 ∧ i = .int .i64 (j : Int) ∧ s = .string ⟨(H0 ++ acN L.N j).toArray⟩ ∧ Ext w2 wr) (fun _ i _ => 5 - (intOf i).toNat)
    case atStart => exact ⟨0, by omega, rfl, by rw [HH0.out]; congr 1; apply ByteArray.ext; simp [wLocale, acN], Ext.refl _⟩
    case round =>
      obtain ⟨j, hj, rfl, rfl, hE⟩ := hrel
      by_cases hlt : j < 5
      · have hj5 := hlt
        have hDr := hE.lt HFv.out.1
        obtain ⟨hrd, hnl⟩ := nl_rd HV.out.1 (HQ.out.ext hE) j hlt
        have hc := (hE.cells D _ HFv.out.1).trans (HFv.out.2 j hlt)
        obtain ⟨hn12, hm30⟩ := HNo.out j hlt
        have hS := acN_succ L.N j hlt
        have hal := HAl.out j hj
        have hal2 := HAl.out (j + 1) (by omega)
        have hw100 := head_len j hlt
        have HW : Hid (∀ H w, RdS headW H 0 w → w.cell? ⟨H, 0 + j, none⟩ = some (.string ⟨(headW[j]'hlt).toArray⟩)) := fun H w h => h.2 j hlt
        rw [hnl] at hc
        replace hc := (congrArg (fun k => wr.cell? ⟨D, k, none⟩) (Nat.zero_add j)).trans hc
        generalize headW[j]'hlt = W at hS hw100 HW
        generalize (nlN L.N)[j]'hlt = ws at hS hrd hnl hc hn12 hm30
        generalize ofN j = o at hrd hnl hc
        obtain ⟨X, hX⟩ : ∃ X, X = H0 ++ acN L.N j := ⟨_, rfl⟩
        have hXl : X.length ≤ 11000 := by rw [hX, List.length_append]; omega
        obtain ⟨J, hJ⟩ : ∃ J, Lib.join ws [44] = J := ⟨_, rfl⟩
        obtain ⟨T1, hT1⟩ : ∃ T, X ++ W = T := ⟨_, rfl⟩
        obtain ⟨T2, hT2⟩ : ∃ T, T1 ++ [32] = T := ⟨_, rfl⟩
        obtain ⟨T3, hT3⟩ : ∃ T, T2 ++ J = T := ⟨_, rfl⟩
        obtain ⟨T4, hT4⟩ : ∃ T, T3 ++ [10] = T := ⟨_, rfl⟩
        have hJl : J.length ≤ 1000 := by
          rw [← hJ]
          refine Nat.le_trans (join_le ws [44] 30 hm30) ?_
          exact Nat.le_trans (Nat.mul_le_mul_left _ hn12) (by decide)
        have z1 : T1.length = X.length + W.length := by rw [← hT1, List.length_append]
        have z2 : T2.length = T1.length + 1 := by rw [← hT2, List.length_append]; rfl
        have z3 : T3.length = T2.length + J.length := by rw [← hT3, List.length_append]
        have z4 : T4.length = T3.length + 1 := by rw [← hT4, List.length_append]; rfl
        have HT : Hid (H0 ++ acN L.N (j + 1) = T4) := by
          rw [Hid, hS, ← hT4, ← hT3, ← hT2, ← hT1, hX, ← hJ]
          unfold lnN
          simp
        have HJ : Hid (∀ w', Ext wr w' → Calls Tryz.prog 23 #[.slice (some ⟨Q, o, none⟩) ws.length ws.length, .string ⟨[44].toArray⟩] w' fun e w'' => e = .returned (.string ⟨J.toArray⟩) ∧ Ext w' w'') := fun w' hE' =>
          (rjoin_c ws Q o ws.length [44] J w' (hrd.ext hE') (Nat.le_refl _) (by unfold maxLen; omega) (by decide) (fun a ha => by have := hm30 a ha; omega) (by omega) hJ).mono fun e w'' h => ⟨h.1, h.2 ▸ Ext.refl _⟩
        have HT1 := Lib.hid hT1
        have HT2 := Lib.hid hT2
        have HT3 := Lib.hid hT3
        have HT4 := Lib.hid hT4
        have q1 : T1.length ≤ 20000 := by omega
        have q2 : T2.length ≤ 20000 := by omega
        have q3 : T3.length ≤ 20000 := by omega
        have q4 : T4.length ≤ 20000 := by omega
        have HXr := Lib.hid hE
        rw [← hX]
        clear hT1 hT2 hT3 hT4 hS hal hal2 hX hJ hrd hnl z1 z2 z3 z4 hm30
        go_upto_region 8 with fail
        refine wp_region_grow [24, 25, 26, 27, 28, 29, 30, 31, 32, 33, 34, 35, 36, 37] [fun x _ => x = .string ⟨X.toArray⟩, HdR, fun x _ => x = .int .i64 (j : Int), HdP j, fun x _ => x = .string ⟨W.toArray⟩, fun x _ => x = .string ⟨T1.toArray⟩, fun x _ => x = .string ⟨T2.toArray⟩, fun x _ => x = .slice (some ⟨D, 0, none⟩) 5 5, fun x _ => x = .int .i64 (j : Int), fun x _ => x = .pointer (some ⟨D, 0 + j, none⟩), fun x _ => x = .slice (some ⟨Q, o, none⟩) ws.length ws.length, fun x _ => x = .string ⟨J.toArray⟩, fun x _ => x = .string ⟨T3.toArray⟩, fun x _ => x = .string ⟨T4.toArray⟩] 1 (by kernel_rfl) (by kernel_rfl) (by kernel_rfl) (by kernel_rfl) ?_ ?_ ?_
        · intro Rl hRl
          simp only [List.mem_cons, List.not_mem_nil, or_false] at hRl
          rcases hRl with rfl | rfl | rfl | rfl | rfl | rfl | rfl | rfl | rfl | rfl | rfl | rfl | rfl | rfl
          all_goals first
            | exact fun _ _ _ h _ => h
            | exact fun _ _ _ h hE => HdR.ext h hE
            | exact fun _ _ _ h hE => HdP.ext h hE
        · refine ⟨?_, ?_, ?_, ?_, ?_, ?_, ?_, ?_, ?_, ?_, ?_, ?_, ?_, ?_, trivial⟩
          all_goals intro a w hE hF hD K hK
          · exact gs_val rfl (yr_move rfl ((hF 4 (fr_of rfl)).trans rfl)) (hK _ _ rfl (Ext.refl _))
          · exact gs_call rfl (yr_call rfl rfl (show (#[] : Array Operand).map a.eval = #[] by simp only [List.map_toArray, List.map_cons, List.map_nil] <;> rfl) (by kernel_rfl)) ((rheads_c w).mono fun e w' h => by
              obtain ⟨⟨H, rfl, hH⟩, hE'⟩ := h
              exact ⟨_, rfl, ⟨H, rfl, hH⟩, hE'⟩) hK
          · exact gs_val rfl (yr_move rfl ((hF 6 (fr_of rfl)).trans rfl)) (hK _ _ rfl (Ext.refl _))
          · have u25 : (HdR) (a.eval (.tmp 25)) w := hD 1 (by kernel_rfl)
            have u26 : a.eval (.tmp 26) = .int .i64 (j : Int) := hD 2 (by kernel_rfl)
            obtain ⟨H, u25, hH⟩ := u25
            exact gs_val rfl (yr_idxa rfl u25 u26 (ix_s5 H 0 5 5 j w hj5)) (hK _ _ ⟨H, rfl, hH⟩ (Ext.refl _))
          · have u27 : (HdP j) (a.eval (.tmp 27)) w := hD 3 (by kernel_rfl)
            obtain ⟨H, u27, hH⟩ := u27
            exact gs_val rfl (yr_load rfl u27 (ld_st _ _ _ (HW.out H w hH))) (hK _ _ rfl (Ext.refl _))
          · have u24 : a.eval (.tmp 24) = .string ⟨X.toArray⟩ := hD 0 (by kernel_rfl)
            have u28 : a.eval (.tmp 28) = .string ⟨W.toArray⟩ := hD 4 (by kernel_rfl)
            exact gs_val rfl (yr_addt rfl u24 u28 (by omega) HT1.out) (hK _ _ rfl (Ext.refl _))
          · have u29 : a.eval (.tmp 29) = .string ⟨T1.toArray⟩ := hD 5 (by kernel_rfl)
            exact gs_val rfl (yr_addt rfl u29 rfl (by omega) HT2.out) (hK _ _ rfl (Ext.refl _))
          · exact gs_val rfl (yr_move rfl ((hF 5 (fr_of rfl)).trans rfl)) (hK _ _ rfl (Ext.refl _))
          · exact gs_val rfl (yr_move rfl ((hF 6 (fr_of rfl)).trans rfl)) (hK _ _ rfl (Ext.refl _))
          · have u31 : a.eval (.tmp 31) = .slice (some ⟨D, 0, none⟩) 5 5 := hD 7 (by kernel_rfl)
            have u32 : a.eval (.tmp 32) = .int .i64 (j : Int) := hD 8 (by kernel_rfl)
            exact gs_val rfl (yr_idxa rfl u31 u32 (ix_ss D 0 5 5 j w hj5)) (hK _ _ rfl (Ext.refl _))
          · have u33 : a.eval (.tmp 33) = .pointer (some ⟨D, 0 + j, none⟩) := hD 9 (by kernel_rfl)
            exact gs_val rfl (yr_load rfl u33 (ld_ss _ _ _ ((hE.cells D _ hDr).trans hc))) (hK _ _ rfl (Ext.refl _))
          · have u34 : a.eval (.tmp 34) = .slice (some ⟨Q, o, none⟩) ws.length ws.length := hD 10 (by kernel_rfl)
            have q0 : a.eval (.tmp 34) = .slice (some ⟨Q, o, none⟩) ws.length ws.length := u34
            exact gs_call rfl (yr_call rfl rfl (show (#[Operand.tmp 34, Operand.const (.string ⟨[44].toArray⟩)] : Array Operand).map a.eval = #[.slice (some ⟨Q, o, none⟩) ws.length ws.length, .string ⟨[44].toArray⟩] by simp only [List.map_toArray, List.map_cons, List.map_nil, q0] <;> rfl) (by kernel_rfl)) ((HJ.out w hE).mono fun e w' ⟨h1, h2⟩ => ⟨_, h1, rfl, h2⟩) hK
          · have u30 : a.eval (.tmp 30) = .string ⟨T2.toArray⟩ := hD 6 (by kernel_rfl)
            have u35 : a.eval (.tmp 35) = .string ⟨J.toArray⟩ := hD 11 (by kernel_rfl)
            exact gs_val rfl (yr_addt rfl u30 u35 (by omega) HT3.out) (hK _ _ rfl (Ext.refl _))
          · have u36 : a.eval (.tmp 36) = .string ⟨T3.toArray⟩ := hD 12 (by kernel_rfl)
            exact gs_val rfl (yr_addt rfl u36 rfl (by omega) HT4.out) (hK _ _ rfl (Ext.refl _))
        intro vals wz hEz hRz
        obtain ⟨-, -, -, -, -, -, -, -, -, -, -, -, -, h13, -⟩ := hRz
        have e37 : vals 13 = .string ⟨T4.toArray⟩ := h13
        simp only [putF, Act.put, List.length_cons, List.length_nil, List.getD_cons_zero, List.getD_cons_succ, List.setIfInBounds_toArray, List.set_cons_zero, List.set_cons_succ, Nat.reduceAdd, e37]
        clear e37
        refine wpAny_one (i := 14) (by kernel_rfl) rfl (by rfl) (by exact yr_assign rfl rfl) ?_
        refine wpAny_done (by kernel_rfl) ?_ _
        simp only [Act.put, List.setIfInBounds_toArray, List.set_cons_zero, List.set_cons_succ]
        go_wp2_with fail
        go_roundw
        case rel => exact ⟨j + 1, by omega, by go_num, by rw [HT.out], HXr.out.trans hEz⟩
        case measure => simp [intOf]; omega
      · obtain rfl : j = 5 := by omega
        obtain ⟨T7, hT7⟩ : ∃ T, T = H0 ++ acN L.N 5 := ⟨_, rfl⟩
        have y7 : T7.length ≤ 12000 := by have := HAl.out 5 (by omega); rw [hT7, List.length_append]; omega
        have HTT : Hid (T7 = wLocale ++ (32 :: (L.nm ++ (10 :: acN L.N 5)))) := by rw [Hid, hT7, HH0.out]; simp
        rw [← hT7]
        have g1z := (hE.cells B 41 hBV).trans g1V
        have g2z := (hE.cells B 42 hBV).trans g2V
        have g3z := (hE.cells B 43 hBV).trans g3V
        have g4z := (hE.cells B 44 hBV).trans g4V
        have hBz := hE.lt hBV
        have HEz := Lib.hid (HEV.out.trans hE)
        have HLz := Lib.hid (HLV.out.ext hE)
        clear hE hT7 g1V g2V g3V g4V hBV
        obtain ⟨C1, hC1⟩ : ∃ C, lnsC wPlural L.P = C := ⟨_, rfl⟩
        obtain ⟨C2, hC2⟩ : ∃ C, lnsC wOrdinal L.O = C := ⟨_, rfl⟩
        have c1l : C1.length ≤ 170000 := by
          have := lnsC_len wPlural L.P Hs.out.1 L.P.length (Nat.le_refl _)
          rw [List.take_of_length_le (Nat.le_refl _), hC1] at this
          exact Nat.le_trans this (Nat.le_trans (Nat.mul_le_mul_right _ hP8) (by decide))
        have c2l : C2.length ≤ 170000 := by
          have := lnsC_len wOrdinal L.O Hs.out.2.1 L.O.length (Nat.le_refl _)
          rw [List.take_of_length_le (Nat.le_refl _), hC2] at this
          exact Nat.le_trans this (Nat.le_trans (Nat.mul_le_mul_right _ hO8) (by decide))
        obtain ⟨C3, hC3⟩ : ∃ C, T7 ++ C1 = C := ⟨_, rfl⟩
        obtain ⟨T8, hT8⟩ : ∃ T, C3 ++ C2 = T := ⟨_, rfl⟩
        have z3 : C3.length = T7.length + C1.length := by rw [← hC3, List.length_append]
        have z8 : T8.length = C3.length + C2.length := by rw [← hT8, List.length_append]
        have c3l : C3.length ≤ 340000 := by omega
        have t8l : T8.length ≤ 400000 := by omega
        have HC1 := Lib.hid (fun (w' : World) (hE' : Ext wr w') => (rrules_c L.P L.pa L.pc wPlural C1 w' (HLz.out.2.1.ext hE') Hs.out.1 (by omega) (by decide) hC1).mono fun e w'' h => (⟨h.1, h.2 ▸ Ext.refl _⟩ : _ ∧ Ext w' w''))
        have HC2 := Lib.hid (fun (w' : World) (hE' : Ext wr w') => (rrules_c L.O L.oa L.oc wOrdinal C2 w' (HLz.out.2.2.1.ext hE') Hs.out.2.1 (by omega) (by decide) hC2).mono fun e w'' h => (⟨h.1, h.2 ▸ Ext.refl _⟩ : _ ∧ Ext w' w''))
        have HC3 := Lib.hid hC3
        have HT8 := Lib.hid hT8
        have HT8e : Hid (T8 = T7 ++ (lnsC wPlural L.P ++ lnsC wOrdinal L.O)) := by rw [Hid, ← hT8, ← hC3, ← hC1, ← hC2]; simp
        have g1V := g1z
        have g2V := g2z
        have hBV := hBz
        have hPU : L.P.length ≤ 8 := hP8
        clear hC1 hC2 hC3 hT8 z3 z8 hO8 g1z g2z
        go_upto_region 9 with fail
        refine wp_region_grow [38, 39, 40, 41, 42, 43, 44, 45, 46] [fun x _ => x = .string ⟨T7.toArray⟩, fun x _ => x = .pointer (some ⟨B, 41, none⟩), fun x _ => x = .slice L.pa L.P.length L.pc, fun x _ => x = .string ⟨C1.toArray⟩, fun x _ => x = .string ⟨C3.toArray⟩, fun x _ => x = .pointer (some ⟨B, 42, none⟩), fun x _ => x = .slice L.oa L.O.length L.oc, fun x _ => x = .string ⟨C2.toArray⟩, fun x _ => x = .string ⟨T8.toArray⟩] 1 (by kernel_rfl) (by kernel_rfl) (by kernel_rfl) (by kernel_rfl) ?_ ?_ ?_
        · intro Rl hRl
          simp only [List.mem_cons, List.not_mem_nil, or_false] at hRl
          rcases hRl with rfl | rfl | rfl | rfl | rfl | rfl | rfl | rfl | rfl
          all_goals first
            | exact fun _ _ _ h _ => h
        · refine ⟨?_, ?_, ?_, ?_, ?_, ?_, ?_, ?_, ?_, trivial⟩
          all_goals intro a w hE hF hD K hK
          · exact gs_val rfl (yr_move rfl ((hF 4 (fr_of rfl)).trans rfl)) (hK _ _ rfl (Ext.refl _))
          · exact gs_val rfl (yr_field rfl ((hF 1 (fr_of rfl)).trans rfl) (by go_simp)) (hK _ _ rfl (Ext.refl _))
          · have u39 : a.eval (.tmp 39) = .pointer (some ⟨B, 41, none⟩) := hD 1 (by kernel_rfl)
            exact gs_val rfl (yr_load rfl u39 (ld_plu _ _ _ ((hE.cells B 41 hBV).trans g1V))) (hK _ _ rfl (Ext.refl _))
          · have u40 : a.eval (.tmp 40) = .slice L.pa L.P.length L.pc := hD 2 (by kernel_rfl)
            have q1 : a.eval (.tmp 40) = .slice L.pa L.P.length L.pc := u40
            exact gs_call rfl (yr_call rfl rfl (show (#[Operand.const (.string ⟨[112, 108, 117, 114, 97, 108].toArray⟩), Operand.tmp 40] : Array Operand).map a.eval = #[.string ⟨[112, 108, 117, 114, 97, 108].toArray⟩, .slice L.pa L.P.length L.pc] by simp only [List.map_toArray, List.map_cons, List.map_nil, q1] <;> rfl) (by kernel_rfl)) ((HC1.out w hE).mono fun e w' ⟨h1, h2⟩ => ⟨_, h1, rfl, h2⟩) hK
          · have u38 : a.eval (.tmp 38) = .string ⟨T7.toArray⟩ := hD 0 (by kernel_rfl)
            have u41 : a.eval (.tmp 41) = .string ⟨C1.toArray⟩ := hD 3 (by kernel_rfl)
            exact gs_val rfl (yr_addt rfl u38 u41 (by omega) HC3.out) (hK _ _ rfl (Ext.refl _))
          · exact gs_val rfl (yr_field rfl ((hF 1 (fr_of rfl)).trans rfl) (by go_simp)) (hK _ _ rfl (Ext.refl _))
          · have u43 : a.eval (.tmp 43) = .pointer (some ⟨B, 42, none⟩) := hD 5 (by kernel_rfl)
            exact gs_val rfl (yr_load rfl u43 (ld_plu _ _ _ ((hE.cells B 42 hBV).trans g2V))) (hK _ _ rfl (Ext.refl _))
          · have u44 : a.eval (.tmp 44) = .slice L.oa L.O.length L.oc := hD 6 (by kernel_rfl)
            have q1 : a.eval (.tmp 44) = .slice L.oa L.O.length L.oc := u44
            exact gs_call rfl (yr_call rfl rfl (show (#[Operand.const (.string ⟨[111, 114, 100, 105, 110, 97, 108].toArray⟩), Operand.tmp 44] : Array Operand).map a.eval = #[.string ⟨[111, 114, 100, 105, 110, 97, 108].toArray⟩, .slice L.oa L.O.length L.oc] by simp only [List.map_toArray, List.map_cons, List.map_nil, q1] <;> rfl) (by kernel_rfl)) ((HC2.out w hE).mono fun e w' ⟨h1, h2⟩ => ⟨_, h1, rfl, h2⟩) hK
          · have u42 : a.eval (.tmp 42) = .string ⟨C3.toArray⟩ := hD 4 (by kernel_rfl)
            have u45 : a.eval (.tmp 45) = .string ⟨C2.toArray⟩ := hD 7 (by kernel_rfl)
            exact gs_val rfl (yr_addt rfl u42 u45 (by omega) HT8.out) (hK _ _ rfl (Ext.refl _))
        intro vals wz hEz hRz
        obtain ⟨-, -, -, -, -, -, -, -, h8, -⟩ := hRz
        have e46 : vals 8 = .string ⟨T8.toArray⟩ := h8
        simp only [putF, Act.put, List.length_cons, List.length_nil, List.getD_cons_zero, List.getD_cons_succ, List.setIfInBounds_toArray, List.set_cons_zero, List.set_cons_succ, Nat.reduceAdd, e46]
        clear e46
        refine wpAny_one (i := 9) (by kernel_rfl) rfl (by rfl) (by exact yr_assign rfl rfl) ?_
        refine wpAny_done (by kernel_rfl) ?_ _
        simp only [Act.put, List.setIfInBounds_toArray, List.set_cons_zero, List.set_cons_succ]
        have g3y := (hEz.cells B 43 hBz).trans g3z
        have g4y := (hEz.cells B 44 hBz).trans g4z
        have hBy := hEz.lt hBz
        have HEy := Lib.hid (HEz.out.trans hEz)
        have HLy := Lib.hid (HLz.out.ext hEz)
        clear hEz g1V g2V hBV g3z g4z hBz HC1 HC2 HC3 HT8 c1l c2l c3l
        go_wp2_with fail
        obtain ⟨i0, hi, hz0, hz1, hz2⟩ := info_parts infoS
        have Hi := Lib.hid hi
        have Hz0 := Lib.hid hz0
        have Hz1 := Lib.hid hz1
        have Hz2 := Lib.hid hz2
        clear hi hz0 hz1 hz2
        obtain ⟨R, off, hua, hzR, hcu⟩ := HLy.out.2.2.2.2.2.1 (by have := HUF.out.one; intro e; rw [e] at this; simp at this)
        have hul := HLy.out.2.2.2.1
        have hul2 := HLy.out.2.2.2.2.1
        unfold maxLen at hul2
        have HCu := Lib.hid hcu
        have HUy := Lib.hid HLy.out.2.2.2.2.2.2
        have hten := HUF.out.ten
        rw [hua] at g3y
        clear hcu hua
        go_loopw [4, 7] (fun s i wu => ∃ j : Nat, j ≤ L.U.length ∧ i = .int .i64 (j : Int) ∧ s = .string ⟨(T8 ++ lnsU (L.U.take j)).toArray⟩ ∧ Ext wz wu) (fun _ i _ => L.U.length - (intOf i).toNat)
        case atStart => exact ⟨0, Nat.zero_le _, rfl, by simp [lnsU], Ext.refl _⟩
        case round =>
          obtain ⟨j, hj, rfl, rfl, hE⟩ := hrel
          generalize wr = wu at *
          have g3u := (hE.cells B 43 hBy).trans g3y
          have hBu := hE.lt hBy
          by_cases hlt : j < L.U.length
          · obtain ⟨c0, c1⟩ := HCu.out j hlt
            replace c0 := (hE.cells R _ hzR).trans c0
            replace c1 := (hE.cells R _ hzR).trans c1
            have hRr := hE.lt hzR
            have HFv2 := Lib.hid ((HUy.out L.U[j] (List.getElem_mem _)).ext hE)
            obtain ⟨s1, s2, s3, s4⟩ := HUF.out.at_ j hlt
            have HS0 := lnsU_succ L.U j hlt
            have hAl := lnsU_len HUF.out hPU j hj
            have hZl := lnU_len HUF.out hPU j hlt
            obtain ⟨A, hA⟩ : ∃ A, A = T8 ++ lnsU (L.U.take j) := ⟨_, rfl⟩
            have hAl2 : A.length ≤ 500000 := by rw [hA, List.length_append]; omega
            have HS : Hid (T8 ++ lnsU (L.U.take (j + 1)) = A ++ lnU L.U[j]) := by rw [Hid, HS0, ← List.append_assoc, ← hA]
            rw [← hA]
            have HXr := Lib.hid (HEy.out.trans hE)
            have HEu := Lib.hid hE
            obtain ⟨u, hu⟩ : ∃ u, u = L.U[j] := ⟨_, rfl⟩
            rw [← hu] at c0 c1 HFv2 s1 s2 s3 s4 HS hZl
            clear hu hA HS0 hAl
            obtain ⟨us, uao, ucap, uf⟩ := u
            simp only at c0 c1 HFv2 s1 s2 s3 s4
            obtain ⟨k, rfl⟩ := Int.eq_ofNat_of_zero_le (show 0 ≤ us by omega)
            obtain ⟨X, hX⟩ : ∃ X, itx k 1 = X := ⟨_, rfl⟩
            have hXl := (nDig20 k (by omega)).1
            rw [hX] at hXl
            obtain ⟨J, hJ⟩ : ∃ J, Lib.join (uf.map (·.r)) [44] = J := ⟨_, rfl⟩
            have HZ : Hid (lnU ⟨(k : Int), uao, ucap, uf⟩ = wUnit ++ (32 :: (X ++ (32 :: (J ++ [10]))))) := by
              rw [Hid, ← hX, ← hJ]
              rfl
            have hJl : J.length ≤ 500 := by
              rw [HZ.out] at hZl
              simp only [List.length_append, List.length_cons, List.length_nil] at hZl
              omega
            have HIt : Hid (∀ w', Calls Tryz.prog 25 #[.int .i64 (k : Int)] w' fun e w'' => e = .returned (.string ⟨X.toArray⟩) ∧ Ext w' w'') := fun w' => rdec_c k X w' (by omega) hX
            have HJe := Lib.hid hJ
            have H30 : Hid (∀ a ∈ uf.map (·.r), a.length ≤ 1000) := fun a ha => by
              obtain ⟨p, hp, rfl⟩ := List.mem_map.1 ha
              obtain ⟨i, hi, rfl⟩ := List.mem_iff_getElem.1 hp
              have := form_len (s4 i hi)
              omega
            have HRl : Hid (∀ i (hi : i < uf.length), (uf[i]).r.length ≤ 30) := fun i hi => form_len (s4 i hi)
            have hufl : uf.length ≤ 8 := by omega
            have huf1 : uf.length = L.P.length := s3
            have Huf1 := Lib.hid huf1
            have HP1 : Hid (1 ≤ L.P.length) := (ruled_ok (valid_P (show validLB L = true from HVl.out)).1).1
            have hfc := HFv2.out.2.1
            unfold maxLen at hfc
            have hfl2 := HFv2.out.1
            clear hX hJ s3 s4 huf1 hE hZl
            go_wp2_with fail
            go_loopw [8, 9] (fun p i wt => ∃ (q : Nat) (ao : Option Addr) (cv : Nat), q ≤ uf.length ∧ p = .slice ao q cv ∧ i = .int .i64 (q : Int) ∧ wt.ownsRow wu.heap.size 9 1 p q (sv ((uf.take q).map (·.r))) ∧ Ext wu wt) (fun _ i _ => uf.length - (intOf i).toNat)
            case atStart => exact ⟨0, none, 0, Nat.zero_le _, rfl, rfl, World.ownsRow_nil _ _ _ _, Ext.refl _⟩
            case round =>
              obtain ⟨q, ao, cv, hq, rfl, rfl, hown, hEt⟩ := hrel
              generalize wr = wt at *
              have c0t := (hEt.cells R _ hRr).trans c0
              have c1t := (hEt.cells R _ hRr).trans c1
              have g3t := (hEt.cells B 43 hBu).trans g3u
              by_cases hql : q < uf.length
              · obtain ⟨R2, of2, rfl, hR2, hc2⟩ := HFv2.out.2.2 (by intro e; rw [e] at hql; simp at hql)
                obtain ⟨x0, x1⟩ := hc2 q hql
                replace x0 := (hEt.cells R2 _ hR2).trans x0
                replace x1 := (hEt.cells R2 _ hR2).trans x1
                have hrl := HRl.out q hql
                have HSq : Hid (sv ((uf.take (q + 1)).map (·.r)) = sv ((uf.take q).map (·.r)) ++ [.string ⟨(uf[q]).r.toArray⟩]) := by rw [Hid, List.take_succ_eq_append_getElem hql, List.map_append]; simp [sv]
                obtain ⟨p, hp⟩ : ∃ p, p = uf[q] := ⟨_, rfl⟩
                rw [← hp] at x0 x1 hrl HSq
                clear hp hc2
                obtain ⟨pc, pr⟩ := p
                simp only at x0 x1 hrl HSq
                have HEq := Lib.hid hEt
                have hsz2 := hEt.size
                clear hEt
                go_wp2_with (first
                  | (at_builtin; refine wpList_append_own _ rfl _ _ 54 rfl wu.heap.size 9 i0 (.string ByteArray.empty) 1 16 Tryz.underlying54 Hi.out Hz0.out Hz1.out Hz2.out rfl (by decide) _ _ _ rfl (hown.alloc _) ⟨wt.heap.size, 0, none⟩ 1 1 [.string ⟨pr.toArray⟩] rfl rfl (cell_one_new _ _ _) (fun x hx => by simp at hx; subst hx; rfl) (by unfold maxLen; omega) (by omega) (by simp; omega) ?_; intro v' w3 hown' hgrow3 hnil3))
                have HExt := Lib.hid (ext_grown (v := .slice ao q cv) (HEq.out.alloc _) (hown.alloc _) hgrow3)
                obtain ⟨ao2, cv2, rfl⟩ := own_slice hown'
                clear hgrow3 hnil3 hown
                go_roundw
                case rel => exact ⟨q + 1, ao2, cv2, by omega, rfl, by go_num, by rw [HSq.out]; exact hown', HExt.out⟩
                case measure => simp [intOf]; omega
              · obtain rfl : q = uf.length := by omega
                rw [List.take_of_length_le (Nat.le_refl _)] at hown
                have hne : uf.map (·.r) ≠ [] := by
                  intro e
                  have h1 := congrArg List.length e
                  rw [List.length_map, Huf1.out, List.length_nil] at h1
                  have h2 := HP1.out
                  omega
                obtain ⟨R5, c5, e5, b1, b2, b3, b4⟩ := RdS.of_own hown (List.length_map ..).symm hne
                rw [List.length_map] at e5 b1
                injection e5 with ea eb ec
                subst ea
                subst ec
                have HTx : Hid (∀ w', Ext wt w' → Calls Tryz.prog 23 #[.slice (some ⟨R5, 0, none⟩) uf.length cv, .string ⟨[44].toArray⟩] w' fun e w'' => e = .returned (.string ⟨J.toArray⟩) ∧ Ext w' w'') := fun w' hE' => by
                  have := rjoin_c (uf.map (·.r)) R5 0 cv [44] J w' (b3.ext hE') (by rw [List.length_map]; exact b1) b2 (by decide) H30.out (by rw [List.length_map]; omega) HJe.out
                  rw [List.length_map] at this
                  exact this.mono fun e w'' h => ⟨h.1, h.2 ▸ Ext.refl _⟩
                have HEt := Lib.hid (HEu.out.trans hEt)
                clear b3 hown hne hEt
                go_wp2_with (first
                  | (go_at_call 25; (with_reducible refine (HIt.out _).mono ?_); rintro e w4 ⟨rfl, hE4⟩)
                  | (go_at_call 23; (with_reducible refine (HTx.out _ hE4).mono ?_); rintro e w5 ⟨rfl, hE5⟩))
                go_roundw
                case rel => exact ⟨j + 1, by omega, by go_num, by rw [HS.out, HZ.out]; congr 1; apply ByteArray.ext; simp [wUnit], HEt.out.trans (hE4.trans hE5)⟩
                case measure => simp [intOf]; omega
          · obtain rfl : j = L.U.length := by omega
            rw [List.take_of_length_le (Nat.le_refl _)]
            have g4r := (hE.cells B 44 hBy).trans g4y
            have hAl := lnsU_len HUF.out hPU L.U.length (Nat.le_refl _)
            rw [List.take_of_length_le (Nat.le_refl _)] at hAl
            obtain ⟨S, hS⟩ : ∃ S, lnsU L.U = S := ⟨_, rfl⟩
            rw [hS] at hAl
            have hAl3 : (T8 ++ S).length ≤ 500000 := by rw [List.length_append]; omega
            obtain ⟨A, hA⟩ : ∃ A, T8 ++ S = A := ⟨_, rfl⟩
            rw [hA] at hAl3
            have HYe : Hid (Y = A ++ (wPattern ++ (32 :: (L.pt ++ [10])))) := by
              rw [Hid, HY.out, ← hA, ← hS, HT8e.out, HTT.out, acN_5]
              unfold txL
              simp
            rw [hS, hA]
            clear hA hS
            go_wp2_with fail
            go_ret2
            have hfin : (⟨Y.toArray⟩ : ByteArray) = ⟨A.toArray⟩ ++ ⟨#[112, 97, 116, 116, 101, 114, 110, 32]⟩ ++ ⟨L.pt.toArray⟩ ++ ⟨#[10]⟩ := by rw [HYe.out]; apply ByteArray.ext; simp [wPattern]
            exact ⟨by rw [hfin]; rfl, HEy.out.trans hE⟩
  · have HE : Hid (txE L = 1) := by rw [Hid]; unfold txE; rw [if_neg (by rw [hv]; simp)]
    have HP : Hid (txV L = []) := by rw [Hid]; unfold txV; rw [if_neg (by rw [hv]; simp)]
    have HVl := Lib.hid hv
    have hIL := loc_size h.1
    have hE0 : Ext w (w.alloc (.cells L.vals.toArray 30)) := (Ext.refl w).alloc _
    have hB := LcB.new L w 30
    have HV := Lib.hid (h.ext hE0)
    have HE0 := Lib.hid hE0
    have HNl := Lib.hid hNl
    have Hs := Lib.hid hs
    have hR := hB.2
    clear hs hNl h hE0 hB
    clear hv
    go_enter Tryz.func8, Tryz.ntmps8
    go_upto_region 1 with fail
    generalize w.alloc (.cells L.vals.toArray 30) = W0 at *
    generalize w.heap.size = B at *
    go_wp2_with (first
      | (refine load_midg (by rfl) 30 _ rfl B 0 rfl L.vals _ hR Tryz.underlying30 rfl hIL ?_)
      | (go_at_call 10; (with_reducible refine (rvalid_c L false _ HV.out Hs.out HNl.out HVl.out).mono ?_); rintro e w1 ⟨rfl, hE1⟩))
    go_ret2
    exact ⟨by rw [HP.out, HE.out]; rfl, HE0.out.trans hE1⟩
end Go.Proofs.YtnhdmnhfllecgaaGreatDoor
