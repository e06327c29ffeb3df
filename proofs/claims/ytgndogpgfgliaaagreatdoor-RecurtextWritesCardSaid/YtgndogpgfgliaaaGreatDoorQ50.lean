/- Recurrence rules: the walk of the reference's Text. -/
import Derived.Test.YtgndogpgfgliaaaGreatDoorQ49
import Derived.Test.YtgndogpgfgliaaaGreatDoorQ36
namespace Go.Proofs.YtgndogpgfgliaaaGreatDoor
set_option linter.unusedVariables false
set_option linter.unnecessarySimpa false
set_option linter.unusedSimpArgs false
open Go.RowKit

theorem ix_ll (L i : Nat) (w : World) (hv : i < 9) : (Instr.indexAt 71 (.slice (some ⟨L, 0, none⟩) 9 9) (.int .i64 (i : Int))).run Tryz.prog w = .ok (.pointer (some ⟨L, i, none⟩)) w := by
  have h1 : (i : Int) < 9 := by omega
  go_simp
theorem ser_lit (A B : List UInt8) : A ++ (59 :: (B ++ 61 :: [])) = A ++ ([59] ++ B ++ [61]) := by simp
set_option maxRecDepth 100000 in
set_option maxHeartbeats 4000000 in
theorem rtext30_no (r : Rec) (w : World) (hV : RcV r w) (hv : vldR r.D = false) : Calls Tryz.prog 14 #[.agg r.vals.toArray] w fun e w' => e = .returned (.tuple #[.string ⟨#[]⟩, .int .i64 1]) ∧ Ext w w' := by
  have hE0 : Ext w (w.alloc (.cells r.vals.toArray 25)) := (Ext.refl w).alloc _
  have HE0 := Lib.hid hE0
  have hBr := (RcB.new r w 25).2
  have hRs := rec_size r
  have HVc := Lib.hid (rvalid29_c r false _ (hV.ext hE0) hv)
  clear hE0 hV hv
  go_enter Tryz.func14, Tryz.ntmps14
  go_upto_region 1 with fail
  generalize w.alloc (.cells r.vals.toArray 25) = W0 at *
  generalize w.heap.size = B at *
  go_wp2_with (first
    | (refine load_midg (by rfl) 25 _ rfl B 0 rfl r.vals _ hBr Tryz.underlying25 rfl hRs ?_)
    | (go_at_call 30; (with_reducible refine HVc.out.mono ?_); rintro e w1 ⟨rfl, hE1⟩))
  go_ret2
  exact ⟨rfl, HE0.out.trans hE1⟩
set_option maxRecDepth 100000 in
set_option maxHeartbeats 8000000 in
theorem rtext30_yes (r : Rec) (w : World) (hV : RcV r w) (hv : vldR r.D = true) : Calls Tryz.prog 14 #[.agg r.vals.toArray] w fun e w' => e = .returned (.tuple #[.string ⟨(txtZ momT r.D).toArray⟩, .int .i64 0]) ∧ Ext w w' := by
  have hE0 : Ext w (w.alloc (.cells r.vals.toArray 25)) := (Ext.refl w).alloc _
  have HE0 := Lib.hid hE0
  have hB := RcB.new r w 25
  have hBr := hB.2
  have hRs := rec_size r
  have HVc := Lib.hid (rvalid29_c r true _ (hV.ext hE0) hv)
  have HVe := Lib.hid (hV.ext hE0)
  have HB := Lib.hid hB
  have h0w := wrt0_ne hv
  have H0w := Lib.hid h0w
  have HPl := Lib.hid (fun k (h1 : 1 ≤ k) (h2 : k ≤ 14) => preT_len hv h0w (14 - k) k h1 (by omega))
  obtain ⟨hnv, hlv, hwf, hdl, hdv, htm⟩ := vld_parts30 hv
  unfold numbV at hnv
  obtain ⟨f1, f2, i1, i2, c1, c2, hun, s1, s2⟩ := of_decide_eq_true hnv
  have hlv2 := hlv
  unfold lstV at hlv2
  simp only [Bool.and_eq_true] at hlv2
  obtain ⟨⟨⟨⟨⟨⟨⟨b1, b2⟩, b3⟩, b4⟩, b5⟩, b6⟩, b7⟩, b8⟩ := hlv2
  have n1 := btw_in b1 (by decide) (by decide)
  have n2 := btw_in b2 (by decide) (by decide)
  have n3 := btw_in b3 (by decide) (by decide)
  have n4 := btw_in b4 (by decide) (by decide)
  have n5 := btw_in b5 (by decide) (by decide)
  have n6 := btw_in b6 (by decide) (by decide)
  have n7 := btw_in b7 (by decide) (by decide)
  have n8 := btw_in b8 (by decide) (by decide)
  have HN := Lib.hid (⟨n1, n2, n3, n4, n5, n6, n7, n8⟩ : _ ∧ _ ∧ _ ∧ _ ∧ _ ∧ _ ∧ _ ∧ _)
  have hdo : ∀ o ∈ r.D.da, i64 o.1 ∧ i64 o.2 := fun o ho => by
    obtain ⟨a, b, c, d⟩ := dayV_ok (hdv o ho)
    unfold i64; omega
  have HDo := Lib.hid hdo
  have HDk : Hid (∀ o ∈ r.D.da, dayOk o) := days_of_vld hv
  have HUn := Lib.hid hun
  clear b1 b2 b3 b4 b5 b6 b7 b8 n1 n2 n3 n4 n5 n6 n7 n8 hnv hlv hwf hdv htm hdo hun
  obtain ⟨m, hm⟩ : ∃ m : Nat, r.D.fr = (m : Int) + 1 := ⟨(r.D.fr - 1).toNat, by omega⟩
  have hm5 : m < 5 := by omega
  have hsub : IntKind.i64.wrap (r.D.fr - 1) = (m : Int) := by rw [hm, show (m : Int) + 1 - 1 = (m : Int) by omega]; exact wrap64n m (by omega)
  obtain ⟨Fw, hFw⟩ : ∃ Fw, frW.getD m [] = Fw := ⟨_, rfl⟩
  obtain ⟨S1, hS1⟩ : ∃ S1, S1 = preT r.D 1 := ⟨_, rfl⟩
  have hl1 : S1.length ≤ 3100 := by rw [hS1]; exact HPl.out 1 (by decide) (by decide)
  have hc1 : [70, 82, 69, 81, 61] ++ Fw = S1 := by
    rw [hS1, preT_1 h0w]
    unfold ptxZ
    have e : wrtZ momT 0 r.D = Fw := by
      show (if r.D.fr = 0 then [] else frW.getD (r.D.fr - 1).toNat []) = Fw
      rw [if_neg (by omega), show (r.D.fr - 1).toNat = m by omega, hFw]
    rw [e]
    rfl
  have Hm := Lib.hid hm
  have HS1 := Lib.hid hS1
  clear hS1
  have hl1' : S1.length ≤ 1000000000000 := by omega
  clear hE0 hV hv h0w hm
  go_enter Tryz.func14, Tryz.ntmps14
  go_upto_region 1 with fail
  generalize hWW : w.alloc (.cells r.vals.toArray 25) = W0 at *
  generalize w.heap.size = B at *
  go_upto_region 3 with (first
    | (refine load_midg (by rfl) 25 _ rfl B 0 rfl r.vals _ hBr Tryz.underlying25 rfl hRs ?_)
    | (go_at_call 30; (with_reducible refine HVc.out.mono ?_); rintro e w1 ⟨rfl, hE1⟩))
  have HX1 := Lib.hid hE1
  have hB1 := HB.out.ext hE1
  have hBl := hB1.1
  obtain ⟨c0, -, -, -, -, -, -, -, -, -, -, -, -, -⟩ := hB1.all
  clear hBr hB1 hE1 hB hWW
  go_cut [4] from 10 to 16 (fun x wx => x = .string ⟨S1.toArray⟩ ∧ Ext w1 wx)
  case first =>
    have hl1 := hl1'
    refine wp_region_grow [10, 11, 12, 13, 14, 15, 16] [SlS frW 5, fun x _ => x = .pointer (some ⟨B, 0, none⟩), fun x _ => x = .int .i64 r.D.fr, fun x _ => x = .int .i64 (m : Int), PtS frW m, fun x _ => x = .string ⟨Fw.toArray⟩, fun x _ => x = .string ⟨S1.toArray⟩] 1 (by kernel_rfl) (by kernel_rfl) (by kernel_rfl) (by kernel_rfl) ?_ ?_ ?_
    · intro Rl hRl
      simp only [List.mem_cons, List.not_mem_nil, or_false] at hRl
      rcases hRl with rfl | rfl | rfl | rfl | rfl | rfl | rfl
      all_goals first
        | exact fun _ _ _ h _ => h
        | exact fun _ _ _ h hE => SlS.ext h hE
        | exact fun _ _ _ h hE => PtS.ext h hE
    · refine ⟨?_, ?_, ?_, ?_, ?_, ?_, ?_, trivial⟩
      all_goals intro a w hE hF hD K hK
      · exact gs_call rfl (yr_call rfl rfl (show (#[] : Array Operand).map a.eval = #[] by simp only [List.map_toArray, List.map_cons, List.map_nil] <;> rfl) (by kernel_rfl)) ((rfrq_c w).mono fun e w' ⟨⟨H, h1, h2⟩, h3⟩ => ⟨_, h1, ⟨H, rfl, h2⟩, h3⟩) hK
      · exact gs_val rfl (yr_field rfl ((hF 1 (fr_of rfl)).trans rfl) (by go_simp)) (hK _ _ rfl (Ext.refl _))
      · have u11 : a.eval (.tmp 11) = .pointer (some ⟨B, 0, none⟩) := hD 1 (by kernel_rfl)
        exact gs_val rfl (yr_load rfl u11 (ld_n _ _ _ ((hE.cells B 0 hBl).trans c0))) (hK _ _ rfl (Ext.refl _))
      · have u12 : a.eval (.tmp 12) = .int .i64 r.D.fr := hD 2 (by kernel_rfl)
        exact gs_val rfl (yr_sub30 rfl u12 rfl hsub) (hK _ _ rfl (Ext.refl _))
      · have u10 : (SlS frW 5) (a.eval (.tmp 10)) w := hD 0 (by kernel_rfl)
        have u13 : a.eval (.tmp 13) = .int .i64 (m : Int) := hD 3 (by kernel_rfl)
        obtain ⟨H, q10, hH⟩ := u10
        exact gs_val rfl (yr_idxa rfl q10 u13 (ix_s H 5 5 m w hm5)) (hK _ _ ⟨H, rfl, hH⟩ (Ext.refl _))
      · have u14 : (PtS frW m) (a.eval (.tmp 14)) w := hD 4 (by kernel_rfl)
        obtain ⟨H, q14, hH⟩ := u14
        exact gs_val rfl (yr_load rfl q14 (ld_st _ _ _ (rdS_get hH hm5 hFw))) (hK _ _ rfl (Ext.refl _))
      · have u15 : a.eval (.tmp 15) = .string ⟨Fw.toArray⟩ := hD 5 (by kernel_rfl)
        exact gs_val rfl (yr_addt rfl rfl u15 hl1 hc1) (hK _ _ rfl (Ext.refl _))
    intro vals wz hEz hRz
    obtain ⟨-, -, -, -, -, -, h6, -⟩ := hRz
    have e16 : vals 6 = .string ⟨S1.toArray⟩ := h6
    simp only [putF, Act.put, List.length_cons, List.length_nil, List.getD_cons_zero, List.getD_cons_succ, List.setIfInBounds_toArray, List.set_cons_zero, List.set_cons_succ, Nat.reduceAdd, e16]
    clear e16
    refine wpAny_one (i := 7) (o := ⟨some 4, .assign (.tmp 16), _, _, _, _⟩) (by kernel_rfl) rfl (by rfl) (by exact yr_assign rfl rfl) ?_
    refine wpAny_done (by kernel_rfl) ?_ _
    simp only [Act.put, List.setIfInBounds_toArray, List.set_cons_zero, List.set_cons_succ]
    go_wp2_with fail
    go_meet
    exact ⟨rfl, hEz⟩
  case rest =>
  obtain ⟨rfl, hEa⟩ := hcut
  clear hc1 hFw hsub hl1' c0
  have hXX := HX1.out.trans hEa
  have hBz := HB.out.ext hXX
  have hBl := hBz.1
  obtain ⟨-, g1, g2, g3, -, -, -, -, -, -, -, -, -, -⟩ := hBz.all
  have HXX := Lib.hid hXX
  clear hXX hBz hEa HX1
  have HX1 := HXX
  clear HXX
  obtain ⟨T2, hT2⟩ : ∃ s, s = preT r.D 2 := ⟨_, rfl⟩
  have hlN : T2.length ≤ 3100 := by rw [hT2]; exact HPl.out 2 (by decide) (by decide)
  have HT2 := Lib.hid hT2
  clear hT2
  obtain ⟨V, hVw⟩ : ∃ V, V = wc := ⟨_, rfl⟩
  subst hVw
  go_upto_if 19 with fail
  go_cut [4] from 17 to 25 (fun x wx => x = .string ⟨T2.toArray⟩ ∧ Ext V wx)
  case first =>
    by_cases hq : r.D.iv = 1
    · have t1 : (r.D.iv == 1) = true := by simpa using hq
      have t2 : (r.D.iv != 1) = false := by simpa using hq
      have he : T2 = S1 := by rw [HT2.out, HS1.out]; exact preT_no (show (if r.D.iv = 1 then [] else decZ r.D.iv) = [] from if_pos hq)
      have He := Lib.hid he
      clear he hq
      go_wp2_with fail
      go_meet
      exact ⟨by rw [He.out], Ext.refl _⟩
    · have t1 : (r.D.iv == 1) = false := by simpa using hq
      have t2 : (r.D.iv != 1) = true := by simpa using hq
      obtain ⟨Y, hY⟩ : ∃ Y, Y = decZ r.D.iv := ⟨_, rfl⟩
      have hw : wrtZ momT 1 r.D = Y := by rw [hY]; exact (show (if r.D.iv = 1 then [] else decZ r.D.iv) = decZ r.D.iv from if_neg hq)
      have HD := Lib.hid (fun W => rdec_c r.D.iv Y W (by omega) (by omega) hY.symm)
      have hYne : Y ≠ [] := by rw [hY]; exact decZ_ne _
      have hYn : wrtZ momT 1 r.D ≠ [] := by rw [hw]; exact hYne
      obtain ⟨S2, hS2⟩ : ∃ S2, S2 = S1 ++ [59, 73, 78, 84, 69, 82, 86, 65, 76, 61] := ⟨_, rfl⟩
      have hc1 : (⟨S1.toArray⟩ : ByteArray) ++ ⟨#[59, 73, 78, 84, 69, 82, 86, 65, 76, 61]⟩ = ⟨S2.toArray⟩ := by rw [hS2]; exact catb _ _
      have hS2l : S2.length ≤ 3200 := by rw [hS2, List.length_append]; simp; omega
      have hc2 : (⟨S2.toArray⟩ : ByteArray) ++ ⟨Y.toArray⟩ = ⟨T2.toArray⟩ := by
        rw [catb, HT2.out, preT_yes H0w.out hYn (by decide), ← HS1.out, hS2]
        unfold ptxZ
        rw [hw]
        simp [ptW]
      have hYl : Y.length ≤ 3200 := by
        have := congrArg (fun b : ByteArray => b.size) hc2
        simp [ByteArray.size] at this
        omega
      clear hq hw hYn hYne hS2 hY
      go_wp2_with (go_at_call 37; (with_reducible refine (HD.out _).mono ?_); rintro e w2 ⟨rfl, hE2⟩)
      go_meet
      exact ⟨rfl, hE2⟩
  case rest =>
  obtain ⟨rfl, hEa⟩ := hcut
  clear g1 g2 g3
  have hXX := HX1.out.trans hEa
  have hBz := HB.out.ext hXX
  have hBl := hBz.1
  obtain ⟨-, g1, g2, g3, -, -, -, -, -, -, -, -, -, -⟩ := hBz.all
  have HXX := Lib.hid hXX
  clear hXX hBz hEa HX1
  have HX1 := HXX
  clear HXX
  obtain ⟨T3, hT3⟩ : ∃ s, s = preT r.D 3 := ⟨_, rfl⟩
  have hlN : T3.length ≤ 3100 := by rw [hT3]; exact HPl.out 3 (by decide) (by decide)
  have HT3 := Lib.hid hT3
  clear hT3
  obtain ⟨V, hVw⟩ : ∃ V, V = wc := ⟨_, rfl⟩
  subst hVw
  go_upto_if 28 with fail
  go_cut [4] from 26 to 34 (fun x wx => x = .string ⟨T3.toArray⟩ ∧ Ext V wx)
  case first =>
    by_cases hq : r.D.ct = 0
    · have t1 : (r.D.ct == 0) = true := by simpa using hq
      have t2 : (r.D.ct != 0) = false := by simpa using hq
      have he : T3 = T2 := by rw [HT3.out, HT2.out]; exact preT_no (show (if r.D.ct = 0 then [] else decZ r.D.ct) = [] from if_pos hq)
      have He := Lib.hid he
      clear he hq
      go_wp2_with fail
      go_meet
      exact ⟨by rw [He.out], Ext.refl _⟩
    · have t1 : (r.D.ct == 0) = false := by simpa using hq
      have t2 : (r.D.ct != 0) = true := by simpa using hq
      obtain ⟨Y, hY⟩ : ∃ Y, Y = decZ r.D.ct := ⟨_, rfl⟩
      have hw : wrtZ momT 2 r.D = Y := by rw [hY]; exact (show (if r.D.ct = 0 then [] else decZ r.D.ct) = decZ r.D.ct from if_neg hq)
      have HD := Lib.hid (fun W => rdec_c r.D.ct Y W (by omega) (by omega) hY.symm)
      have hYne : Y ≠ [] := by rw [hY]; exact decZ_ne _
      have hYn : wrtZ momT 2 r.D ≠ [] := by rw [hw]; exact hYne
      obtain ⟨S2, hS2⟩ : ∃ S2, S2 = T2 ++ [59, 67, 79, 85, 78, 84, 61] := ⟨_, rfl⟩
      have hc1 : (⟨T2.toArray⟩ : ByteArray) ++ ⟨#[59, 67, 79, 85, 78, 84, 61]⟩ = ⟨S2.toArray⟩ := by rw [hS2]; exact catb _ _
      have hS2l : S2.length ≤ 3200 := by rw [hS2, List.length_append]; simp; omega
      have hc2 : (⟨S2.toArray⟩ : ByteArray) ++ ⟨Y.toArray⟩ = ⟨T3.toArray⟩ := by
        rw [catb, HT3.out, preT_yes H0w.out hYn (by decide), ← HT2.out, hS2]
        unfold ptxZ
        rw [hw]
        simp [ptW]
      have hYl : Y.length ≤ 3200 := by
        have := congrArg (fun b : ByteArray => b.size) hc2
        simp [ByteArray.size] at this
        omega
      clear hq hw hYn hYne hS2 hY
      go_wp2_with (go_at_call 37; (with_reducible refine (HD.out _).mono ?_); rintro e w2 ⟨rfl, hE2⟩)
      go_meet
      exact ⟨rfl, hE2⟩
  case rest =>
  obtain ⟨rfl, hEa⟩ := hcut
  clear g1 g2 g3
  have hXX := HX1.out.trans hEa
  have hBz := HB.out.ext hXX
  have hBl := hBz.1
  obtain ⟨-, g1, g2, g3, -, -, -, -, -, -, -, -, -, -⟩ := hBz.all
  have HXX := Lib.hid hXX
  clear hXX hBz hEa HX1
  have HX1 := HXX
  clear HXX
  obtain ⟨T4, hT4⟩ : ∃ s, s = preT r.D 4 := ⟨_, rfl⟩
  have hlN : T4.length ≤ 3100 := by rw [hT4]; exact HPl.out 4 (by decide) (by decide)
  have HT4 := Lib.hid hT4
  clear hT4
  obtain ⟨V, hVw⟩ : ∃ V, V = wc := ⟨_, rfl⟩
  subst hVw
  go_upto_if 37 with fail
  go_cut [4] from 35 to 43 (fun x wx => x = .string ⟨T4.toArray⟩ ∧ Ext V wx)
  case first =>
    by_cases hq : r.D.un = 0
    · have t1 : (r.D.un == 0) = true := by simpa using hq
      have t2 : (r.D.un != 0) = false := by simpa using hq
      have he : T4 = T3 := by rw [HT4.out, HT3.out]; exact preT_no (show (if r.D.un = 0 then [] else momT r.D.un) = [] from if_pos hq)
      have He := Lib.hid he
      clear he hq
      go_wp2_with fail
      go_meet
      exact ⟨by rw [He.out], Ext.refl _⟩
    · have t1 : (r.D.un == 0) = false := by simpa using hq
      have t2 : (r.D.un != 0) = true := by simpa using hq
      obtain ⟨Y, hY⟩ : ∃ Y, Y = momT r.D.un := ⟨_, rfl⟩
      have hw : wrtZ momT 3 r.D = Y := by rw [hY]; exact (show (if r.D.un = 0 then [] else momT r.D.un) = momT r.D.un from if_neg hq)
      have hlo : locZ r.D.un = true := by rcases HUn.out with h | h; exact absurd h hq; exact h.1
      have HD := Lib.hid (fun W => rumoment_c r.D.un Y W hlo hY.symm)
      have hYne : Y ≠ [] := fun e => by
        have := mom_ok.len _ hlo
        rw [← hY, e] at this
        cases this
      have hYn : wrtZ momT 3 r.D ≠ [] := by rw [hw]; exact hYne
      obtain ⟨S2, hS2⟩ : ∃ S2, S2 = T3 ++ [59, 85, 78, 84, 73, 76, 61] := ⟨_, rfl⟩
      have hc1 : (⟨T3.toArray⟩ : ByteArray) ++ ⟨#[59, 85, 78, 84, 73, 76, 61]⟩ = ⟨S2.toArray⟩ := by rw [hS2]; exact catb _ _
      have hS2l : S2.length ≤ 3200 := by rw [hS2, List.length_append]; simp; omega
      have hc2 : (⟨S2.toArray⟩ : ByteArray) ++ ⟨Y.toArray⟩ = ⟨T4.toArray⟩ := by
        rw [catb, HT4.out, preT_yes H0w.out hYn (by decide), ← HT3.out, hS2]
        unfold ptxZ
        rw [hw]
        simp [ptW]
      have hYl : Y.length ≤ 3200 := by
        have := congrArg (fun b : ByteArray => b.size) hc2
        simp [ByteArray.size] at this
        omega
      clear hq hw hYn hYne hS2 hY
      go_wp2_with (go_at_call 38; (with_reducible refine (HD.out _).mono ?_); rintro e w2 ⟨rfl, hE2⟩)
      go_meet
      exact ⟨rfl, hE2⟩
  case rest =>
  obtain ⟨rfl, hEa⟩ := hcut
  clear g1 g2 g3
  have hXX := HX1.out.trans hEa
  have hBz := HB.out.ext hXX
  have hBl := hBz.1
  obtain ⟨-, -, -, -, g4, g5, g6, g7, -, g9, g10, g11, g12, -⟩ := hBz.all
  have HXX := Lib.hid hXX
  clear hXX hBz hEa HX1
  obtain ⟨V, hVw⟩ : ∃ V, V = wc := ⟨_, rfl⟩
  subst hVw
  go_wp2_with fail
  obtain ⟨W9, hW9⟩ : ∃ W9, W9 = V.alloc (.cells #[.slice (r.a 0) r.D.mo.length (r.c 0), .slice (r.a 3) r.D.wk.length (r.c 3), .slice (r.a 2) r.D.yd.length (r.c 2), .slice (r.a 1) r.D.md.length (r.c 1), .slice none 0 0, .slice (r.a 5) r.D.ho.length (r.c 5), .slice (r.a 6) r.D.mi.length (r.c 6), .slice (r.a 7) r.D.se.length (r.c 7), .slice (r.a 8) r.D.po.length (r.c 8)] 22) := ⟨_, rfl⟩
  have hE9 : Ext V W9 := by rw [hW9]; exact (Ext.refl _).alloc _
  have hLl0 : V.heap.size < W9.heap.size := by rw [hW9]; simp
  have hLc : ∀ o, W9.cell? ⟨V.heap.size, o, none⟩ = (#[.slice (r.a 0) r.D.mo.length (r.c 0), .slice (r.a 3) r.D.wk.length (r.c 3), .slice (r.a 2) r.D.yd.length (r.c 2), .slice (r.a 1) r.D.md.length (r.c 1), .slice none 0 0, .slice (r.a 5) r.D.ho.length (r.c 5), .slice (r.a 6) r.D.mi.length (r.c 6), .slice (r.a 7) r.D.se.length (r.c 7), .slice (r.a 8) r.D.po.length (r.c 8)] : Array Value)[o]? := fun o => by rw [hW9]; exact World.cell?_alloc_new _ _ _ _
  rw [← hW9]
  have HX9 := Lib.hid (HXX.out.trans hE9)
  have HRow : Hid (∀ i, i < 9 → i ≠ 4 → ∃ (l : List Int) (ao : Option Addr) (cap : Nat), W9.cell? ⟨V.heap.size, i, none⟩ = some (.slice ao l.length cap) ∧ IsV ao cap l W9 ∧ l.length ≤ 60 ∧ (∀ n ∈ l, -999 ≤ n ∧ n ≤ 999) ∧ wrtZ momT (4 + i) r.D = numsT l) := fun i hi h4 => by
    obtain ⟨n1, n2, n3, n4, n5, n6, n7, n8⟩ := HN.out
    have hv := HVe.out.ext HX9.out
    rcases (show i = 0 ∨ i = 1 ∨ i = 2 ∨ i = 3 ∨ i = 5 ∨ i = 6 ∨ i = 7 ∨ i = 8 by omega) with rfl | rfl | rfl | rfl | rfl | rfl | rfl | rfl
    · exact ⟨r.D.mo, r.a 0, r.c 0, (hLc 0).trans rfl, hv.mo, n1.1, n1.2, rfl⟩
    · exact ⟨r.D.wk, r.a 3, r.c 3, (hLc 1).trans rfl, hv.wk, n4.1, n4.2, rfl⟩
    · exact ⟨r.D.yd, r.a 2, r.c 2, (hLc 2).trans rfl, hv.yd, n3.1, n3.2, rfl⟩
    · exact ⟨r.D.md, r.a 1, r.c 1, (hLc 3).trans rfl, hv.md, n2.1, n2.2, rfl⟩
    · exact ⟨r.D.ho, r.a 5, r.c 5, (hLc 5).trans rfl, hv.ho, n5.1, n5.2, rfl⟩
    · exact ⟨r.D.mi, r.a 6, r.c 6, (hLc 6).trans rfl, hv.mi, n6.1, n6.2, rfl⟩
    · exact ⟨r.D.se, r.a 7, r.c 7, (hLc 7).trans rfl, hv.se, n7.1, n7.2, rfl⟩
    · exact ⟨r.D.po, r.a 8, r.c 8, (hLc 8).trans rfl, hv.po, n8.1, n8.2, rfl⟩
  have HL4 : Hid (W9.cell? ⟨V.heap.size, 4, none⟩ = some (.slice none 0 0)) := (hLc 4).trans rfl
  clear hE9 hW9 hLc g4 g5 g6 g7 g9 g10 g11 g12
  generalize V.heap.size = L at *
  go_loopw [4, 6] (fun s i wr => ∃ j : Nat, j ≤ 9 ∧ i = .int .i64 (j : Int) ∧ s = .string ⟨(preT r.D (4 + j)).toArray⟩ ∧ Ext W9 wr) (fun _ i _ => 9 - (intOf i).toNat)
  case atStart => exact ⟨0, by omega, rfl, by rw [HT4.out], Ext.refl _⟩
  case round =>
    obtain ⟨i, hi, rfl, rfl, hE⟩ := hrel
    have hPl := HPl.out (4 + i) (by omega) (by omega)
    obtain ⟨S, hS⟩ : ∃ S, S = preT r.D (4 + i) := ⟨_, rfl⟩
    rw [← hS] at hPl ⊢
    have HSe := Lib.hid hS
    have HE := Lib.hid hE
    have hXr := HX9.out.trans hE
    have hBz := HB.out.ext hXr
    have hBl := hBz.1
    obtain ⟨-, -, -, -, -, -, -, -, g8, -, -, -, -, g13⟩ := hBz.all
    have hLl := hE.lt hLl0
    have HXr := Lib.hid hXr
    clear hS hE hBz hXr
    by_cases hlt : i < 9
    · have hPn := HPl.out (4 + (i + 1)) (by omega) (by omega)
      obtain ⟨S4, hS4⟩ : ∃ S4, S4 = preT r.D (4 + (i + 1)) := ⟨_, rfl⟩
      rw [← hS4] at hPn
      have HS4 := Lib.hid hS4
      clear hS4
      by_cases h4 : i = 4
      · subst h4
        have y0 := (HE.out.cells L 4 hLl0).trans HL4.out
        by_cases hd : r.D.da = []
        · have hd0 : r.D.da.length = 0 := by rw [hd]; rfl
          have he : S4 = S := by rw [HS4.out, HSe.out]; exact preT_no (show daysTx r.D.da = [] by rw [hd]; rfl)
          have He := Lib.hid he
          clear he hd
          go_wp2_with fail
          go_roundw
          case rel => exact ⟨5, by omega, by go_num, by rw [← HS4.out, He.out], HE.out⟩
          case measure => simp [intOf]
        · have hd0 : 0 < r.D.da.length := List.length_pos_iff.2 hd
          have td : decide ((0 : Int) < (r.D.da.length : Int)) = true := decide_eq_true (by omega)
          obtain ⟨Y, hY⟩ : ∃ Y, Y = daysTx r.D.da := ⟨_, rfl⟩
          have HD := Lib.hid (fun W (hE : Ext wr W) => rdaysT_c r.D.da (r.a 4) (r.c 4) Y W ((HVe.out.ext HXr.out).da.ext hE) HDo.out (by omega) hY.symm)
          have hok : daysTx r.D.da = daysT r.D.da := daysTx_ok HDk.out
          have hYne : wrtZ momT 8 r.D ≠ [] := by
            show daysTx r.D.da ≠ []
            rw [hok]; exact daysT_ne HDk.out hd
          have hw : wrtZ momT 8 r.D = Y := by rw [hY]; rfl
          obtain ⟨S2, hS2⟩ : ∃ S2, S2 = S ++ [59, 66, 89, 68, 65, 89, 61] := ⟨_, rfl⟩
          have hc1 : (⟨S.toArray⟩ : ByteArray) ++ ⟨#[59, 66, 89, 68, 65, 89, 61]⟩ = ⟨S2.toArray⟩ := by rw [hS2]; exact catb _ _
          have hS2l : S2.length ≤ 3200 := by rw [hS2, List.length_append]; simp; omega
          have hc2 : (⟨S2.toArray⟩ : ByteArray) ++ ⟨Y.toArray⟩ = ⟨S4.toArray⟩ := by
            rw [catb, HS4.out, show 4 + (4 + 1) = 8 + 1 from rfl, preT_yes H0w.out hYne (by decide), show preT r.D 8 = S from HSe.out.symm, hS2]
            unfold ptxZ
            rw [hw]
            simp [ptW]
          have hYl : Y.length ≤ 3200 := by
            have := congrArg (fun b : ByteArray => b.size) hc2
            simp [ByteArray.size] at this
            omega
          clear hd hS2 hY hok hYne hw
          go_wp2_with (go_at_call 26; (with_reducible refine (HD.out _ (Ext.refl _)).mono ?_); rintro e w2 ⟨rfl, hE2⟩; have y1 := (hE2.cells L 4 hLl).trans y0; have hLl2 := hE2.lt hLl)
          go_roundw
          case rel => exact ⟨5, by omega, by go_num, by rw [← HS4.out], HE.out.trans hE2⟩
          case measure => simp [intOf]
      · obtain ⟨l, ao, cap, hc0, hlV, hl60, hlb, hlw⟩ := HRow.out i hlt h4
        have y0 := (HE.out.cells L i hLl0).trans hc0
        have t4 : ((i : Int) == 4) = false := by rw [beq_eq_false_iff_ne]; omega
        by_cases hle : l = []
        · have hl0 : l.length = 0 := by rw [hle]; rfl
          have he : S4 = S := by rw [HS4.out, HSe.out, ← Nat.add_assoc]; exact preT_no (by rw [hlw, hle]; rfl)
          have He := Lib.hid he
          rw [hl0] at y0
          clear he hle hlV hlw hc0 h4
          go_wp2_with fail
          go_roundw
          case rel => exact ⟨i + 1, by omega, by go_num, by rw [← HS4.out, He.out], HE.out⟩
          case measure => simp [intOf]; omega
        · have hl0 : 0 < l.length := List.length_pos_iff.2 hle
          have td : decide ((0 : Int) < (l.length : Int)) = true := decide_eq_true (by omega)
          have td0 : decide (0 < l.length) = true := decide_eq_true hl0
          obtain ⟨X, hX⟩ : ∃ X, X = numsT l := ⟨_, rfl⟩
          have HJ := Lib.hid (fun W (hE : Ext wr W) => rjoin_c l ao cap X W ((hlV.ext HE.out).ext hE) (fun n hn => by have := hlb n hn; omega) (by omega) hX.symm)
          have hYne : wrtZ momT (4 + i) r.D ≠ [] := by rw [hlw]; exact numsT_ne hle
          have hw : wrtZ momT (4 + i) r.D = X := by rw [hlw, hX]
          obtain ⟨Nm, hNm⟩ : ∃ Nm, ptW.getD (4 + i) [] = Nm := ⟨_, rfl⟩
          have hi14 : 4 + i < 14 := by omega
          obtain ⟨S1, hS1⟩ : ∃ S1, S1 = S ++ [59] := ⟨_, rfl⟩
          obtain ⟨S2, hS2⟩ : ∃ S2, S2 = S1 ++ Nm := ⟨_, rfl⟩
          obtain ⟨S3, hS3⟩ : ∃ S3, S3 = S2 ++ [61] := ⟨_, rfl⟩
          have hc4 : S3 ++ X = S4 := by
            rw [HS4.out, ← Nat.add_assoc, preT_yes H0w.out hYne (by omega), ← HSe.out, hS3, hS2, hS1]
            unfold ptxZ
            rw [hw, hNm]
            simp
          have hl4 : S4.length ≤ 1000000000000 := by omega
          have hlen := congrArg List.length hc4
          rw [List.length_append] at hlen
          have hl3 : S3.length ≤ 1000000000000 := by omega
          have hlen3 := congrArg List.length hS3
          rw [List.length_append] at hlen3
          have hl2 : S2.length ≤ 1000000000000 := by omega
          have hlen2 := congrArg List.length hS2
          rw [List.length_append] at hlen2
          have hl1 : S1.length ≤ 1000000000000 := by omega
          have hc1 : S ++ [59] = S1 := hS1.symm
          have hc2 : S1 ++ Nm = S2 := hS2.symm
          have hc3 : S2 ++ [61] = S3 := hS3.symm
          have hadd : IntKind.i64.wrap (4 + (i : Int)) = ((4 + i : Nat) : Int) := by
            rw [show (4 : Int) + (i : Int) = ((4 + i : Nat) : Int) by omega]; exact wrap64n _ (by omega)
          clear hlen hlen2 hlen3 hS1 hS2 hS3 hX hYne hw hle hlV hlw hc0 h4
          go_upto_region 17 with fail
          have hi9 := hlt
          refine wp_region_grow [87, 88, 89, 90, 91, 92, 93, 94, 95, 96, 97, 98, 99, 100, 101] [fun x _ => x = .string ⟨S.toArray⟩, fun x _ => x = .string ⟨S1.toArray⟩, SlS ptW 14, fun x _ => x = .int .i64 (i : Int), fun x _ => x = .int .i64 ((4 + i : Nat) : Int), PtS ptW (4 + i), fun x _ => x = .string ⟨Nm.toArray⟩, fun x _ => x = .string ⟨S2.toArray⟩, fun x _ => x = .string ⟨S3.toArray⟩, fun x _ => x = .slice (some ⟨L, 0, none⟩) 9 9, fun x _ => x = .int .i64 (i : Int), fun x _ => x = .pointer (some ⟨L, i, none⟩), fun x _ => x = .slice ao l.length cap, fun x _ => x = .string ⟨X.toArray⟩, fun x _ => x = .string ⟨S4.toArray⟩] 1 (by kernel_rfl) (by kernel_rfl) (by kernel_rfl) (by kernel_rfl) ?_ ?_ ?_
          · intro Rl hRl
            simp only [List.mem_cons, List.not_mem_nil, or_false] at hRl
            rcases hRl with rfl | rfl | rfl | rfl | rfl | rfl | rfl | rfl | rfl | rfl | rfl | rfl | rfl | rfl | rfl
            all_goals first
              | exact fun _ _ _ h _ => h
              | exact fun _ _ _ h hE => SlS.ext h hE
              | exact fun _ _ _ h hE => PtS.ext h hE
          · refine ⟨?_, ?_, ?_, ?_, ?_, ?_, ?_, ?_, ?_, ?_, ?_, ?_, ?_, ?_, ?_, trivial⟩
            all_goals intro a w hE hF hD K hK
            · exact gs_val rfl (yr_move rfl ((hF 4 (fr_of rfl)).trans rfl)) (hK _ _ rfl (Ext.refl _))
            · have u87 : a.eval (.tmp 87) = .string ⟨S.toArray⟩ := hD 0 (by kernel_rfl)
              exact gs_val rfl (yr_addt rfl u87 rfl hl1 hc1) (hK _ _ rfl (Ext.refl _))
            · exact gs_call rfl (yr_call rfl rfl (show (#[] : Array Operand).map a.eval = #[] by simp only [List.map_toArray, List.map_cons, List.map_nil] <;> rfl) (by kernel_rfl)) ((rnms_c w).mono fun e w' ⟨⟨H, h1, h2⟩, h3⟩ => ⟨_, h1, ⟨H, rfl, h2⟩, h3⟩) hK
            · exact gs_val rfl (yr_move rfl ((hF 6 (fr_of rfl)).trans rfl)) (hK _ _ rfl (Ext.refl _))
            · have u90 : a.eval (.tmp 90) = .int .i64 (i : Int) := hD 3 (by kernel_rfl)
              exact gs_val rfl (yr_add31 rfl rfl u90 hadd) (hK _ _ rfl (Ext.refl _))
            · have u89 : (SlS ptW 14) (a.eval (.tmp 89)) w := hD 2 (by kernel_rfl)
              have u91 : a.eval (.tmp 91) = .int .i64 ((4 + i : Nat) : Int) := hD 4 (by kernel_rfl)
              obtain ⟨H, q89, hH⟩ := u89
              exact gs_val rfl (yr_idxa rfl q89 u91 (ix_s H 14 14 (4 + i) w hi14)) (hK _ _ ⟨H, rfl, hH⟩ (Ext.refl _))
            · have u92 : (PtS ptW (4 + i)) (a.eval (.tmp 92)) w := hD 5 (by kernel_rfl)
              obtain ⟨H, q92, hH⟩ := u92
              exact gs_val rfl (yr_load rfl q92 (ld_st _ _ _ (rdS_get hH hi14 hNm))) (hK _ _ rfl (Ext.refl _))
            · have u88 : a.eval (.tmp 88) = .string ⟨S1.toArray⟩ := hD 1 (by kernel_rfl)
              have u93 : a.eval (.tmp 93) = .string ⟨Nm.toArray⟩ := hD 6 (by kernel_rfl)
              exact gs_val rfl (yr_addt rfl u88 u93 hl2 hc2) (hK _ _ rfl (Ext.refl _))
            · have u94 : a.eval (.tmp 94) = .string ⟨S2.toArray⟩ := hD 7 (by kernel_rfl)
              exact gs_val rfl (yr_addt rfl u94 rfl hl3 hc3) (hK _ _ rfl (Ext.refl _))
            · exact gs_val rfl (yr_move rfl ((hF 5 (fr_of rfl)).trans rfl)) (hK _ _ rfl (Ext.refl _))
            · exact gs_val rfl (yr_move rfl ((hF 6 (fr_of rfl)).trans rfl)) (hK _ _ rfl (Ext.refl _))
            · have u96 : a.eval (.tmp 96) = .slice (some ⟨L, 0, none⟩) 9 9 := hD 9 (by kernel_rfl)
              have u97 : a.eval (.tmp 97) = .int .i64 (i : Int) := hD 10 (by kernel_rfl)
              exact gs_val rfl (yr_idxa rfl u96 u97 (ix_ll L i w hi9)) (hK _ _ rfl (Ext.refl _))
            · have u98 : a.eval (.tmp 98) = .pointer (some ⟨L, i, none⟩) := hD 11 (by kernel_rfl)
              exact gs_val rfl (yr_load rfl u98 (ld_is _ _ _ ((hE.cells L i hLl).trans y0))) (hK _ _ rfl (Ext.refl _))
            · have u99 : a.eval (.tmp 99) = .slice ao l.length cap := hD 12 (by kernel_rfl)
              have q0 : a.eval (.tmp 99) = .slice ao l.length cap := u99
              exact gs_call rfl (yr_call rfl rfl (show (#[Operand.tmp 99] : Array Operand).map a.eval = #[.slice ao l.length cap] by simp only [List.map_toArray, List.map_cons, List.map_nil, q0] <;> rfl) (by kernel_rfl)) ((HJ.out w hE).mono fun e w' ⟨h1, h2⟩ => ⟨_, h1, rfl, h2⟩) hK
            · have u95 : a.eval (.tmp 95) = .string ⟨S3.toArray⟩ := hD 8 (by kernel_rfl)
              have u100 : a.eval (.tmp 100) = .string ⟨X.toArray⟩ := hD 13 (by kernel_rfl)
              exact gs_val rfl (yr_addt rfl u95 u100 hl4 hc4) (hK _ _ rfl (Ext.refl _))
          intro vals wz hEz hRz
          obtain ⟨-, -, -, -, -, -, -, -, -, -, -, -, -, -, h14, -⟩ := hRz
          have e101 : vals 14 = .string ⟨S4.toArray⟩ := h14
          simp only [putF, Act.put, List.length_cons, List.length_nil, List.getD_cons_zero, List.getD_cons_succ, List.setIfInBounds_toArray, List.set_cons_zero, List.set_cons_succ, Nat.reduceAdd, e101]
          clear e101
          refine wpAny_one (i := 15) (o := ⟨some 4, .assign (.tmp 101), _, _, _, _⟩) (by kernel_rfl) rfl (by rfl) (by exact yr_assign rfl rfl) ?_
          refine wpAny_done (by kernel_rfl) ?_ _
          simp only [Act.put, List.setIfInBounds_toArray, List.set_cons_zero, List.set_cons_succ]
          go_wp2_with fail
          go_roundw
          case rel => exact ⟨i + 1, by omega, by go_num, by rw [← HS4.out]; rfl, HE.out.trans hEz⟩
          case measure => simp [intOf]; omega
    · obtain rfl : i = 9 := by omega
      have hSfl : (txtZ momT r.D).length ≤ 3100 := by rw [← preT_14]; exact HPl.out 14 (by decide) (by decide)
      by_cases hq : r.D.ws = 1
      · have t1 : (r.D.ws == 1) = true := by simpa using hq
        have t2 : (r.D.ws != 1) = false := by simpa using hq
        have he : S = txtZ momT r.D := by rw [← preT_14, HSe.out]; exact (preT_no (R := r.D) (k := 13) (show (if r.D.ws = 1 then [] else wkW.getD (r.D.ws - 1).toNat []) = [] from if_pos hq)).symm
        have He := Lib.hid he
        clear he hq hSfl
        go_wp2_with fail
        go_ret2
        exact ⟨by rw [He.out]; rfl, HE0.out.trans HXr.out⟩
      · have t1 : (r.D.ws == 1) = false := by simpa using hq
        have t2 : (r.D.ws != 1) = true := by simpa using hq
        obtain ⟨m, hm⟩ : ∃ m : Nat, r.D.ws = (m : Int) + 1 := ⟨(r.D.ws - 1).toNat, by omega⟩
        have hm7 : m < 7 := by omega
        have hsub : IntKind.i64.wrap (r.D.ws - 1) = (m : Int) := by rw [hm, show (m : Int) + 1 - 1 = (m : Int) by omega]; exact wrap64n m (by omega)
        obtain ⟨Fw, hFw⟩ : ∃ Fw, wkW.getD m [] = Fw := ⟨_, rfl⟩
        have hw : wrtZ momT 13 r.D = Fw := by
          show (if r.D.ws = 1 then [] else wkW.getD (r.D.ws - 1).toNat []) = Fw
          rw [if_neg hq, show (r.D.ws - 1).toNat = m by omega, hFw]
        have hFne : wrtZ momT 13 r.D ≠ [] := by
          rw [hw, ← hFw]
          exact (show ∀ k, k < 7 → wkW.getD k [] ≠ [] by decide) m hm7
        obtain ⟨S1, hS1⟩ : ∃ S1, S1 = S ++ [59, 87, 75, 83, 84, 61] := ⟨_, rfl⟩
        obtain ⟨S2, hS2⟩ : ∃ S2, S2 = txtZ momT r.D := ⟨_, rfl⟩
        have hc2 : S1 ++ Fw = S2 := by
          rw [hS2, ← preT_14, show (14 : Nat) = 13 + 1 from rfl, preT_yes H0w.out hFne (by decide), show preT r.D 13 = S from HSe.out.symm, hS1]
          unfold ptxZ
          rw [hw]
          simp [ptW]
        have hlen := congrArg List.length hc2
        rw [List.length_append] at hlen
        have hl2 : S2.length ≤ 1000000000000 := by rw [hS2]; omega
        have hl1 : S1.length ≤ 1000000000000 := by omega
        have hc1 : S ++ [59, 87, 75, 83, 84, 61] = S1 := hS1.symm
        have HS2 := Lib.hid hS2
        have c13 := g13
        clear hlen hS1 hS2 hw hFne hm hq hSfl
        go_upto_region 19 with fail
        refine wp_region_grow [105, 106, 107, 108, 109, 110, 111, 112, 113] [fun x _ => x = .string ⟨S.toArray⟩, fun x _ => x = .string ⟨S1.toArray⟩, SlS wkW 7, fun x _ => x = .pointer (some ⟨B, 13, none⟩), fun x _ => x = .int .i64 r.D.ws, fun x _ => x = .int .i64 (m : Int), PtS wkW m, fun x _ => x = .string ⟨Fw.toArray⟩, fun x _ => x = .string ⟨S2.toArray⟩] 1 (by kernel_rfl) (by kernel_rfl) (by kernel_rfl) (by kernel_rfl) ?_ ?_ ?_
        · intro Rl hRl
          simp only [List.mem_cons, List.not_mem_nil, or_false] at hRl
          rcases hRl with rfl | rfl | rfl | rfl | rfl | rfl | rfl | rfl | rfl
          all_goals first
            | exact fun _ _ _ h _ => h
            | exact fun _ _ _ h hE => SlS.ext h hE
            | exact fun _ _ _ h hE => PtS.ext h hE
        · refine ⟨?_, ?_, ?_, ?_, ?_, ?_, ?_, ?_, ?_, trivial⟩
          all_goals intro a w hE hF hD K hK
          · exact gs_val rfl (yr_move rfl ((hF 4 (fr_of rfl)).trans rfl)) (hK _ _ rfl (Ext.refl _))
          · have u105 : a.eval (.tmp 105) = .string ⟨S.toArray⟩ := hD 0 (by kernel_rfl)
            exact gs_val rfl (yr_addt rfl u105 rfl hl1 hc1) (hK _ _ rfl (Ext.refl _))
          · exact gs_call rfl (yr_call rfl rfl (show (#[] : Array Operand).map a.eval = #[] by simp only [List.map_toArray, List.map_cons, List.map_nil] <;> rfl) (by kernel_rfl)) ((rwkd_c w).mono fun e w' ⟨⟨H, h1, h2⟩, h3⟩ => ⟨_, h1, ⟨H, rfl, h2⟩, h3⟩) hK
          · exact gs_val rfl (yr_field rfl ((hF 1 (fr_of rfl)).trans rfl) (by go_simp)) (hK _ _ rfl (Ext.refl _))
          · have u108 : a.eval (.tmp 108) = .pointer (some ⟨B, 13, none⟩) := hD 3 (by kernel_rfl)
            exact gs_val rfl (yr_load rfl u108 (ld_n _ _ _ ((hE.cells B 13 hBl).trans c13))) (hK _ _ rfl (Ext.refl _))
          · have u109 : a.eval (.tmp 109) = .int .i64 r.D.ws := hD 4 (by kernel_rfl)
            exact gs_val rfl (yr_sub30 rfl u109 rfl hsub) (hK _ _ rfl (Ext.refl _))
          · have u107 : (SlS wkW 7) (a.eval (.tmp 107)) w := hD 2 (by kernel_rfl)
            have u110 : a.eval (.tmp 110) = .int .i64 (m : Int) := hD 5 (by kernel_rfl)
            obtain ⟨H, q107, hH⟩ := u107
            exact gs_val rfl (yr_idxa rfl q107 u110 (ix_s H 7 7 m w hm7)) (hK _ _ ⟨H, rfl, hH⟩ (Ext.refl _))
          · have u111 : (PtS wkW m) (a.eval (.tmp 111)) w := hD 6 (by kernel_rfl)
            obtain ⟨H, q111, hH⟩ := u111
            exact gs_val rfl (yr_load rfl q111 (ld_st _ _ _ (rdS_get hH hm7 hFw))) (hK _ _ rfl (Ext.refl _))
          · have u106 : a.eval (.tmp 106) = .string ⟨S1.toArray⟩ := hD 1 (by kernel_rfl)
            have u112 : a.eval (.tmp 112) = .string ⟨Fw.toArray⟩ := hD 7 (by kernel_rfl)
            exact gs_val rfl (yr_addt rfl u106 u112 hl2 hc2) (hK _ _ rfl (Ext.refl _))
        intro vals wz hEz hRz
        obtain ⟨-, -, -, -, -, -, -, -, h8, -⟩ := hRz
        have e113 : vals 8 = .string ⟨S2.toArray⟩ := h8
        simp only [putF, Act.put, List.length_cons, List.length_nil, List.getD_cons_zero, List.getD_cons_succ, List.setIfInBounds_toArray, List.set_cons_zero, List.set_cons_succ, Nat.reduceAdd, e113]
        clear e113
        refine wpAny_one (i := 9) (o := ⟨some 4, .assign (.tmp 113), _, _, _, _⟩) (by kernel_rfl) rfl (by rfl) (by exact yr_assign rfl rfl) ?_
        refine wpAny_done (by kernel_rfl) ?_ _
        simp only [Act.put, List.setIfInBounds_toArray, List.set_cons_zero, List.set_cons_succ]
        go_wp2_with fail
        go_ret2
        exact ⟨by rw [← HS2.out]; rfl, HE0.out.trans (HXr.out.trans hEz)⟩
end Go.Proofs.YtgndogpgfgliaaaGreatDoor
