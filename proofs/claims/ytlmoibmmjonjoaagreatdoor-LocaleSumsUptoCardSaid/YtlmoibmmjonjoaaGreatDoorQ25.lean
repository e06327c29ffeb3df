/- Locales: the walk of Relative. -/
import Derived.Test.YtlmoibmmjonjoaaGreatDoorQ21
import Derived.Test.YtlmoibmmjonjoaaGreatDoorQ24
namespace Go.Proofs.YtlmoibmmjonjoaaGreatDoor
set_option linter.unusedVariables false
set_option linter.unusedSimpArgs false
open Go.RowKit

theorem reV_e {L : Loc} {t now : Int} {e : Nat} (h : reE L t now = e) (h0 : e ≠ 0) : reV L t now = [] := by
  unfold reV
  rw [if_pos (by rw [h]; exact h0)]
theorem reV_eq {L : Loc} {t : Int} (h : validLB L = true) (ht : tmB t = true) : reE L t t = 0 ∧ reV L t t = amt L.P (lastF L.U) 0 := by
  have h1 : reE L t t = 0 := by unfold reE; simp [h, ht]
  exact ⟨h1, by unfold reV; simp [h1]⟩
theorem reV_ne {L : Loc} {t now : Int} {d m : Nat} (h : validLB L = true) (ht : tmB t = true) (hn : tmB now = true) (hne : t ≠ now) (hd : (t - now).natAbs = d) (hm : uIx L.U d = m) (hml : m < L.U.length) :
    reE L t now = 0 ∧ reV L t now = (if now < t then 43 else 45) :: amt L.P (L.U[m]).f (d / (L.U[m]).s.natAbs) := by
  have h1 : reE L t now = 0 := by unfold reE; simp [h, ht, hn]
  refine ⟨h1, ?_⟩
  unfold reV
  rw [if_neg (by rw [h1]; simp), if_neg hne, hd]
  simp only [hm, List.getElem?_eq_getElem hml]
  rfl
theorem tm_b {t : Int} (h : tmB t = true) : -62135596800 ≤ t ∧ t ≤ 253402300800 := of_decide_eq_true h
set_option maxRecDepth 100000 in
set_option maxHeartbeats 2000000 in
theorem relative_0 (L : Loc) (t : Int) (w : World) (h : LcV L w) (hs : shL L) (hm : Lm w) (hNl : ∀ s ∈ L.N.all, s.length ≤ 2000000) (hv : validLB L = true) (ht : tmB t = true) :
    Calls Tryz.prog 20 #[.agg L.vals.toArray, .int .i64 t, .int .i64 t] w fun e w' => e = .returned (.tuple #[.string ⟨(reV L t t).toArray⟩, .int .i64 (reE L t t : Int)]) ∧ Ext w w' := by
  obtain ⟨v1, v2⟩ := reV_eq hv ht
  have HAR := Lib.hid (fun (w' : World) (hE : Ext w w') (i : Nat) (hi : i < L.U.length) => amR_of (h.ext hE) hs hv i hi)
  have HUF := Lib.hid (uf_of (vu hv).1 (vu hv).2)
  obtain ⟨Y, hY⟩ : ∃ Y, Y = reV L t t := ⟨_, rfl⟩
  rw [v1, ← hY]
  rw [v2] at hY
  have HVl := Lib.hid hv
  have HT := Lib.hid ht
  clear v1 v2 hv ht
  have hIL := loc_size h.1
  have hE0 : Ext w (w.alloc (.cells L.vals.toArray 30)) := (Ext.refl w).alloc _
  have hB := LcB.new L w 30
  have hV := h.ext hE0
  obtain ⟨g0, g1, g2, g3, g4⟩ := hB.cells h.1
  have HV := Lib.hid hV
  have HBk := Lib.hid hB
  have HE0 := Lib.hid hE0
  have HNl := Lib.hid hNl
  have Hs := Lib.hid hs
  have HMl := Lib.hid hm
  have HM0 := Lib.hid (hm.ext hE0)
  have hR := hB.2
  obtain ⟨R, off, hua, hzR, hcu⟩ := hV.2.2.2.2.2.1 (by have := HUF.out.one; intro e; rw [e] at this; simp at this)
  have hul := hV.2.2.2.1
  have hul2 := hV.2.2.2.2.1
  unfold maxLen at hul2
  have HCu := Lib.hid hcu
  rw [hua] at g3
  clear hs hNl h hE0 hB hV hm g0 g1 g2 g4 hcu
  obtain ⟨z, hz⟩ : ∃ z, z = L.U.length - 1 := ⟨_, rfl⟩
  have hzl : z < L.U.length := by have := HUF.out.one; omega
  have HzI : Hid (IntKind.i64.wrap ((L.U.length : Int) - 1) = (z : Int)) := by
    rw [Hid, IntWalk.i64_in _ (by have := HUF.out.ten; omega)]; omega
  obtain ⟨c0, c1⟩ := HCu.out z hzl
  have HY : Hid (amt L.P (L.U[z]).f 0 = Y) := by
    rw [Hid, hY, lastF_eq HUF.out]; subst hz; rfl
  have HAm := Lib.hid (fun (w' : World) (hE : Ext w w') => amount_c L L.U[z] 0 Y w' (HAR.out w' hE z hzl) (by omega) (HMl.out.ext hE) HY.out)
  obtain ⟨u, hu⟩ : ∃ u, u = L.U[z] := ⟨_, rfl⟩
  rw [← hu] at c0 c1 HAm
  clear hu hY HY hz
  obtain ⟨us, uao, ucap, uf⟩ := u
  have HAm2 : Hid (∀ w', Ext w w' → Calls Tryz.prog 47 #[.agg L.vals.toArray, .int .i64 0, .agg #[.int .i64 us, .slice uao uf.length ucap]] w' fun e w'' => e = .returned (.string ⟨Y.toArray⟩) ∧ Ext w' w'') := HAm.out
  have HzL := Lib.hid hzl
  clear HAm hzl
  simp only at c0 c1
  go_enter Tryz.func20, Tryz.ntmps20
  go_upto_region 1 with fail
  generalize w.alloc (.cells L.vals.toArray 30) = W0 at *
  generalize w.heap.size = B at *
  go_upto_region 7 with (first
    | (refine load_midg (by rfl) 30 _ rfl B 0 rfl L.vals _ hR Tryz.underlying30 rfl hIL ?_)
    | (go_at_call 13; (with_reducible refine (valid_c L true _ HV.out Hs.out HM0.out HNl.out HVl.out).mono ?_); rintro e w1 ⟨rfl, hE1⟩)
    | (go_at_call 50; (with_reducible refine (in_c t true _ HT.out).mono ?_); rintro e w2 ⟨rfl, rfl⟩))
  have g3V := (hE1.cells B 43 HBk.out.1).trans g3
  have hRV := rng_ext hR HBk.out.1 hE1
  have hzBV := hE1.lt HBk.out.1
  have c0V := (hE1.cells R _ hzR).trans c0
  have c1V := (hE1.cells R _ hzR).trans c1
  have hzRV := hE1.lt hzR
  have hE01 := HE0.out.trans hE1
  refine wp_region_grow [31, 32, 33, 34, 35, 36, 37, 38, 39, 40, 6, 7] [fun x _ => x = .agg L.vals.toArray, fun x _ => x = .pointer (some ⟨B, 43, none⟩), fun x _ => x = .slice (some ⟨R, off, none⟩) L.U.length L.uc, fun x _ => x = .pointer (some ⟨B, 43, none⟩), fun x _ => x = .slice (some ⟨R, off, none⟩) L.U.length L.uc, fun x _ => x = .int .i64 (L.U.length : Int), fun x _ => x = .int .i64 (z : Int), fun x _ => x = .pointer (some ⟨R, off + z * 2, none⟩), fun x _ => x = .agg #[.int .i64 us, .slice uao uf.length ucap], fun x _ => x = .string ⟨Y.toArray⟩, fun x _ => x = .string ⟨Y.toArray⟩, fun x _ => x = .int .i64 0] 0 (by kernel_rfl) (by kernel_rfl) (by kernel_rfl) (by kernel_rfl) ?_ ?_ ?_
  · intro Rl hRl
    simp only [List.mem_cons, List.not_mem_nil, or_false] at hRl
    rcases hRl with rfl | rfl | rfl | rfl | rfl | rfl | rfl | rfl | rfl | rfl | rfl | rfl
    all_goals first
      | exact fun _ _ _ h _ => h
  · refine ⟨?_, ?_, ?_, ?_, ?_, ?_, ?_, ?_, ?_, ?_, ?_, ?_, trivial⟩
    all_goals intro a w hE hF hD K hK
    · exact gs_val rfl (yr_load rfl ((hF 3 (fr_of rfl)).trans rfl) (run_loadAt_mid w B 0 _ _ _ (rng_ext hRV hzBV hE) Tryz.underlying30 rfl hIL)) (hK _ _ rfl (Ext.refl _))
    · exact gs_val rfl (yr_field rfl ((hF 3 (fr_of rfl)).trans rfl) (by go_simp)) (hK _ _ rfl (Ext.refl _))
    · have u32 : a.eval (.tmp 32) = .pointer (some ⟨B, 43, none⟩) := hD 1 (by kernel_rfl)
      exact gs_val rfl (yr_load rfl u32 (ld_uns _ _ _ ((hE.cells B 43 hzBV).trans g3V))) (hK _ _ rfl (Ext.refl _))
    · exact gs_val rfl (yr_field rfl ((hF 3 (fr_of rfl)).trans rfl) (by go_simp)) (hK _ _ rfl (Ext.refl _))
    · have u34 : a.eval (.tmp 34) = .pointer (some ⟨B, 43, none⟩) := hD 3 (by kernel_rfl)
      exact gs_val rfl (yr_load rfl u34 (ld_uns _ _ _ ((hE.cells B 43 hzBV).trans g3V))) (hK _ _ rfl (Ext.refl _))
    · have u35 : a.eval (.tmp 35) = .slice (some ⟨R, off, none⟩) L.U.length L.uc := hD 4 (by kernel_rfl)
      exact gs_val rfl (yr_lenU rfl rfl Tryz.underlying28 u35) (hK _ _ rfl (Ext.refl _))
    · have u36 : a.eval (.tmp 36) = .int .i64 (L.U.length : Int) := hD 5 (by kernel_rfl)
      exact gs_val rfl (yr_subi rfl u36 rfl HzI.out) (hK _ _ rfl (Ext.refl _))
    · have u33 : a.eval (.tmp 33) = .slice (some ⟨R, off, none⟩) L.U.length L.uc := hD 2 (by kernel_rfl)
      have u37 : a.eval (.tmp 37) = .int .i64 (z : Int) := hD 6 (by kernel_rfl)
      exact gs_val rfl (yr_idxa rfl u33 u37 (ix_un R off _ _ z w HzL.out)) (hK _ _ rfl (Ext.refl _))
    · have u38 : a.eval (.tmp 38) = .pointer (some ⟨R, off + z * 2, none⟩) := hD 7 (by kernel_rfl)
      exact gs_val rfl (yr_load rfl u38 (ld_un R (off + z * 2) _ _ w ((hE.cells R _ hzRV).trans c0V) ((hE.cells R _ hzRV).trans c1V))) (hK _ _ rfl (Ext.refl _))
    · have u31 : a.eval (.tmp 31) = .agg L.vals.toArray := hD 0 (by kernel_rfl)
      have u39 : a.eval (.tmp 39) = .agg #[.int .i64 us, .slice uao uf.length ucap] := hD 8 (by kernel_rfl)
      have q0 : a.eval (.tmp 31) = .agg L.vals.toArray := u31
      have q2 : a.eval (.tmp 39) = .agg #[.int .i64 us, .slice uao uf.length ucap] := u39
      exact gs_call rfl (yr_call rfl rfl (show (#[Operand.tmp 31, Operand.const (.int .i64 0), Operand.tmp 39] : Array Operand).map a.eval = #[.agg L.vals.toArray, .int .i64 0, .agg #[.int .i64 us, .slice uao uf.length ucap]] by simp only [List.map_toArray, List.map_cons, List.map_nil, q0, q2] <;> rfl) (by kernel_rfl)) ((HAm2.out w (hE01.trans hE)).mono fun e w' ⟨h1, h2⟩ => ⟨_, h1, rfl, h2⟩) hK
    · have u40 : a.eval (.tmp 40) = .string ⟨Y.toArray⟩ := hD 9 (by kernel_rfl)
      exact gs_val rfl (yr_assign rfl u40) (hK _ _ rfl (Ext.refl _))
    · exact gs_val rfl (yr_assign rfl rfl) (hK _ _ rfl (Ext.refl _))
  intro vals wz hEz hRz
  obtain ⟨-, -, -, -, -, -, -, -, -, -, h10, h11, -⟩ := hRz
  have e6 : vals 10 = .string ⟨Y.toArray⟩ := h10
  have e7 : vals 11 = .int .i64 0 := h11
  refine wpAny_done (by kernel_rfl) ?_ _
  simp only [putF, Act.put, List.length_cons, List.length_nil, List.getD_cons_zero, List.getD_cons_succ, List.setIfInBounds_toArray, List.set_cons_zero, List.set_cons_succ, Nat.reduceAdd, e6, e7]
  clear e6 e7
  go_wp2_with fail
  go_ret2
  exact ⟨rfl, hE01.trans hEz⟩
set_option maxRecDepth 100000 in
set_option maxHeartbeats 4000000 in
theorem relative_p (L : Loc) (t now : Int) (d : Nat) (w : World) (h : LcV L w) (hs : shL L) (hm : Lm w) (hNl : ∀ s ∈ L.N.all, s.length ≤ 2000000) (hv : validLB L = true) (ht : tmB t = true) (hn : tmB now = true) (hlt : now < t) (hdd : t - now = (d : Int)) :
    Calls Tryz.prog 20 #[.agg L.vals.toArray, .int .i64 t, .int .i64 now] w fun e w' => e = .returned (.tuple #[.string ⟨(reV L t now).toArray⟩, .int .i64 (reE L t now : Int)]) ∧ Ext w w' := by
  have HAR := Lib.hid (fun (w' : World) (hE : Ext w w') (i : Nat) (hi : i < L.U.length) => amR_of (h.ext hE) hs hv i hi)
  have HUF := Lib.hid (uf_of (vu hv).1 (vu hv).2)
  obtain ⟨t1b, t2b⟩ := tm_b ht
  obtain ⟨n1b, n2b⟩ := tm_b hn
  have hd1 : 1 ≤ d := by omega
  obtain ⟨m, hmm⟩ : ∃ m, uIx L.U d = m := ⟨_, rfl⟩
  have hml : m < L.U.length := by rw [← hmm]; exact uIx_lt HUF.out hd1
  have hmd := uIx_at hmm hml
  have hne : t ≠ now := by omega
  obtain ⟨v1, v2⟩ := reV_ne hv ht hn hne (show (t - now).natAbs = d by omega) hmm hml
  rw [if_pos hlt] at v2
  obtain ⟨V, hVd⟩ : ∃ V, V = reV L t now := ⟨_, rfl⟩
  rw [v1, ← hVd]
  rw [v2] at hVd
  obtain ⟨s1, s2, -, -⟩ := HUF.out.at_ m hml
  have hfm := HUF.out.at_ m hml
  obtain ⟨Y, hY0⟩ : ∃ Y, amt L.P (L.U[m]).f (d / (L.U[m]).s.natAbs) = Y := ⟨_, rfl⟩
  rw [hY0] at hVd
  have HVd := Lib.hid hVd
  obtain ⟨q, hq⟩ : ∃ q, d / (L.U[m]).s.natAbs = q := ⟨_, rfl⟩
  have hqd : q ≤ d := by rw [← hq]; exact Nat.div_le_self _ _
  rw [hq] at hY0
  have hYl : Y.length ≤ 50 := by rw [← hY0]; exact amt_len hfm.2.2.2 (by omega)
  have HVl := Lib.hid hv
  have HT := Lib.hid ht
  have HNw := Lib.hid hn
  have HMm := Lib.hid hmm
  clear v1 v2 hv ht hn hVd hmm hne hfm
  have hIL := loc_size h.1
  have hE0 : Ext w (w.alloc (.cells L.vals.toArray 30)) := (Ext.refl w).alloc _
  have hB := LcB.new L w 30
  have hV := h.ext hE0
  obtain ⟨g0, g1, g2, g3, g4⟩ := hB.cells h.1
  have HV := Lib.hid hV
  have HBk := Lib.hid hB
  have HE0 := Lib.hid hE0
  have HNl := Lib.hid hNl
  have Hs := Lib.hid hs
  have HMl := Lib.hid hm
  have HM0 := Lib.hid (hm.ext hE0)
  have hR := hB.2
  obtain ⟨R, off, hua, hzR, hcu⟩ := hV.2.2.2.2.2.1 (by have := HUF.out.one; intro e; rw [e] at this; simp at this)
  have hul := hV.2.2.2.1
  have hul2 := hV.2.2.2.2.1
  unfold maxLen at hul2
  have HCu := Lib.hid hcu
  rw [hua] at g3
  clear hs hNl h hE0 hB hV hm g0 g1 g2 g4 hcu
  obtain ⟨c0, c1⟩ := HCu.out m hml
  have HAm := Lib.hid (fun (w' : World) (hE : Ext w w') => amount_c L L.U[m] q Y w' (HAR.out w' hE m hml) (by omega) (HMl.out.ext hE) hY0)
  have HUV : Hid (∀ w', Ext w w' → True) := fun _ _ => trivial
  obtain ⟨u, hu⟩ : ∃ u, u = L.U[m] := ⟨_, rfl⟩
  rw [← hu] at c0 c1 HAm s1 s2 hq hmd
  clear hu hY0 HUV
  obtain ⟨us, uao, ucap, uf⟩ := u
  simp only at c0 c1 s1 s2 hq hmd
  obtain ⟨k, rfl⟩ := Int.eq_ofNat_of_zero_le (show 0 ≤ us by omega)
  rw [Int.natAbs_natCast] at hq
  have HQ : Hid (IntKind.i64.wrap ((d : Int).tdiv (k : Int)) = (q : Int)) := by
    rw [Hid, ← hq, Int.tdiv_eq_ediv_of_nonneg (by omega), IntWalk.i64_in _ (by rw [← Int.natCast_ediv]; have := Nat.div_le_self d k; omega)]; rfl
  have hk0 : (0 : Int) < (k : Int) := by omega
  clear hq
  have HAm2 : Hid (∀ w', Ext w w' → Calls Tryz.prog 47 #[.agg L.vals.toArray, .int .i64 (q : Int), .agg #[.int .i64 (k : Int), .slice uao uf.length ucap]] w' fun e w'' => e = .returned (.string ⟨Y.toArray⟩) ∧ Ext w' w'') := HAm.out
  have t0 : (t == now) = false := by rw [beq_eq_false_iff_ne]; omega
  have Hdd := Lib.hid hdd
  have t2 : IntKind.i64.wrap (t - now) = (d : Int) := by rw [IntWalk.i64_in _ (by omega)]; exact hdd
  have t1 : decide ((d : Int) < 0) = false := by simp
  clear HAm
  go_enter Tryz.func20, Tryz.ntmps20
  go_upto_region 1 with fail
  generalize w.alloc (.cells L.vals.toArray 30) = W0 at *
  generalize w.heap.size = B at *
  go_upto_region 9 with (first
    | (refine load_midg (by rfl) 30 _ rfl B 0 rfl L.vals _ hR Tryz.underlying30 rfl hIL ?_)
    | (go_at_call 13; (with_reducible refine (valid_c L true _ HV.out Hs.out HM0.out HNl.out HVl.out).mono ?_); rintro e w1 ⟨rfl, hE1⟩)
    | (go_at_call 50; (with_reducible refine (in_c t true _ HT.out).mono ?_); rintro e w2 ⟨rfl, rfl⟩)
    | (go_at_call 50; (with_reducible refine (in_c now true _ HNw.out).mono ?_); rintro e w2 ⟨rfl, rfl⟩))
  have hEp : Ext w1 (w1.alloc (.cells #[.int .i64 (d : Int)] 3)) := (Ext.refl w1).alloc _
  have y0 : (w1.alloc (.cells #[.int .i64 (d : Int)] 3)).cell? ⟨w1.heap.size, 0, none⟩ = some (.int .i64 (d : Int)) := by rw [World.cell?_alloc_new]; rfl
  have yz : w1.heap.size < (w1.alloc (.cells #[.int .i64 (d : Int)] 3)).heap.size := by simp
  generalize w1.alloc (.cells #[.int .i64 (d : Int)] 3) = V0 at hEp y0 yz ⊢
  generalize w1.heap.size = D at y0 yz ⊢
  clear t0 t2
  go_upto_region 11 with fail
  have hEW := hE1.trans hEp
  have HEV0 := Lib.hid (HE0.out.trans hEW)
  have HUn := Lib.hid (HV.out.2.2.2.ext hEW)
  have g3W := (hEW.cells B 43 HBk.out.1).trans g3
  have hRW := rng_ext hR HBk.out.1 hEW
  have hzBW := hEW.lt HBk.out.1
  have c0W := (hEW.cells R _ hzR).trans c0
  have c1W := (hEW.cells R _ hzR).trans c1
  have hzRW := hEW.lt hzR
  have HIx : Hid (Calls Tryz.prog 51 #[.slice (some ⟨R, off, none⟩) L.U.length L.uc, .func (.func 52) #[] #[.pointer (some ⟨D, 0, none⟩)]] V0 fun e w' => e = .returned (.int .i64 (m : Int)) ∧ Ext V0 w') := by
    have := idxU_c L.U L.ua L.uc D d m V0 HUn.out y0 yz HMm.out hml
    rwa [hua] at this
  clear c0 c1 g3 hR hzR hE1 hEp hua t1
  go_upto_region 12 with (first
    | (go_at_call 51; (with_reducible refine HIx.out.mono ?_); rintro e w3 ⟨rfl, hE3⟩))
  have g3V := (hE3.cells B 43 hzBW).trans g3W
  have hRV := rng_ext hRW hzBW hE3
  have hzBV := hE3.lt hzBW
  have c0V := (hE3.cells R _ hzRW).trans c0W
  have c1V := (hE3.cells R _ hzRW).trans c1W
  have hzRV := hE3.lt hzRW
  have dV := (hE3.cells D 0 yz).trans y0
  have hzDV := hE3.lt yz
  have HEV := Lib.hid (HEV0.out.trans hE3)
  obtain ⟨sg, hsg⟩ : ∃ sg : UInt8, sg = 43 := ⟨_, rfl⟩
  have HSg := Lib.hid hsg
  rw [← hsg]
  clear hsg
  refine wp_region_grow [52, 53, 54, 55, 56, 57, 58, 59, 60, 61, 62, 63, 64, 65, 66, 67, 68, 6, 7] [fun x _ => x = .string ⟨[sg].toArray⟩, fun x _ => x = .agg L.vals.toArray, fun x _ => x = .int .i64 (d : Int), fun x _ => x = .pointer (some ⟨B, 43, none⟩), fun x _ => x = .slice (some ⟨R, off, none⟩) L.U.length L.uc, fun x _ => x = .int .i64 (m : Int), fun x _ => x = .pointer (some ⟨R, off + m * 2, none⟩), fun x _ => x = .pointer (some ⟨R, off + m * 2, none⟩), fun x _ => x = .int .i64 (k : Int), fun x _ => x = .int .i64 (q : Int), fun x _ => x = .pointer (some ⟨B, 43, none⟩), fun x _ => x = .slice (some ⟨R, off, none⟩) L.U.length L.uc, fun x _ => x = .int .i64 (m : Int), fun x _ => x = .pointer (some ⟨R, off + m * 2, none⟩), fun x _ => x = .agg #[.int .i64 (k : Int), .slice uao uf.length ucap], fun x _ => x = .string ⟨Y.toArray⟩, fun x _ => x = .string ⟨([sg] ++ Y).toArray⟩, fun x _ => x = .string ⟨([sg] ++ Y).toArray⟩, fun x _ => x = .int .i64 0] 0 (by kernel_rfl) (by kernel_rfl) (by kernel_rfl) (by kernel_rfl) ?_ ?_ ?_
  · intro Rl hRl
    simp only [List.mem_cons, List.not_mem_nil, or_false] at hRl
    rcases hRl with rfl | rfl | rfl | rfl | rfl | rfl | rfl | rfl | rfl | rfl | rfl | rfl | rfl | rfl | rfl | rfl | rfl | rfl | rfl
    all_goals first
      | exact fun _ _ _ h _ => h
  · refine ⟨?_, ?_, ?_, ?_, ?_, ?_, ?_, ?_, ?_, ?_, ?_, ?_, ?_, ?_, ?_, ?_, ?_, ?_, ?_, trivial⟩
    all_goals intro a w hE hF hD K hK
    · exact gs_val rfl (yr_move rfl ((hF 9 (fr_of rfl)).trans rfl)) (hK _ _ rfl (Ext.refl _))
    · exact gs_val rfl (yr_load rfl ((hF 3 (fr_of rfl)).trans rfl) (run_loadAt_mid w B 0 _ _ _ (rng_ext hRV hzBV hE) Tryz.underlying30 rfl hIL)) (hK _ _ rfl (Ext.refl _))
    · exact gs_val rfl (yr_load rfl ((hF 10 (fr_of rfl)).trans rfl) (ld_in _ _ _ ((hE.cells D 0 hzDV).trans dV))) (hK _ _ rfl (Ext.refl _))
    · exact gs_val rfl (yr_field rfl ((hF 3 (fr_of rfl)).trans rfl) (by go_simp)) (hK _ _ rfl (Ext.refl _))
    · have u55 : a.eval (.tmp 55) = .pointer (some ⟨B, 43, none⟩) := hD 3 (by kernel_rfl)
      exact gs_val rfl (yr_load rfl u55 (ld_uns _ _ _ ((hE.cells B 43 hzBV).trans g3V))) (hK _ _ rfl (Ext.refl _))
    · exact gs_val rfl (yr_move rfl ((hF 11 (fr_of rfl)).trans rfl)) (hK _ _ rfl (Ext.refl _))
    · have u56 : a.eval (.tmp 56) = .slice (some ⟨R, off, none⟩) L.U.length L.uc := hD 4 (by kernel_rfl)
      have u57 : a.eval (.tmp 57) = .int .i64 (m : Int) := hD 5 (by kernel_rfl)
      exact gs_val rfl (yr_idxa rfl u56 u57 (ix_un R off _ _ m w hml)) (hK _ _ rfl (Ext.refl _))
    · have u58 : a.eval (.tmp 58) = .pointer (some ⟨R, off + m * 2, none⟩) := hD 6 (by kernel_rfl)
      exact gs_val rfl (yr_field rfl u58 (by go_simp)) (hK _ _ rfl (Ext.refl _))
    · have u59 : a.eval (.tmp 59) = .pointer (some ⟨R, off + m * 2, none⟩) := hD 7 (by kernel_rfl)
      exact gs_val rfl (yr_load rfl u59 (ld_in _ _ _ ((hE.cells R _ hzRV).trans c0V))) (hK _ _ rfl (Ext.refl _))
    · have u54 : a.eval (.tmp 54) = .int .i64 (d : Int) := hD 2 (by kernel_rfl)
      have u60 : a.eval (.tmp 60) = .int .i64 (k : Int) := hD 8 (by kernel_rfl)
      exact gs_val rfl (yr_quoi rfl u54 u60 (by omega) HQ.out) (hK _ _ rfl (Ext.refl _))
    · exact gs_val rfl (yr_field rfl ((hF 3 (fr_of rfl)).trans rfl) (by go_simp)) (hK _ _ rfl (Ext.refl _))
    · have u62 : a.eval (.tmp 62) = .pointer (some ⟨B, 43, none⟩) := hD 10 (by kernel_rfl)
      exact gs_val rfl (yr_load rfl u62 (ld_uns _ _ _ ((hE.cells B 43 hzBV).trans g3V))) (hK _ _ rfl (Ext.refl _))
    · exact gs_val rfl (yr_move rfl ((hF 11 (fr_of rfl)).trans rfl)) (hK _ _ rfl (Ext.refl _))
    · have u63 : a.eval (.tmp 63) = .slice (some ⟨R, off, none⟩) L.U.length L.uc := hD 11 (by kernel_rfl)
      have u64 : a.eval (.tmp 64) = .int .i64 (m : Int) := hD 12 (by kernel_rfl)
      exact gs_val rfl (yr_idxa rfl u63 u64 (ix_un R off _ _ m w hml)) (hK _ _ rfl (Ext.refl _))
    · have u65 : a.eval (.tmp 65) = .pointer (some ⟨R, off + m * 2, none⟩) := hD 13 (by kernel_rfl)
      exact gs_val rfl (yr_load rfl u65 (ld_un R (off + m * 2) _ _ w ((hE.cells R _ hzRV).trans c0V) ((hE.cells R _ hzRV).trans c1V))) (hK _ _ rfl (Ext.refl _))
    · have u53 : a.eval (.tmp 53) = .agg L.vals.toArray := hD 1 (by kernel_rfl)
      have u61 : a.eval (.tmp 61) = .int .i64 (q : Int) := hD 9 (by kernel_rfl)
      have u66 : a.eval (.tmp 66) = .agg #[.int .i64 (k : Int), .slice uao uf.length ucap] := hD 14 (by kernel_rfl)
      have q0 : a.eval (.tmp 53) = .agg L.vals.toArray := u53
      have q1 : a.eval (.tmp 61) = .int .i64 (q : Int) := u61
      have q2 : a.eval (.tmp 66) = .agg #[.int .i64 (k : Int), .slice uao uf.length ucap] := u66
      exact gs_call rfl (yr_call rfl rfl (show (#[Operand.tmp 53, Operand.tmp 61, Operand.tmp 66] : Array Operand).map a.eval = #[.agg L.vals.toArray, .int .i64 (q : Int), .agg #[.int .i64 (k : Int), .slice uao uf.length ucap]] by simp only [List.map_toArray, List.map_cons, List.map_nil, q0, q1, q2] <;> rfl) (by kernel_rfl)) ((HAm2.out w (HEV.out.trans hE)).mono fun e w' ⟨h1, h2⟩ => ⟨_, h1, rfl, h2⟩) hK
    · have u52 : a.eval (.tmp 52) = .string ⟨[sg].toArray⟩ := hD 0 (by kernel_rfl)
      have u67 : a.eval (.tmp 67) = .string ⟨Y.toArray⟩ := hD 15 (by kernel_rfl)
      exact gs_val rfl (yr_addl rfl u52 u67 (by simp; omega)) (hK _ _ rfl (Ext.refl _))
    · have u68 : a.eval (.tmp 68) = .string ⟨([sg] ++ Y).toArray⟩ := hD 16 (by kernel_rfl)
      exact gs_val rfl (yr_assign rfl u68) (hK _ _ rfl (Ext.refl _))
    · exact gs_val rfl (yr_assign rfl rfl) (hK _ _ rfl (Ext.refl _))
  intro vals wz hEz hRz
  obtain ⟨-, -, -, -, -, -, -, -, -, -, -, -, -, -, -, -, -, h17, h18, -⟩ := hRz
  have e6 : vals 17 = .string ⟨([sg] ++ Y).toArray⟩ := h17
  have e7 : vals 18 = .int .i64 0 := h18
  refine wpAny_done (by kernel_rfl) ?_ _
  simp only [putF, Act.put, List.length_cons, List.length_nil, List.getD_cons_zero, List.getD_cons_succ, List.setIfInBounds_toArray, List.set_cons_zero, List.set_cons_succ, Nat.reduceAdd, e6, e7]
  clear e6 e7
  go_wp2_with fail
  go_ret2
  exact ⟨by rw [HVd.out, HSg.out]; rfl, HEV.out.trans hEz⟩
set_option maxRecDepth 100000 in
set_option maxHeartbeats 4000000 in
theorem relative_m (L : Loc) (t now : Int) (d : Nat) (w : World) (h : LcV L w) (hs : shL L) (hm : Lm w) (hNl : ∀ s ∈ L.N.all, s.length ≤ 2000000) (hv : validLB L = true) (ht : tmB t = true) (hn : tmB now = true) (hlt : t < now) (hdd : t - now = -(d : Int)) :
    Calls Tryz.prog 20 #[.agg L.vals.toArray, .int .i64 t, .int .i64 now] w fun e w' => e = .returned (.tuple #[.string ⟨(reV L t now).toArray⟩, .int .i64 (reE L t now : Int)]) ∧ Ext w w' := by
  have HAR := Lib.hid (fun (w' : World) (hE : Ext w w') (i : Nat) (hi : i < L.U.length) => amR_of (h.ext hE) hs hv i hi)
  have HUF := Lib.hid (uf_of (vu hv).1 (vu hv).2)
  obtain ⟨t1b, t2b⟩ := tm_b ht
  obtain ⟨n1b, n2b⟩ := tm_b hn
  have hd1 : 1 ≤ d := by omega
  obtain ⟨m, hmm⟩ : ∃ m, uIx L.U d = m := ⟨_, rfl⟩
  have hml : m < L.U.length := by rw [← hmm]; exact uIx_lt HUF.out hd1
  have hmd := uIx_at hmm hml
  have hne : t ≠ now := by omega
  obtain ⟨v1, v2⟩ := reV_ne hv ht hn hne (show (t - now).natAbs = d by omega) hmm hml
  rw [if_neg (by omega)] at v2
  obtain ⟨V, hVd⟩ : ∃ V, V = reV L t now := ⟨_, rfl⟩
  rw [v1, ← hVd]
  rw [v2] at hVd
  obtain ⟨s1, s2, -, -⟩ := HUF.out.at_ m hml
  have hfm := HUF.out.at_ m hml
  obtain ⟨Y, hY0⟩ : ∃ Y, amt L.P (L.U[m]).f (d / (L.U[m]).s.natAbs) = Y := ⟨_, rfl⟩
  rw [hY0] at hVd
  have HVd := Lib.hid hVd
  obtain ⟨q, hq⟩ : ∃ q, d / (L.U[m]).s.natAbs = q := ⟨_, rfl⟩
  have hqd : q ≤ d := by rw [← hq]; exact Nat.div_le_self _ _
  rw [hq] at hY0
  have hYl : Y.length ≤ 50 := by rw [← hY0]; exact amt_len hfm.2.2.2 (by omega)
  have HVl := Lib.hid hv
  have HT := Lib.hid ht
  have HNw := Lib.hid hn
  have HMm := Lib.hid hmm
  clear v1 v2 hv ht hn hVd hmm hne hfm
  have hIL := loc_size h.1
  have hE0 : Ext w (w.alloc (.cells L.vals.toArray 30)) := (Ext.refl w).alloc _
  have hB := LcB.new L w 30
  have hV := h.ext hE0
  obtain ⟨g0, g1, g2, g3, g4⟩ := hB.cells h.1
  have HV := Lib.hid hV
  have HBk := Lib.hid hB
  have HE0 := Lib.hid hE0
  have HNl := Lib.hid hNl
  have Hs := Lib.hid hs
  have HMl := Lib.hid hm
  have HM0 := Lib.hid (hm.ext hE0)
  have hR := hB.2
  obtain ⟨R, off, hua, hzR, hcu⟩ := hV.2.2.2.2.2.1 (by have := HUF.out.one; intro e; rw [e] at this; simp at this)
  have hul := hV.2.2.2.1
  have hul2 := hV.2.2.2.2.1
  unfold maxLen at hul2
  have HCu := Lib.hid hcu
  rw [hua] at g3
  clear hs hNl h hE0 hB hV hm g0 g1 g2 g4 hcu
  obtain ⟨c0, c1⟩ := HCu.out m hml
  have HAm := Lib.hid (fun (w' : World) (hE : Ext w w') => amount_c L L.U[m] q Y w' (HAR.out w' hE m hml) (by omega) (HMl.out.ext hE) hY0)
  have HUV : Hid (∀ w', Ext w w' → True) := fun _ _ => trivial
  obtain ⟨u, hu⟩ : ∃ u, u = L.U[m] := ⟨_, rfl⟩
  rw [← hu] at c0 c1 HAm s1 s2 hq hmd
  clear hu hY0 HUV
  obtain ⟨us, uao, ucap, uf⟩ := u
  simp only at c0 c1 s1 s2 hq hmd
  obtain ⟨k, rfl⟩ := Int.eq_ofNat_of_zero_le (show 0 ≤ us by omega)
  rw [Int.natAbs_natCast] at hq
  have HQ : Hid (IntKind.i64.wrap ((d : Int).tdiv (k : Int)) = (q : Int)) := by
    rw [Hid, ← hq, Int.tdiv_eq_ediv_of_nonneg (by omega), IntWalk.i64_in _ (by rw [← Int.natCast_ediv]; have := Nat.div_le_self d k; omega)]; rfl
  have hk0 : (0 : Int) < (k : Int) := by omega
  clear hq
  have HAm2 : Hid (∀ w', Ext w w' → Calls Tryz.prog 47 #[.agg L.vals.toArray, .int .i64 (q : Int), .agg #[.int .i64 (k : Int), .slice uao uf.length ucap]] w' fun e w'' => e = .returned (.string ⟨Y.toArray⟩) ∧ Ext w' w'') := HAm.out
  have t0 : (t == now) = false := by rw [beq_eq_false_iff_ne]; omega
  have Hdd := Lib.hid hdd
  have t2 : IntKind.i64.wrap (t - now) = -(d : Int) := by rw [IntWalk.i64_in _ (by omega)]; exact hdd
  have t1 : decide (-(d : Int) < 0) = true := by simp; omega
  clear HAm
  go_enter Tryz.func20, Tryz.ntmps20
  go_upto_region 1 with fail
  generalize w.alloc (.cells L.vals.toArray 30) = W0 at *
  generalize w.heap.size = B at *
  go_upto_region 9 with (first
    | (refine load_midg (by rfl) 30 _ rfl B 0 rfl L.vals _ hR Tryz.underlying30 rfl hIL ?_)
    | (go_at_call 13; (with_reducible refine (valid_c L true _ HV.out Hs.out HM0.out HNl.out HVl.out).mono ?_); rintro e w1 ⟨rfl, hE1⟩)
    | (go_at_call 50; (with_reducible refine (in_c t true _ HT.out).mono ?_); rintro e w2 ⟨rfl, rfl⟩)
    | (go_at_call 50; (with_reducible refine (in_c now true _ HNw.out).mono ?_); rintro e w2 ⟨rfl, rfl⟩))
  have hEp : Ext w1 (w1.alloc (.cells #[.int .i64 (-(d : Int))] 3)) := (Ext.refl w1).alloc _
  have y0 : (w1.alloc (.cells #[.int .i64 (-(d : Int))] 3)).cell? ⟨w1.heap.size, 0, none⟩ = some (.int .i64 (-(d : Int))) := by rw [World.cell?_alloc_new]; rfl
  have yf : (w1.alloc (.cells #[.int .i64 (-(d : Int))] 3)).frozen? ⟨w1.heap.size, 0, none⟩ = false := by rw [World.frozen?_alloc_new]
  have yz : w1.heap.size < (w1.alloc (.cells #[.int .i64 (-(d : Int))] 3)).heap.size := by simp
  generalize w1.alloc (.cells #[.int .i64 (-(d : Int))] 3) = V1 at hEp y0 yf yz ⊢
  have hD0 : w1.heap.size ≤ w1.heap.size := Nat.le_refl _
  generalize hD : w1.heap.size = D at y0 yf yz hD0 ⊢
  have HD := Lib.hid hD
  clear t0 t2 hD hD0
  go_upto_region 10 with fail
  go_region
  have hEq : Ext w1 (V1.setCell ⟨D, 0, none⟩ (.int .i64 (d : Int))).drew := (hEp.setCell (show w1.heap.size ≤ D by rw [HD.out]; exact Nat.le_refl _) _).drew
  have y0q : (V1.setCell ⟨D, 0, none⟩ (.int .i64 (d : Int))).drew.cell? ⟨D, 0, none⟩ = some (.int .i64 (d : Int)) := World.cell?_setCell_same _ _ _ y0
  have yzq : D < (V1.setCell ⟨D, 0, none⟩ (.int .i64 (d : Int))).drew.heap.size := by simpa using yz
  clear y0 yf yz hEp HD
  generalize (V1.setCell ⟨D, 0, none⟩ (.int .i64 (d : Int))).drew = V0 at hEq y0q yzq ⊢
  have hEp := hEq
  have y0 := y0q
  have yz := yzq
  clear hEq y0q yzq
  have hEW := hE1.trans hEp
  have HEV0 := Lib.hid (HE0.out.trans hEW)
  have HUn := Lib.hid (HV.out.2.2.2.ext hEW)
  have g3W := (hEW.cells B 43 HBk.out.1).trans g3
  have hRW := rng_ext hR HBk.out.1 hEW
  have hzBW := hEW.lt HBk.out.1
  have c0W := (hEW.cells R _ hzR).trans c0
  have c1W := (hEW.cells R _ hzR).trans c1
  have hzRW := hEW.lt hzR
  have HIx : Hid (Calls Tryz.prog 51 #[.slice (some ⟨R, off, none⟩) L.U.length L.uc, .func (.func 52) #[] #[.pointer (some ⟨D, 0, none⟩)]] V0 fun e w' => e = .returned (.int .i64 (m : Int)) ∧ Ext V0 w') := by
    have := idxU_c L.U L.ua L.uc D d m V0 HUn.out y0 yz HMm.out hml
    rwa [hua] at this
  clear c0 c1 g3 hR hzR hE1 hEp hua t1
  go_upto_region 12 with (first
    | (go_at_call 51; (with_reducible refine HIx.out.mono ?_); rintro e w3 ⟨rfl, hE3⟩))
  have g3V := (hE3.cells B 43 hzBW).trans g3W
  have hRV := rng_ext hRW hzBW hE3
  have hzBV := hE3.lt hzBW
  have c0V := (hE3.cells R _ hzRW).trans c0W
  have c1V := (hE3.cells R _ hzRW).trans c1W
  have hzRV := hE3.lt hzRW
  have dV := (hE3.cells D 0 yz).trans y0
  have hzDV := hE3.lt yz
  have HEV := Lib.hid (HEV0.out.trans hE3)
  obtain ⟨sg, hsg⟩ : ∃ sg : UInt8, sg = 45 := ⟨_, rfl⟩
  have HSg := Lib.hid hsg
  rw [← hsg]
  clear hsg
  refine wp_region_grow [52, 53, 54, 55, 56, 57, 58, 59, 60, 61, 62, 63, 64, 65, 66, 67, 68, 6, 7] [fun x _ => x = .string ⟨[sg].toArray⟩, fun x _ => x = .agg L.vals.toArray, fun x _ => x = .int .i64 (d : Int), fun x _ => x = .pointer (some ⟨B, 43, none⟩), fun x _ => x = .slice (some ⟨R, off, none⟩) L.U.length L.uc, fun x _ => x = .int .i64 (m : Int), fun x _ => x = .pointer (some ⟨R, off + m * 2, none⟩), fun x _ => x = .pointer (some ⟨R, off + m * 2, none⟩), fun x _ => x = .int .i64 (k : Int), fun x _ => x = .int .i64 (q : Int), fun x _ => x = .pointer (some ⟨B, 43, none⟩), fun x _ => x = .slice (some ⟨R, off, none⟩) L.U.length L.uc, fun x _ => x = .int .i64 (m : Int), fun x _ => x = .pointer (some ⟨R, off + m * 2, none⟩), fun x _ => x = .agg #[.int .i64 (k : Int), .slice uao uf.length ucap], fun x _ => x = .string ⟨Y.toArray⟩, fun x _ => x = .string ⟨([sg] ++ Y).toArray⟩, fun x _ => x = .string ⟨([sg] ++ Y).toArray⟩, fun x _ => x = .int .i64 0] 0 (by kernel_rfl) (by kernel_rfl) (by kernel_rfl) (by kernel_rfl) ?_ ?_ ?_
  · intro Rl hRl
    simp only [List.mem_cons, List.not_mem_nil, or_false] at hRl
    rcases hRl with rfl | rfl | rfl | rfl | rfl | rfl | rfl | rfl | rfl | rfl | rfl | rfl | rfl | rfl | rfl | rfl | rfl | rfl | rfl
    all_goals first
      | exact fun _ _ _ h _ => h
  · refine ⟨?_, ?_, ?_, ?_, ?_, ?_, ?_, ?_, ?_, ?_, ?_, ?_, ?_, ?_, ?_, ?_, ?_, ?_, ?_, trivial⟩
    all_goals intro a w hE hF hD K hK
    · exact gs_val rfl (yr_move rfl ((hF 9 (fr_of rfl)).trans rfl)) (hK _ _ rfl (Ext.refl _))
    · exact gs_val rfl (yr_load rfl ((hF 3 (fr_of rfl)).trans rfl) (run_loadAt_mid w B 0 _ _ _ (rng_ext hRV hzBV hE) Tryz.underlying30 rfl hIL)) (hK _ _ rfl (Ext.refl _))
    · exact gs_val rfl (yr_load rfl ((hF 10 (fr_of rfl)).trans rfl) (ld_in _ _ _ ((hE.cells D 0 hzDV).trans dV))) (hK _ _ rfl (Ext.refl _))
    · exact gs_val rfl (yr_field rfl ((hF 3 (fr_of rfl)).trans rfl) (by go_simp)) (hK _ _ rfl (Ext.refl _))
    · have u55 : a.eval (.tmp 55) = .pointer (some ⟨B, 43, none⟩) := hD 3 (by kernel_rfl)
      exact gs_val rfl (yr_load rfl u55 (ld_uns _ _ _ ((hE.cells B 43 hzBV).trans g3V))) (hK _ _ rfl (Ext.refl _))
    · exact gs_val rfl (yr_move rfl ((hF 11 (fr_of rfl)).trans rfl)) (hK _ _ rfl (Ext.refl _))
    · have u56 : a.eval (.tmp 56) = .slice (some ⟨R, off, none⟩) L.U.length L.uc := hD 4 (by kernel_rfl)
      have u57 : a.eval (.tmp 57) = .int .i64 (m : Int) := hD 5 (by kernel_rfl)
      exact gs_val rfl (yr_idxa rfl u56 u57 (ix_un R off _ _ m w hml)) (hK _ _ rfl (Ext.refl _))
    · have u58 : a.eval (.tmp 58) = .pointer (some ⟨R, off + m * 2, none⟩) := hD 6 (by kernel_rfl)
      exact gs_val rfl (yr_field rfl u58 (by go_simp)) (hK _ _ rfl (Ext.refl _))
    · have u59 : a.eval (.tmp 59) = .pointer (some ⟨R, off + m * 2, none⟩) := hD 7 (by kernel_rfl)
      exact gs_val rfl (yr_load rfl u59 (ld_in _ _ _ ((hE.cells R _ hzRV).trans c0V))) (hK _ _ rfl (Ext.refl _))
    · have u54 : a.eval (.tmp 54) = .int .i64 (d : Int) := hD 2 (by kernel_rfl)
      have u60 : a.eval (.tmp 60) = .int .i64 (k : Int) := hD 8 (by kernel_rfl)
      exact gs_val rfl (yr_quoi rfl u54 u60 (by omega) HQ.out) (hK _ _ rfl (Ext.refl _))
    · exact gs_val rfl (yr_field rfl ((hF 3 (fr_of rfl)).trans rfl) (by go_simp)) (hK _ _ rfl (Ext.refl _))
    · have u62 : a.eval (.tmp 62) = .pointer (some ⟨B, 43, none⟩) := hD 10 (by kernel_rfl)
      exact gs_val rfl (yr_load rfl u62 (ld_uns _ _ _ ((hE.cells B 43 hzBV).trans g3V))) (hK _ _ rfl (Ext.refl _))
    · exact gs_val rfl (yr_move rfl ((hF 11 (fr_of rfl)).trans rfl)) (hK _ _ rfl (Ext.refl _))
    · have u63 : a.eval (.tmp 63) = .slice (some ⟨R, off, none⟩) L.U.length L.uc := hD 11 (by kernel_rfl)
      have u64 : a.eval (.tmp 64) = .int .i64 (m : Int) := hD 12 (by kernel_rfl)
      exact gs_val rfl (yr_idxa rfl u63 u64 (ix_un R off _ _ m w hml)) (hK _ _ rfl (Ext.refl _))
    · have u65 : a.eval (.tmp 65) = .pointer (some ⟨R, off + m * 2, none⟩) := hD 13 (by kernel_rfl)
      exact gs_val rfl (yr_load rfl u65 (ld_un R (off + m * 2) _ _ w ((hE.cells R _ hzRV).trans c0V) ((hE.cells R _ hzRV).trans c1V))) (hK _ _ rfl (Ext.refl _))
    · have u53 : a.eval (.tmp 53) = .agg L.vals.toArray := hD 1 (by kernel_rfl)
      have u61 : a.eval (.tmp 61) = .int .i64 (q : Int) := hD 9 (by kernel_rfl)
      have u66 : a.eval (.tmp 66) = .agg #[.int .i64 (k : Int), .slice uao uf.length ucap] := hD 14 (by kernel_rfl)
      have q0 : a.eval (.tmp 53) = .agg L.vals.toArray := u53
      have q1 : a.eval (.tmp 61) = .int .i64 (q : Int) := u61
      have q2 : a.eval (.tmp 66) = .agg #[.int .i64 (k : Int), .slice uao uf.length ucap] := u66
      exact gs_call rfl (yr_call rfl rfl (show (#[Operand.tmp 53, Operand.tmp 61, Operand.tmp 66] : Array Operand).map a.eval = #[.agg L.vals.toArray, .int .i64 (q : Int), .agg #[.int .i64 (k : Int), .slice uao uf.length ucap]] by simp only [List.map_toArray, List.map_cons, List.map_nil, q0, q1, q2] <;> rfl) (by kernel_rfl)) ((HAm2.out w (HEV.out.trans hE)).mono fun e w' ⟨h1, h2⟩ => ⟨_, h1, rfl, h2⟩) hK
    · have u52 : a.eval (.tmp 52) = .string ⟨[sg].toArray⟩ := hD 0 (by kernel_rfl)
      have u67 : a.eval (.tmp 67) = .string ⟨Y.toArray⟩ := hD 15 (by kernel_rfl)
      exact gs_val rfl (yr_addl rfl u52 u67 (by simp; omega)) (hK _ _ rfl (Ext.refl _))
    · have u68 : a.eval (.tmp 68) = .string ⟨([sg] ++ Y).toArray⟩ := hD 16 (by kernel_rfl)
      exact gs_val rfl (yr_assign rfl u68) (hK _ _ rfl (Ext.refl _))
    · exact gs_val rfl (yr_assign rfl rfl) (hK _ _ rfl (Ext.refl _))
  intro vals wz hEz hRz
  obtain ⟨-, -, -, -, -, -, -, -, -, -, -, -, -, -, -, -, -, h17, h18, -⟩ := hRz
  have e6 : vals 17 = .string ⟨([sg] ++ Y).toArray⟩ := h17
  have e7 : vals 18 = .int .i64 0 := h18
  refine wpAny_done (by kernel_rfl) ?_ _
  simp only [putF, Act.put, List.length_cons, List.length_nil, List.getD_cons_zero, List.getD_cons_succ, List.setIfInBounds_toArray, List.set_cons_zero, List.set_cons_succ, Nat.reduceAdd, e6, e7]
  clear e6 e7
  go_wp2_with fail
  go_ret2
  exact ⟨by rw [HVd.out, HSg.out]; rfl, HEV.out.trans hEz⟩
end Go.Proofs.YtlmoibmmjonjoaaGreatDoor
/- Locales: the walk of the reference's Relative. -/
namespace Go.Proofs.YtlmoibmmjonjoaaGreatDoor
set_option linter.unusedVariables false
set_option linter.unusedSimpArgs false
open Go.RowKit

theorem uIx_before {U : List Uni} {d m j : Nat} (h : uIx U d = m) (hj : j < m) (hl : j < U.length) : (d : Int) < U[j].s := by
  unfold uIx at h
  have := List.not_of_lt_findIdx (p := fun u : Uni => decide (u.s ≤ (d : Int))) (xs := U) (i := j) (by rw [h]; exact hj)
  simpa using this
set_option maxRecDepth 100000 in
set_option maxHeartbeats 2000000 in
theorem rrelative_0 (L : Loc) (t : Int) (w : World) (h : LcV L w) (hs : shL L) (hNl : ∀ s ∈ L.N.all, s.length ≤ 2000000) (hv : validLB L = true) (ht : tmB t = true) :
    Calls Tryz.prog 21 #[.agg L.vals.toArray, .int .i64 t, .int .i64 t] w fun e w' => e = .returned (.tuple #[.string ⟨(reV L t t).toArray⟩, .int .i64 (reE L t t : Int)]) ∧ Ext w w' := by
  obtain ⟨v1, v2⟩ := reV_eq hv ht
  have HAR := Lib.hid (fun (w' : World) (hE : Ext w w') (i : Nat) (hi : i < L.U.length) => amR_of (h.ext hE) hs hv i hi)
  have HUF := Lib.hid (uf_of (vu hv).1 (vu hv).2)
  obtain ⟨Y, hY⟩ : ∃ Y, Y = reV L t t := ⟨_, rfl⟩
  rw [v1, ← hY]
  rw [v2] at hY
  have HVl := Lib.hid hv
  have HT := Lib.hid ht
  obtain ⟨t1b, t2b⟩ := tm_b ht
  clear v1 v2 hv ht
  have hIL := loc_size h.1
  have hE0 : Ext w (w.alloc (.cells L.vals.toArray 30)) := (Ext.refl w).alloc _
  have hB := LcB.new L w 30
  have hV := h.ext hE0
  obtain ⟨g0, g1, g2, g3, g4⟩ := hB.cells h.1
  have HV := Lib.hid hV
  have HBk := Lib.hid hB
  have HE0 := Lib.hid hE0
  have HNl := Lib.hid hNl
  have Hs := Lib.hid hs
  
  
  have hR := hB.2
  obtain ⟨R, off, hua, hzR, hcu⟩ := hV.2.2.2.2.2.1 (by have := HUF.out.one; intro e; rw [e] at this; simp at this)
  have hul := hV.2.2.2.1
  have hul2 := hV.2.2.2.2.1
  unfold maxLen at hul2
  have HCu := Lib.hid hcu
  rw [hua] at g3
  clear hs hNl h hE0 hB hV g0 g1 g2 g4 hcu
  obtain ⟨z, hz⟩ : ∃ z, z = L.U.length - 1 := ⟨_, rfl⟩
  have hzl : z < L.U.length := by have := HUF.out.one; omega
  have HzI : Hid (IntKind.i64.wrap ((L.U.length : Int) - 1) = (z : Int)) := by
    rw [Hid, IntWalk.i64_in _ (by have := HUF.out.ten; omega)]; omega
  obtain ⟨c0, c1⟩ := HCu.out z hzl
  have HY : Hid (amt L.P (L.U[z]).f 0 = Y) := by
    rw [Hid, hY, lastF_eq HUF.out]; subst hz; rfl
  have HAm := Lib.hid (fun (w' : World) (hE : Ext w w') => ramount_c L L.U[z] 0 Y w' (HAR.out w' hE z hzl) (by omega) HY.out)
  obtain ⟨u, hu⟩ : ∃ u, u = L.U[z] := ⟨_, rfl⟩
  rw [← hu] at c0 c1 HAm
  clear hu hY HY hz
  obtain ⟨us, uao, ucap, uf⟩ := u
  have HAm2 : Hid (∀ w', Ext w w' → Calls Tryz.prog 48 #[.agg L.vals.toArray, .agg #[.int .i64 us, .slice uao uf.length ucap], .int .i64 0] w' fun e w'' => e = .returned (.string ⟨Y.toArray⟩) ∧ Ext w' w'') := HAm.out
  have HzL := Lib.hid hzl
  clear HAm hzl
  simp only at c0 c1
  go_enter Tryz.func21, Tryz.ntmps21
  go_upto_region 1 with fail
  generalize w.alloc (.cells L.vals.toArray 30) = W0 at *
  generalize w.heap.size = B at *
  go_upto_region 6 with (first
    | (refine load_midg (by rfl) 30 _ rfl B 0 rfl L.vals _ hR Tryz.underlying30 rfl hIL ?_)
    | (go_at_call 29; (with_reducible refine (rvalid_c L true _ HV.out Hs.out HNl.out HVl.out).mono ?_); rintro e w1 ⟨rfl, hE1⟩))
  have g3V := (hE1.cells B 43 HBk.out.1).trans g3
  have hRV := rng_ext hR HBk.out.1 hE1
  have hzBV := hE1.lt HBk.out.1
  have c0V := (hE1.cells R _ hzR).trans c0
  have c1V := (hE1.cells R _ hzR).trans c1
  have hzRV := hE1.lt hzR
  have hE01 := HE0.out.trans hE1
  refine wp_region_grow [31, 32, 33, 34, 35, 36, 37, 38, 39, 40, 6, 7] [fun x _ => x = .agg L.vals.toArray, fun x _ => x = .pointer (some ⟨B, 43, none⟩), fun x _ => x = .slice (some ⟨R, off, none⟩) L.U.length L.uc, fun x _ => x = .pointer (some ⟨B, 43, none⟩), fun x _ => x = .slice (some ⟨R, off, none⟩) L.U.length L.uc, fun x _ => x = .int .i64 (L.U.length : Int), fun x _ => x = .int .i64 (z : Int), fun x _ => x = .pointer (some ⟨R, off + z * 2, none⟩), fun x _ => x = .agg #[.int .i64 us, .slice uao uf.length ucap], fun x _ => x = .string ⟨Y.toArray⟩, fun x _ => x = .string ⟨Y.toArray⟩, fun x _ => x = .int .i64 0] 0 (by kernel_rfl) (by kernel_rfl) (by kernel_rfl) (by kernel_rfl) ?_ ?_ ?_
  · intro Rl hRl
    simp only [List.mem_cons, List.not_mem_nil, or_false] at hRl
    rcases hRl with rfl | rfl | rfl | rfl | rfl | rfl | rfl | rfl | rfl | rfl | rfl | rfl
    all_goals first
      | exact fun _ _ _ h _ => h
  · refine ⟨?_, ?_, ?_, ?_, ?_, ?_, ?_, ?_, ?_, ?_, ?_, ?_, trivial⟩
    all_goals intro a w hE hF hD K hK
    · exact gs_val rfl (yr_load rfl ((hF 3 (fr_of rfl)).trans rfl) (run_loadAt_mid w B 0 _ _ _ (rng_ext hRV hzBV hE) Tryz.underlying30 rfl hIL)) (hK _ _ rfl (Ext.refl _))
    · exact gs_val rfl (yr_field rfl ((hF 3 (fr_of rfl)).trans rfl) (by go_simp)) (hK _ _ rfl (Ext.refl _))
    · have u32 : a.eval (.tmp 32) = .pointer (some ⟨B, 43, none⟩) := hD 1 (by kernel_rfl)
      exact gs_val rfl (yr_load rfl u32 (ld_uns _ _ _ ((hE.cells B 43 hzBV).trans g3V))) (hK _ _ rfl (Ext.refl _))
    · exact gs_val rfl (yr_field rfl ((hF 3 (fr_of rfl)).trans rfl) (by go_simp)) (hK _ _ rfl (Ext.refl _))
    · have u34 : a.eval (.tmp 34) = .pointer (some ⟨B, 43, none⟩) := hD 3 (by kernel_rfl)
      exact gs_val rfl (yr_load rfl u34 (ld_uns _ _ _ ((hE.cells B 43 hzBV).trans g3V))) (hK _ _ rfl (Ext.refl _))
    · have u35 : a.eval (.tmp 35) = .slice (some ⟨R, off, none⟩) L.U.length L.uc := hD 4 (by kernel_rfl)
      exact gs_val rfl (yr_lenU rfl rfl Tryz.underlying28 u35) (hK _ _ rfl (Ext.refl _))
    · have u36 : a.eval (.tmp 36) = .int .i64 (L.U.length : Int) := hD 5 (by kernel_rfl)
      exact gs_val rfl (yr_subi rfl u36 rfl HzI.out) (hK _ _ rfl (Ext.refl _))
    · have u33 : a.eval (.tmp 33) = .slice (some ⟨R, off, none⟩) L.U.length L.uc := hD 2 (by kernel_rfl)
      have u37 : a.eval (.tmp 37) = .int .i64 (z : Int) := hD 6 (by kernel_rfl)
      exact gs_val rfl (yr_idxa rfl u33 u37 (ix_un R off _ _ z w HzL.out)) (hK _ _ rfl (Ext.refl _))
    · have u38 : a.eval (.tmp 38) = .pointer (some ⟨R, off + z * 2, none⟩) := hD 7 (by kernel_rfl)
      exact gs_val rfl (yr_load rfl u38 (ld_un R (off + z * 2) _ _ w ((hE.cells R _ hzRV).trans c0V) ((hE.cells R _ hzRV).trans c1V))) (hK _ _ rfl (Ext.refl _))
    · have u31 : a.eval (.tmp 31) = .agg L.vals.toArray := hD 0 (by kernel_rfl)
      have u39 : a.eval (.tmp 39) = .agg #[.int .i64 us, .slice uao uf.length ucap] := hD 8 (by kernel_rfl)
      have q0 : a.eval (.tmp 31) = .agg L.vals.toArray := u31
      have q1 : a.eval (.tmp 39) = .agg #[.int .i64 us, .slice uao uf.length ucap] := u39
      exact gs_call rfl (yr_call rfl rfl (show (#[Operand.tmp 31, Operand.tmp 39, Operand.const (.int .i64 0)] : Array Operand).map a.eval = #[.agg L.vals.toArray, .agg #[.int .i64 us, .slice uao uf.length ucap], .int .i64 0] by simp only [List.map_toArray, List.map_cons, List.map_nil, q0, q1] <;> rfl) (by kernel_rfl)) ((HAm2.out w (hE01.trans hE)).mono fun e w' ⟨h1, h2⟩ => ⟨_, h1, rfl, h2⟩) hK
    · have u40 : a.eval (.tmp 40) = .string ⟨Y.toArray⟩ := hD 9 (by kernel_rfl)
      exact gs_val rfl (yr_assign rfl u40) (hK _ _ rfl (Ext.refl _))
    · exact gs_val rfl (yr_assign rfl rfl) (hK _ _ rfl (Ext.refl _))
  intro vals wz hEz hRz
  obtain ⟨-, -, -, -, -, -, -, -, -, -, h10, h11, -⟩ := hRz
  have e6 : vals 10 = .string ⟨Y.toArray⟩ := h10
  have e7 : vals 11 = .int .i64 0 := h11
  refine wpAny_done (by kernel_rfl) ?_ _
  simp only [putF, Act.put, List.length_cons, List.length_nil, List.getD_cons_zero, List.getD_cons_succ, List.setIfInBounds_toArray, List.set_cons_zero, List.set_cons_succ, Nat.reduceAdd, e6, e7]
  clear e6 e7
  go_wp2_with fail
  go_ret2
  exact ⟨rfl, hE01.trans hEz⟩
set_option maxRecDepth 100000 in
set_option maxHeartbeats 4000000 in
theorem rrelative_p (L : Loc) (t now : Int) (d : Nat) (w : World) (h : LcV L w) (hs : shL L) (hNl : ∀ s ∈ L.N.all, s.length ≤ 2000000) (hv : validLB L = true) (ht : tmB t = true) (hn : tmB now = true) (hlt : now < t) (hdd : t - now = (d : Int)) :
    Calls Tryz.prog 21 #[.agg L.vals.toArray, .int .i64 t, .int .i64 now] w fun e w' => e = .returned (.tuple #[.string ⟨(reV L t now).toArray⟩, .int .i64 (reE L t now : Int)]) ∧ Ext w w' := by
  have HAR := Lib.hid (fun (w' : World) (hE : Ext w w') (i : Nat) (hi : i < L.U.length) => amR_of (h.ext hE) hs hv i hi)
  have HUF := Lib.hid (uf_of (vu hv).1 (vu hv).2)
  obtain ⟨t1b, t2b⟩ := tm_b ht
  obtain ⟨n1b, n2b⟩ := tm_b hn
  have hd1 : 1 ≤ d := by omega
  obtain ⟨m, hmm⟩ : ∃ m, uIx L.U d = m := ⟨_, rfl⟩
  have hml : m < L.U.length := by rw [← hmm]; exact uIx_lt HUF.out hd1
  have hmd := uIx_at hmm hml
  have hne : t ≠ now := by omega
  obtain ⟨v1, v2⟩ := reV_ne hv ht hn hne (show (t - now).natAbs = d by omega) hmm hml
  rw [if_pos hlt] at v2
  obtain ⟨V, hVd⟩ : ∃ V, V = reV L t now := ⟨_, rfl⟩
  rw [v1, ← hVd]
  rw [v2] at hVd
  obtain ⟨s1, s2, -, -⟩ := HUF.out.at_ m hml
  have hfm := HUF.out.at_ m hml
  obtain ⟨Y, hY0⟩ : ∃ Y, amt L.P (L.U[m]).f (d / (L.U[m]).s.natAbs) = Y := ⟨_, rfl⟩
  rw [hY0] at hVd
  have HVd := Lib.hid hVd
  obtain ⟨q, hq⟩ : ∃ q, d / (L.U[m]).s.natAbs = q := ⟨_, rfl⟩
  have hqd : q ≤ d := by rw [← hq]; exact Nat.div_le_self _ _
  rw [hq] at hY0
  have hYl : Y.length ≤ 50 := by rw [← hY0]; exact amt_len hfm.2.2.2 (by omega)
  have HVl := Lib.hid hv
  have HT := Lib.hid ht
  have HNw := Lib.hid hn
  have HMm := Lib.hid hmm
  clear v1 v2 hv ht hn hVd hmm hne hfm
  have hIL := loc_size h.1
  have hE0 : Ext w (w.alloc (.cells L.vals.toArray 30)) := (Ext.refl w).alloc _
  have hB := LcB.new L w 30
  have hV := h.ext hE0
  obtain ⟨g0, g1, g2, g3, g4⟩ := hB.cells h.1
  have HV := Lib.hid hV
  have HBk := Lib.hid hB
  have HE0 := Lib.hid hE0
  have HNl := Lib.hid hNl
  have Hs := Lib.hid hs
  
  
  have hR := hB.2
  obtain ⟨R, off, hua, hzR, hcu⟩ := hV.2.2.2.2.2.1 (by have := HUF.out.one; intro e; rw [e] at this; simp at this)
  have hul := hV.2.2.2.1
  have hul2 := hV.2.2.2.2.1
  unfold maxLen at hul2
  have HCu := Lib.hid hcu
  rw [hua] at g3
  clear hs hNl h hE0 hB hV g0 g1 g2 g4 hcu
  obtain ⟨c0, c1⟩ := HCu.out m hml
  have HAm := Lib.hid (fun (w' : World) (hE : Ext w w') => ramount_c L L.U[m] q Y w' (HAR.out w' hE m hml) (by omega) hY0)
  have HUV : Hid (∀ w', Ext w w' → True) := fun _ _ => trivial
  obtain ⟨u, hu⟩ : ∃ u, u = L.U[m] := ⟨_, rfl⟩
  rw [← hu] at c0 c1 HAm s1 s2 hq hmd
  clear hu hY0 HUV
  obtain ⟨us, uao, ucap, uf⟩ := u
  simp only at c0 c1 s1 s2 hq hmd
  obtain ⟨k, rfl⟩ := Int.eq_ofNat_of_zero_le (show 0 ≤ us by omega)
  rw [Int.natAbs_natCast] at hq
  have HQ : Hid (IntKind.i64.wrap ((d : Int).tdiv (k : Int)) = (q : Int)) := by
    rw [Hid, ← hq, Int.tdiv_eq_ediv_of_nonneg (by omega), IntWalk.i64_in _ (by rw [← Int.natCast_ediv]; have := Nat.div_le_self d k; omega)]; rfl
  have hk0 : (0 : Int) < (k : Int) := by omega
  clear hq
  have HAm2 : Hid (∀ w', Ext w w' → Calls Tryz.prog 48 #[.agg L.vals.toArray, .agg #[.int .i64 (k : Int), .slice uao uf.length ucap], .int .i64 (q : Int)] w' fun e w'' => e = .returned (.string ⟨Y.toArray⟩) ∧ Ext w' w'') := HAm.out
  have HAb : Hid (∀ w, Calls Tryz.prog 31 #[.int .i64 ((d : Int))] w fun e w' => e = .returned (.int .i64 (d : Int)) ∧ w = w') := fun w => by
    have := abs_c ((d : Int)) w (by omega) (by omega)
    exact this
  have t0 : (t == now) = false := by rw [beq_eq_false_iff_ne]; omega
  have Hdd := Lib.hid hdd
  have t2 : IntKind.i64.wrap (t - now) = (d : Int) := by rw [IntWalk.i64_in _ (by omega)]; exact hdd
  have t3 : decide (now < t) = true := by simp; omega
  clear HAm
  go_enter Tryz.func21, Tryz.ntmps21
  go_upto_region 1 with fail
  generalize w.alloc (.cells L.vals.toArray 30) = W0 at *
  generalize w.heap.size = B at *
  go_wp2_with (first
    | (refine load_midg (by rfl) 30 _ rfl B 0 rfl L.vals _ hR Tryz.underlying30 rfl hIL ?_)
    | (go_at_call 29; (with_reducible refine (rvalid_c L true _ HV.out Hs.out HNl.out HVl.out).mono ?_); rintro e w1 ⟨rfl, hE1⟩)
    | (go_at_call 31; (with_reducible refine (HAb.out _).mono ?_); rintro e w2 ⟨rfl, rfl⟩))
  have g3V := (hE1.cells B 43 HBk.out.1).trans g3
  have hRV := rng_ext hR HBk.out.1 hE1
  have hzBV := hE1.lt HBk.out.1
  have c0V := (hE1.cells R _ hzR).trans c0
  have c1V := (hE1.cells R _ hzR).trans c1
  have hzRV := hE1.lt hzR
  have HEV := Lib.hid (HE0.out.trans hE1)
  have HCV : Hid (∀ i (h : i < L.U.length), w1.cell? ⟨R, off + i * 2, none⟩ = some (.int .i64 L.U[i].s)) := fun i hi => (hE1.cells R _ hzR).trans (HCu.out i hi).1
  clear c0 c1 g3 hR hzR hE1 hua t0 t2
  go_loop [9] (fun i => ∃ j : Nat, j ≤ m ∧ i = .int .i64 (j : Int)) (fun i => m - (intOf i).toNat)
  case atStart => exact ⟨0, Nat.zero_le _, rfl⟩
  case round =>
    obtain ⟨j, hj, rfl⟩ := hrel
    by_cases hjm : j < m
    · have hjl : j < L.U.length := by omega
      have cj := HCV.out j hjl
      have hb := uIx_before HMm.out hjm hjl
      obtain ⟨sj, hsj⟩ : ∃ s, s = (L.U[j]).s := ⟨_, rfl⟩
      rw [← hsj] at cj hb
      clear hsj
      have t5 : decide ((d : Int) < sj) = true := decide_eq_true hb
      go_wp2_with fail
      go_round
      case rel => exact ⟨j + 1, by omega, by go_num⟩
      case measure => simp [intOf]; omega
    · obtain rfl : j = m := by omega
      have t5 : decide ((d : Int) < (k : Int)) = false := decide_eq_false (by omega)
      have t6 : decide (d < k) = false := decide_eq_false (by omega)
      go_upto_region 11 with fail
      refine wp_region_grow [55, 56, 57, 58, 59, 60, 61, 62, 63, 64, 65, 66, 67, 68, 69, 10] [fun x _ => x = .agg L.vals.toArray, fun x _ => x = .pointer (some ⟨B, 43, none⟩), fun x _ => x = .slice (some ⟨R, off, none⟩) L.U.length L.uc, fun x _ => x = .int .i64 (j : Int), fun x _ => x = .pointer (some ⟨R, off + j * 2, none⟩), fun x _ => x = .agg #[.int .i64 (k : Int), .slice uao uf.length ucap], fun x _ => x = .int .i64 (d : Int), fun x _ => x = .pointer (some ⟨B, 43, none⟩), fun x _ => x = .slice (some ⟨R, off, none⟩) L.U.length L.uc, fun x _ => x = .int .i64 (j : Int), fun x _ => x = .pointer (some ⟨R, off + j * 2, none⟩), fun x _ => x = .pointer (some ⟨R, off + j * 2, none⟩), fun x _ => x = .int .i64 (k : Int), fun x _ => x = .int .i64 (q : Int), fun x _ => x = .string ⟨Y.toArray⟩, fun x _ => x = .string ⟨Y.toArray⟩] 0 (by kernel_rfl) (by kernel_rfl) (by kernel_rfl) (by kernel_rfl) ?_ ?_ ?_
      · intro Rl hRl
        simp only [List.mem_cons, List.not_mem_nil, or_false] at hRl
        rcases hRl with rfl | rfl | rfl | rfl | rfl | rfl | rfl | rfl | rfl | rfl | rfl | rfl | rfl | rfl | rfl | rfl
        all_goals first
          | exact fun _ _ _ h _ => h
      · refine ⟨?_, ?_, ?_, ?_, ?_, ?_, ?_, ?_, ?_, ?_, ?_, ?_, ?_, ?_, ?_, ?_, trivial⟩
        all_goals intro a w hE hF hD K hK
        · exact gs_val rfl (yr_load rfl ((hF 3 (fr_of rfl)).trans rfl) (run_loadAt_mid w B 0 _ _ _ (rng_ext hRV hzBV hE) Tryz.underlying30 rfl hIL)) (hK _ _ rfl (Ext.refl _))
        · exact gs_val rfl (yr_field rfl ((hF 3 (fr_of rfl)).trans rfl) (by go_simp)) (hK _ _ rfl (Ext.refl _))
        · have u56 : a.eval (.tmp 56) = .pointer (some ⟨B, 43, none⟩) := hD 1 (by kernel_rfl)
          exact gs_val rfl (yr_load rfl u56 (ld_uns _ _ _ ((hE.cells B 43 hzBV).trans g3V))) (hK _ _ rfl (Ext.refl _))
        · exact gs_val rfl (yr_move rfl ((hF 9 (fr_of rfl)).trans rfl)) (hK _ _ rfl (Ext.refl _))
        · have u57 : a.eval (.tmp 57) = .slice (some ⟨R, off, none⟩) L.U.length L.uc := hD 2 (by kernel_rfl)
          have u58 : a.eval (.tmp 58) = .int .i64 (j : Int) := hD 3 (by kernel_rfl)
          exact gs_val rfl (yr_idxa rfl u57 u58 (ix_un R off _ _ j w hml)) (hK _ _ rfl (Ext.refl _))
        · have u59 : a.eval (.tmp 59) = .pointer (some ⟨R, off + j * 2, none⟩) := hD 4 (by kernel_rfl)
          exact gs_val rfl (yr_load rfl u59 (ld_un R (off + j * 2) _ _ w ((hE.cells R _ hzRV).trans c0V) ((hE.cells R _ hzRV).trans c1V))) (hK _ _ rfl (Ext.refl _))
        · exact gs_val rfl (yr_move rfl ((hF 8 (fr_of rfl)).trans rfl)) (hK _ _ rfl (Ext.refl _))
        · exact gs_val rfl (yr_field rfl ((hF 3 (fr_of rfl)).trans rfl) (by go_simp)) (hK _ _ rfl (Ext.refl _))
        · have u62 : a.eval (.tmp 62) = .pointer (some ⟨B, 43, none⟩) := hD 7 (by kernel_rfl)
          exact gs_val rfl (yr_load rfl u62 (ld_uns _ _ _ ((hE.cells B 43 hzBV).trans g3V))) (hK _ _ rfl (Ext.refl _))
        · exact gs_val rfl (yr_move rfl ((hF 9 (fr_of rfl)).trans rfl)) (hK _ _ rfl (Ext.refl _))
        · have u63 : a.eval (.tmp 63) = .slice (some ⟨R, off, none⟩) L.U.length L.uc := hD 8 (by kernel_rfl)
          have u64 : a.eval (.tmp 64) = .int .i64 (j : Int) := hD 9 (by kernel_rfl)
          exact gs_val rfl (yr_idxa rfl u63 u64 (ix_un R off _ _ j w hml)) (hK _ _ rfl (Ext.refl _))
        · have u65 : a.eval (.tmp 65) = .pointer (some ⟨R, off + j * 2, none⟩) := hD 10 (by kernel_rfl)
          exact gs_val rfl (yr_field rfl u65 (by go_simp)) (hK _ _ rfl (Ext.refl _))
        · have u66 : a.eval (.tmp 66) = .pointer (some ⟨R, off + j * 2, none⟩) := hD 11 (by kernel_rfl)
          exact gs_val rfl (yr_load rfl u66 (ld_in _ _ _ ((hE.cells R _ hzRV).trans c0V))) (hK _ _ rfl (Ext.refl _))
        · have u61 : a.eval (.tmp 61) = .int .i64 (d : Int) := hD 6 (by kernel_rfl)
          have u67 : a.eval (.tmp 67) = .int .i64 (k : Int) := hD 12 (by kernel_rfl)
          exact gs_val rfl (yr_quoi rfl u61 u67 (by omega) HQ.out) (hK _ _ rfl (Ext.refl _))
        · have u55 : a.eval (.tmp 55) = .agg L.vals.toArray := hD 0 (by kernel_rfl)
          have u60 : a.eval (.tmp 60) = .agg #[.int .i64 (k : Int), .slice uao uf.length ucap] := hD 5 (by kernel_rfl)
          have u68 : a.eval (.tmp 68) = .int .i64 (q : Int) := hD 13 (by kernel_rfl)
          have q0 : a.eval (.tmp 55) = .agg L.vals.toArray := u55
          have q1 : a.eval (.tmp 60) = .agg #[.int .i64 (k : Int), .slice uao uf.length ucap] := u60
          have q2 : a.eval (.tmp 68) = .int .i64 (q : Int) := u68
          exact gs_call rfl (yr_call rfl rfl (show (#[Operand.tmp 55, Operand.tmp 60, Operand.tmp 68] : Array Operand).map a.eval = #[.agg L.vals.toArray, .agg #[.int .i64 (k : Int), .slice uao uf.length ucap], .int .i64 (q : Int)] by simp only [List.map_toArray, List.map_cons, List.map_nil, q0, q1, q2] <;> rfl) (by kernel_rfl)) ((HAm2.out w (HEV.out.trans hE)).mono fun e w' ⟨h1, h2⟩ => ⟨_, h1, rfl, h2⟩) hK
        · have u69 : a.eval (.tmp 69) = .string ⟨Y.toArray⟩ := hD 14 (by kernel_rfl)
          exact gs_val rfl (yr_assign rfl u69) (hK _ _ rfl (Ext.refl _))
      intro vals wz hEz hRz
      obtain ⟨-, -, -, -, -, -, -, -, -, -, -, -, -, -, -, h15, -⟩ := hRz
      have e10 : vals 15 = .string ⟨Y.toArray⟩ := h15
      refine wpAny_done (by kernel_rfl) ?_ _
      simp only [putF, Act.put, List.length_cons, List.length_nil, List.getD_cons_zero, List.getD_cons_succ, List.setIfInBounds_toArray, List.set_cons_zero, List.set_cons_succ, Nat.reduceAdd, e10]
      clear e10
      go_wp2_with fail
      go_ret2
      exact ⟨by rw [HVd.out, show (43 :: Y : List UInt8) = [43] ++ Y from rfl, ← app2_str]; rfl, HEV.out.trans hEz⟩
set_option maxRecDepth 100000 in
set_option maxHeartbeats 4000000 in
theorem rrelative_m (L : Loc) (t now : Int) (d : Nat) (w : World) (h : LcV L w) (hs : shL L) (hNl : ∀ s ∈ L.N.all, s.length ≤ 2000000) (hv : validLB L = true) (ht : tmB t = true) (hn : tmB now = true) (hlt : t < now) (hdd : t - now = -(d : Int)) :
    Calls Tryz.prog 21 #[.agg L.vals.toArray, .int .i64 t, .int .i64 now] w fun e w' => e = .returned (.tuple #[.string ⟨(reV L t now).toArray⟩, .int .i64 (reE L t now : Int)]) ∧ Ext w w' := by
  have HAR := Lib.hid (fun (w' : World) (hE : Ext w w') (i : Nat) (hi : i < L.U.length) => amR_of (h.ext hE) hs hv i hi)
  have HUF := Lib.hid (uf_of (vu hv).1 (vu hv).2)
  obtain ⟨t1b, t2b⟩ := tm_b ht
  obtain ⟨n1b, n2b⟩ := tm_b hn
  have hd1 : 1 ≤ d := by omega
  obtain ⟨m, hmm⟩ : ∃ m, uIx L.U d = m := ⟨_, rfl⟩
  have hml : m < L.U.length := by rw [← hmm]; exact uIx_lt HUF.out hd1
  have hmd := uIx_at hmm hml
  have hne : t ≠ now := by omega
  obtain ⟨v1, v2⟩ := reV_ne hv ht hn hne (show (t - now).natAbs = d by omega) hmm hml
  rw [if_neg (by omega)] at v2
  obtain ⟨V, hVd⟩ : ∃ V, V = reV L t now := ⟨_, rfl⟩
  rw [v1, ← hVd]
  rw [v2] at hVd
  obtain ⟨s1, s2, -, -⟩ := HUF.out.at_ m hml
  have hfm := HUF.out.at_ m hml
  obtain ⟨Y, hY0⟩ : ∃ Y, amt L.P (L.U[m]).f (d / (L.U[m]).s.natAbs) = Y := ⟨_, rfl⟩
  rw [hY0] at hVd
  have HVd := Lib.hid hVd
  obtain ⟨q, hq⟩ : ∃ q, d / (L.U[m]).s.natAbs = q := ⟨_, rfl⟩
  have hqd : q ≤ d := by rw [← hq]; exact Nat.div_le_self _ _
  rw [hq] at hY0
  have hYl : Y.length ≤ 50 := by rw [← hY0]; exact amt_len hfm.2.2.2 (by omega)
  have HVl := Lib.hid hv
  have HT := Lib.hid ht
  have HNw := Lib.hid hn
  have HMm := Lib.hid hmm
  clear v1 v2 hv ht hn hVd hmm hne hfm
  have hIL := loc_size h.1
  have hE0 : Ext w (w.alloc (.cells L.vals.toArray 30)) := (Ext.refl w).alloc _
  have hB := LcB.new L w 30
  have hV := h.ext hE0
  obtain ⟨g0, g1, g2, g3, g4⟩ := hB.cells h.1
  have HV := Lib.hid hV
  have HBk := Lib.hid hB
  have HE0 := Lib.hid hE0
  have HNl := Lib.hid hNl
  have Hs := Lib.hid hs
  
  
  have hR := hB.2
  obtain ⟨R, off, hua, hzR, hcu⟩ := hV.2.2.2.2.2.1 (by have := HUF.out.one; intro e; rw [e] at this; simp at this)
  have hul := hV.2.2.2.1
  have hul2 := hV.2.2.2.2.1
  unfold maxLen at hul2
  have HCu := Lib.hid hcu
  rw [hua] at g3
  clear hs hNl h hE0 hB hV g0 g1 g2 g4 hcu
  obtain ⟨c0, c1⟩ := HCu.out m hml
  have HAm := Lib.hid (fun (w' : World) (hE : Ext w w') => ramount_c L L.U[m] q Y w' (HAR.out w' hE m hml) (by omega) hY0)
  have HUV : Hid (∀ w', Ext w w' → True) := fun _ _ => trivial
  obtain ⟨u, hu⟩ : ∃ u, u = L.U[m] := ⟨_, rfl⟩
  rw [← hu] at c0 c1 HAm s1 s2 hq hmd
  clear hu hY0 HUV
  obtain ⟨us, uao, ucap, uf⟩ := u
  simp only at c0 c1 s1 s2 hq hmd
  obtain ⟨k, rfl⟩ := Int.eq_ofNat_of_zero_le (show 0 ≤ us by omega)
  rw [Int.natAbs_natCast] at hq
  have HQ : Hid (IntKind.i64.wrap ((d : Int).tdiv (k : Int)) = (q : Int)) := by
    rw [Hid, ← hq, Int.tdiv_eq_ediv_of_nonneg (by omega), IntWalk.i64_in _ (by rw [← Int.natCast_ediv]; have := Nat.div_le_self d k; omega)]; rfl
  have hk0 : (0 : Int) < (k : Int) := by omega
  clear hq
  have HAm2 : Hid (∀ w', Ext w w' → Calls Tryz.prog 48 #[.agg L.vals.toArray, .agg #[.int .i64 (k : Int), .slice uao uf.length ucap], .int .i64 (q : Int)] w' fun e w'' => e = .returned (.string ⟨Y.toArray⟩) ∧ Ext w' w'') := HAm.out
  have HAb : Hid (∀ w, Calls Tryz.prog 31 #[.int .i64 (-(d : Int))] w fun e w' => e = .returned (.int .i64 (d : Int)) ∧ w = w') := fun w => by
    have := abs_c (-(d : Int)) w (by omega) (by omega)
    rwa [Int.natAbs_neg, Int.natAbs_natCast] at this
  have t0 : (t == now) = false := by rw [beq_eq_false_iff_ne]; omega
  have Hdd := Lib.hid hdd
  have t2 : IntKind.i64.wrap (t - now) = -(d : Int) := by rw [IntWalk.i64_in _ (by omega)]; exact hdd
  have t3 : decide (now < t) = false := by simp; omega
  clear HAm
  go_enter Tryz.func21, Tryz.ntmps21
  go_upto_region 1 with fail
  generalize w.alloc (.cells L.vals.toArray 30) = W0 at *
  generalize w.heap.size = B at *
  go_wp2_with (first
    | (refine load_midg (by rfl) 30 _ rfl B 0 rfl L.vals _ hR Tryz.underlying30 rfl hIL ?_)
    | (go_at_call 29; (with_reducible refine (rvalid_c L true _ HV.out Hs.out HNl.out HVl.out).mono ?_); rintro e w1 ⟨rfl, hE1⟩)
    | (go_at_call 31; (with_reducible refine (HAb.out _).mono ?_); rintro e w2 ⟨rfl, rfl⟩))
  have g3V := (hE1.cells B 43 HBk.out.1).trans g3
  have hRV := rng_ext hR HBk.out.1 hE1
  have hzBV := hE1.lt HBk.out.1
  have c0V := (hE1.cells R _ hzR).trans c0
  have c1V := (hE1.cells R _ hzR).trans c1
  have hzRV := hE1.lt hzR
  have HEV := Lib.hid (HE0.out.trans hE1)
  have HCV : Hid (∀ i (h : i < L.U.length), w1.cell? ⟨R, off + i * 2, none⟩ = some (.int .i64 L.U[i].s)) := fun i hi => (hE1.cells R _ hzR).trans (HCu.out i hi).1
  clear c0 c1 g3 hR hzR hE1 hua t0 t2
  go_loop [9] (fun i => ∃ j : Nat, j ≤ m ∧ i = .int .i64 (j : Int)) (fun i => m - (intOf i).toNat)
  case atStart => exact ⟨0, Nat.zero_le _, rfl⟩
  case round =>
    obtain ⟨j, hj, rfl⟩ := hrel
    by_cases hjm : j < m
    · have hjl : j < L.U.length := by omega
      have cj := HCV.out j hjl
      have hb := uIx_before HMm.out hjm hjl
      obtain ⟨sj, hsj⟩ : ∃ s, s = (L.U[j]).s := ⟨_, rfl⟩
      rw [← hsj] at cj hb
      clear hsj
      have t5 : decide ((d : Int) < sj) = true := decide_eq_true hb
      go_wp2_with fail
      go_round
      case rel => exact ⟨j + 1, by omega, by go_num⟩
      case measure => simp [intOf]; omega
    · obtain rfl : j = m := by omega
      have t5 : decide ((d : Int) < (k : Int)) = false := decide_eq_false (by omega)
      have t6 : decide (d < k) = false := decide_eq_false (by omega)
      go_upto_region 11 with fail
      refine wp_region_grow [55, 56, 57, 58, 59, 60, 61, 62, 63, 64, 65, 66, 67, 68, 69, 10] [fun x _ => x = .agg L.vals.toArray, fun x _ => x = .pointer (some ⟨B, 43, none⟩), fun x _ => x = .slice (some ⟨R, off, none⟩) L.U.length L.uc, fun x _ => x = .int .i64 (j : Int), fun x _ => x = .pointer (some ⟨R, off + j * 2, none⟩), fun x _ => x = .agg #[.int .i64 (k : Int), .slice uao uf.length ucap], fun x _ => x = .int .i64 (d : Int), fun x _ => x = .pointer (some ⟨B, 43, none⟩), fun x _ => x = .slice (some ⟨R, off, none⟩) L.U.length L.uc, fun x _ => x = .int .i64 (j : Int), fun x _ => x = .pointer (some ⟨R, off + j * 2, none⟩), fun x _ => x = .pointer (some ⟨R, off + j * 2, none⟩), fun x _ => x = .int .i64 (k : Int), fun x _ => x = .int .i64 (q : Int), fun x _ => x = .string ⟨Y.toArray⟩, fun x _ => x = .string ⟨Y.toArray⟩] 0 (by kernel_rfl) (by kernel_rfl) (by kernel_rfl) (by kernel_rfl) ?_ ?_ ?_
      · intro Rl hRl
        simp only [List.mem_cons, List.not_mem_nil, or_false] at hRl
        rcases hRl with rfl | rfl | rfl | rfl | rfl | rfl | rfl | rfl | rfl | rfl | rfl | rfl | rfl | rfl | rfl | rfl
        all_goals first
          | exact fun _ _ _ h _ => h
      · refine ⟨?_, ?_, ?_, ?_, ?_, ?_, ?_, ?_, ?_, ?_, ?_, ?_, ?_, ?_, ?_, ?_, trivial⟩
        all_goals intro a w hE hF hD K hK
        · exact gs_val rfl (yr_load rfl ((hF 3 (fr_of rfl)).trans rfl) (run_loadAt_mid w B 0 _ _ _ (rng_ext hRV hzBV hE) Tryz.underlying30 rfl hIL)) (hK _ _ rfl (Ext.refl _))
        · exact gs_val rfl (yr_field rfl ((hF 3 (fr_of rfl)).trans rfl) (by go_simp)) (hK _ _ rfl (Ext.refl _))
        · have u56 : a.eval (.tmp 56) = .pointer (some ⟨B, 43, none⟩) := hD 1 (by kernel_rfl)
          exact gs_val rfl (yr_load rfl u56 (ld_uns _ _ _ ((hE.cells B 43 hzBV).trans g3V))) (hK _ _ rfl (Ext.refl _))
        · exact gs_val rfl (yr_move rfl ((hF 9 (fr_of rfl)).trans rfl)) (hK _ _ rfl (Ext.refl _))
        · have u57 : a.eval (.tmp 57) = .slice (some ⟨R, off, none⟩) L.U.length L.uc := hD 2 (by kernel_rfl)
          have u58 : a.eval (.tmp 58) = .int .i64 (j : Int) := hD 3 (by kernel_rfl)
          exact gs_val rfl (yr_idxa rfl u57 u58 (ix_un R off _ _ j w hml)) (hK _ _ rfl (Ext.refl _))
        · have u59 : a.eval (.tmp 59) = .pointer (some ⟨R, off + j * 2, none⟩) := hD 4 (by kernel_rfl)
          exact gs_val rfl (yr_load rfl u59 (ld_un R (off + j * 2) _ _ w ((hE.cells R _ hzRV).trans c0V) ((hE.cells R _ hzRV).trans c1V))) (hK _ _ rfl (Ext.refl _))
        · exact gs_val rfl (yr_move rfl ((hF 8 (fr_of rfl)).trans rfl)) (hK _ _ rfl (Ext.refl _))
        · exact gs_val rfl (yr_field rfl ((hF 3 (fr_of rfl)).trans rfl) (by go_simp)) (hK _ _ rfl (Ext.refl _))
        · have u62 : a.eval (.tmp 62) = .pointer (some ⟨B, 43, none⟩) := hD 7 (by kernel_rfl)
          exact gs_val rfl (yr_load rfl u62 (ld_uns _ _ _ ((hE.cells B 43 hzBV).trans g3V))) (hK _ _ rfl (Ext.refl _))
        · exact gs_val rfl (yr_move rfl ((hF 9 (fr_of rfl)).trans rfl)) (hK _ _ rfl (Ext.refl _))
        · have u63 : a.eval (.tmp 63) = .slice (some ⟨R, off, none⟩) L.U.length L.uc := hD 8 (by kernel_rfl)
          have u64 : a.eval (.tmp 64) = .int .i64 (j : Int) := hD 9 (by kernel_rfl)
          exact gs_val rfl (yr_idxa rfl u63 u64 (ix_un R off _ _ j w hml)) (hK _ _ rfl (Ext.refl _))
        · have u65 : a.eval (.tmp 65) = .pointer (some ⟨R, off + j * 2, none⟩) := hD 10 (by kernel_rfl)
          exact gs_val rfl (yr_field rfl u65 (by go_simp)) (hK _ _ rfl (Ext.refl _))
        · have u66 : a.eval (.tmp 66) = .pointer (some ⟨R, off + j * 2, none⟩) := hD 11 (by kernel_rfl)
          exact gs_val rfl (yr_load rfl u66 (ld_in _ _ _ ((hE.cells R _ hzRV).trans c0V))) (hK _ _ rfl (Ext.refl _))
        · have u61 : a.eval (.tmp 61) = .int .i64 (d : Int) := hD 6 (by kernel_rfl)
          have u67 : a.eval (.tmp 67) = .int .i64 (k : Int) := hD 12 (by kernel_rfl)
          exact gs_val rfl (yr_quoi rfl u61 u67 (by omega) HQ.out) (hK _ _ rfl (Ext.refl _))
        · have u55 : a.eval (.tmp 55) = .agg L.vals.toArray := hD 0 (by kernel_rfl)
          have u60 : a.eval (.tmp 60) = .agg #[.int .i64 (k : Int), .slice uao uf.length ucap] := hD 5 (by kernel_rfl)
          have u68 : a.eval (.tmp 68) = .int .i64 (q : Int) := hD 13 (by kernel_rfl)
          have q0 : a.eval (.tmp 55) = .agg L.vals.toArray := u55
          have q1 : a.eval (.tmp 60) = .agg #[.int .i64 (k : Int), .slice uao uf.length ucap] := u60
          have q2 : a.eval (.tmp 68) = .int .i64 (q : Int) := u68
          exact gs_call rfl (yr_call rfl rfl (show (#[Operand.tmp 55, Operand.tmp 60, Operand.tmp 68] : Array Operand).map a.eval = #[.agg L.vals.toArray, .agg #[.int .i64 (k : Int), .slice uao uf.length ucap], .int .i64 (q : Int)] by simp only [List.map_toArray, List.map_cons, List.map_nil, q0, q1, q2] <;> rfl) (by kernel_rfl)) ((HAm2.out w (HEV.out.trans hE)).mono fun e w' ⟨h1, h2⟩ => ⟨_, h1, rfl, h2⟩) hK
        · have u69 : a.eval (.tmp 69) = .string ⟨Y.toArray⟩ := hD 14 (by kernel_rfl)
          exact gs_val rfl (yr_assign rfl u69) (hK _ _ rfl (Ext.refl _))
      intro vals wz hEz hRz
      obtain ⟨-, -, -, -, -, -, -, -, -, -, -, -, -, -, -, h15, -⟩ := hRz
      have e10 : vals 15 = .string ⟨Y.toArray⟩ := h15
      refine wpAny_done (by kernel_rfl) ?_ _
      simp only [putF, Act.put, List.length_cons, List.length_nil, List.getD_cons_zero, List.getD_cons_succ, List.setIfInBounds_toArray, List.set_cons_zero, List.set_cons_succ, Nat.reduceAdd, e10]
      clear e10
      go_wp2_with fail
      go_ret2
      exact ⟨by rw [HVd.out, show (45 :: Y : List UInt8) = [45] ++ Y from rfl, ← app2_str]; rfl, HEV.out.trans hEz⟩
end Go.Proofs.YtlmoibmmjonjoaaGreatDoor
