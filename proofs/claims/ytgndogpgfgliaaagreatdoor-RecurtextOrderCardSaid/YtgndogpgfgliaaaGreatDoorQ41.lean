/- Recurrence rules: the walk of the law RecurtextOrder. -/
import Derived.Test.YtgndogpgfgliaaaGreatDoorQ39
import Derived.Test.YtgndogpgfgliaaaGreatDoorQ40
import Derived.Test.YtgndogpgfgliaaaGreatDoorQ31
namespace Go.Proofs.YtgndogpgfgliaaaGreatDoor
set_option linter.unusedVariables false
set_option linter.unnecessarySimpa false
set_option linter.unusedSimpArgs false
open Go.RowKit

theorem yr_slt30 {P : Program} {o : Oper} {a : Act} {w : World} {t : TypeId} {x y : Operand} {u z v : Value} (hop : o.op = .slice t x none (some y) none) (hx : a.eval x = u) (hy : a.eval y = z) (hrun : (Instr.sliceAt t u none (some z) none).run P w = .ok v w) : (execOp a.eval o).run P w = .ok (.value v) w := by
  unfold execOp; simp [hop, hx, hy, hrun, Result.andThen]
theorem yr_slf30 {P : Program} {o : Oper} {a : Act} {w : World} {t : TypeId} {x y : Operand} {u z v : Value} (hop : o.op = .slice t x (some y) none none) (hx : a.eval x = u) (hy : a.eval y = z) (hrun : (Instr.sliceAt t u (some z) none none).run P w = .ok v w) : (execOp a.eval o).run P w = .ok (.value v) w := by
  unfold execOp; simp [hop, hx, hy, hrun, Result.andThen]
theorem slD30 (g m n : Nat) (w : World) (h : n < m) : (Instr.sliceAt 55 (.slice (some ⟨g, 0, none⟩) m m) (some (.int .i64 (n : Int))) none none).run Tryz.prog w = .ok (.slice (some ⟨g, n, none⟩) (m - n) (m - n)) w := by
  go_simp
  rw [if_pos (by omega), if_neg (by omega)]
theorem slT30 (g m n : Nat) (w : World) (h : n < m) : (Instr.sliceAt 55 (.slice (some ⟨g, 0, none⟩) m m) none (some (.int .i64 (n : Int))) none).run Tryz.prog w = .ok (.slice (some ⟨g, 0, none⟩) n m) w := by
  go_simp
  intro h2
  omega
theorem catb30 (A B : List UInt8) : (⟨A.toArray⟩ : ByteArray) ++ ⟨B.toArray⟩ = ⟨(A ++ B).toArray⟩ := by apply ByteArray.ext; simp
theorem sv_one : ∀ (ws : List (List UInt8)), ∀ u ∈ sv ws, u.oneCell' = true := by
  intro ws u hu
  unfold sv at hu
  obtain ⟨y, _, rfl⟩ := List.mem_map.1 hu
  rfl
/-- Pieces in a slice of the call's own. -/
def OrO (base : Nat) (P : List (List UInt8)) (x : Value) (w : World) : Prop := ∃ g cap, x = .slice (some ⟨g, 0, none⟩) P.length cap ∧ w.ownsRow base 9 1 (.slice (some ⟨g, 0, none⟩) P.length cap) P.length (sv P)
theorem OrO.ext {base : Nat} {P : List (List UInt8)} {x : Value} {w w' : World} (h : OrO base P x w) (hE : Ext w w') : OrO base P x w' := by
  obtain ⟨g, cap, h1, h2⟩ := h
  exact ⟨g, cap, h1, own_ext h2 hE⟩
set_option maxRecDepth 100000 in
set_option maxHeartbeats 4000000 in
theorem order_great (r : Rec) (k : Int) (w : World) (hm : Lm w) (hV : RcV r w) (hg : greatR r.D = true) :
    Calls Tryz.prog 10 #[.agg r.vals.toArray, .int .u8 k] w fun e w' => e = .returned (.bool true) ∧ Ext w w' := by
  have hE0 : Ext w (w.alloc (.cells r.vals.toArray 25)) := (Ext.refl w).alloc _
  have HE0 := Lib.hid hE0
  have hB := RcB.new r w 25
  have hBr := hB.2
  have hBl := hB.1
  have hRs := rec_size r
  have HG := Lib.hid (fun W (hE : Ext (w.alloc (.cells r.vals.toArray 25)) W) => great30_c r true W ((hV.ext hE0).ext hE) hg)
  have HA := Lib.hid (awake30_c _ (hm.ext hE0))
  clear hE0 hB hV hm
  go_enter Tryz.func10, Tryz.ntmps10
  go_upto_region 1 with fail
  generalize w.alloc (.cells r.vals.toArray 25) = W0 at *
  generalize w.heap.size = B at *
  go_upto_region 3 with (go_at_call 11; (with_reducible refine HA.out.mono ?_); rintro e w1 ⟨rfl, hE1⟩)
  have hB1 : RcB r B w1 := RcB.ext ⟨hBl, hBr⟩ hE1
  have hBr1 := hB1.2
  go_wp2_with (first
    | (refine load_midg (by rfl) 25 _ rfl B 0 rfl r.vals _ (by assumption) Tryz.underlying25 rfl hRs ?_)
    | (go_at_call 12; (with_reducible refine (HG.out _ hE1).mono ?_); rintro e w2 ⟨rfl, hE2⟩; have hE2' := hE1.trans hE2))
  go_ret
  exact ⟨rfl, HE0.out.trans (by assumption)⟩
set_option maxRecDepth 100000 in
set_option maxHeartbeats 4000000 in
theorem order_no (r : Rec) (k : Int) (w : World) (hm : Lm w) (hV : RcV r w) (hg : greatR r.D = false) (hv : vldR r.D = false) :
    Calls Tryz.prog 10 #[.agg r.vals.toArray, .int .u8 k] w fun e w' => e = .returned (.bool true) ∧ Ext w w' := by
  have hE0 : Ext w (w.alloc (.cells r.vals.toArray 25)) := (Ext.refl w).alloc _
  have HE0 := Lib.hid hE0
  have hB := RcB.new r w 25
  have hBr := hB.2
  have hBl := hB.1
  have hRs := rec_size r
  have HG := Lib.hid (fun W (hE : Ext (w.alloc (.cells r.vals.toArray 25)) W) => great30_c r false W ((hV.ext hE0).ext hE) hg)
  have HVc := Lib.hid (fun W (hE : Ext (w.alloc (.cells r.vals.toArray 25)) W) => rvalid29_c r false W ((hV.ext hE0).ext hE) hv)
  have HA := Lib.hid (awake30_c _ (hm.ext hE0))
  clear hE0 hB hV hm
  go_enter Tryz.func10, Tryz.ntmps10
  go_upto_region 1 with fail
  generalize w.alloc (.cells r.vals.toArray 25) = W0 at *
  generalize w.heap.size = B at *
  go_upto_region 3 with (go_at_call 11; (with_reducible refine HA.out.mono ?_); rintro e w1 ⟨rfl, hE1⟩)
  have hB1 : RcB r B w1 := RcB.ext ⟨hBl, hBr⟩ hE1
  have hBr1 := hB1.2
  go_wp2_with (first
    | (refine load_midg (by rfl) 25 _ rfl B 0 rfl r.vals _ (by assumption) Tryz.underlying25 rfl hRs ?_)
    | (go_at_call 12; (with_reducible refine (HG.out _ hE1).mono ?_); rintro e w2 ⟨rfl, hE2⟩; have hE2' := hE1.trans hE2; have hBr2 := (hB1.ext hE2).2)
    | (go_at_call 30; (with_reducible refine (HVc.out _ (by assumption)).mono ?_); rintro e w4 ⟨rfl, hE4⟩; have hE4' := hE2'.trans hE4))
  go_ret
  exact ⟨rfl, HE0.out.trans (by assumption)⟩
set_option maxRecDepth 100000 in
set_option maxHeartbeats 4000000 in
theorem order_yes (r : Rec) (kn : Nat) (w : World) (hm : Lm w) (hV : RcV r w) (h1 : kn ≤ 255) (hg : greatR r.D = false) (hv : vldR r.D = true) :
    Calls Tryz.prog 10 #[.agg r.vals.toArray, .int .u8 (kn : Int)] w fun e w' => e = .returned (.bool true) ∧ Ext w w' := by
  have hE0 : Ext w (w.alloc (.cells r.vals.toArray 25)) := (Ext.refl w).alloc _
  have HE0 := Lib.hid hE0
  have hB := RcB.new r w 25
  have hBr := hB.2
  have hBl := hB.1
  have hRs := rec_size r
  obtain ⟨i0, hi, hz0, hz1, hz2⟩ := info_parts infoStr
  have Hi := Lib.hid hi
  have Hz0 := Lib.hid hz0
  have Hz1 := Lib.hid hz1
  have Hz2 := Lib.hid hz2
  obtain ⟨W0, hW0⟩ : ∃ W0, W0 = w.alloc (.cells r.vals.toArray 25) := ⟨_, rfl⟩
  have HW0 := Lib.hid hW0
  rw [← hW0] at hE0 HE0 hB hBr hBl
  have HVc := Lib.hid (fun W (hE : Ext W0 W) => rvalid29_c r true W ((hV.ext hE0).ext hE) hv)
  have HG := Lib.hid (fun W (hE : Ext W0 W) => great30_c r false W ((hV.ext hE0).ext hE) hg)
  have HA := Lib.hid (awake30_c _ (hm.ext hE0))
  have HT := Lib.hid (fun W (hE : Ext W0 W) => utext_yes r W ((hV.ext hE0).ext hE) hv)
  have HP := Lib.hid (fun (s : List UInt8) W (hs : s.length ≤ 3100 ∧ parZ untZ vldR s = .ok r.D) (hE : Ext W0 W) => (uparse_c s W ((hm.ext hE0).ext hE) (by omega)).mono (R' := fun e w' => ∃ r' : Rec, r'.D = r.D ∧ e = .returned (.tuple #[.agg r'.vals.toArray, .int .i64 0]) ∧ RcV r' w' ∧ Ext W w') (fun e w' h => by
    unfold ParR at h
    rw [hs.2] at h
    exact h))
  have HP8 := Lib.hid (fun (s : List UInt8) W (hs : s.length ≤ 4000) (hp : parZ untZ vldR s = .er 8) (hE : Ext W0 W) => (uparse_c s W ((hm.ext hE0).ext hE) (by omega)).mono (R' := fun e w' => e = .returned (.tuple #[.agg Rec.zero.vals.toArray, .int .i64 8]) ∧ Ext W w') (fun e w' h => by
    unfold ParR at h
    rw [hp] at h
    exact h))
  have HS := Lib.hid (fun (r' : Rec) W (hE : Ext W0 W) (hD : r'.D = r.D) (hV' : RcV r' W) => same30_c r r' true W ((hV.ext hE0).ext hE) hV' (by rw [hD]; exact sameR_iff.2 rfl))
  have HSp := Lib.hid (fun W (hE : Ext W0 W) => split_c (txtZ momT r.D) 59 W ((hm.ext hE0).ext hE) (Nat.le_trans (txt_len mom_ok hv) (by decide)))
  rw [prts_spl hv] at HSp
  have HTu := Lib.hid (fun n => prts_turn hv n)
  have HBk := Lib.hid (prts_back hv)
  have HTw := Lib.hid (fun n hn => prts_twice hv n hn)
  have htl := txt_len mom_ok hv
  have hP0 : 0 < (prts r.D).length := List.length_pos_iff.2 (prts_ne hv)
  have hPl := prts_len r.D
  have hel : ∀ x ∈ prts r.D, x.length ≤ 3100 := fun x hx => by
    rw [← prts_spl hv] at hx
    exact Nat.le_trans (spl_len 59 _ x hx) htl
  have HEl := Lib.hid hel
  obtain ⟨P, hP⟩ : ∃ P, P = prts r.D := ⟨_, rfl⟩
  obtain ⟨tx, htx⟩ : ∃ tx, tx = txtZ momT r.D := ⟨_, rfl⟩
  rw [← hP] at HSp HTu HBk HTw hP0 hPl HEl
  rw [← htx] at HT htl HSp HTw
  obtain ⟨m, hmP⟩ : ∃ m, m = P.length := ⟨_, rfl⟩
  have HmP := Lib.hid hmP
  rw [← hmP] at HSp hP0 hPl
  obtain ⟨n, hn⟩ : ∃ n, n = kn % m := ⟨_, rfl⟩
  have hnm : n < m := by rw [hn]; exact Nat.mod_lt _ hP0
  have hrem : Int.tmod (kn : Int) (m : Int) = (n : Int) := by rw [hn]; rfl
  have hrem2 : (kn : Int) % (m : Int) = (n : Int) := by rw [hn]; rfl
  have HB := Lib.hid hB
  clear hE0 hB hV hm hg hv hW0 htx hP hmP hn hel hi hz0 hz1 hz2
  go_enter Tryz.func10, Tryz.ntmps10
  go_upto_region 1 with fail
  rw [← HW0.out]
  generalize w.heap.size = B at *
  go_upto_region 3 with (go_at_call 11; (with_reducible refine HA.out.mono ?_); rintro e w1 ⟨rfl, hE1⟩)
  have hB1 : RcB r B w1 := RcB.ext ⟨hBl, hBr⟩ hE1
  have hBr1 := hB1.2
  go_upto_region 8 with (first
    | (refine load_midg (by rfl) 25 _ rfl B 0 rfl r.vals _ (by assumption) Tryz.underlying25 rfl hRs ?_)
    | (go_at_call 12; (with_reducible refine (HG.out _ hE1).mono ?_); rintro e w2 ⟨rfl, hE2⟩; have hE2' := hE1.trans hE2; have hBr2 := (hB1.ext hE2).2)
    | (go_at_call 30; (with_reducible refine (HVc.out _ (by assumption)).mono ?_); rintro e w4 ⟨rfl, hE4⟩; have hE4' := hE2'.trans hE4; have hBr3 := ((hB1.ext hE2).ext hE4).2)
    | (go_at_call 13; (with_reducible refine (HT.out _ (by assumption)).mono ?_); rintro e w3 ⟨rfl, hE3⟩; have hE3' := hE4'.trans hE3))
  clear hBr hBr1 hBr2 hBr3 hB1 hE1 hE2 hE4 hE2' hE4' hE3
  go_upto_region 9 with (go_at_call 31; (with_reducible refine (HSp.out _ hE3').mono ?_); rintro e w5 ⟨rfl, hw5⟩; have Hw5 := Lib.hid hw5; clear hw5)
  have hw5 := Hw5.out
  have hEs : Ext w3 w5 := by rw [hw5]; exact (Ext.refl _).alloc _
  have hPr : RdS P w3.heap.size 0 w5 := by
    refine ⟨by rw [hw5]; simp, fun i hi => ?_⟩
    rw [hw5, World.cell?_alloc_new, Nat.zero_add]
    simp [hi]
  have HPr := Lib.hid hPr
  have HX5 := Lib.hid (hE3'.trans hEs)
  have hgl := hPr.1
  have hBl5 := (hE3'.trans hEs).lt hBl
  clear hw5 hEs hPr hE3' Hw5
  generalize w3.heap.size = gP at *
  go_upto_region 10 with fail
  obtain ⟨PD, hPD⟩ : ∃ PD, PD = P.drop n := ⟨_, rfl⟩
  obtain ⟨PT, hPT⟩ : ∃ PT, PT = P.take n := ⟨_, rfl⟩
  have HPD := Lib.hid hPD
  have HPT0 := Lib.hid hPT
  have HPDl : Hid (PD.length = m - n) := by rw [Hid, hPD, List.length_drop, HmP.out]
  have HPT : Hid (PT.length = n) := by rw [Hid, hPT, List.length_take, ← HmP.out]; omega
  have HPTc : Hid (∀ W, Ext w5 W → ∀ j u, (sv PT)[j]? = some u → W.cell? ((⟨gP, 0, none⟩ : Addr).add j) = some u) := fun W hW j u hu => by
    unfold sv at hu
    rw [List.getElem?_map] at hu
    obtain ⟨y, hy, rfl⟩ := Option.map_eq_some_iff.1 hu
    have hj : j < PT.length := (List.getElem?_eq_some_iff.1 hy).1
    have hj2 : j < P.length := by rw [HPT.out] at hj; rw [← HmP.out]; omega
    have h2 := (HPr.out.ext hW).2 j hj2
    rw [hPT, List.getElem?_take] at hy
    have hjn : j < n := by rw [HPT.out] at hj; exact hj
    rw [if_pos hjn, List.getElem?_eq_getElem hj2] at hy
    obtain rfl := Option.some.inj hy
    unfold Addr.add
    split
    · next h => subst h; simpa using h2
    · simpa using h2
  have HCl : Hid (∀ W, Ext w5 W → Calls Tryz.prog 32 #[.slice (some ⟨gP, n, none⟩) (m - n) (m - n)] W fun e w' => ∃ x, e = .returned x ∧ OrO w5.heap.size PD x w' ∧ Ext W w') := fun W hW => by
    have h2 := (HPr.out.drop n).ext hW
    rw [← hPD, Nat.zero_add] at h2
    have h3 := clones_c PD gP n (m - n) W h2 (fun e => by have := HPDl.out; rw [e] at this; simp at this; omega) (by rw [HPDl.out]; omega)
    rw [HPDl.out] at h3
    refine h3.mono ?_
    rintro e w' ⟨g, cv, h4, h5, h6⟩
    rw [← HPDl.out] at h4 h5
    exact ⟨_, h4, ⟨g, cv, rfl, own_le h5 hW.size⟩, h6⟩
  clear hPD hPT
  refine wp_region_grow [47, 48, 49, 50, 51, 52, 53] [fun x _ => x = .slice (some ⟨gP, 0, none⟩) m m, fun x _ => x = .int .i64 (n : Int), fun x _ => x = .slice (some ⟨gP, n, none⟩) (m - n) (m - n), OrO w5.heap.size PD, fun x _ => x = .slice (some ⟨gP, 0, none⟩) m m, fun x _ => x = .int .i64 (n : Int), fun x _ => x = .slice (some ⟨gP, 0, none⟩) n m] 2 (by kernel_rfl) (by kernel_rfl) (by kernel_rfl) (by kernel_rfl) ?_ ?_ ?_
  · intro Rl hRl
    simp only [List.mem_cons, List.not_mem_nil, or_false] at hRl
    rcases hRl with rfl | rfl | rfl | rfl | rfl | rfl | rfl
    all_goals first
      | exact fun _ _ _ h _ => h
      | exact fun _ _ _ h hE => OrO.ext h hE
  · refine ⟨?_, ?_, ?_, ?_, ?_, ?_, ?_, trivial⟩
    all_goals intro a w hE hF hD K hK
    · exact gs_val rfl (yr_move rfl ((hF 7 (fr_of rfl)).trans rfl)) (hK _ _ rfl (Ext.refl _))
    · exact gs_val rfl (yr_move rfl ((hF 8 (fr_of rfl)).trans rfl)) (hK _ _ rfl (Ext.refl _))
    · have u47 : a.eval (.tmp 47) = .slice (some ⟨gP, 0, none⟩) m m := hD 0 (by kernel_rfl)
      have u48 : a.eval (.tmp 48) = .int .i64 (n : Int) := hD 1 (by kernel_rfl)
      exact gs_val rfl (yr_slf30 rfl u47 u48 (slD30 gP m n w hnm)) (hK _ _ rfl (Ext.refl _))
    · have u49 : a.eval (.tmp 49) = .slice (some ⟨gP, n, none⟩) (m - n) (m - n) := hD 2 (by kernel_rfl)
      have q0 : a.eval (.tmp 49) = .slice (some ⟨gP, n, none⟩) (m - n) (m - n) := u49
      exact gs_call rfl (yr_call rfl rfl (show (#[Operand.tmp 49] : Array Operand).map a.eval = #[.slice (some ⟨gP, n, none⟩) (m - n) (m - n)] by simp only [List.map_toArray, List.map_cons, List.map_nil, q0] <;> rfl) (by kernel_rfl)) (HCl.out w hE) hK
    · exact gs_val rfl (yr_move rfl ((hF 7 (fr_of rfl)).trans rfl)) (hK _ _ rfl (Ext.refl _))
    · exact gs_val rfl (yr_move rfl ((hF 8 (fr_of rfl)).trans rfl)) (hK _ _ rfl (Ext.refl _))
    · have u51 : a.eval (.tmp 51) = .slice (some ⟨gP, 0, none⟩) m m := hD 4 (by kernel_rfl)
      have u52 : a.eval (.tmp 52) = .int .i64 (n : Int) := hD 5 (by kernel_rfl)
      exact gs_val rfl (yr_slt30 rfl u51 u52 (slT30 gP m n w hnm)) (hK _ _ rfl (Ext.refl _))
  intro vals wz hEz hRz
  obtain ⟨-, -, -, h3, -, -, h6, -⟩ := hRz
  obtain ⟨gC, cC, e50, hCo⟩ := h3
  have e53 : vals 6 = .slice (some ⟨gP, 0, none⟩) n m := h6
  simp only [putF, Act.put, List.length_cons, List.length_nil, List.getD_cons_zero, List.getD_cons_succ, List.setIfInBounds_toArray, List.set_cons_zero, List.set_cons_succ, Nat.reduceAdd, e50, e53]
  clear e50 e53
  have hsz2 := hEz.size
  refine wpAny_op (i := 7) (by kernel_rfl) rfl (by rfl) ?_
  refine wp_append_own _ (.tmp 50) (.tmp 53) 55 rfl w5.heap.size 9 i0 (.string .empty) 1 16 Tryz.underlying55 Hi.out Hz0.out Hz1.out Hz2.out rfl (by decide) _ _ _ rfl hCo ⟨gP, 0, none⟩ n m (sv PT) rfl (by rw [sv_len, HPT.out]; omega) (HPTc.out wz hEz) (sv_one PT) (by unfold maxLen; have := HPDl.out; omega) (by have := HPDl.out; omega) (by omega) ?_
  intro v' w6 hown' hgrow6 hnil3
  have hE3 := ext_grown (v := .slice (some ⟨gC, 0, none⟩) PD.length cC) hEz hCo hgrow6
  refine wpAny_one (i := 8) (o := ⟨some 9, .assign (.tmp 54), _, _, _, _⟩) (by kernel_rfl) rfl (by rfl) (by exact yr_assign rfl rfl) ?_
  refine wpAny_done (by kernel_rfl) ?_ _
  simp only [Act.put, List.setIfInBounds_toArray, List.set_cons_zero, List.set_cons_succ]
  have hTo : w6.ownsRow w5.heap.size 9 1 v' (PD ++ PT).length (sv (PD ++ PT)) := by
    rw [List.length_append, HPT.out]
    unfold sv
    rw [List.map_append]
    exact hown'
  have hTl : (PD ++ PT).length = m := by rw [List.length_append, HPT.out, HPDl.out]; omega
  obtain ⟨gT, cT, hv', hcT, hcT2, hRT, -⟩ := RdS.of_own hTo rfl (fun e => by rw [e] at hTl; simp at hTl; omega)
  rw [hTl] at hv' hcT
  subst hv'
  have HRT := Lib.hid hRT
  have HCa : Hid (∀ W, Ext w6 W → Calls Tryz.prog 32 #[.slice (some ⟨gP, 0, none⟩) m m] W fun e w' => ∃ g cv, e = .returned (.slice (some ⟨g, 0, none⟩) m cv) ∧ w'.ownsRow W.heap.size 9 1 (.slice (some ⟨g, 0, none⟩) m cv) m (sv P) ∧ Ext W w') := fun W hW => by
    have h3 := clones_c P gP 0 m W (HPr.out.ext (hE3.trans hW)) (fun e => by have := HmP.out; rw [e] at this; simp at this; omega) (by rw [← HmP.out]; omega)
    rw [← HmP.out] at h3
    exact h3
  have HRv : Hid (∀ g cv W base, W.ownsRow base 9 1 (.slice (some ⟨g, 0, none⟩) m cv) m (sv P) → Calls Tryz.prog 33 #[.slice (some ⟨g, 0, none⟩) m cv] W fun e w' => e = .returned (.tuple #[]) ∧ RdS P.reverse g 0 w' ∧ ∀ V, V.heap.size ≤ base → Ext V W → Ext V w') := fun g cv W base h => by
    rw [HmP.out] at h ⊢
    exact revs_c P base g cv W h (by rw [← HmP.out]; omega)
  have HX6 := Lib.hid (HX5.out.trans hE3)
  have hgl6 := hE3.lt hgl
  have hBl6 := hE3.lt hBl5
  have HPr6 := Lib.hid (HPr.out.ext hE3)
  clear hown' hgrow6 hnil3 hTo hRT hE3 hsz2 hCo hEz HCl HPTc Hi Hz0 Hz1 Hz2
  go_upto_region 13 with (first
    | (go_at_call 32; (with_reducible refine (HCa.out _ (Ext.refl _)).mono ?_); rintro e w7 ⟨gB, cB, rfl, hBo, hE7⟩; have HBo := Lib.hid hBo; clear hBo)
    | (go_at_call 33; (with_reducible refine (HRv.out _ _ _ _ HBo.out).mono ?_); rintro e w8 ⟨rfl, hRB, hEx8⟩; have HRB := Lib.hid hRB; have HEx8 := Lib.hid hEx8; clear hRB hEx8))
  have hE8 : Ext w6 w8 := HEx8.out _ (Nat.le_refl _) hE7
  have HX8 := Lib.hid (HX6.out.trans hE8)
  have hcB : cB ≤ maxLen ∧ m ≤ cB := by
    rcases HBo.out.2 with ⟨h, _⟩ | ⟨g, cap, cur, h, _, _, hle, hmx, _⟩
    · cases h
    · injection h with h1 h2 h3
      rw [h3]
      exact ⟨hmx, hle⟩
  have HcB := Lib.hid hcB
  have HcT : Hid (cT ≤ maxLen ∧ m ≤ cT) := ⟨hcT2, hcT⟩
  have HRT8 := Lib.hid (HRT.out.ext hE8)
  have HPr8 := Lib.hid (HPr6.out.ext hE8)
  have hgl8 := hE8.lt hgl6
  have hBl8 := hE8.lt hBl6
  clear hE8 hE7 hcB hcT hcT2 HEx8 HRv HCa HBo
  go_wp2_with fail
  obtain ⟨W9, hW9⟩ : ∃ W9, W9 = w8.alloc (.cells #[.slice (some ⟨gT, 0, none⟩) m cT, .slice (some ⟨gB, 0, none⟩) m cB] 55) := ⟨_, rfl⟩
  have hL0 : W9.cell? ⟨w8.heap.size, 0, none⟩ = some (.slice (some ⟨gT, 0, none⟩) m cT) := by rw [hW9, World.cell?_alloc_new]; rfl
  have hL1 : W9.cell? ⟨w8.heap.size, 1, none⟩ = some (.slice (some ⟨gB, 0, none⟩) m cB) := by rw [hW9, World.cell?_alloc_new]; rfl
  have hE9 : Ext w8 W9 := by rw [hW9]; exact (Ext.refl _).alloc _
  have hgL : w8.heap.size < W9.heap.size := by rw [hW9]; simp
  rw [← hW9]
  have HX9 := Lib.hid (HX8.out.trans hE9)
  have HPr9 := Lib.hid (HPr8.out.ext hE9)
  have hgl9 := hE9.lt hgl8
  have hBl9 := hE9.lt hBl8
  have HTurn := Lib.hid (HTu.out n)
  rw [← HPD.out, ← HPT0.out] at HTurn
  have HTl := Lib.hid hTl
  have HRow : Hid (∀ j, j < 2 → ∃ (ws : List (List UInt8)) (g c : Nat), W9.cell? ⟨w8.heap.size, j, none⟩ = some (.slice (some ⟨g, 0, none⟩) m c) ∧ m ≤ c ∧ c ≤ maxLen ∧ ws.length = m ∧ RdS ws g 0 W9 ∧ (Lib.join ws [59]).length ≤ 3100 ∧ parZ untZ vldR (Lib.join ws [59]) = .ok r.D) := fun j hj => by
    rcases (show j = 0 ∨ j = 1 by omega) with rfl | rfl
    · exact ⟨_, gT, cT, hL0, HcT.out.2, HcT.out.1, HTl.out, HRT8.out.ext hE9, HTurn.out.1, HTurn.out.2⟩
    · exact ⟨P.reverse, gB, cB, hL1, HcB.out.2, HcB.out.1, by rw [List.length_reverse]; exact HmP.out.symm, HRB.out.ext hE9, HBk.out.1, HBk.out.2⟩
  clear hL0 hL1 hE9 hW9 hTl HTurn HTu HBk HRT HRT8 HRB HcT HcB HPr HPr6 HPr8 HX5 HX6 HX8 hgl hgl6 hgl8 hBl5 hBl6 hBl8 HTl
  generalize w8.heap.size = gL at *
  go_loopw [63] (fun i wr => ∃ j : Nat, j ≤ 2 ∧ i = .int .i64 (j : Int) ∧ Ext W9 wr) (fun i _ => 2 - (intOf i).toNat)
  case atStart => exact ⟨0, by omega, rfl, Ext.refl _⟩
  case round =>
    obtain ⟨j, hj, rfl, hE⟩ := hrel
    have hgLr := hE.lt hgL
    by_cases hlt : j < 2
    · obtain ⟨ws, gx, cx, hcell0, hmc, hcm, hwl, hRd0, hjl, hjp⟩ := HRow.out j hlt
      have hcell := (hE.cells gL j hgL).trans hcell0
      obtain ⟨jt, hjt⟩ : ∃ jt, jt = Lib.join ws [59] := ⟨_, rfl⟩
      have HJ : Hid (∀ W, Ext W9 W → Calls Tryz.prog 34 #[.slice (some ⟨gx, 0, none⟩) m cx, .string ⟨#[59]⟩] W fun e w' => e = .returned (.string ⟨jt.toArray⟩) ∧ Ext W w') := fun W hW => by
        have h3 := sjoin_c ws gx 0 cx [59] jt W (hRd0.ext hW) (by omega) (by omega) (by omega) hjt.symm
        rw [hwl] at h3
        exact h3
      have HPj := Lib.hid (fun W hE => HP.out jt W ⟨by rw [hjt]; exact hjl, by rw [hjt]; exact hjp⟩ hE)
      have HXr := Lib.hid (HX9.out.trans hE)
      have HEr := Lib.hid hE
      have hjtl : jt.length ≤ 3100 := by rw [hjt]; exact hjl
      clear hjt hjp hjl hRd0 hcell0 hE
      go_upto_region 17 with (first
        | (go_at_call 34; (with_reducible refine (HJ.out _ HEr.out).mono ?_); rintro e w7 ⟨rfl, hE7⟩)
        | (go_at_call 17; (with_reducible refine (HPj.out _ (HXr.out.trans hE7)).mono ?_); rintro e w1 ⟨q, hD, rfl, hV, hE1⟩; have hrs := rec_size q; have hr1 := rec_all1 q; have HD := Lib.hid hD; have HV := Lib.hid hV; clear hD hV; have hTz := thr_new w1 (#[.int .i64 0, .int .i64 0, .int .i64 0, .int .i64 0, .slice none 0 0, .slice none 0 0, .slice none 0 0, .slice none 0 0, .slice none 0 0, .slice none 0 0, .slice none 0 0, .slice none 0 0, .slice none 0 0, .int .i64 0]) 25 14 rfl; have hlz : w1.heap.size < (w1.alloc (.cells #[.int .i64 0, .int .i64 0, .int .i64 0, .int .i64 0, .slice none 0 0, .slice none 0 0, .slice none 0 0, .slice none 0 0, .slice none 0 0, .slice none 0 0, .slice none 0 0, .slice none 0 0, .slice none 0 0, .int .i64 0] 25)).heap.size := by simp)
        | (refine wpList_store_gen (op := ⟨none, .store 25 (.tmp 13) (.tmp 71), _, _, _, _⟩) rfl 25 _ _ rfl w1.heap.size q.vals rfl rfl hlz hTz hrs hr1 ?_; intro W2 hF2 hl2 hr2))
      have hE2 : Ext w1 W2 := Frm.far ((Ext.refl w1).alloc _) hF2 (fun k hk e => by omega)
      have hV2 := HV.out.ext hE2
      have hX2 := HXr.out.trans (hE7.trans (hE1.trans hE2))
      have HY2 := Lib.hid (HEr.out.trans (hE7.trans (hE1.trans hE2)))
      have HSq := Lib.hid (fun W (hE : Ext W2 W) => HS.out q W (hX2.trans hE) HD.out (hV2.ext hE))
      have hBr2 := (HB.out.ext hX2).2
      clear hF2 hTz hlz hE1 hE2 hV2 hE7
      generalize w1.heap.size = C at *
      go_wp2_with (first
        | (refine load_midg (by rfl) 25 _ rfl B 0 rfl r.vals _ hBr2 Tryz.underlying25 rfl hRs ?_)
        | (refine load_midg (by rfl) 25 _ rfl C 0 rfl q.vals _ hr2 Tryz.underlying25 rfl hrs ?_)
        | (go_at_call 19; (with_reducible refine (HSq.out _ (Ext.refl _)).mono ?_); rintro e w5 ⟨rfl, hE5⟩))
      go_roundw
      case rel => exact ⟨j + 1, by omega, by go_num, HY2.out.trans hE5⟩
      case measure => simp [intOf]; omega
    · obtain rfl : j = 2 := by omega
      have hnP : n < P.length := by rw [← HmP.out]; exact hnm
      have hp0 := (HPr9.out.ext hE).2 n hnP
      rw [Nat.zero_add] at hp0
      have hpl := HEl.out _ (List.getElem_mem hnP)
      have HTw2 := Lib.hid (HTw.out n hnP)
      obtain ⟨pn, hpn⟩ : ∃ pn, pn = P[n] := ⟨_, rfl⟩
      rw [← hpn] at hp0 hpl HTw2
      have hglr := hE.lt hgl9
      have HXr := Lib.hid (HX9.out.trans hE)
      clear hpn hE
      by_cases hbig : 3999 < tx.length + pn.length
      · have tb : decide ((3999 : Int) < (tx.length : Int) + (pn.length : Int)) = true := decide_eq_true (by omega)
        clear hbig
        go_wp2_with fail
        go_ret
        exact ⟨rfl, HE0.out.trans HXr.out⟩
      · have tb : decide ((3999 : Int) < (tx.length : Int) + (pn.length : Int)) = false := decide_eq_false (by omega)
        obtain ⟨t1, ht1⟩ : ∃ t1, t1 = tx ++ [59] := ⟨_, rfl⟩
        obtain ⟨t2, ht2⟩ : ∃ t2, t2 = tx ++ 59 :: pn := ⟨_, rfl⟩
        have hc1 : (⟨tx.toArray⟩ : ByteArray) ++ ⟨#[59]⟩ = ⟨t1.toArray⟩ := by rw [ht1]; exact catb30 tx [59]
        have hc2 : (⟨t1.toArray⟩ : ByteArray) ++ ⟨pn.toArray⟩ = ⟨t2.toArray⟩ := by rw [catb30, ht1, ht2, List.append_assoc]; rfl
        have hl1 : t1.length ≤ 4000 := by rw [ht1, List.length_append]; simp; omega
        have hl2 : t2.length ≤ 4000 := by rw [ht2, List.length_append, List.length_cons]; omega
        have H8 := Lib.hid (HP8.out t2 wr hl2 (by rw [ht2]; exact HTw2.out (by omega)) HXr.out)
        have hzs := rec_size Rec.zero
        have hz1 := rec_all1 Rec.zero
        clear hbig ht1 ht2 HTw2
        go_upto_region 23 with (first
          | (go_at_call 17; (with_reducible refine H8.out.mono ?_); rintro e w1 ⟨rfl, hE1⟩; have hTz := thr_new w1 (#[.int .i64 0, .int .i64 0, .int .i64 0, .int .i64 0, .slice none 0 0, .slice none 0 0, .slice none 0 0, .slice none 0 0, .slice none 0 0, .slice none 0 0, .slice none 0 0, .slice none 0 0, .slice none 0 0, .int .i64 0]) 25 14 rfl; have hlz : w1.heap.size < (w1.alloc (.cells #[.int .i64 0, .int .i64 0, .int .i64 0, .int .i64 0, .slice none 0 0, .slice none 0 0, .slice none 0 0, .slice none 0 0, .slice none 0 0, .slice none 0 0, .slice none 0 0, .slice none 0 0, .slice none 0 0, .int .i64 0] 25)).heap.size := by simp)
          | (refine wpList_store_gen (op := ⟨none, .store 25 (.tmp 15) (.tmp 100), _, _, _, _⟩) rfl 25 _ _ rfl w1.heap.size Rec.zero.vals rfl rfl hlz hTz hzs hz1 ?_; intro W2 hF2 hl3 hr2))
        have hE2 : Ext w1 W2 := Frm.far ((Ext.refl w1).alloc _) hF2 (fun k hk e => by omega)
        have HZr := Lib.hid (zero30_c Rec.zero true W2 ⟨IsV.nil W2, IsV.nil W2, IsV.nil W2, IsV.nil W2, OsV.nil W2, IsV.nil W2, IsV.nil W2, IsV.nil W2, IsV.nil W2⟩ rfl)
        have HX2 := Lib.hid (HXr.out.trans (hE1.trans hE2))
        clear hF2 hTz hlz hE1 hE2
        generalize w1.heap.size = C at *
        go_wp2_with (first
          | (refine load_midg (by rfl) 25 _ rfl C 0 rfl Rec.zero.vals _ hr2 Tryz.underlying25 rfl hzs ?_)
          | (go_at_call 28; (with_reducible refine HZr.out.mono ?_); rintro e w5 ⟨rfl, hE5⟩))
        go_ret
        exact ⟨rfl, HE0.out.trans (HX2.out.trans hE5)⟩
theorem order30_walk (r : Rec) (k : Int) (w : World) (hm : Lm w) (hV : RcV r w) (h0 : 0 ≤ k) (h1 : k ≤ 255) :
    Calls Tryz.prog 10 #[.agg r.vals.toArray, .int .u8 k] w fun e w' => e = .returned (.bool true) ∧ Ext w w' := by
  rcases Bool.eq_false_or_eq_true (greatR r.D) with hg | hg
  · exact order_great r k w hm hV hg
  · rcases Bool.eq_false_or_eq_true (vldR r.D) with hv | hv
    · obtain ⟨kn, rfl⟩ : ∃ kn : Nat, k = (kn : Int) := ⟨k.toNat, by omega⟩
      exact order_yes r kn w hm hV (by omega) hg hv
    · exact order_no r k w hm hV hg hv
end Go.Proofs.YtgndogpgfgliaaaGreatDoor
