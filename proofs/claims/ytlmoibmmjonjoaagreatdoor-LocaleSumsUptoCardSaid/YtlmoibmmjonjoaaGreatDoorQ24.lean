/- Locales: the walk of Duration, at a number that is not 0. -/
import Derived.Test.YtlmoibmmjonjoaaGreatDoorQ23
namespace Go.Proofs.YtlmoibmmjonjoaaGreatDoor
set_option linter.unusedVariables false
set_option linter.unusedSimpArgs false
open Go.RowKit

/-- The step of the amounts, by its parts. -/
theorem dstep_q {P : List Plu} {st : List (List UInt8) × Nat} {u : Uni} {k q p : Nat} (hk : u.s = (k : Int)) (hq : st.2 / k = q) (hp : st.2 % k = p) : (q = 0 → dstep P st u = (st.1, p)) ∧ (q ≠ 0 → dstep P st u = (st.1 ++ [amt P u.f q], p)) := by
  unfold dstep
  rw [hk]
  simp only [Int.natAbs_natCast]
  rw [hq, hp]
  exact ⟨fun h => by rw [if_pos h], fun h => by rw [if_neg h]⟩
set_option maxRecDepth 100000 in
set_option maxHeartbeats 4000000 in
theorem duration_p (L : Loc) (N : Nat) (w : World) (h : LcV L w) (hs : shL L) (hm : Lm w) (hNl : ∀ s ∈ L.N.all, s.length ≤ 2000000) (hv : validLB L = true) (hN0 : 0 < N) (hN1 : (N : Int) ≤ 4398046511104) :
    Calls Tryz.prog 18 #[.agg L.vals.toArray, .int .i64 (N : Int)] w fun e w' => e = .returned (.tuple #[.string ⟨(duV L (N : Int)).toArray⟩, .int .i64 (duE L (N : Int) : Int)]) ∧ Ext w w' := by
  obtain ⟨v1, v2⟩ := duV_n (L := L) (n := (N : Int)) hv (by unfold dnrB; simp; omega) (by omega)
  rw [if_neg (by omega), Int.natAbs_natCast] at v2
  have HAR := Lib.hid (fun (w' : World) (hE : Ext w w') (i : Nat) (hi : i < L.U.length) => amR_of (h.ext hE) hs hv i hi)
  have HUF := Lib.hid (uf_of (vu hv).1 (vu hv).2)
  obtain ⟨Y, hY⟩ : ∃ Y, Y = duV L (N : Int) := ⟨_, rfl⟩
  rw [v1, ← hY]
  rw [v2] at hY
  have HY : Hid (Y = [] ++ Lib.join (dst L.P L.U N).1 [44, 32]) := hY
  have HVl := Lib.hid hv
  clear v1 v2 hv hY
  have hIL := loc_size h.1
  have hE0 : Ext w (w.alloc (.cells L.vals.toArray 30)) := (Ext.refl w).alloc _
  have hB := LcB.new L w 30
  have hV := h.ext hE0
  obtain ⟨g0, g1, g2, g3, g4⟩ := hB.cells h.1
  have HV := Lib.hid hV
  have HBk := Lib.hid hB
  have HE0 := Lib.hid hE0
  have HNl := Lib.hid hNl
  have Hs := Lib.hid hs
  have HMl := Lib.hid hm
  have HM0 := Lib.hid (hm.ext hE0)
  have hR := hB.2
  obtain ⟨R, off, hua, hzR, hcu⟩ := hV.2.2.2.2.2.1 (by have := HUF.out.one; intro e; rw [e] at this; simp at this)
  have hul := hV.2.2.2.1
  have hul2 := hV.2.2.2.2.1
  unfold maxLen at hul2
  have HCu := Lib.hid hcu
  rw [hua] at g3
  clear hs hNl h hE0 hB hV hm g0 g1 g2 g4 hcu
  have HAm := Lib.hid (fun (w' : World) (hE : Ext w w') (j : Nat) (hj : j < L.U.length) (q : Nat) (Z : List UInt8) (hq : (q : Int) ≤ 4611686018427387904) (hZ : amt L.P (L.U[j]).f q = Z) => amount_c L L.U[j] q Z w' (HAR.out w' hE j hj) hq (HMl.out.ext hE) hZ)
  obtain ⟨i0, hi, hz0, hz1, hz2⟩ := info_parts infoS
  have Hi := Lib.hid hi
  have Hz0 := Lib.hid hz0
  have Hz1 := Lib.hid hz1
  have Hz2 := Lib.hid hz2
  clear hi hz0 hz1 hz2
  have t0 : ((N : Int) == 0) = false := by rw [beq_eq_false_iff_ne]; omega
  have t1 : decide ((N : Int) < 0) = false := by simp
  go_enter Tryz.func18, Tryz.ntmps18
  go_upto_region 1 with fail
  generalize w.alloc (.cells L.vals.toArray 30) = W0 at *
  generalize w.heap.size = B at *
  go_wp2_with (first
    | (refine load_midg (by rfl) 30 _ rfl B 0 rfl L.vals _ hR Tryz.underlying30 rfl hIL ?_)
    | (go_at_call 13; (with_reducible refine (valid_c L true _ HV.out Hs.out HM0.out HNl.out HVl.out).mono ?_); rintro e w1 ⟨rfl, hE1⟩; have g3V := (hE1.cells B 43 HBk.out.1).trans g3))
  have HRV := Lib.hid (rng_ext hR HBk.out.1 hE1)
  have hzBV := hE1.lt HBk.out.1
  have hzRV := hE1.lt hzR
  have HE01 := Lib.hid (HE0.out.trans hE1)
  have HCV : Hid (∀ i (h : i < L.U.length), w1.cell? ⟨R, off + i * 2, none⟩ = some (.int .i64 L.U[i].s) ∧ w1.cell? ⟨R, off + i * 2 + 1, none⟩ = some (.slice L.U[i].ao L.U[i].f.length L.U[i].cap)) := fun i hi => ⟨(hE1.cells R _ hzR).trans (HCu.out i hi).1, (hE1.cells R _ hzR).trans (HCu.out i hi).2⟩
  clear hE1 hR g3 g3V t0
  go_loopw [1, 7, 42] (fun n p i wr => ∃ (j r : Nat) (Ps : List (List UInt8)) (ao : Option Addr) (cv : Nat), j ≤ L.U.length ∧ n = .int .i64 (r : Int) ∧ p = .slice ao Ps.length cv ∧ i = .int .i64 (j : Int) ∧ Hid (dst L.P (L.U.take j) N = (Ps, r)) ∧ wr.ownsRow w1.heap.size 9 1 p Ps.length (sv Ps) ∧ Ext w1 wr) (fun _ _ i _ => L.U.length - (intOf i).toNat)
  case atStart => exact ⟨0, N, [], none, 0, Nat.zero_le _, rfl, rfl, rfl, rfl, World.ownsRow_nil _ _ _ _, Ext.refl _⟩
  case round =>
    obtain ⟨j, r, Ps, ao, cv, hj, rfl, rfl, rfl, HD, hown, hE⟩ := hrel
    by_cases hlt : j < L.U.length
    · have HD2 := dst_succ L.P L.U N j hlt
      rw [HD.out] at HD2
      have hle := dst_le L.P L.U N j hj
      rw [HD.out] at hle
      obtain ⟨hrN, hPj, -⟩ := hle
      simp only at hrN hPj
      have hten := HUF.out.ten
      obtain ⟨s1, s2, -, -⟩ := HUF.out.at_ j hlt
      have HAj := Lib.hid (fun (w' : World) (hE : Ext w w') => HAm.out w' hE j hlt)
      obtain ⟨c0, c1⟩ := HCV.out j hlt
      replace c0 := (hE.cells R _ hzRV).trans c0
      replace c1 := (hE.cells R _ hzRV).trans c1
      obtain ⟨u, hu⟩ : ∃ u, u = L.U[j] := ⟨_, rfl⟩
      rw [← hu] at c0 c1 HD2 s1 s2 HAj
      clear hu
      obtain ⟨us, uao, ucap, uf⟩ := u
      simp only at c0 c1 s1 s2
      obtain ⟨k, rfl⟩ := Int.eq_ofNat_of_zero_le (show 0 ≤ us by omega)
      obtain ⟨q, hq⟩ : ∃ q, r / k = q := ⟨_, rfl⟩
      obtain ⟨p, hp⟩ : ∃ p, r % k = p := ⟨_, rfl⟩
      obtain ⟨D1, D2⟩ := dstep_q (P := L.P) (st := (Ps, r)) (u := ⟨(k : Int), uao, ucap, uf⟩) rfl hq hp
      have hqi : (r : Int) / (k : Int) = (q : Int) := by rw [← hq]; rfl
      have hpi : (r : Int) % (k : Int) = (p : Int) := by rw [← hp]; rfl
      have hqr : q ≤ r := by rw [← hq]; exact Nat.div_le_self _ _
      have hRr := hE.lt hzRV
      have hBr := hE.lt hzBV
      have hk0 : (0 : Int) < (k : Int) := by omega
      have HD3 := Lib.hid HD2
      have HAm2 : Hid (∀ w' (Z : List UInt8), Ext w1 w' → amt L.P uf q = Z → Calls Tryz.prog 47 #[.agg L.vals.toArray, .int .i64 (q : Int), .agg #[.int .i64 (k : Int), .slice uao uf.length ucap]] w' fun e w'' => e = .returned (.string ⟨Z.toArray⟩) ∧ Ext w' w'') := fun w' Z hE' hZ => HAj.out w' (HE01.out.trans hE') q Z (by omega) hZ
      clear hq hp HD2 HAj s1
      go_upto_region 14 with fail
      have hEp : Ext wr (wr.alloc (.cells #[.int .i64 (k : Int), .slice uao uf.length ucap] 59)) := (Ext.refl wr).alloc _
      have y0 : (wr.alloc (.cells #[.int .i64 (k : Int), .slice uao uf.length ucap] 59)).cell? ⟨wr.heap.size, 0, none⟩ = some (.int .i64 (k : Int)) := by rw [World.cell?_alloc_new]; rfl
      have y1 : (wr.alloc (.cells #[.int .i64 (k : Int), .slice uao uf.length ucap] 59)).cell? ⟨wr.heap.size, 1, none⟩ = some (.slice uao uf.length ucap) := by rw [World.cell?_alloc_new]; rfl
      have yz : wr.heap.size < (wr.alloc (.cells #[.int .i64 (k : Int), .slice uao uf.length ucap] 59)).heap.size := by simp
      have hownV := own_ext hown hEp
      have hne : (Value.slice ao Ps.length cv).ownBlock ≠ some wr.heap.size := fun e => by have := (hown.lt _ e).2; omega
      generalize wr.alloc (.cells #[.int .i64 (k : Int), .slice uao uf.length ucap] 59) = V at hEp y0 y1 yz hownV ⊢
      generalize wr.heap.size = D at y0 y1 yz hne ⊢
      have HEV := Lib.hid (hE.trans hEp)
      have HRVV := Lib.hid (rng_ext HRV.out hzBV HEV.out)
      clear hown c0 c1 hE hEp hRr hBr
      by_cases hq0 : q = 0
      · have t5 : decide ((0 : Int) < (q : Int)) = false := by simp; omega
        have t6 : decide (0 < q) = false := by simp; omega
        have HDn : Hid (dst L.P (L.U.take (j + 1)) N = (Ps, p)) := by rw [Hid, HD3.out, D1 hq0]
        clear hq0 D1 D2
        go_wp2_with fail
        go_roundw
        case rel => exact ⟨j + 1, p, Ps, ao, cv, by omega, congrArg (Value.int .i64) hpi, rfl, by go_num, HDn, hownV, HEV.out⟩
        case measure => simp [intOf]; omega
      · have t5 : decide ((0 : Int) < (q : Int)) = true := by simp; omega
        have t6 : decide (0 < q) = true := by simp; omega
        have HDn : Hid (dst L.P (L.U.take (j + 1)) N = (Ps ++ [amt L.P uf q], p)) := by rw [Hid, HD3.out, D2 hq0]
        obtain ⟨Z, hZ⟩ : ∃ Z, amt L.P uf q = Z := ⟨_, rfl⟩
        rw [hZ] at HDn
        have HZ := Lib.hid hZ
        clear hq0 D1 D2 hZ
        have hRVV := HRVV.out
        go_upto_region 17 with (first
          | (refine load_midg (by rfl) 30 _ rfl B 0 rfl L.vals _ hRVV Tryz.underlying30 rfl hIL ?_)
          | (go_at_call 47; (with_reducible refine (HAm2.out _ Z HEV.out HZ.out).mono ?_); rintro e w2 ⟨rfl, hE2⟩; have hown2 := own_ext hownV hE2; have hsz2 := (HEV.out.trans hE2).size)
          | (at_builtin; go_loud (refine wpList_append_own _ rfl _ _ 50 rfl w1.heap.size 9 i0 (.string ByteArray.empty) 1 16 Tryz.underlying50 Hi.out Hz0.out Hz1.out Hz2.out rfl (by decide) _ _ _ rfl (hown2.alloc _) ⟨w2.heap.size, 0, none⟩ 1 1 [.string ⟨Z.toArray⟩] rfl rfl (cell_one_new _ _ _) (fun x hx => by simp at hx; subst hx; rfl) (by unfold maxLen; omega) (by omega) (by simp; omega) ?_); intro v' w3 hown' hgrow3 hnil3))
        have HExt := Lib.hid (ext_grown (v := .slice ao Ps.length cv) ((HEV.out.trans hE2).alloc _) (hown2.alloc _) hgrow3)
        have y0c := hgrow3.cell (((hE2.trans ((Ext.refl w2).alloc _)).cells D 0 yz).trans y0) (fun e => hne e.symm)
        obtain ⟨ao2, cv2, rfl⟩ := own_slice hown'
        clear y0 y1 yz hgrow3 hnil3 hE2 hown2 hownV hRVV
        go_wp2_with fail
        go_roundw
        case rel => exact ⟨j + 1, p, Ps ++ [Z], ao2, cv2, by omega, congrArg (Value.int .i64) hpi, by rw [List.length_append]; rfl, by go_num, HDn, by rw [sv_app, List.length_append]; exact hown', HExt.out⟩
        case measure => simp [intOf]; omega
    · obtain rfl : j = L.U.length := by omega
      have HDe : Hid ((dst L.P L.U N).1 = Ps) := by
        have := HD.out
        rw [List.take_of_length_le (Nat.le_refl _)] at this
        rw [Hid, this]
      have hne : Ps ≠ [] := by rw [← HDe.out]; exact (dst_end HUF.out N).2 hN0
      have hlen : Ps.length ≤ 10 := by
        have h1 := (dst_le L.P L.U N L.U.length (Nat.le_refl _)).2.1
        rw [HD.out] at h1
        have h2 := HUF.out.ten
        simp only at h1
        omega
      have hmem : ∀ a ∈ Ps, a.length ≤ 50 := by
        have h1 := dst_mem HUF.out (N := N) (j := L.U.length) (by omega) (Nat.le_refl _)
        rw [HD.out] at h1
        exact h1
      obtain ⟨R5, c5, e5, b1, b2, b3, b4⟩ := RdS.of_own hown rfl hne
      injection e5 with ea eb ec
      subst ea
      subst ec
      obtain ⟨X, hX⟩ : ∃ X, Lib.join Ps [44, 32] = X := ⟨_, rfl⟩
      have hXl : X.length ≤ 1000 := by
        rw [← hX]
        refine Nat.le_trans (join_le Ps [44, 32] 50 hmem) ?_
        simp only [List.length_cons, List.length_nil]
        omega
      have HYX : Hid (Y = [] ++ X) := by rw [Hid, HY.out, HDe.out, hX]
      have HJ : Hid (Calls Tryz.prog 26 #[.slice (some ⟨R5, 0, none⟩) Ps.length cv, .string ⟨#[44, 32]⟩] wr fun e w' => e = .returned (.string ⟨X.toArray⟩) ∧ Ext wr w') := sjoin_c Ps R5 0 cv [44, 32] X wr b3 b1 (by omega) (by rw [hX]; omega) hX
      clear hX hne hmem hown b3
      go_wp2_with (first
        | (go_at_call 26; (with_reducible refine HJ.out.mono ?_); rintro e w6 ⟨rfl, hE6⟩))
      go_ret2
      exact ⟨by rw [HYX.out, ← app2_str]; rfl, HE01.out.trans (hE.trans hE6)⟩
set_option maxRecDepth 100000 in
set_option maxHeartbeats 4000000 in
theorem duration_m (L : Loc) (N : Nat) (w : World) (h : LcV L w) (hs : shL L) (hm : Lm w) (hNl : ∀ s ∈ L.N.all, s.length ≤ 2000000) (hv : validLB L = true) (hN0 : 0 < N) (hN1 : (N : Int) ≤ 4398046511104) :
    Calls Tryz.prog 18 #[.agg L.vals.toArray, .int .i64 (-(N : Int))] w fun e w' => e = .returned (.tuple #[.string ⟨(duV L (-(N : Int))).toArray⟩, .int .i64 (duE L (-(N : Int)) : Int)]) ∧ Ext w w' := by
  obtain ⟨v1, v2⟩ := duV_n (L := L) (n := -(N : Int)) hv (by unfold dnrB; simp; omega) (by omega)
  rw [if_pos (by omega), Int.natAbs_neg, Int.natAbs_natCast] at v2
  have HAR := Lib.hid (fun (w' : World) (hE : Ext w w') (i : Nat) (hi : i < L.U.length) => amR_of (h.ext hE) hs hv i hi)
  have HUF := Lib.hid (uf_of (vu hv).1 (vu hv).2)
  obtain ⟨Y, hY⟩ : ∃ Y, Y = duV L (-(N : Int)) := ⟨_, rfl⟩
  rw [v1, ← hY]
  rw [v2] at hY
  have HY : Hid (Y = [45] ++ Lib.join (dst L.P L.U N).1 [44, 32]) := hY
  have HVl := Lib.hid hv
  clear v1 v2 hv hY
  have hIL := loc_size h.1
  have hE0 : Ext w (w.alloc (.cells L.vals.toArray 30)) := (Ext.refl w).alloc _
  have hB := LcB.new L w 30
  have hV := h.ext hE0
  obtain ⟨g0, g1, g2, g3, g4⟩ := hB.cells h.1
  have HV := Lib.hid hV
  have HBk := Lib.hid hB
  have HE0 := Lib.hid hE0
  have HNl := Lib.hid hNl
  have Hs := Lib.hid hs
  have HMl := Lib.hid hm
  have HM0 := Lib.hid (hm.ext hE0)
  have hR := hB.2
  obtain ⟨R, off, hua, hzR, hcu⟩ := hV.2.2.2.2.2.1 (by have := HUF.out.one; intro e; rw [e] at this; simp at this)
  have hul := hV.2.2.2.1
  have hul2 := hV.2.2.2.2.1
  unfold maxLen at hul2
  have HCu := Lib.hid hcu
  rw [hua] at g3
  clear hs hNl h hE0 hB hV hm g0 g1 g2 g4 hcu
  have HAm := Lib.hid (fun (w' : World) (hE : Ext w w') (j : Nat) (hj : j < L.U.length) (q : Nat) (Z : List UInt8) (hq : (q : Int) ≤ 4611686018427387904) (hZ : amt L.P (L.U[j]).f q = Z) => amount_c L L.U[j] q Z w' (HAR.out w' hE j hj) hq (HMl.out.ext hE) hZ)
  obtain ⟨i0, hi, hz0, hz1, hz2⟩ := info_parts infoS
  have Hi := Lib.hid hi
  have Hz0 := Lib.hid hz0
  have Hz1 := Lib.hid hz1
  have Hz2 := Lib.hid hz2
  clear hi hz0 hz1 hz2
  have t0 : (-(N : Int) == 0) = false := by rw [beq_eq_false_iff_ne]; omega
  have t1 : decide (-(N : Int) < 0) = true := by simp; omega
  have t2 : -(N : Int) < 0 := by omega
  have t3 : - -(N : Int) = N := by omega
  go_enter Tryz.func18, Tryz.ntmps18
  go_upto_region 1 with fail
  generalize w.alloc (.cells L.vals.toArray 30) = W0 at *
  generalize w.heap.size = B at *
  go_wp2_with (first
    | (refine load_midg (by rfl) 30 _ rfl B 0 rfl L.vals _ hR Tryz.underlying30 rfl hIL ?_)
    | (go_at_call 13; (with_reducible refine (valid_c L true _ HV.out Hs.out HM0.out HNl.out HVl.out).mono ?_); rintro e w1 ⟨rfl, hE1⟩; have g3V := (hE1.cells B 43 HBk.out.1).trans g3))
  have HRV := Lib.hid (rng_ext hR HBk.out.1 hE1)
  have hzBV := hE1.lt HBk.out.1
  have hzRV := hE1.lt hzR
  have HE01 := Lib.hid (HE0.out.trans hE1)
  have HCV : Hid (∀ i (h : i < L.U.length), w1.cell? ⟨R, off + i * 2, none⟩ = some (.int .i64 L.U[i].s) ∧ w1.cell? ⟨R, off + i * 2 + 1, none⟩ = some (.slice L.U[i].ao L.U[i].f.length L.U[i].cap)) := fun i hi => ⟨(hE1.cells R _ hzR).trans (HCu.out i hi).1, (hE1.cells R _ hzR).trans (HCu.out i hi).2⟩
  clear hE1 hR g3 g3V t0
  go_loopw [1, 7, 42] (fun n p i wr => ∃ (j r : Nat) (Ps : List (List UInt8)) (ao : Option Addr) (cv : Nat), j ≤ L.U.length ∧ n = .int .i64 (r : Int) ∧ p = .slice ao Ps.length cv ∧ i = .int .i64 (j : Int) ∧ Hid (dst L.P (L.U.take j) N = (Ps, r)) ∧ wr.ownsRow w1.heap.size 9 1 p Ps.length (sv Ps) ∧ Ext w1 wr) (fun _ _ i _ => L.U.length - (intOf i).toNat)
  case atStart => exact ⟨0, N, [], none, 0, Nat.zero_le _, rfl, rfl, rfl, rfl, World.ownsRow_nil _ _ _ _, Ext.refl _⟩
  case round =>
    obtain ⟨j, r, Ps, ao, cv, hj, rfl, rfl, rfl, HD, hown, hE⟩ := hrel
    by_cases hlt : j < L.U.length
    · have HD2 := dst_succ L.P L.U N j hlt
      rw [HD.out] at HD2
      have hle := dst_le L.P L.U N j hj
      rw [HD.out] at hle
      obtain ⟨hrN, hPj, -⟩ := hle
      simp only at hrN hPj
      have hten := HUF.out.ten
      obtain ⟨s1, s2, -, -⟩ := HUF.out.at_ j hlt
      have HAj := Lib.hid (fun (w' : World) (hE : Ext w w') => HAm.out w' hE j hlt)
      obtain ⟨c0, c1⟩ := HCV.out j hlt
      replace c0 := (hE.cells R _ hzRV).trans c0
      replace c1 := (hE.cells R _ hzRV).trans c1
      obtain ⟨u, hu⟩ : ∃ u, u = L.U[j] := ⟨_, rfl⟩
      rw [← hu] at c0 c1 HD2 s1 s2 HAj
      clear hu
      obtain ⟨us, uao, ucap, uf⟩ := u
      simp only at c0 c1 s1 s2
      obtain ⟨k, rfl⟩ := Int.eq_ofNat_of_zero_le (show 0 ≤ us by omega)
      obtain ⟨q, hq⟩ : ∃ q, r / k = q := ⟨_, rfl⟩
      obtain ⟨p, hp⟩ : ∃ p, r % k = p := ⟨_, rfl⟩
      obtain ⟨D1, D2⟩ := dstep_q (P := L.P) (st := (Ps, r)) (u := ⟨(k : Int), uao, ucap, uf⟩) rfl hq hp
      have hqi : (r : Int) / (k : Int) = (q : Int) := by rw [← hq]; rfl
      have hpi : (r : Int) % (k : Int) = (p : Int) := by rw [← hp]; rfl
      have hqr : q ≤ r := by rw [← hq]; exact Nat.div_le_self _ _
      have hRr := hE.lt hzRV
      have hBr := hE.lt hzBV
      have hk0 : (0 : Int) < (k : Int) := by omega
      have HD3 := Lib.hid HD2
      have HAm2 : Hid (∀ w' (Z : List UInt8), Ext w1 w' → amt L.P uf q = Z → Calls Tryz.prog 47 #[.agg L.vals.toArray, .int .i64 (q : Int), .agg #[.int .i64 (k : Int), .slice uao uf.length ucap]] w' fun e w'' => e = .returned (.string ⟨Z.toArray⟩) ∧ Ext w' w'') := fun w' Z hE' hZ => HAj.out w' (HE01.out.trans hE') q Z (by omega) hZ
      clear hq hp HD2 HAj s1
      go_upto_region 14 with fail
      have hEp : Ext wr (wr.alloc (.cells #[.int .i64 (k : Int), .slice uao uf.length ucap] 59)) := (Ext.refl wr).alloc _
      have y0 : (wr.alloc (.cells #[.int .i64 (k : Int), .slice uao uf.length ucap] 59)).cell? ⟨wr.heap.size, 0, none⟩ = some (.int .i64 (k : Int)) := by rw [World.cell?_alloc_new]; rfl
      have y1 : (wr.alloc (.cells #[.int .i64 (k : Int), .slice uao uf.length ucap] 59)).cell? ⟨wr.heap.size, 1, none⟩ = some (.slice uao uf.length ucap) := by rw [World.cell?_alloc_new]; rfl
      have yz : wr.heap.size < (wr.alloc (.cells #[.int .i64 (k : Int), .slice uao uf.length ucap] 59)).heap.size := by simp
      have hownV := own_ext hown hEp
      have hne : (Value.slice ao Ps.length cv).ownBlock ≠ some wr.heap.size := fun e => by have := (hown.lt _ e).2; omega
      generalize wr.alloc (.cells #[.int .i64 (k : Int), .slice uao uf.length ucap] 59) = V at hEp y0 y1 yz hownV ⊢
      generalize wr.heap.size = D at y0 y1 yz hne ⊢
      have HEV := Lib.hid (hE.trans hEp)
      have HRVV := Lib.hid (rng_ext HRV.out hzBV HEV.out)
      clear hown c0 c1 hE hEp hRr hBr
      by_cases hq0 : q = 0
      · have t5 : decide ((0 : Int) < (q : Int)) = false := by simp; omega
        have t6 : decide (0 < q) = false := by simp; omega
        have HDn : Hid (dst L.P (L.U.take (j + 1)) N = (Ps, p)) := by rw [Hid, HD3.out, D1 hq0]
        clear hq0 D1 D2
        go_wp2_with fail
        go_roundw
        case rel => exact ⟨j + 1, p, Ps, ao, cv, by omega, congrArg (Value.int .i64) hpi, rfl, by go_num, HDn, hownV, HEV.out⟩
        case measure => simp [intOf]; omega
      · have t5 : decide ((0 : Int) < (q : Int)) = true := by simp; omega
        have t6 : decide (0 < q) = true := by simp; omega
        have HDn : Hid (dst L.P (L.U.take (j + 1)) N = (Ps ++ [amt L.P uf q], p)) := by rw [Hid, HD3.out, D2 hq0]
        obtain ⟨Z, hZ⟩ : ∃ Z, amt L.P uf q = Z := ⟨_, rfl⟩
        rw [hZ] at HDn
        have HZ := Lib.hid hZ
        clear hq0 D1 D2 hZ
        have hRVV := HRVV.out
        go_upto_region 17 with (first
          | (refine load_midg (by rfl) 30 _ rfl B 0 rfl L.vals _ hRVV Tryz.underlying30 rfl hIL ?_)
          | (go_at_call 47; (with_reducible refine (HAm2.out _ Z HEV.out HZ.out).mono ?_); rintro e w2 ⟨rfl, hE2⟩; have hown2 := own_ext hownV hE2; have hsz2 := (HEV.out.trans hE2).size)
          | (at_builtin; go_loud (refine wpList_append_own _ rfl _ _ 50 rfl w1.heap.size 9 i0 (.string ByteArray.empty) 1 16 Tryz.underlying50 Hi.out Hz0.out Hz1.out Hz2.out rfl (by decide) _ _ _ rfl (hown2.alloc _) ⟨w2.heap.size, 0, none⟩ 1 1 [.string ⟨Z.toArray⟩] rfl rfl (cell_one_new _ _ _) (fun x hx => by simp at hx; subst hx; rfl) (by unfold maxLen; omega) (by omega) (by simp; omega) ?_); intro v' w3 hown' hgrow3 hnil3))
        have HExt := Lib.hid (ext_grown (v := .slice ao Ps.length cv) ((HEV.out.trans hE2).alloc _) (hown2.alloc _) hgrow3)
        have y0c := hgrow3.cell (((hE2.trans ((Ext.refl w2).alloc _)).cells D 0 yz).trans y0) (fun e => hne e.symm)
        obtain ⟨ao2, cv2, rfl⟩ := own_slice hown'
        clear y0 y1 yz hgrow3 hnil3 hE2 hown2 hownV hRVV
        go_wp2_with fail
        go_roundw
        case rel => exact ⟨j + 1, p, Ps ++ [Z], ao2, cv2, by omega, congrArg (Value.int .i64) hpi, by rw [List.length_append]; rfl, by go_num, HDn, by rw [sv_app, List.length_append]; exact hown', HExt.out⟩
        case measure => simp [intOf]; omega
    · obtain rfl : j = L.U.length := by omega
      have HDe : Hid ((dst L.P L.U N).1 = Ps) := by
        have := HD.out
        rw [List.take_of_length_le (Nat.le_refl _)] at this
        rw [Hid, this]
      have hne : Ps ≠ [] := by rw [← HDe.out]; exact (dst_end HUF.out N).2 hN0
      have hlen : Ps.length ≤ 10 := by
        have h1 := (dst_le L.P L.U N L.U.length (Nat.le_refl _)).2.1
        rw [HD.out] at h1
        have h2 := HUF.out.ten
        simp only at h1
        omega
      have hmem : ∀ a ∈ Ps, a.length ≤ 50 := by
        have h1 := dst_mem HUF.out (N := N) (j := L.U.length) (by omega) (Nat.le_refl _)
        rw [HD.out] at h1
        exact h1
      obtain ⟨R5, c5, e5, b1, b2, b3, b4⟩ := RdS.of_own hown rfl hne
      injection e5 with ea eb ec
      subst ea
      subst ec
      obtain ⟨X, hX⟩ : ∃ X, Lib.join Ps [44, 32] = X := ⟨_, rfl⟩
      have hXl : X.length ≤ 1000 := by
        rw [← hX]
        refine Nat.le_trans (join_le Ps [44, 32] 50 hmem) ?_
        simp only [List.length_cons, List.length_nil]
        omega
      have HYX : Hid (Y = [45] ++ X) := by rw [Hid, HY.out, HDe.out, hX]
      have HJ : Hid (Calls Tryz.prog 26 #[.slice (some ⟨R5, 0, none⟩) Ps.length cv, .string ⟨#[44, 32]⟩] wr fun e w' => e = .returned (.string ⟨X.toArray⟩) ∧ Ext wr w') := sjoin_c Ps R5 0 cv [44, 32] X wr b3 b1 (by omega) (by rw [hX]; omega) hX
      clear hX hne hmem hown b3
      go_wp2_with (first
        | (go_at_call 26; (with_reducible refine HJ.out.mono ?_); rintro e w6 ⟨rfl, hE6⟩))
      go_ret2
      exact ⟨by rw [HYX.out, ← app2_str]; rfl, HE01.out.trans (hE.trans hE6)⟩
end Go.Proofs.YtlmoibmmjonjoaaGreatDoor
/- Locales: the walk of the reference's Duration. -/
namespace Go.Proofs.YtlmoibmmjonjoaaGreatDoor
set_option linter.unusedVariables false
set_option linter.unusedSimpArgs false
open Go.RowKit

set_option maxRecDepth 100000 in
set_option maxHeartbeats 2000000 in
theorem rduration_0 (L : Loc) (w : World) (h : LcV L w) (hs : shL L) (hNl : ∀ s ∈ L.N.all, s.length ≤ 2000000) (hv : validLB L = true) :
    Calls Tryz.prog 19 #[.agg L.vals.toArray, .int .i64 0] w fun e w' => e = .returned (.tuple #[.string ⟨(duV L 0).toArray⟩, .int .i64 (duE L 0 : Int)]) ∧ Ext w w' := by
  obtain ⟨v1, v2⟩ := duV_0 hv
  have HAR := Lib.hid (fun (w' : World) (hE : Ext w w') (i : Nat) (hi : i < L.U.length) => amR_of (h.ext hE) hs hv i hi)
  have HUF := Lib.hid (uf_of (vu hv).1 (vu hv).2)
  have HEn := Lib.hid v1
  obtain ⟨Y, hY⟩ : ∃ Y, Y = duV L 0 := ⟨_, rfl⟩
  rw [v1, ← hY]
  rw [v2] at hY
  have HVl := Lib.hid hv
  clear v1 v2 hv
  have hIL := loc_size h.1
  have hE0 : Ext w (w.alloc (.cells L.vals.toArray 30)) := (Ext.refl w).alloc _
  have hB := LcB.new L w 30
  have hV := h.ext hE0
  obtain ⟨g0, g1, g2, g3, g4⟩ := hB.cells h.1
  have HV := Lib.hid hV
  have HBk := Lib.hid hB
  have HE0 := Lib.hid hE0
  have HNl := Lib.hid hNl
  have Hs := Lib.hid hs
  
  
  have hR := hB.2
  obtain ⟨R, off, hua, hzR, hcu⟩ := hV.2.2.2.2.2.1 (by have := HUF.out.one; intro e; rw [e] at this; simp at this)
  have hul := hV.2.2.2.1
  have hul2 := hV.2.2.2.2.1
  unfold maxLen at hul2
  have HCu := Lib.hid hcu
  rw [hua] at g3
  clear hs hNl h hE0 hB hV g0 g1 g2 g4 hcu
  obtain ⟨z, hz⟩ : ∃ z, z = L.U.length - 1 := ⟨_, rfl⟩
  have hzl : z < L.U.length := by have := HUF.out.one; omega
  have HzI : Hid (IntKind.i64.wrap ((L.U.length : Int) - 1) = (z : Int)) := by
    rw [Hid, IntWalk.i64_in _ (by have := HUF.out.ten; omega)]; omega
  obtain ⟨c0, c1⟩ := HCu.out z hzl
  have HY : Hid (amt L.P (L.U[z]).f 0 = Y) := by
    rw [Hid, hY, lastF_eq HUF.out]; subst hz; rfl
  have HAm := Lib.hid (fun (w' : World) (hE : Ext w w') => ramount_c L L.U[z] 0 Y w' (HAR.out w' hE z hzl) (by omega) HY.out)
  obtain ⟨u, hu⟩ : ∃ u, u = L.U[z] := ⟨_, rfl⟩
  rw [← hu] at c0 c1 HAm
  clear hu hY HY hz
  obtain ⟨us, uao, ucap, uf⟩ := u
  have HAm2 : Hid (∀ w', Ext w w' → Calls Tryz.prog 48 #[.agg L.vals.toArray, .agg #[.int .i64 us, .slice uao uf.length ucap], .int .i64 0] w' fun e w'' => e = .returned (.string ⟨Y.toArray⟩) ∧ Ext w' w'') := HAm.out
  have HzL := Lib.hid hzl
  clear HAm hzl
  simp only at c0 c1
  go_enter Tryz.func19, Tryz.ntmps19
  go_upto_region 1 with fail
  generalize w.alloc (.cells L.vals.toArray 30) = W0 at *
  generalize w.heap.size = B at *
  go_upto_region 6 with (first
    | (refine load_midg (by rfl) 30 _ rfl B 0 rfl L.vals _ hR Tryz.underlying30 rfl hIL ?_)
    | (go_at_call 29; (with_reducible refine (rvalid_c L true _ HV.out Hs.out HNl.out HVl.out).mono ?_); rintro e w1 ⟨rfl, hE1⟩))
  have g3V := (hE1.cells B 43 HBk.out.1).trans g3
  have hRV := rng_ext hR HBk.out.1 hE1
  have hzBV := hE1.lt HBk.out.1
  have c0V := (hE1.cells R _ hzR).trans c0
  have c1V := (hE1.cells R _ hzR).trans c1
  have hzRV := hE1.lt hzR
  have hE01 := HE0.out.trans hE1
  refine wp_region_grow [21, 22, 23, 24, 25, 26, 27, 28, 29, 30, 4, 5] [fun x _ => x = .agg L.vals.toArray, fun x _ => x = .pointer (some ⟨B, 43, none⟩), fun x _ => x = .slice (some ⟨R, off, none⟩) L.U.length L.uc, fun x _ => x = .pointer (some ⟨B, 43, none⟩), fun x _ => x = .slice (some ⟨R, off, none⟩) L.U.length L.uc, fun x _ => x = .int .i64 (L.U.length : Int), fun x _ => x = .int .i64 (z : Int), fun x _ => x = .pointer (some ⟨R, off + z * 2, none⟩), fun x _ => x = .agg #[.int .i64 us, .slice uao uf.length ucap], fun x _ => x = .string ⟨Y.toArray⟩, fun x _ => x = .string ⟨Y.toArray⟩, fun x _ => x = .int .i64 0] 0 (by kernel_rfl) (by kernel_rfl) (by kernel_rfl) (by kernel_rfl) ?_ ?_ ?_
  · intro Rl hRl
    simp only [List.mem_cons, List.not_mem_nil, or_false] at hRl
    rcases hRl with rfl | rfl | rfl | rfl | rfl | rfl | rfl | rfl | rfl | rfl | rfl | rfl
    all_goals exact fun _ _ _ h _ => h
  · refine ⟨?_, ?_, ?_, ?_, ?_, ?_, ?_, ?_, ?_, ?_, ?_, ?_, trivial⟩
    all_goals intro a w hE hF hD K hK
    · exact gs_val rfl (yr_load rfl ((hF 2 (fr_of rfl)).trans rfl) (run_loadAt_mid w B 0 _ _ _ (rng_ext hRV hzBV hE) Tryz.underlying30 rfl hIL)) (hK _ _ rfl (Ext.refl _))
    · exact gs_val rfl (yr_field rfl ((hF 2 (fr_of rfl)).trans rfl) (by go_simp)) (hK _ _ rfl (Ext.refl _))
    · have u22 : a.eval (.tmp 22) = .pointer (some ⟨B, 43, none⟩) := hD 1 (by kernel_rfl)
      exact gs_val rfl (yr_load rfl u22 (ld_uns _ _ _ ((hE.cells B 43 hzBV).trans g3V))) (hK _ _ rfl (Ext.refl _))
    · exact gs_val rfl (yr_field rfl ((hF 2 (fr_of rfl)).trans rfl) (by go_simp)) (hK _ _ rfl (Ext.refl _))
    · have u24 : a.eval (.tmp 24) = .pointer (some ⟨B, 43, none⟩) := hD 3 (by kernel_rfl)
      exact gs_val rfl (yr_load rfl u24 (ld_uns _ _ _ ((hE.cells B 43 hzBV).trans g3V))) (hK _ _ rfl (Ext.refl _))
    · have u25 : a.eval (.tmp 25) = .slice (some ⟨R, off, none⟩) L.U.length L.uc := hD 4 (by kernel_rfl)
      exact gs_val rfl (yr_lenU rfl rfl Tryz.underlying28 u25) (hK _ _ rfl (Ext.refl _))
    · have u26 : a.eval (.tmp 26) = .int .i64 (L.U.length : Int) := hD 5 (by kernel_rfl)
      exact gs_val rfl (yr_subi rfl u26 rfl HzI.out) (hK _ _ rfl (Ext.refl _))
    · have u23 : a.eval (.tmp 23) = .slice (some ⟨R, off, none⟩) L.U.length L.uc := hD 2 (by kernel_rfl)
      have u27 : a.eval (.tmp 27) = .int .i64 (z : Int) := hD 6 (by kernel_rfl)
      exact gs_val rfl (yr_idxa rfl u23 u27 (ix_un R off _ _ z w HzL.out)) (hK _ _ rfl (Ext.refl _))
    · have u28 : a.eval (.tmp 28) = .pointer (some ⟨R, off + z * 2, none⟩) := hD 7 (by kernel_rfl)
      exact gs_val rfl (yr_load rfl u28 (ld_un R (off + z * 2) _ _ w ((hE.cells R _ hzRV).trans c0V) ((hE.cells R _ hzRV).trans c1V))) (hK _ _ rfl (Ext.refl _))
    · have u21 : a.eval (.tmp 21) = .agg L.vals.toArray := hD 0 (by kernel_rfl)
      have u29 : a.eval (.tmp 29) = .agg #[.int .i64 us, .slice uao uf.length ucap] := hD 8 (by kernel_rfl)
      have q0 : a.eval (.tmp 21) = .agg L.vals.toArray := u21
      have q1 : a.eval (.tmp 29) = .agg #[.int .i64 us, .slice uao uf.length ucap] := u29
      exact gs_call rfl (yr_call rfl rfl (show (#[Operand.tmp 21, Operand.tmp 29, Operand.const (.int .i64 0)] : Array Operand).map a.eval = #[.agg L.vals.toArray, .agg #[.int .i64 us, .slice uao uf.length ucap], .int .i64 0] by simp only [List.map_toArray, List.map_cons, List.map_nil, q0, q1] <;> rfl) (by kernel_rfl)) ((HAm2.out w (hE01.trans hE)).mono fun e w' ⟨h1, h2⟩ => ⟨_, h1, rfl, h2⟩) hK
    · have u30 : a.eval (.tmp 30) = .string ⟨Y.toArray⟩ := hD 9 (by kernel_rfl)
      exact gs_val rfl (yr_assign rfl u30) (hK _ _ rfl (Ext.refl _))
    · exact gs_val rfl (yr_assign rfl rfl) (hK _ _ rfl (Ext.refl _))
  intro vals wz hEz hRz
  obtain ⟨-, -, -, -, -, -, -, -, -, -, h10, h11, -⟩ := hRz
  have e4 : vals 10 = .string ⟨Y.toArray⟩ := h10
  have e5 : vals 11 = .int .i64 0 := h11
  refine wpAny_done (by kernel_rfl) ?_ _
  simp only [putF, Act.put, List.length_cons, List.length_nil, List.getD_cons_zero, List.getD_cons_succ, List.setIfInBounds_toArray, List.set_cons_zero, List.set_cons_succ, Nat.reduceAdd, e4, e5]
  clear e4 e5
  go_wp2_with fail
  go_ret2
  exact ⟨rfl, hE01.trans hEz⟩
set_option maxRecDepth 100000 in
set_option maxHeartbeats 4000000 in
theorem rduration_p (L : Loc) (N : Nat) (w : World) (h : LcV L w) (hs : shL L) (hNl : ∀ s ∈ L.N.all, s.length ≤ 2000000) (hv : validLB L = true) (hN0 : 0 < N) (hN1 : (N : Int) ≤ 4398046511104) :
    Calls Tryz.prog 19 #[.agg L.vals.toArray, .int .i64 (N : Int)] w fun e w' => e = .returned (.tuple #[.string ⟨(duV L (N : Int)).toArray⟩, .int .i64 (duE L (N : Int) : Int)]) ∧ Ext w w' := by
  obtain ⟨v1, v2⟩ := duV_n (L := L) (n := (N : Int)) hv (by unfold dnrB; simp; omega) (by omega)
  rw [if_neg (by omega), Int.natAbs_natCast] at v2
  have HAR := Lib.hid (fun (w' : World) (hE : Ext w w') (i : Nat) (hi : i < L.U.length) => amR_of (h.ext hE) hs hv i hi)
  have HUF := Lib.hid (uf_of (vu hv).1 (vu hv).2)
  obtain ⟨Y, hY⟩ : ∃ Y, Y = duV L (N : Int) := ⟨_, rfl⟩
  rw [v1, ← hY]
  rw [v2] at hY
  have HY : Hid (Y = [] ++ Lib.join (dst L.P L.U N).1 [44, 32]) := hY
  have HVl := Lib.hid hv
  clear v1 v2 hv hY
  have hIL := loc_size h.1
  have hE0 : Ext w (w.alloc (.cells L.vals.toArray 30)) := (Ext.refl w).alloc _
  have hB := LcB.new L w 30
  have hV := h.ext hE0
  obtain ⟨g0, g1, g2, g3, g4⟩ := hB.cells h.1
  have HV := Lib.hid hV
  have HBk := Lib.hid hB
  have HE0 := Lib.hid hE0
  have HNl := Lib.hid hNl
  have Hs := Lib.hid hs
  
  
  have hR := hB.2
  obtain ⟨R, off, hua, hzR, hcu⟩ := hV.2.2.2.2.2.1 (by have := HUF.out.one; intro e; rw [e] at this; simp at this)
  have hul := hV.2.2.2.1
  have hul2 := hV.2.2.2.2.1
  unfold maxLen at hul2
  have HCu := Lib.hid hcu
  rw [hua] at g3
  clear hs hNl h hE0 hB hV g0 g1 g2 g4 hcu
  have HAm := Lib.hid (fun (w' : World) (hE : Ext w w') (j : Nat) (hj : j < L.U.length) (q : Nat) (Z : List UInt8) (hq : (q : Int) ≤ 4611686018427387904) (hZ : amt L.P (L.U[j]).f q = Z) => ramount_c L L.U[j] q Z w' (HAR.out w' hE j hj) hq hZ)
  obtain ⟨i0, hi, hz0, hz1, hz2⟩ := info_parts infoS
  have Hi := Lib.hid hi
  have Hz0 := Lib.hid hz0
  have Hz1 := Lib.hid hz1
  have Hz2 := Lib.hid hz2
  clear hi hz0 hz1 hz2
  have HAb : Hid (∀ w, Calls Tryz.prog 31 #[.int .i64 (N : Int)] w fun e w' => e = .returned (.int .i64 (N : Int)) ∧ w = w') := fun w => abs_c (N : Int) w (by omega) (by omega)
  have t0 : ((N : Int) == 0) = false := by rw [beq_eq_false_iff_ne]; omega
  have t1 : decide ((N : Int) < 0) = false := by simp
  go_enter Tryz.func19, Tryz.ntmps19
  go_upto_region 1 with fail
  generalize w.alloc (.cells L.vals.toArray 30) = W0 at *
  generalize w.heap.size = B at *
  go_wp2_with (first
    | (refine load_midg (by rfl) 30 _ rfl B 0 rfl L.vals _ hR Tryz.underlying30 rfl hIL ?_)
    | (go_at_call 29; (with_reducible refine (rvalid_c L true _ HV.out Hs.out HNl.out HVl.out).mono ?_); rintro e w1 ⟨rfl, hE1⟩)
    | (go_at_call 31; (with_reducible refine (HAb.out _).mono ?_); rintro e w2 ⟨rfl, rfl⟩))
  have g3V := (hE1.cells B 43 HBk.out.1).trans g3
  have HRV := Lib.hid (rng_ext hR HBk.out.1 hE1)
  have hzBV := hE1.lt HBk.out.1
  have hzRV := hE1.lt hzR
  have HE01 := Lib.hid (HE0.out.trans hE1)
  have HCV : Hid (∀ i (h : i < L.U.length), w1.cell? ⟨R, off + i * 2, none⟩ = some (.int .i64 L.U[i].s) ∧ w1.cell? ⟨R, off + i * 2 + 1, none⟩ = some (.slice L.U[i].ao L.U[i].f.length L.U[i].cap)) := fun i hi => ⟨(hE1.cells R _ hzR).trans (HCu.out i hi).1, (hE1.cells R _ hzR).trans (HCu.out i hi).2⟩
  clear hE1 hR g3 t0
  go_loopw [6, 7, 8] (fun p n i wr => ∃ (j r : Nat) (Ps : List (List UInt8)) (ao : Option Addr) (cv : Nat), j ≤ L.U.length ∧ n = .int .i64 (r : Int) ∧ p = .slice ao Ps.length cv ∧ i = .int .i64 (j : Int) ∧ Hid (dst L.P (L.U.take j) N = (Ps, r)) ∧ wr.ownsRow w1.heap.size 9 1 p Ps.length (sv Ps) ∧ Ext w1 wr) (fun _ _ i _ => L.U.length - (intOf i).toNat)
  case atStart => exact ⟨0, N, [], none, 0, Nat.zero_le _, rfl, rfl, rfl, rfl, World.ownsRow_nil _ _ _ _, Ext.refl _⟩
  case round =>
    obtain ⟨j, r, Ps, ao, cv, hj, rfl, rfl, rfl, HD, hown, hE⟩ := hrel
    have g3r := (hE.cells B 43 hzBV).trans g3V
    have hBr := hE.lt hzBV
    by_cases hlt : j < L.U.length
    · have HD2 := dst_succ L.P L.U N j hlt
      rw [HD.out] at HD2
      have hle := dst_le L.P L.U N j hj
      rw [HD.out] at hle
      obtain ⟨hrN, hPj, -⟩ := hle
      simp only at hrN hPj
      have hten := HUF.out.ten
      obtain ⟨s1, s2, -, -⟩ := HUF.out.at_ j hlt
      have HAj := Lib.hid (fun (w' : World) (hE : Ext w w') => HAm.out w' hE j hlt)
      obtain ⟨c0, c1⟩ := HCV.out j hlt
      replace c0 := (hE.cells R _ hzRV).trans c0
      replace c1 := (hE.cells R _ hzRV).trans c1
      obtain ⟨u, hu⟩ : ∃ u, u = L.U[j] := ⟨_, rfl⟩
      rw [← hu] at c0 c1 HD2 s1 s2 HAj
      clear hu
      obtain ⟨us, uao, ucap, uf⟩ := u
      simp only at c0 c1 s1 s2
      obtain ⟨k, rfl⟩ := Int.eq_ofNat_of_zero_le (show 0 ≤ us by omega)
      obtain ⟨q, hq⟩ : ∃ q, r / k = q := ⟨_, rfl⟩
      obtain ⟨p, hp⟩ : ∃ p, r % k = p := ⟨_, rfl⟩
      obtain ⟨D1, D2⟩ := dstep_q (P := L.P) (st := (Ps, r)) (u := ⟨(k : Int), uao, ucap, uf⟩) rfl hq hp
      have hqi : (r : Int) / (k : Int) = (q : Int) := by rw [← hq]; rfl
      have hpi : (r : Int) % (k : Int) = (p : Int) := by rw [← hp]; rfl
      have hqr : q ≤ r := by rw [← hq]; exact Nat.div_le_self _ _
      have hRr := hE.lt hzRV
      have hk0 : (0 : Int) < (k : Int) := by omega
      have HD3 := Lib.hid HD2
      have HRr := Lib.hid (rng_ext HRV.out hzBV hE)
      have HEr := Lib.hid hE
      have HAm2 : Hid (∀ w' (Z : List UInt8), Ext w1 w' → amt L.P uf q = Z → Calls Tryz.prog 48 #[.agg L.vals.toArray, .agg #[.int .i64 (k : Int), .slice uao uf.length ucap], .int .i64 (q : Int)] w' fun e w'' => e = .returned (.string ⟨Z.toArray⟩) ∧ Ext w' w'') := fun w' Z hE' hZ => HAj.out w' (HE01.out.trans hE') q Z (by omega) hZ
      clear hq hp HD2 HAj s1 hE
      by_cases hq0 : q = 0
      · have t5 : decide ((0 : Int) < (q : Int)) = false := by simp; omega
        have t6 : decide (0 < q) = false := by simp; omega
        have HDn : Hid (dst L.P (L.U.take (j + 1)) N = (Ps, p)) := by rw [Hid, HD3.out, D1 hq0]
        clear hq0 D1 D2
        go_wp2_with fail
        go_roundw
        case rel => exact ⟨j + 1, p, Ps, ao, cv, by omega, congrArg (Value.int .i64) hpi, rfl, by go_num, HDn, hown, HEr.out⟩
        case measure => simp [intOf]; omega
      · have t5 : decide ((0 : Int) < (q : Int)) = true := by simp; omega
        have t6 : decide (0 < q) = true := by simp; omega
        have HDn : Hid (dst L.P (L.U.take (j + 1)) N = (Ps ++ [amt L.P uf q], p)) := by rw [Hid, HD3.out, D2 hq0]
        obtain ⟨Z, hZ⟩ : ∃ Z, amt L.P uf q = Z := ⟨_, rfl⟩
        rw [hZ] at HDn
        have HZ := Lib.hid hZ
        clear hq0 D1 D2 hZ
        go_upto_region 14 with fail
        refine wp_region_grow [50, 51, 52, 53, 54, 55, 56, 57, 58, 59] [fun x _ => x = .slice ao Ps.length cv, fun x _ => x = .agg L.vals.toArray, fun x _ => x = .pointer (some ⟨B, 43, none⟩), fun x _ => x = .slice (some ⟨R, off, none⟩) L.U.length L.uc, fun x _ => x = .int .i64 (j : Int), fun x _ => x = .pointer (some ⟨R, off + j * 2, none⟩), fun x _ => x = .agg #[.int .i64 (k : Int), .slice uao uf.length ucap], fun x _ => x = .int .i64 (q : Int), fun x _ => x = .string ⟨Z.toArray⟩, OneS Z] 2 (by kernel_rfl) (by kernel_rfl) (by kernel_rfl) (by kernel_rfl) ?_ ?_ ?_
        · intro Rl hRl
          simp only [List.mem_cons, List.not_mem_nil, or_false] at hRl
          rcases hRl with rfl | rfl | rfl | rfl | rfl | rfl | rfl | rfl | rfl | rfl
          all_goals first
            | exact fun _ _ _ h _ => h
            | exact fun _ _ _ h hE => OneS.ext h hE
        · refine ⟨?_, ?_, ?_, ?_, ?_, ?_, ?_, ?_, ?_, ?_, trivial⟩
          all_goals intro a w hE hF hD K hK
          · exact gs_val rfl (yr_move rfl ((hF 6 (fr_of rfl)).trans rfl)) (hK _ _ rfl (Ext.refl _))
          · exact gs_val rfl (yr_load rfl ((hF 2 (fr_of rfl)).trans rfl) (run_loadAt_mid w B 0 _ _ _ (rng_ext HRr.out hBr hE) Tryz.underlying30 rfl hIL)) (hK _ _ rfl (Ext.refl _))
          · exact gs_val rfl (yr_field rfl ((hF 2 (fr_of rfl)).trans rfl) (by go_simp)) (hK _ _ rfl (Ext.refl _))
          · have u52 : a.eval (.tmp 52) = .pointer (some ⟨B, 43, none⟩) := hD 2 (by kernel_rfl)
            exact gs_val rfl (yr_load rfl u52 (ld_uns _ _ _ ((hE.cells B 43 hBr).trans g3r))) (hK _ _ rfl (Ext.refl _))
          · exact gs_val rfl (yr_move rfl ((hF 8 (fr_of rfl)).trans rfl)) (hK _ _ rfl (Ext.refl _))
          · have u53 : a.eval (.tmp 53) = .slice (some ⟨R, off, none⟩) L.U.length L.uc := hD 3 (by kernel_rfl)
            have u54 : a.eval (.tmp 54) = .int .i64 (j : Int) := hD 4 (by kernel_rfl)
            exact gs_val rfl (yr_idxa rfl u53 u54 (ix_un R off _ _ j w hlt)) (hK _ _ rfl (Ext.refl _))
          · have u55 : a.eval (.tmp 55) = .pointer (some ⟨R, off + j * 2, none⟩) := hD 5 (by kernel_rfl)
            exact gs_val rfl (yr_load rfl u55 (ld_un R (off + j * 2) _ _ w ((hE.cells R _ hRr).trans c0) ((hE.cells R _ hRr).trans c1))) (hK _ _ rfl (Ext.refl _))
          · exact gs_val rfl (yr_move rfl ((hF 9 (fr_of rfl)).trans rfl)) (hK _ _ rfl (Ext.refl _))
          · have u51 : a.eval (.tmp 51) = .agg L.vals.toArray := hD 1 (by kernel_rfl)
            have u56 : a.eval (.tmp 56) = .agg #[.int .i64 (k : Int), .slice uao uf.length ucap] := hD 6 (by kernel_rfl)
            have u57 : a.eval (.tmp 57) = .int .i64 (q : Int) := hD 7 (by kernel_rfl)
            have q0 : a.eval (.tmp 51) = .agg L.vals.toArray := u51
            have q1 : a.eval (.tmp 56) = .agg #[.int .i64 (k : Int), .slice uao uf.length ucap] := u56
            have q2 : a.eval (.tmp 57) = .int .i64 (q : Int) := u57
            exact gs_call rfl (yr_call rfl rfl (show (#[Operand.tmp 51, Operand.tmp 56, Operand.tmp 57] : Array Operand).map a.eval = #[.agg L.vals.toArray, .agg #[.int .i64 (k : Int), .slice uao uf.length ucap], .int .i64 (q : Int)] by simp only [List.map_toArray, List.map_cons, List.map_nil, q0, q1, q2] <;> rfl) (by kernel_rfl)) ((HAm2.out w Z (HEr.out.trans hE) HZ.out).mono fun e w' ⟨h1, h2⟩ => ⟨_, h1, rfl, h2⟩) hK
          · have u58 : a.eval (.tmp 58) = .string ⟨Z.toArray⟩ := hD 8 (by kernel_rfl)
            exact gs_mkE rfl (yr_bs1 rfl u58 (bs1_run _ w)) (hK _ _ (OneS.new Z w) ((Ext.refl w).alloc _))
        intro vals wz hEz hRz
        obtain ⟨h0, -, -, -, -, -, -, -, -, h9, -⟩ := hRz
        have e50 : vals 0 = .slice ao Ps.length cv := h0
        obtain ⟨g, e59, hg, hgl⟩ := h9
        simp only [putF, Act.put, List.length_cons, List.length_nil, List.getD_cons_zero, List.getD_cons_succ, List.setIfInBounds_toArray, List.set_cons_zero, List.set_cons_succ, Nat.reduceAdd, e50, e59]
        clear e50 e59
        have hown2 := own_ext hown hEz
        have hsz2 := (HEr.out.trans hEz).size
        refine wpAny_op (i := 10) (by kernel_rfl) rfl (by rfl) ?_
        refine wp_append_own _ (.tmp 50) (.tmp 59) 50 rfl w1.heap.size 9 i0 (.string ByteArray.empty) 1 16 Tryz.underlying50 Hi.out Hz0.out Hz1.out Hz2.out rfl (by decide) _ _ _ rfl hown2 ⟨g, 0, none⟩ 1 1 [.string ⟨Z.toArray⟩] rfl rfl (OneS.at_ hg) (fun x hx => by simp at hx; subst hx; rfl) (by unfold maxLen; omega) (by omega) (by omega) ?_
        intro v' w3 hown' hgrow3 hnil3
        have HExt := Lib.hid (ext_grown (v := .slice ao Ps.length cv) (HEr.out.trans hEz) hown2 hgrow3)
        obtain ⟨ao2, cv2, rfl⟩ := own_slice hown'
        refine wpAny_one (i := 11) (by kernel_rfl) rfl (by rfl) (by exact yr_assign rfl rfl) ?_
        refine wpAny_done (by kernel_rfl) ?_ _
        simp only [Act.put, List.setIfInBounds_toArray, List.set_cons_zero, List.set_cons_succ]
        obtain ⟨d0, -⟩ := HCV.out j hlt
        have hEx := HExt.out
        have g3s := (hEx.cells B 43 hzBV).trans g3V
        have hd0 : w3.cell? ⟨R, off + j * 2, none⟩ = some (.int .i64 (k : Int)) := (hEx.cells R _ hzRV).trans ((((HEr.out).cells R _ hzRV).symm).trans c0)
        have hBs := hEx.lt hzBV
        have hRs := hEx.lt hzRV
        clear c0 c1 d0 g3r hBr hRr hgrow3 hnil3 hown2 hown hEz
        go_wp2_with fail
        go_roundw
        case rel => exact ⟨j + 1, p, Ps ++ [Z], ao2, cv2, by omega, congrArg (Value.int .i64) hpi, by rw [List.length_append]; rfl, by go_num, HDn, by rw [sv_app, List.length_append]; exact hown', HExt.out⟩
        case measure => simp [intOf]; omega
    · obtain rfl : j = L.U.length := by omega
      have HDe : Hid ((dst L.P L.U N).1 = Ps) := by
        have := HD.out
        rw [List.take_of_length_le (Nat.le_refl _)] at this
        rw [Hid, this]
      have hne : Ps ≠ [] := by rw [← HDe.out]; exact (dst_end HUF.out N).2 hN0
      have hlen : Ps.length ≤ 10 := by
        have h1 := (dst_le L.P L.U N L.U.length (Nat.le_refl _)).2.1
        rw [HD.out] at h1
        have h2 := HUF.out.ten
        simp only at h1
        omega
      have hmem : ∀ a ∈ Ps, a.length ≤ 50 := by
        have h1 := dst_mem HUF.out (N := N) (j := L.U.length) (by omega) (Nat.le_refl _)
        rw [HD.out] at h1
        exact h1
      obtain ⟨R5, c5, e5, b1, b2, b3, b4⟩ := RdS.of_own hown rfl hne
      injection e5 with ea eb ec
      subst ea
      subst ec
      obtain ⟨X, hX⟩ : ∃ X, Lib.join Ps [44, 32] = X := ⟨_, rfl⟩
      have hXl : X.length ≤ 1000 := by
        rw [← hX]
        refine Nat.le_trans (join_le Ps [44, 32] 50 hmem) ?_
        simp only [List.length_cons, List.length_nil]
        omega
      have HYX : Hid (Y = [] ++ X) := by rw [Hid, HY.out, HDe.out, hX]
      have HJ : Hid (Calls Tryz.prog 49 #[.slice (some ⟨R5, 0, none⟩) Ps.length cv, .string ⟨#[44, 32]⟩] wr fun e w' => e = .returned (.string ⟨X.toArray⟩) ∧ wr = w') := rjoin_c Ps R5 0 cv [44, 32] X wr b3 b1 b2 (by decide) (fun a ha => by have := hmem a ha; omega) (by omega) hX
      clear hX hne hmem hown b3
      go_wp2_with (first
        | (go_at_call 49; (with_reducible refine HJ.out.mono ?_); rintro e w6 ⟨rfl, rfl⟩))
      go_ret2
      exact ⟨by first | (rw [HYX.out, ← app2_str]; rfl) | (rw [HYX.out]; rfl), HE01.out.trans hE⟩
set_option maxRecDepth 100000 in
set_option maxHeartbeats 4000000 in
theorem rduration_m (L : Loc) (N : Nat) (w : World) (h : LcV L w) (hs : shL L) (hNl : ∀ s ∈ L.N.all, s.length ≤ 2000000) (hv : validLB L = true) (hN0 : 0 < N) (hN1 : (N : Int) ≤ 4398046511104) :
    Calls Tryz.prog 19 #[.agg L.vals.toArray, .int .i64 (-(N : Int))] w fun e w' => e = .returned (.tuple #[.string ⟨(duV L (-(N : Int))).toArray⟩, .int .i64 (duE L (-(N : Int)) : Int)]) ∧ Ext w w' := by
  obtain ⟨v1, v2⟩ := duV_n (L := L) (n := -(N : Int)) hv (by unfold dnrB; simp; omega) (by omega)
  rw [if_pos (by omega), Int.natAbs_neg, Int.natAbs_natCast] at v2
  have HAR := Lib.hid (fun (w' : World) (hE : Ext w w') (i : Nat) (hi : i < L.U.length) => amR_of (h.ext hE) hs hv i hi)
  have HUF := Lib.hid (uf_of (vu hv).1 (vu hv).2)
  obtain ⟨Y, hY⟩ : ∃ Y, Y = duV L (-(N : Int)) := ⟨_, rfl⟩
  rw [v1, ← hY]
  rw [v2] at hY
  have HY : Hid (Y = [45] ++ Lib.join (dst L.P L.U N).1 [44, 32]) := hY
  have HVl := Lib.hid hv
  clear v1 v2 hv hY
  have hIL := loc_size h.1
  have hE0 : Ext w (w.alloc (.cells L.vals.toArray 30)) := (Ext.refl w).alloc _
  have hB := LcB.new L w 30
  have hV := h.ext hE0
  obtain ⟨g0, g1, g2, g3, g4⟩ := hB.cells h.1
  have HV := Lib.hid hV
  have HBk := Lib.hid hB
  have HE0 := Lib.hid hE0
  have HNl := Lib.hid hNl
  have Hs := Lib.hid hs
  
  
  have hR := hB.2
  obtain ⟨R, off, hua, hzR, hcu⟩ := hV.2.2.2.2.2.1 (by have := HUF.out.one; intro e; rw [e] at this; simp at this)
  have hul := hV.2.2.2.1
  have hul2 := hV.2.2.2.2.1
  unfold maxLen at hul2
  have HCu := Lib.hid hcu
  rw [hua] at g3
  clear hs hNl h hE0 hB hV g0 g1 g2 g4 hcu
  have HAm := Lib.hid (fun (w' : World) (hE : Ext w w') (j : Nat) (hj : j < L.U.length) (q : Nat) (Z : List UInt8) (hq : (q : Int) ≤ 4611686018427387904) (hZ : amt L.P (L.U[j]).f q = Z) => ramount_c L L.U[j] q Z w' (HAR.out w' hE j hj) hq hZ)
  obtain ⟨i0, hi, hz0, hz1, hz2⟩ := info_parts infoS
  have Hi := Lib.hid hi
  have Hz0 := Lib.hid hz0
  have Hz1 := Lib.hid hz1
  have Hz2 := Lib.hid hz2
  clear hi hz0 hz1 hz2
  have HAb : Hid (∀ w, Calls Tryz.prog 31 #[.int .i64 (-(N : Int))] w fun e w' => e = .returned (.int .i64 (N : Int)) ∧ w = w') := fun w => by
    have := abs_c (-(N : Int)) w (by omega) (by omega)
    rwa [Int.natAbs_neg, Int.natAbs_natCast] at this
  have t0 : (-(N : Int) == 0) = false := by rw [beq_eq_false_iff_ne]; omega
  have t1 : decide (-(N : Int) < 0) = true := by simp; omega
  have t2 : -(N : Int) < 0 := by omega
  go_enter Tryz.func19, Tryz.ntmps19
  go_upto_region 1 with fail
  generalize w.alloc (.cells L.vals.toArray 30) = W0 at *
  generalize w.heap.size = B at *
  go_wp2_with (first
    | (refine load_midg (by rfl) 30 _ rfl B 0 rfl L.vals _ hR Tryz.underlying30 rfl hIL ?_)
    | (go_at_call 29; (with_reducible refine (rvalid_c L true _ HV.out Hs.out HNl.out HVl.out).mono ?_); rintro e w1 ⟨rfl, hE1⟩)
    | (go_at_call 31; (with_reducible refine (HAb.out _).mono ?_); rintro e w2 ⟨rfl, rfl⟩))
  have g3V := (hE1.cells B 43 HBk.out.1).trans g3
  have HRV := Lib.hid (rng_ext hR HBk.out.1 hE1)
  have hzBV := hE1.lt HBk.out.1
  have hzRV := hE1.lt hzR
  have HE01 := Lib.hid (HE0.out.trans hE1)
  have HCV : Hid (∀ i (h : i < L.U.length), w1.cell? ⟨R, off + i * 2, none⟩ = some (.int .i64 L.U[i].s) ∧ w1.cell? ⟨R, off + i * 2 + 1, none⟩ = some (.slice L.U[i].ao L.U[i].f.length L.U[i].cap)) := fun i hi => ⟨(hE1.cells R _ hzR).trans (HCu.out i hi).1, (hE1.cells R _ hzR).trans (HCu.out i hi).2⟩
  clear hE1 hR g3 t0
  go_loopw [6, 7, 8] (fun p n i wr => ∃ (j r : Nat) (Ps : List (List UInt8)) (ao : Option Addr) (cv : Nat), j ≤ L.U.length ∧ n = .int .i64 (r : Int) ∧ p = .slice ao Ps.length cv ∧ i = .int .i64 (j : Int) ∧ Hid (dst L.P (L.U.take j) N = (Ps, r)) ∧ wr.ownsRow w1.heap.size 9 1 p Ps.length (sv Ps) ∧ Ext w1 wr) (fun _ _ i _ => L.U.length - (intOf i).toNat)
  case atStart => exact ⟨0, N, [], none, 0, Nat.zero_le _, rfl, rfl, rfl, rfl, World.ownsRow_nil _ _ _ _, Ext.refl _⟩
  case round =>
    obtain ⟨j, r, Ps, ao, cv, hj, rfl, rfl, rfl, HD, hown, hE⟩ := hrel
    have g3r := (hE.cells B 43 hzBV).trans g3V
    have hBr := hE.lt hzBV
    by_cases hlt : j < L.U.length
    · have HD2 := dst_succ L.P L.U N j hlt
      rw [HD.out] at HD2
      have hle := dst_le L.P L.U N j hj
      rw [HD.out] at hle
      obtain ⟨hrN, hPj, -⟩ := hle
      simp only at hrN hPj
      have hten := HUF.out.ten
      obtain ⟨s1, s2, -, -⟩ := HUF.out.at_ j hlt
      have HAj := Lib.hid (fun (w' : World) (hE : Ext w w') => HAm.out w' hE j hlt)
      obtain ⟨c0, c1⟩ := HCV.out j hlt
      replace c0 := (hE.cells R _ hzRV).trans c0
      replace c1 := (hE.cells R _ hzRV).trans c1
      obtain ⟨u, hu⟩ : ∃ u, u = L.U[j] := ⟨_, rfl⟩
      rw [← hu] at c0 c1 HD2 s1 s2 HAj
      clear hu
      obtain ⟨us, uao, ucap, uf⟩ := u
      simp only at c0 c1 s1 s2
      obtain ⟨k, rfl⟩ := Int.eq_ofNat_of_zero_le (show 0 ≤ us by omega)
      obtain ⟨q, hq⟩ : ∃ q, r / k = q := ⟨_, rfl⟩
      obtain ⟨p, hp⟩ : ∃ p, r % k = p := ⟨_, rfl⟩
      obtain ⟨D1, D2⟩ := dstep_q (P := L.P) (st := (Ps, r)) (u := ⟨(k : Int), uao, ucap, uf⟩) rfl hq hp
      have hqi : (r : Int) / (k : Int) = (q : Int) := by rw [← hq]; rfl
      have hpi : (r : Int) % (k : Int) = (p : Int) := by rw [← hp]; rfl
      have hqr : q ≤ r := by rw [← hq]; exact Nat.div_le_self _ _
      have hRr := hE.lt hzRV
      have hk0 : (0 : Int) < (k : Int) := by omega
      have HD3 := Lib.hid HD2
      have HRr := Lib.hid (rng_ext HRV.out hzBV hE)
      have HEr := Lib.hid hE
      have HAm2 : Hid (∀ w' (Z : List UInt8), Ext w1 w' → amt L.P uf q = Z → Calls Tryz.prog 48 #[.agg L.vals.toArray, .agg #[.int .i64 (k : Int), .slice uao uf.length ucap], .int .i64 (q : Int)] w' fun e w'' => e = .returned (.string ⟨Z.toArray⟩) ∧ Ext w' w'') := fun w' Z hE' hZ => HAj.out w' (HE01.out.trans hE') q Z (by omega) hZ
      clear hq hp HD2 HAj s1 hE
      by_cases hq0 : q = 0
      · have t5 : decide ((0 : Int) < (q : Int)) = false := by simp; omega
        have t6 : decide (0 < q) = false := by simp; omega
        have HDn : Hid (dst L.P (L.U.take (j + 1)) N = (Ps, p)) := by rw [Hid, HD3.out, D1 hq0]
        clear hq0 D1 D2
        go_wp2_with fail
        go_roundw
        case rel => exact ⟨j + 1, p, Ps, ao, cv, by omega, congrArg (Value.int .i64) hpi, rfl, by go_num, HDn, hown, HEr.out⟩
        case measure => simp [intOf]; omega
      · have t5 : decide ((0 : Int) < (q : Int)) = true := by simp; omega
        have t6 : decide (0 < q) = true := by simp; omega
        have HDn : Hid (dst L.P (L.U.take (j + 1)) N = (Ps ++ [amt L.P uf q], p)) := by rw [Hid, HD3.out, D2 hq0]
        obtain ⟨Z, hZ⟩ : ∃ Z, amt L.P uf q = Z := ⟨_, rfl⟩
        rw [hZ] at HDn
        have HZ := Lib.hid hZ
        clear hq0 D1 D2 hZ
        go_upto_region 14 with fail
        refine wp_region_grow [50, 51, 52, 53, 54, 55, 56, 57, 58, 59] [fun x _ => x = .slice ao Ps.length cv, fun x _ => x = .agg L.vals.toArray, fun x _ => x = .pointer (some ⟨B, 43, none⟩), fun x _ => x = .slice (some ⟨R, off, none⟩) L.U.length L.uc, fun x _ => x = .int .i64 (j : Int), fun x _ => x = .pointer (some ⟨R, off + j * 2, none⟩), fun x _ => x = .agg #[.int .i64 (k : Int), .slice uao uf.length ucap], fun x _ => x = .int .i64 (q : Int), fun x _ => x = .string ⟨Z.toArray⟩, OneS Z] 2 (by kernel_rfl) (by kernel_rfl) (by kernel_rfl) (by kernel_rfl) ?_ ?_ ?_
        · intro Rl hRl
          simp only [List.mem_cons, List.not_mem_nil, or_false] at hRl
          rcases hRl with rfl | rfl | rfl | rfl | rfl | rfl | rfl | rfl | rfl | rfl
          all_goals first
            | exact fun _ _ _ h _ => h
            | exact fun _ _ _ h hE => OneS.ext h hE
        · refine ⟨?_, ?_, ?_, ?_, ?_, ?_, ?_, ?_, ?_, ?_, trivial⟩
          all_goals intro a w hE hF hD K hK
          · exact gs_val rfl (yr_move rfl ((hF 6 (fr_of rfl)).trans rfl)) (hK _ _ rfl (Ext.refl _))
          · exact gs_val rfl (yr_load rfl ((hF 2 (fr_of rfl)).trans rfl) (run_loadAt_mid w B 0 _ _ _ (rng_ext HRr.out hBr hE) Tryz.underlying30 rfl hIL)) (hK _ _ rfl (Ext.refl _))
          · exact gs_val rfl (yr_field rfl ((hF 2 (fr_of rfl)).trans rfl) (by go_simp)) (hK _ _ rfl (Ext.refl _))
          · have u52 : a.eval (.tmp 52) = .pointer (some ⟨B, 43, none⟩) := hD 2 (by kernel_rfl)
            exact gs_val rfl (yr_load rfl u52 (ld_uns _ _ _ ((hE.cells B 43 hBr).trans g3r))) (hK _ _ rfl (Ext.refl _))
          · exact gs_val rfl (yr_move rfl ((hF 8 (fr_of rfl)).trans rfl)) (hK _ _ rfl (Ext.refl _))
          · have u53 : a.eval (.tmp 53) = .slice (some ⟨R, off, none⟩) L.U.length L.uc := hD 3 (by kernel_rfl)
            have u54 : a.eval (.tmp 54) = .int .i64 (j : Int) := hD 4 (by kernel_rfl)
            exact gs_val rfl (yr_idxa rfl u53 u54 (ix_un R off _ _ j w hlt)) (hK _ _ rfl (Ext.refl _))
          · have u55 : a.eval (.tmp 55) = .pointer (some ⟨R, off + j * 2, none⟩) := hD 5 (by kernel_rfl)
            exact gs_val rfl (yr_load rfl u55 (ld_un R (off + j * 2) _ _ w ((hE.cells R _ hRr).trans c0) ((hE.cells R _ hRr).trans c1))) (hK _ _ rfl (Ext.refl _))
          · exact gs_val rfl (yr_move rfl ((hF 9 (fr_of rfl)).trans rfl)) (hK _ _ rfl (Ext.refl _))
          · have u51 : a.eval (.tmp 51) = .agg L.vals.toArray := hD 1 (by kernel_rfl)
            have u56 : a.eval (.tmp 56) = .agg #[.int .i64 (k : Int), .slice uao uf.length ucap] := hD 6 (by kernel_rfl)
            have u57 : a.eval (.tmp 57) = .int .i64 (q : Int) := hD 7 (by kernel_rfl)
            have q0 : a.eval (.tmp 51) = .agg L.vals.toArray := u51
            have q1 : a.eval (.tmp 56) = .agg #[.int .i64 (k : Int), .slice uao uf.length ucap] := u56
            have q2 : a.eval (.tmp 57) = .int .i64 (q : Int) := u57
            exact gs_call rfl (yr_call rfl rfl (show (#[Operand.tmp 51, Operand.tmp 56, Operand.tmp 57] : Array Operand).map a.eval = #[.agg L.vals.toArray, .agg #[.int .i64 (k : Int), .slice uao uf.length ucap], .int .i64 (q : Int)] by simp only [List.map_toArray, List.map_cons, List.map_nil, q0, q1, q2] <;> rfl) (by kernel_rfl)) ((HAm2.out w Z (HEr.out.trans hE) HZ.out).mono fun e w' ⟨h1, h2⟩ => ⟨_, h1, rfl, h2⟩) hK
          · have u58 : a.eval (.tmp 58) = .string ⟨Z.toArray⟩ := hD 8 (by kernel_rfl)
            exact gs_mkE rfl (yr_bs1 rfl u58 (bs1_run _ w)) (hK _ _ (OneS.new Z w) ((Ext.refl w).alloc _))
        intro vals wz hEz hRz
        obtain ⟨h0, -, -, -, -, -, -, -, -, h9, -⟩ := hRz
        have e50 : vals 0 = .slice ao Ps.length cv := h0
        obtain ⟨g, e59, hg, hgl⟩ := h9
        simp only [putF, Act.put, List.length_cons, List.length_nil, List.getD_cons_zero, List.getD_cons_succ, List.setIfInBounds_toArray, List.set_cons_zero, List.set_cons_succ, Nat.reduceAdd, e50, e59]
        clear e50 e59
        have hown2 := own_ext hown hEz
        have hsz2 := (HEr.out.trans hEz).size
        refine wpAny_op (i := 10) (by kernel_rfl) rfl (by rfl) ?_
        refine wp_append_own _ (.tmp 50) (.tmp 59) 50 rfl w1.heap.size 9 i0 (.string ByteArray.empty) 1 16 Tryz.underlying50 Hi.out Hz0.out Hz1.out Hz2.out rfl (by decide) _ _ _ rfl hown2 ⟨g, 0, none⟩ 1 1 [.string ⟨Z.toArray⟩] rfl rfl (OneS.at_ hg) (fun x hx => by simp at hx; subst hx; rfl) (by unfold maxLen; omega) (by omega) (by omega) ?_
        intro v' w3 hown' hgrow3 hnil3
        have HExt := Lib.hid (ext_grown (v := .slice ao Ps.length cv) (HEr.out.trans hEz) hown2 hgrow3)
        obtain ⟨ao2, cv2, rfl⟩ := own_slice hown'
        refine wpAny_one (i := 11) (by kernel_rfl) rfl (by rfl) (by exact yr_assign rfl rfl) ?_
        refine wpAny_done (by kernel_rfl) ?_ _
        simp only [Act.put, List.setIfInBounds_toArray, List.set_cons_zero, List.set_cons_succ]
        obtain ⟨d0, -⟩ := HCV.out j hlt
        have hEx := HExt.out
        have g3s := (hEx.cells B 43 hzBV).trans g3V
        have hd0 : w3.cell? ⟨R, off + j * 2, none⟩ = some (.int .i64 (k : Int)) := (hEx.cells R _ hzRV).trans ((((HEr.out).cells R _ hzRV).symm).trans c0)
        have hBs := hEx.lt hzBV
        have hRs := hEx.lt hzRV
        clear c0 c1 d0 g3r hBr hRr hgrow3 hnil3 hown2 hown hEz
        go_wp2_with fail
        go_roundw
        case rel => exact ⟨j + 1, p, Ps ++ [Z], ao2, cv2, by omega, congrArg (Value.int .i64) hpi, by rw [List.length_append]; rfl, by go_num, HDn, by rw [sv_app, List.length_append]; exact hown', HExt.out⟩
        case measure => simp [intOf]; omega
    · obtain rfl : j = L.U.length := by omega
      have HDe : Hid ((dst L.P L.U N).1 = Ps) := by
        have := HD.out
        rw [List.take_of_length_le (Nat.le_refl _)] at this
        rw [Hid, this]
      have hne : Ps ≠ [] := by rw [← HDe.out]; exact (dst_end HUF.out N).2 hN0
      have hlen : Ps.length ≤ 10 := by
        have h1 := (dst_le L.P L.U N L.U.length (Nat.le_refl _)).2.1
        rw [HD.out] at h1
        have h2 := HUF.out.ten
        simp only at h1
        omega
      have hmem : ∀ a ∈ Ps, a.length ≤ 50 := by
        have h1 := dst_mem HUF.out (N := N) (j := L.U.length) (by omega) (Nat.le_refl _)
        rw [HD.out] at h1
        exact h1
      obtain ⟨R5, c5, e5, b1, b2, b3, b4⟩ := RdS.of_own hown rfl hne
      injection e5 with ea eb ec
      subst ea
      subst ec
      obtain ⟨X, hX⟩ : ∃ X, Lib.join Ps [44, 32] = X := ⟨_, rfl⟩
      have hXl : X.length ≤ 1000 := by
        rw [← hX]
        refine Nat.le_trans (join_le Ps [44, 32] 50 hmem) ?_
        simp only [List.length_cons, List.length_nil]
        omega
      have HYX : Hid (Y = [45] ++ X) := by rw [Hid, HY.out, HDe.out, hX]
      have HJ : Hid (Calls Tryz.prog 49 #[.slice (some ⟨R5, 0, none⟩) Ps.length cv, .string ⟨#[44, 32]⟩] wr fun e w' => e = .returned (.string ⟨X.toArray⟩) ∧ wr = w') := rjoin_c Ps R5 0 cv [44, 32] X wr b3 b1 b2 (by decide) (fun a ha => by have := hmem a ha; omega) (by omega) hX
      clear hX hne hmem hown b3
      go_wp2_with (first
        | (go_at_call 49; (with_reducible refine HJ.out.mono ?_); rintro e w6 ⟨rfl, rfl⟩))
      go_ret2
      exact ⟨by first | (rw [HYX.out, ← app2_str]; rfl) | (rw [HYX.out]; rfl), HE01.out.trans hE⟩
end Go.Proofs.YtlmoibmmjonjoaaGreatDoor
/- Locales: Duration, both sides, whole. -/
namespace Go.Proofs.YtlmoibmmjonjoaaGreatDoor
set_option linter.unusedVariables false
set_option linter.unusedSimpArgs false
open Go.RowKit

theorem duV_e {L : Loc} {n : Int} {e : Nat} (h : duE L n = e) (h0 : e ≠ 0) : duV L n = [] := by
  unfold duV
  rw [if_pos (by rw [h]; exact h0)]
set_option maxRecDepth 100000 in
set_option maxHeartbeats 2000000 in
theorem duration_c (L : Loc) (n : Int) (w : World) (h : LcV L w) (hs : shL L) (hm : Lm w) (hNl : ∀ s ∈ L.N.all, s.length ≤ 2000000) :
    Calls Tryz.prog 18 #[.agg L.vals.toArray, .int .i64 n] w fun e w' => e = .returned (.tuple #[.string ⟨(duV L n).toArray⟩, .int .i64 (duE L n : Int)]) ∧ Ext w w' := by
  rcases Bool.eq_false_or_eq_true (validLB L) with hv | hv
  · rcases Bool.eq_false_or_eq_true (dnrB n) with hi | hi
    · obtain ⟨n1, n2⟩ : -4398046511104 ≤ n ∧ n ≤ 4398046511104 := of_decide_eq_true hi
      rcases Int.lt_trichotomy n 0 with q | q | q
      · obtain ⟨N, hN⟩ := Int.eq_ofNat_of_zero_le (show 0 ≤ -n by omega)
        obtain rfl : n = -(N : Int) := by omega
        exact duration_m L N w h hs hm hNl hv (by omega) (by omega)
      · subst q
        exact duration_0 L w h hs hm hNl hv
      · obtain ⟨N, rfl⟩ := Int.eq_ofNat_of_zero_le (show 0 ≤ n by omega)
        exact duration_p L N w h hs hm hNl hv (by omega) n2
    · have HE : Hid (duE L n = 2) := by rw [Hid]; simp [duE, hv, hi]
      have HP := Lib.hid (duV_e HE.out (by decide))
      have h3 : ¬ (-4398046511104 ≤ n ∧ n ≤ 4398046511104) := of_decide_eq_false hi
      have HVl := Lib.hid hv
      have hIL := loc_size h.1
      have hE0 : Ext w (w.alloc (.cells L.vals.toArray 30)) := (Ext.refl w).alloc _
      have hB := LcB.new L w 30
      have HV := Lib.hid (h.ext hE0)
      have HE0 := Lib.hid hE0
      have HNl := Lib.hid hNl
      have Hs := Lib.hid hs
      have hR := hB.2
      clear hs hNl h hE0 hB
      have Hm := Lib.hid (hm.ext HE0.out)
      clear hv hi hm
      by_cases q : n < -4398046511104
      · clear h3
        go_enter Tryz.func18, Tryz.ntmps18
        go_upto_region 1 with fail
        generalize w.alloc (.cells L.vals.toArray 30) = W0 at *
        generalize w.heap.size = B at *
        go_wp2_with (first
          | (refine load_midg (by rfl) 30 _ rfl B 0 rfl L.vals _ hR Tryz.underlying30 rfl hIL ?_)
          | (go_at_call 13; (with_reducible refine (valid_c L true _ HV.out Hs.out Hm.out HNl.out HVl.out).mono ?_); rintro e w1 ⟨rfl, hE1⟩))
        go_ret2
        exact ⟨by rw [HP.out, HE.out]; rfl, HE0.out.trans hE1⟩
      · have q2 : 4398046511104 < n := by omega
        clear h3
        go_enter Tryz.func18, Tryz.ntmps18
        go_upto_region 1 with fail
        generalize w.alloc (.cells L.vals.toArray 30) = W0 at *
        generalize w.heap.size = B at *
        go_wp2_with (first
          | (refine load_midg (by rfl) 30 _ rfl B 0 rfl L.vals _ hR Tryz.underlying30 rfl hIL ?_)
          | (go_at_call 13; (with_reducible refine (valid_c L true _ HV.out Hs.out Hm.out HNl.out HVl.out).mono ?_); rintro e w1 ⟨rfl, hE1⟩))
        go_ret2
        exact ⟨by rw [HP.out, HE.out]; rfl, HE0.out.trans hE1⟩
  · have HE : Hid (duE L n = 1) := by rw [Hid]; simp [duE, hv]
    have HP := Lib.hid (duV_e HE.out (by decide))
    have HVl := Lib.hid hv
    have hIL := loc_size h.1
    have hE0 : Ext w (w.alloc (.cells L.vals.toArray 30)) := (Ext.refl w).alloc _
    have hB := LcB.new L w 30
    have HV := Lib.hid (h.ext hE0)
    have HE0 := Lib.hid hE0
    have HNl := Lib.hid hNl
    have Hs := Lib.hid hs
    have hR := hB.2
    clear hs hNl h hE0 hB
    have Hm := Lib.hid (hm.ext HE0.out)
    clear hv hm
    go_enter Tryz.func18, Tryz.ntmps18
    go_upto_region 1 with fail
    generalize w.alloc (.cells L.vals.toArray 30) = W0 at *
    generalize w.heap.size = B at *
    go_wp2_with (first
      | (refine load_midg (by rfl) 30 _ rfl B 0 rfl L.vals _ hR Tryz.underlying30 rfl hIL ?_)
      | (go_at_call 13; (with_reducible refine (valid_c L false _ HV.out Hs.out Hm.out HNl.out HVl.out).mono ?_); rintro e w1 ⟨rfl, hE1⟩))
    go_ret2
    exact ⟨by rw [HP.out, HE.out]; rfl, HE0.out.trans hE1⟩
set_option maxRecDepth 100000 in
set_option maxHeartbeats 2000000 in
theorem rduration_c (L : Loc) (n : Int) (w : World) (h : LcV L w) (hs : shL L) (hNl : ∀ s ∈ L.N.all, s.length ≤ 2000000) :
    Calls Tryz.prog 19 #[.agg L.vals.toArray, .int .i64 n] w fun e w' => e = .returned (.tuple #[.string ⟨(duV L n).toArray⟩, .int .i64 (duE L n : Int)]) ∧ Ext w w' := by
  rcases Bool.eq_false_or_eq_true (validLB L) with hv | hv
  · rcases Bool.eq_false_or_eq_true (dnrB n) with hi | hi
    · obtain ⟨n1, n2⟩ : -4398046511104 ≤ n ∧ n ≤ 4398046511104 := of_decide_eq_true hi
      rcases Int.lt_trichotomy n 0 with q | q | q
      · obtain ⟨N, hN⟩ := Int.eq_ofNat_of_zero_le (show 0 ≤ -n by omega)
        obtain rfl : n = -(N : Int) := by omega
        exact rduration_m L N w h hs hNl hv (by omega) (by omega)
      · subst q
        exact rduration_0 L w h hs hNl hv
      · obtain ⟨N, rfl⟩ := Int.eq_ofNat_of_zero_le (show 0 ≤ n by omega)
        exact rduration_p L N w h hs hNl hv (by omega) n2
    · have HE : Hid (duE L n = 2) := by rw [Hid]; simp [duE, hv, hi]
      have HP := Lib.hid (duV_e HE.out (by decide))
      have h3 : ¬ (-4398046511104 ≤ n ∧ n ≤ 4398046511104) := of_decide_eq_false hi
      have HVl := Lib.hid hv
      have hIL := loc_size h.1
      have hE0 : Ext w (w.alloc (.cells L.vals.toArray 30)) := (Ext.refl w).alloc _
      have hB := LcB.new L w 30
      have HV := Lib.hid (h.ext hE0)
      have HE0 := Lib.hid hE0
      have HNl := Lib.hid hNl
      have Hs := Lib.hid hs
      have hR := hB.2
      clear hs hNl h hE0 hB
      clear hv hi
      by_cases q : n < -4398046511104
      · clear h3
        go_enter Tryz.func19, Tryz.ntmps19
        go_upto_region 1 with fail
        generalize w.alloc (.cells L.vals.toArray 30) = W0 at *
        generalize w.heap.size = B at *
        go_wp2_with (first
          | (refine load_midg (by rfl) 30 _ rfl B 0 rfl L.vals _ hR Tryz.underlying30 rfl hIL ?_)
          | (go_at_call 29; (with_reducible refine (rvalid_c L true _ HV.out Hs.out HNl.out HVl.out).mono ?_); rintro e w1 ⟨rfl, hE1⟩))
        go_ret2
        exact ⟨by rw [HP.out, HE.out]; rfl, HE0.out.trans hE1⟩
      · have q2 : 4398046511104 < n := by omega
        clear h3
        go_enter Tryz.func19, Tryz.ntmps19
        go_upto_region 1 with fail
        generalize w.alloc (.cells L.vals.toArray 30) = W0 at *
        generalize w.heap.size = B at *
        go_wp2_with (first
          | (refine load_midg (by rfl) 30 _ rfl B 0 rfl L.vals _ hR Tryz.underlying30 rfl hIL ?_)
          | (go_at_call 29; (with_reducible refine (rvalid_c L true _ HV.out Hs.out HNl.out HVl.out).mono ?_); rintro e w1 ⟨rfl, hE1⟩))
        go_ret2
        exact ⟨by rw [HP.out, HE.out]; rfl, HE0.out.trans hE1⟩
  · have HE : Hid (duE L n = 1) := by rw [Hid]; simp [duE, hv]
    have HP := Lib.hid (duV_e HE.out (by decide))
    have HVl := Lib.hid hv
    have hIL := loc_size h.1
    have hE0 : Ext w (w.alloc (.cells L.vals.toArray 30)) := (Ext.refl w).alloc _
    have hB := LcB.new L w 30
    have HV := Lib.hid (h.ext hE0)
    have HE0 := Lib.hid hE0
    have HNl := Lib.hid hNl
    have Hs := Lib.hid hs
    have hR := hB.2
    clear hs hNl h hE0 hB
    clear hv
    go_enter Tryz.func19, Tryz.ntmps19
    go_upto_region 1 with fail
    generalize w.alloc (.cells L.vals.toArray 30) = W0 at *
    generalize w.heap.size = B at *
    go_wp2_with (first
      | (refine load_midg (by rfl) 30 _ rfl B 0 rfl L.vals _ hR Tryz.underlying30 rfl hIL ?_)
      | (go_at_call 29; (with_reducible refine (rvalid_c L false _ HV.out Hs.out HNl.out HVl.out).mono ?_); rintro e w1 ⟨rfl, hE1⟩))
    go_ret2
    exact ⟨by rw [HP.out, HE.out]; rfl, HE0.out.trans hE1⟩
end Go.Proofs.YtlmoibmmjonjoaaGreatDoor
