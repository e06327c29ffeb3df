/- Locales: decimal texts of the program; the walk of Ordinal. -/
import Derived.Test.YtlmoibmmjonjoaaGreatDoorQ22
import Derived.Test.YtlmoibmmjonjoaaGreatDoorQ19
import Derived.Test.YtlmoibmmjonjoaaGreatDoorQ20
import Derived.Test.YtlmoibmmjonjoaaGreatDoorShelf
import Derived.Lib.ItoaMem
namespace Go.Proofs.YtlmoibmmjonjoaaGreatDoor
set_option linter.unusedVariables false
set_option linter.unusedSimpArgs false
open Go.RowKit

theorem Ext.grow {a w : World} (h : Ext a w) (os : Array Obj) : Ext a (Go.Sort.grow w os) :=
  h.trans ⟨rfl, rfl, rfl, by simp [Go.Sort.grow], fun k hk => by show (w.heap ++ os)[k]? = _; rw [Array.getElem?_append_left hk]⟩
/-- The table of powers of ten is there. -/
def TabW (w : World) : Prop := Lib.TabIs Tryz.prog w "internal/strconv.uint64pow10" .u64 Lib.pow10Tab ∧ 3 < w.heap.size
theorem gPow : Tryz.prog.globalNamed "internal/strconv.uint64pow10" = some 3 := by kernel_rfl
theorem TabW.ext {w w' : World} (h : TabW w) (hE : Ext w w') : TabW w' := ⟨var?_below hE gPow h.2 h.1, hE.lt h.2⟩
theorem itoa_c (N : Nat) (X : List UInt8) (w : World) (h : (N : Int) ≤ 9223372036854775807) (hL : TabW w) (hX : itx N 1 = X) :
    Calls Tryz.prog 15 #[.int .i64 (N : Int)] w fun e w' => e = .returned (.string ⟨X.toArray⟩) ∧ Ext w w' := by
  refine (Tryz.strconv_Itoa (N : Int) (by omega) h w hL.1).mono ?_
  rintro e w' ⟨rfl, k, os, rfl⟩
  rw [Lib.itoa_nonneg, ← hX, itx_one]
  exact ⟨rfl, ((Ext.refl w).drewN k).grow os⟩
set_option maxRecDepth 100000 in
set_option maxHeartbeats 2000000 in
theorem ordinal_c (L : Loc) (n : Int) (w : World) (h : LcV L w) (hs : shL L) (hm : Lm w) (ht : TabW w) (hNl : ∀ s ∈ L.N.all, s.length ≤ 2000000) :
    Calls Tryz.prog 11 #[.agg L.vals.toArray, .int .i64 n] w fun e w' => e = .returned (.tuple #[.string ⟨(orV L n).toArray⟩, .int .i64 (orE L n : Int)]) ∧ Ext w w' := by
  have hIL := loc_size h.1
  have hE0 : Ext w (w.alloc (.cells L.vals.toArray 30)) := (Ext.refl w).alloc _
  have hB := LcB.new L w 30
  have hV := h.ext hE0
  obtain ⟨g0, g1, g2, g3, g4⟩ := hB.cells h.1
  have HV := Lib.hid hV
  have HBk := Lib.hid hB
  have HVp := Lib.hid hV.2.2.1
  have HE0 := Lib.hid hE0
  have HNl := Lib.hid hNl
  have Hs := Lib.hid hs
  have Hs1 := Lib.hid hs.2.1
  have Hm := Lib.hid (hm.ext hE0)
  have HT := Lib.hid (ht.ext hE0)
  have hR := hB.2
  clear hs hNl h hE0 hB hV hm ht g0 g1 g3 g4
  rcases Bool.eq_false_or_eq_true (validLB L) with hv | hv
  · have HVl := Lib.hid hv
    obtain ⟨-, hr⟩ := valid_P hv
    obtain ⟨k1, k2⟩ := ruled_ok hr
    have HK := Lib.hid k2
    rcases Bool.eq_false_or_eq_true (onrB n) with hi | hi
    · have hq0 : orE L n = 0 := by simp [orE, hv, hi]
      have HE : Hid (orE L n = 0) := hq0
      obtain ⟨m, hm⟩ : ∃ m, fstI n.natAbs L.O = m := ⟨_, rfl⟩
      have hml : m < L.O.length := by rw [← hm]; exact fstI_lt k1
      obtain ⟨X, hX0⟩ : ∃ X, itx n.natAbs 1 = X := ⟨_, rfl⟩
      have HP : Hid (orV L n = X ++ (L.O[m]).c) := by
        rw [Hid]; unfold orV; rw [if_pos hq0, hm, List.getElem?_eq_getElem hml, hX0]; rfl
      have HM := Lib.hid hm
      have HX := Lib.hid hX0
      have hpl := (Hs1.out L.O[m] (List.getElem_mem _)).1
      obtain ⟨n1, n2⟩ : 0 ≤ n ∧ n ≤ 4611686018427387904 := of_decide_eq_true hi
      obtain ⟨N, rfl⟩ := Int.eq_ofNat_of_zero_le n1
      have hXl := (nDig20 N n2).1
      rw [show itx N 1 = X from HX.out] at hXl
      have HIT : Hid (∀ w, TabW w → Calls Tryz.prog 15 #[.int .i64 (N : Int)] w fun e w' => e = .returned (.string ⟨X.toArray⟩) ∧ Ext w w') := fun w q => itoa_c N X w (by omega) q HX.out
      have n3 : -4611686018427387904 ≤ (N : Int) := by omega
      have HM2 : Hid (fstI (N : Int).natAbs L.O = m) := HM.out
      obtain ⟨hp1, hp2, hp3⟩ := HVp.out
      unfold maxLen at hp2
      obtain ⟨R, off, hpa, hR0, hc⟩ := hp3 (by rintro e; rw [e] at hml; simp at hml)
      obtain ⟨c0, -⟩ := hc m hml
      have HPA := Lib.hid hpa
      rw [hpa] at g2
      rw [hpa] at HVp
      clear hpa hc hp3 k2 hv hi hq0 hm hr HX hX0 HM
      have hm0 : (0 : Int) ≤ (m : Int) := by omega
      have hm1 : (m : Int) < (L.O.length : Int) := by omega
      obtain ⟨pc, hpc⟩ : ∃ c, c = (L.O[m]).c := ⟨_, rfl⟩
      rw [← hpc] at c0 HP hpl
      clear hpc
      go_enter Tryz.func11, Tryz.ntmps11
      go_upto_region 1 with fail
      generalize w.alloc (.cells L.vals.toArray 30) = W0 at *
      generalize w.heap.size = B at *
      go_upto_region 5 with (first
        | (refine load_midg (by rfl) 30 _ rfl B 0 rfl L.vals _ hR Tryz.underlying30 rfl hIL ?_)
        | (go_at_call 13; (with_reducible refine (valid_c L true _ HV.out Hs.out Hm.out HNl.out HVl.out).mono ?_); rintro e w1 ⟨rfl, hE1⟩; have f1 := (hE1.cells B 42 HBk.out.1).trans g2; have d0 := (hE1.cells R _ hR0).trans c0; have hX := hE1; have hRr := hE1.lt hR0; have hBr := hE1.lt HBk.out.1; clear hE1))
      go_region_with (first
        | (go_at_call 15; (with_reducible refine (HIT.out _ (HT.out.ext (by (repeat (with_reducible (first | assumption | exact Ext.refl _ | refine Ext.alloc ?_ _ | refine Ext.drewN ?_ _ | refine Ext.drew ?_)))))).mono ?_); rintro e w2 ⟨rfl, hE2⟩; have hZ := Ext.trans (show Ext W0 _ from (by (repeat (with_reducible (first | assumption | exact Ext.refl _ | refine Ext.alloc ?_ _ | refine Ext.drewN ?_ _ | refine Ext.drew ?_))))) hE2; have d2 := (hZ.cells R _ hR0).trans c0; have f2 := (hZ.cells B 42 HBk.out.1).trans g2; have hBz := hZ.lt HBk.out.1; have hRz := hZ.lt hR0; clear hE2)
        | (go_at_call 28; (with_reducible refine (which_c L.O _ L.oc m _ _ (HVp.out.ext (by (repeat (with_reducible (first | assumption | exact Ext.refl _ | refine Ext.alloc ?_ _ | refine Ext.drewN ?_ _ | refine Ext.drew ?_))))) Hs1.out k1 HK.out n3 n2 (Hm.out.ext (by (repeat (with_reducible (first | assumption | exact Ext.refl _ | refine Ext.alloc ?_ _ | refine Ext.drewN ?_ _ | refine Ext.drew ?_))))) HM2.out).mono ?_); rintro e w3 ⟨rfl, hE3⟩; have hY := Ext.trans (show Ext W0 _ from (by (repeat (with_reducible (first | assumption | exact Ext.refl _ | refine Ext.alloc ?_ _ | refine Ext.drewN ?_ _ | refine Ext.drew ?_))))) hE3; have d1 := (hY.cells R _ hR0).trans c0; have f3 := (hY.cells B 42 HBk.out.1).trans g2; have hBy := hY.lt HBk.out.1; have hRy := hY.lt hR0; clear hE3))
      all_goals
        go_wp2_with fail
        go_ret2
        exact ⟨by rw [HP.out, HE.out, ← app2_str]; rfl, HE0.out.trans (by (repeat (with_reducible (first | assumption | exact Ext.refl _ | refine Ext.alloc ?_ _ | refine Ext.drewN ?_ _ | refine Ext.drew ?_))))⟩
    · have hq0 : orE L n = 2 := by simp [orE, hv, hi]
      have HE : Hid (orE L n = 2) := hq0
      have HP : Hid (orV L n = []) := by rw [Hid]; unfold orV; rw [hq0]; rfl
      have h3 : ¬ (0 ≤ n ∧ n ≤ 4611686018427387904) := of_decide_eq_false hi
      clear hv hi hq0
      by_cases q : n < 0
      · clear h3
        go_enter Tryz.func11, Tryz.ntmps11
        go_upto_region 1 with fail
        generalize w.alloc (.cells L.vals.toArray 30) = W0 at *
        generalize w.heap.size = B at *
        go_wp2_with (first
          | (refine load_midg (by rfl) 30 _ rfl B 0 rfl L.vals _ hR Tryz.underlying30 rfl hIL ?_)
          | (go_at_call 13; (with_reducible refine (valid_c L true _ HV.out Hs.out Hm.out HNl.out HVl.out).mono ?_); rintro e w1 ⟨rfl, hE1⟩))
        go_ret2
        exact ⟨by rw [HP.out, HE.out]; rfl, HE0.out.trans hE1⟩
      · have q2 : 4611686018427387904 < n := by omega
        clear h3
        go_enter Tryz.func11, Tryz.ntmps11
        go_upto_region 1 with fail
        generalize w.alloc (.cells L.vals.toArray 30) = W0 at *
        generalize w.heap.size = B at *
        go_wp2_with (first
          | (refine load_midg (by rfl) 30 _ rfl B 0 rfl L.vals _ hR Tryz.underlying30 rfl hIL ?_)
          | (go_at_call 13; (with_reducible refine (valid_c L true _ HV.out Hs.out Hm.out HNl.out HVl.out).mono ?_); rintro e w1 ⟨rfl, hE1⟩))
        go_ret2
        exact ⟨by rw [HP.out, HE.out]; rfl, HE0.out.trans hE1⟩
  · have hq0 : orE L n = 1 := by simp [orE, hv]
    have HE : Hid (orE L n = 1) := hq0
    have HP : Hid (orV L n = []) := by rw [Hid]; unfold orV; rw [hq0]; rfl
    have HVl := Lib.hid hv
    clear hv hq0
    go_enter Tryz.func11, Tryz.ntmps11
    go_upto_region 1 with fail
    generalize w.alloc (.cells L.vals.toArray 30) = W0 at *
    generalize w.heap.size = B at *
    go_wp2_with (first
      | (refine load_midg (by rfl) 30 _ rfl B 0 rfl L.vals _ hR Tryz.underlying30 rfl hIL ?_)
      | (go_at_call 13; (with_reducible refine (valid_c L false _ HV.out Hs.out Hm.out HNl.out HVl.out).mono ?_); rintro e w1 ⟨rfl, hE1⟩))
    go_ret2
    exact ⟨by rw [HP.out, HE.out]; rfl, HE0.out.trans hE1⟩
end Go.Proofs.YtlmoibmmjonjoaaGreatDoor
/- Locales: the walks of amount, both sides. -/
namespace Go.Proofs.YtlmoibmmjonjoaaGreatDoor
set_option linter.unusedVariables false
set_option linter.unusedSimpArgs false
open Go.RowKit

theorem text1_c (N : Nat) (X : List UInt8) (w : World) (h : (N : Int) ≤ 4611686018427387904) (hX : itx N 1 = X) :
    Calls Tryz.prog 89 #[.int .i64 (N : Int), .int .i64 1] w fun e w' => e = .returned (.string ⟨X.toArray⟩) ∧ Ext w w' := by
  rw [← hX]; exact text_nn N 1 w (by omega) (by decide)
theorem amt_str {P f : List Plu} {N m : Nat} {X : List UInt8} (hX : itx N 1 = X) (hm : fstI N P = m) (hl : m < f.length) : amt P f N = X ++ ([32] ++ (f[m]).r) := by
  unfold amt
  rw [hX, hm, List.getElem?_eq_getElem hl]; rfl
/-- What the walks of amounts ask. -/
structure AmR (L : Loc) (U : Uni) (w : World) : Prop where
  lc : LcV L w
  un : PlV U.ao U.cap U.f w
  sh : shP L.P
  p1 : 1 ≤ L.P.length
  ok : ∀ i (hi : i < L.P.length), i + 1 < L.P.length → okR (L.P[i]).r = true
  ln : U.f.length = L.P.length
  fm : ∀ k (hk : k < U.f.length), formB (U.f[k]).r = true
theorem AmR.ext {L : Loc} {U : Uni} {w w' : World} (h : AmR L U w) (hE : Ext w w') : AmR L U w' := ⟨h.lc.ext hE, h.un.ext hE, h.sh, h.p1, h.ok, h.ln, h.fm⟩
set_option maxRecDepth 100000 in
set_option maxHeartbeats 1000000 in
theorem amount_c (L : Loc) (U : Uni) (N : Nat) (Y : List UInt8) (w : World) (h : AmR L U w) (hN : (N : Int) ≤ 4611686018427387904) (hm : Lm w) (hY : amt L.P U.f N = Y) :
    Calls Tryz.prog 47 #[.agg L.vals.toArray, .int .i64 (N : Int), .agg #[.int .i64 U.s, .slice U.ao U.f.length U.cap]] w fun e w' => e = .returned (.string ⟨Y.toArray⟩) ∧ Ext w w' := by
  have HMl := Lib.hid hm
  clear hm
  have hIL := loc_size h.lc.1
  obtain ⟨W0, hW0⟩ : ∃ W0, W0 = (w.alloc (.cells L.vals.toArray 30)).alloc (.cells #[.int .i64 U.s, .slice U.ao U.f.length U.cap] 59) := ⟨_, rfl⟩
  have hEa : Ext w (w.alloc (.cells L.vals.toArray 30)) := (Ext.refl w).alloc _
  have hEb : Ext (w.alloc (.cells L.vals.toArray 30)) W0 := by rw [hW0]; exact (Ext.refl _).alloc _
  have hE0 : Ext w W0 := hEa.trans hEb
  have hBn : LcB L w.heap.size W0 := (LcB.new L w 30).ext hEb
  obtain ⟨-, g1, -, -, -⟩ := hBn.cells h.lc.1
  have u1 : W0.cell? ⟨w.heap.size + 1, 1, none⟩ = some (.slice U.ao U.f.length U.cap) := by
    rw [hW0]
    have e : (w.alloc (.cells L.vals.toArray 30)).heap.size = w.heap.size + 1 := by simp
    rw [← e, World.cell?_alloc_new]; rfl
  have hzB : w.heap.size < W0.heap.size := by rw [hW0]; simp; omega
  have hzD : w.heap.size + 1 < W0.heap.size := by rw [hW0]; simp
  obtain ⟨m, hmm⟩ : ∃ m, fstI N L.P = m := ⟨_, rfl⟩
  have hml : m < U.f.length := by rw [h.ln, ← hmm]; exact fstI_lt h.p1
  obtain ⟨X, hX0⟩ : ∃ X, itx N 1 = X := ⟨_, rfl⟩
  have hXl := (nDig20 N hN).1
  rw [hX0] at hXl
  have hrl : ((U.f[m]).r).length ≤ 30 := form_len (h.fm m hml)
  have HYs : Hid (Y = X ++ ([32] ++ (U.f[m]).r)) := by rw [Hid, ← hY]; exact amt_str hX0 hmm hml
  obtain ⟨q1, q2, q3⟩ := h.un.ext hE0
  unfold maxLen at q2
  obtain ⟨R, off, hua, hR0, hc⟩ := q3 (by rintro e; rw [e] at hml; simp at hml)
  obtain ⟨-, c0⟩ := hc m hml
  have HX := Lib.hid hX0
  have HMm := Lib.hid hmm
  have HVp := Lib.hid (h.lc.2.1.ext hE0)
  have Hh := Lib.hid h
  have HE0 := Lib.hid hE0
  have hm0 : (0 : Int) ≤ (m : Int) := by omega
  have hm1 : (m : Int) < (U.f.length : Int) := by omega
  obtain ⟨us, uao, ucap, uf⟩ := U
  simp only at *
  subst hua
  obtain ⟨pr, hpr⟩ : ∃ c, c = (uf[m]).r := ⟨_, rfl⟩
  rw [← hpr] at c0 HYs hrl
  have HW0 := Lib.hid hW0
  clear hW0 hpr hX0 hmm h hE0 hEa hEb hBn hc q3 hY
  have HM0 := Lib.hid (HMl.out.ext HE0.out)
  have hsl := hN
  have HSz : Hid (∀ w, Calls Tryz.prog 46 #[.int .i64 (N : Int)] w fun e w' => e = .returned (.int .i64 (N : Int)) ∧ Ext w w') := fun w => (size_c (N : Int) w (by omega) hN).mono fun _ _ ⟨h1, h2⟩ => ⟨h1, h2 ▸ Ext.refl w⟩
  have HTx : Hid (∀ w, Calls Tryz.prog 89 #[.int .i64 (N : Int), .int .i64 1] w fun e w' => e = .returned (.string ⟨X.toArray⟩) ∧ Ext w w') := fun w => text1_c N X w hN HX.out
  have HWh : Hid (∀ w, Ext W0 w → Calls Tryz.prog 28 #[.slice L.pa L.P.length L.pc, .int .i64 (N : Int)] w fun e w' => e = .returned (.int .i64 (m : Int)) ∧ Ext w w') := fun w hE => which_c L.P L.pa L.pc m (N : Int) w (HVp.out.ext hE) Hh.out.sh Hh.out.p1 Hh.out.ok (by omega) hN (HM0.out.ext hE) HMm.out
  go_enter Tryz.func47, Tryz.ntmps47
  go_upto_region 1 with fail
  rw [← HW0.out]
  clear HW0
  generalize w.heap.size + 1 = D at *
  generalize w.heap.size = B at *
  refine wp_region_grow [7, 8, 9, 10, 11, 12, 13, 14, 15, 16, 17, 18, 19, 20, 6] [fun x _ => x = .int .i64 (N : Int), fun x _ => x = .int .i64 (N : Int), fun x _ => x = .string ⟨X.toArray⟩, fun x _ => x = .string ⟨(X ++ [32]).toArray⟩, fun x _ => x = .pointer (some ⟨D, 1, none⟩), fun x _ => x = .slice (some ⟨R, off, none⟩) uf.length ucap, fun x _ => x = .pointer (some ⟨B, 41, none⟩), fun x _ => x = .slice L.pa L.P.length L.pc, fun x _ => x = .int .i64 (N : Int), fun x _ => x = .int .i64 (m : Int), fun x _ => x = .pointer (some ⟨R, off + m * 2, none⟩), fun x _ => x = .pointer (some ⟨R, off + m * 2 + 1, none⟩), fun x _ => x = .string ⟨pr.toArray⟩, fun x _ => x = .string ⟨((X ++ [32]) ++ pr).toArray⟩, fun x _ => x = .string ⟨((X ++ [32]) ++ pr).toArray⟩] 0 (by kernel_rfl) (by kernel_rfl) (by kernel_rfl) (by kernel_rfl) ?_ ?_ ?_
  · intro Rl hRl
    simp only [List.mem_cons, List.not_mem_nil, or_false] at hRl
    rcases hRl with rfl | rfl | rfl | rfl | rfl | rfl | rfl | rfl | rfl | rfl | rfl | rfl | rfl | rfl | rfl
    all_goals exact fun _ _ _ h _ => h
  · refine ⟨?_, ?_, ?_, ?_, ?_, ?_, ?_, ?_, ?_, ?_, ?_, ?_, ?_, ?_, ?_, trivial⟩
    all_goals intro a w hE hF hD K hK
    · exact gs_val rfl (yr_move rfl ((hF 1 (fr_of rfl)).trans rfl)) (hK _ _ rfl (Ext.refl _))
    · have u7 : a.eval (.tmp 7) = .int .i64 (N : Int) := hD 0 (by kernel_rfl)
      have q0 : a.eval (.tmp 7) = .int .i64 (N : Int) := u7
      exact gs_call rfl (yr_call rfl rfl (show (#[Operand.tmp 7] : Array Operand).map a.eval = #[.int .i64 (N : Int)] by simp only [List.map_toArray, List.map_cons, List.map_nil, q0] <;> rfl) (by kernel_rfl)) ((HSz.out w).mono fun e w' ⟨h1, h2⟩ => ⟨_, h1, rfl, h2⟩) hK
    · have u8 : a.eval (.tmp 8) = .int .i64 (N : Int) := hD 1 (by kernel_rfl)
      have q0 : a.eval (.tmp 8) = .int .i64 (N : Int) := u8
      exact gs_call rfl (yr_call rfl rfl (show (#[Operand.tmp 8, Operand.const (.int .i64 1)] : Array Operand).map a.eval = #[.int .i64 (N : Int), .int .i64 1] by simp only [List.map_toArray, List.map_cons, List.map_nil, q0] <;> rfl) (by kernel_rfl)) ((HTx.out w).mono fun e w' ⟨h1, h2⟩ => ⟨_, h1, rfl, h2⟩) hK
    · have u9 : a.eval (.tmp 9) = .string ⟨X.toArray⟩ := hD 2 (by kernel_rfl)
      exact gs_val rfl (yr_addl rfl u9 rfl (by simp; omega)) (hK _ _ rfl (Ext.refl _))
    · exact gs_val rfl (yr_field rfl ((hF 5 (fr_of rfl)).trans rfl) (by go_simp)) (hK _ _ rfl (Ext.refl _))
    · have u11 : a.eval (.tmp 11) = .pointer (some ⟨D, 1, none⟩) := hD 4 (by kernel_rfl)
      exact gs_val rfl (yr_load rfl u11 (ld_plu _ _ _ ((hE.cells D 1 hzD).trans u1))) (hK _ _ rfl (Ext.refl _))
    · exact gs_val rfl (yr_field rfl ((hF 3 (fr_of rfl)).trans rfl) (by go_simp)) (hK _ _ rfl (Ext.refl _))
    · have u13 : a.eval (.tmp 13) = .pointer (some ⟨B, 41, none⟩) := hD 6 (by kernel_rfl)
      exact gs_val rfl (yr_load rfl u13 (ld_plu _ _ _ ((hE.cells B 41 hzB).trans g1))) (hK _ _ rfl (Ext.refl _))
    · exact gs_val rfl (yr_move rfl ((hF 1 (fr_of rfl)).trans rfl)) (hK _ _ rfl (Ext.refl _))
    · have u14 : a.eval (.tmp 14) = .slice L.pa L.P.length L.pc := hD 7 (by kernel_rfl)
      have u15 : a.eval (.tmp 15) = .int .i64 (N : Int) := hD 8 (by kernel_rfl)
      have q0 : a.eval (.tmp 14) = .slice L.pa L.P.length L.pc := u14
      have q1 : a.eval (.tmp 15) = .int .i64 (N : Int) := u15
      exact gs_call rfl (yr_call rfl rfl (show (#[Operand.tmp 14, Operand.tmp 15] : Array Operand).map a.eval = #[.slice L.pa L.P.length L.pc, .int .i64 (N : Int)] by simp only [List.map_toArray, List.map_cons, List.map_nil, q0, q1] <;> rfl) (by kernel_rfl)) ((HWh.out w hE).mono fun e w' ⟨h1, h2⟩ => ⟨_, h1, rfl, h2⟩) hK
    · have u12 : a.eval (.tmp 12) = .slice (some ⟨R, off, none⟩) uf.length ucap := hD 5 (by kernel_rfl)
      have u16 : a.eval (.tmp 16) = .int .i64 (m : Int) := hD 9 (by kernel_rfl)
      exact gs_val rfl (yr_idxa rfl u12 u16 (ix_pl R off _ _ m w hml)) (hK _ _ rfl (Ext.refl _))
    · have u17 : a.eval (.tmp 17) = .pointer (some ⟨R, off + m * 2, none⟩) := hD 10 (by kernel_rfl)
      exact gs_val rfl (yr_field rfl u17 (by go_simp)) (hK _ _ rfl (Ext.refl _))
    · have u18 : a.eval (.tmp 18) = .pointer (some ⟨R, off + m * 2 + 1, none⟩) := hD 11 (by kernel_rfl)
      exact gs_val rfl (yr_load rfl u18 (ld_st _ _ _ ((hE.cells R _ hR0).trans c0))) (hK _ _ rfl (Ext.refl _))
    · have u10 : a.eval (.tmp 10) = .string ⟨(X ++ [32]).toArray⟩ := hD 3 (by kernel_rfl)
      have u19 : a.eval (.tmp 19) = .string ⟨pr.toArray⟩ := hD 12 (by kernel_rfl)
      exact gs_val rfl (yr_addl rfl u10 u19 (by simp; omega)) (hK _ _ rfl (Ext.refl _))
    · have u20 : a.eval (.tmp 20) = .string ⟨((X ++ [32]) ++ pr).toArray⟩ := hD 13 (by kernel_rfl)
      exact gs_val rfl (yr_assign rfl u20) (hK _ _ rfl (Ext.refl _))
  intro vals wz hEz hRz
  obtain ⟨-, -, -, -, -, -, -, -, -, -, -, -, -, -, h14, -⟩ := hRz
  have e6 : vals 14 = .string ⟨((X ++ [32]) ++ pr).toArray⟩ := h14
  refine wpAny_done (by kernel_rfl) ?_ _
  simp only [putF, Act.put, List.length_cons, List.length_nil, List.getD_cons_zero, List.getD_cons_succ, List.setIfInBounds_toArray, List.set_cons_zero, List.set_cons_succ, Nat.reduceAdd, e6]
  clear e6
  go_wp2_with fail
  go_ret
  exact ⟨ret_s (by rw [HYs.out]; simp), HE0.out.trans hEz⟩
set_option maxRecDepth 100000 in
set_option maxHeartbeats 1000000 in
theorem ramount_c (L : Loc) (U : Uni) (N : Nat) (Y : List UInt8) (w : World) (h : AmR L U w) (hN : (N : Int) ≤ 4611686018427387904) (hY : amt L.P U.f N = Y) :
    Calls Tryz.prog 48 #[.agg L.vals.toArray, .agg #[.int .i64 U.s, .slice U.ao U.f.length U.cap], .int .i64 (N : Int)] w fun e w' => e = .returned (.string ⟨Y.toArray⟩) ∧ Ext w w' := by
  have hIL := loc_size h.lc.1
  obtain ⟨W0, hW0⟩ : ∃ W0, W0 = (w.alloc (.cells L.vals.toArray 30)).alloc (.cells #[.int .i64 U.s, .slice U.ao U.f.length U.cap] 59) := ⟨_, rfl⟩
  have hEa : Ext w (w.alloc (.cells L.vals.toArray 30)) := (Ext.refl w).alloc _
  have hEb : Ext (w.alloc (.cells L.vals.toArray 30)) W0 := by rw [hW0]; exact (Ext.refl _).alloc _
  have hE0 : Ext w W0 := hEa.trans hEb
  have hBn : LcB L w.heap.size W0 := (LcB.new L w 30).ext hEb
  obtain ⟨-, g1, -, -, -⟩ := hBn.cells h.lc.1
  have u1 : W0.cell? ⟨w.heap.size + 1, 1, none⟩ = some (.slice U.ao U.f.length U.cap) := by
    rw [hW0]
    have e : (w.alloc (.cells L.vals.toArray 30)).heap.size = w.heap.size + 1 := by simp
    rw [← e, World.cell?_alloc_new]; rfl
  have hzB : w.heap.size < W0.heap.size := by rw [hW0]; simp; omega
  have hzD : w.heap.size + 1 < W0.heap.size := by rw [hW0]; simp
  obtain ⟨m, hmm⟩ : ∃ m, fstI N L.P = m := ⟨_, rfl⟩
  have hml : m < U.f.length := by rw [h.ln, ← hmm]; exact fstI_lt h.p1
  obtain ⟨X, hX0⟩ : ∃ X, itx N 1 = X := ⟨_, rfl⟩
  have hXl := (nDig20 N hN).1
  rw [hX0] at hXl
  have hrl : ((U.f[m]).r).length ≤ 30 := form_len (h.fm m hml)
  have HYs : Hid (Y = X ++ ([32] ++ (U.f[m]).r)) := by rw [Hid, ← hY]; exact amt_str hX0 hmm hml
  obtain ⟨q1, q2, q3⟩ := h.un.ext hE0
  unfold maxLen at q2
  obtain ⟨R, off, hua, hR0, hc⟩ := q3 (by rintro e; rw [e] at hml; simp at hml)
  obtain ⟨-, c0⟩ := hc m hml
  have HX := Lib.hid hX0
  have HMm := Lib.hid hmm
  have HVp := Lib.hid (h.lc.2.1.ext hE0)
  have Hh := Lib.hid h
  have HE0 := Lib.hid hE0
  have hm0 : (0 : Int) ≤ (m : Int) := by omega
  have hm1 : (m : Int) < (U.f.length : Int) := by omega
  obtain ⟨us, uao, ucap, uf⟩ := U
  simp only at *
  subst hua
  obtain ⟨pr, hpr⟩ : ∃ c, c = (uf[m]).r := ⟨_, rfl⟩
  rw [← hpr] at c0 HYs hrl
  have HW0 := Lib.hid hW0
  clear hW0 hpr hX0 hmm h hE0 hEa hEb hBn hc q3 hY
  have hsl := hN
  have HTx : Hid (∀ w, Calls Tryz.prog 32 #[.int .i64 (N : Int)] w fun e w' => e = .returned (.string ⟨X.toArray⟩) ∧ Ext w w') := fun w => rdec_c N X w hN HX.out
  have HWh : Hid (∀ w, Ext W0 w → Calls Tryz.prog 30 #[.slice L.pa L.P.length L.pc, .int .i64 (N : Int)] w fun e w' => e = .returned (.int .i64 (m : Int)) ∧ Ext w w') := fun w hE => rfirst_c L.P L.pa L.pc N m w (HVp.out.ext hE) Hh.out.sh Hh.out.p1 hN HMm.out
  go_enter Tryz.func48, Tryz.ntmps48
  go_upto_region 1 with fail
  rw [← HW0.out]
  clear HW0
  generalize w.heap.size + 1 = D at *
  generalize w.heap.size = B at *
  refine wp_region_grow [7, 8, 9, 10, 11, 12, 13, 14, 15, 16, 17, 18, 19, 6] [fun x _ => x = .int .i64 (N : Int), fun x _ => x = .string ⟨X.toArray⟩, fun x _ => x = .string ⟨(X ++ [32]).toArray⟩, fun x _ => x = .pointer (some ⟨D, 1, none⟩), fun x _ => x = .slice (some ⟨R, off, none⟩) uf.length ucap, fun x _ => x = .pointer (some ⟨B, 41, none⟩), fun x _ => x = .slice L.pa L.P.length L.pc, fun x _ => x = .int .i64 (N : Int), fun x _ => x = .int .i64 (m : Int), fun x _ => x = .pointer (some ⟨R, off + m * 2, none⟩), fun x _ => x = .pointer (some ⟨R, off + m * 2 + 1, none⟩), fun x _ => x = .string ⟨pr.toArray⟩, fun x _ => x = .string ⟨((X ++ [32]) ++ pr).toArray⟩, fun x _ => x = .string ⟨((X ++ [32]) ++ pr).toArray⟩] 0 (by kernel_rfl) (by kernel_rfl) (by kernel_rfl) (by kernel_rfl) ?_ ?_ ?_
  · intro Rl hRl
    simp only [List.mem_cons, List.not_mem_nil, or_false] at hRl
    rcases hRl with rfl | rfl | rfl | rfl | rfl | rfl | rfl | rfl | rfl | rfl | rfl | rfl | rfl | rfl
    all_goals exact fun _ _ _ h _ => h
  · refine ⟨?_, ?_, ?_, ?_, ?_, ?_, ?_, ?_, ?_, ?_, ?_, ?_, ?_, ?_, trivial⟩
    all_goals intro a w hE hF hD K hK
    · exact gs_val rfl (yr_move rfl ((hF 2 (fr_of rfl)).trans rfl)) (hK _ _ rfl (Ext.refl _))
    · have u7 : a.eval (.tmp 7) = .int .i64 (N : Int) := hD 0 (by kernel_rfl)
      have q0 : a.eval (.tmp 7) = .int .i64 (N : Int) := u7
      exact gs_call rfl (yr_call rfl rfl (show (#[Operand.tmp 7] : Array Operand).map a.eval = #[.int .i64 (N : Int)] by simp only [List.map_toArray, List.map_cons, List.map_nil, q0] <;> rfl) (by kernel_rfl)) ((HTx.out w).mono fun e w' ⟨h1, h2⟩ => ⟨_, h1, rfl, h2⟩) hK
    · have u8 : a.eval (.tmp 8) = .string ⟨X.toArray⟩ := hD 1 (by kernel_rfl)
      exact gs_val rfl (yr_addl rfl u8 rfl (by simp; omega)) (hK _ _ rfl (Ext.refl _))
    · exact gs_val rfl (yr_field rfl ((hF 4 (fr_of rfl)).trans rfl) (by go_simp)) (hK _ _ rfl (Ext.refl _))
    · have u10 : a.eval (.tmp 10) = .pointer (some ⟨D, 1, none⟩) := hD 3 (by kernel_rfl)
      exact gs_val rfl (yr_load rfl u10 (ld_plu _ _ _ ((hE.cells D 1 hzD).trans u1))) (hK _ _ rfl (Ext.refl _))
    · exact gs_val rfl (yr_field rfl ((hF 3 (fr_of rfl)).trans rfl) (by go_simp)) (hK _ _ rfl (Ext.refl _))
    · have u12 : a.eval (.tmp 12) = .pointer (some ⟨B, 41, none⟩) := hD 5 (by kernel_rfl)
      exact gs_val rfl (yr_load rfl u12 (ld_plu _ _ _ ((hE.cells B 41 hzB).trans g1))) (hK _ _ rfl (Ext.refl _))
    · exact gs_val rfl (yr_move rfl ((hF 2 (fr_of rfl)).trans rfl)) (hK _ _ rfl (Ext.refl _))
    · have u13 : a.eval (.tmp 13) = .slice L.pa L.P.length L.pc := hD 6 (by kernel_rfl)
      have u14 : a.eval (.tmp 14) = .int .i64 (N : Int) := hD 7 (by kernel_rfl)
      have q0 : a.eval (.tmp 13) = .slice L.pa L.P.length L.pc := u13
      have q1 : a.eval (.tmp 14) = .int .i64 (N : Int) := u14
      exact gs_call rfl (yr_call rfl rfl (show (#[Operand.tmp 13, Operand.tmp 14] : Array Operand).map a.eval = #[.slice L.pa L.P.length L.pc, .int .i64 (N : Int)] by simp only [List.map_toArray, List.map_cons, List.map_nil, q0, q1] <;> rfl) (by kernel_rfl)) ((HWh.out w hE).mono fun e w' ⟨h1, h2⟩ => ⟨_, h1, rfl, h2⟩) hK
    · have u11 : a.eval (.tmp 11) = .slice (some ⟨R, off, none⟩) uf.length ucap := hD 4 (by kernel_rfl)
      have u15 : a.eval (.tmp 15) = .int .i64 (m : Int) := hD 8 (by kernel_rfl)
      exact gs_val rfl (yr_idxa rfl u11 u15 (ix_pl R off _ _ m w hml)) (hK _ _ rfl (Ext.refl _))
    · have u16 : a.eval (.tmp 16) = .pointer (some ⟨R, off + m * 2, none⟩) := hD 9 (by kernel_rfl)
      exact gs_val rfl (yr_field rfl u16 (by go_simp)) (hK _ _ rfl (Ext.refl _))
    · have u17 : a.eval (.tmp 17) = .pointer (some ⟨R, off + m * 2 + 1, none⟩) := hD 10 (by kernel_rfl)
      exact gs_val rfl (yr_load rfl u17 (ld_st _ _ _ ((hE.cells R _ hR0).trans c0))) (hK _ _ rfl (Ext.refl _))
    · have u9 : a.eval (.tmp 9) = .string ⟨(X ++ [32]).toArray⟩ := hD 2 (by kernel_rfl)
      have u18 : a.eval (.tmp 18) = .string ⟨pr.toArray⟩ := hD 11 (by kernel_rfl)
      exact gs_val rfl (yr_addl rfl u9 u18 (by simp; omega)) (hK _ _ rfl (Ext.refl _))
    · have u19 : a.eval (.tmp 19) = .string ⟨((X ++ [32]) ++ pr).toArray⟩ := hD 12 (by kernel_rfl)
      exact gs_val rfl (yr_assign rfl u19) (hK _ _ rfl (Ext.refl _))
  intro vals wz hEz hRz
  obtain ⟨-, -, -, -, -, -, -, -, -, -, -, -, -, h13, -⟩ := hRz
  have e6 : vals 13 = .string ⟨((X ++ [32]) ++ pr).toArray⟩ := h13
  refine wpAny_done (by kernel_rfl) ?_ _
  simp only [putF, Act.put, List.length_cons, List.length_nil, List.getD_cons_zero, List.getD_cons_succ, List.setIfInBounds_toArray, List.set_cons_zero, List.set_cons_succ, Nat.reduceAdd, e6]
  clear e6
  go_wp2_with fail
  go_ret
  exact ⟨ret_s (by rw [HYs.out]; simp), HE0.out.trans hEz⟩
end Go.Proofs.YtlmoibmmjonjoaaGreatDoor
/- Locales: the walk of Duration. -/
namespace Go.Proofs.YtlmoibmmjonjoaaGreatDoor
set_option linter.unusedVariables false
set_option linter.unusedSimpArgs false
open Go.RowKit

theorem amR_of {L : Loc} {w : World} (h : LcV L w) (hs : shL L) (hv : validLB L = true) (i : Nat) (hi : i < L.U.length) : AmR L L.U[i] w := by
  obtain ⟨hr, -⟩ := valid_P hv
  obtain ⟨k1, k2⟩ := ruled_ok hr
  obtain ⟨u1, u2⟩ := vu hv
  have hu := (uf_of u1 u2).at_ i hi
  exact ⟨h, h.2.2.2.2.2.2 _ (List.getElem_mem _), hs.1, k1, k2, hu.2.2.1, hu.2.2.2⟩
theorem duV_0 {L : Loc} (h : validLB L = true) : duE L 0 = 0 ∧ duV L 0 = amt L.P (lastF L.U) 0 := by
  have h1 : duE L 0 = 0 := by unfold duE dnrB; simp [h]
  exact ⟨h1, by unfold duV; simp [h1]⟩
theorem duV_n {L : Loc} {n : Int} (h : validLB L = true) (hn : dnrB n = true) (h0 : n ≠ 0) : duE L n = 0 ∧ duV L n = (if n < 0 then [45] else []) ++ Lib.join (dst L.P L.U n.natAbs).1 [44, 32] := by
  have h1 : duE L n = 0 := by unfold duE; simp [h, hn]
  exact ⟨h1, by unfold duV; simp [h1, h0]⟩
set_option maxRecDepth 100000 in
set_option maxHeartbeats 2000000 in
theorem duration_0 (L : Loc) (w : World) (h : LcV L w) (hs : shL L) (hm : Lm w) (hNl : ∀ s ∈ L.N.all, s.length ≤ 2000000) (hv : validLB L = true) :
    Calls Tryz.prog 18 #[.agg L.vals.toArray, .int .i64 0] w fun e w' => e = .returned (.tuple #[.string ⟨(duV L 0).toArray⟩, .int .i64 (duE L 0 : Int)]) ∧ Ext w w' := by
  obtain ⟨v1, v2⟩ := duV_0 hv
  have HAR := Lib.hid (fun (w' : World) (hE : Ext w w') (i : Nat) (hi : i < L.U.length) => amR_of (h.ext hE) hs hv i hi)
  have HUF := Lib.hid (uf_of (vu hv).1 (vu hv).2)
  have HEn := Lib.hid v1
  obtain ⟨Y, hY⟩ : ∃ Y, Y = duV L 0 := ⟨_, rfl⟩
  rw [v1, ← hY]
  rw [v2] at hY
  have HVl := Lib.hid hv
  clear v1 v2 hv
  have hIL := loc_size h.1
  have hE0 : Ext w (w.alloc (.cells L.vals.toArray 30)) := (Ext.refl w).alloc _
  have hB := LcB.new L w 30
  have hV := h.ext hE0
  obtain ⟨g0, g1, g2, g3, g4⟩ := hB.cells h.1
  have HV := Lib.hid hV
  have HBk := Lib.hid hB
  have HE0 := Lib.hid hE0
  have HNl := Lib.hid hNl
  have Hs := Lib.hid hs
  have HMl := Lib.hid hm
  have HM0 := Lib.hid (hm.ext hE0)
  have hR := hB.2
  obtain ⟨R, off, hua, hzR, hcu⟩ := hV.2.2.2.2.2.1 (by have := HUF.out.one; intro e; rw [e] at this; simp at this)
  have hul := hV.2.2.2.1
  have hul2 := hV.2.2.2.2.1
  unfold maxLen at hul2
  have HCu := Lib.hid hcu
  rw [hua] at g3
  clear hs hNl h hE0 hB hV hm g0 g1 g2 g4 hcu
  have HMl0 := Lib.hid (fun w' (hE : Ext w w') => HMl.out.ext hE)
  obtain ⟨z, hz⟩ : ∃ z, z = L.U.length - 1 := ⟨_, rfl⟩
  have hzl : z < L.U.length := by have := HUF.out.one; omega
  have HzI : Hid (IntKind.i64.wrap ((L.U.length : Int) - 1) = (z : Int)) := by
    rw [Hid, IntWalk.i64_in _ (by have := HUF.out.ten; omega)]; omega
  obtain ⟨c0, c1⟩ := HCu.out z hzl
  have HY : Hid (amt L.P (L.U[z]).f 0 = Y) := by
    rw [Hid, hY, lastF_eq HUF.out]; subst hz; rfl
  have HAm := Lib.hid (fun (w' : World) (hE : Ext w w') => amount_c L L.U[z] 0 Y w' (HAR.out w' hE z hzl) (by omega) (HMl.out.ext hE) HY.out)
  obtain ⟨u, hu⟩ : ∃ u, u = L.U[z] := ⟨_, rfl⟩
  rw [← hu] at c0 c1 HAm
  clear hu hY HY hz
  obtain ⟨us, uao, ucap, uf⟩ := u
  have HAm2 : Hid (∀ w', Ext w w' → Calls Tryz.prog 47 #[.agg L.vals.toArray, .int .i64 0, .agg #[.int .i64 us, .slice uao uf.length ucap]] w' fun e w'' => e = .returned (.string ⟨Y.toArray⟩) ∧ Ext w' w'') := HAm.out
  have HzL := Lib.hid hzl
  clear HAm hzl
  simp only at c0 c1
  go_enter Tryz.func18, Tryz.ntmps18
  go_upto_region 1 with fail
  generalize w.alloc (.cells L.vals.toArray 30) = W0 at *
  generalize w.heap.size = B at *
  go_upto_region 6 with (first
    | (refine load_midg (by rfl) 30 _ rfl B 0 rfl L.vals _ hR Tryz.underlying30 rfl hIL ?_)
    | (go_at_call 13; (with_reducible refine (valid_c L true _ HV.out Hs.out HM0.out HNl.out HVl.out).mono ?_); rintro e w1 ⟨rfl, hE1⟩))
  have g3V := (hE1.cells B 43 HBk.out.1).trans g3
  have hRV := rng_ext hR HBk.out.1 hE1
  have hzBV := hE1.lt HBk.out.1
  have c0V := (hE1.cells R _ hzR).trans c0
  have c1V := (hE1.cells R _ hzR).trans c1
  have hzRV := hE1.lt hzR
  have hE01 := HE0.out.trans hE1
  refine wp_region_grow [25, 26, 27, 28, 29, 30, 31, 32, 33, 34, 4, 5] [fun x _ => x = .agg L.vals.toArray, fun x _ => x = .pointer (some ⟨B, 43, none⟩), fun x _ => x = .slice (some ⟨R, off, none⟩) L.U.length L.uc, fun x _ => x = .pointer (some ⟨B, 43, none⟩), fun x _ => x = .slice (some ⟨R, off, none⟩) L.U.length L.uc, fun x _ => x = .int .i64 (L.U.length : Int), fun x _ => x = .int .i64 (z : Int), fun x _ => x = .pointer (some ⟨R, off + z * 2, none⟩), fun x _ => x = .agg #[.int .i64 us, .slice uao uf.length ucap], fun x _ => x = .string ⟨Y.toArray⟩, fun x _ => x = .string ⟨Y.toArray⟩, fun x _ => x = .int .i64 0] 0 (by kernel_rfl) (by kernel_rfl) (by kernel_rfl) (by kernel_rfl) ?_ ?_ ?_
  · intro Rl hRl
    simp only [List.mem_cons, List.not_mem_nil, or_false] at hRl
    rcases hRl with rfl | rfl | rfl | rfl | rfl | rfl | rfl | rfl | rfl | rfl | rfl | rfl
    all_goals exact fun _ _ _ h _ => h
  · refine ⟨?_, ?_, ?_, ?_, ?_, ?_, ?_, ?_, ?_, ?_, ?_, ?_, trivial⟩
    all_goals intro a w hE hF hD K hK
    · exact gs_val rfl (yr_load rfl ((hF 2 (fr_of rfl)).trans rfl) (run_loadAt_mid w B 0 _ _ _ (rng_ext hRV hzBV hE) Tryz.underlying30 rfl hIL)) (hK _ _ rfl (Ext.refl _))
    · exact gs_val rfl (yr_field rfl ((hF 2 (fr_of rfl)).trans rfl) (by go_simp)) (hK _ _ rfl (Ext.refl _))
    · have u26 : a.eval (.tmp 26) = .pointer (some ⟨B, 43, none⟩) := hD 1 (by kernel_rfl)
      exact gs_val rfl (yr_load rfl u26 (ld_uns _ _ _ ((hE.cells B 43 hzBV).trans g3V))) (hK _ _ rfl (Ext.refl _))
    · exact gs_val rfl (yr_field rfl ((hF 2 (fr_of rfl)).trans rfl) (by go_simp)) (hK _ _ rfl (Ext.refl _))
    · have u28 : a.eval (.tmp 28) = .pointer (some ⟨B, 43, none⟩) := hD 3 (by kernel_rfl)
      exact gs_val rfl (yr_load rfl u28 (ld_uns _ _ _ ((hE.cells B 43 hzBV).trans g3V))) (hK _ _ rfl (Ext.refl _))
    · have u29 : a.eval (.tmp 29) = .slice (some ⟨R, off, none⟩) L.U.length L.uc := hD 4 (by kernel_rfl)
      exact gs_val rfl (yr_lenU rfl rfl Tryz.underlying28 u29) (hK _ _ rfl (Ext.refl _))
    · have u30 : a.eval (.tmp 30) = .int .i64 (L.U.length : Int) := hD 5 (by kernel_rfl)
      exact gs_val rfl (yr_subi rfl u30 rfl HzI.out) (hK _ _ rfl (Ext.refl _))
    · have u27 : a.eval (.tmp 27) = .slice (some ⟨R, off, none⟩) L.U.length L.uc := hD 2 (by kernel_rfl)
      have u31 : a.eval (.tmp 31) = .int .i64 (z : Int) := hD 6 (by kernel_rfl)
      exact gs_val rfl (yr_idxa rfl u27 u31 (ix_un R off _ _ z w HzL.out)) (hK _ _ rfl (Ext.refl _))
    · have u32 : a.eval (.tmp 32) = .pointer (some ⟨R, off + z * 2, none⟩) := hD 7 (by kernel_rfl)
      exact gs_val rfl (yr_load rfl u32 (ld_un R (off + z * 2) _ _ w ((hE.cells R _ hzRV).trans c0V) ((hE.cells R _ hzRV).trans c1V))) (hK _ _ rfl (Ext.refl _))
    · have u25 : a.eval (.tmp 25) = .agg L.vals.toArray := hD 0 (by kernel_rfl)
      have u33 : a.eval (.tmp 33) = .agg #[.int .i64 us, .slice uao uf.length ucap] := hD 8 (by kernel_rfl)
      have q0 : a.eval (.tmp 25) = .agg L.vals.toArray := u25
      have q2 : a.eval (.tmp 33) = .agg #[.int .i64 us, .slice uao uf.length ucap] := u33
      exact gs_call rfl (yr_call rfl rfl (show (#[Operand.tmp 25, Operand.const (.int .i64 0), Operand.tmp 33] : Array Operand).map a.eval = #[.agg L.vals.toArray, .int .i64 0, .agg #[.int .i64 us, .slice uao uf.length ucap]] by simp only [List.map_toArray, List.map_cons, List.map_nil, q0, q2] <;> rfl) (by kernel_rfl)) ((HAm2.out w (hE01.trans hE)).mono fun e w' ⟨h1, h2⟩ => ⟨_, h1, rfl, h2⟩) hK
    · have u34 : a.eval (.tmp 34) = .string ⟨Y.toArray⟩ := hD 9 (by kernel_rfl)
      exact gs_val rfl (yr_assign rfl u34) (hK _ _ rfl (Ext.refl _))
    · exact gs_val rfl (yr_assign rfl rfl) (hK _ _ rfl (Ext.refl _))
  intro vals wz hEz hRz
  obtain ⟨-, -, -, -, -, -, -, -, -, -, h10, h11, -⟩ := hRz
  have e4 : vals 10 = .string ⟨Y.toArray⟩ := h10
  have e5 : vals 11 = .int .i64 0 := h11
  refine wpAny_done (by kernel_rfl) ?_ _
  simp only [putF, Act.put, List.length_cons, List.length_nil, List.getD_cons_zero, List.getD_cons_succ, List.setIfInBounds_toArray, List.set_cons_zero, List.set_cons_succ, Nat.reduceAdd, e4, e5]
  clear e4 e5
  go_wp2_with fail
  go_ret2
  exact ⟨rfl, hE01.trans hEz⟩
end Go.Proofs.YtlmoibmmjonjoaaGreatDoor
