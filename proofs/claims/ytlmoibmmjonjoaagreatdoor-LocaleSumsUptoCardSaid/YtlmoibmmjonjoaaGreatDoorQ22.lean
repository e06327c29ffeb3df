/- Locales: the walk of the reference's Ordinal. -/
import Derived.Test.YtlmoibmmjonjoaaGreatDoorQ21
import Derived.Test.YtlmoibmmjonjoaaGreatDoorQ19
import Derived.Test.YtlmoibmmjonjoaaGreatDoorQ00
import Derived.Test.YtlmoibmmjonjoaaGreatDoorQ04
import Derived.Laws.BytesString
import Derived.Laws.IdiomStrings
namespace Go.Proofs.YtlmoibmmjonjoaaGreatDoor
set_option linter.unusedVariables false
set_option linter.unusedSimpArgs false
open Go.RowKit

def onrB (n : Int) : Bool := decide (0 ≤ n ∧ n ≤ 4611686018427387904)
/-- What Ordinal answers. -/
noncomputable def orE (L : Loc) (n : Int) : Nat := if validLB L = false then 1 else if onrB n = false then 2 else 0
noncomputable def orV (L : Loc) (n : Int) : List UInt8 := if orE L n = 0 then itx n.natAbs 1 ++ (L.O[fstI n.natAbs L.O]?.map (·.c)).getD [] else []

set_option maxRecDepth 100000 in
set_option maxHeartbeats 2000000 in
theorem rordinal_c (L : Loc) (n : Int) (w : World) (h : LcV L w) (hs : shL L) (hNl : ∀ s ∈ L.N.all, s.length ≤ 2000000) :
    Calls Tryz.prog 12 #[.agg L.vals.toArray, .int .i64 n] w fun e w' => e = .returned (.tuple #[.string ⟨(orV L n).toArray⟩, .int .i64 (orE L n : Int)]) ∧ Ext w w' := by
  have hIL := loc_size h.1
  have hE0 : Ext w (w.alloc (.cells L.vals.toArray 30)) := (Ext.refl w).alloc _
  have hB := LcB.new L w 30
  have hV := h.ext hE0
  obtain ⟨g0, g1, g2, g3, g4⟩ := hB.cells h.1
  have HV := Lib.hid hV
  have HBk := Lib.hid hB
  have HVp := Lib.hid hV.2.2.1
  have HE0 := Lib.hid hE0
  have HNl := Lib.hid hNl
  have Hs := Lib.hid hs
  have Hs1 := Lib.hid hs.2.1
  have hR := hB.2
  clear hs hNl h hE0 hB hV g0 g1 g3 g4
  rcases Bool.eq_false_or_eq_true (validLB L) with hv | hv
  · have HVl := Lib.hid hv
    obtain ⟨-, hr⟩ := valid_P hv
    obtain ⟨k1, k2⟩ := ruled_ok hr
    have HK := Lib.hid k2
    rcases Bool.eq_false_or_eq_true (onrB n) with hi | hi
    · have hq0 : orE L n = 0 := by simp [orE, hv, hi]
      have HE : Hid (orE L n = 0) := hq0
      obtain ⟨m, hm⟩ : ∃ m, fstI n.natAbs L.O = m := ⟨_, rfl⟩
      have hml : m < L.O.length := by rw [← hm]; exact fstI_lt k1
      obtain ⟨X, hX0⟩ : ∃ X, itx n.natAbs 1 = X := ⟨_, rfl⟩
      have HP : Hid (orV L n = X ++ (L.O[m]).c) := by
        rw [Hid]; unfold orV; rw [if_pos hq0, hm, List.getElem?_eq_getElem hml, hX0]; rfl
      have HI := Lib.hid hi
      have HM := Lib.hid hm
      have HX := Lib.hid hX0
      have hpl := (Hs1.out L.O[m] (List.getElem_mem _)).1
      obtain ⟨n1, n2⟩ : 0 ≤ n ∧ n ≤ 4611686018427387904 := of_decide_eq_true hi
      obtain ⟨N, rfl⟩ := Int.eq_ofNat_of_zero_le n1
      have hXl := (nDig20 N n2).1
      rw [show itx N 1 = X from HX.out] at hXl
      have HDC : Hid (∀ w, Calls Tryz.prog 32 #[.int .i64 (N : Int)] w fun e w' => e = .returned (.string ⟨X.toArray⟩) ∧ Ext w w') := fun w => rdec_c N X w n2 HX.out
      have HNn := Lib.hid n2
      have HM2 : Hid (fstI N L.O = m) := HM.out
      obtain ⟨hp1, hp2, hp3⟩ := HVp.out
      unfold maxLen at hp2
      obtain ⟨R, off, hpa, hR0, hc⟩ := hp3 (by rintro e; rw [e] at hml; simp at hml)
      obtain ⟨c0, -⟩ := hc m hml
      have HPA := Lib.hid hpa
      rw [hpa] at g2
      rw [hpa] at HVp
      clear hpa hc hp3 k2 hv hi hq0 hm hr HX hX0 HM HI
      have hm0 : (0 : Int) ≤ (m : Int) := by omega
      have hm1 : (m : Int) < (L.O.length : Int) := by omega
      obtain ⟨pc, hpc⟩ : ∃ c, c = (L.O[m]).c := ⟨_, rfl⟩
      rw [← hpc] at c0 HP hpl
      clear hpc
      go_enter Tryz.func12, Tryz.ntmps12
      go_upto_region 1 with fail
      generalize w.alloc (.cells L.vals.toArray 30) = W0 at *
      generalize w.heap.size = B at *
      go_upto_region 5 with (first
        | (refine load_midg (by rfl) 30 _ rfl B 0 rfl L.vals _ hR Tryz.underlying30 rfl hIL ?_)
        | (go_at_call 29; (with_reducible refine (rvalid_c L true _ HV.out Hs.out HNl.out HVl.out).mono ?_); rintro e w1 ⟨rfl, hE1⟩; have f1 := (hE1.cells B 42 HBk.out.1).trans g2; have d0 := (hE1.cells R _ hR0).trans c0; have hX := hE1; have hRr := hE1.lt hR0; have hBr := hE1.lt HBk.out.1; clear hE1))
      go_region_with (first
        | (go_at_call 32; (with_reducible refine (HDC.out _).mono ?_); rintro e w2 ⟨rfl, hE2⟩; have hZ := Ext.trans (show Ext W0 _ from (by (repeat (with_reducible (first | assumption | exact Ext.refl _ | refine Ext.alloc ?_ _ | refine Ext.drewN ?_ _ | refine Ext.drew ?_))))) hE2; have d2 := (hZ.cells R _ hR0).trans c0; have f2 := (hZ.cells B 42 HBk.out.1).trans g2; have hBz := hZ.lt HBk.out.1; have hRz := hZ.lt hR0; clear hE2)
        | (go_at_call 30; (with_reducible refine (rfirst_c L.O _ L.oc N m _ (HVp.out.ext (by (repeat (with_reducible (first | assumption | exact Ext.refl _ | refine Ext.alloc ?_ _ | refine Ext.drewN ?_ _ | refine Ext.drew ?_))))) Hs1.out k1 HNn.out HM2.out).mono ?_); rintro e w3 ⟨rfl, hE3⟩; have hY := Ext.trans (show Ext W0 _ from (by (repeat (with_reducible (first | assumption | exact Ext.refl _ | refine Ext.alloc ?_ _ | refine Ext.drewN ?_ _ | refine Ext.drew ?_))))) hE3; have d1 := (hY.cells R _ hR0).trans c0; have f3 := (hY.cells B 42 HBk.out.1).trans g2; have hBy := hY.lt HBk.out.1; have hRy := hY.lt hR0; clear hE3))
      all_goals
        go_wp2_with fail
        go_ret2
        exact ⟨by rw [HP.out, HE.out, ← app2_str]; rfl, HE0.out.trans (by (repeat (with_reducible (first | assumption | exact Ext.refl _ | refine Ext.alloc ?_ _ | refine Ext.drewN ?_ _ | refine Ext.drew ?_))))⟩
    · have hq0 : orE L n = 2 := by simp [orE, hv, hi]
      have HE : Hid (orE L n = 2) := hq0
      have HP : Hid (orV L n = []) := by rw [Hid]; unfold orV; rw [hq0]; rfl
      have h3 : ¬ (0 ≤ n ∧ n ≤ 4611686018427387904) := of_decide_eq_false hi
      clear hv hi hq0
      by_cases q : n < 0
      · clear h3
        go_enter Tryz.func12, Tryz.ntmps12
        go_upto_region 1 with fail
        generalize w.alloc (.cells L.vals.toArray 30) = W0 at *
        generalize w.heap.size = B at *
        go_wp2_with (first
          | (refine load_midg (by rfl) 30 _ rfl B 0 rfl L.vals _ hR Tryz.underlying30 rfl hIL ?_)
          | (go_at_call 29; (with_reducible refine (rvalid_c L true _ HV.out Hs.out HNl.out HVl.out).mono ?_); rintro e w1 ⟨rfl, hE1⟩))
        go_ret2
        exact ⟨by rw [HP.out, HE.out]; rfl, HE0.out.trans hE1⟩
      · have q2 : 4611686018427387904 < n := by omega
        clear h3
        go_enter Tryz.func12, Tryz.ntmps12
        go_upto_region 1 with fail
        generalize w.alloc (.cells L.vals.toArray 30) = W0 at *
        generalize w.heap.size = B at *
        go_wp2_with (first
          | (refine load_midg (by rfl) 30 _ rfl B 0 rfl L.vals _ hR Tryz.underlying30 rfl hIL ?_)
          | (go_at_call 29; (with_reducible refine (rvalid_c L true _ HV.out Hs.out HNl.out HVl.out).mono ?_); rintro e w1 ⟨rfl, hE1⟩))
        go_ret2
        exact ⟨by rw [HP.out, HE.out]; rfl, HE0.out.trans hE1⟩
  · have hq0 : orE L n = 1 := by simp [orE, hv]
    have HE : Hid (orE L n = 1) := hq0
    have HP : Hid (orV L n = []) := by rw [Hid]; unfold orV; rw [hq0]; rfl
    have HVl := Lib.hid hv
    clear hv hq0
    go_enter Tryz.func12, Tryz.ntmps12
    go_upto_region 1 with fail
    generalize w.alloc (.cells L.vals.toArray 30) = W0 at *
    generalize w.heap.size = B at *
    go_wp2_with (first
      | (refine load_midg (by rfl) 30 _ rfl B 0 rfl L.vals _ hR Tryz.underlying30 rfl hIL ?_)
      | (go_at_call 29; (with_reducible refine (rvalid_c L false _ HV.out Hs.out HNl.out HVl.out).mono ?_); rintro e w1 ⟨rfl, hE1⟩))
    go_ret2
    exact ⟨by rw [HP.out, HE.out]; rfl, HE0.out.trans hE1⟩
end Go.Proofs.YtlmoibmmjonjoaaGreatDoor
/- The walks of package integer and of its reference. -/
namespace Go.Proofs.YtlmoibmmjonjoaaGreatDoor
open Go.RowKit

end Go.Proofs.YtlmoibmmjonjoaaGreatDoor
/- The walk of integer.Text: a decimal text with at least so many digits. -/
namespace Go.Proofs.YtlmoibmmjonjoaaGreatDoor
open Go.RowKit

def itxI (n : Int) (k : Nat) : List UInt8 := if n < 0 then 45 :: itx n.natAbs k else itx n.natAbs k

set_option maxHeartbeats 400000 in
theorem size_nn (n : Int) (w : World) (h : 0 ≤ n) (h2 : n ≤ 9223372036854775807) : Calls Tryz.prog 121 #[.int .i64 n] w fun e w' => e = .returned (.int .u64 n) ∧ w = w' := by
  go_enter Tryz.func121, Tryz.ntmps121
  go_wp2
  go_ret
  exact ⟨ret_i (by first | rfl | (simp [IntKind.wrap]; omega)), rfl⟩
set_option maxHeartbeats 400000 in
theorem size_neg (n : Int) (w : World) (h : n < 0) (h2 : -9223372036854775808 ≤ n) : Calls Tryz.prog 121 #[.int .i64 n] w fun e w' => e = .returned (.int .u64 (-n)) ∧ w = w' := by
  go_enter Tryz.func121, Tryz.ntmps121
  go_wp2
  go_ret
  exact ⟨ret_i (by simp only [IntKind.wrap]; simp [IntKind.bits, IntKind.signed]; omega), rfl⟩

set_option maxRecDepth 100000 in
set_option maxHeartbeats 1000000 in
theorem text_nn (N K : Nat) (w : World) (hn2 : (N : Int) ≤ 9223372036854775807) (hk : K ≤ 20) :
    Calls Tryz.prog 89 #[.int .i64 (N : Int), .int .i64 (K : Int)] w fun e w' => e = .returned (.string ⟨(itx N K).toArray⟩) ∧ Ext w w' := by
  have d3 : decide ((N : Int) < 0) = false := by simp
  have hM : Lib.nDigits N ≤ 20 := nDigits_20 N (by omega)
  have hM1 := Lib.nDigits_pos N
  have d1 : decide ((K : Int) < 0) = false := by simp
  have d2 : decide ((20 : Int) < (K : Int)) = false := by simp; omega
  obtain ⟨M, hM⟩ : ∃ M, M = max (Lib.nDigits N) K := ⟨_, rfl⟩
  have HM := Lib.hid hM
  have hMb : M ≤ 20 := by omega
  have hMb1 : 1 ≤ M := by omega
  clear hM
  go_enter Tryz.func89, Tryz.ntmps89
  go_wp2_with (go_at_call 121; refine (size_nn _ _ (by omega) (by omega)).mono ?_; rintro e w1 ⟨rfl, rfl⟩)
  go_loopw [6, 7] (fun at_ m wr => ∃ j q : Nat, j ≤ M ∧ at_ = .int .i64 (24 - (j : Int)) ∧ m = .int .u64 (q : Int) ∧ Hid (q = N / 10 ^ j) ∧ wr = w.alloc (.cells (txC N j) 133)) (fun at_ _ _ => (intOf at_).toNat)
  case atStart => exact ⟨0, N, by omega, rfl, rfl, by simp [Hid], by rw [txC_zero]⟩
  case round =>
    obtain ⟨j, q, hj, rfl, rfl, Hq, rfl⟩ := hrel
    have hq : q ≤ N := by rw [Hq.out]; exact Nat.div_le_self _ _
    by_cases hlt : j < M
    · obtain ⟨x0, hx0⟩ := txC_get N j (24 - j - 1) (by omega) (by omega)
      have hq2 : q ≠ 0 ∨ j < max K 1 := by
        by_cases q0 : q = 0
        · right
          have h1 := HM.out
          by_cases hN0 : N = 0
          · subst hN0
            rw [Lib.nDigits_small (by decide)] at h1
            omega
          · have := div_zero_of (n := N) (j := j) (by omega) (by rw [← Hq.out]; exact q0)
            omega
        · exact .inl q0
      by_cases hq0 : q = 0
      · have t1 : ((q : Int) != 0) = false := by simp [hq0]
        have t2 : (j : Int) < max (K : Int) 1 := by omega
        have Hq0 := Lib.hid hq0
        clear hq0 hq2
        go_wp2
        go_roundw
        case rel => exact ⟨j + 1, q / 10, by omega, by congr 1; omega, by congr 1, div_pow_succ N j q Hq.out, by rw [txC_step' N j q (by omega) Hq.out]⟩
        case measure => simp [intOf]; omega
      · have t1 : ((q : Int) != 0) = true := by simp; omega
        clear hq2
        go_wp2
        go_roundw
        case rel => exact ⟨j + 1, q / 10, by omega, by congr 1; omega, by congr 1, div_pow_succ N j q Hq.out, by rw [txC_step' N j q (by omega) Hq.out]⟩
        case measure => simp [intOf]; omega
    · obtain rfl : j = M := by omega
      have hq0 : q = 0 := by rw [Hq.out]; have := HM.out; exact Nat.div_eq_of_lt (Nat.lt_of_lt_of_le (Lib.lt_pow_nDigits N) (Nat.pow_le_pow_right (by decide) (by omega)))
      have t1 : ((q : Int) != 0) = false := by simp [hq0]
      have t2 : ¬ (24 - (24 - (j : Int)) < if (K : Int) < 1 then 1 else (K : Int)) := by have := HM.out; split <;> omega
      clear hq0
      have hcv : ∀ cap, (convert 85 9 (.slice (some ⟨w.heap.size, 24 - j, none⟩) j cap)).run Tryz.prog (w.alloc (.cells (txC N j) 133)) = .ok (.string ⟨(padN j N).toArray⟩) (w.alloc (.cells (txC N j) 133)) := by
        intro cap
        have h := run_convert_bytes_back (P := Tryz.prog) (w.alloc (.cells (txC N j) 133)) 85 9 5 ⟨w.heap.size, 24 - j, none⟩ cap (padN j N) Tryz.underlying85 Tryz.underlying5 Tryz.underlying9 (by
          intro i hi
          rw [show (⟨w.heap.size, 24 - j, none⟩ : Addr).add i = ⟨w.heap.size, 24 - j + i, none⟩ from by unfold Addr.add; split <;> simp_all]
          rw [World.cell?_alloc_new]
          exact txC_at N j i (by omega) _ (List.getElem?_eq_getElem hi))
        rw [padN_length] at h
        exact h
      have hsl : ∀ W : World, (Instr.sliceAt 133 (.pointer (some ⟨w.heap.size, 0, none⟩)) (some (.int .i64 (24 - (j : Int)))) none none).run Tryz.prog W = .ok (.slice (some ⟨w.heap.size, 24 - j, none⟩) j j) W := by
        intro W
        rw [run_sliceAt_array_l (P := Tryz.prog) W 133 ⟨w.heap.size, 0, none⟩ (by kernel_rfl) .i64 (24 - (j : Int)) (by omega) (by show 24 - (j : Int) ≤ 24; omega)]
        have e1 : (sizeOf (Tryz.prog.elem 133)).run Tryz.prog W = .ok 1 W := by kernel_rfl
        rw [e1]
        show Result.ok (slicedAt _ _ 24 24 1) W = _
        unfold slicedAt
        have e2 : (24 - (j : Int)).toNat = 24 - j := by omega
        rw [e2, if_neg (by omega)]
        congr 2
        · unfold Addr.add; split <;> simp <;> omega
        · omega
        · omega
      go_wp2
      all_goals
        go_ret
        exact ⟨ret_s (by rw [itx, ← HM.out]), (Ext.refl w).alloc _⟩

theorem txC_neg (n j : Nat) (h : j < 24) : ((txC n j).setIfInBounds (24 - j - 1) (.int .u8 45)) = (List.replicate (24 - (j + 1)) (Value.int .u8 0) ++ ((45 :: padN j n).map fun c => Value.int .u8 c.toNat)).toArray := by
  unfold txC
  rw [List.setIfInBounds_toArray]
  congr 1
  rw [show 24 - j = (24 - (j + 1)) + 1 from by omega, List.replicate_succ', List.append_assoc, List.set_append_right _ _ (by simp <;> omega)]
  have e : 24 - (j + 1) + 1 - 1 - (List.replicate (24 - (j + 1)) (Value.int .u8 0)).length = 0 := by simp
  rw [e]
  simp
theorem txC_neg_at (n j i : Nat) (hj : j < 24) (c : UInt8) (h : (45 :: padN j n)[i]? = some c) : ((txC n j).setIfInBounds (24 - j - 1) (.int .u8 45))[24 - j - 1 + i]? = some (.int .u8 c.toNat) := by
  rw [txC_neg n j hj]
  simp only [List.getElem?_toArray]
  rw [List.getElem?_append_right (by simp; omega)]
  simp only [List.length_replicate, List.getElem?_map]
  rw [show 24 - j - 1 + i - (24 - (j + 1)) = i from by omega, h]
  rfl

set_option maxRecDepth 100000 in
set_option maxHeartbeats 1000000 in
theorem text_neg (N K : Nat) (w : World) (hn1 : 0 < N) (hn2 : (N : Int) ≤ 9223372036854775808) (hk : K ≤ 20) :
    Calls Tryz.prog 89 #[.int .i64 (-(N : Int)), .int .i64 (K : Int)] w fun e w' => e = .returned (.string ⟨(45 :: itx N K).toArray⟩) ∧ Ext w w' := by
  have d3 : decide (-(N : Int) < 0) = true := by simp; omega
  have d4 : -(N : Int) < 0 := by omega
  have d5 : - -(N : Int) = N := by omega
  have hM : Lib.nDigits N ≤ 20 := nDigits_20 N (by omega)
  have hM1 := Lib.nDigits_pos N
  have d1 : decide ((K : Int) < 0) = false := by simp
  have d2 : decide ((20 : Int) < (K : Int)) = false := by simp; omega
  obtain ⟨M, hM⟩ : ∃ M, M = max (Lib.nDigits N) K := ⟨_, rfl⟩
  have HM := Lib.hid hM
  have hMb : M ≤ 20 := by omega
  have hMb1 : 1 ≤ M := by omega
  clear hM
  go_enter Tryz.func89, Tryz.ntmps89
  go_wp2_with (go_at_call 121; refine (size_neg _ _ (by omega) (by omega)).mono ?_; rintro e w1 ⟨rfl, rfl⟩)
  go_loopw [6, 7] (fun at_ m wr => ∃ j q : Nat, j ≤ M ∧ at_ = .int .i64 (24 - (j : Int)) ∧ m = .int .u64 (q : Int) ∧ Hid (q = N / 10 ^ j) ∧ wr = w.alloc (.cells (txC N j) 133)) (fun at_ _ _ => (intOf at_).toNat)
  case atStart => exact ⟨0, N, by omega, rfl, rfl, by simp [Hid], by rw [txC_zero]⟩
  case round =>
    obtain ⟨j, q, hj, rfl, rfl, Hq, rfl⟩ := hrel
    have hq : q ≤ N := by rw [Hq.out]; exact Nat.div_le_self _ _
    by_cases hlt : j < M
    · obtain ⟨x0, hx0⟩ := txC_get N j (24 - j - 1) (by omega) (by omega)
      have hq2 : q ≠ 0 ∨ j < max K 1 := by
        by_cases q0 : q = 0
        · right
          have h1 := HM.out
          by_cases hN0 : N = 0
          · subst hN0
            rw [Lib.nDigits_small (by decide)] at h1
            omega
          · have := div_zero_of (n := N) (j := j) (by omega) (by rw [← Hq.out]; exact q0)
            omega
        · exact .inl q0
      by_cases hq0 : q = 0
      · have t1 : ((q : Int) != 0) = false := by simp [hq0]
        have t2 : (j : Int) < max (K : Int) 1 := by omega
        have Hq0 := Lib.hid hq0
        clear hq0 hq2
        go_wp2
        go_roundw
        case rel => exact ⟨j + 1, q / 10, by omega, by congr 1; omega, by congr 1, div_pow_succ N j q Hq.out, by rw [txC_step' N j q (by omega) Hq.out]⟩
        case measure => simp [intOf]; omega
      · have t1 : ((q : Int) != 0) = true := by simp; omega
        clear hq2
        go_wp2
        go_roundw
        case rel => exact ⟨j + 1, q / 10, by omega, by congr 1; omega, by congr 1, div_pow_succ N j q Hq.out, by rw [txC_step' N j q (by omega) Hq.out]⟩
        case measure => simp [intOf]; omega
    · obtain rfl : j = M := by omega
      have hq0 : q = 0 := by rw [Hq.out]; have := HM.out; exact Nat.div_eq_of_lt (Nat.lt_of_lt_of_le (Lib.lt_pow_nDigits N) (Nat.pow_le_pow_right (by decide) (by omega)))
      have t1 : ((q : Int) != 0) = false := by simp [hq0]
      have t2 : ¬ (24 - (24 - (j : Int)) < if (K : Int) < 1 then 1 else (K : Int)) := by have := HM.out; split <;> omega
      clear hq0
      obtain ⟨x0, hx0⟩ := txC_get N j (24 - j - 1) (by omega) (by omega)
      have hcv : ∀ cap, (convert 85 9 (.slice (some ⟨w.heap.size, 24 - j - 1, none⟩) (j + 1) cap)).run Tryz.prog (w.alloc (.cells ((txC N j).setIfInBounds (24 - j - 1) (.int .u8 45)) 133)) = .ok (.string ⟨(45 :: padN j N).toArray⟩) (w.alloc (.cells ((txC N j).setIfInBounds (24 - j - 1) (.int .u8 45)) 133)) := by
        intro cap
        have h := run_convert_bytes_back (P := Tryz.prog) (w.alloc (.cells ((txC N j).setIfInBounds (24 - j - 1) (.int .u8 45)) 133)) 85 9 5 ⟨w.heap.size, 24 - j - 1, none⟩ cap (45 :: padN j N) Tryz.underlying85 Tryz.underlying5 Tryz.underlying9 (by
          intro i hi
          rw [show (⟨w.heap.size, 24 - j - 1, none⟩ : Addr).add i = ⟨w.heap.size, 24 - j - 1 + i, none⟩ from by unfold Addr.add; split <;> simp_all]
          rw [World.cell?_alloc_new]
          exact txC_neg_at N j i (by omega) _ (List.getElem?_eq_getElem hi))
        rw [List.length_cons, padN_length] at h
        exact h
      have hsl : ∀ W : World, (Instr.sliceAt 133 (.pointer (some ⟨w.heap.size, 0, none⟩)) (some (.int .i64 (24 - (j : Int) - 1))) none none).run Tryz.prog W = .ok (.slice (some ⟨w.heap.size, 24 - j - 1, none⟩) (j + 1) (j + 1)) W := by
        intro W
        rw [run_sliceAt_array_l (P := Tryz.prog) W 133 ⟨w.heap.size, 0, none⟩ (by kernel_rfl) .i64 (24 - (j : Int) - 1) (by omega) (by show 24 - (j : Int) - 1 ≤ 24; omega)]
        have e1 : (sizeOf (Tryz.prog.elem 133)).run Tryz.prog W = .ok 1 W := by kernel_rfl
        rw [e1]
        show Result.ok (slicedAt _ _ 24 24 1) W = _
        unfold slicedAt
        have e2 : (24 - (j : Int) - 1).toNat = 24 - j - 1 := by omega
        rw [e2, if_neg (by omega)]
        congr 2
        · unfold Addr.add; split <;> simp <;> omega
        · omega
        · omega
      go_wp2
      all_goals
        go_ret
        exact ⟨ret_s (by rw [itx, ← HM.out]), (Ext.refl w).alloc _⟩

theorem text_c (n k : Int) (w : World) (h1 : -9223372036854775808 ≤ n) (h2 : n ≤ 9223372036854775807) (k1 : 0 ≤ k) (k2 : k ≤ 20) :
    Calls Tryz.prog 89 #[.int .i64 n, .int .i64 k] w fun e w' => e = .returned (.string ⟨(itxI n k.toNat).toArray⟩) ∧ Ext w w' := by
  obtain ⟨K, rfl⟩ := Int.eq_ofNat_of_zero_le k1
  unfold itxI
  by_cases h : n < 0
  · rw [if_pos h]
    have e : n = -((n.natAbs : Nat) : Int) := by omega
    have := text_neg n.natAbs K w (by omega) (by omega) (by omega)
    rw [← e] at this
    exact this
  · rw [if_neg h]
    have e : n = ((n.natAbs : Nat) : Int) := by omega
    have := text_nn n.natAbs K w (by omega) (by omega)
    rw [← e] at this
    exact this
end Go.Proofs.YtlmoibmmjonjoaaGreatDoor
