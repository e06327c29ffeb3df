/- The reference's decimal text of negative numbers; of any number. -/
import Derived.Test.YtgndogpgfgliaaaGreatDoorQ35
import Derived.Test.YtgndogpgfgliaaaGreatDoorQ01
namespace Go.Proofs.YtgndogpgfgliaaaGreatDoor
set_option linter.unusedVariables false
set_option linter.unnecessarySimpa false
set_option linter.unusedSimpArgs false
open Go.RowKit

set_option maxRecDepth 100000 in
set_option maxHeartbeats 1000000 in
theorem rtextn_c (v wd : Nat) (X : List UInt8) (w : World) (hv0 : 0 < v) (hv : (v : Int) ≤ 4611686018427387904) (hwd : wd ≤ 20) (hX : itx v wd = X) :
    Calls Tryz.prog 37 #[.int .i64 (-(v : Int)), .int .i64 (wd : Int)] w fun e w' => e = .returned (.string ⟨(45 :: X).toArray⟩) ∧ Ext w w' := by
  have HX := Lib.hid hX
  clear hX
  have hc1 := conv2
  have e1 : ¬ (wd : Int) < 0 := by omega
  have e2 : ¬ (20 : Int) < (wd : Int) := by omega
  go_enter Tryz.func37, Tryz.ntmps37
  go_wp2_with fail
  go_loopw [5, 6] (fun s m wr => ∃ j : Nat, j ≤ Lib.nDigits v ∧ s = .string ⟨(padN j v).toArray⟩ ∧ m = .int .i64 (-((v / 10 ^ j : Nat) : Int)) ∧ Ext w wr) (fun _ m _ => (intOf m).natAbs)
  case atStart => exact ⟨0, Nat.zero_le _, rfl, by simp, Ext.refl _⟩
  case round =>
    obtain ⟨j, hj, rfl, rfl, hE⟩ := hrel
    obtain ⟨m, hm⟩ : ∃ m, m = v / 10 ^ j := ⟨_, rfl⟩
    have hp := padN_length j v
    have hnd : Lib.nDigits v ≤ 19 := nDigits_le (by decide) (by omega)
    have hpc : Hid (dg1 m :: padN j v = padN (j + 1) v) := by rw [Hid, padN_cons, hm]
    have hm10 : v / 10 ^ (j + 1) = m / 10 := by rw [Nat.pow_succ, ← Nat.div_div_eq_div_mul, ← hm]
    have hml : m ≤ 4611686018427387904 := by rw [hm]; exact Nat.le_trans (Nat.div_le_self _ _) (by omega)
    have hjn : Hid (¬ m = 0 → j + 1 ≤ Lib.nDigits v) := fun h => by
      rcases Nat.lt_or_ge j (Lib.nDigits v) with q | q
      · exact q
      · exfalso
        have : v < 10 ^ j := Nat.lt_of_lt_of_le (Lib.lt_pow_nDigits v) (Nat.pow_le_pow_right (by decide) q)
        exact h (by rw [hm]; exact Nat.div_eq_of_lt this)
    have hvj : Hid (m = 0 → v < 10 ^ j) := fun h => by
      rw [hm] at h
      rcases Nat.lt_or_ge v (10 ^ j) with q | q
      · exact q
      · have := Nat.div_pos q (Nat.pow_pos (by decide)); omega
    have Hm10 := Lib.hid hm10
    rw [← hm]
    clear hm hm10
    by_cases h0 : m = 0
    · have hvj2 := Lib.hid (hvj.out h0)
      subst h0
      clear hjn hpc Hm10 hvj
      go_wp2_with fail
      go_loopw [5] (fun s wy => ∃ q : Nat, q ≤ max (Lib.nDigits v) wd ∧ s = .string ⟨(padN q v).toArray⟩ ∧ Hid (v < 10 ^ q) ∧ Ext wr wy) (fun s _ => max (Lib.nDigits v) wd - strLn s)
      case atStart => exact ⟨j, by omega, rfl, hvj2.out, Ext.refl _⟩
      case round =>
        obtain ⟨q, hq, rfl, Hq, hE2⟩ := hrel
        have hq20 : q ≤ 20 := by omega
        have hpq := padN_length q v
        have hpc : Hid (48 :: padN q v = padN (q + 1) v) := by
          rw [Hid, padN_cons, Nat.div_eq_of_lt Hq.out]; rfl
        have HY : Hid (1 ≤ q → wd ≤ q → padN q v = X) := fun a b => by
          rw [← HX.out]
          unfold itx
          have := nDigits_le a Hq.out
          rw [show max (Lib.nDigits v) wd = q by omega]
        have HP := Lib.hid (Lib.nDigits_pos v)
        obtain ⟨L, hL⟩ : ∃ L, L = padN q v := ⟨_, rfl⟩
        have Hq2 : Hid (v < 10 ^ (q + 1)) := Nat.lt_of_lt_of_le Hq.out (Nat.pow_le_pow_right (by decide) (Nat.le_succ q))
        rw [← hL] at hpc HY hpq ⊢
        clear hL
        by_cases hq0 : q = 0
        · subst hq0
          have : L = [] := List.length_eq_zero_iff.1 hpq
          subst this
          go_wp2_with fail
          go_roundw
          case rel => exact ⟨1, by have := HP.out; omega, by rw [← hpc.out]; rfl, Hq2.out, hE2⟩
          case measure => have := HP.out; simp [strLn, ByteArray.size]; omega
        · have hne : ((⟨L.toArray⟩ : ByteArray).toList == []) = false := by
            have : (⟨L.toArray⟩ : ByteArray).toList = L := by simp
            rw [this, beq_eq_false_iff_ne]
            rintro rfl
            simp at hpq; omega
          have hne2 : L.isEmpty = false := by
            cases L with
            | nil => simp at hpq; omega
            | cons _ _ => rfl
          by_cases hqw : q < wd
          · have a1 : (L.length : Int) < (wd : Int) := by omega
            go_wp2_with fail
            go_roundw
            case rel => exact ⟨q + 1, by omega, by rw [← hpc.out]; exact congrArg Value.string (app2_str [48] L), Hq2.out, hE2⟩
            case measure => simp [strLn, ByteArray.size]; omega
          · have a1 : ¬ (L.length : Int) < (wd : Int) := by omega
            have a2 : -(v : Int) < 0 := by omega
            have HF := Lib.hid (HY.out (by omega) (by omega))
            go_wp2_with fail
            go_ret
            exact ⟨by rw [← HF.out]; exact congrArg (fun z => Ending.returned (Value.string z)) (app2_str [45] L), hE.trans hE2⟩
    · have hjn2 := Lib.hid (hjn.out h0)
      have b1 : (-(m : Int) != 0) = true := by rw [bne_iff_ne]; omega
      have hdiv : Int.tdiv (-(m : Int)) 10 = -((m / 10 : Nat) : Int) := by rw [Int.neg_tdiv, Int.tdiv_eq_ediv_of_nonneg (by omega)]; rfl
      have hm0 : Int.tmod (-(m : Int)) 10 = -((m : Int) % 10) := by rw [Int.neg_tmod, Int.tmod_eq_emod_of_nonneg (by omega)]
      obtain ⟨y, hy⟩ : ∃ y, y = m / 10 := ⟨_, rfl⟩
      have hy2 : y ≤ 4611686018427387904 := by omega
      have hy3 : y < m := by omega
      rw [← hy] at hdiv Hm10
      clear hy hjn hvj
      by_cases hz : (m : Int) % 10 = 0
      · have hmod : Int.tmod (-(m : Int)) 10 = (m : Int) % 10 := by rw [hm0, hz]; rfl
        have b2 : ¬ (m : Int) % 10 < 0 := by omega
        clear hm0 hz
        go_wp2_with fail
        go_roundw
        case rel => exact ⟨j + 1, hjn2.out, by rw [← hpc.out]; exact congrArg Value.string (app2_str [dg1 m] (padN j v)), by rw [Hm10.out], hE.alloc _⟩
        case measure => simp [intOf]; omega
      · have b2 : -((m : Int) % 10) < 0 := by omega
        have b3 : (0 : Int) - -((m : Int) % 10) = (m : Int) % 10 := by omega
        have b4 : - -((m : Int) % 10) = (m : Int) % 10 := by omega
        clear hz
        go_wp2_with fail
        go_roundw
        case rel => exact ⟨j + 1, hjn2.out, by rw [← hpc.out]; exact congrArg Value.string (app2_str [dg1 m] (padN j v)), by rw [Hm10.out], hE.alloc _⟩
        case measure => simp [intOf]; omega
theorem rdec_c (n : Int) (X : List UInt8) (w : World) (h1 : -4611686018427387904 ≤ n) (h2 : n ≤ 4611686018427387904) (hX : decZ n = X) :
    Calls Tryz.prog 37 #[.int .i64 n, .int .i64 1] w fun e w' => e = .returned (.string ⟨X.toArray⟩) ∧ Ext w w' := by
  subst hX
  unfold decZ
  by_cases h : n < 0
  · rw [if_pos h]
    have := rtextn_c n.natAbs 1 _ w (by omega) (by omega) (by decide) rfl
    rwa [show -((n.natAbs : Nat) : Int) = n by omega] at this
  · rw [if_neg h]
    have := rtext_c n.natAbs 1 _ w (by omega) (by decide) rfl
    rwa [show ((n.natAbs : Nat) : Int) = n by omega] at this
end Go.Proofs.YtgndogpgfgliaaaGreatDoor
/- Recurrence rules: the reference's DaysText. -/
namespace Go.Proofs.YtgndogpgfgliaaaGreatDoor
set_option linter.unusedVariables false
set_option linter.unnecessarySimpa false
set_option linter.unusedSimpArgs false
open Go.RowKit

theorem catb (A B : List UInt8) : (⟨A.toArray⟩ : ByteArray) ++ ⟨B.toArray⟩ = ⟨(A ++ B).toArray⟩ := by apply ByteArray.ext; simp
theorem ix_o (H off c n j : Nat) (w : World) (hv : j < n) : (Instr.indexAt 23 (.slice (some ⟨H, off, none⟩) n c) (.int .i64 (j : Int))).run Tryz.prog w = .ok (.pointer (some ⟨H, off + j * 2, none⟩)) w := by
  have h1 : (j : Int) < (n : Int) := by omega
  go_simp
set_option maxRecDepth 100000 in
set_option maxHeartbeats 4000000 in
theorem rdaysT_c (l : List (Int × Int)) (ao : Option Addr) (cap : Nat) (X : List UInt8) (w : World) (h : OsV ao cap l w) (hi : ∀ o ∈ l, i64 o.1 ∧ i64 o.2) (hn : l.length ≤ 100000) (hX : daysTx l = X) :
    Calls Tryz.prog 26 #[.slice ao l.length cap] w fun e w' => e = .returned (.string ⟨X.toArray⟩) ∧ Ext w w' := by
  obtain ⟨h0, hcap, hL⟩ := h
  unfold maxLen at hcap
  have HL := Lib.hid hL
  have HI := Lib.hid hi
  have HNo : Hid (∀ j (h : j < l.length), dOkB l[j] = false → X = []) := fun j h q => by rw [← hX, daysTx_no h q]
  have HYe : Hid ((∀ k (h : k < l.length), dOkB l[k] = true) → Lib.join (l.map dayT) [44] = X) := fun q => by rw [← hX, daysTx_yes q]; rfl
  clear hi hL hX
  go_enter Tryz.func26, Tryz.ntmps26
  go_wp2_with fail
  go_loopw [3, 4] (fun s i wr => ∃ j : Nat, j ≤ l.length ∧ s = .string ⟨(Lib.join ((l.take j).map dayT) [44]).toArray⟩ ∧ i = .int .i64 (j : Int) ∧ (∀ k (h : k < l.length), k < j → dOkB l[k] = true) ∧ Ext w wr) (fun _ i _ => l.length - (intOf i).toNat)
  case atStart => exact ⟨0, Nat.zero_le _, rfl, rfl, (fun k h h2 => by omega), Ext.refl _⟩
  case round =>
    obtain ⟨j, hj, rfl, rfl, hk, hE⟩ := hrel
    have Hk := Lib.hid hk
    have hacc : (Lib.join ((l.take j).map dayT) [44]).length ≤ 2300000 := by
      refine Nat.le_trans (join_le _ _ 22 (fun a ha => ?_)) ?_
      · obtain ⟨o, ho, rfl⟩ := List.mem_map.1 ha
        obtain ⟨i, hi, rfl⟩ := List.mem_iff_getElem.1 ho
        rw [List.getElem_take]
        rw [List.length_take] at hi
        exact dayT_22 (hk i (by omega) (by omega))
      · rw [List.length_map, List.length_take]; simp; omega
    clear hk
    by_cases hlt : j < l.length
    · obtain ⟨R, off, rfl, hR⟩ := HL.out (by rintro rfl; simp at hlt)
      have hRr := hR.ext hE
      have hRz := hRr.1
      obtain ⟨x0, x1⟩ := hRr.2 j hlt
      have hn5 := HI.out _ (List.getElem_mem hlt)
      have Htk : Hid (Lib.join ((l.take (j + 1)).map dayT) [44] = Lib.join ((l.take j).map dayT) [44] ++ ((if j = 0 then [] else [44]) ++ dayT l[j])) := by
        have := join_take_succ (l.map dayT) [44] j (by rw [List.length_map]; exact hlt)
        rw [Hid, List.map_take, List.map_take, this, List.getElem_map]
      have hA0 : j = 0 → Lib.join ((l.take j).map dayT) [44] = [] := fun q => by rw [q]; rfl
      have HN1 : Hid (dOkB l[j] = false → X = []) := HNo.out j hlt
      have HK2 : Hid (dOkB l[j] = true → ∀ k (h : k < l.length), k < j + 1 → dOkB l[k] = true) := fun q k h h2 => by
        by_cases e : k = j
        · subst e; exact q
        · exact Hk.out k h (by omega)
      obtain ⟨o, ho⟩ : ∃ o, o = l[j] := ⟨_, rfl⟩
      rw [← ho] at x0 x1 hn5 Htk HN1 HK2
      clear ho hR hRr
      obtain ⟨n, d⟩ := o
      simp only at x0 x1 hn5
      obtain ⟨i1, i2⟩ := hn5
      unfold i64 at i1 i2
      obtain ⟨A, hA⟩ : ∃ A, A = Lib.join ((l.take j).map dayT) [44] := ⟨_, rfl⟩
      rw [← hA] at Htk hacc hA0 ⊢
      clear hA
      by_cases q1 : d < 1
      · have t1 : decide (d < 1) = true := decide_eq_true q1
        have hX0 := HN1.out (by unfold dOkB; rw [decide_eq_false_iff_not]; simp only; omega)
        subst hX0
        clear q1
        go_wp2_with fail
        go_ret
        exact ⟨rfl, hE⟩
      have t1 : decide (d < 1) = false := decide_eq_false q1
      by_cases q2 : 7 < d
      · have t2 : decide (7 < d) = true := decide_eq_true q2
        have hX0 := HN1.out (by unfold dOkB; rw [decide_eq_false_iff_not]; simp only; omega)
        subst hX0
        clear q1 q2
        go_wp2_with fail
        go_ret
        exact ⟨rfl, hE⟩
      have t2 : decide (7 < d) = false := decide_eq_false q2
      by_cases q4 : 999999999 < n
      · have t4 : decide (999999999 < n) = true := decide_eq_true q4
        have hX0 := HN1.out (by unfold dOkB; rw [decide_eq_false_iff_not]; simp only; omega)
        subst hX0
        clear q1 q2 q4
        go_wp2_with fail
        go_ret
        exact ⟨rfl, hE⟩
      have t4 : decide (999999999 < n) = false := decide_eq_false q4
      by_cases q3 : n < -999999999
      · have t3 : decide (n < -999999999) = true := decide_eq_true q3
        have hX0 := HN1.out (by unfold dOkB; rw [decide_eq_false_iff_not]; simp only; omega)
        subst hX0
        clear q1 q2 q3 q4
        go_wp2_with fail
        go_ret
        exact ⟨rfl, hE⟩
      have t3 : decide (n < -999999999) = false := decide_eq_false q3
      have HK3 := Lib.hid (HK2.out (by unfold dOkB; rw [decide_eq_true_eq]; simp only; omega))
      obtain ⟨k, rfl⟩ : ∃ k : Nat, d = (k : Int) + 1 := ⟨(d - 1).toNat, by omega⟩
      have hk7 : k < 7 := by omega
      have hk8 : (k : Int) < 7 := by omega
      have hk9 : (0 : Int) ≤ (k : Int) := by omega
      have hw1 : IntKind.i64.wrap ((k : Int) + 1 - 1) = (k : Int) := by rw [IntWalk.i64_in _ (by omega)]; omega
      have hw2 : IntKind.i64.wrap (k : Int) = (k : Int) := IntWalk.i64_in _ (by omega)
      obtain ⟨Z, hZ⟩ : ∃ Z, Z = wkW.getD k [] := ⟨_, rfl⟩
      have HRL : Hid (∀ H w', RdS wkW H 0 w' → w'.cell? ⟨H, k, none⟩ = some (.string ⟨Z.toArray⟩)) := fun H w' q => by
        have hk7' : k < wkW.length := hk7
        have := q.2 k hk7'
        rw [Nat.zero_add] at this
        rw [this, hZ]
        simp [List.getD, hk7']
      have HDy : Hid (dayT (n, (k : Int) + 1) = (if n = 0 then [] else decZ n) ++ Z) := by
        rw [Hid]; unfold dayT; simp only
        rw [show ((k : Int) + 1 - 1).toNat = k by omega, hZ]
      rw [HDy.out] at Htk
      have hZl : Z.length = 2 := by rw [hZ]; exact (wk_at k hk7).1
      have hRw := hRz
      have hnb : -999999999 ≤ n ∧ n ≤ 999999999 := by omega
      obtain ⟨hnb1, hnb2⟩ := hnb
      clear HK2 HN1 q1 q2 q3 q4 hZ HDy i2
      by_cases hj0 : j = 0
      · have tj : decide ((0 : Int) < (j : Int)) = false := decide_eq_false (by omega)
        have tj2 : decide (0 < j) = false := decide_eq_false (by omega)
        obtain ⟨P, hP⟩ : ∃ P, P = A := ⟨_, rfl⟩
        have HP : Hid (P = A ++ (if j = 0 then [] else [44])) := by rw [Hid, hP, if_pos hj0, List.append_nil]
        have hPl : P.length ≤ 2500000 := by rw [hP]; omega
        clear hA0 hj0
        go_upto_region 9 with fail
        rw [← hP]
        clear hP
        by_cases hn0 : n = 0
        · have t6 : (n != 0) = false := by rw [hn0]; rfl
          have t7 : (n == 0) = true := by rw [hn0]; rfl
          have HN0 := Lib.hid hn0
          clear hn0
          go_upto_region 11 with fail
          have HEx := Lib.hid (hE)
          generalize wr = W1 at *
          have hcS := catb P Z
          go_region_with (go_at_call 41; (with_reducible refine (rwkd_c _).mono ?_); rintro e w2 ⟨⟨H, rfl, hRH⟩, hE2⟩; have hX := Ext.trans (show Ext W1 _ from (by (repeat (with_reducible (first | assumption | exact Ext.refl _ | refine Ext.alloc ?_ _ | refine Ext.drewN ?_ _ | refine Ext.drew ?_))))) hE2; have d1 := (hX.cells R (off + j * 2 + 1) hRw).trans x1; have hz := HRL.out H w2 hRH; have hzr := hRH.1; have hBl2 := hX.lt hRw; clear hE2 hRH)
          all_goals
            go_wp2_with fail
            go_roundw
            case rel =>
              refine ⟨j + 1, by omega, ?_, by go_num, HK3.out, HEx.out.trans (by (repeat (with_reducible (first | assumption | exact Ext.refl _ | refine Ext.alloc ?_ _ | refine Ext.drewN ?_ _ | refine Ext.drew ?_))))⟩
              rw [Htk.out]
              simp [HN0.out, HP.out]
            case measure => simp [intOf]; omega
        · have t6 : (n != 0) = true := by simpa using hn0
          have t7 : (n == 0) = false := by simpa using hn0
          obtain ⟨Y, hY⟩ : ∃ Y, Y = decZ n := ⟨_, rfl⟩
          have HD := Lib.hid (fun W => rdec_c n Y W (by omega) (by omega) hY.symm)
          have hYl : Y.length ≤ 20 := by rw [hY]; exact decZ_20 (by unfold i64; omega)
          have HY := Lib.hid hY
          have HN0 := Lib.hid hn0
          clear hY hn0
          have hcY := catb P Y
          go_upto_region 11 with (go_at_call 37; (with_reducible refine (HD.out _).mono ?_); rintro e w2 ⟨rfl, hE2⟩)
          have x1 := (hE2.cells R (off + j * 2 + 1) hRw).trans x1
          have hRw := hE2.lt hRw
          obtain ⟨S, hS⟩ : ∃ S, S = P ++ Y := ⟨_, rfl⟩
          have hSl : S.length ≤ 3000000 := by rw [hS, List.length_append]; omega
          rw [← hS] at hcY ⊢
          have HS := Lib.hid hS
          clear hS hcY
          have HEx := Lib.hid (hE.trans hE2)
          generalize w2 = W1 at *
          have hcS := catb S Z
          go_region_with (go_at_call 41; (with_reducible refine (rwkd_c _).mono ?_); rintro e w2 ⟨⟨H, rfl, hRH⟩, hE2⟩; have hX := Ext.trans (show Ext W1 _ from (by (repeat (with_reducible (first | assumption | exact Ext.refl _ | refine Ext.alloc ?_ _ | refine Ext.drewN ?_ _ | refine Ext.drew ?_))))) hE2; have d1 := (hX.cells R (off + j * 2 + 1) hRw).trans x1; have hz := HRL.out H w2 hRH; have hzr := hRH.1; have hBl2 := hX.lt hRw; clear hE2 hRH)
          all_goals
            go_wp2_with fail
            go_roundw
            case rel =>
              refine ⟨j + 1, by omega, ?_, by go_num, HK3.out, HEx.out.trans (by (repeat (with_reducible (first | assumption | exact Ext.refl _ | refine Ext.alloc ?_ _ | refine Ext.drewN ?_ _ | refine Ext.drew ?_))))⟩
              rw [Htk.out]
              simp [HS.out, HY.out, HN0.out, HP.out]
            case measure => simp [intOf]; omega
      · have tj : decide ((0 : Int) < (j : Int)) = true := decide_eq_true (by omega)
        have tj2 : decide (0 < j) = true := decide_eq_true (by omega)
        have hcA := catb A [44]
        obtain ⟨P, hP⟩ : ∃ P, P = A ++ [44] := ⟨_, rfl⟩
        have HP : Hid (P = A ++ (if j = 0 then [] else [44])) := by rw [Hid, hP, if_neg hj0]
        have hPl : P.length ≤ 2500000 := by rw [hP, List.length_append]; simp; omega
        clear hA0 hj0
        go_upto_region 9 with fail
        rw [← hP]
        clear hP hcA
        by_cases hn0 : n = 0
        · have t6 : (n != 0) = false := by rw [hn0]; rfl
          have t7 : (n == 0) = true := by rw [hn0]; rfl
          have HN0 := Lib.hid hn0
          clear hn0
          go_upto_region 11 with fail
          have HEx := Lib.hid (hE)
          generalize wr = W1 at *
          have hcS := catb P Z
          go_region_with (go_at_call 41; (with_reducible refine (rwkd_c _).mono ?_); rintro e w2 ⟨⟨H, rfl, hRH⟩, hE2⟩; have hX := Ext.trans (show Ext W1 _ from (by (repeat (with_reducible (first | assumption | exact Ext.refl _ | refine Ext.alloc ?_ _ | refine Ext.drewN ?_ _ | refine Ext.drew ?_))))) hE2; have d1 := (hX.cells R (off + j * 2 + 1) hRw).trans x1; have hz := HRL.out H w2 hRH; have hzr := hRH.1; have hBl2 := hX.lt hRw; clear hE2 hRH)
          all_goals
            go_wp2_with fail
            go_roundw
            case rel =>
              refine ⟨j + 1, by omega, ?_, by go_num, HK3.out, HEx.out.trans (by (repeat (with_reducible (first | assumption | exact Ext.refl _ | refine Ext.alloc ?_ _ | refine Ext.drewN ?_ _ | refine Ext.drew ?_))))⟩
              rw [Htk.out]
              simp [HN0.out, HP.out]
            case measure => simp [intOf]; omega
        · have t6 : (n != 0) = true := by simpa using hn0
          have t7 : (n == 0) = false := by simpa using hn0
          obtain ⟨Y, hY⟩ : ∃ Y, Y = decZ n := ⟨_, rfl⟩
          have HD := Lib.hid (fun W => rdec_c n Y W (by omega) (by omega) hY.symm)
          have hYl : Y.length ≤ 20 := by rw [hY]; exact decZ_20 (by unfold i64; omega)
          have HY := Lib.hid hY
          have HN0 := Lib.hid hn0
          clear hY hn0
          have hcY := catb P Y
          go_upto_region 11 with (go_at_call 37; (with_reducible refine (HD.out _).mono ?_); rintro e w2 ⟨rfl, hE2⟩)
          have x1 := (hE2.cells R (off + j * 2 + 1) hRw).trans x1
          have hRw := hE2.lt hRw
          obtain ⟨S, hS⟩ : ∃ S, S = P ++ Y := ⟨_, rfl⟩
          have hSl : S.length ≤ 3000000 := by rw [hS, List.length_append]; omega
          rw [← hS] at hcY ⊢
          have HS := Lib.hid hS
          clear hS hcY
          have HEx := Lib.hid (hE.trans hE2)
          generalize w2 = W1 at *
          have hcS := catb S Z
          go_region_with (go_at_call 41; (with_reducible refine (rwkd_c _).mono ?_); rintro e w2 ⟨⟨H, rfl, hRH⟩, hE2⟩; have hX := Ext.trans (show Ext W1 _ from (by (repeat (with_reducible (first | assumption | exact Ext.refl _ | refine Ext.alloc ?_ _ | refine Ext.drewN ?_ _ | refine Ext.drew ?_))))) hE2; have d1 := (hX.cells R (off + j * 2 + 1) hRw).trans x1; have hz := HRL.out H w2 hRH; have hzr := hRH.1; have hBl2 := hX.lt hRw; clear hE2 hRH)
          all_goals
            go_wp2_with fail
            go_roundw
            case rel =>
              refine ⟨j + 1, by omega, ?_, by go_num, HK3.out, HEx.out.trans (by (repeat (with_reducible (first | assumption | exact Ext.refl _ | refine Ext.alloc ?_ _ | refine Ext.drewN ?_ _ | refine Ext.drew ?_))))⟩
              rw [Htk.out]
              simp [HS.out, HY.out, HN0.out, HP.out]
            case measure => simp [intOf]; omega
    · obtain rfl : j = l.length := by omega
      have hy := HYe.out (fun k h => Hk.out k h h)
      rw [List.take_length] at hacc ⊢
      rw [hy] at hacc ⊢
      clear hy
      go_wp2_with fail
      go_ret
      exact ⟨rfl, hE⟩
end Go.Proofs.YtgndogpgfgliaaaGreatDoor
