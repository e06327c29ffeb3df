/- Recurrence rules: the reference's join of numbers. -/
import Derived.Test.YtgndogpgfgliaaaGreatDoorQ36
import Derived.Test.YtgndogpgfgliaaaGreatDoorQ34
import Derived.Test.YtgndogpgfgliaaaGreatDoorQ38
import Derived.Test.YtgndogpgfgliaaaGreatDoorQ23
import Derived.Test.YtgndogpgfgliaaaGreatDoorQ40
import Derived.Test.YtgndogpgfgliaaaGreatDoorQ29
namespace Go.Proofs.YtgndogpgfgliaaaGreatDoor
set_option linter.unusedVariables false
set_option linter.unnecessarySimpa false
set_option linter.unusedSimpArgs false
open Go.RowKit

set_option maxRecDepth 100000 in
set_option maxHeartbeats 4000000 in
theorem rjoin_c (l : List Int) (ao : Option Addr) (cap : Nat) (X : List UInt8) (w : World) (h : IsV ao cap l w) (hi : ∀ n ∈ l, -999999999 ≤ n ∧ n ≤ 999999999) (hn : l.length ≤ 100000) (hX : numsT l = X) :
    Calls Tryz.prog 40 #[.slice ao l.length cap] w fun e w' => e = .returned (.string ⟨X.toArray⟩) ∧ Ext w w' := by
  obtain ⟨h0, hcap, hL⟩ := h
  unfold maxLen at hcap
  have HL := Lib.hid hL
  have HI := Lib.hid hi
  have HYe : Hid (Lib.join (l.map decZ) [44] = X) := hX
  clear hi hL hX
  go_enter Tryz.func40, Tryz.ntmps40
  go_wp2_with fail
  go_loopw [3, 4] (fun s i wr => ∃ j : Nat, j ≤ l.length ∧ s = .string ⟨(Lib.join ((l.take j).map decZ) [44]).toArray⟩ ∧ i = .int .i64 (j : Int) ∧ Ext w wr) (fun _ i _ => l.length - (intOf i).toNat)
  case atStart => exact ⟨0, Nat.zero_le _, rfl, rfl, Ext.refl _⟩
  case round =>
    obtain ⟨j, hj, rfl, rfl, hE⟩ := hrel
    have hacc : (Lib.join ((l.take j).map decZ) [44]).length ≤ 2300000 := by
      refine Nat.le_trans (join_le _ _ 20 (fun a ha => ?_)) ?_
      · obtain ⟨o, ho, rfl⟩ := List.mem_map.1 ha
        have := HI.out o (List.mem_of_mem_take ho)
        exact decZ_20 (by unfold i64; omega)
      · rw [List.length_map, List.length_take]; simp; omega
    by_cases hlt : j < l.length
    · obtain ⟨R, off, rfl, hR⟩ := HL.out (by rintro rfl; simp at hlt)
      have hRr := hR.ext hE
      have hRz := hRr.1
      have x0 := hRr.2 j hlt
      have hn5 := HI.out _ (List.getElem_mem hlt)
      have Htk : Hid (Lib.join ((l.take (j + 1)).map decZ) [44] = Lib.join ((l.take j).map decZ) [44] ++ ((if j = 0 then [] else [44]) ++ decZ l[j])) := by
        have := join_take_succ (l.map decZ) [44] j (by rw [List.length_map]; exact hlt)
        rw [Hid, List.map_take, List.map_take, this, List.getElem_map]
      obtain ⟨n, ho⟩ : ∃ n, n = l[j] := ⟨_, rfl⟩
      rw [← ho] at x0 hn5 Htk
      clear ho hR hRr
      obtain ⟨i1, i2⟩ := hn5
      obtain ⟨A, hA⟩ : ∃ A, A = Lib.join ((l.take j).map decZ) [44] := ⟨_, rfl⟩
      rw [← hA] at Htk hacc ⊢
      clear hA
      obtain ⟨Y, hY⟩ : ∃ Y, Y = decZ n := ⟨_, rfl⟩
      have HD := Lib.hid (fun W => rdec_c n Y W (by omega) (by omega) hY.symm)
      have hYl : Y.length ≤ 20 := by rw [hY]; exact decZ_20 (by unfold i64; omega)
      rw [← hY] at Htk
      clear hY
      by_cases hj0 : j = 0
      · have tj : decide ((0 : Int) < (j : Int)) = false := decide_eq_false (by omega)
        have tj2 : decide (0 < j) = false := decide_eq_false (by omega)
        have HF : Hid (A ++ Y = A ++ ((if j = 0 then [] else [44]) ++ Y)) := by rw [Hid, if_pos hj0]; rfl
        have hcY := catb A Y
        clear hj0
        go_wp2_with (go_at_call 37; (with_reducible refine (HD.out _).mono ?_); rintro e w2 ⟨rfl, hE2⟩)
        go_roundw
        case rel => exact ⟨j + 1, by omega, by rw [Htk.out, ← HF.out], by go_num, hE.trans hE2⟩
        case measure => simp [intOf]; omega
      · have tj : decide ((0 : Int) < (j : Int)) = true := decide_eq_true (by omega)
        have tj2 : decide (0 < j) = true := decide_eq_true (by omega)
        have hcA := catb A [44]
        obtain ⟨P, hP⟩ : ∃ P, P = A ++ [44] := ⟨_, rfl⟩
        have HF : Hid (P ++ Y = A ++ ((if j = 0 then [] else [44]) ++ Y)) := by rw [Hid, if_neg hj0, hP, List.append_assoc]
        have hPl : P.length ≤ 2500000 := by rw [hP, List.length_append]; simp; omega
        clear hj0
        go_upto_region 7 with fail
        rw [← hP]
        have hcY := catb P Y
        clear hP hcA
        go_wp2_with (go_at_call 37; (with_reducible refine (HD.out _).mono ?_); rintro e w2 ⟨rfl, hE2⟩)
        go_roundw
        case rel => exact ⟨j + 1, by omega, by rw [Htk.out, ← HF.out], by go_num, hE.trans hE2⟩
        case measure => simp [intOf]; omega
    · obtain rfl : j = l.length := by omega
      have hy := HYe.out
      rw [List.take_length] at hacc ⊢
      rw [hy] at hacc ⊢
      clear hy
      go_wp2_with fail
      go_ret
      exact ⟨rfl, hE⟩
end Go.Proofs.YtgndogpgfgliaaaGreatDoor
/- Recurrence rules: the reference's Get, Months, Weekdays (ref18). -/
namespace Go.Proofs.YtgndogpgfgliaaaGreatDoor
set_option linter.unusedVariables false
set_option linter.unnecessarySimpa false
set_option linter.unusedSimpArgs false
open Go.RowKit

set_option maxRecDepth 100000 in
set_option maxHeartbeats 1000000 in
theorem rget_c (L : List (List UInt8)) (n : Int) (H : Nat) (X : List UInt8) (w : World) (h : RdS L H 0 w) (hL : L.length ≤ 100) (hn : i64 n) (hX : getW L n = X) :
    Calls Tryz.prog 49 #[.slice (some ⟨H, 0, none⟩) L.length L.length, .int .i64 n] w fun e w' => e = .returned (.string ⟨X.toArray⟩) ∧ w = w' := by
  unfold getW at hX
  unfold i64 at hn
  by_cases q1 : n < 1
  · rw [if_pos (.inl q1)] at hX
    subst hX
    have t1 : decide (n < 1) = true := decide_eq_true q1
    clear q1 h
    go_enter Tryz.func49, Tryz.ntmps49
    go_wp2_with fail
    go_ret
    exact ⟨rfl, rfl⟩
  have t1 : decide (n < 1) = false := decide_eq_false q1
  by_cases q2 : (L.length : Int) < n
  · rw [if_pos (.inr q2)] at hX
    subst hX
    have t2 : decide ((L.length : Int) < n) = true := decide_eq_true q2
    clear q1 q2 h
    go_enter Tryz.func49, Tryz.ntmps49
    go_wp2_with fail
    go_ret
    exact ⟨rfl, rfl⟩
  have t2 : decide ((L.length : Int) < n) = false := decide_eq_false q2
  rw [if_neg (by omega)] at hX
  obtain ⟨k, rfl⟩ : ∃ k : Nat, n = (k : Int) + 1 := ⟨(n - 1).toNat, by omega⟩
  have hk : k < L.length := by omega
  have x0 := h.2 k hk
  rw [Nat.zero_add] at x0
  rw [show ((k : Int) + 1 - 1).toNat = k by omega, show L.getD k [] = L[k] by simp [List.getD, hk]] at hX
  rw [hX] at x0
  have hz := h.1
  have hw1 : IntKind.i64.wrap ((k : Int) + 1 - 1) = (k : Int) := by rw [IntWalk.i64_in _ (by omega)]; omega
  have hw2 : IntKind.i64.wrap (k : Int) = (k : Int) := IntWalk.i64_in _ (by omega)
  obtain ⟨N, hN⟩ : ∃ N, N = L.length := ⟨_, rfl⟩
  rw [← hN] at t2 hk ⊢
  clear hX q1 q2 h hN hL
  go_enter Tryz.func49, Tryz.ntmps49
  go_wp2_with fail
  go_ret
  exact ⟨rfl, rfl⟩
theorem rmons_c (w : World) : Calls Tryz.prog 50 #[] w fun e w' => (∃ H, e = .returned (.slice (some ⟨H, 0, none⟩) 12 12) ∧ RdS moW H 0 w') ∧ Ext w w' := by
  have hR0 : RdS moW w.heap.size 0 (w.alloc (.cells (sv moW).toArray 9)) := by
    refine ⟨by simp, fun i hi => ?_⟩
    rw [Nat.zero_add, World.cell?_alloc_new]
    simp [sv, hi]
  go_enter Tryz.func50, Tryz.ntmps50
  go_wp2_with fail
  go_ret
  exact ⟨⟨_, rfl, hR0⟩, (Ext.refl w).alloc _⟩
theorem rwks_c (w : World) : Calls Tryz.prog 53 #[] w fun e w' => (∃ H, e = .returned (.slice (some ⟨H, 0, none⟩) 7 7) ∧ RdS wdW H 0 w') ∧ Ext w w' := by
  have hR0 : RdS wdW w.heap.size 0 (w.alloc (.cells (sv wdW).toArray 9)) := by
    refine ⟨by simp, fun i hi => ?_⟩
    rw [Nat.zero_add, World.cell?_alloc_new]
    simp [sv, hi]
  go_enter Tryz.func53, Tryz.ntmps53
  go_wp2_with fail
  go_ret
  exact ⟨⟨_, rfl, hR0⟩, (Ext.refl w).alloc _⟩
end Go.Proofs.YtgndogpgfgliaaaGreatDoor
/- Recurrence rules: the reference's list of words, and texts of numbers. -/
namespace Go.Proofs.YtgndogpgfgliaaaGreatDoor
set_option linter.unusedVariables false
set_option linter.unnecessarySimpa false
set_option linter.unusedSimpArgs false
open Go.RowKit

theorem pceW_len (n i : Nat) (x : List UInt8) (h : x.length ≤ 30) : (pceW n i x).length ≤ 40 := by
  unfold pceW sCom
  simp only [List.length_append]
  split <;> split <;> split <;> simp <;> omega
theorem accW_len (l : List (List UInt8)) (h : ∀ x ∈ l, x.length ≤ 30) : ∀ k, k ≤ l.length → (accW l k).length ≤ 40 * k
  | 0, _ => by rw [accW_0]; simp
  | k + 1, hk => by
    have ih := accW_len l h k (by omega)
    have hl : k < l.length := by omega
    rw [accW_succ, List.length_append]
    have hg : l.getD k [] = l[k] := by simp [hl]
    have := pceW_len l.length k (l.getD k []) (by rw [hg]; exact h _ (List.getElem_mem hl))
    omega
set_option maxRecDepth 100000 in
set_option maxHeartbeats 4000000 in
theorem rlist_c (ws : List (List UInt8)) (H off c : Nat) (X : List UInt8) (w : World) (hR : RdS ws H off w) (hc : ws.length ≤ c) (hn : ws.length ≤ 100) (hl : ∀ x ∈ ws, x.length ≤ 30) (hX : wordsT ws = X) :
    Calls Tryz.prog 51 #[.slice (some ⟨H, off, none⟩) ws.length c] w fun e w' => e = .returned (.string ⟨X.toArray⟩) ∧ w = w' := by
  have HEnd : Hid (accW ws ws.length = X) := by rw [Hid, accW_words, hX]
  have HL := Lib.hid hl
  have HA := Lib.hid (accW_len ws hl)
  have HS := Lib.hid (fun k => accW_succ ws k)
  have HR := Lib.hid hR
  clear hl hX hR
  go_enter Tryz.func51, Tryz.ntmps51
  go_wp2_with fail
  go_loopw [3, 4] (fun s i wr => ∃ j : Nat, j ≤ ws.length ∧ s = .string ⟨(accW ws j).toArray⟩ ∧ i = .int .i64 (j : Int) ∧ w = wr) (fun _ i _ => ws.length - (intOf i).toNat)
  case atStart => exact ⟨0, Nat.zero_le _, rfl, rfl, rfl⟩
  case round =>
    obtain ⟨j, hj, rfl, rfl, rfl⟩ := hrel
    by_cases hlt : j < ws.length
    · have hRz := HR.out.1
      have x0 := HR.out.2 j hlt
      have hS := HS.out j
      have hg : ws.getD j [] = ws[j] := by simp [hlt]
      rw [hg] at hS
      have hxl := HL.out _ (List.getElem_mem hlt)
      have hAl := HA.out j hj
      obtain ⟨x, hx⟩ : ∃ x, x = ws[j] := ⟨_, rfl⟩
      rw [← hx] at x0 hS hxl
      obtain ⟨S, hSe⟩ : ∃ S, S = accW ws j := ⟨_, rfl⟩
      rw [← hSe] at hS hAl ⊢
      obtain ⟨n, hne⟩ : ∃ n, n = ws.length := ⟨_, rfl⟩
      rw [← hne] at hS hlt hj hn hc ⊢
      have HS2 := Lib.hid hS
      have Hne := Lib.hid hne
      have hSl : S.length ≤ 4000 := by omega
      clear hx hSe hg hS hne hAl
      by_cases h0 : j = 0
      · have q1 : ¬ 0 < j := by omega
        have u0 : decide ((0 : Int) < (j : Int)) = false := decide_eq_false (by omega)
        have v0 : decide (0 < j) = false := decide_eq_false (by omega)
        have hcx : (⟨S.toArray⟩ : ByteArray) ++ ⟨x.toArray⟩ = ⟨(S ++ x).toArray⟩ := catb _ _
        have HV : Hid (accW ws (j + 1) = S ++ x) := by rw [Hid, HS2.out]; unfold pceW; simp [q1, ← Hne.out]
        clear  HS2 h0
        go_wp2_with fail
        go_roundw
        case rel => exact ⟨j + 1, hlt, by rw [HV.out], by go_num, by first | rfl | trivial⟩
        case measure => simp [intOf]; omega
      · have q1 : 0 < j := by omega
        by_cases h3 : 2 < n
        · have q2 : n ≠ 2 := by omega
          by_cases hla : j + 1 = n
          · have u0 : decide ((0 : Int) < (j : Int)) = true := decide_eq_true (by omega)
            have v0 : decide (0 < j) = true := decide_eq_true (by omega)
            have u1 : decide ((2 : Int) < (n : Int)) = true := decide_eq_true (by omega)
            have v1 : decide (2 < n) = true := decide_eq_true (by omega)
            have u2 : ((n : Int) == 2) = false := by rw [beq_eq_false_iff_ne]; omega
            have u3 : ((j : Int) == (n : Int) - 1) = true := by rw [beq_iff_eq]; omega
            obtain ⟨S1, hS1⟩ : ∃ s, s = S ++ [44, 32] := ⟨_, rfl⟩
            have hc1 : (⟨S.toArray⟩ : ByteArray) ++ ⟨#[44, 32]⟩ = ⟨S1.toArray⟩ := by rw [hS1]; exact catb _ _
            have hl1 : S1.length ≤ 4010 := by rw [hS1, List.length_append]; simp; omega
            obtain ⟨S2, hS2⟩ : ∃ s, s = S1 ++ [97, 110, 100, 32] := ⟨_, rfl⟩
            have hc2 : (⟨S1.toArray⟩ : ByteArray) ++ ⟨#[97, 110, 100, 32]⟩ = ⟨S2.toArray⟩ := by rw [hS2]; exact catb _ _
            have hl2 : S2.length ≤ 4020 := by rw [hS2, List.length_append]; simp; omega
            have hcx : (⟨S2.toArray⟩ : ByteArray) ++ ⟨x.toArray⟩ = ⟨(S2 ++ x).toArray⟩ := catb _ _
            have HV : Hid (accW ws (j + 1) = S2 ++ x) := by rw [Hid, HS2.out]; unfold pceW; simp [q1, h3, q2, hla, sCom, ← Hne.out, hS1, hS2]
            clear hS1 hS2 HS2 
            go_wp2_with fail
            go_roundw
            case rel => exact ⟨j + 1, hlt, by rw [HV.out], by go_num, by first | rfl | trivial⟩
            case measure => simp [intOf]; omega
          · have u0 : decide ((0 : Int) < (j : Int)) = true := decide_eq_true (by omega)
            have v0 : decide (0 < j) = true := decide_eq_true (by omega)
            have u1 : decide ((2 : Int) < (n : Int)) = true := decide_eq_true (by omega)
            have v1 : decide (2 < n) = true := decide_eq_true (by omega)
            have u2 : ((n : Int) == 2) = false := by rw [beq_eq_false_iff_ne]; omega
            have u3 : ((j : Int) == (n : Int) - 1) = false := by rw [beq_eq_false_iff_ne]; omega
            obtain ⟨S1, hS1⟩ : ∃ s, s = S ++ [44, 32] := ⟨_, rfl⟩
            have hc1 : (⟨S.toArray⟩ : ByteArray) ++ ⟨#[44, 32]⟩ = ⟨S1.toArray⟩ := by rw [hS1]; exact catb _ _
            have hl1 : S1.length ≤ 4010 := by rw [hS1, List.length_append]; simp; omega
            have hcx : (⟨S1.toArray⟩ : ByteArray) ++ ⟨x.toArray⟩ = ⟨(S1 ++ x).toArray⟩ := catb _ _
            have HV : Hid (accW ws (j + 1) = S1 ++ x) := by rw [Hid, HS2.out]; unfold pceW; simp [q1, h3, q2, hla, sCom, ← Hne.out, hS1]
            clear hS1 HS2 
            go_wp2_with fail
            go_roundw
            case rel => exact ⟨j + 1, hlt, by rw [HV.out], by go_num, by first | rfl | trivial⟩
            case measure => simp [intOf]; omega
        · have q2 : n = 2 := by omega
          have hla : j + 1 = n := by omega
          have u0 : decide ((0 : Int) < (j : Int)) = true := decide_eq_true (by omega)
          have v0 : decide (0 < j) = true := decide_eq_true (by omega)
          have u1 : decide ((2 : Int) < (n : Int)) = false := decide_eq_false (by omega)
          have v1 : decide (2 < n) = false := decide_eq_false (by omega)
          have u2 : ((n : Int) == 2) = true := by rw [beq_iff_eq]; omega
          have u3 : ((j : Int) == (n : Int) - 1) = true := by rw [beq_iff_eq]; omega
          obtain ⟨S1, hS1⟩ : ∃ s, s = S ++ [32] := ⟨_, rfl⟩
          have hc1 : (⟨S.toArray⟩ : ByteArray) ++ ⟨#[32]⟩ = ⟨S1.toArray⟩ := by rw [hS1]; exact catb _ _
          have hl1 : S1.length ≤ 4010 := by rw [hS1, List.length_append]; simp; omega
          obtain ⟨S2, hS2⟩ : ∃ s, s = S1 ++ [97, 110, 100, 32] := ⟨_, rfl⟩
          have hc2 : (⟨S1.toArray⟩ : ByteArray) ++ ⟨#[97, 110, 100, 32]⟩ = ⟨S2.toArray⟩ := by rw [hS2]; exact catb _ _
          have hl2 : S2.length ≤ 4020 := by rw [hS2, List.length_append]; simp; omega
          have hcx : (⟨S2.toArray⟩ : ByteArray) ++ ⟨x.toArray⟩ = ⟨(S2 ++ x).toArray⟩ := catb _ _
          have HV : Hid (accW ws (j + 1) = S2 ++ x) := by rw [Hid, HS2.out]; unfold pceW; simp [q1, h3, q2, hla, sCom, ← Hne.out, hS1, hS2]
          clear hS1 hS2 HS2 
          go_wp2_with fail
          go_roundw
          case rel => exact ⟨j + 1, hlt, by rw [HV.out], by go_num, by first | rfl | trivial⟩
          case measure => simp [intOf]; omega
    · obtain rfl : j = ws.length := by omega
      have he := HEnd.out
      rw [he]
      go_wp2_with fail
      go_ret
      exact ⟨rfl, by first | rfl | trivial⟩
set_option maxRecDepth 100000 in
set_option maxHeartbeats 4000000 in
theorem rtexts_c (l : List Int) (ao : Option Addr) (cap : Nat) (w : World) (hV : IsV ao cap l w) (hn : l.length ≤ 1000) (hi : ∀ x ∈ l, -999999999 ≤ x ∧ x ≤ 999999999) :
    Calls Tryz.prog 52 #[.slice ao l.length cap] w fun e w' => ∃ a2 c2, e = .returned (.slice a2 l.length c2) ∧ w'.ownsRow w.heap.size 9 1 (.slice a2 l.length c2) l.length (sv (l.map decZ)) ∧ Ext w w' := by
  have hlen := hV.1
  have hcap := hV.2.1
  unfold maxLen at hcap
  have HL := Lib.hid hV.2.2
  obtain ⟨i0, hi0, hz0, hz1, hz2⟩ := info_parts infoStr
  have Hi := Lib.hid hi0
  have Hz0 := Lib.hid hz0
  have Hz1 := Lib.hid hz1
  have Hz2 := Lib.hid hz2
  have HI := Lib.hid hi
  clear hi0 hz0 hz1 hz2 hV hi
  go_enter Tryz.func52, Tryz.ntmps52
  go_wp2_with fail
  go_loopw [3, 4] (fun o i wr => ∃ (j : Nat) (a2 : Option Addr) (c2 : Nat), j ≤ l.length ∧ i = .int .i64 (j : Int) ∧ o = .slice a2 j c2 ∧ wr.ownsRow w.heap.size 9 1 (.slice a2 j c2) j (sv ((l.take j).map decZ)) ∧ Ext w wr) (fun _ i _ => l.length - (intOf i).toNat)
  case atStart => exact ⟨0, none, 0, Nat.zero_le _, rfl, rfl, World.ownsRow_nil _ _ _ _, Ext.refl _⟩
  case round =>
    obtain ⟨j, a2, c2, hj, rfl, rfl, hown, hE⟩ := hrel
    by_cases hlt : j < l.length
    · obtain ⟨R, off, rfl, hR⟩ := HL.out (by rintro rfl; simp at hlt)
      have hRr := hR.ext hE
      have hRz := hRr.1
      have x0 := hRr.2 j hlt
      have hx5 := HI.out _ (List.getElem_mem hlt)
      have Htk : Hid ((l.take (j + 1)).map decZ = (l.take j).map decZ ++ [decZ l[j]]) := by rw [Hid, List.take_succ_eq_append_getElem hlt, List.map_append]; rfl
      obtain ⟨x, hx⟩ : ∃ x, x = l[j] := ⟨_, rfl⟩
      rw [← hx] at x0 hx5 Htk
      obtain ⟨Y, hY⟩ : ∃ Y, Y = decZ x := ⟨_, rfl⟩
      have HD := Lib.hid (fun W => rdec_c x Y W (by omega) (by omega) hY.symm)
      rw [← hY] at Htk
      have Hown := Lib.hid hown
      have HE := Lib.hid hE
      clear hx hY hR hRr hown hE
      go_wp2_with (first
        | (go_at_call 37; (with_reducible refine (HD.out _).mono ?_); rintro e w2 ⟨rfl, hE2⟩; have hown2 := own_ext Hown.out hE2; have hX2 := HE.out.trans hE2; have hs2 := hX2.size)
        | (at_builtin; refine wpList_append_own _ rfl _ _ 55 rfl w.heap.size 9 i0 (.string .empty) 1 16 Tryz.underlying55 Hi.out Hz0.out Hz1.out Hz2.out rfl (by decide) _ _ _ rfl (hown2.alloc _) ⟨w2.heap.size, 0, none⟩ 1 1 [.string ⟨Y.toArray⟩] rfl rfl (cell_one_new _ _ _) (fun x hx => by simp at hx; subst hx; rfl) (by unfold maxLen; omega) (by omega) (by simp; omega) ?_; intro v' w3 hown' hgrow3 hnil3))
      have hExt := ext_grown (v := .slice a2 j c2) (hX2.alloc _) (hown2.alloc _) hgrow3
      obtain ⟨a3, c3, rfl⟩ := own_slice hown'
      go_roundw
      case rel => exact ⟨j + 1, a3, c3, hlt, by go_num, rfl, by rw [Htk.out, sv_app]; exact hown', hExt⟩
      case measure => simp [intOf]; omega
    · obtain rfl : j = l.length := by omega
      rw [List.take_length] at hown
      have Hown := Lib.hid hown
      clear hown
      go_wp2_with fail
      go_ret
      exact ⟨_, _, rfl, Hown.out, hE⟩
end Go.Proofs.YtgndogpgfgliaaaGreatDoor
/- Recurrence rules: the text of a rule, part by part (plainly); words of a list that a call has made. -/
namespace Go.Proofs.YtgndogpgfgliaaaGreatDoor
set_option linter.unusedVariables false
set_option linter.unnecessarySimpa false
set_option linter.unusedSimpArgs false
open Go.RowKit

noncomputable def preT (R : RecD) (k : Nat) : List UInt8 := Lib.join (((List.range k).filter fun k => decide (wrtZ momT k R ≠ [])).map (ptxZ momT R)) [59]
theorem preT_14 (R : RecD) : preT R 14 = txtZ momT R := rfl
theorem preT_no {R : RecD} {k : Nat} (h : wrtZ momT k R = []) : preT R (k + 1) = preT R k := by
  unfold preT
  rw [List.range_succ, List.filter_append]
  simp [h]
theorem preT_yes {R : RecD} {k : Nat} (h0 : wrtZ momT 0 R ≠ []) (h : wrtZ momT k R ≠ []) (hk : 1 ≤ k) : preT R (k + 1) = preT R k ++ (59 :: ptxZ momT R k) := by
  unfold preT
  rw [List.range_succ, List.filter_append, List.map_append]
  have e : ([k].filter fun k => decide (wrtZ momT k R ≠ [])).map (ptxZ momT R) = [ptxZ momT R k] := by simp [h]
  rw [e, join_snoc30, if_neg]
  · rfl
  · intro q
    rw [List.map_eq_nil_iff, List.filter_eq_nil_iff] at q
    exact q 0 (by simp; omega) (by simpa using h0)
theorem preT_1 {R : RecD} (h0 : wrtZ momT 0 R ≠ []) : preT R 1 = ptxZ momT R 0 := by
  unfold preT
  simp [List.range_succ, h0, Lib.join_one]
theorem preT_le {R : RecD} (h0 : wrtZ momT 0 R ≠ []) {k : Nat} (hk : 1 ≤ k) : (preT R k).length ≤ (preT R (k + 1)).length := by
  by_cases h : wrtZ momT k R = []
  · rw [preT_no h]; exact Nat.le_refl _
  · rw [preT_yes h0 h hk, List.length_append]; omega
theorem preT_len {R : RecD} (hv : vldR R = true) (h0 : wrtZ momT 0 R ≠ []) : ∀ d k, 1 ≤ k → k + d = 14 → (preT R k).length ≤ 3100
  | 0, k, _, h => by
    obtain rfl : k = 14 := by omega
    rw [preT_14]
    exact txt_len mom_ok hv
  | d + 1, k, hk, h => Nat.le_trans (preT_le h0 hk) (preT_len hv h0 d (k + 1) (by omega) (by omega))
theorem wrt0_ne {R : RecD} (hv : vldR R = true) : wrtZ momT 0 R ≠ [] := by
  obtain ⟨h1, -⟩ := vld_parts30 hv
  unfold numbV at h1
  obtain ⟨a, b, -⟩ := of_decide_eq_true h1
  show (if R.fr = 0 then [] else frW.getD (R.fr - 1).toNat []) ≠ []
  rw [if_neg (by omega)]
  exact (fr_at _ (by omega)).2.2
/-- Words in a slice that a call has made; the address of one of them. -/
def SlS (L : List (List UInt8)) (n : Nat) (x : Value) (w : World) : Prop := ∃ H, x = .slice (some ⟨H, 0, none⟩) n n ∧ RdS L H 0 w
theorem SlS.ext {L : List (List UInt8)} {n : Nat} {x : Value} {w w' : World} (h : SlS L n x w) (hE : Ext w w') : SlS L n x w' := by
  obtain ⟨H, h1, h2⟩ := h
  exact ⟨H, h1, h2.ext hE⟩
def PtS (L : List (List UInt8)) (m : Nat) (x : Value) (w : World) : Prop := ∃ H, x = .pointer (some ⟨H, m, none⟩) ∧ RdS L H 0 w
theorem PtS.ext {L : List (List UInt8)} {m : Nat} {x : Value} {w w' : World} (h : PtS L m x w) (hE : Ext w w') : PtS L m x w' := by
  obtain ⟨H, h1, h2⟩ := h
  exact ⟨H, h1, h2.ext hE⟩
theorem rdS_get {L : List (List UInt8)} {H m : Nat} {F : List UInt8} {w : World} (h : RdS L H 0 w) (hm : m < L.length) (hF : L.getD m [] = F) : w.cell? ⟨H, m, none⟩ = some (.string ⟨F.toArray⟩) := by
  have := h.2 m hm
  rw [Nat.zero_add] at this
  rw [this, ← hF]
  simp [List.getD, hm]
theorem yr_sub30 {o : Oper} {a : Act} {w : World} {x y : Operand} {t2 : TypeId} {A B C : Int} (hop : o.op = .binOp .sub 3 x y t2) (hx : a.eval x = .int .i64 A) (hy : a.eval y = .int .i64 B) (hb : IntKind.i64.wrap (A - B) = C) : (execOp a.eval o).run Tryz.prog w = .ok (.value (.int .i64 C)) w := by
  unfold execOp
  simp only [hop, hx, hy]
  simp [Result.andThen, go_sem, hb]
theorem yr_add31 {o : Oper} {a : Act} {w : World} {x y : Operand} {t2 : TypeId} {A B C : Int} (hop : o.op = .binOp .add 3 x y t2) (hx : a.eval x = .int .i64 A) (hy : a.eval y = .int .i64 B) (hb : IntKind.i64.wrap (A + B) = C) : (execOp a.eval o).run Tryz.prog w = .ok (.value (.int .i64 C)) w := by
  unfold execOp
  simp only [hop, hx, hy]
  simp [Result.andThen, go_sem, hb]
end Go.Proofs.YtgndogpgfgliaaaGreatDoor
