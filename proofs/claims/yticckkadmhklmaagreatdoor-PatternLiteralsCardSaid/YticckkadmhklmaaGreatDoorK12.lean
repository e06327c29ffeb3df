/- The walk of integer.Text: a decimal text with at least so many digits. -/
import Derived.Test.YticckkadmhklmaaGreatDoorK01
import Derived.Test.YticckkadmhklmaaGreatDoorK00
import Derived.Test.YticckkadmhklmaaGreatDoorK04
import Derived.Test.YticckkadmhklmaaGreatDoorK02
import Derived.Laws.BytesString
import Derived.Laws.IdiomStrings
namespace Go.Proofs.YticckkadmhklmaaGreatDoor
open Go.RowKit

def itxI (n : Int) (k : Nat) : List UInt8 := if n < 0 then 45 :: itx n.natAbs k else itx n.natAbs k

set_option maxHeartbeats 400000 in
theorem size_nn (n : Int) (w : World) (h : 0 ≤ n) (h2 : n ≤ 9223372036854775807) : Calls Tryz.prog 89 #[.int .i64 n] w fun e w' => e = .returned (.int .u64 n) ∧ w = w' := by
  go_enter Tryz.func89, Tryz.ntmps89
  go_wp2
  go_ret
  exact ⟨ret_i (by first | rfl | (simp [IntKind.wrap]; omega)), rfl⟩
set_option maxHeartbeats 400000 in
theorem size_neg (n : Int) (w : World) (h : n < 0) (h2 : -9223372036854775808 ≤ n) : Calls Tryz.prog 89 #[.int .i64 n] w fun e w' => e = .returned (.int .u64 (-n)) ∧ w = w' := by
  go_enter Tryz.func89, Tryz.ntmps89
  go_wp2
  go_ret
  exact ⟨ret_i (by simp only [IntKind.wrap]; simp [IntKind.bits, IntKind.signed]; omega), rfl⟩

set_option maxRecDepth 100000 in
set_option maxHeartbeats 1000000 in
theorem text_nn (N K : Nat) (w : World) (hn2 : (N : Int) ≤ 9223372036854775807) (hk : K ≤ 20) :
    Calls Tryz.prog 63 #[.int .i64 (N : Int), .int .i64 (K : Int)] w fun e w' => e = .returned (.string ⟨(itx N K).toArray⟩) ∧ Ext w w' := by
  have d3 : decide ((N : Int) < 0) = false := by simp
  have hM : Lib.nDigits N ≤ 20 := nDigits_20 N (by omega)
  have hM1 := Lib.nDigits_pos N
  have d1 : decide ((K : Int) < 0) = false := by simp
  have d2 : decide ((20 : Int) < (K : Int)) = false := by simp; omega
  obtain ⟨M, hM⟩ : ∃ M, M = max (Lib.nDigits N) K := ⟨_, rfl⟩
  have HM := Lib.hid hM
  have hMb : M ≤ 20 := by omega
  have hMb1 : 1 ≤ M := by omega
  clear hM
  go_enter Tryz.func63, Tryz.ntmps63
  go_wp2_with (go_at_call 89; refine (size_nn _ _ (by omega) (by omega)).mono ?_; rintro e w1 ⟨rfl, rfl⟩)
  go_loopw [6, 7] (fun at_ m wr => ∃ j q : Nat, j ≤ M ∧ at_ = .int .i64 (24 - (j : Int)) ∧ m = .int .u64 (q : Int) ∧ Hid (q = N / 10 ^ j) ∧ wr = w.alloc (.cells (txC N j) 133)) (fun at_ _ _ => (intOf at_).toNat)
  case atStart => exact ⟨0, N, by omega, rfl, rfl, by simp [Hid], by rw [txC_zero]⟩
  case round =>
    obtain ⟨j, q, hj, rfl, rfl, Hq, rfl⟩ := hrel
    have hq : q ≤ N := by rw [Hq.out]; exact Nat.div_le_self _ _
    by_cases hlt : j < M
    · obtain ⟨x0, hx0⟩ := txC_get N j (24 - j - 1) (by omega) (by omega)
      have hq2 : q ≠ 0 ∨ j < max K 1 := by
        by_cases q0 : q = 0
        · right
          have h1 := HM.out
          by_cases hN0 : N = 0
          · subst hN0
            rw [Lib.nDigits_small (by decide)] at h1
            omega
          · have := div_zero_of (n := N) (j := j) (by omega) (by rw [← Hq.out]; exact q0)
            omega
        · exact .inl q0
      by_cases hq0 : q = 0
      · have t1 : ((q : Int) != 0) = false := by simp [hq0]
        have t2 : (j : Int) < max (K : Int) 1 := by omega
        have Hq0 := Lib.hid hq0
        clear hq0 hq2
        go_wp2
        go_roundw
        case rel => exact ⟨j + 1, q / 10, by omega, by congr 1; omega, by congr 1, div_pow_succ N j q Hq.out, by rw [txC_step' N j q (by omega) Hq.out]⟩
        case measure => simp [intOf]; omega
      · have t1 : ((q : Int) != 0) = true := by simp; omega
        clear hq2
        go_wp2
        go_roundw
        case rel => exact ⟨j + 1, q / 10, by omega, by congr 1; omega, by congr 1, div_pow_succ N j q Hq.out, by rw [txC_step' N j q (by omega) Hq.out]⟩
        case measure => simp [intOf]; omega
    · obtain rfl : j = M := by omega
      have hq0 : q = 0 := by rw [Hq.out]; have := HM.out; exact Nat.div_eq_of_lt (Nat.lt_of_lt_of_le (Lib.lt_pow_nDigits N) (Nat.pow_le_pow_right (by decide) (by omega)))
      have t1 : ((q : Int) != 0) = false := by simp [hq0]
      have t2 : ¬ (24 - (24 - (j : Int)) < if (K : Int) < 1 then 1 else (K : Int)) := by have := HM.out; split <;> omega
      clear hq0
      have hcv : ∀ cap, (convert 105 9 (.slice (some ⟨w.heap.size, 24 - j, none⟩) j cap)).run Tryz.prog (w.alloc (.cells (txC N j) 133)) = .ok (.string ⟨(padN j N).toArray⟩) (w.alloc (.cells (txC N j) 133)) := by
        intro cap
        have h := run_convert_bytes_back (P := Tryz.prog) (w.alloc (.cells (txC N j) 133)) 105 9 5 ⟨w.heap.size, 24 - j, none⟩ cap (padN j N) Tryz.underlying105 Tryz.underlying5 Tryz.underlying9 (by
          intro i hi
          rw [show (⟨w.heap.size, 24 - j, none⟩ : Addr).add i = ⟨w.heap.size, 24 - j + i, none⟩ from by unfold Addr.add; split <;> simp_all]
          rw [World.cell?_alloc_new]
          exact txC_at N j i (by omega) _ (List.getElem?_eq_getElem hi))
        rw [padN_length] at h
        exact h
      have hsl : ∀ W : World, (Instr.sliceAt 133 (.pointer (some ⟨w.heap.size, 0, none⟩)) (some (.int .i64 (24 - (j : Int)))) none none).run Tryz.prog W = .ok (.slice (some ⟨w.heap.size, 24 - j, none⟩) j j) W := by
        intro W
        rw [run_sliceAt_array_l (P := Tryz.prog) W 133 ⟨w.heap.size, 0, none⟩ (by kernel_rfl) .i64 (24 - (j : Int)) (by omega) (by show 24 - (j : Int) ≤ 24; omega)]
        have e1 : (sizeOf (Tryz.prog.elem 133)).run Tryz.prog W = .ok 1 W := by kernel_rfl
        rw [e1]
        show Result.ok (slicedAt _ _ 24 24 1) W = _
        unfold slicedAt
        have e2 : (24 - (j : Int)).toNat = 24 - j := by omega
        rw [e2, if_neg (by omega)]
        congr 2
        · unfold Addr.add; split <;> simp <;> omega
        · omega
        · omega
      go_wp2
      all_goals
        go_ret
        exact ⟨ret_s (by rw [itx, ← HM.out]), (Ext.refl w).alloc _⟩

theorem txC_neg (n j : Nat) (h : j < 24) : ((txC n j).setIfInBounds (24 - j - 1) (.int .u8 45)) = (List.replicate (24 - (j + 1)) (Value.int .u8 0) ++ ((45 :: padN j n).map fun c => Value.int .u8 c.toNat)).toArray := by
  unfold txC
  rw [List.setIfInBounds_toArray]
  congr 1
  rw [show 24 - j = (24 - (j + 1)) + 1 from by omega, List.replicate_succ', List.append_assoc, List.set_append_right _ _ (by simp <;> omega)]
  have e : 24 - (j + 1) + 1 - 1 - (List.replicate (24 - (j + 1)) (Value.int .u8 0)).length = 0 := by simp
  rw [e]
  simp
theorem txC_neg_at (n j i : Nat) (hj : j < 24) (c : UInt8) (h : (45 :: padN j n)[i]? = some c) : ((txC n j).setIfInBounds (24 - j - 1) (.int .u8 45))[24 - j - 1 + i]? = some (.int .u8 c.toNat) := by
  rw [txC_neg n j hj]
  simp only [List.getElem?_toArray]
  rw [List.getElem?_append_right (by simp; omega)]
  simp only [List.length_replicate, List.getElem?_map]
  rw [show 24 - j - 1 + i - (24 - (j + 1)) = i from by omega, h]
  rfl

set_option maxRecDepth 100000 in
set_option maxHeartbeats 1000000 in
theorem text_neg (N K : Nat) (w : World) (hn1 : 0 < N) (hn2 : (N : Int) ≤ 9223372036854775808) (hk : K ≤ 20) :
    Calls Tryz.prog 63 #[.int .i64 (-(N : Int)), .int .i64 (K : Int)] w fun e w' => e = .returned (.string ⟨(45 :: itx N K).toArray⟩) ∧ Ext w w' := by
  have d3 : decide (-(N : Int) < 0) = true := by simp; omega
  have d4 : -(N : Int) < 0 := by omega
  have d5 : - -(N : Int) = N := by omega
  have hM : Lib.nDigits N ≤ 20 := nDigits_20 N (by omega)
  have hM1 := Lib.nDigits_pos N
  have d1 : decide ((K : Int) < 0) = false := by simp
  have d2 : decide ((20 : Int) < (K : Int)) = false := by simp; omega
  obtain ⟨M, hM⟩ : ∃ M, M = max (Lib.nDigits N) K := ⟨_, rfl⟩
  have HM := Lib.hid hM
  have hMb : M ≤ 20 := by omega
  have hMb1 : 1 ≤ M := by omega
  clear hM
  go_enter Tryz.func63, Tryz.ntmps63
  go_wp2_with (go_at_call 89; refine (size_neg _ _ (by omega) (by omega)).mono ?_; rintro e w1 ⟨rfl, rfl⟩)
  go_loopw [6, 7] (fun at_ m wr => ∃ j q : Nat, j ≤ M ∧ at_ = .int .i64 (24 - (j : Int)) ∧ m = .int .u64 (q : Int) ∧ Hid (q = N / 10 ^ j) ∧ wr = w.alloc (.cells (txC N j) 133)) (fun at_ _ _ => (intOf at_).toNat)
  case atStart => exact ⟨0, N, by omega, rfl, rfl, by simp [Hid], by rw [txC_zero]⟩
  case round =>
    obtain ⟨j, q, hj, rfl, rfl, Hq, rfl⟩ := hrel
    have hq : q ≤ N := by rw [Hq.out]; exact Nat.div_le_self _ _
    by_cases hlt : j < M
    · obtain ⟨x0, hx0⟩ := txC_get N j (24 - j - 1) (by omega) (by omega)
      have hq2 : q ≠ 0 ∨ j < max K 1 := by
        by_cases q0 : q = 0
        · right
          have h1 := HM.out
          by_cases hN0 : N = 0
          · subst hN0
            rw [Lib.nDigits_small (by decide)] at h1
            omega
          · have := div_zero_of (n := N) (j := j) (by omega) (by rw [← Hq.out]; exact q0)
            omega
        · exact .inl q0
      by_cases hq0 : q = 0
      · have t1 : ((q : Int) != 0) = false := by simp [hq0]
        have t2 : (j : Int) < max (K : Int) 1 := by omega
        have Hq0 := Lib.hid hq0
        clear hq0 hq2
        go_wp2
        go_roundw
        case rel => exact ⟨j + 1, q / 10, by omega, by congr 1; omega, by congr 1, div_pow_succ N j q Hq.out, by rw [txC_step' N j q (by omega) Hq.out]⟩
        case measure => simp [intOf]; omega
      · have t1 : ((q : Int) != 0) = true := by simp; omega
        clear hq2
        go_wp2
        go_roundw
        case rel => exact ⟨j + 1, q / 10, by omega, by congr 1; omega, by congr 1, div_pow_succ N j q Hq.out, by rw [txC_step' N j q (by omega) Hq.out]⟩
        case measure => simp [intOf]; omega
    · obtain rfl : j = M := by omega
      have hq0 : q = 0 := by rw [Hq.out]; have := HM.out; exact Nat.div_eq_of_lt (Nat.lt_of_lt_of_le (Lib.lt_pow_nDigits N) (Nat.pow_le_pow_right (by decide) (by omega)))
      have t1 : ((q : Int) != 0) = false := by simp [hq0]
      have t2 : ¬ (24 - (24 - (j : Int)) < if (K : Int) < 1 then 1 else (K : Int)) := by have := HM.out; split <;> omega
      clear hq0
      obtain ⟨x0, hx0⟩ := txC_get N j (24 - j - 1) (by omega) (by omega)
      have hcv : ∀ cap, (convert 105 9 (.slice (some ⟨w.heap.size, 24 - j - 1, none⟩) (j + 1) cap)).run Tryz.prog (w.alloc (.cells ((txC N j).setIfInBounds (24 - j - 1) (.int .u8 45)) 133)) = .ok (.string ⟨(45 :: padN j N).toArray⟩) (w.alloc (.cells ((txC N j).setIfInBounds (24 - j - 1) (.int .u8 45)) 133)) := by
        intro cap
        have h := run_convert_bytes_back (P := Tryz.prog) (w.alloc (.cells ((txC N j).setIfInBounds (24 - j - 1) (.int .u8 45)) 133)) 105 9 5 ⟨w.heap.size, 24 - j - 1, none⟩ cap (45 :: padN j N) Tryz.underlying105 Tryz.underlying5 Tryz.underlying9 (by
          intro i hi
          rw [show (⟨w.heap.size, 24 - j - 1, none⟩ : Addr).add i = ⟨w.heap.size, 24 - j - 1 + i, none⟩ from by unfold Addr.add; split <;> simp_all]
          rw [World.cell?_alloc_new]
          exact txC_neg_at N j i (by omega) _ (List.getElem?_eq_getElem hi))
        rw [List.length_cons, padN_length] at h
        exact h
      have hsl : ∀ W : World, (Instr.sliceAt 133 (.pointer (some ⟨w.heap.size, 0, none⟩)) (some (.int .i64 (24 - (j : Int) - 1))) none none).run Tryz.prog W = .ok (.slice (some ⟨w.heap.size, 24 - j - 1, none⟩) (j + 1) (j + 1)) W := by
        intro W
        rw [run_sliceAt_array_l (P := Tryz.prog) W 133 ⟨w.heap.size, 0, none⟩ (by kernel_rfl) .i64 (24 - (j : Int) - 1) (by omega) (by show 24 - (j : Int) - 1 ≤ 24; omega)]
        have e1 : (sizeOf (Tryz.prog.elem 133)).run Tryz.prog W = .ok 1 W := by kernel_rfl
        rw [e1]
        show Result.ok (slicedAt _ _ 24 24 1) W = _
        unfold slicedAt
        have e2 : (24 - (j : Int) - 1).toNat = 24 - j - 1 := by omega
        rw [e2, if_neg (by omega)]
        congr 2
        · unfold Addr.add; split <;> simp <;> omega
        · omega
        · omega
      go_wp2
      all_goals
        go_ret
        exact ⟨ret_s (by rw [itx, ← HM.out]), (Ext.refl w).alloc _⟩

theorem text_c (n k : Int) (w : World) (h1 : -9223372036854775808 ≤ n) (h2 : n ≤ 9223372036854775807) (k1 : 0 ≤ k) (k2 : k ≤ 20) :
    Calls Tryz.prog 63 #[.int .i64 n, .int .i64 k] w fun e w' => e = .returned (.string ⟨(itxI n k.toNat).toArray⟩) ∧ Ext w w' := by
  obtain ⟨K, rfl⟩ := Int.eq_ofNat_of_zero_le k1
  unfold itxI
  by_cases h : n < 0
  · rw [if_pos h]
    have e : n = -((n.natAbs : Nat) : Int) := by omega
    have := text_neg n.natAbs K w (by omega) (by omega) (by omega)
    rw [← e] at this
    exact this
  · rw [if_neg h]
    have e : n = ((n.natAbs : Nat) : Int) := by omega
    have := text_nn n.natAbs K w (by omega) (by omega)
    rw [← e] at this
    exact this
end Go.Proofs.YticckkadmhklmaaGreatDoor
/- Patterns: the walks of typeName, name, offset, Weekday. -/
namespace Go.Proofs.YticckkadmhklmaaGreatDoor
set_option linter.unusedVariables false
set_option linter.unusedSimpArgs false
open Go.RowKit

theorem weekday_c (n : Int) (w : World) (h : insB n = true) : Calls Tryz.prog 88 #[.int .i64 n] w fun e w' => e = .returned (.int .i64 (wdZ n)) ∧ Ext w w' := by
  obtain ⟨h1, h2⟩ := ins_iff.1 h
  have Hi : Hid (insB n = true) := h
  clear h
  go_enter Tryz.func88, Tryz.ntmps88
  go_wp2_with (first
    | (go_at_call 113; refine (inside_c _ _).mono ?_; rw [Hi.out]; rintro e w1 ⟨rfl, rfl⟩)
    | (go_at_call 114; refine (Mod_c _ _ _ (by omega) (by omega) (by omega) (by omega)).mono ?_; rintro e w1 ⟨rfl, nq, rfl⟩))
  go_ret
  exact ⟨rfl, (Ext.refl w).drewN _⟩
theorem typeName_c (s : List UInt8) (w : World) (hs : s.length ≤ 9223372036854775806) : Calls Tryz.prog 60 #[.string ⟨s.toArray⟩] w fun e w' => e = .returned (.bool (typB s)) ∧ w = w' := by
  by_cases h1 : 1 ≤ s.length
  · by_cases h2 : s.length ≤ 8
    · have HT : Hid (typB s = s.all tyC) := by unfold Hid typB; rw [decide_eq_true h1, decide_eq_true h2]; rfl
      go_enter Tryz.func60, Tryz.ntmps60
      go_wp2_with fail
      go_loop [14] (fun i => ∃ j : Nat, j ≤ s.length ∧ i = .int .i64 (j : Int) ∧ Hid ((s.take j).all tyC = true)) (fun i => s.length - (intOf i).toNat)
      case atStart => exact ⟨0, Nat.zero_le _, rfl, rfl⟩
      case round =>
        obtain ⟨j, hj, rfl, Hall⟩ := hrel
        by_cases hlt : j < s.length
        · have hb := bget s j hlt _ rfl
          have Hs := Lib.hid (all_succ s tyC j hlt)
          have hm : s[j] ∈ s := List.getElem_mem _
          obtain ⟨c, hc⟩ : ∃ c, c = s[j] := ⟨_, rfl⟩
          rw [← hc] at hb Hs hm
          clear hc
          rcases Bool.eq_false_or_eq_true (tyC c) with hp | hp
          · have Hp := Lib.hid hp
            have Hn : Hid ((s.take (j + 1)).all tyC = true) := by rw [Hid, Hs.out, Hall.out, hp]; rfl
            clear hp
            go_wp2_with (first
              | (go_at_call 85; (with_reducible refine (tyC_lit c true _ Hp.out).mono ?_); rintro e w1 ⟨rfl, rfl⟩))
            go_round
            case rel => exact ⟨j + 1, by omega, by go_num, Hn⟩
            case measure => simp [intOf]; omega
          · have Hp := Lib.hid hp
            have HN : Hid (typB s = false) := by
              rw [Hid, HT.out, ← Bool.not_eq_true]
              intro q
              rw [List.all_eq_true.1 q c hm] at hp
              cases hp
            clear hp
            go_wp2_with (first
              | (go_at_call 85; (with_reducible refine (tyC_lit c false _ Hp.out).mono ?_); rintro e w1 ⟨rfl, rfl⟩))
            go_ret
            exact ⟨by rw [HN.out]; rfl, rfl⟩
        · obtain rfl : j = s.length := by omega
          have HN : Hid (typB s = true) := by rw [Hid, HT.out]; have := Hall.out; rwa [List.take_length] at this
          go_wp2_with fail
          go_ret
          exact ⟨by rw [HN.out]; rfl, rfl⟩
    · have HN : Hid (typB s = false) := by unfold Hid typB; rw [decide_eq_false h2]; simp
      have d2 : (8 : Int) < (s.length : Int) := by omega
      clear h2
      go_enter Tryz.func60, Tryz.ntmps60
      go_wp2_with fail
      go_ret
      exact ⟨by rw [HN.out]; rfl, rfl⟩
  · have HN : Hid (typB s = false) := by unfold Hid typB; rw [decide_eq_false h1]; simp
    have d2 : (s.length : Int) < 1 := by omega
    clear h1
    go_enter Tryz.func60, Tryz.ntmps60
    go_wp2_with fail
    go_ret
    exact ⟨by rw [HN.out]; rfl, rfl⟩
end Go.Proofs.YticckkadmhklmaaGreatDoor
/- The walks of package clock and of its reference: moments out of range; the reference's moment; rounding. -/
namespace Go.Proofs.YticckkadmhklmaaGreatDoor
open Go.RowKit

def mom0 : Value := .agg #[.int .i64 0, .int .i64 0, .int .i64 0, .int .i64 0, .int .i64 0, .int .i64 0]
set_option maxHeartbeats 400000 in
theorem moment_no (t : Int) (w : World) (h : insT t = false) :
    Calls Tryz.prog 86 #[.int .i64 t] w fun e w' => e = .returned (.tuple #[mom0, .int .i64 2]) ∧ Ext w w' := by
  go_enter Tryz.func86, Tryz.ntmps86
  go_wp2_with (first
    | (go_at_call 87; refine (split_no _ _ h).mono ?_; rintro e w1 ⟨rfl, nq, rfl⟩))
  refine bodyPost_ret (v := .tuple #[mom0, .int .i64 2]) ?_ rfl ⟨rfl, ?_⟩
  · simp [results, Tryz.results86, go_sem, mom0]
  · (repeat (with_reducible (first | assumption | exact Ext.refl _ | refine Ext.alloc ?_ _ | refine Ext.setCell ?_ (by simp) _ | refine Ext.setCell ?_ (by simp; omega) _ | refine Ext.drewN ?_ _ | refine Ext.drew ?_)))

/-- The rounded number. -/
def rnd (n u k : Int) : Int := if n % u > 0 ∧ (k = 2 ∨ k = 3 ∧ 2 * (n % u) ≥ u) then n - n % u + u else n - n % u
def lineB (n : Int) : Bool := decide (-4398046511104 ≤ n ∧ n ≤ 4398046511104)
def argB (u k : Int) : Bool := decide (1 ≤ u ∧ u ≤ 4398046511104 ∧ 1 ≤ k ∧ k ≤ 3)
def rndE (n u k : Int) : Int := if argB u k = false then 1 else if lineB n = false ∨ lineB (rnd n u k) = false then 2 else 0
def rndV (n u k : Int) : Int := if rndE n u k = 0 then rnd n u k else 0
theorem mul_div_mod (n u : Int) : u * (n / u) = n - n % u := by
  have := Int.mul_ediv_add_emod n u
  omega
end Go.Proofs.YticckkadmhklmaaGreatDoor
/- Patterns: the walks of name, offset, value. -/
namespace Go.Proofs.YticckkadmhklmaaGreatDoor
set_option linter.unusedVariables false
set_option linter.unusedSimpArgs false
open Go.RowKit

theorem text_l (x k : Nat) (L : List UInt8) (w : World) (hx : x ≤ 1000000) (hk : k ≤ 20) (hL : itx x k = L) : Calls Tryz.prog 63 #[.int .i64 (x : Int), .int .i64 (k : Int)] w fun e w' => e = .returned (.string ⟨L.toArray⟩) ∧ Ext w w' := by
  have q := text_c (x : Int) (k : Int) w (by omega) (by omega) (by omega) (by omega)
  rw [itxI, if_neg (by omega), Int.natAbs_natCast, Int.toNat_natCast, hL] at q
  exact q
theorem text_2 (x : Nat) (L : List UInt8) (w : World) (hx : x ≤ 1000000) (hL : itx x 2 = L) : Calls Tryz.prog 63 #[.int .i64 (x : Int), .int .i64 2] w fun e w' => e = .returned (.string ⟨L.toArray⟩) ∧ Ext w w' := text_l x 2 L w hx (by decide) hL
theorem offset_nat (N : Nat) (neg : Bool) (o : Int) (w : World) (hN : N < 93600) (ho : o = if neg then -(N : Int) else (N : Int)) (h0 : neg = true → 0 < N) :
    Calls Tryz.prog 61 #[.int .i64 o] w fun e w' => e = .returned (.string ⟨(offT o).toArray⟩) ∧ Ext w w' := by
  obtain ⟨L1, hL1⟩ : ∃ L, itx (N / 3600) 2 = L := ⟨_, rfl⟩
  obtain ⟨L2, hL2⟩ : ∃ L, itx (N / 60 % 60) 2 = L := ⟨_, rfl⟩
  obtain ⟨L3, hL3⟩ : ∃ L, itx (N % 60) 2 = L := ⟨_, rfl⟩
  have HO : Hid (offT o = (if neg then 45 else 43) :: (L1 ++ 58 :: (L2 ++ if N % 60 = 0 then [] else 58 :: L3))) := by
    unfold Hid offT
    have e : o.natAbs = N := by cases neg <;> simp at ho <;> omega
    rw [e, hL1, hL2, hL3]
    cases neg
    · rw [if_neg (show ¬ o < 0 by simp at ho; omega)]; rfl
    · rw [if_pos (show o < 0 by have := h0 rfl; simp at ho; omega)]; rfl
  have A1 := Lib.hid hL1
  have A2 := Lib.hid hL2
  have A3 := Lib.hid hL3
  have q1 : (N : Int).tdiv 3600 = ((N / 3600 : Nat) : Int) := by rw [Int.tdiv_eq_ediv_of_nonneg (by omega)]; rfl
  have q2 : ((N : Int).tdiv 60).tmod 60 = ((N / 60 % 60 : Nat) : Int) := by rw [Int.tdiv_eq_ediv_of_nonneg (by omega), Int.tmod_eq_emod_of_nonneg (by omega)]; rfl
  have q3 : (N : Int).tmod 60 = ((N % 60 : Nat) : Int) := by rw [Int.tmod_eq_emod_of_nonneg (by omega)]; rfl
  have p1 : (N : Int) / 3600 = ((N / 3600 : Nat) : Int) := rfl
  have p2 : (N : Int) / 60 % 60 = ((N / 60 % 60 : Nat) : Int) := rfl
  have p3 : (N : Int) % 60 = ((N % 60 : Nat) : Int) := rfl
  obtain ⟨x1, hx1⟩ : ∃ x, x = N / 3600 := ⟨_, rfl⟩
  obtain ⟨x2, hx2⟩ : ∃ x, x = N / 60 % 60 := ⟨_, rfl⟩
  obtain ⟨x3, hx3⟩ : ∃ x, x = N % 60 := ⟨_, rfl⟩
  have b1 : x1 ≤ 100 := by omega
  have b2 : x2 ≤ 100 := by omega
  have b3 : x3 ≤ 100 := by omega
  rw [← hx1] at q1 p1 A1
  rw [← hx2] at q2 p2 A2
  rw [← hx3] at q3 p3 A3 HO
  have l1 : L1.length ≤ 3 := by rw [← A1.out]; exact (itx_len_le (k := 2) (m := 3) (by decide) (by decide) (by show x1 < 1000; omega)).2.1
  have l2 : L2.length ≤ 3 := by rw [← A2.out]; exact (itx_len_le (k := 2) (m := 3) (by decide) (by decide) (by show x2 < 1000; omega)).2.1
  have l3 : L3.length ≤ 3 := by rw [← A3.out]; exact (itx_len_le (k := 2) (m := 3) (by decide) (by decide) (by show x3 < 1000; omega)).2.1
  clear hx1 hx2 hx3 hL1 hL2 hL3
  have hn : neg = true ∧ o = -(N : Int) ∨ neg = false ∧ o = (N : Int) := by cases neg <;> simp at ho <;> simp [ho]
  rcases hn with ⟨rfl, rfl⟩ | ⟨rfl, rfl⟩
  · have h1 : -(N : Int) < 0 := by have := h0 rfl; omega
    have h2 : 0 < N := h0 rfl
    clear h0 ho
    by_cases h3 : x3 = 0
    · have t3 : ((x3 : Int) != 0) = false := by simp [h3]
      have H3 := Lib.hid h3
      go_enter Tryz.func61, Tryz.ntmps61
      go_wp2_with (first
        | (go_at_call 63; (with_reducible refine (text_2 x1 L1 _ (by omega) A1.out).mono ?_); rintro e w1 ⟨rfl, hE1⟩)
        | (go_at_call 63; (with_reducible refine (text_2 x2 L2 _ (by omega) A2.out).mono ?_); rintro e w2 ⟨rfl, hE2⟩)
        | (go_at_call 63; (with_reducible refine (text_2 x3 L3 _ (by omega) A3.out).mono ?_); rintro e w3 ⟨rfl, hE3⟩))
      go_ret
      exact ⟨by rw [HO.out, if_pos H3.out]; exact congrArg (fun b => Ending.returned (.string b)) (by apply ByteArray.ext; simp), hE1.trans hE2⟩
    · have t3 : ((x3 : Int) != 0) = true := by simp [h3]
      have H3 := Lib.hid h3
      go_enter Tryz.func61, Tryz.ntmps61
      go_wp2_with (first
        | (go_at_call 63; (with_reducible refine (text_2 x1 L1 _ (by omega) A1.out).mono ?_); rintro e w1 ⟨rfl, hE1⟩)
        | (go_at_call 63; (with_reducible refine (text_2 x2 L2 _ (by omega) A2.out).mono ?_); rintro e w2 ⟨rfl, hE2⟩)
        | (go_at_call 63; (with_reducible refine (text_2 x3 L3 _ (by omega) A3.out).mono ?_); rintro e w3 ⟨rfl, hE3⟩))
      go_ret
      exact ⟨by rw [HO.out, if_neg H3.out]; exact congrArg (fun b => Ending.returned (.string b)) (by apply ByteArray.ext; simp), hE1.trans (hE2.trans hE3)⟩
  · have h1 : ¬ (N : Int) < 0 := by omega
    clear h0 ho
    by_cases h3 : x3 = 0
    · have t3 : ((x3 : Int) != 0) = false := by simp [h3]
      have H3 := Lib.hid h3
      go_enter Tryz.func61, Tryz.ntmps61
      go_wp2_with (first
        | (go_at_call 63; (with_reducible refine (text_2 x1 L1 _ (by omega) A1.out).mono ?_); rintro e w1 ⟨rfl, hE1⟩)
        | (go_at_call 63; (with_reducible refine (text_2 x2 L2 _ (by omega) A2.out).mono ?_); rintro e w2 ⟨rfl, hE2⟩)
        | (go_at_call 63; (with_reducible refine (text_2 x3 L3 _ (by omega) A3.out).mono ?_); rintro e w3 ⟨rfl, hE3⟩))
      go_ret
      exact ⟨by rw [HO.out, if_pos H3.out]; exact congrArg (fun b => Ending.returned (.string b)) (by apply ByteArray.ext; simp), hE1.trans hE2⟩
    · have t3 : ((x3 : Int) != 0) = true := by simp [h3]
      have H3 := Lib.hid h3
      go_enter Tryz.func61, Tryz.ntmps61
      go_wp2_with (first
        | (go_at_call 63; (with_reducible refine (text_2 x1 L1 _ (by omega) A1.out).mono ?_); rintro e w1 ⟨rfl, hE1⟩)
        | (go_at_call 63; (with_reducible refine (text_2 x2 L2 _ (by omega) A2.out).mono ?_); rintro e w2 ⟨rfl, hE2⟩)
        | (go_at_call 63; (with_reducible refine (text_2 x3 L3 _ (by omega) A3.out).mono ?_); rintro e w3 ⟨rfl, hE3⟩))
      go_ret
      exact ⟨by rw [HO.out, if_neg H3.out]; exact congrArg (fun b => Ending.returned (.string b)) (by apply ByteArray.ext; simp), hE1.trans (hE2.trans hE3)⟩
end Go.Proofs.YticckkadmhklmaaGreatDoor
/- Patterns: the walk of value. -/
namespace Go.Proofs.YticckkadmhklmaaGreatDoor
set_option linter.unusedVariables false
set_option linter.unusedSimpArgs false
open Go.RowKit

theorem offset_c (o : Int) (w : World) (ho : o.natAbs < 93600) : Calls Tryz.prog 61 #[.int .i64 o] w fun e w' => e = .returned (.string ⟨(offT o).toArray⟩) ∧ Ext w w' := by
  by_cases h : o < 0
  · exact offset_nat o.natAbs true o w ho (by simp; omega) (fun _ => by omega)
  · exact offset_nat o.natAbs false o w ho (by simp; omega) (fun q => by cases q)
theorem IsF.insT {F : Fv} {t : Int} (h : IsF F t) : Go.Proofs.YticckkadmhklmaaGreatDoor.insT t = true := by
  have := dn_bd h.vld
  rw [h.day] at this
  rw [insT_iff]
  omega
theorem moment_F {F : Fv} {t : Int} (hF : IsF F t) (w : World) : Calls Tryz.prog 86 #[.int .i64 t] w fun e w' => e = .returned (.tuple #[.agg #[.int .i64 F.y, .int .i64 F.mo, .int .i64 F.d, .int .i64 F.h, .int .i64 F.mi, .int .i64 F.s], .int .i64 0]) ∧ Ext w w' := by
  refine (moment_yes t w hF.insT).mono ?_
  rintro e w' ⟨y, m, d, rfl, hD, hE⟩
  obtain ⟨rfl, rfl, rfl⟩ := hD.inj ⟨hF.vld, hF.day⟩
  refine ⟨?_, hE⟩
  unfold momv
  rw [hF.h, hF.mi, hF.s]
theorem split_F {F : Fv} {t : Int} (hF : IsF F t) (w : World) : Calls Tryz.prog 87 #[.int .i64 t] w fun e w' => e = .returned (.tuple #[.int .i64 (t / 86400), .int .i64 (t % 86400), .int .i64 0]) ∧ Ext w w' :=
  (split_yes t w hF.insT).mono fun _ _ ⟨a, b⟩ => ⟨a, Ext.of_drewN b⟩
theorem weekday_F {F : Fv} {t : Int} (hF : IsF F t) (n : Int) (hn : n = t / 86400) (w : World) : Calls Tryz.prog 88 #[.int .i64 n] w fun e w' => e = .returned (.int .i64 (F.wd : Int)) ∧ Ext w w' := by
  have q := weekday_c n w (by rw [hn]; exact split_ins hF.insT)
  rw [hn, ← hF.wd] at q
  rw [hn]
  exact q
set_option maxRecDepth 100000 in
set_option maxHeartbeats 1000000 in
theorem value_c {F : Fv} {t : Int} (hF : IsF F t) (k : Int) (w : World) : Calls Tryz.prog 62 #[.int .i64 k, .int .i64 t] w fun e w' => e = .returned (.int .i64 (valK F k : Int)) ∧ Ext w w' := by
  obtain ⟨o1, o2, o3, o4, o5, o6, o7, o8, o9, o10, o11⟩ := hF.ok
  obtain ⟨D, hD⟩ : ∃ D, D = t / 86400 := ⟨_, rfl⟩
  have HD := Lib.hid hD
  have HS : ∀ w, Calls Tryz.prog 87 #[.int .i64 t] w fun e w' => e = .returned (.tuple #[.int .i64 D, .int .i64 (t % 86400), .int .i64 0]) ∧ Ext w w' := by rw [hD]; exact split_F hF
  have HS := Lib.hid HS
  have HV : Hid (∀ x : Int, (valK F k : Int) = x ↔ x = (valK F k : Int)) := fun x => eq_comm
  have HM := Lib.hid (moment_F hF)
  have HW := Lib.hid (fun w => weekday_F hF D hD w)
  clear hD hF
  go_enter Tryz.func62, Tryz.ntmps62
  go_wp2_with (first
    | (go_at_call 86; (with_reducible refine (HM.out _).mono ?_); rintro e w1 ⟨rfl, hE1⟩)
    | (go_at_call 87; (with_reducible refine (HS.out _).mono ?_); rintro e w2 ⟨rfl, hE2⟩; have hc2 := hE2.cells; have hz2 : w1.heap.size < w2.heap.size := (by have := hE2.size; simp at this; omega))
    | (go_at_call 88; (with_reducible refine (HW.out _).mono ?_); rintro e w3 ⟨rfl, hE3⟩))
  all_goals
    clear HD HS HV HM HW
    go_ret
    refine ⟨congrArg (fun b => Ending.returned (Value.int .i64 b)) ?_, ?_⟩
    · unfold valK
      simp_all <;> omega
    · first
        | exact hE1.trans (((Ext.refl w1).alloc _).trans (hE2.trans hE3))
        | exact hE1.trans (((Ext.refl w1).alloc _).trans hE2)
end Go.Proofs.YticckkadmhklmaaGreatDoor
