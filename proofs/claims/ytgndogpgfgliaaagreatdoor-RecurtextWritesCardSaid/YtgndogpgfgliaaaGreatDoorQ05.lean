/- The walks of package clock and of its reference: moments; rounding. -/
import Derived.Test.YtgndogpgfgliaaaGreatDoorQ04
import Derived.Test.YtgndogpgfgliaaaGreatDoorQ03
import Derived.Test.YtgndogpgfgliaaaGreatDoorQ00
import Derived.Laws.BytesString
import Derived.Laws.IdiomStrings
namespace Go.Proofs.YtgndogpgfgliaaaGreatDoor
open Go.RowKit

/-- The instant of a moment. -/
def inst (y m d h mi s : Int) : Int := 86400 * dn y m d + secs h mi s
theorem secs_bd {h m s : Int} (q : tmB h m s = true) : 0 ≤ secs h m s ∧ secs h m s < 86400 := by
  have := tm_iff.1 q
  unfold secs; omega
theorem sd_of_tm {h m s : Int} (q : tmB h m s = true) : sdB (secs h m s) = true := sd_iff.2 (secs_bd q)
theorem ins_of_vld {y m d : Int} (h : vldB y m d = true) : insB (dn y m d) = true := ins_iff.2 (dn_bd h)
theorem ret_ai {v : Value} {k : IntKind} {a a' : Int} (h : a = a') : Ending.returned (.tuple #[v, .int k a]) = .returned (.tuple #[v, .int k a']) := by rw [h]

set_option maxHeartbeats 400000 in
theorem of_yes (y m d h mi s : Int) (w : World) (hv : vldB y m d = true) (ht : tmB h mi s = true) :
    Calls Tryz.prog 85 #[.agg #[.int .i64 y, .int .i64 m, .int .i64 d, .int .i64 h, .int .i64 mi, .int .i64 s]] w fun e w' => e = .returned (.tuple #[.int .i64 (inst y m d h mi s), .int .i64 0]) ∧ Ext w w' := by
  go_enter Tryz.func85, Tryz.ntmps85
  go_wp2_with (first
    | (go_at_call 133; refine (day_yes _ _ _ _ hv).mono ?_; rintro e w1 ⟨rfl, hE⟩; have hc := hE.cells; have hz := hE.size)
    | (go_at_call 134; refine (seconds_yes _ _ _ _ ht).mono ?_; rintro e w2 ⟨rfl, hE2⟩)
    | (go_at_call 135; refine (at_yes _ _ _ (ins_of_vld hv) (sd_of_tm ht)).mono ?_; rintro e w3 ⟨rfl, rfl⟩))
  go_ret2
  exact ⟨rfl, (((Ext.refl w).alloc _).trans hE).trans hE2⟩
set_option maxHeartbeats 400000 in
theorem of_no (y m d h mi s : Int) (w : World) (hv : ¬ (vldB y m d = true ∧ tmB h mi s = true)) :
    Calls Tryz.prog 85 #[.agg #[.int .i64 y, .int .i64 m, .int .i64 d, .int .i64 h, .int .i64 mi, .int .i64 s]] w fun e w' => e = .returned (.tuple #[.int .i64 0, .int .i64 1]) ∧ Ext w w' := by
  rcases Bool.eq_false_or_eq_true (vldB y m d) with h1 | h1
  · have ht : tmB h mi s = false := by simpa [h1] using hv
    clear hv
    go_enter Tryz.func85, Tryz.ntmps85
    go_wp2_with (first
      | (go_at_call 133; refine (day_yes _ _ _ _ h1).mono ?_; rintro e w1 ⟨rfl, hE⟩; have hc := hE.cells; have hz := hE.size)
      | (go_at_call 134; refine (seconds_no _ _ _ _ ht).mono ?_; rintro e w2 ⟨rfl, hE2⟩))
    go_ret2
    exact ⟨rfl, (((Ext.refl w).alloc _).trans hE).trans hE2⟩
  · clear hv
    rcases Bool.eq_false_or_eq_true (tmB h mi s) with ht | ht
    · go_enter Tryz.func85, Tryz.ntmps85
      go_wp2_with (first
        | (go_at_call 133; refine (day_no _ _ _ _ h1).mono ?_; rintro e w1 ⟨rfl, hE⟩; have hc := hE.cells; have hz := hE.size)
        | (go_at_call 134; refine (seconds_yes _ _ _ _ ht).mono ?_; rintro e w2 ⟨rfl, hE2⟩))
      go_ret2
      exact ⟨rfl, (((Ext.refl w).alloc _).trans hE).trans hE2⟩
    · go_enter Tryz.func85, Tryz.ntmps85
      go_wp2_with (first
        | (go_at_call 133; refine (day_no _ _ _ _ h1).mono ?_; rintro e w1 ⟨rfl, hE⟩; have hc := hE.cells; have hz := hE.size)
        | (go_at_call 134; refine (seconds_no _ _ _ _ ht).mono ?_; rintro e w2 ⟨rfl, hE2⟩))
      go_ret2
      exact ⟨rfl, (((Ext.refl w).alloc _).trans hE).trans hE2⟩

set_option maxHeartbeats 400000 in
theorem rof_yes (y m d h mi s : Int) (w : World) (hv : vldB y m d = true) (ht : tmB h mi s = true) :
    Calls Tryz.prog 62 #[.agg #[.int .i64 y, .int .i64 m, .int .i64 d, .int .i64 h, .int .i64 mi, .int .i64 s]] w fun e w' => e = .returned (.int .i64 (inst y m d h mi s)) ∧ Ext w w' := by
  have q1 := secs_bd ht
  have q2 := dn_bd hv
  obtain ⟨q3, q4⟩ := q1
  obtain ⟨q5, q6⟩ := q2
  unfold inst
  go_enter Tryz.func62, Tryz.ntmps62
  go_wp2_with (first
    | (go_at_call 113; refine (rday_yes _ _ _ _ hv).mono ?_; rintro e w1 ⟨rfl, hE⟩; have hc := hE.cells; have hz := hE.size)
    | (go_at_call 114; refine (rseconds_yes _ _ _ _ ht).mono ?_; rintro e w2 ⟨rfl, hE2⟩))
  go_ret
  exact ⟨rfl, (((Ext.refl w).alloc _).trans hE).trans hE2⟩

set_option maxHeartbeats 400000 in
theorem rvalidm_yes (y m d h mi s : Int) (w : World) (hv : vldB y m d = true) (ht : tmB h mi s = true) :
    Calls Tryz.prog 112 #[.agg #[.int .i64 y, .int .i64 m, .int .i64 d, .int .i64 h, .int .i64 mi, .int .i64 s]] w fun e w' => e = .returned (.bool true) ∧ Ext w w' := by
  go_enter Tryz.func112, Tryz.ntmps112
  go_wp2_with (first
    | (go_at_call 154; refine (rvalid_c _ _ _ _).mono ?_; rintro e w1 ⟨rfl, hE⟩; have hc := hE.cells; have hz := hE.size)
    | (go_at_call 155; refine (validtime_yes _ _ _ _ ht).mono ?_; rintro e w2 ⟨rfl, hE2⟩))
  go_ret
  exact ⟨rfl, (((Ext.refl w).alloc _).trans hE).trans hE2⟩
set_option maxHeartbeats 400000 in
theorem rvalidm_no (y m d h mi s : Int) (w : World) (hv : ¬ (vldB y m d = true ∧ tmB h mi s = true)) :
    Calls Tryz.prog 112 #[.agg #[.int .i64 y, .int .i64 m, .int .i64 d, .int .i64 h, .int .i64 mi, .int .i64 s]] w fun e w' => e = .returned (.bool false) ∧ Ext w w' := by
  rcases Bool.eq_false_or_eq_true (vldB y m d) with h1 | h1
  · have ht : tmB h mi s = false := by simpa [h1] using hv
    clear hv
    go_enter Tryz.func112, Tryz.ntmps112
    go_wp2_with (first
      | (go_at_call 154; refine (rvalid_c _ _ _ _).mono ?_; rintro e w1 ⟨rfl, hE⟩; have hc := hE.cells; have hz := hE.size)
      | (go_at_call 155; refine (validtime_no _ _ _ _ ht).mono ?_; rintro e w2 ⟨rfl, hE2⟩))
    go_ret
    exact ⟨rfl, (((Ext.refl w).alloc _).trans hE).trans hE2⟩
  · clear hv
    go_enter Tryz.func112, Tryz.ntmps112
    go_wp2_with (first
      | (go_at_call 154; refine (rvalid_c _ _ _ _).mono ?_; rintro e w1 ⟨rfl, hE⟩; have hc := hE.cells; have hz := hE.size))
    go_ret
    exact ⟨rfl, (((Ext.refl w).alloc _).trans hE)⟩

theorem split_sd (t : Int) : sdB (t % 86400) = true := sd_iff.2 (by omega)
theorem split_ins {t : Int} (h : insT t = true) : insB (t / 86400) = true := by
  have := insT_iff.1 h
  exact ins_iff.2 (by omega)
/-- What the functions of the name Moment give for an instant t. -/
def momv (t y m d : Int) : Value := .agg #[.int .i64 y, .int .i64 m, .int .i64 d, .int .i64 (t % 86400 / 3600), .int .i64 (t % 86400 / 60 % 60), .int .i64 (t % 86400 % 60)]

set_option maxHeartbeats 1000000 in
theorem moment_yes (t : Int) (w : World) (h : insT t = true) :
    Calls Tryz.prog 106 #[.int .i64 t] w fun e w' => ∃ y m d : Int, e = .returned (.tuple #[momv t y m d, .int .i64 0]) ∧ IsDate (t / 86400) y m d ∧ Ext w w' := by
  go_enter Tryz.func106, Tryz.ntmps106
  go_wp2_with (first
    | (go_at_call 146; refine (split_yes _ _ h).mono ?_; rintro e w1 ⟨rfl, nq, rfl⟩)
    | (go_at_call 147; refine (date_yes _ _ (split_ins h)).mono ?_; rintro e w2 ⟨y, m, d, rfl, hD, hE⟩; have hc := hE.cells; have hf := hE.frozens; have hz : w.heap.size < w2.heap.size := (by have := hE.size; simp at this; omega))
    | (go_at_call 148; refine (time_yes _ _ (split_sd t)).mono ?_; rintro e w3 ⟨rfl, hE2⟩; have hc2 := hE2.cells; have hf2 := hE2.frozens; have hz2 : w2.heap.size < w3.heap.size := (by have := hE2.size; simp at this; omega); have hz3 : w.heap.size < w3.heap.size := (by omega)))
  have c0 : ∀ o, w3.cell? ⟨w.heap.size, o, none⟩ = (#[.int .i64 0, .int .i64 0, .int .i64 0, .int .i64 0, .int .i64 0, .int .i64 0] : Array Value)[o]? := by
    intro o
    rw [hc2 _ _ (by simp; omega), World.cell?_alloc_lt _ _ _ hz, hc _ _ (by simp)]
    exact World.cell?_alloc_new _ _ _ _
  refine bodyPost_ret (v := .tuple #[momv t y m d, .int .i64 0]) ?_ rfl ⟨y, m, d, rfl, hD, ?_⟩
  · simp [results, Tryz.results106, go_sem, momv, c0, hz3]
  · refine Ext.alloc ?_ _
    iterate 6 refine Ext.setCell ?_ (by simp) _
    exact (((Ext.refl w).alloc _).drewN _).trans (hE.trans (((Ext.refl _).alloc _).trans hE2))
end Go.Proofs.YtgndogpgfgliaaaGreatDoor
/- The walk of integer.Text: a decimal text with at least so many digits. -/
namespace Go.Proofs.YtgndogpgfgliaaaGreatDoor
open Go.RowKit

def itxI (n : Int) (k : Nat) : List UInt8 := if n < 0 then 45 :: itx n.natAbs k else itx n.natAbs k

set_option maxHeartbeats 400000 in
theorem size_nn (n : Int) (w : World) (h : 0 ≤ n) (h2 : n ≤ 9223372036854775807) : Calls Tryz.prog 145 #[.int .i64 n] w fun e w' => e = .returned (.int .u64 n) ∧ w = w' := by
  go_enter Tryz.func145, Tryz.ntmps145
  go_wp2
  go_ret
  exact ⟨ret_i (by first | rfl | (simp [IntKind.wrap]; omega)), rfl⟩
set_option maxHeartbeats 400000 in
theorem size_neg (n : Int) (w : World) (h : n < 0) (h2 : -9223372036854775808 ≤ n) : Calls Tryz.prog 145 #[.int .i64 n] w fun e w' => e = .returned (.int .u64 (-n)) ∧ w = w' := by
  go_enter Tryz.func145, Tryz.ntmps145
  go_wp2
  go_ret
  exact ⟨ret_i (by simp only [IntKind.wrap]; simp [IntKind.bits, IntKind.signed]; omega), rfl⟩

set_option maxRecDepth 100000 in
set_option maxHeartbeats 1000000 in
theorem text_nn (N K : Nat) (w : World) (hn2 : (N : Int) ≤ 9223372036854775807) (hk : K ≤ 20) :
    Calls Tryz.prog 101 #[.int .i64 (N : Int), .int .i64 (K : Int)] w fun e w' => e = .returned (.string ⟨(itx N K).toArray⟩) ∧ Ext w w' := by
  have d3 : decide ((N : Int) < 0) = false := by simp
  have hM : Lib.nDigits N ≤ 20 := nDigits_20 N (by omega)
  have hM1 := Lib.nDigits_pos N
  have d1 : decide ((K : Int) < 0) = false := by simp
  have d2 : decide ((20 : Int) < (K : Int)) = false := by simp; omega
  obtain ⟨M, hM⟩ : ∃ M, M = max (Lib.nDigits N) K := ⟨_, rfl⟩
  have HM := Lib.hid hM
  have hMb : M ≤ 20 := by omega
  have hMb1 : 1 ≤ M := by omega
  clear hM
  go_enter Tryz.func101, Tryz.ntmps101
  go_wp2_with (go_at_call 145; refine (size_nn _ _ (by omega) (by omega)).mono ?_; rintro e w1 ⟨rfl, rfl⟩)
  go_loopw [6, 7] (fun at_ m wr => ∃ j q : Nat, j ≤ M ∧ at_ = .int .i64 (24 - (j : Int)) ∧ m = .int .u64 (q : Int) ∧ Hid (q = N / 10 ^ j) ∧ wr = w.alloc (.cells (txC N j) 153)) (fun at_ _ _ => (intOf at_).toNat)
  case atStart => exact ⟨0, N, by omega, rfl, rfl, by simp [Hid], by rw [txC_zero]⟩
  case round =>
    obtain ⟨j, q, hj, rfl, rfl, Hq, rfl⟩ := hrel
    have hq : q ≤ N := by rw [Hq.out]; exact Nat.div_le_self _ _
    by_cases hlt : j < M
    · obtain ⟨x0, hx0⟩ := txC_get N j (24 - j - 1) (by omega) (by omega)
      have hq2 : q ≠ 0 ∨ j < max K 1 := by
        by_cases q0 : q = 0
        · right
          have h1 := HM.out
          by_cases hN0 : N = 0
          · subst hN0
            rw [Lib.nDigits_small (by decide)] at h1
            omega
          · have := div_zero_of (n := N) (j := j) (by omega) (by rw [← Hq.out]; exact q0)
            omega
        · exact .inl q0
      by_cases hq0 : q = 0
      · have t1 : ((q : Int) != 0) = false := by simp [hq0]
        have t2 : (j : Int) < max (K : Int) 1 := by omega
        have Hq0 := Lib.hid hq0
        clear hq0 hq2
        go_wp2
        go_roundw
        case rel => exact ⟨j + 1, q / 10, by omega, by congr 1; omega, by congr 1, div_pow_succ N j q Hq.out, by rw [txC_step' N j q (by omega) Hq.out]⟩
        case measure => simp [intOf]; omega
      · have t1 : ((q : Int) != 0) = true := by simp; omega
        clear hq2
        go_wp2
        go_roundw
        case rel => exact ⟨j + 1, q / 10, by omega, by congr 1; omega, by congr 1, div_pow_succ N j q Hq.out, by rw [txC_step' N j q (by omega) Hq.out]⟩
        case measure => simp [intOf]; omega
    · obtain rfl : j = M := by omega
      have hq0 : q = 0 := by rw [Hq.out]; have := HM.out; exact Nat.div_eq_of_lt (Nat.lt_of_lt_of_le (Lib.lt_pow_nDigits N) (Nat.pow_le_pow_right (by decide) (by omega)))
      have t1 : ((q : Int) != 0) = false := by simp [hq0]
      have t2 : ¬ (24 - (24 - (j : Int)) < if (K : Int) < 1 then 1 else (K : Int)) := by have := HM.out; split <;> omega
      clear hq0
      have hcv : ∀ cap, (convert 108 9 (.slice (some ⟨w.heap.size, 24 - j, none⟩) j cap)).run Tryz.prog (w.alloc (.cells (txC N j) 153)) = .ok (.string ⟨(padN j N).toArray⟩) (w.alloc (.cells (txC N j) 153)) := by
        intro cap
        have h := run_convert_bytes_back (P := Tryz.prog) (w.alloc (.cells (txC N j) 153)) 108 9 5 ⟨w.heap.size, 24 - j, none⟩ cap (padN j N) Tryz.underlying108 Tryz.underlying5 Tryz.underlying9 (by
          intro i hi
          rw [show (⟨w.heap.size, 24 - j, none⟩ : Addr).add i = ⟨w.heap.size, 24 - j + i, none⟩ from by unfold Addr.add; split <;> simp_all]
          rw [World.cell?_alloc_new]
          exact txC_at N j i (by omega) _ (List.getElem?_eq_getElem hi))
        rw [padN_length] at h
        exact h
      have hsl : ∀ W : World, (Instr.sliceAt 153 (.pointer (some ⟨w.heap.size, 0, none⟩)) (some (.int .i64 (24 - (j : Int)))) none none).run Tryz.prog W = .ok (.slice (some ⟨w.heap.size, 24 - j, none⟩) j j) W := by
        intro W
        rw [run_sliceAt_array_l (P := Tryz.prog) W 153 ⟨w.heap.size, 0, none⟩ (by kernel_rfl) .i64 (24 - (j : Int)) (by omega) (by show 24 - (j : Int) ≤ 24; omega)]
        have e1 : (sizeOf (Tryz.prog.elem 153)).run Tryz.prog W = .ok 1 W := by kernel_rfl
        rw [e1]
        show Result.ok (slicedAt _ _ 24 24 1) W = _
        unfold slicedAt
        have e2 : (24 - (j : Int)).toNat = 24 - j := by omega
        rw [e2, if_neg (by omega)]
        congr 2
        · unfold Addr.add; split <;> simp <;> omega
        · omega
        · omega
      go_wp2
      all_goals
        go_ret
        exact ⟨ret_s (by rw [itx, ← HM.out]), (Ext.refl w).alloc _⟩

theorem txC_neg (n j : Nat) (h : j < 24) : ((txC n j).setIfInBounds (24 - j - 1) (.int .u8 45)) = (List.replicate (24 - (j + 1)) (Value.int .u8 0) ++ ((45 :: padN j n).map fun c => Value.int .u8 c.toNat)).toArray := by
  unfold txC
  rw [List.setIfInBounds_toArray]
  congr 1
  rw [show 24 - j = (24 - (j + 1)) + 1 from by omega, List.replicate_succ', List.append_assoc, List.set_append_right _ _ (by simp <;> omega)]
  have e : 24 - (j + 1) + 1 - 1 - (List.replicate (24 - (j + 1)) (Value.int .u8 0)).length = 0 := by simp
  rw [e]
  simp
theorem txC_neg_at (n j i : Nat) (hj : j < 24) (c : UInt8) (h : (45 :: padN j n)[i]? = some c) : ((txC n j).setIfInBounds (24 - j - 1) (.int .u8 45))[24 - j - 1 + i]? = some (.int .u8 c.toNat) := by
  rw [txC_neg n j hj]
  simp only [List.getElem?_toArray]
  rw [List.getElem?_append_right (by simp; omega)]
  simp only [List.length_replicate, List.getElem?_map]
  rw [show 24 - j - 1 + i - (24 - (j + 1)) = i from by omega, h]
  rfl

set_option maxRecDepth 100000 in
set_option maxHeartbeats 1000000 in
theorem text_neg (N K : Nat) (w : World) (hn1 : 0 < N) (hn2 : (N : Int) ≤ 9223372036854775808) (hk : K ≤ 20) :
    Calls Tryz.prog 101 #[.int .i64 (-(N : Int)), .int .i64 (K : Int)] w fun e w' => e = .returned (.string ⟨(45 :: itx N K).toArray⟩) ∧ Ext w w' := by
  have d3 : decide (-(N : Int) < 0) = true := by simp; omega
  have d4 : -(N : Int) < 0 := by omega
  have d5 : - -(N : Int) = N := by omega
  have hM : Lib.nDigits N ≤ 20 := nDigits_20 N (by omega)
  have hM1 := Lib.nDigits_pos N
  have d1 : decide ((K : Int) < 0) = false := by simp
  have d2 : decide ((20 : Int) < (K : Int)) = false := by simp; omega
  obtain ⟨M, hM⟩ : ∃ M, M = max (Lib.nDigits N) K := ⟨_, rfl⟩
  have HM := Lib.hid hM
  have hMb : M ≤ 20 := by omega
  have hMb1 : 1 ≤ M := by omega
  clear hM
  go_enter Tryz.func101, Tryz.ntmps101
  go_wp2_with (go_at_call 145; refine (size_neg _ _ (by omega) (by omega)).mono ?_; rintro e w1 ⟨rfl, rfl⟩)
  go_loopw [6, 7] (fun at_ m wr => ∃ j q : Nat, j ≤ M ∧ at_ = .int .i64 (24 - (j : Int)) ∧ m = .int .u64 (q : Int) ∧ Hid (q = N / 10 ^ j) ∧ wr = w.alloc (.cells (txC N j) 153)) (fun at_ _ _ => (intOf at_).toNat)
  case atStart => exact ⟨0, N, by omega, rfl, rfl, by simp [Hid], by rw [txC_zero]⟩
  case round =>
    obtain ⟨j, q, hj, rfl, rfl, Hq, rfl⟩ := hrel
    have hq : q ≤ N := by rw [Hq.out]; exact Nat.div_le_self _ _
    by_cases hlt : j < M
    · obtain ⟨x0, hx0⟩ := txC_get N j (24 - j - 1) (by omega) (by omega)
      have hq2 : q ≠ 0 ∨ j < max K 1 := by
        by_cases q0 : q = 0
        · right
          have h1 := HM.out
          by_cases hN0 : N = 0
          · subst hN0
            rw [Lib.nDigits_small (by decide)] at h1
            omega
          · have := div_zero_of (n := N) (j := j) (by omega) (by rw [← Hq.out]; exact q0)
            omega
        · exact .inl q0
      by_cases hq0 : q = 0
      · have t1 : ((q : Int) != 0) = false := by simp [hq0]
        have t2 : (j : Int) < max (K : Int) 1 := by omega
        have Hq0 := Lib.hid hq0
        clear hq0 hq2
        go_wp2
        go_roundw
        case rel => exact ⟨j + 1, q / 10, by omega, by congr 1; omega, by congr 1, div_pow_succ N j q Hq.out, by rw [txC_step' N j q (by omega) Hq.out]⟩
        case measure => simp [intOf]; omega
      · have t1 : ((q : Int) != 0) = true := by simp; omega
        clear hq2
        go_wp2
        go_roundw
        case rel => exact ⟨j + 1, q / 10, by omega, by congr 1; omega, by congr 1, div_pow_succ N j q Hq.out, by rw [txC_step' N j q (by omega) Hq.out]⟩
        case measure => simp [intOf]; omega
    · obtain rfl : j = M := by omega
      have hq0 : q = 0 := by rw [Hq.out]; have := HM.out; exact Nat.div_eq_of_lt (Nat.lt_of_lt_of_le (Lib.lt_pow_nDigits N) (Nat.pow_le_pow_right (by decide) (by omega)))
      have t1 : ((q : Int) != 0) = false := by simp [hq0]
      have t2 : ¬ (24 - (24 - (j : Int)) < if (K : Int) < 1 then 1 else (K : Int)) := by have := HM.out; split <;> omega
      clear hq0
      obtain ⟨x0, hx0⟩ := txC_get N j (24 - j - 1) (by omega) (by omega)
      have hcv : ∀ cap, (convert 108 9 (.slice (some ⟨w.heap.size, 24 - j - 1, none⟩) (j + 1) cap)).run Tryz.prog (w.alloc (.cells ((txC N j).setIfInBounds (24 - j - 1) (.int .u8 45)) 153)) = .ok (.string ⟨(45 :: padN j N).toArray⟩) (w.alloc (.cells ((txC N j).setIfInBounds (24 - j - 1) (.int .u8 45)) 153)) := by
        intro cap
        have h := run_convert_bytes_back (P := Tryz.prog) (w.alloc (.cells ((txC N j).setIfInBounds (24 - j - 1) (.int .u8 45)) 153)) 108 9 5 ⟨w.heap.size, 24 - j - 1, none⟩ cap (45 :: padN j N) Tryz.underlying108 Tryz.underlying5 Tryz.underlying9 (by
          intro i hi
          rw [show (⟨w.heap.size, 24 - j - 1, none⟩ : Addr).add i = ⟨w.heap.size, 24 - j - 1 + i, none⟩ from by unfold Addr.add; split <;> simp_all]
          rw [World.cell?_alloc_new]
          exact txC_neg_at N j i (by omega) _ (List.getElem?_eq_getElem hi))
        rw [List.length_cons, padN_length] at h
        exact h
      have hsl : ∀ W : World, (Instr.sliceAt 153 (.pointer (some ⟨w.heap.size, 0, none⟩)) (some (.int .i64 (24 - (j : Int) - 1))) none none).run Tryz.prog W = .ok (.slice (some ⟨w.heap.size, 24 - j - 1, none⟩) (j + 1) (j + 1)) W := by
        intro W
        rw [run_sliceAt_array_l (P := Tryz.prog) W 153 ⟨w.heap.size, 0, none⟩ (by kernel_rfl) .i64 (24 - (j : Int) - 1) (by omega) (by show 24 - (j : Int) - 1 ≤ 24; omega)]
        have e1 : (sizeOf (Tryz.prog.elem 153)).run Tryz.prog W = .ok 1 W := by kernel_rfl
        rw [e1]
        show Result.ok (slicedAt _ _ 24 24 1) W = _
        unfold slicedAt
        have e2 : (24 - (j : Int) - 1).toNat = 24 - j - 1 := by omega
        rw [e2, if_neg (by omega)]
        congr 2
        · unfold Addr.add; split <;> simp <;> omega
        · omega
        · omega
      go_wp2
      all_goals
        go_ret
        exact ⟨ret_s (by rw [itx, ← HM.out]), (Ext.refl w).alloc _⟩

theorem text_c (n k : Int) (w : World) (h1 : -9223372036854775808 ≤ n) (h2 : n ≤ 9223372036854775807) (k1 : 0 ≤ k) (k2 : k ≤ 20) :
    Calls Tryz.prog 101 #[.int .i64 n, .int .i64 k] w fun e w' => e = .returned (.string ⟨(itxI n k.toNat).toArray⟩) ∧ Ext w w' := by
  obtain ⟨K, rfl⟩ := Int.eq_ofNat_of_zero_le k1
  unfold itxI
  by_cases h : n < 0
  · rw [if_pos h]
    have e : n = -((n.natAbs : Nat) : Int) := by omega
    have := text_neg n.natAbs K w (by omega) (by omega) (by omega)
    rw [← e] at this
    exact this
  · rw [if_neg h]
    have e : n = ((n.natAbs : Nat) : Int) := by omega
    have := text_nn n.natAbs K w (by omega) (by omega)
    rw [← e] at this
    exact this
end Go.Proofs.YtgndogpgfgliaaaGreatDoor
