/- Recurrence rules: the reference's numbers: ref18.whole, ref18.Number (short texts), ref30.Number. -/
import Derived.Test.YtgndogpgfgliaaaGreatDoorQ21
import Derived.Test.YtgndogpgfgliaaaGreatDoorQ10
import Derived.Test.YtgndogpgfgliaaaGreatDoorQ00
import Derived.Test.YtgndogpgfgliaaaGreatDoorQ14
namespace Go.Proofs.YtgndogpgfgliaaaGreatDoor
set_option linter.unusedVariables false
set_option linter.unnecessarySimpa false
set_option linter.unusedSimpArgs false
open Go.RowKit

theorem r18digit_c (c : UInt8) (w : World) : Calls Tryz.prog 182 #[.int .u8 c.toNat] w fun e w' => e = .returned (.bool (isDg c)) ∧ w = w' := by
  have e1 : isDg c = (decide ((48 : Int) ≤ (c.toNat : Int)) && decide ((c.toNat : Int) ≤ 57)) := by
    unfold isDg
    rw [Bool.eq_iff_iff]
    simp
    omega
  rw [e1]
  go_enter Tryz.func182, Tryz.ntmps182
  go_wp2
  all_goals
    go_ret
    first
      | (simp_all; done)
      | (simp_all; omega)
def whB (s : List UInt8) : Bool := decide (s ≠ []) && !(s.head? == some 48 && decide (1 < s.length)) && s.all isDg
theorem whB_iff (s : List UInt8) : whB s = true ↔ s ≠ [] ∧ ¬ (s.head? = some 48 ∧ 1 < s.length) ∧ s.all isDg = true := by
  unfold whB
  simp only [Bool.and_eq_true, decide_eq_true_eq, Bool.not_eq_true', Bool.and_eq_false_iff, beq_eq_false_iff_ne, decide_eq_false_iff_not, ne_eq]
  constructor
  · rintro ⟨⟨a, c⟩, d⟩
    exact ⟨a, fun ⟨q1, q2⟩ => by rcases c with c | c; exact c q1; exact c q2, d⟩
  · rintro ⟨a, c, d⟩
    refine ⟨⟨a, ?_⟩, d⟩
    by_cases q : s.head? = some 48
    · exact .inr (fun q2 => c ⟨q, q2⟩)
    · exact .inl q
set_option maxRecDepth 100000 in
set_option maxHeartbeats 1000000 in
theorem rwhole_loop (s : List UInt8) (w : World) (h1 : 1 ≤ s.length) (h2 : s.length ≤ 100000) (hz : ¬ (s.head? = some 48 ∧ 1 < s.length)) :
    Calls Tryz.prog 152 #[.string ⟨s.toArray⟩] w fun e w' => e = .returned (.bool (whB s)) ∧ w = w' := by
  have HB : Hid (∀ q, s.all isDg = q → whB s = q) := by
    intro q hq
    rw [← hq, Bool.eq_iff_iff, whB_iff]
    exact ⟨fun h => h.2.2, fun h => ⟨by intro e; rw [e] at h1; simp at h1, hz, h⟩⟩
  have h0 : 0 < s.length := by omega
  have hne : s ≠ [] := by intro e; rw [e] at h0; simp at h0
  obtain ⟨c, hc⟩ : ∃ c, c = s[0] := ⟨_, rfl⟩
  have b0 := bget s 0 h0 c hc
  have t0 : (s == []) = false := by simpa using hne
  obtain ⟨g1, hg1⟩ : ∃ g1 : Bool, decide ((1 : Int) < (s.length : Int)) = g1 := ⟨_, rfl⟩
  obtain ⟨z1, hz1⟩ : ∃ z1 : Bool, ((c.toNat : Int) == 48) = z1 := ⟨_, rfl⟩
  have hcz : z1 = true → g1 = true → False := fun q1 q2 => by
    rw [q1, beq_iff_eq] at hz1
    rw [q2, decide_eq_true_eq] at hg1
    refine hz ⟨?_, by omega⟩
    rw [List.head?_eq_getElem?, List.getElem?_eq_getElem h0, ← hc]
    exact congrArg some (UInt8.toNat_inj.1 (by show c.toNat = 48; omega))
  have HD := Lib.hid (fun (x : UInt8) w' => r18digit_c x w')
  have hcz2 : (z1 && g1) = false := by
    cases z1 <;> cases g1 <;> simp_all
  clear hc hz hne
  cases z1 <;> cases g1
  case true.true => exact (hcz rfl rfl).elim
  all_goals
    clear hcz hcz2
    go_enter Tryz.func152, Tryz.ntmps152
    go_wp2_with fail
    go_loopw [3] (fun i wr => ∃ k : Nat, k ≤ s.length ∧ i = .int .i64 (k : Int) ∧ (∀ c ∈ s.take k, isDg c = true) ∧ w = wr) (fun i _ => s.length - (intOf i).toNat)
    case atStart => exact ⟨0, Nat.zero_le _, rfl, (by intro c hc; simp at hc), rfl⟩
    case round =>
      obtain ⟨k, hk, rfl, hd, rfl⟩ := hrel
      have Hd := Lib.hid hd
      clear hd
      by_cases hlt : k < s.length
      · have Ht : Hid (s.take (k + 1) = s.take k ++ [s[k]]) := List.take_succ_eq_append_getElem hlt
        have Hm : Hid (s[k] ∈ s) := List.getElem_mem _
        obtain ⟨x, hx⟩ : ∃ x, x = s[k] := ⟨_, rfl⟩
        have hi := bget s k hlt x hx
        rw [← hx] at Ht Hm
        clear hx
        have HDx : Hid (∀ w', Calls Tryz.prog 182 #[.int .u8 x.toNat] w' fun e w'' => e = .returned (.bool (isDg x)) ∧ w' = w'') := fun w' => HD.out x w'
        rcases Bool.eq_false_or_eq_true (isDg x) with hdx | hdx
        · rw [hdx] at HDx
          have HT2 : Hid (∀ c ∈ s.take (k + 1), isDg c = true) := fun c hc => by
            rw [Ht.out] at hc
            rcases List.mem_append.1 hc with q | q
            · exact Hd.out c q
            · rw [List.mem_singleton.1 q]; exact hdx
          clear hdx
          go_wp2_with (go_at_call 182; (with_reducible refine (HDx.out _).mono ?_); rintro e w1 ⟨rfl, rfl⟩)
          go_roundw
          case rel => exact ⟨k + 1, by omega, by go_num, HT2.out, by first | rfl | trivial⟩
          case measure => simp [intOf]; omega
        · rw [hdx] at HDx
          have HA : Hid (s.all isDg = false) := by
            rw [Hid, ← Bool.not_eq_true]
            intro q
            rw [List.all_eq_true.1 q x Hm.out] at hdx
            cases hdx
          have HB2 := Lib.hid (HB.out false HA.out)
          clear hdx
          go_wp2_with (go_at_call 182; (with_reducible refine (HDx.out _).mono ?_); rintro e w1 ⟨rfl, rfl⟩)
          go_ret
          exact ⟨by rw [HB2.out]; rfl, rfl⟩
      · obtain rfl : k = s.length := by omega
        have HA : Hid (s.all isDg = true) := by
          rw [Hid, List.all_eq_true]
          intro c hc
          exact Hd.out c (by rw [List.take_length]; exact hc)
        have HB2 := Lib.hid (HB.out true HA.out)
        go_wp2_with fail
        go_ret
        exact ⟨by rw [HB2.out]; rfl, rfl⟩
set_option maxRecDepth 100000 in
theorem rwhole_c (s : List UInt8) (b : Bool) (w : World) (hs : s.length ≤ 100000) (hb : whB s = b) :
    Calls Tryz.prog 152 #[.string ⟨s.toArray⟩] w fun e w' => e = .returned (.bool b) ∧ w = w' := by
  subst hb
  by_cases h1 : s = []
  · subst h1
    have hb : whB [] = false := rfl
    rw [hb]
    go_enter Tryz.func152, Tryz.ntmps152
    go_wp2
    go_ret
    exact ⟨rfl, rfl⟩
  · have hl := List.length_pos_iff.2 h1
    by_cases hz : s.head? = some 48 ∧ 1 < s.length
    · have hb : whB s = false := by
        rw [← Bool.not_eq_true, whB_iff]
        exact fun q => q.2.1 hz
      rw [hb]
      obtain ⟨q1, q2⟩ := hz
      have t0 : (s == []) = false := by simpa using h1
      have hs0 : s[0] = 48 := by
        rw [List.head?_eq_getElem?, List.getElem?_eq_getElem hl] at q1
        exact Option.some.inj q1
      have b0 := bget s 0 hl 48 hs0.symm
      have d3 : decide (1 < (s.length : Int)) = true := by simp; omega
      clear h1 q1 hs0 hb
      go_enter Tryz.func152, Tryz.ntmps152
      go_wp2
      go_ret
      exact ⟨rfl, rfl⟩
    · exact rwhole_loop s w (by omega) hs hz
end Go.Proofs.YtgndogpgfgliaaaGreatDoor
/- Recurrence rules: the reference's numbers: ref18.Number (short texts), ref30.Number. -/
namespace Go.Proofs.YtgndogpgfgliaaaGreatDoor
set_option linter.unusedVariables false
set_option linter.unnecessarySimpa false
set_option linter.unusedSimpArgs false
open Go.RowKit

def mnB (s : List UInt8) : Bool := decide (1 < s.length) && (s.head? == some 45) && !(s[1]? == some 48)
def dgT (s : List UInt8) : List UInt8 := if mnB s then s.tail else s
theorem val9 {l : List UInt8} (h : l.length ≤ 9) (hd : ∀ c ∈ l, isDg c = true) : val l ≤ 999999999 := by
  have g2 := val_lt l hd
  have g4 : (10 : Nat) ^ l.length ≤ 10 ^ 9 := Nat.pow_le_pow_right (by omega) h
  have g5 : (10 : Nat) ^ 9 = 1000000000 := rfl
  omega
theorem num_wh {s : List UInt8} (hl : s.length ≤ 10) (h10 : s.length = 10 → s.head? = some 45) :
    numZ s = (if whB (dgT s) = true then some (if mnB s then -(val (dgT s) : Int) else (val (dgT s) : Int)) else none) ∧ (whB (dgT s) = true → (dgT s).length ≤ 9) := by
  cases s with
  | nil => exact ⟨rfl, fun h => by cases h⟩
  | cons c r =>
    by_cases hc : c = 45
    · subst hc
      cases r with
      | nil => exact ⟨rfl, fun h => by cases h⟩
      | cons d q =>
        by_cases hd : d = 48
        · subst hd
          have hm : mnB (45 :: 48 :: q) = false := by unfold mnB; simp
          have hw : whB (dgT (45 :: 48 :: q)) = false := by
            unfold dgT whB
            rw [hm]
            have : isDg 45 = false := by decide
            simp [this]
          rw [hw]
          refine ⟨?_, fun h => by cases h⟩
          unfold numZ numZB numT
          simp
        · have hm : mnB (45 :: d :: q) = true := by unfold mnB; simp [hd]
          have ht : dgT (45 :: d :: q) = d :: q := by unfold dgT; rw [hm]; rfl
          rw [ht, hm]
          have h9 : (d :: q).length ≤ 9 := by simp at hl ⊢; omega
          refine ⟨?_, fun _ => h9⟩
          have hnT : numT (45 :: d :: q) = d :: q := by unfold numT; simp
          unfold numZ
          have hB : numZB (45 :: d :: q) = whB (d :: q) := by
            unfold numZB whB
            rw [hnT]
            have e1 : ((d :: q).head? == some 48) = false := by simp [hd]
            rw [e1]
            by_cases ha : (d :: q).all isDg = true
            · have := val9 h9 (List.all_eq_true.1 ha)
              simp [ha, this]
            · simp only [Bool.not_eq_true] at ha
              simp [ha]
          rw [hB, hnT]
          rfl
    · have hm : mnB (c :: r) = false := by unfold mnB; simp [hc]
      have ht : dgT (c :: r) = c :: r := by unfold dgT; rw [hm]; rfl
      rw [ht, hm]
      have h9 : (c :: r).length ≤ 9 := by
        rcases Nat.lt_or_ge (c :: r).length 10 with q | q
        · omega
        · have := h10 (by omega)
          simp [hc] at this
      refine ⟨?_, fun _ => h9⟩
      have hnT : numT (c :: r) = c :: r := by unfold numT; simp [hc]
      unfold numZ
      have hB : numZB (c :: r) = whB (c :: r) := by
        unfold numZB whB
        rw [hnT]
        have e1 : ((c :: r).head? == some 45) = false := by simp [hc]
        rw [e1]
        by_cases ha : (c :: r).all isDg = true
        · have := val9 h9 (List.all_eq_true.1 ha)
          simp [ha, this]
        · simp only [Bool.not_eq_true] at ha
          simp [ha]
      rw [hB, hnT]
      simp [hc]
set_option maxRecDepth 100000 in
set_option maxHeartbeats 4000000 in
theorem rnum18_c (s : List UInt8) (w : World) (hl : s.length ≤ 10) (h10 : s.length = 10 → s.head? = some 45) :
    Calls Tryz.prog 109 #[.string ⟨s.toArray⟩, .int .i64 (-999999999), .int .i64 999999999] w fun e w' => (∃ ec : Int, e = .returned (.tuple #[.int .i64 ((numZ s).getD 0), .int .i64 ec]) ∧ (ec == 0) = (numZ s).isSome) ∧ w = w' := by
  obtain ⟨hz, h9⟩ := num_wh hl h10
  obtain ⟨D, hD⟩ : ∃ D, D = dgT s := ⟨_, rfl⟩
  obtain ⟨bm, hbm⟩ : ∃ bm, bm = mnB s := ⟨_, rfl⟩
  obtain ⟨wb, hwb⟩ : ∃ wb, wb = whB (dgT s) := ⟨_, rfl⟩
  rw [← hwb, ← hD, ← hbm] at hz
  rw [← hwb, ← hD] at h9
  have hDs : D = if bm then s.tail else s := by rw [hD, hbm]; rfl
  have hDl : D.length ≤ 10 := by rw [hDs]; split; (simp; omega); exact hl
  have HWh := Lib.hid (fun w' => rwhole_c D wb w' (by omega) (by rw [hwb, hD]))
  have HNn : Hid (wb = false → numZ s = none) := fun q => by rw [hz, q]; rfl
  have HNs : Hid (wb = true → numZ s = some (if bm then -(val D : Int) else (val D : Int))) := fun q => by rw [hz, q]; rfl
  have HDd : Hid (wb = true → (∀ c ∈ D, isDg c = true) ∧ D.length ≤ 9) := fun q => ⟨by
    have := (whB_iff D).1 (by rw [hD, ← hwb, q])
    exact List.all_eq_true.1 this.2.2, h9 q⟩
  clear hz h9 hwb hD h10
  unfold mnB at hbm
  by_cases h1 : 1 < s.length
  · have hlt1 : decide ((1 : Int) < (s.length : Int)) = true := by simp; omega
    have h0 : 0 < s.length := by omega
    obtain ⟨c0, hc0⟩ : ∃ c, c = s[0] := ⟨_, rfl⟩
    obtain ⟨c1, hc1⟩ : ∃ c, c = s[1] := ⟨_, rfl⟩
    have b0 := bget s 0 h0 c0 hc0
    have b1 := bget s 1 h1 c1 hc1
    have e0 : s.head? = some c0 := by rw [List.head?_eq_getElem?, List.getElem?_eq_getElem h0, ← hc0]
    have e1 : s[1]? = some c1 := by rw [List.getElem?_eq_getElem h1, ← hc1]
    have tb := bdrop s 1
    rw [e0, e1] at hbm
    by_cases q0 : c0 = 45
    · have z0 : ((c0.toNat : Int) == 45) = true := by rw [q0]; rfl
      by_cases q1 : c1 = 48
      · have z1 : ((c1.toNat : Int) == 48) = true := by rw [q1]; rfl
        have z2 : ((c1.toNat : Int) != 48) = false := by rw [bne, z1]; rfl
        have hb : bm = false := by rw [hbm, q1]; simp
        subst hb
        rw [if_neg (by simp)] at hDs
        subst hDs
        clear hbm hc0 hc1 e0 e1 tb q0 q1
        go_enter Tryz.func109, Tryz.ntmps109
        go_upto_region 5 with fail
        skip
        cases wb with
        | false =>
          have hn := HNn.out rfl
          go_wp2_with (go_at_call 152; (with_reducible refine (HWh.out _).mono ?_); rintro e w1 ⟨rfl, rfl⟩)
          go_ret2
          exact ⟨⟨3, by rw [hn]; rfl, by rw [hn]; rfl⟩, rfl⟩
        | true =>
          have hn := Lib.hid (HNs.out rfl)
          obtain ⟨hDd, hD9⟩ := HDd.out rfl
          have HDd2 := Lib.hid hDd
          clear hDd HNn HNs HDd
          go_upto_region 9 with (go_at_call 152; (with_reducible refine (HWh.out _).mono ?_); rintro e w1 ⟨rfl, rfl⟩)
          go_loopw [10, 11] (fun n i wr => ∃ j : Nat, j ≤ D.length ∧ n = .int .i64 (-(val (D.take j) : Int)) ∧ i = .int .i64 (j : Int) ∧ w = wr) (fun _ i _ => D.length - (intOf i).toNat)
          case atStart => exact ⟨0, Nat.zero_le _, rfl, rfl, rfl⟩
          case round =>
            obtain ⟨j, hj, rfl, rfl, rfl⟩ := hrel
            have hv9 : val (D.take j) ≤ 999999999 := by
              have g2 := val_lt (D.take j) (fun c hc => HDd2.out c (List.mem_of_mem_take hc))
              have g3 : (D.take j).length ≤ 9 := by rw [List.length_take]; omega
              have g4 : (10 : Nat) ^ (D.take j).length ≤ 10 ^ 9 := Nat.pow_le_pow_right (by omega) g3
              have g5 : (10 : Nat) ^ 9 = 1000000000 := rfl
              omega
            by_cases hlt : j < D.length
            · obtain ⟨c, hc⟩ : ∃ c, c = D[j] := ⟨_, rfl⟩
              have bg := bget D j hlt c hc
              have hv0 := val_take_succ D j hlt
              have hcd := isDg_iff.1 (HDd2.out _ (List.getElem_mem hlt))
              rw [← hc] at hv0 hcd
              clear hc
              obtain ⟨d, hdd⟩ : ∃ d : Nat, c.toNat = d + 48 := ⟨c.toNat - 48, by omega⟩
              have hd9 : d ≤ 9 := by omega
              have hv1 : val (D.take (j + 1)) = 10 * val (D.take j) + d := by rw [hv0, hdd, Nat.add_sub_cancel]
              have Hv1 := Lib.hid hv1
              have hsub : (c.toNat : Int) - 48 = (d : Int) := by omega
              have htd := tdiv_dg d hd9
              obtain ⟨V, hV⟩ : ∃ V, V = val (D.take j) := ⟨_, rfl⟩
              rw [← hV] at Hv1 hv9 ⊢
              obtain ⟨q, hq⟩ : ∃ q, q = Int.tdiv (-9223372036854775808 + (d : Int)) 10 := ⟨_, rfl⟩
              have hnq : ¬ -(V : Int) < q := by rw [hq, htd]; omega
              have tq : decide (-(V : Int) < q) = false := by simpa using hnq
              rw [hq] at tq
              clear hV hv0 hv1 htd hnq hq
              go_wp2_with fail
              go_roundw
              case rel => exact ⟨j + 1, by omega, by rw [Hv1.out]; go_num, by go_num, by first | rfl | trivial⟩
              case measure => simp [intOf]; omega
            · obtain rfl : j = D.length := by omega
              rw [List.take_length] at hv9 ⊢
              generalize val D = V at *
              have tm : (-(V : Int) == -9223372036854775808) = false := by rw [beq_eq_false_iff_ne]; omega
              have t1 : decide (-(V : Int) < -999999999) = false := decide_eq_false (by omega)
              have t2 : decide ((999999999 : Int) < -(V : Int)) = false := decide_eq_false (by omega)
              have t3 : decide ((V : Int) < -999999999) = false := decide_eq_false (by omega)
              have t4 : decide ((999999999 : Int) < (V : Int)) = false := decide_eq_false (by omega)
              have t5 : (0 : Int) - -(V : Int) = (V : Int) := by omega
              have t6 : - -(V : Int) = (V : Int) := by omega
              go_wp2_with fail
              go_ret2
              exact ⟨⟨0, by rw [hn.out]; rfl, by rw [hn.out]; rfl⟩, rfl⟩
      · have z1 : ((c1.toNat : Int) == 48) = false := by
          rw [beq_eq_false_iff_ne]
          intro q
          exact q1 (UInt8.toNat_inj.1 (by have : (48 : UInt8).toNat = 48 := rfl; omega))
        have z2 : ((c1.toNat : Int) != 48) = true := by rw [bne, z1]; rfl
        have hb : bm = true := by rw [hbm, q0]; simp [q1, h1]
        subst hb
        rw [if_pos rfl] at hDs
        rw [List.drop_one, ← hDs] at tb
        have hsl : D.length = s.length - 1 := by rw [hDs]; simp
        clear hbm hc0 hc1 e0 e1 q0 q1 hDs
        go_enter Tryz.func109, Tryz.ntmps109
        go_upto_region 5 with fail
        skip
        cases wb with
        | false =>
          have hn := HNn.out rfl
          go_wp2_with (go_at_call 152; (with_reducible refine (HWh.out _).mono ?_); rintro e w1 ⟨rfl, rfl⟩)
          go_ret2
          exact ⟨⟨3, by rw [hn]; rfl, by rw [hn]; rfl⟩, rfl⟩
        | true =>
          have hn := Lib.hid (HNs.out rfl)
          obtain ⟨hDd, hD9⟩ := HDd.out rfl
          have HDd2 := Lib.hid hDd
          clear hDd HNn HNs HDd
          go_upto_region 9 with (go_at_call 152; (with_reducible refine (HWh.out _).mono ?_); rintro e w1 ⟨rfl, rfl⟩)
          go_loopw [10, 11] (fun n i wr => ∃ j : Nat, j ≤ D.length ∧ n = .int .i64 (-(val (D.take j) : Int)) ∧ i = .int .i64 (j : Int) ∧ w = wr) (fun _ i _ => D.length - (intOf i).toNat)
          case atStart => exact ⟨0, Nat.zero_le _, rfl, rfl, rfl⟩
          case round =>
            obtain ⟨j, hj, rfl, rfl, rfl⟩ := hrel
            have hv9 : val (D.take j) ≤ 999999999 := by
              have g2 := val_lt (D.take j) (fun c hc => HDd2.out c (List.mem_of_mem_take hc))
              have g3 : (D.take j).length ≤ 9 := by rw [List.length_take]; omega
              have g4 : (10 : Nat) ^ (D.take j).length ≤ 10 ^ 9 := Nat.pow_le_pow_right (by omega) g3
              have g5 : (10 : Nat) ^ 9 = 1000000000 := rfl
              omega
            by_cases hlt : j < D.length
            · obtain ⟨c, hc⟩ : ∃ c, c = D[j] := ⟨_, rfl⟩
              have bg := bget D j hlt c hc
              have hv0 := val_take_succ D j hlt
              have hcd := isDg_iff.1 (HDd2.out _ (List.getElem_mem hlt))
              rw [← hc] at hv0 hcd
              clear hc
              obtain ⟨d, hdd⟩ : ∃ d : Nat, c.toNat = d + 48 := ⟨c.toNat - 48, by omega⟩
              have hd9 : d ≤ 9 := by omega
              have hv1 : val (D.take (j + 1)) = 10 * val (D.take j) + d := by rw [hv0, hdd, Nat.add_sub_cancel]
              have Hv1 := Lib.hid hv1
              have hsub : (c.toNat : Int) - 48 = (d : Int) := by omega
              have htd := tdiv_dg d hd9
              obtain ⟨V, hV⟩ : ∃ V, V = val (D.take j) := ⟨_, rfl⟩
              rw [← hV] at Hv1 hv9 ⊢
              obtain ⟨q, hq⟩ : ∃ q, q = Int.tdiv (-9223372036854775808 + (d : Int)) 10 := ⟨_, rfl⟩
              have hnq : ¬ -(V : Int) < q := by rw [hq, htd]; omega
              have tq : decide (-(V : Int) < q) = false := by simpa using hnq
              rw [hq] at tq
              clear hV hv0 hv1 htd hnq hq
              go_wp2_with fail
              go_roundw
              case rel => exact ⟨j + 1, by omega, by rw [Hv1.out]; go_num, by go_num, by first | rfl | trivial⟩
              case measure => simp [intOf]; omega
            · obtain rfl : j = D.length := by omega
              rw [List.take_length] at hv9 ⊢
              generalize val D = V at *
              have tm : (-(V : Int) == -9223372036854775808) = false := by rw [beq_eq_false_iff_ne]; omega
              have t1 : decide (-(V : Int) < -999999999) = false := decide_eq_false (by omega)
              have t2 : decide ((999999999 : Int) < -(V : Int)) = false := decide_eq_false (by omega)
              have t3 : decide ((V : Int) < -999999999) = false := decide_eq_false (by omega)
              have t4 : decide ((999999999 : Int) < (V : Int)) = false := decide_eq_false (by omega)
              have t5 : (0 : Int) - -(V : Int) = (V : Int) := by omega
              have t6 : - -(V : Int) = (V : Int) := by omega
              go_wp2_with fail
              go_ret2
              exact ⟨⟨0, by rw [hn.out]; rfl, by rw [hn.out]; rfl⟩, rfl⟩
    · have z0 : ((c0.toNat : Int) == 45) = false := by
        rw [beq_eq_false_iff_ne]
        intro q
        exact q0 (UInt8.toNat_inj.1 (by have : (45 : UInt8).toNat = 45 := rfl; omega))
      have hb : bm = false := by rw [hbm]; simp [q0]
      subst hb
      rw [if_neg (by simp)] at hDs
      subst hDs
      clear hbm hc0 hc1 e0 e1 tb q0 b1
      go_enter Tryz.func109, Tryz.ntmps109
      go_upto_region 5 with fail
      skip
      cases wb with
      | false =>
        have hn := HNn.out rfl
        go_wp2_with (go_at_call 152; (with_reducible refine (HWh.out _).mono ?_); rintro e w1 ⟨rfl, rfl⟩)
        go_ret2
        exact ⟨⟨3, by rw [hn]; rfl, by rw [hn]; rfl⟩, rfl⟩
      | true =>
        have hn := Lib.hid (HNs.out rfl)
        obtain ⟨hDd, hD9⟩ := HDd.out rfl
        have HDd2 := Lib.hid hDd
        clear hDd HNn HNs HDd
        go_upto_region 9 with (go_at_call 152; (with_reducible refine (HWh.out _).mono ?_); rintro e w1 ⟨rfl, rfl⟩)
        go_loopw [10, 11] (fun n i wr => ∃ j : Nat, j ≤ D.length ∧ n = .int .i64 (-(val (D.take j) : Int)) ∧ i = .int .i64 (j : Int) ∧ w = wr) (fun _ i _ => D.length - (intOf i).toNat)
        case atStart => exact ⟨0, Nat.zero_le _, rfl, rfl, rfl⟩
        case round =>
          obtain ⟨j, hj, rfl, rfl, rfl⟩ := hrel
          have hv9 : val (D.take j) ≤ 999999999 := by
            have g2 := val_lt (D.take j) (fun c hc => HDd2.out c (List.mem_of_mem_take hc))
            have g3 : (D.take j).length ≤ 9 := by rw [List.length_take]; omega
            have g4 : (10 : Nat) ^ (D.take j).length ≤ 10 ^ 9 := Nat.pow_le_pow_right (by omega) g3
            have g5 : (10 : Nat) ^ 9 = 1000000000 := rfl
            omega
          by_cases hlt : j < D.length
          · obtain ⟨c, hc⟩ : ∃ c, c = D[j] := ⟨_, rfl⟩
            have bg := bget D j hlt c hc
            have hv0 := val_take_succ D j hlt
            have hcd := isDg_iff.1 (HDd2.out _ (List.getElem_mem hlt))
            rw [← hc] at hv0 hcd
            clear hc
            obtain ⟨d, hdd⟩ : ∃ d : Nat, c.toNat = d + 48 := ⟨c.toNat - 48, by omega⟩
            have hd9 : d ≤ 9 := by omega
            have hv1 : val (D.take (j + 1)) = 10 * val (D.take j) + d := by rw [hv0, hdd, Nat.add_sub_cancel]
            have Hv1 := Lib.hid hv1
            have hsub : (c.toNat : Int) - 48 = (d : Int) := by omega
            have htd := tdiv_dg d hd9
            obtain ⟨V, hV⟩ : ∃ V, V = val (D.take j) := ⟨_, rfl⟩
            rw [← hV] at Hv1 hv9 ⊢
            obtain ⟨q, hq⟩ : ∃ q, q = Int.tdiv (-9223372036854775808 + (d : Int)) 10 := ⟨_, rfl⟩
            have hnq : ¬ -(V : Int) < q := by rw [hq, htd]; omega
            have tq : decide (-(V : Int) < q) = false := by simpa using hnq
            rw [hq] at tq
            clear hV hv0 hv1 htd hnq hq
            go_wp2_with fail
            go_roundw
            case rel => exact ⟨j + 1, by omega, by rw [Hv1.out]; go_num, by go_num, by first | rfl | trivial⟩
            case measure => simp [intOf]; omega
          · obtain rfl : j = D.length := by omega
            rw [List.take_length] at hv9 ⊢
            generalize val D = V at *
            have tm : (-(V : Int) == -9223372036854775808) = false := by rw [beq_eq_false_iff_ne]; omega
            have t1 : decide (-(V : Int) < -999999999) = false := decide_eq_false (by omega)
            have t2 : decide ((999999999 : Int) < -(V : Int)) = false := decide_eq_false (by omega)
            have t3 : decide ((V : Int) < -999999999) = false := decide_eq_false (by omega)
            have t4 : decide ((999999999 : Int) < (V : Int)) = false := decide_eq_false (by omega)
            have t5 : (0 : Int) - -(V : Int) = (V : Int) := by omega
            have t6 : - -(V : Int) = (V : Int) := by omega
            go_wp2_with fail
            go_ret2
            exact ⟨⟨0, by rw [hn.out]; rfl, by rw [hn.out]; rfl⟩, rfl⟩
  · have hlt1 : decide ((1 : Int) < (s.length : Int)) = false := decide_eq_false (by omega)
    have h0 : True := trivial
    have hb : bm = false := by rw [hbm]; simp [h1]
    subst hb
    rw [if_neg (by simp)] at hDs
    subst hDs
    clear hbm
    go_enter Tryz.func109, Tryz.ntmps109
    go_upto_region 5 with fail
    skip
    cases wb with
    | false =>
      have hn := HNn.out rfl
      go_wp2_with (go_at_call 152; (with_reducible refine (HWh.out _).mono ?_); rintro e w1 ⟨rfl, rfl⟩)
      go_ret2
      exact ⟨⟨3, by rw [hn]; rfl, by rw [hn]; rfl⟩, rfl⟩
    | true =>
      have hn := Lib.hid (HNs.out rfl)
      obtain ⟨hDd, hD9⟩ := HDd.out rfl
      have HDd2 := Lib.hid hDd
      clear hDd HNn HNs HDd
      go_upto_region 9 with (go_at_call 152; (with_reducible refine (HWh.out _).mono ?_); rintro e w1 ⟨rfl, rfl⟩)
      go_loopw [10, 11] (fun n i wr => ∃ j : Nat, j ≤ D.length ∧ n = .int .i64 (-(val (D.take j) : Int)) ∧ i = .int .i64 (j : Int) ∧ w = wr) (fun _ i _ => D.length - (intOf i).toNat)
      case atStart => exact ⟨0, Nat.zero_le _, rfl, rfl, rfl⟩
      case round =>
        obtain ⟨j, hj, rfl, rfl, rfl⟩ := hrel
        have hv9 : val (D.take j) ≤ 999999999 := by
          have g2 := val_lt (D.take j) (fun c hc => HDd2.out c (List.mem_of_mem_take hc))
          have g3 : (D.take j).length ≤ 9 := by rw [List.length_take]; omega
          have g4 : (10 : Nat) ^ (D.take j).length ≤ 10 ^ 9 := Nat.pow_le_pow_right (by omega) g3
          have g5 : (10 : Nat) ^ 9 = 1000000000 := rfl
          omega
        by_cases hlt : j < D.length
        · obtain ⟨c, hc⟩ : ∃ c, c = D[j] := ⟨_, rfl⟩
          have bg := bget D j hlt c hc
          have hv0 := val_take_succ D j hlt
          have hcd := isDg_iff.1 (HDd2.out _ (List.getElem_mem hlt))
          rw [← hc] at hv0 hcd
          clear hc
          obtain ⟨d, hdd⟩ : ∃ d : Nat, c.toNat = d + 48 := ⟨c.toNat - 48, by omega⟩
          have hd9 : d ≤ 9 := by omega
          have hv1 : val (D.take (j + 1)) = 10 * val (D.take j) + d := by rw [hv0, hdd, Nat.add_sub_cancel]
          have Hv1 := Lib.hid hv1
          have hsub : (c.toNat : Int) - 48 = (d : Int) := by omega
          have htd := tdiv_dg d hd9
          obtain ⟨V, hV⟩ : ∃ V, V = val (D.take j) := ⟨_, rfl⟩
          rw [← hV] at Hv1 hv9 ⊢
          obtain ⟨q, hq⟩ : ∃ q, q = Int.tdiv (-9223372036854775808 + (d : Int)) 10 := ⟨_, rfl⟩
          have hnq : ¬ -(V : Int) < q := by rw [hq, htd]; omega
          have tq : decide (-(V : Int) < q) = false := by simpa using hnq
          rw [hq] at tq
          clear hV hv0 hv1 htd hnq hq
          go_wp2_with fail
          go_roundw
          case rel => exact ⟨j + 1, by omega, by rw [Hv1.out]; go_num, by go_num, by first | rfl | trivial⟩
          case measure => simp [intOf]; omega
        · obtain rfl : j = D.length := by omega
          rw [List.take_length] at hv9 ⊢
          generalize val D = V at *
          have tm : (-(V : Int) == -9223372036854775808) = false := by rw [beq_eq_false_iff_ne]; omega
          have t1 : decide (-(V : Int) < -999999999) = false := decide_eq_false (by omega)
          have t2 : decide ((999999999 : Int) < -(V : Int)) = false := decide_eq_false (by omega)
          have t3 : decide ((V : Int) < -999999999) = false := decide_eq_false (by omega)
          have t4 : decide ((999999999 : Int) < (V : Int)) = false := decide_eq_false (by omega)
          have t5 : (0 : Int) - -(V : Int) = (V : Int) := by omega
          have t6 : - -(V : Int) = (V : Int) := by omega
          go_wp2_with fail
          go_ret2
          exact ⟨⟨0, by rw [hn.out]; rfl, by rw [hn.out]; rfl⟩, rfl⟩
end Go.Proofs.YtgndogpgfgliaaaGreatDoor
/- Recurrence rules: the reference's number, Split. -/
namespace Go.Proofs.YtgndogpgfgliaaaGreatDoor
set_option linter.unusedVariables false
set_option linter.unnecessarySimpa false
set_option linter.unusedSimpArgs false
open Go.RowKit

set_option maxRecDepth 100000 in
theorem rnum_c (s : List UInt8) (w : World) (hs : s.length ≤ 100000) :
    Calls Tryz.prog 59 #[.string ⟨s.toArray⟩] w fun e w' => e = .returned (.tuple #[.int .i64 ((numZ s).getD 0), .bool (numZ s).isSome]) ∧ w = w' := by
  by_cases h : 10 < s.length ∨ (s.length = 10 ∧ s.head? ≠ some 45)
  · have hn := numZ_long h
    rw [hn]
    by_cases h1 : 10 < s.length
    · have t1 : decide ((10 : Int) < (s.length : Int)) = true := decide_eq_true (by omega)
      clear h hn
      go_enter Tryz.func59, Tryz.ntmps59
      go_wp2
      go_ret2
      exact ⟨rfl, rfl⟩
    · obtain ⟨h2, h3⟩ : s.length = 10 ∧ s.head? ≠ some 45 := by
        rcases h with q | q
        · exact absurd q h1
        · exact q
      have t1 : decide ((10 : Int) < (s.length : Int)) = false := decide_eq_false (by omega)
      have t2 : ((s.length : Int) == 10) = true := by rw [beq_iff_eq]; omega
      have h0 : 0 < s.length := by omega
      obtain ⟨c, hc⟩ : ∃ c, c = s[0] := ⟨_, rfl⟩
      have b0 := bget s 0 h0 c hc
      have t3 : ((c.toNat : Int) != 45) = true := by
        rw [bne_iff_ne]
        intro q
        refine h3 ?_
        rw [List.head?_eq_getElem?, List.getElem?_eq_getElem h0, ← hc]
        exact congrArg some (UInt8.toNat_inj.1 (by have : (45 : UInt8).toNat = 45 := rfl; omega))
      clear h hn h3 hc
      go_enter Tryz.func59, Tryz.ntmps59
      go_wp2
      go_ret2
      exact ⟨rfl, rfl⟩
  · have hl : s.length ≤ 10 := by omega
    have h10 : s.length = 10 → s.head? = some 45 := fun q => by
      by_cases e : s.head? = some 45
      · exact e
      · exact absurd (Or.inr ⟨q, e⟩) h
    obtain ⟨n, hn⟩ : ∃ n, n = (numZ s).getD 0 := ⟨_, rfl⟩
    obtain ⟨b, hb⟩ : ∃ b, b = (numZ s).isSome := ⟨_, rfl⟩
    have HZ : Hid (∀ w', Calls Tryz.prog 109 #[.string ⟨s.toArray⟩, .int .i64 (-999999999), .int .i64 999999999] w' fun e w'' => (∃ ec : Int, e = .returned (.tuple #[.int .i64 n, .int .i64 ec]) ∧ (ec == 0) = b) ∧ w' = w'') := fun w' => by
      rw [hn, hb]
      exact rnum18_c s w' hl h10
    rw [← hn, ← hb]
    have t1 : decide ((10 : Int) < (s.length : Int)) = false := decide_eq_false (by omega)
    by_cases h2 : s.length = 10
    · have t2 : ((s.length : Int) == 10) = true := by rw [beq_iff_eq]; omega
      have h0 : 0 < s.length := by omega
      obtain ⟨c, hc⟩ : ∃ c, c = s[0] := ⟨_, rfl⟩
      have b0 := bget s 0 h0 c hc
      have hc45 : c = 45 := by
        have := h10 h2
        rw [List.head?_eq_getElem?, List.getElem?_eq_getElem h0, ← hc] at this
        exact Option.some.inj this
      have t3 : ((c.toNat : Int) != 45) = false := by rw [hc45]; rfl
      clear hn hb h hl h10 hc hc45
      go_enter Tryz.func59, Tryz.ntmps59
      go_wp2_with (go_at_call 109; (with_reducible refine (HZ.out _).mono ?_); rintro e w1 ⟨⟨ec, rfl, hec⟩, rfl⟩)
      go_ret2
      refine ⟨?_, rfl⟩
      rw [← hec]
      rfl
    · have t2 : ((s.length : Int) == 10) = false := by rw [beq_eq_false_iff_ne]; omega
      clear hn hb h hl h10
      go_enter Tryz.func59, Tryz.ntmps59
      go_wp2_with (go_at_call 109; (with_reducible refine (HZ.out _).mono ?_); rintro e w1 ⟨⟨ec, rfl, hec⟩, rfl⟩)
      go_ret2
      refine ⟨?_, rfl⟩
      rw [← hec]
      rfl
end Go.Proofs.YtgndogpgfgliaaaGreatDoor
