/- The walks of the reference's numbers and items. -/
import Derived.Test.YtbagbnceiadpdaaDoorWrd6
namespace Go.Proofs.YtbagbnceiadpdaaDoor
set_option linter.unusedVariables false
set_option linter.unusedSimpArgs false
open Go.RowKit

set_option maxRecDepth 100000 in
set_option maxHeartbeats 1000000 in
theorem rnum_loop (s : List UInt8) (w : World) (h1 : 1 ≤ s.length) (h2 : s.length ≤ 9) (hz : ¬ (s.head? = some 48 ∧ 1 < s.length)) :
    Calls Tryd.prog 45 #[.string ⟨s.toArray⟩, .int .i64 9] w fun e w' => e = .returned (.tuple #[.int .i64 (numN s : Nat), .bool (numB s)]) ∧ w = w' := by
  have HB : Hid (∀ q, s.all isDg = q → numB s = q) := by
    intro q hq
    rw [← hq, Bool.eq_iff_iff, numB_iff]
    exact ⟨fun h => h.2.2.2, fun h => ⟨h1, h2, hz, h⟩⟩
  have h0 : 0 < s.length := by omega
  have hne : s ≠ [] := by intro e; rw [e] at h0; simp at h0
  obtain ⟨c, hc⟩ : ∃ c, c = s[0] := ⟨_, rfl⟩
  have b0 := bget s 0 h0 c hc
  have t0 : (s == []) = false := by simpa using hne
  have d2 : decide (9 < (s.length : Int)) = false := by simp; omega
  have hcz : ¬ (c = 48 ∧ 1 < s.length) := by
    rintro ⟨q1, q2⟩
    refine hz ⟨?_, q2⟩
    rw [List.head?_eq_getElem?, List.getElem?_eq_getElem h0, ← hc, q1]
  clear hc hz
  by_cases hl1 : 1 < s.length
  · have d3 : decide (1 < (s.length : Int)) = true := by simp; omega
    have q1 : ((c.toNat : Int) == 48) = false := by
      rw [beq_eq_false_iff_ne]; intro e; exact hcz ⟨UInt8.toNat_inj.1 (by show c.toNat = 48; omega), hl1⟩
    clear hcz hne
    go_enter Tryd.func45, Tryd.ntmps45
    go_wp2_with fail
    go_loop [6, 7] (fun n i => ∃ k : Nat, k ≤ s.length ∧ i = .int .i64 (k : Int) ∧ n = .int .i64 (val (s.take k) : Int) ∧ Hid (∀ c ∈ s.take k, isDg c = true)) (fun _ i => s.length - (intOf i).toNat)
    case atStart => exact ⟨0, by omega, rfl, rfl, by intro c hc; simp at hc⟩
    case round =>
      obtain ⟨k, hk, rfl, rfl, Hd⟩ := hrel
      have hv0 : val (s.take k) < 1000000000 := by
        have g2 := val_lt (s.take k) Hd.out
        have g3 : (s.take k).length ≤ 9 := by rw [List.length_take]; omega
        have g4 : (10 : Nat) ^ (s.take k).length ≤ 10 ^ 9 := Nat.pow_le_pow_right (by omega) g3
        have g5 : (10 : Nat) ^ 9 = 1000000000 := rfl
        omega
      obtain ⟨v, hv⟩ : ∃ v, v = val (s.take k) := ⟨_, rfl⟩
      rw [← hv] at hv0 ⊢
      have Hv := Lib.hid hv
      clear hv
      by_cases hlt : k < s.length
      · have Hs := val_take_succ s k hlt
        have Ht : Hid (s.take (k + 1) = s.take k ++ [s[k]]) := List.take_succ_eq_append_getElem hlt
        have Hm : Hid (s[k] ∈ s) := List.getElem_mem _
        obtain ⟨x, hx⟩ : ∃ x, x = s[k] := ⟨_, rfl⟩
        have hi := bget s k hlt x hx
        rw [← hx] at Hs Ht Hm
        rw [← Hv.out] at Hs
        have Hs := Lib.hid Hs
        clear hx
        rcases Bool.eq_false_or_eq_true (isDg x) with hdx | hdx
        · have hd2 := isDg_iff.1 hdx
          have e1 : ¬ (x.toNat : Int) < 48 := by omega
          have e2 : ¬ 57 < (x.toNat : Int) := by omega
          have e3 : 48 ≤ (x.toNat : Int) := by omega
          have e4 : (x.toNat : Int) ≤ 57 := by omega
          have Hdx := Lib.hid hdx
          clear hd2 hdx
          go_wp2
          go_round
          case rel => exact ⟨k + 1, by omega, by go_num, by rw [Hs.out]; congr 1; omega, by
            intro c hc
            rw [Ht.out] at hc
            rcases List.mem_append.1 hc with q | q
            · exact Hd.out c q
            · rw [List.mem_singleton.1 q]; exact Hdx.out⟩
          case measure => simp [intOf]; omega
        · have hn2 : ¬ (48 ≤ x.toNat ∧ x.toNat ≤ 57) := by rw [← isDg_iff, hdx]; simp
          have HA : Hid (s.all isDg = false) := by
            rw [Hid, ← Bool.not_eq_true]
            intro q
            rw [List.all_eq_true.1 q x Hm.out] at hdx
            cases hdx
          have HB2 := Lib.hid (HB.out false HA.out)
          have HN : Hid (numN s = 0) := by unfold Hid numN; rw [HB2.out]; rfl
          clear hdx
          by_cases e1 : (x.toNat : Int) < 48
          · clear hn2
            go_wp2
            go_ret2
            exact ⟨by rw [HN.out, HB2.out]; rfl, rfl⟩
          · have e2 : 57 < (x.toNat : Int) := by omega
            clear hn2
            go_wp2
            go_ret2
            exact ⟨by rw [HN.out, HB2.out]; rfl, rfl⟩
      · obtain rfl : k = s.length := by omega
        have HA : Hid (s.all isDg = true) := by
          rw [Hid, List.all_eq_true]
          intro c hc
          exact Hd.out c (by rw [List.take_length]; exact hc)
        have HB2 := Lib.hid (HB.out true HA.out)
        have HN : Hid (v = numN s) := by unfold Hid numN; rw [HB2.out, if_pos rfl, Hv.out, List.take_length]
        go_wp2
        go_ret2
        exact ⟨by rw [HB2.out, ← HN.out]; rfl, rfl⟩
  · have d3 : decide (1 < (s.length : Int)) = false := by simp; omega
    clear hcz hne
    go_enter Tryd.func45, Tryd.ntmps45
    go_wp2_with fail
    go_loop [6, 7] (fun n i => ∃ k : Nat, k ≤ s.length ∧ i = .int .i64 (k : Int) ∧ n = .int .i64 (val (s.take k) : Int) ∧ Hid (∀ c ∈ s.take k, isDg c = true)) (fun _ i => s.length - (intOf i).toNat)
    case atStart => exact ⟨0, by omega, rfl, rfl, by intro c hc; simp at hc⟩
    case round =>
      obtain ⟨k, hk, rfl, rfl, Hd⟩ := hrel
      have hv0 : val (s.take k) < 1000000000 := by
        have g2 := val_lt (s.take k) Hd.out
        have g3 : (s.take k).length ≤ 9 := by rw [List.length_take]; omega
        have g4 : (10 : Nat) ^ (s.take k).length ≤ 10 ^ 9 := Nat.pow_le_pow_right (by omega) g3
        have g5 : (10 : Nat) ^ 9 = 1000000000 := rfl
        omega
      obtain ⟨v, hv⟩ : ∃ v, v = val (s.take k) := ⟨_, rfl⟩
      rw [← hv] at hv0 ⊢
      have Hv := Lib.hid hv
      clear hv
      by_cases hlt : k < s.length
      · have Hs := val_take_succ s k hlt
        have Ht : Hid (s.take (k + 1) = s.take k ++ [s[k]]) := List.take_succ_eq_append_getElem hlt
        have Hm : Hid (s[k] ∈ s) := List.getElem_mem _
        obtain ⟨x, hx⟩ : ∃ x, x = s[k] := ⟨_, rfl⟩
        have hi := bget s k hlt x hx
        rw [← hx] at Hs Ht Hm
        rw [← Hv.out] at Hs
        have Hs := Lib.hid Hs
        clear hx
        rcases Bool.eq_false_or_eq_true (isDg x) with hdx | hdx
        · have hd2 := isDg_iff.1 hdx
          have e1 : ¬ (x.toNat : Int) < 48 := by omega
          have e2 : ¬ 57 < (x.toNat : Int) := by omega
          have e3 : 48 ≤ (x.toNat : Int) := by omega
          have e4 : (x.toNat : Int) ≤ 57 := by omega
          have Hdx := Lib.hid hdx
          clear hd2 hdx
          go_wp2
          go_round
          case rel => exact ⟨k + 1, by omega, by go_num, by rw [Hs.out]; congr 1; omega, by
            intro c hc
            rw [Ht.out] at hc
            rcases List.mem_append.1 hc with q | q
            · exact Hd.out c q
            · rw [List.mem_singleton.1 q]; exact Hdx.out⟩
          case measure => simp [intOf]; omega
        · have hn2 : ¬ (48 ≤ x.toNat ∧ x.toNat ≤ 57) := by rw [← isDg_iff, hdx]; simp
          have HA : Hid (s.all isDg = false) := by
            rw [Hid, ← Bool.not_eq_true]
            intro q
            rw [List.all_eq_true.1 q x Hm.out] at hdx
            cases hdx
          have HB2 := Lib.hid (HB.out false HA.out)
          have HN : Hid (numN s = 0) := by unfold Hid numN; rw [HB2.out]; rfl
          clear hdx
          by_cases e1 : (x.toNat : Int) < 48
          · clear hn2
            go_wp2
            go_ret2
            exact ⟨by rw [HN.out, HB2.out]; rfl, rfl⟩
          · have e2 : 57 < (x.toNat : Int) := by omega
            clear hn2
            go_wp2
            go_ret2
            exact ⟨by rw [HN.out, HB2.out]; rfl, rfl⟩
      · obtain rfl : k = s.length := by omega
        have HA : Hid (s.all isDg = true) := by
          rw [Hid, List.all_eq_true]
          intro c hc
          exact Hd.out c (by rw [List.take_length]; exact hc)
        have HB2 := Lib.hid (HB.out true HA.out)
        have HN : Hid (v = numN s) := by unfold Hid numN; rw [HB2.out, if_pos rfl, Hv.out, List.take_length]
        go_wp2
        go_ret2
        exact ⟨by rw [HB2.out, ← HN.out]; rfl, rfl⟩
set_option maxRecDepth 100000 in
theorem rnum_c (s : List UInt8) (w : World) (hs : s.length ≤ 4000) :
    Calls Tryd.prog 45 #[.string ⟨s.toArray⟩, .int .i64 9] w fun e w' => e = .returned (.tuple #[.int .i64 (numN s : Nat), .bool (numB s)]) ∧ w = w' := by
  by_cases hn : s.length < 1 ∨ 9 < s.length ∨ (s.head? = some 48 ∧ 1 < s.length)
  · have hb : numB s = false := by
      rw [← Bool.not_eq_true, numB_iff]
      rintro ⟨a, b, c, _⟩
      rcases hn with q | q | q
      · omega
      · omega
      · exact c q
    have HN : Hid (numN s = 0) := by unfold Hid numN; rw [hb]; rfl
    by_cases h1 : s = []
    · subst h1
      clear hn
      go_enter Tryd.func45, Tryd.ntmps45
      go_wp2
      go_ret2
      exact ⟨by rw [HN.out, hb]; rfl, rfl⟩
    · have t0 : (s == []) = false := by simpa using h1
      have hl := List.length_pos_iff.2 h1
      by_cases h9 : 9 < s.length
      · have d2 : decide (9 < (s.length : Int)) = true := by simp; omega
        clear hn h1
        go_enter Tryd.func45, Tryd.ntmps45
        go_wp2
        go_ret2
        exact ⟨by rw [HN.out, hb]; rfl, rfl⟩
      · have d2 : decide (9 < (s.length : Int)) = false := by simp; omega
        obtain ⟨q1, q2⟩ : s.head? = some 48 ∧ 1 < s.length := by
          rcases hn with q | q | q
          · omega
          · omega
          · exact q
        have hs0 : s[0] = 48 := by
          rw [List.head?_eq_getElem?, List.getElem?_eq_getElem hl] at q1
          exact Option.some.inj q1
        have b0 := bget s 0 hl 48 hs0.symm
        have d3 : decide (1 < (s.length : Int)) = true := by simp; omega
        clear hn h1 q1 hs0
        go_enter Tryd.func45, Tryd.ntmps45
        go_wp2
        go_ret2
        exact ⟨by rw [HN.out, hb]; rfl, rfl⟩
  · exact rnum_loop s w (by omega) (by omega) (fun q => hn (.inr (.inr q)))
end Go.Proofs.YtbagbnceiadpdaaDoor
