/- The walks of the reference's items. -/
import Derived.Test.YtbagbnceiadpdaaDoorRef1
namespace Go.Proofs.YtbagbnceiadpdaaDoor
set_option linter.unusedVariables false
set_option linter.unusedSimpArgs false
open Go.RowKit

theorem btake (l : List UInt8) (k : Nat) : (⟨l.toArray⟩ : ByteArray).extract 0 k = ⟨(l.take k).toArray⟩ := by rw [bmid]; simp
theorem occ2 (s : List UInt8) (k : Nat) (h : k + 1 < s.length) : Lib.occAt s [46, 46] k = (decide (s[k] = 46) && decide (s[k + 1] = 46)) := by
  unfold Lib.occAt
  rw [List.drop_eq_getElem_cons (by omega), List.drop_eq_getElem_cons h]
  simp only [List.isPrefixOf, Bool.and_true]
  rw [Bool.eq_iff_iff]
  simp only [Bool.and_eq_true, beq_iff_eq, decide_eq_true_eq]
  constructor
  · rintro ⟨a, b⟩; exact ⟨a.symm, b.symm⟩
  · rintro ⟨a, b⟩; exact ⟨a.symm, b.symm⟩
theorem cut_at {s : List UInt8} {k : Nat} (hk : k + 1 < s.length) (hn : Lib.NoOcc s [46, 46] k) (ho : Lib.occAt s [46, 46] k = true) : Lib.cut s [46, 46] = (s.take k, s.drop (k + 2), true) := by
  have hi := Lib.index_hit hn (by omega) ho
  unfold Lib.cut
  rw [hi, if_pos (by omega)]
  simp
theorem cut_no {s : List UInt8} {k : Nat} (hk : s.length ≤ k + 1) (hn : Lib.NoOcc s [46, 46] k) : Lib.cut s [46, 46] = (s, [], false) := by
  have hi : Lib.index s [46, 46] = -1 := by
    refine Lib.index_none (fun j hj => ?_)
    rcases Nat.lt_or_ge j k with q | q
    · exact hn j q
    · rw [← Bool.not_eq_true]
      intro e
      rcases Lib.occAt_room e with h | h
      · simp at h; omega
      · cases h
  unfold Lib.cut
  rw [hi, if_neg (by omega)]
set_option maxRecDepth 100000 in
set_option maxHeartbeats 1000000 in
theorem item_c (s : List UInt8) (w : World) (hs : s.length ≤ 4000) :
    Calls Tryd.prog 46 #[.string ⟨s.toArray⟩] w fun e w' => e = .returned (.tuple #[.int .i64 (itLo s : Nat), .int .i64 (itHi s : Nat), .bool (itB s)]) ∧ w = w' := by
  go_enter Tryd.func46, Tryd.ntmps46
  go_wp2_with fail
  go_loop [5] (fun i => ∃ k : Nat, k ≤ s.length ∧ i = .int .i64 (k : Int) ∧ Hid (Lib.NoOcc s [46, 46] k)) (fun i => s.length - (intOf i).toNat)
  case atStart => exact ⟨0, by omega, rfl, Lib.NoOcc.zero _ _⟩
  case round =>
    obtain ⟨k, hk, rfl, Hn⟩ := hrel
    by_cases hlt : k + 1 < s.length
    · have Ho := Lib.hid (occ2 s k hlt)
      obtain ⟨x, hx⟩ : ∃ x, x = s[k] := ⟨_, rfl⟩
      obtain ⟨y, hy⟩ : ∃ y, y = s[k + 1] := ⟨_, rfl⟩
      have bx := bget s k (by omega) x hx
      have bby := bget s (k + 1) hlt y hy
      rw [← hx, ← hy] at Ho
      clear hx hy
      by_cases hxe : x = 46
      · have t1 : ((x.toNat : Int) == 46) = true := by rw [hxe]; rfl
        by_cases hye : y = 46
        · have t2 : ((y.toNat : Int) == 46) = true := by rw [hye]; rfl
          have Hc := Lib.hid (cut_at hlt Hn.out (by rw [Ho.out, hxe, hye]; rfl))
          have g1 := btake s k
          have g2 := bdrop s (k + 2)
          have Hlo : Hid (numN (s.take k) = itLo s) := by unfold Hid itLo; rw [Hc.out]
          have Hhi : Hid (numN (s.drop (k + 2)) = itHi s) := by unfold Hid itHi; rw [Hc.out]; rfl
          have Hb : Hid (itB s = (numB (s.take k) && numB (s.drop (k + 2)))) := by unfold Hid itB; rw [Hc.out]; simp
          have l1 : (s.take k).length ≤ 4000 := by rw [List.length_take]; omega
          have l2 : (s.drop (k + 2)).length ≤ 4000 := by rw [List.length_drop]; omega
          generalize s.take k = A at g1 Hlo Hb l1
          generalize s.drop (k + 2) = D at g2 Hhi Hb l2
          clear hxe hye
          generalize hna : numB A = na at Hb
          have Hna := Lib.hid hna
          clear hna
          cases na
          all_goals
            go_wp2_with (first
              | (go_at_call 45; (with_reducible refine (rnum_c A _ l1).mono ?_); (with_reducible rw [Hna.out]); rintro e w1 ⟨rfl, rfl⟩)
              | (go_at_call 45; (with_reducible refine (rnum_c D _ l2).mono ?_); rintro e w2 ⟨rfl, rfl⟩))
            go_ret3
            exact ⟨by rw [← Hlo.out, ← Hhi.out, Hb.out]; rfl, rfl⟩
        · have t2 : ((y.toNat : Int) == 46) = false := by
            rw [beq_eq_false_iff_ne]; intro e; exact hye (UInt8.toNat_inj.1 (by show y.toNat = 46; omega))
          have Hn2 := Lib.hid (Hn.out.succ (by rw [Ho.out]; simp [hye]))
          clear hxe hye
          go_wp2
          go_round
          case rel => exact ⟨k + 1, by omega, by go_num, Hn2⟩
          case measure => simp [intOf]; omega
      · have t1 : ((x.toNat : Int) == 46) = false := by
          rw [beq_eq_false_iff_ne]; intro e; exact hxe (UInt8.toNat_inj.1 (by show x.toNat = 46; omega))
        have Hn2 := Lib.hid (Hn.out.succ (by rw [Ho.out]; simp [hxe]))
        clear hxe
        go_wp2
        go_round
        case rel => exact ⟨k + 1, by omega, by go_num, Hn2⟩
        case measure => simp [intOf]; omega
    · have Hc := Lib.hid (cut_no (by omega) Hn.out)
      have Hlo : Hid (numN s = itLo s) := by unfold Hid itLo; rw [Hc.out]
      have Hhi : Hid (itHi s = itLo s) := by unfold Hid itHi; rw [Hc.out]; rfl
      have Hb : Hid (itB s = numB s) := by unfold Hid itB; rw [Hc.out]; simp
      go_wp2_with (go_at_call 45; (with_reducible refine (rnum_c s _ hs).mono ?_); rintro e w1 ⟨rfl, rfl⟩)
      go_ret3
      exact ⟨by rw [Hhi.out, ← Hlo.out, Hb.out]; rfl, rfl⟩
end Go.Proofs.YtbagbnceiadpdaaDoor
