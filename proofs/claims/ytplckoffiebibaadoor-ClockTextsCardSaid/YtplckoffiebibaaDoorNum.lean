/- Numbers at the head of a text, plainly; and the walk of clock.number. -/
import Derived.Test.YtplckoffiebibaaDoorClk3
namespace Go.Proofs.YtplckoffiebibaaDoor
open Go.RowKit

def isDg (c : UInt8) : Bool := decide (48 ≤ c.toNat ∧ c.toNat ≤ 57)
def dgN (l : List UInt8) : Nat := (l.takeWhile isDg).length
def val (l : List UInt8) : Nat := l.foldl (fun a c => 10 * a + (c.toNat - 48)) 0
def numV (l : List UInt8) : Nat := val (l.takeWhile isDg)
def rst (l : List UInt8) : List UInt8 := l.drop (dgN l)
theorem isDg_iff {c : UInt8} : isDg c = true ↔ 48 ≤ c.toNat ∧ c.toNat ≤ 57 := by unfold isDg; simp
theorem dgN_le (l : List UInt8) : dgN l ≤ l.length := by
  unfold dgN; exact (List.takeWhile_prefix isDg).length_le
theorem take_dgN (l : List UInt8) : l.take (dgN l) = l.takeWhile isDg := by
  obtain ⟨t, ht⟩ := List.takeWhile_prefix (l := l) isDg
  have : l.take (dgN l) = (l.takeWhile isDg ++ t).take (l.takeWhile isDg).length := by rw [ht]; rfl
  rw [this, List.take_left]
theorem dg_at (l : List UInt8) (k : Nat) (h : k < dgN l) (h2 : k < l.length) : isDg l[k] = true := by
  have h3 : (l.takeWhile isDg)[k]'h = l[k] := by
    have := (List.takeWhile_prefix (l := l) isDg).getElem (i := k) h
    exact this
  rw [← h3]
  have : ∀ c ∈ l.takeWhile isDg, isDg c = true := by
    intro c hc
    exact (List.all_eq_true.1 (List.all_takeWhile (p := isDg) (l := l))) c hc
  exact this _ (List.getElem_mem _)
theorem dg_end (l : List UInt8) (h : dgN l < l.length) : isDg l[dgN l] = false := by
  induction l with
  | nil => simp at h
  | cons c t ih =>
    by_cases hc : isDg c = true
    · have e : dgN (c :: t) = dgN t + 1 := by unfold dgN; rw [List.takeWhile_cons_of_pos hc]; rfl
      have h' : dgN t < t.length := by rw [e] at h; simpa using h
      have := ih h'
      simp only [e, List.getElem_cons_succ]
      exact this
    · have e : dgN (c :: t) = 0 := by unfold dgN; rw [List.takeWhile_cons_of_neg hc]; rfl
      simp only [e, List.getElem_cons_zero]
      simpa using hc
theorem val_snoc (l : List UInt8) (c : UInt8) : val (l ++ [c]) = 10 * val l + (c.toNat - 48) := by unfold val; simp
theorem val_take_succ (l : List UInt8) (k : Nat) (h : k < l.length) : val (l.take (k + 1)) = 10 * val (l.take k) + (l[k].toNat - 48) := by
  rw [List.take_succ_eq_append_getElem h, val_snoc]
theorem numV_eq (l : List UInt8) : numV l = val (l.take (dgN l)) := by rw [take_dgN]; rfl

theorem bget (l : List UInt8) (k : Nat) (h : k < l.length) (c : UInt8) (hc : c = l[k]) : (⟨l.toArray⟩ : ByteArray)[k]'(by simpa [ByteArray.size] using h) = c := by
  rw [hc]
  rfl
theorem bdrop (l : List UInt8) (k : Nat) : (⟨l.toArray⟩ : ByteArray).extract k l.length = ⟨(l.drop k).toArray⟩ := by
  apply ByteArray.ext
  simp only [ByteArray.data_extract, List.extract_toArray]
  rw [List.extract_eq_take_drop, List.take_of_length_le (by simp)]
theorem ret_isb {k1 : IntKind} {a a' : Int} {s s' : ByteArray} {b b' : Bool} (h1 : a = a') (h2 : s = s') (h3 : b = b') : Ending.returned (.tuple #[.int k1 a, .string s, .bool b]) = .returned (.tuple #[.int k1 a', .string s', .bool b']) := by rw [h1, h2, h3]
set_option maxHeartbeats 1000000 in
theorem number_c (l : List UInt8) (w : World) (hl : l.length ≤ 9223372036854775806) :
    Calls Tryd.prog 60 #[.string ⟨l.toArray⟩] w fun e w' => e = .returned (.tuple #[.int .i64 (min (numV l : Int) 4398046511105), .string ⟨(rst l).toArray⟩, .bool (decide (0 < dgN l))]) ∧ ∃ n, w.drewN n = w' := by
  have hdl := dgN_le l
  go_enter Tryd.func60, Tryd.ntmps60
  go_wp2_with fail
  go_loop [2, 5] (fun n i => ∃ k : Nat, k ≤ dgN l ∧ i = .int .i64 (k : Int) ∧ n = .int .i64 (min (val (l.take k) : Int) 4398046511105)) (fun _ i => (dgN l) - (intOf i).toNat)
  case atStart => exact ⟨0, by omega, rfl, rfl⟩
  case round =>
    obtain ⟨k, hk, rfl, rfl⟩ := hrel
    obtain ⟨v, hv⟩ : ∃ v, v = val (l.take k) := ⟨_, rfl⟩
    rw [← hv]
    have Hv := Lib.hid hv
    clear hv
    by_cases hlt : k < dgN l
    · have hkl : k < l.length := by omega
      have hd := isDg_iff.1 (dg_at l k hlt hkl)
      have Hs := val_take_succ l k hkl
      obtain ⟨c, hc⟩ : ∃ c, c = l[k] := ⟨_, rfl⟩
      rw [← hc] at hd Hs
      rw [← Hv.out] at Hs
      have Hs := Lib.hid Hs
      have hi := bget l k hkl c hc
      clear hc
      have hd1 : 48 ≤ (c.toNat : Int) := by omega
      have hd2 : (c.toNat : Int) ≤ 57 := by omega
      clear hd
      go_wp2
      all_goals
        go_round
        case rel => exact ⟨k + 1, by omega, by go_num, by rw [Hs.out]; congr 1; omega⟩
        case measure => simp [intOf]; omega
    · obtain rfl : k = dgN l := by omega
      have Hfin : Hid (v = numV l) := by rw [Hid, Hv.out, numV_eq]
      have hd0 : decide (0 < ((dgN l : Nat) : Int)) = decide (0 < dgN l) := by rw [decide_eq_decide]; omega
      have Hr : Hid ((⟨l.toArray⟩ : ByteArray).extract (dgN l) l.length = ⟨(rst l).toArray⟩) := bdrop l (dgN l)
      by_cases he : dgN l = l.length
      · generalize hk9 : dgN l = k at *
        have Hk := Lib.hid hk9
        have He := Lib.hid he
        have hge : ¬ k < l.length := by omega
        clear hk9 he hlt
        go_wp2
        go_quiet (fail)
        go_wp2
        go_ret3
        exact ⟨ret_isb (by rw [Hfin.out]) Hr.out (by rw [Hk.out]), _, rfl⟩
      · have hkl : dgN l < l.length := by omega
        have hd := dg_end l hkl
        obtain ⟨c, hc⟩ : ∃ c, c = l[dgN l] := ⟨_, rfl⟩
        rw [← hc] at hd
        have hi := bget l (dgN l) hkl c hc
        clear hc
        have hd3 : ¬ (48 ≤ c.toNat ∧ c.toNat ≤ 57) := by intro q; rw [isDg_iff.2 q] at hd; cases hd
        generalize hk9 : dgN l = k at *
        have Hk := Lib.hid hk9
        clear hk9 he hlt
        by_cases h48 : (c.toNat : Int) < 48
        · have e48 : decide (48 ≤ (c.toNat : Int)) = false := by simp; omega
          clear hd3 hd
          go_wp2
          go_quiet (fail)
          go_wp2
          go_ret3
          exact ⟨ret_isb (by rw [Hfin.out]) Hr.out (by rw [Hk.out]), _, rfl⟩
        · have e48 : decide (48 ≤ (c.toNat : Int)) = true := by simp; omega
          have e57 : decide ((c.toNat : Int) ≤ 57) = false := by simp; omega
          clear hd3 hd
          go_wp2
          go_quiet (fail)
          go_wp2
          go_ret3
          exact ⟨ret_isb (by rw [Hfin.out]) Hr.out (by rw [Hk.out]), _, rfl⟩
end Go.Proofs.YtplckoffiebibaaDoor
