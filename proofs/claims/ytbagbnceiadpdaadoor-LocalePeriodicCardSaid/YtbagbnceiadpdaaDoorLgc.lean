/- The walk of LocaleLogic. -/
import Derived.Test.YtbagbnceiadpdaaDoorWrd6
import Derived.Test.YtbagbnceiadpdaaDoorAwk55
import Derived.Test.YtbagbnceiadpdaaDoorLog4
namespace Go.Proofs.YtbagbnceiadpdaaDoor
set_option linter.unusedVariables false
set_option linter.unusedSimpArgs false
open Go.RowKit

theorem okR_eq (s : List UInt8) : okR s = (okW (spl 32 s) && decide (s.length ≤ 200)) := rfl
theorem ho_ok {s : List UInt8} {n : Int} (h : okR s = true) (hi : inrB n = true) : hoE s n = 0 ∧ hoV s n = vlW n.natAbs (spl 32 s) := by
  have e : hoE s n = 0 := by unfold hoE; rw [h, hi]; rfl
  exact ⟨e, by unfold hoV; rw [e]; rfl⟩
theorem ho_bad {s : List UInt8} (n : Int) (h : okR s = false) : hoE s n = 3 ∧ hoV s n = false := by
  have e : hoE s n = 3 := by unfold hoE; rw [h]; rfl
  exact ⟨e, by unfold hoV; rw [e]; rfl⟩
theorem ho_far {s : List UInt8} {n : Int} (h : okR s = true) (hi : inrB n = false) : hoE s n = 2 ∧ hoV s n = false := by
  have e : hoE s n = 2 := by unfold hoE; rw [h, hi]; rfl
  exact ⟨e, by unfold hoV; rw [e]; rfl⟩
theorem cat3 (a m b : List UInt8) : ((⟨a.toArray⟩ : ByteArray) ++ ⟨m.toArray⟩) ++ ⟨b.toArray⟩ = ⟨(a ++ m ++ b).toArray⟩ := by rw [app_str, app_str]
theorem holds_lit (s : List UInt8) (n : Int) (e : Int) (v : Bool) (w : World) (hm : Lm w) (hs : s.length ≤ 4000) (h : hoE s n = e ∧ hoV s n = v) :
    Calls Tryd.prog 7 #[.string ⟨s.toArray⟩, .int .i64 n] w fun x w' => x = .returned (.tuple #[.bool v, .int .i64 e]) ∧ Ext w w' := by
  have q := holds_c s n w hm hs
  rw [h.1, h.2] at q
  exact q
theorem holds_or (a b : List UInt8) (n : Int) (e : Int) (v : Bool) (w : World) (hm : Lm w) (ha : a.length ≤ 90) (hb : b.length ≤ 90) (h : hoE (a ++ sOr ++ b) n = e ∧ hoV (a ++ sOr ++ b) n = v) :
    Calls Tryd.prog 7 #[.string (((⟨a.toArray⟩ : ByteArray) ++ ⟨#[32, 111, 114, 32]⟩) ++ ⟨b.toArray⟩), .int .i64 n] w fun x w' => x = .returned (.tuple #[.bool v, .int .i64 e]) ∧ Ext w w' := by
  have q := holds_lit (a ++ sOr ++ b) n e v w hm (by simp [sOr]; omega) h
  rw [← cat3] at q
  exact q
theorem holds_and (a b : List UInt8) (n : Int) (e : Int) (v : Bool) (w : World) (hm : Lm w) (ha : a.length ≤ 90) (hb : b.length ≤ 90) (h : hoE (a ++ sAnd ++ b) n = e ∧ hoV (a ++ sAnd ++ b) n = v) :
    Calls Tryd.prog 7 #[.string (((⟨a.toArray⟩ : ByteArray) ++ ⟨#[32, 97, 110, 100, 32]⟩) ++ ⟨b.toArray⟩), .int .i64 n] w fun x w' => x = .returned (.tuple #[.bool v, .int .i64 e]) ∧ Ext w w' := by
  have q := holds_lit (a ++ sAnd ++ b) n e v w hm (by simp [sAnd]; omega) h
  rw [← cat3] at q
  exact q
theorem cont_or (a b : List UInt8) (v : Bool) (w : World) (hm : Lm w) (ha : a.length ≤ 90) (hb : b.length ≤ 90) (h : Lib.contains (a ++ b) sOr = v) :
    Calls Tryd.prog 9 #[.string ((⟨a.toArray⟩ : ByteArray) ++ ⟨b.toArray⟩), .string ⟨#[32, 111, 114, 32]⟩] w fun x w' => x = .returned (.bool v) ∧ w' = w := by
  obtain ⟨m, hm⟩ := hm
  have q := Tryd.strings_Contains ⟨(a ++ b).toArray⟩ ⟨sOr.toArray⟩ m w (by simp [ByteArray.size]; omega) hm
  rw [show Lib.contains (⟨(a ++ b).toArray⟩ : ByteArray).data.toList (⟨sOr.toArray⟩ : ByteArray).data.toList = v from h, ← app_str] at q
  exact q
theorem cont_c (s t : List UInt8) (v : Bool) (w : World) (hm : Lm w) (ha : s.length ≤ 4000) (h : Lib.contains s t = v) :
    Calls Tryd.prog 9 #[.string ⟨s.toArray⟩, .string ⟨t.toArray⟩] w fun x w' => x = .returned (.bool v) ∧ w' = w := by
  obtain ⟨m, hm⟩ := hm
  have q := Tryd.strings_Contains ⟨s.toArray⟩ ⟨t.toArray⟩ m w (by simp [ByteArray.size]; omega) hm
  rw [show Lib.contains (⟨s.toArray⟩ : ByteArray).data.toList (⟨t.toArray⟩ : ByteArray).data.toList = v from h] at q
  exact q
theorem repl_c (s o o' T : List UInt8) (w : World) (hm : Lm w) (hs : s.length ≤ 4000) (ho : 1 ≤ o.length) (ho' : o'.length ≤ 100) (h : Lib.replace s o o' 1 = T) :
    Calls Tryd.prog 12 #[.string ⟨s.toArray⟩, .string ⟨o.toArray⟩, .string ⟨o'.toArray⟩, .int .i64 1] w fun x w' => x = .returned (.string ⟨T.toArray⟩) ∧ Ext w w' := by
  obtain ⟨m, hm⟩ := hm
  have hz : ∀ l : List UInt8, (⟨l.toArray⟩ : ByteArray).size = l.length := fun l => by simp [ByteArray.size]
  have hc := Lib.countB_le (⟨o.toArray⟩ : ByteArray) (by rw [hz]; exact ho) _ ⟨s.toArray⟩ (Nat.le_refl _)
  rw [hz] at hc
  have hlen : (⟨s.toArray⟩ : ByteArray).size + Lib.countB ⟨s.toArray⟩ ⟨o.toArray⟩ * (⟨o'.toArray⟩ : ByteArray).size ≤ 140737488355328 := by
    rw [hz, hz]
    have h1 : Lib.countB ⟨s.toArray⟩ ⟨o.toArray⟩ ≤ 4000 := Nat.le_trans hc hs
    have h2 : Lib.countB ⟨s.toArray⟩ ⟨o.toArray⟩ * o'.length ≤ 400000 := Nat.le_trans (Nat.mul_le_mul h1 ho') (by decide)
    exact Nat.le_trans (Nat.add_le_add hs h2) (by decide)
  have q := Tryd.strings_Replace ⟨s.toArray⟩ ⟨o.toArray⟩ ⟨o'.toArray⟩ 1 m w (by rw [hz]; omega) hm (by rw [hz]; exact ho) hlen
  have e : ∀ l : List UInt8, (⟨l.toArray⟩ : ByteArray).data.toList = l := fun _ => rfl
  rw [e, e, e, h] at q
  exact q
set_option maxRecDepth 100000 in
set_option maxHeartbeats 400000 in
/-- One of the two is no rule, or the number is too far. -/
theorem logic_err (a b : List UInt8) (n : Int) (w : World) (hm : Lm w) (ha : a.length ≤ 90) (hb : b.length ≤ 90) (h : (okR a && okR b && inrB n) = false) :
    Calls Tryd.prog 5 #[.string ⟨a.toArray⟩, .string ⟨b.toArray⟩, .int .i64 n] w fun e w' => e = .returned (.bool true) ∧ Ext w w' := by
  have Hm := Lib.hid hm
  clear hm
  have eO : okR (a ++ sOr ++ b) = (okR a && okR b) := by
    have e1 : spl 32 (a ++ sOr ++ b) = spl 32 a ++ wOr :: spl 32 b := spl_word a b wOr (by decide)
    rw [okR_eq, okR_eq, okR_eq, e1, (or_law 0 _ _).1, decide_eq_true (by simp [sOr]; omega), decide_eq_true (by omega), decide_eq_true (by omega)]
    simp
  obtain ⟨e1, v1, e2, v2, e3, v3, HA, HB, HO, HC⟩ : ∃ (e1 : Int) (v1 : Bool) (e2 : Int) (v2 : Bool) (e3 : Int) (v3 : Bool), Hid (hoE a n = e1 ∧ hoV a n = v1) ∧ Hid (hoE b n = e2 ∧ hoV b n = v2) ∧ Hid (hoE (a ++ sOr ++ b) n = e3 ∧ hoV (a ++ sOr ++ b) n = v3) ∧
      ((e1 = 3 ∧ e3 = 3) ∨ (e1 = 2 ∧ e2 = 3 ∧ e3 = 3) ∨ (e1 = 0 ∧ e2 = 3 ∧ e3 = 3) ∨ (e1 = 2 ∧ e2 = 2 ∧ e3 = 2)) := by
    refine ⟨hoE a n, hoV a n, hoE b n, hoV b n, hoE (a ++ sOr ++ b) n, hoV (a ++ sOr ++ b) n, Lib.hid ⟨rfl, rfl⟩, Lib.hid ⟨rfl, rfl⟩, Lib.hid ⟨rfl, rfl⟩, ?_⟩
    cases ka : okR a with
    | false => exact .inl ⟨(ho_bad n ka).1, (ho_bad n (by rw [eO, ka]; rfl)).1⟩
    | true =>
      cases kb : okR b with
      | false =>
        cases ki : inrB n with
        | false => exact .inr (.inl ⟨(ho_far ka ki).1, (ho_bad n kb).1, (ho_bad n (by rw [eO, ka, kb]; rfl)).1⟩)
        | true => exact .inr (.inr (.inl ⟨(ho_ok ka ki).1, (ho_bad n kb).1, (ho_bad n (by rw [eO, ka, kb]; rfl)).1⟩))
      | true =>
        cases ki : inrB n with
        | false => exact .inr (.inr (.inr ⟨(ho_far ka ki).1, (ho_far kb ki).1, (ho_far (by rw [eO, ka, kb]; rfl) ki).1⟩))
        | true => rw [ka, kb, ki] at h; cases h
  clear h eO
  have ha1 : a.length ≤ 4000 := by omega
  have hb1 : b.length ≤ 4000 := by omega
  go_enter Tryd.func5, Tryd.ntmps5
  rcases HC with ⟨rfl, rfl⟩ | ⟨rfl, rfl, rfl⟩ | ⟨rfl, rfl, rfl⟩ | ⟨rfl, rfl, rfl⟩
  all_goals
    go_wp2_with (first
      | (go_at_call 6; refine (awake55_c _ Hm.out).mono ?_; rintro e w1 ⟨rfl, hE1⟩; have M1 := Lib.hid (Hm.out.ext hE1))
      | (go_at_call 7; with_reducible refine (holds_lit a n _ _ _ ?_ ha1 HA.out).mono ?_; exact M1.out; rintro e w2 ⟨rfl, hE2⟩; have M2 := Lib.hid (M1.out.ext hE2))
      | (go_at_call 7; with_reducible refine (holds_lit b n _ _ _ ?_ hb1 HB.out).mono ?_; exact M2.out; rintro e w3 ⟨rfl, hE3⟩; have M3 := Lib.hid (M2.out.ext hE3))
      | (go_at_call 7; with_reducible refine (holds_or a b n _ _ _ ?_ ha hb HO.out).mono ?_; exact M3.out; rintro e w4 ⟨rfl, hE4⟩)
      | go_in)
    go_ret
    exact ⟨rfl, ((hE1.trans hE2).trans hE3).trans hE4⟩
end Go.Proofs.YtbagbnceiadpdaaDoor
