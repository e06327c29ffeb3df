/- The walk of LocaleLogic: two rules. -/
import Derived.Test.YtbagbnceiadpdaaDoorLgc
namespace Go.Proofs.YtbagbnceiadpdaaDoor
set_option linter.unusedVariables false
set_option linter.unusedSimpArgs false
open Go.RowKit

theorem or_facts {a b : List UInt8} {n : Int} (ha : a.length ≤ 90) (hb : b.length ≤ 90) (ka : okR a = true) (kb : okR b = true) (ki : inrB n = true) :
    hoE (a ++ sOr ++ b) n = 0 ∧ hoV (a ++ sOr ++ b) n = (vlW n.natAbs (spl 32 a) || vlW n.natAbs (spl 32 b)) := by
  rw [okR_eq, Bool.and_eq_true] at ka kb
  have e1 : spl 32 (a ++ sOr ++ b) = spl 32 a ++ wOr :: spl 32 b := spl_word a b wOr (by decide)
  have h1 : okR (a ++ sOr ++ b) = true := by
    rw [okR_eq, e1, (or_law 0 _ _).1, ka.1, kb.1, decide_eq_true (by simp [sOr]; omega)]; rfl
  obtain ⟨x, y⟩ := ho_ok h1 ki
  exact ⟨x, by rw [y, e1, (or_law _ _ _).2 ka.1 kb.1]⟩
theorem and_facts {a b : List UInt8} {n : Int} (ha : a.length ≤ 90) (hb : b.length ≤ 90) (ka : okR a = true) (kb : okR b = true) (ki : inrB n = true) (hc : Lib.contains (a ++ b) sOr = false) :
    hoE (a ++ sAnd ++ b) n = 0 ∧ hoV (a ++ sAnd ++ b) n = (vlW n.natAbs (spl 32 a) && vlW n.natAbs (spl 32 b)) := by
  rw [okR_eq, Bool.and_eq_true] at ka kb
  obtain ⟨c1, c2⟩ := contains_app hc
  have e1 : spl 32 (a ++ sAnd ++ b) = spl 32 a ++ wAnd :: spl 32 b := spl_word a b wAnd (by decide)
  obtain ⟨l1, l2⟩ := and_law n.natAbs (spl 32 a) (spl 32 b) (no_kw a wOr (.inl rfl) ka.1 c1) (no_kw b wOr (.inl rfl) kb.1 c2) ka.1 kb.1
  have h1 : okR (a ++ sAnd ++ b) = true := by
    rw [okR_eq, e1, l1, decide_eq_true (by simp [sAnd]; omega)]; rfl
  obtain ⟨x, y⟩ := ho_ok h1 ki
  exact ⟨x, by rw [y, e1, l2]⟩
theorem turn_facts {a b : List UInt8} {n : Int} (ha : a.length ≤ 90) (ka : okR a = true) (ki : inrB n = true) (hc : Lib.contains (a ++ b) sOr = false) (hd : Lib.contains a sAnd = false) :
    hoE (turn a) n = 0 ∧ hoV (turn a) n = !vlW n.natAbs (spl 32 a) ∧ (turn a).length ≤ 91 := by
  rw [okR_eq, Bool.and_eq_true] at ka
  obtain ⟨t1, t2, t3⟩ := turn_law n.natAbs a ka.1 (contains_app hc).1 hd
  have h1 : okR (turn a) = true := by rw [okR_eq, t1, decide_eq_true (by omega)]; rfl
  obtain ⟨x, y⟩ := ho_ok h1 ki
  exact ⟨x, by rw [y, t2], by omega⟩
set_option maxRecDepth 100000 in
set_option maxHeartbeats 1000000 in
/-- Two rules, with 'or' in one of them. -/
theorem logic_or (a b : List UInt8) (n : Int) (w : World) (hm : Lm w) (ha : a.length ≤ 90) (hb : b.length ≤ 90) (ka : okR a = true) (kb : okR b = true) (ki : inrB n = true) (hc : Lib.contains (a ++ b) sOr = true) :
    Calls Tryd.prog 5 #[.string ⟨a.toArray⟩, .string ⟨b.toArray⟩, .int .i64 n] w fun e w' => e = .returned (.bool true) ∧ Ext w w' := by
  have Hm := Lib.hid hm
  clear hm
  have HA := Lib.hid (ho_ok ka ki)
  have HB := Lib.hid (ho_ok kb ki)
  have HO := Lib.hid (or_facts ha hb ka kb ki)
  have HC := Lib.hid hc
  clear hc ka kb ki
  generalize vlW n.natAbs (spl 32 a) = p at HA HO
  generalize vlW n.natAbs (spl 32 b) = q at HB HO
  have ha1 : a.length ≤ 4000 := by omega
  have hb1 : b.length ≤ 4000 := by omega
  go_enter Tryd.func5, Tryd.ntmps5
  go_wp2_with (first
    | (go_at_call 6; refine (awake55_c _ Hm.out).mono ?_; rintro e w1 ⟨rfl, hE1⟩; have M1 := Lib.hid (Hm.out.ext hE1))
    | (go_at_call 7; with_reducible refine (holds_lit a n _ _ _ ?_ ha1 HA.out).mono ?_; exact M1.out; rintro e w2 ⟨rfl, hE2⟩; have M2 := Lib.hid (M1.out.ext hE2))
    | (go_at_call 7; with_reducible refine (holds_lit b n _ _ _ ?_ hb1 HB.out).mono ?_; exact M2.out; rintro e w3 ⟨rfl, hE3⟩; have M3 := Lib.hid (M2.out.ext hE3))
    | (go_at_call 7; with_reducible refine (holds_or a b n _ _ _ ?_ ha hb HO.out).mono ?_; exact M3.out; rintro e w4 ⟨rfl, hE4⟩; have M4 := Lib.hid (M3.out.ext hE4))
    | (go_at_call 9; refine (cont_or a b _ _ M4.out ha hb HC.out).mono ?_; rintro e w5 ⟨rfl, rfl⟩)
    | go_in)
  all_goals
    go_ret
    exact ⟨rfl, ((hE1.trans hE2).trans hE3).trans hE4⟩
set_option maxRecDepth 100000 in
set_option maxHeartbeats 1000000 in
/-- Two rules without 'or', with 'and' in the first one. -/
theorem logic_and (a b : List UInt8) (n : Int) (w : World) (hm : Lm w) (ha : a.length ≤ 90) (hb : b.length ≤ 90) (ka : okR a = true) (kb : okR b = true) (ki : inrB n = true) (hc : Lib.contains (a ++ b) sOr = false) (hd : Lib.contains a sAnd = true) :
    Calls Tryd.prog 5 #[.string ⟨a.toArray⟩, .string ⟨b.toArray⟩, .int .i64 n] w fun e w' => e = .returned (.bool true) ∧ Ext w w' := by
  have Hm := Lib.hid hm
  clear hm
  have HA := Lib.hid (ho_ok ka ki)
  have HB := Lib.hid (ho_ok kb ki)
  have HO := Lib.hid (or_facts ha hb ka kb ki)
  have HN := Lib.hid (and_facts ha hb ka kb ki hc)
  have HC := Lib.hid hc
  have HD := Lib.hid hd
  clear hc ka kb ki hd
  generalize vlW n.natAbs (spl 32 a) = p at HA HO HN
  generalize vlW n.natAbs (spl 32 b) = q at HB HO HN
  have ha1 : a.length ≤ 4000 := by omega
  have hb1 : b.length ≤ 4000 := by omega
  go_enter Tryd.func5, Tryd.ntmps5
  go_wp2_with (first
    | (go_at_call 6; refine (awake55_c _ Hm.out).mono ?_; rintro e w1 ⟨rfl, hE1⟩; have M1 := Lib.hid (Hm.out.ext hE1))
    | (go_at_call 7; with_reducible refine (holds_lit a n _ _ _ ?_ ha1 HA.out).mono ?_; exact M1.out; rintro e w2 ⟨rfl, hE2⟩; have M2 := Lib.hid (M1.out.ext hE2))
    | (go_at_call 7; with_reducible refine (holds_lit b n _ _ _ ?_ hb1 HB.out).mono ?_; exact M2.out; rintro e w3 ⟨rfl, hE3⟩; have M3 := Lib.hid (M2.out.ext hE3))
    | (go_at_call 7; with_reducible refine (holds_or a b n _ _ _ ?_ ha hb HO.out).mono ?_; exact M3.out; rintro e w4 ⟨rfl, hE4⟩; have M4 := Lib.hid (M3.out.ext hE4))
    | (go_at_call 9; with_reducible refine (cont_or a b _ _ ?_ ha hb HC.out).mono ?_; exact M4.out; rintro e w5 ⟨rfl, rfl⟩)
    | (go_at_call 7; with_reducible refine (holds_and a b n _ _ _ ?_ ha hb HN.out).mono ?_; exact M4.out; rintro e w6 ⟨rfl, hE6⟩; have M6 := Lib.hid (M4.out.ext hE6))
    | (go_at_call 9; refine (cont_c a sAnd _ _ M6.out ha1 HD.out).mono ?_; rintro e w7 ⟨rfl, rfl⟩)
    | go_in)
  all_goals
    go_ret
    exact ⟨rfl, (((hE1.trans hE2).trans hE3).trans hE4).trans hE6⟩
end Go.Proofs.YtbagbnceiadpdaaDoor
