/- The walk of LocaleLogic: a rule of one test, turned round. -/
import Derived.Test.YtbagbnceiadpdaaDoorLgc2
namespace Go.Proofs.YtbagbnceiadpdaaDoor
set_option linter.unusedVariables false
set_option linter.unusedSimpArgs false
open Go.RowKit

theorem cont_and (s : List UInt8) (v : Bool) (w : World) (hm : Lm w) (ha : s.length ≤ 4000) (h : Lib.contains s sAnd = v) :
    Calls Tryd.prog 9 #[.string ⟨s.toArray⟩, .string ⟨#[32, 97, 110, 100, 32]⟩] w fun x w' => x = .returned (.bool v) ∧ w' = w := cont_c s sAnd v w hm ha h
theorem repl_is (s T : List UInt8) (w : World) (hm : Lm w) (hs : s.length ≤ 4000) (h : Lib.replace s sIs sNot 1 = T) :
    Calls Tryd.prog 12 #[.string ⟨s.toArray⟩, .string ⟨#[32, 105, 115, 32]⟩, .string ⟨#[32, 110, 111, 116, 32]⟩, .int .i64 1] w fun x w' => x = .returned (.string ⟨T.toArray⟩) ∧ Ext w w' := repl_c s sIs sNot T w hm hs (by decide) (by decide) h
theorem repl_not (s T : List UInt8) (w : World) (hm : Lm w) (hs : s.length ≤ 4000) (h : Lib.replace s sNot sIs 1 = T) :
    Calls Tryd.prog 12 #[.string ⟨s.toArray⟩, .string ⟨#[32, 110, 111, 116, 32]⟩, .string ⟨#[32, 105, 115, 32]⟩, .int .i64 1] w fun x w' => x = .returned (.string ⟨T.toArray⟩) ∧ Ext w w' := repl_c s sNot sIs T w hm hs (by decide) (by decide) h
set_option maxRecDepth 100000 in
set_option maxHeartbeats 400000 in
/-- The first rule is one test, with ' is '. -/
theorem logic_is (a b : List UInt8) (n : Int) (w : World) (hm : Lm w) (ha : a.length ≤ 90) (hb : b.length ≤ 90) (ka : okR a = true) (kb : okR b = true) (ki : inrB n = true) (hc : Lib.contains (a ++ b) sOr = false) (hd : Lib.contains a sAnd = false) (hi : Lib.contains a sIs = true) :
    Calls Tryd.prog 5 #[.string ⟨a.toArray⟩, .string ⟨b.toArray⟩, .int .i64 n] w fun e w' => e = .returned (.bool true) ∧ Ext w w' := by
  have Hm := Lib.hid hm
  clear hm
  have HA := Lib.hid (ho_ok ka ki)
  have HB := Lib.hid (ho_ok kb ki)
  have HO := Lib.hid (or_facts ha hb ka kb ki)
  have HN := Lib.hid (and_facts ha hb ka kb ki hc)
  obtain ⟨t1, t2, t3⟩ := turn_facts (b := b) ha ka ki hc hd
  have HT := Lib.hid (And.intro t1 t2)
  have hT1 : (turn a).length ≤ 4000 := by omega
  have HR : Hid (Lib.replace a sIs sNot 1 = turn a) := by unfold turn; rw [if_pos hi]; rfl
  have hne := (turn_eq a).1 hi
  rw [HR.out] at hne
  have hb2 : (turn a == a) = false := by simpa using hne
  clear hne
  have HC := Lib.hid hc
  have HD := Lib.hid hd
  clear hc ka kb ki hd t1 t2 t3 hi
  generalize vlW n.natAbs (spl 32 a) = p at HA HO HN HT
  generalize vlW n.natAbs (spl 32 b) = q at HB HO HN
  generalize turn a = T at HT hT1 HR hb2
  have ha1 : a.length ≤ 4000 := by omega
  have hb1 : b.length ≤ 4000 := by omega
  go_enter Tryd.func5, Tryd.ntmps5
  go_wp2_with (first
    | (go_at_call 6; refine (awake55_c _ Hm.out).mono ?_; rintro e w1 ⟨rfl, hE1⟩; have M1 := Lib.hid (Hm.out.ext hE1))
    | (go_at_call 7; with_reducible refine (holds_lit a n _ _ _ ?_ ha1 HA.out).mono ?_; exact M1.out; rintro e w2 ⟨rfl, hE2⟩; have M2 := Lib.hid (M1.out.ext hE2))
    | (go_at_call 7; with_reducible refine (holds_lit b n _ _ _ ?_ hb1 HB.out).mono ?_; exact M2.out; rintro e w3 ⟨rfl, hE3⟩; have M3 := Lib.hid (M2.out.ext hE3))
    | (go_at_call 7; with_reducible refine (holds_or a b n _ _ _ ?_ ha hb HO.out).mono ?_; exact M3.out; rintro e w4 ⟨rfl, hE4⟩; have M4 := Lib.hid (M3.out.ext hE4))
    | (go_at_call 9; with_reducible refine (cont_or a b _ _ ?_ ha hb HC.out).mono ?_; exact M4.out; rintro e w5 ⟨rfl, rfl⟩)
    | (go_at_call 7; with_reducible refine (holds_and a b n _ _ _ ?_ ha hb HN.out).mono ?_; exact M4.out; rintro e w6 ⟨rfl, hE6⟩; have M6 := Lib.hid (M4.out.ext hE6))
    | (go_at_call 9; with_reducible refine (cont_and a _ _ ?_ ha1 HD.out).mono ?_; exact M6.out; rintro e w7 ⟨rfl, rfl⟩)
    | (go_at_call 12; with_reducible refine (repl_is a T _ ?_ ha1 HR.out).mono ?_; exact M6.out; rintro e w8 ⟨rfl, hE8⟩; have M8 := Lib.hid (M6.out.ext hE8))
    | (go_at_call 7; with_reducible refine (holds_lit T n _ _ _ ?_ hT1 HT.out).mono ?_; exact M8.out; rintro e w9 ⟨rfl, hE9⟩)
    | go_in)
  all_goals
    go_ret
    exact ⟨rfl, (((((hE1.trans hE2).trans hE3).trans hE4).trans hE6).trans hE8).trans hE9⟩
set_option maxRecDepth 100000 in
set_option maxHeartbeats 400000 in
/-- The first rule is one test, with ' not '. -/
theorem logic_not (a b : List UInt8) (n : Int) (w : World) (hm : Lm w) (ha : a.length ≤ 90) (hb : b.length ≤ 90) (ka : okR a = true) (kb : okR b = true) (ki : inrB n = true) (hc : Lib.contains (a ++ b) sOr = false) (hd : Lib.contains a sAnd = false) (hi : Lib.contains a sIs = false) :
    Calls Tryd.prog 5 #[.string ⟨a.toArray⟩, .string ⟨b.toArray⟩, .int .i64 n] w fun e w' => e = .returned (.bool true) ∧ Ext w w' := by
  have Hm := Lib.hid hm
  clear hm
  have HA := Lib.hid (ho_ok ka ki)
  have HB := Lib.hid (ho_ok kb ki)
  have HO := Lib.hid (or_facts ha hb ka kb ki)
  have HN := Lib.hid (and_facts ha hb ka kb ki hc)
  obtain ⟨t1, t2, t3⟩ := turn_facts (b := b) ha ka ki hc hd
  have HT := Lib.hid (And.intro t1 t2)
  have hT1 : (turn a).length ≤ 4000 := by omega
  have HR : Hid (Lib.replace a sNot sIs 1 = turn a) := by unfold turn; rw [if_neg (by simp [hi])]; rfl
  have HS : Hid (Lib.replace a sIs sNot 1 = a) := (turn_eq a).2 hi
  have HC := Lib.hid hc
  have HD := Lib.hid hd
  clear hc ka kb ki hd t1 t2 t3 hi
  generalize vlW n.natAbs (spl 32 a) = p at HA HO HN HT
  generalize vlW n.natAbs (spl 32 b) = q at HB HO HN
  generalize turn a = T at HT hT1 HR
  have ha1 : a.length ≤ 4000 := by omega
  have hb1 : b.length ≤ 4000 := by omega
  go_enter Tryd.func5, Tryd.ntmps5
  go_wp2_with (first
    | (go_at_call 6; refine (awake55_c _ Hm.out).mono ?_; rintro e w1 ⟨rfl, hE1⟩; have M1 := Lib.hid (Hm.out.ext hE1))
    | (go_at_call 7; with_reducible refine (holds_lit a n _ _ _ ?_ ha1 HA.out).mono ?_; exact M1.out; rintro e w2 ⟨rfl, hE2⟩; have M2 := Lib.hid (M1.out.ext hE2))
    | (go_at_call 7; with_reducible refine (holds_lit b n _ _ _ ?_ hb1 HB.out).mono ?_; exact M2.out; rintro e w3 ⟨rfl, hE3⟩; have M3 := Lib.hid (M2.out.ext hE3))
    | (go_at_call 7; with_reducible refine (holds_or a b n _ _ _ ?_ ha hb HO.out).mono ?_; exact M3.out; rintro e w4 ⟨rfl, hE4⟩; have M4 := Lib.hid (M3.out.ext hE4))
    | (go_at_call 9; with_reducible refine (cont_or a b _ _ ?_ ha hb HC.out).mono ?_; exact M4.out; rintro e w5 ⟨rfl, rfl⟩)
    | (go_at_call 7; with_reducible refine (holds_and a b n _ _ _ ?_ ha hb HN.out).mono ?_; exact M4.out; rintro e w6 ⟨rfl, hE6⟩; have M6 := Lib.hid (M4.out.ext hE6))
    | (go_at_call 9; with_reducible refine (cont_and a _ _ ?_ ha1 HD.out).mono ?_; exact M6.out; rintro e w7 ⟨rfl, rfl⟩)
    | (go_at_call 12; with_reducible refine (repl_is a a _ ?_ ha1 HS.out).mono ?_; exact M6.out; rintro e w8 ⟨rfl, hE8⟩; have M8 := Lib.hid (M6.out.ext hE8))
    | (go_at_call 12; with_reducible refine (repl_not a T _ ?_ ha1 HR.out).mono ?_; exact M8.out; rintro e w9 ⟨rfl, hE9⟩; have M9 := Lib.hid (M8.out.ext hE9))
    | (go_at_call 7; with_reducible refine (holds_lit T n _ _ _ ?_ hT1 HT.out).mono ?_; exact M9.out; rintro e w10 ⟨rfl, hE10⟩)
    | go_in)
  all_goals
    go_ret
    exact ⟨rfl, ((((((hE1.trans hE2).trans hE3).trans hE4).trans hE6).trans hE8).trans hE9).trans hE10⟩
set_option maxRecDepth 100000 in
/-- A long rule. -/
theorem logic_long (a b : List UInt8) (n : Int) (w : World) (hm : Lm w) (h : 90 < a.length ∨ 90 < b.length) :
    Calls Tryd.prog 5 #[.string ⟨a.toArray⟩, .string ⟨b.toArray⟩, .int .i64 n] w fun e w' => e = .returned (.bool true) ∧ Ext w w' := by
  have Hm := Lib.hid hm
  clear hm
  go_enter Tryd.func5, Tryd.ntmps5
  by_cases ha : a.length ≤ 90
  · have hb : 90 < b.length := by omega
    clear h
    go_wp2_with (first
      | (go_at_call 6; refine (awake55_c _ Hm.out).mono ?_; rintro e w1 ⟨rfl, hE1⟩; have M1 := Lib.hid (Hm.out.ext hE1))
      | go_in)
    all_goals
      go_ret
      exact ⟨rfl, hE1⟩
  · have ha' : 90 < a.length := by omega
    clear h ha
    go_wp2_with (first
      | (go_at_call 6; refine (awake55_c _ Hm.out).mono ?_; rintro e w1 ⟨rfl, hE1⟩; have M1 := Lib.hid (Hm.out.ext hE1))
      | go_in)
    all_goals
      go_ret
      exact ⟨rfl, hE1⟩
theorem logic_walk (s t : ByteArray) (n : Int) (w : World) (hm : Lm w) (_ : -9223372036854775808 ≤ n) (_ : n ≤ 9223372036854775807) :
    Calls Tryd.prog 5 #[.string s, .string t, .int .i64 n] w fun e w' => e = .returned (.bool true) ∧ Ext w w' := by
  obtain ⟨a, rfl⟩ : ∃ l : List UInt8, s = ⟨l.toArray⟩ := ⟨s.data.toList, ba_mk s⟩
  obtain ⟨b, rfl⟩ : ∃ l : List UInt8, t = ⟨l.toArray⟩ := ⟨t.data.toList, ba_mk t⟩
  by_cases ha : a.length ≤ 90
  · by_cases hb : b.length ≤ 90
    · cases h : (okR a && okR b && inrB n) with
      | false => exact logic_err a b n w hm ha hb h
      | true =>
        simp only [Bool.and_eq_true] at h
        obtain ⟨⟨ka, kb⟩, ki⟩ := h
        cases hc : Lib.contains (a ++ b) sOr with
        | true => exact logic_or a b n w hm ha hb ka kb ki hc
        | false =>
          cases hd : Lib.contains a sAnd with
          | true => exact logic_and a b n w hm ha hb ka kb ki hc hd
          | false =>
            cases hi : Lib.contains a sIs with
            | true => exact logic_is a b n w hm ha hb ka kb ki hc hd hi
            | false => exact logic_not a b n w hm ha hb ka kb ki hc hd hi
    · exact logic_long a b n w hm (.inr (by omega))
  · exact logic_long a b n w hm (.inl (by omega))
end Go.Proofs.YtbagbnceiadpdaaDoor
