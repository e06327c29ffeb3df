/- Recurrence rules: the walk of the law RecurtextDays. -/
import Derived.Test.YtgndogpgfgliaaaGreatDoorQ36
import Derived.Test.YtgndogpgfgliaaaGreatDoorQ28
namespace Go.Proofs.YtgndogpgfgliaaaGreatDoor
set_option linter.unusedVariables false
set_option linter.unnecessarySimpa false
set_option linter.unusedSimpArgs false
open Go.RowKit

set_option maxRecDepth 100000 in
set_option maxHeartbeats 8000000 in
theorem days30_c (s : List UInt8) (l : List (Int × Int)) (ao : Option Addr) (cap : Nat) (w : World) (hm : Lm w) (hs : s.length ≤ 9223372036854775807) (h : OsV ao cap l w) (hi : ∀ o ∈ l, i64 o.1 ∧ i64 o.2) :
    Calls Tryz.prog 6 #[.string ⟨s.toArray⟩, .slice ao l.length cap] w fun e w' => e = .returned (.bool true) ∧ Ext w w' := by
  have HA := Lib.hid (awake30_c w hm)
  have h1 := h.1
  have h2 := h.2.1
  unfold maxLen at h2
  by_cases g1 : 500 < s.length
  · have t1 : decide ((500 : Int) < (s.length : Int)) = true := decide_eq_true (by omega)
    clear h hi
    go_enter Tryz.func6, Tryz.ntmps6
    go_wp2_with (go_at_call 11; (with_reducible refine HA.out.mono ?_); rintro e w1 ⟨rfl, hE1⟩)
    go_ret
    exact ⟨rfl, hE1⟩
  have t1 : decide ((500 : Int) < (s.length : Int)) = false := decide_eq_false (by omega)
  by_cases g2 : 100 < l.length
  · have t2 : decide ((100 : Int) < (l.length : Int)) = true := decide_eq_true (by omega)
    clear h hi
    go_enter Tryz.func6, Tryz.ntmps6
    go_wp2_with (go_at_call 11; (with_reducible refine HA.out.mono ?_); rintro e w1 ⟨rfl, hE1⟩)
    go_ret
    exact ⟨rfl, hE1⟩
  have t2 : decide ((100 : Int) < (l.length : Int)) = false := decide_eq_false (by omega)
  have HD := Lib.hid (fun W (hE : Ext w W) => udays_c s W (hm.ext hE) (by omega))
  have HR := Lib.hid (fun W => rdays_c s W (by omega))
  obtain ⟨X, hX⟩ : ∃ X, X = daysTx l := ⟨_, rfl⟩
  have HT := Lib.hid (fun W (hE : Ext w W) => udaysT_c l ao cap X W (h.ext hE) hi (by omega) hX.symm)
  have HU := Lib.hid (fun W (hE : Ext w W) => rdaysT_c l ao cap X W (h.ext hE) hi (by omega) hX.symm)
  clear h hi hX hm
  cases hd : daysZ s with
  | none =>
    have HD2 : Hid (∀ W, Ext w W → Calls Tryz.prog 22 #[.string ⟨s.toArray⟩] W fun e w' => e = .returned (.tuple #[.slice none 0 0, .int .i64 3]) ∧ Ext W w') := fun W hE => (HD.out W hE).mono (fun e w' q => by unfold DaysR at q; rw [hd] at q; exact q)
    have HR2 : Hid (∀ W, Calls Tryz.prog 23 #[.string ⟨s.toArray⟩] W fun e w' => e = .returned (.tuple #[.slice none 0 0, .bool false]) ∧ Ext W w') := fun W => (HR.out W).mono (fun e w' q => by unfold RDaysR at q; rw [hd] at q; exact q)
    clear hd HD HR
    go_enter Tryz.func6, Tryz.ntmps6
    go_wp2_with (first
      | (go_at_call 11; (with_reducible refine HA.out.mono ?_); rintro e w1 ⟨rfl, hE1⟩)
      | (go_at_call 22; (with_reducible refine (HD2.out _ hE1).mono ?_); rintro e w2 ⟨rfl, hE2⟩; have hX2 := hE1.trans hE2)
      | (go_at_call 23; (with_reducible refine (HR2.out _).mono ?_); rintro e w3 ⟨rfl, hE3⟩; have hX3 := hX2.trans hE3)
      | (go_at_call 25; (with_reducible refine (HT.out _ hX3).mono ?_); rintro e w4 ⟨rfl, hE4⟩; have hX4 := hX3.trans hE4)
      | (go_at_call 26; (with_reducible refine (HU.out _ hX4).mono ?_); rintro e w5 ⟨rfl, hE5⟩; have hX5 := hX4.trans hE5))
    go_ret
    exact ⟨rfl, hX5⟩
  | some v =>
    have HD2 : Hid (∀ W, Ext w W → Calls Tryz.prog 22 #[.string ⟨s.toArray⟩] W fun e w' => ∃ ao cap, e = .returned (.tuple #[.slice ao v.length cap, .int .i64 0]) ∧ OsV ao cap v w' ∧ Ext W w') := fun W hE => (HD.out W hE).mono (fun e w' q => by
      unfold DaysR at q; rw [hd] at q
      obtain ⟨a, c, q1, q2, -, q3⟩ := q
      exact ⟨a, c, q1, q2, q3⟩)
    have HR2 : Hid (∀ W, Calls Tryz.prog 23 #[.string ⟨s.toArray⟩] W fun e w' => ∃ ao cap, e = .returned (.tuple #[.slice ao v.length cap, .bool true]) ∧ OsV ao cap v w' ∧ Ext W w') := fun W => (HR.out W).mono (fun e w' q => by
      unfold RDaysR at q; rw [hd] at q
      obtain ⟨a, c, q1, q2, -, q3⟩ := q
      exact ⟨a, c, q1, q2, q3⟩)
    have HEq := Lib.hid (fun a1 a2 c1 c2 W (x : OsV a1 c1 v W) (y : OsV a2 c2 v W) => eqO_c v v a1 a2 c1 c2 true W x y (by simp))
    clear hd HD HR
    go_enter Tryz.func6, Tryz.ntmps6
    go_wp2_with (first
      | (go_at_call 11; (with_reducible refine HA.out.mono ?_); rintro e w1 ⟨rfl, hE1⟩)
      | (go_at_call 22; (with_reducible refine (HD2.out _ hE1).mono ?_); rintro e w2 ⟨a1, c1, rfl, hV2, hE2⟩; have hX2 := hE1.trans hE2)
      | (go_at_call 23; (with_reducible refine (HR2.out _).mono ?_); rintro e w3 ⟨a2, c2, rfl, hV3, hE3⟩; have hX3 := hX2.trans hE3; have hV23 := hV2.ext hE3)
      | (go_at_call 24; (with_reducible refine (HEq.out _ _ _ _ _ hV23 hV3).mono ?_); rintro e w6 ⟨rfl, hE6⟩; have hX6 := hX3.trans hE6)
      | (go_at_call 25; (with_reducible refine (HT.out _ hX6).mono ?_); rintro e w4 ⟨rfl, hE4⟩; have hX4 := hX6.trans hE4)
      | (go_at_call 26; (with_reducible refine (HU.out _ hX4).mono ?_); rintro e w5 ⟨rfl, hE5⟩; have hX5 := hX4.trans hE5))
    go_ret
    exact ⟨rfl, hX5⟩
theorem days30_walk (s : ByteArray) (l : List (Int × Int)) (ao : Option Addr) (cap : Nat) (w : World) (hm : Lm w) (hs : s.size ≤ 9223372036854775807) (h : OsV ao cap l w) (hi : ∀ o ∈ l, i64 o.1 ∧ i64 o.2) :
    Calls Tryz.prog 6 #[.string s, .slice ao l.length cap] w fun e w' => e = .returned (.bool true) ∧ Ext w w' := by
  have := days30_c s.data.toList l ao cap w hm (by rw [Array.length_toList]; exact hs) h hi
  simpa using this
end Go.Proofs.YtgndogpgfgliaaaGreatDoor
