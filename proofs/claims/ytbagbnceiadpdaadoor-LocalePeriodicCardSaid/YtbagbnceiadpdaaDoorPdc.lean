/- The walk of LocalePeriodic. -/
import Derived.Test.YtbagbnceiadpdaaDoorLgc
import Derived.Test.YtbagbnceiadpdaaDoorPer
import Derived.Test.YtbagbnceiadpdaaDoorAto
import Derived.Test.YtbagbnceiadpdaaDoorSlc
namespace Go.Proofs.YtbagbnceiadpdaaDoor
set_option linter.unusedVariables false
set_option linter.unusedSimpArgs false
open Go.RowKit

theorem inr_small {n : Int} (h1 : -1099511627776 ≤ n) (h2 : n ≤ 1099511627776) : inrB n = true ∧ inrB (-n) = true := by
  constructor
  · unfold inrB; exact decide_eq_true ⟨by omega, by omega⟩
  · unfold inrB; exact decide_eq_true ⟨by omega, by omega⟩
theorem cont_nis (s : List UInt8) (v : Bool) (w : World) (hm : Lm w) (ha : s.length ≤ 4000) (h : Lib.contains s [110, 32, 105, 115] = v) :
    Calls Tryd.prog 9 #[.string ⟨s.toArray⟩, .string ⟨#[110, 32, 105, 115]⟩] w fun x w' => x = .returned (.bool v) ∧ w' = w := cont_c s [110, 32, 105, 115] v w hm ha h
theorem cont_nnot (s : List UInt8) (v : Bool) (w : World) (hm : Lm w) (ha : s.length ≤ 4000) (h : Lib.contains s [110, 32, 110, 111, 116] = v) :
    Calls Tryd.prog 9 #[.string ⟨s.toArray⟩, .string ⟨#[110, 32, 110, 111, 116]⟩] w fun x w' => x = .returned (.bool v) ∧ w' = w := cont_c s [110, 32, 110, 111, 116] v w hm ha h
set_option maxRecDepth 100000 in
set_option maxHeartbeats 400000 in
/-- What is not tested. -/
theorem pdc_out (s : List UInt8) (n t : Int) (w : World) (hm : Lm w) (h : 200 < s.length ∨ n < -1099511627776 ∨ 1099511627776 < n) :
    Calls Tryd.prog 4 #[.string ⟨s.toArray⟩, .int .i64 n, .int .u8 t] w fun e w' => e = .returned (.bool true) ∧ Ext w w' := by
  have Hm := Lib.hid hm
  clear hm
  go_enter Tryd.func4, Tryd.ntmps4
  by_cases ha : s.length ≤ 200
  · by_cases hb : n ≤ 1099511627776
    · have hc : n < -1099511627776 := by omega
      clear h
      go_wp2_with (first
        | (go_at_call 6; refine (awake55_c _ Hm.out).mono ?_; rintro e w1 ⟨rfl, hE1⟩; have M1 := Lib.hid (Hm.out.ext hE1))
        | go_in)
      all_goals
        go_ret
        exact ⟨rfl, hE1⟩
    · have hb' : 1099511627776 < n := by omega
      clear h hb
      go_wp2_with (first
        | (go_at_call 6; refine (awake55_c _ Hm.out).mono ?_; rintro e w1 ⟨rfl, hE1⟩; have M1 := Lib.hid (Hm.out.ext hE1))
        | go_in)
      all_goals
        go_ret
        exact ⟨rfl, hE1⟩
  · have ha' : 200 < s.length := by omega
    clear h ha
    go_wp2_with (first
      | (go_at_call 6; refine (awake55_c _ Hm.out).mono ?_; rintro e w1 ⟨rfl, hE1⟩; have M1 := Lib.hid (Hm.out.ext hE1))
      | go_in)
    all_goals
      go_ret
      exact ⟨rfl, hE1⟩
set_option maxRecDepth 100000 in
set_option maxHeartbeats 400000 in
/-- No rule, or n itself is tested. -/
theorem pdc_no (s : List UInt8) (n t : Int) (w : World) (hm : Lm w) (ha : s.length ≤ 200) (hb1 : -1099511627776 ≤ n) (hb2 : n ≤ 1099511627776) (h : okR s = false ∨ (okR s = true ∧ (Lib.contains s [110, 32, 105, 115] = true ∨ (Lib.contains s [110, 32, 105, 115] = false ∧ Lib.contains s [110, 32, 110, 111, 116] = true)))) :
    Calls Tryd.prog 4 #[.string ⟨s.toArray⟩, .int .i64 n, .int .u8 t] w fun e w' => e = .returned (.bool true) ∧ Ext w w' := by
  have Hm := Lib.hid hm
  clear hm
  obtain ⟨i1, i2⟩ := inr_small hb1 hb2
  have hs1 : s.length ≤ 4000 := by omega
  rcases h with h | ⟨h, hc | ⟨hc, hd⟩⟩
  · have HA := Lib.hid (ho_bad n h)
    have HB := Lib.hid (ho_bad (-n) h)
    clear h i1 i2
    go_enter Tryd.func4, Tryd.ntmps4
    go_wp2_with (first
      | (go_at_call 6; refine (awake55_c _ Hm.out).mono ?_; rintro e w1 ⟨rfl, hE1⟩; have M1 := Lib.hid (Hm.out.ext hE1))
      | (go_at_call 7; with_reducible refine (holds_lit s n _ _ _ ?_ hs1 HA.out).mono ?_; exact M1.out; rintro e w2 ⟨rfl, hE2⟩; have M2 := Lib.hid (M1.out.ext hE2))
      | (go_at_call 7; with_reducible refine (holds_lit s (-n) _ _ _ ?_ hs1 HB.out).mono ?_; exact M2.out; rintro e w3 ⟨rfl, hE3⟩; have M3 := Lib.hid (M2.out.ext hE3))
      | go_in)
    all_goals
      go_ret
      exact ⟨rfl, (hE1.trans hE2).trans hE3⟩
  · have HA := Lib.hid (ho_ok h i1)
    have HB := Lib.hid (ho_ok h i2)
    have HC := Lib.hid hc
    rw [Int.natAbs_neg] at HB
    clear h i1 i2 hc
    generalize vlW n.natAbs (spl 32 s) = p at HA HB
    go_enter Tryd.func4, Tryd.ntmps4
    go_wp2_with (first
      | (go_at_call 6; refine (awake55_c _ Hm.out).mono ?_; rintro e w1 ⟨rfl, hE1⟩; have M1 := Lib.hid (Hm.out.ext hE1))
      | (go_at_call 7; with_reducible refine (holds_lit s n _ _ _ ?_ hs1 HA.out).mono ?_; exact M1.out; rintro e w2 ⟨rfl, hE2⟩; have M2 := Lib.hid (M1.out.ext hE2))
      | (go_at_call 7; with_reducible refine (holds_lit s (-n) _ _ _ ?_ hs1 HB.out).mono ?_; exact M2.out; rintro e w3 ⟨rfl, hE3⟩; have M3 := Lib.hid (M2.out.ext hE3))
      | (go_at_call 9; with_reducible refine (cont_nis s _ _ ?_ hs1 HC.out).mono ?_; exact M3.out; rintro e w5 ⟨rfl, rfl⟩)
      | go_in)
    all_goals
      go_ret
      exact ⟨rfl, (hE1.trans hE2).trans hE3⟩
  · have HA := Lib.hid (ho_ok h i1)
    have HB := Lib.hid (ho_ok h i2)
    have HC := Lib.hid hc
    have HD := Lib.hid hd
    rw [Int.natAbs_neg] at HB
    clear h i1 i2 hc hd
    generalize vlW n.natAbs (spl 32 s) = p at HA HB
    go_enter Tryd.func4, Tryd.ntmps4
    go_wp2_with (first
      | (go_at_call 6; refine (awake55_c _ Hm.out).mono ?_; rintro e w1 ⟨rfl, hE1⟩; have M1 := Lib.hid (Hm.out.ext hE1))
      | (go_at_call 7; with_reducible refine (holds_lit s n _ _ _ ?_ hs1 HA.out).mono ?_; exact M1.out; rintro e w2 ⟨rfl, hE2⟩; have M2 := Lib.hid (M1.out.ext hE2))
      | (go_at_call 7; with_reducible refine (holds_lit s (-n) _ _ _ ?_ hs1 HB.out).mono ?_; exact M2.out; rintro e w3 ⟨rfl, hE3⟩; have M3 := Lib.hid (M2.out.ext hE3))
      | (go_at_call 9; with_reducible refine (cont_nis s _ _ ?_ hs1 HC.out).mono ?_; exact M3.out; rintro e w5 ⟨rfl, rfl⟩)
      | (go_at_call 9; with_reducible refine (cont_nnot s _ _ ?_ hs1 HD.out).mono ?_; exact M3.out; rintro e w6 ⟨rfl, rfl⟩)
      | go_in)
    all_goals
      go_ret
      exact ⟨rfl, (hE1.trans hE2).trans hE3⟩
end Go.Proofs.YtbagbnceiadpdaaDoor
