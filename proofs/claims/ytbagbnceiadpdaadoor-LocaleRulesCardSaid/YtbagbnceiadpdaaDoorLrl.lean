/- The walk of LocaleRules. -/
import Derived.Test.YtbagbnceiadpdaaDoorRef7
import Derived.Test.YtbagbnceiadpdaaDoorAwk55
namespace Go.Proofs.YtbagbnceiadpdaaDoor
set_option linter.unusedVariables false
set_option linter.unusedSimpArgs false
open Go.RowKit

set_option maxRecDepth 100000 in
theorem lrules_walk (s : ByteArray) (n : Int) (w : World) (hm : Lm w) (_ : -9223372036854775808 ≤ n) (_ : n ≤ 9223372036854775807) :
    Calls Tryd.prog 3 #[.string s, .int .i64 n] w fun e w' => e = .returned (.bool true) ∧ Ext w w' := by
  have Hm := Lib.hid hm
  clear hm
  obtain ⟨l, rfl⟩ : ∃ l : List UInt8, s = ⟨l.toArray⟩ := ⟨s.data.toList, ba_mk s⟩
  go_enter Tryd.func3, Tryd.ntmps3
  have hE := Ext.refl w
  by_cases hl : l.length ≤ 300
  · go_wp2_with (first
      | (go_at_call 6; refine (awake55_c _ Hm.out).mono ?_; rintro e w1 ⟨rfl, hE1⟩)
      | (go_at_call 7; refine (holds_c l n _ (Hm.out.ext hE1) (by omega)).mono ?_; rintro e w2 ⟨rfl, hE2⟩)
      | (go_at_call 8; refine (rholds_c l n _ (by omega)).mono ?_; rintro e w3 ⟨rfl, hE3⟩)
      | go_in)
    go_ret
    exact ⟨rfl, (hE1.trans hE2).trans hE3⟩
  · go_wp2_with (first
      | (go_at_call 6; refine (awake55_c _ Hm.out).mono ?_; rintro e w1 ⟨rfl, hE1⟩)
      | go_in)
    go_ret
    exact ⟨rfl, hE1⟩
end Go.Proofs.YtbagbnceiadpdaaDoor
