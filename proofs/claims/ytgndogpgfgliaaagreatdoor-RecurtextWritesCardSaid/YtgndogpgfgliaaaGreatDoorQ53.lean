/- Recurrence rules: the walk of the law RecurtextWrites. -/
import Derived.Test.YtgndogpgfgliaaaGreatDoorQ52
import Derived.Test.YtgndogpgfgliaaaGreatDoorQ27
import Derived.Test.YtgndogpgfgliaaaGreatDoorQ29
namespace Go.Proofs.YtgndogpgfgliaaaGreatDoor
set_option linter.unusedVariables false
set_option linter.unnecessarySimpa false
set_option linter.unusedSimpArgs false
open Go.RowKit

set_option maxRecDepth 100000 in
set_option maxHeartbeats 4000000 in
theorem writes_great (r : Rec) (w : World) (hm : Lm w) (hV : RcV r w) (hg : greatR r.D = true) :
    Calls Tryz.prog 3 #[.agg r.vals.toArray] w fun e w' => e = .returned (.bool true) ∧ Ext w w' := by
  have hE0 : Ext w (w.alloc (.cells r.vals.toArray 25)) := (Ext.refl w).alloc _
  have HE0 := Lib.hid hE0
  have hB := RcB.new r w 25
  have hBr := hB.2
  have hBl := hB.1
  have hRs := rec_size r
  have HG := Lib.hid (fun W (hE : Ext (w.alloc (.cells r.vals.toArray 25)) W) => great30_c r true W ((hV.ext hE0).ext hE) hg)
  have HA := Lib.hid (awake30_c _ (hm.ext hE0))
  clear hE0 hB hV hm hg
  go_enter Tryz.func3, Tryz.ntmps3
  go_upto_region 1 with fail
  generalize w.alloc (.cells r.vals.toArray 25) = W0 at *
  generalize w.heap.size = B at *
  go_upto_region 3 with (go_at_call 11; (with_reducible refine HA.out.mono ?_); rintro e w1 ⟨rfl, hE1⟩)
  have hB1 : RcB r B w1 := RcB.ext ⟨hBl, hBr⟩ hE1
  have hBr1 := hB1.2
  go_wp2_with (first
    | (refine load_midg (by rfl) 25 _ rfl B 0 rfl r.vals _ hBr1 Tryz.underlying25 rfl hRs ?_)
    | (go_at_call 12; (with_reducible refine (HG.out _ hE1).mono ?_); rintro e w2 ⟨rfl, hE2⟩; have hE2' := hE1.trans hE2))
  go_ret
  exact ⟨rfl, HE0.out.trans hE2'⟩
set_option maxRecDepth 100000 in
set_option maxHeartbeats 4000000 in
theorem writes_go (r : Rec) (w : World) (hm : Lm w) (hV : RcV r w) (hg : greatR r.D = false) :
    Calls Tryz.prog 3 #[.agg r.vals.toArray] w fun e w' => e = .returned (.bool true) ∧ Ext w w' := by
  have hE0 : Ext w (w.alloc (.cells r.vals.toArray 25)) := (Ext.refl w).alloc _
  have HE0 := Lib.hid hE0
  have hB := RcB.new r w 25
  have hBr := hB.2
  have hBl := hB.1
  have hRs := rec_size r
  have HG := Lib.hid (fun W (hE : Ext (w.alloc (.cells r.vals.toArray 25)) W) => great30_c r false W ((hV.ext hE0).ext hE) hg)
  have HA := Lib.hid (awake30_c _ (hm.ext hE0))
  obtain ⟨T, D, c, hT, hU, hD, hE⟩ : ∃ (T D : List UInt8) (c : Int),
      (∀ W, RcV r W → Calls Tryz.prog 13 #[.agg r.vals.toArray] W fun e w' => e = .returned (.tuple #[.string ⟨T.toArray⟩, .int .i64 c]) ∧ Ext W w') ∧
      (∀ W, RcV r W → Calls Tryz.prog 14 #[.agg r.vals.toArray] W fun e w' => e = .returned (.tuple #[.string ⟨T.toArray⟩, .int .i64 c]) ∧ Ext W w') ∧
      (∀ W, RcV r W → Calls Tryz.prog 15 #[.agg r.vals.toArray] W fun e w' => e = .returned (.tuple #[.string ⟨D.toArray⟩, .int .i64 c]) ∧ Ext W w') ∧
      (∀ W, RcV r W → Calls Tryz.prog 16 #[.agg r.vals.toArray] W fun e w' => e = .returned (.tuple #[.string ⟨D.toArray⟩, .int .i64 c]) ∧ Ext W w') := by
    rcases Bool.eq_false_or_eq_true (vldR r.D) with hv | hv
    · refine ⟨txtZ momT r.D, desZ momT r.D, 0, fun W hW => utext_yes r W hW hv, fun W hW => rtext30_yes r W hW hv, fun W hW => (udesc_c r W hW).mono (fun e w' h => ?_), fun W hW => rdesc30_yes r W hW hv⟩
      unfold DescR at h
      rw [if_pos hv] at h
      exact h
    · refine ⟨[], [], 1, fun W hW => utext_no r W hW hv, fun W hW => rtext30_no r W hW hv, fun W hW => (udesc_c r W hW).mono (fun e w' h => ?_), fun W hW => rdesc30_no r W hW hv⟩
      unfold DescR at h
      rw [if_neg (by rw [hv]; decide)] at h
      exact h
  have HT := Lib.hid (fun W (hE : Ext (w.alloc (.cells r.vals.toArray 25)) W) => hT W ((hV.ext hE0).ext hE))
  have HU := Lib.hid (fun W (hE : Ext (w.alloc (.cells r.vals.toArray 25)) W) => hU W ((hV.ext hE0).ext hE))
  have HD := Lib.hid (fun W (hE : Ext (w.alloc (.cells r.vals.toArray 25)) W) => hD W ((hV.ext hE0).ext hE))
  have HQ := Lib.hid (fun W (hE' : Ext (w.alloc (.cells r.vals.toArray 25)) W) => hE W ((hV.ext hE0).ext hE'))
  clear hE0 hB hV hm hg hT hU hD hE
  go_enter Tryz.func3, Tryz.ntmps3
  go_upto_region 1 with fail
  generalize w.alloc (.cells r.vals.toArray 25) = W0 at *
  generalize w.heap.size = B at *
  go_upto_region 3 with (go_at_call 11; (with_reducible refine HA.out.mono ?_); rintro e w1 ⟨rfl, hE1⟩)
  have hB1 : RcB r B w1 := RcB.ext ⟨hBl, hBr⟩ hE1
  have hBr1 := hB1.2
  clear hBr
  go_wp2_with (first
    | (refine load_midg (by rfl) 25 _ rfl B 0 rfl r.vals _ (by assumption) Tryz.underlying25 rfl hRs ?_)
    | (go_at_call 12; (with_reducible refine (HG.out _ hE1).mono ?_); rintro e w2 ⟨rfl, hE2⟩; have hE2' := hE1.trans hE2; have hB2 := hB1.ext hE2; have hBr2 := hB2.2)
    | (go_at_call 13; (with_reducible refine (HT.out _ hE2').mono ?_); rintro e w3 ⟨rfl, hE3⟩; have hE3' := hE2'.trans hE3; have hB3 := hB2.ext hE3; have hBr3 := hB3.2)
    | (go_at_call 14; (with_reducible refine (HU.out _ hE3').mono ?_); rintro e w4 ⟨rfl, hE4⟩; have hE4' := hE3'.trans hE4; have hB4 := hB3.ext hE4; have hBr4 := hB4.2)
    | (go_at_call 15; (with_reducible refine (HD.out _ hE4').mono ?_); rintro e w5 ⟨rfl, hE5⟩; have hE5' := hE4'.trans hE5; have hB5 := hB4.ext hE5; have hBr5 := hB5.2)
    | (go_at_call 16; (with_reducible refine (HQ.out _ hE5').mono ?_); rintro e w6 ⟨rfl, hE6⟩; have hE6' := hE5'.trans hE6))
  go_ret
  exact ⟨rfl, HE0.out.trans hE6'⟩
theorem writes30_walk (r : Rec) (w : World) (hm : Lm w) (hV : RcV r w) :
    Calls Tryz.prog 3 #[.agg r.vals.toArray] w fun e w' => e = .returned (.bool true) ∧ Ext w w' := by
  rcases Bool.eq_false_or_eq_true (greatR r.D) with hg | hg
  · exact writes_great r w hm hV hg
  · exact writes_go r w hm hV hg
end Go.Proofs.YtgndogpgfgliaaaGreatDoor
