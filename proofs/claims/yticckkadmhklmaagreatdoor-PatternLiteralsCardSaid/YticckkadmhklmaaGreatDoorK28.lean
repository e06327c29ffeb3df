/- Opening arguments: integers' bounds. -/
import Derived.Test.YticckkadmhklmaaGreatDoorK00
import Derived.ProofKit
import Derived.OpenShut
import Derived.Below
namespace Go.Proofs.YticckkadmhklmaaGreatDoor
open Go.ChangeShapes Go.WideShapes Go.ChangeAt Go.RowKit

theorem i64_wf {n : Int} (h : (Lit.int .i64 n).wf = true) : -9223372036854775808 ≤ n ∧ n ≤ 9223372036854775807 := by
  simp only [Lit.wf, Bool.and_eq_true, decide_eq_true_eq] at h
  exact h
theorem u8_wf {n : Int} (h : (Lit.int .u8 n).wf = true) : 0 ≤ n ∧ n ≤ 255 := by
  simp only [Lit.wf, Bool.and_eq_true, decide_eq_true_eq] at h
  exact h
end Go.Proofs.YticckkadmhklmaaGreatDoor
/- What every frame of this seat uses: no knob is set; the types are laid out. -/
namespace Go.Proofs.YticckkadmhklmaaGreatDoor
theorem own : ownKnob Tryz.prog.godebug = none := by kernel_rfl
theorem laidOut : laidOutB Tryz.prog = true := by kernel_rfl
end Go.Proofs.YticckkadmhklmaaGreatDoor
