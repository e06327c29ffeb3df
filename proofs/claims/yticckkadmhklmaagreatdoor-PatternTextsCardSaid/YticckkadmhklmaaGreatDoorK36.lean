/- The walk of the law on Format: the program's answer is the reference's. -/
import Derived.Test.YticckkadmhklmaaGreatDoorK35
import Derived.Test.YticckkadmhklmaaGreatDoorK31
import Derived.Test.YticckkadmhklmaaGreatDoorK24
import Derived.Test.YticckkadmhklmaaGreatDoorK29
namespace Go.Proofs.YticckkadmhklmaaGreatDoor
set_option linter.unusedVariables false
set_option linter.unusedSimpArgs false
open Go.RowKit Go.Maps

theorem great_texts {l : List Prt} (hg : greatB l = false) : ∀ p ∈ l, p.t.length ≤ 4000 := fun p hp => by
  unfold greatB at hg
  rw [Bool.or_eq_false_iff, List.any_eq_false] at hg
  have := hg.2 p hp
  unfold grB at this
  simp at this
  omega
theorem long_names {N : Nms} (hlg : lngB N = false) : ∀ s ∈ N.all, s.length ≤ 100000 := fun s hs => by
  unfold lngB at hlg
  rw [List.any_eq_false] at hlg
  have := hlg s hs
  unfold lgB at this
  simp at this
  omega
end Go.Proofs.YticckkadmhklmaaGreatDoor
