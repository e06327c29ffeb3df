/- The walk of the reference's Format. -/
import Derived.Test.YticckkadmhklmaaGreatDoorK31
import Derived.Test.YticckkadmhklmaaGreatDoorK34
import Derived.Test.YticckkadmhklmaaGreatDoorK33
import Derived.Test.YticckkadmhklmaaGreatDoorK29
namespace Go.Proofs.YticckkadmhklmaaGreatDoor
set_option linter.unusedVariables false
set_option linter.unusedSimpArgs false
open Go.RowKit Go.Maps

theorem off_data (o : Int) (ho : o.natAbs < 93600) : ∃ (N x1 x2 x3 : Nat) (L1 L2 L3 : List UInt8), N < 93600 ∧ ((o < 0 ∧ 0 - o = (N : Int)) ∨ (¬ o < 0 ∧ o = (N : Int))) ∧
    offT o = (if o < 0 then 45 else 43) :: (L1 ++ 58 :: (L2 ++ if x3 = 0 then [] else 58 :: L3)) ∧ (itx x1 2 = L1 ∧ itx x2 2 = L2 ∧ itx x3 2 = L3) ∧ (x1 ≤ 100 ∧ x2 ≤ 100 ∧ x3 ≤ 100) ∧ (L1.length ≤ 3 ∧ L2.length ≤ 3 ∧ L3.length ≤ 3) ∧
    ((N : Int).tdiv 3600 = (x1 : Int) ∧ ((N : Int).tdiv 60).tmod 60 = (x2 : Int) ∧ (N : Int).tmod 60 = (x3 : Int)) ∧ ((N : Int) / 3600 = (x1 : Int) ∧ (N : Int) / 60 % 60 = (x2 : Int) ∧ (N : Int) % 60 = (x3 : Int)) := by
  have l3 : ∀ x, x ≤ 100 → (itx x 2).length ≤ 3 := fun x hx => (itx_len_le (k := 2) (m := 3) (by decide) (by decide) (by show x < 1000; omega)).2.1
  refine ⟨o.natAbs, o.natAbs / 3600, o.natAbs / 60 % 60, o.natAbs % 60, _, _, _, ho, by omega, rfl, ⟨rfl, rfl, rfl⟩, ⟨by omega, by omega, by omega⟩, ⟨l3 _ (by omega), l3 _ (by omega), l3 _ (by omega)⟩, ⟨?_, ?_, ?_⟩, rfl, rfl, rfl⟩
  · rw [Int.tdiv_eq_ediv_of_nonneg (by omega)]; rfl
  · rw [Int.tdiv_eq_ediv_of_nonneg (by omega), Int.tmod_eq_emod_of_nonneg (by omega)]; rfl
  · rw [Int.tmod_eq_emod_of_nonneg (by omega)]; rfl
theorem rvalid_lit (l : List Prt) (b : Bool) (ao : Option Addr) (cap : Nat) (w : World) (h : PtV ao cap l w) (hl : ∀ p ∈ l, p.t.length ≤ 4000) (hv : validB l = b) :
    Calls Tryz.prog 10 #[.slice ao l.length cap] w fun e w' => e = .returned (.bool b) ∧ Ext w w' := by
  rw [← hv]; exact rpvalid_c l ao cap w h hl
theorem tyOk_zero {o : Int} {tn : List UInt8} {b : Bool} (h : (decide (-93600 < o) && decide (o < 93600) && typB tn) = b) : tyOk o 0 tn = b := by
  rw [← h]; unfold tyOk; simp
end Go.Proofs.YticckkadmhklmaaGreatDoor
/- The reference's Format, where something is not valid. -/
namespace Go.Proofs.YticckkadmhklmaaGreatDoor
set_option linter.unusedVariables false
set_option linter.unusedSimpArgs false
open Go.RowKit Go.Maps

end Go.Proofs.YticckkadmhklmaaGreatDoor
