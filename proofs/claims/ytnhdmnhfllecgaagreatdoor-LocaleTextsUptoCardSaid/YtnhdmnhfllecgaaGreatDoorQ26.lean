/- Locales: the walk of the reference's Plural. -/
import Derived.Test.YtnhdmnhfllecgaaGreatDoorQ24
import Derived.Test.YtnhdmnhfllecgaaGreatDoorQ25
import Derived.Test.YtnhdmnhfllecgaaGreatDoorQ00
namespace Go.Proofs.YtnhdmnhfllecgaaGreatDoor
set_option linter.unusedVariables false
set_option linter.unusedSimpArgs false
open Go.RowKit

end Go.Proofs.YtnhdmnhfllecgaaGreatDoor
/- Locales: the walk of the reference's decimal. -/
namespace Go.Proofs.YtnhdmnhfllecgaaGreatDoor
set_option linter.unusedVariables false
set_option linter.unusedSimpArgs false
open Go.RowKit

theorem rdec_c (v : Nat) (X : List UInt8) (w : World) (hv : (v : Int) ≤ 4611686018427387904) (h : itx v 1 = X) :
    Calls Tryz.prog 25 #[.int .i64 (v : Int)] w fun e w' => e = .returned (.string ⟨X.toArray⟩) ∧ Ext w w' := by
  have HT : Hid (Calls Tryz.prog 64 #[.int .i64 (v : Int), .int .i64 1] w fun e w' => e = .returned (.string ⟨X.toArray⟩) ∧ Ext w w') := rtext_c v 1 X w hv (by omega) h
  clear h
  go_enter Tryz.func25, Tryz.ntmps25
  go_wp2_with (first
    | (go_at_call 64; (with_reducible refine HT.out.mono ?_); rintro e w1 ⟨rfl, hE1⟩))
  go_ret
  exact ⟨rfl, hE1⟩
end Go.Proofs.YtnhdmnhfllecgaaGreatDoor
/- Locales: the walk of the reference's Ordinal. -/
namespace Go.Proofs.YtnhdmnhfllecgaaGreatDoor
set_option linter.unusedVariables false
set_option linter.unusedSimpArgs false
open Go.RowKit

def onrB (n : Int) : Bool := decide (0 ≤ n ∧ n ≤ 4611686018427387904)
/-- What Ordinal answers. -/
noncomputable def orE (L : Loc) (n : Int) : Nat := if validLB L = false then 1 else if onrB n = false then 2 else 0
noncomputable def orV (L : Loc) (n : Int) : List UInt8 := if orE L n = 0 then itx n.natAbs 1 ++ (L.O[fstI n.natAbs L.O]?.map (·.c)).getD [] else []

end Go.Proofs.YtnhdmnhfllecgaaGreatDoor
/- The walks of package integer and of its reference. -/
namespace Go.Proofs.YtnhdmnhfllecgaaGreatDoor
open Go.RowKit

end Go.Proofs.YtnhdmnhfllecgaaGreatDoor
