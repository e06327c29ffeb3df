/- Locales: the walks that seek a number's category (which; the reference's first). -/
import Derived.Test.YtnhdmnhfllecgaaGreatDoorQ23
namespace Go.Proofs.YtnhdmnhfllecgaaGreatDoor
set_option linter.unusedVariables false
set_option linter.unusedSimpArgs false
open Go.RowKit

/-- A rule holds of a number. -/
def hitB (N : Nat) (r : List UInt8) : Bool := okR r && (rul N (wds r)).1
/-- The first category whose rule holds; the last, if none. -/
def fstI (N : Nat) (l : List Plu) : Nat := l.dropLast.findIdx fun p => hitB N p.r
end Go.Proofs.YtnhdmnhfllecgaaGreatDoor
/- Locales: the walk of which. -/
namespace Go.Proofs.YtnhdmnhfllecgaaGreatDoor
set_option linter.unusedVariables false
set_option linter.unusedSimpArgs false
open Go.RowKit

theorem readh_c (r : List UInt8) (N : Nat) (b : Bool) (w : World) (hN : (N : Int) ≤ 4611686018427387904) (hm : Lm w) (hs : r.length ≤ 7000) (ho : okR r = true) (hb : hitB N r = b) :
    Calls Tryz.prog 57 #[.string ⟨r.toArray⟩, .int .i64 (N : Int)] w fun e w' => e = .returned (.tuple #[.bool b, .bool true]) ∧ Ext w w' := by
  have h := read_c r N w hN hm hs
  have e1 : ((rul N (wds r)).2 && decide (r.length ≤ 200)) = true := by
    have := ho; unfold okR at this; rwa [rul_ind 0 N] at this
  have e2 : (rul N (wds r)).1 = b := by rw [← hb]; unfold hitB; rw [ho]; rfl
  rw [e1, e2] at h
  exact h
end Go.Proofs.YtnhdmnhfllecgaaGreatDoor
/- Locales: the walk of Plural. -/
namespace Go.Proofs.YtnhdmnhfllecgaaGreatDoor
set_option linter.unusedVariables false
set_option linter.unusedSimpArgs false
open Go.RowKit

theorem ruled_ok {l : List Plu} (h : ruledB l = true) : 1 ≤ l.length ∧ ∀ i (hi : i < l.length), i + 1 < l.length → okR (l[i]).r = true := by
  unfold ruledB at h
  simp only [Bool.and_eq_true, decide_eq_true_eq] at h
  exact ⟨h.1.1, fun i hi h2 => (h.2 i hi hi).2 (by omega)⟩
theorem valid_P {L : Loc} (h : validLB L = true) : ruledB L.P = true ∧ ruledB L.O = true := by
  unfold validLB rulB at h
  simp only [Bool.and_eq_true] at h
  exact ⟨h.1.1.1.2.1, h.1.1.2.1⟩
/-- What Plural answers. -/
noncomputable def plE (L : Loc) (n : Int) : Nat := if validLB L = false then 1 else if inrB n = false then 2 else 0
noncomputable def plV (L : Loc) (n : Int) : List UInt8 := if plE L n = 0 then (L.P[fstI n.natAbs L.P]?.map (·.c)).getD [] else []
end Go.Proofs.YtnhdmnhfllecgaaGreatDoor
