/-
  No cell of these rows narrows 'for every input' (looked for: loops, veiled, ifaces, maps, wideKeys, modest, calm, conditions, laid).
  DERIVED. THE GIVEN ROWS OF THIS SEAT. 2 by the template 'for every input the law returns true; each argument reads behind the call as it read before'; 0 by the template 'total and deterministic' (their statements: YticckkadmhklmaaGreatTotals.lean).
  GIVEN WITH THE SEED: the statements are not yours to turn. If you find one false, say at which input.
  Laid BY PROGRAM, IN A SANDBOX (cutbox-rows.mjs): the forced cells as the released guide's own fill.sh prints them over the translation 89c8fd2c82a57d42… (all of the seat's roots in one cut). By AI agents, Wed Nov 11 2026. No macro, syntax, notation, axiom, sorry.
-/
import Derived.Test.YticckkadmhklmaaGreatChecked
import GoSem.Claim
import GoSem.ClaimJoined
import GoSem.ClaimMapViews
import Derived.JoinedTies
import Derived.KernelRfl
namespace Go.Proofs.YticckkadmhklmaaGreat
/- THE CELL 'sum', in the pinned program and in every row, IS THE sha256 OF THE DUMP (.gsa) THAT YticckkadmhklmaaGreatProg.lean LOADS. Nothing in Lean hashes anything: it is a label: what it is worth is what the hold of that sum in a sandbox is worth. -/
noncomputable def Tryz.pinned : Pinned := { name := "yticckkadmhklmaagreat", sum := "89c8fd2c82a57d42a259263770d720e15b4ee2cff4b6100dfe1e287ed3dd9024", checked := Tryz.checked }
namespace Rows
def none {H : Type} : Left H := { results := [], args := [] }

/-- 'civiltimelaw54.PatternFormats': WHATEVER THE INPUT: true; the input reads as it did. -/
def patternFormatsSpec : ChangeSpec := { name := "patternFormats", fn := fun _ => fun
  | [d1, d2, d3, d4] => { results := [.lit (.bool true)], args := [d1, d2, d3, d4] }
  | _ => none }
def patternFormatsRow : OpenClaim := { program := "yticckkadmhklmaagreat", sum := "89c8fd2c82a57d42a259263770d720e15b4ee2cff4b6100dfe1e287ed3dd9024", func := "civiltime/civiltimelaw54.PatternFormats", spec := "patternFormats", inPlace := ["internal/abi.NoEscape", "internal/bytealg.MakeNoZero"], unfollowed := true, recurses := true, apart := false }
def PatternFormatsSaid : Prop := patternFormatsRow.holds Tryz.pinned (OpenSpec.ofChange patternFormatsSpec)

/-- ITS FALSE NEIGHBOUR: 'it returns false'. Refute it at one input. -/
def patternFormatsWrong : ChangeSpec := { name := "patternFormats", fn := fun _ => fun
  | [d1, d2, d3, d4] => { results := [.lit (.bool false)], args := [d1, d2, d3, d4] }
  | _ => none }
def PatternFormatsWrongFalsely : Prop := patternFormatsRow.holds Tryz.pinned (OpenSpec.ofChange patternFormatsWrong)

/-- 'civiltimelaw54.PatternParses': WHATEVER THE INPUT: true; the input reads as it did. -/
def patternParsesSpec : ChangeSpec := { name := "patternParses", fn := fun _ => fun
  | [d1, d2, d3] => { results := [.lit (.bool true)], args := [d1, d2, d3] }
  | _ => none }
def patternParsesRow : OpenClaim := { program := "yticckkadmhklmaagreat", sum := "89c8fd2c82a57d42a259263770d720e15b4ee2cff4b6100dfe1e287ed3dd9024", func := "civiltime/civiltimelaw54.PatternParses", spec := "patternParses", inPlace := ["internal/abi.NoEscape", "internal/bytealg.MakeNoZero"], unfollowed := true, recurses := true, apart := false }
def PatternParsesSaid : Prop := patternParsesRow.holds Tryz.pinned (OpenSpec.ofChange patternParsesSpec)

/-- ITS FALSE NEIGHBOUR: 'it returns false'. Refute it at one input. -/
def patternParsesWrong : ChangeSpec := { name := "patternParses", fn := fun _ => fun
  | [d1, d2, d3] => { results := [.lit (.bool false)], args := [d1, d2, d3] }
  | _ => none }
def PatternParsesWrongFalsely : Prop := patternParsesRow.holds Tryz.pinned (OpenSpec.ofChange patternParsesWrong)

/- THE SECOND FORM. 'bulk': how many values and letters a reading holds, each counted each time it is reached (what is shared counts as often as it is met; a slice's spare places count too). A statement '..UptoSaid' is the law's where the arguments, and the package variables that the reading takes, are together of bulk at most 1048576: NARROWER than '..Said'. Prove '..Said' where nothing that the law and all that it calls make is longer than what came in: it says more and counts as full. Else prove '..UptoSaid'. A law counts once. -/
mutual
def uptoBulk {H : Type} : DataW H → Nat
  | .lit (.string bytes) => bytes.length + 1
  | .lit _ => 1
  | .nil => 1
  | .ptr d => uptoBulk d + 1
  | .slice elems spare => uptoBulkAll elems + uptoBulkAll spare + 1
  | .agg parts => uptoBulkAll parts + 1
  | .iface _ d => uptoBulk d + 1
  | .map entries => uptoBulkEntries entries + 1
  | .held _ => 1
def uptoBulkAll {H : Type} : List (DataW H) → Nat
  | [] => 0
  | d :: r => uptoBulk d + uptoBulkAll r
def uptoBulkEntries {H : Type} : List (Lit × DataW H) → Nat
  | [] => 0
  | x :: r => uptoBulkEntry x + uptoBulkEntries r
def uptoBulkEntry {H : Type} : Lit × DataW H → Nat
  | (.string bytes, d) => bytes.length + uptoBulk d + 1
  | (_, d) => uptoBulk d + 1
 end
def uptoSmall : (H : Type) → List (DataW H) → Bool := fun _ ds => decide (uptoBulkAll ds ≤ 1048576)
def OpenSpec.upto (s : _root_.Go.ChangeSpec) : _root_.Go.OpenSpec := { _root_.Go.OpenSpec.ofChange s with cond := some uptoSmall }

/-- 'civiltimelaw54.PatternFormats', WHERE WHAT IT READS IS OF BULK AT MOST 1048576: true; the input reads as it did. -/
def patternFormatsUptoRow : OpenClaim := { program := "yticckkadmhklmaagreat", sum := "89c8fd2c82a57d42a259263770d720e15b4ee2cff4b6100dfe1e287ed3dd9024", func := "civiltime/civiltimelaw54.PatternFormats", spec := "patternFormats", inPlace := ["internal/abi.NoEscape", "internal/bytealg.MakeNoZero"], unfollowed := true, recurses := true, apart := false, narrowed := true }
def PatternFormatsUptoSaid : Prop := patternFormatsUptoRow.holds Tryz.pinned (OpenSpec.upto patternFormatsSpec)

/-- 'civiltimelaw54.PatternParses', WHERE WHAT IT READS IS OF BULK AT MOST 1048576: true; the input reads as it did. -/
def patternParsesUptoRow : OpenClaim := { program := "yticckkadmhklmaagreat", sum := "89c8fd2c82a57d42a259263770d720e15b4ee2cff4b6100dfe1e287ed3dd9024", func := "civiltime/civiltimelaw54.PatternParses", spec := "patternParses", inPlace := ["internal/abi.NoEscape", "internal/bytealg.MakeNoZero"], unfollowed := true, recurses := true, apart := false, narrowed := true }
def PatternParsesUptoSaid : Prop := patternParsesUptoRow.holds Tryz.pinned (OpenSpec.upto patternParsesSpec)

end Rows
end Go.Proofs.YticckkadmhklmaaGreat
