/-
  No cell of these rows narrows 'for every input' (looked for: loops, veiled, ifaces, maps, wideKeys, modest, calm, conditions, laid).
  DERIVED. THE GIVEN ROWS OF THIS SEAT. 3 by the template 'for every input the law returns true; each argument reads behind the call as it read before'; 0 by the template 'total and deterministic' (their statements: YticckkadmhklmaaTotals.lean).
  GIVEN WITH THE SEED: the statements are not yours to turn. If you find one false, say at which input.
  Laid BY PROGRAM, IN A SANDBOX (cutbox-rows.mjs): the forced cells as the released guide's own fill.sh prints them over the translation d42b3ff7df6ea4e9… (all of the seat's roots in one cut). By AI agents, Wed Nov 11 2026. No macro, syntax, notation, axiom, sorry.
-/
import Derived.Test.YticckkadmhklmaaChecked
import GoSem.Claim
import GoSem.ClaimJoined
import GoSem.ClaimMapViews
import Derived.JoinedTies
import Derived.KernelRfl
namespace Go.Proofs.Yticckkadmhklmaa
/- THE CELL 'sum', in the pinned program and in every row, IS THE sha256 OF THE DUMP (.gsa) THAT YticckkadmhklmaaProg.lean LOADS. Nothing in Lean hashes anything: it is a label: what it is worth is what the hold of that sum in a sandbox is worth. -/
noncomputable def Try.pinned : Pinned := { name := "yticckkadmhklmaa", sum := "d42b3ff7df6ea4e944cb6c1c5b1d8a43f0a8dc837418c56ceec8d0158e89e771", checked := Try.checked }
namespace Rows
def none {H : Type} : Left H := { results := [], args := [] }

/-- 'civiltimelaw54.PatternAgain': WHATEVER THE INPUT: true; the input reads as it did. -/
def patternAgainSpec : ChangeSpec := { name := "patternAgain", fn := fun _ => fun
  | [d1, d2, d3] => { results := [.lit (.bool true)], args := [d1, d2, d3] }
  | _ => none }
def patternAgainRow : OpenClaim := { program := "yticckkadmhklmaa", sum := "d42b3ff7df6ea4e944cb6c1c5b1d8a43f0a8dc837418c56ceec8d0158e89e771", func := "civiltime/civiltimelaw54.PatternAgain", spec := "patternAgain", inPlace := ["internal/abi.NoEscape", "internal/bytealg.MakeNoZero"], unfollowed := true, recurses := true, apart := false }
def PatternAgainSaid : Prop := patternAgainRow.holds Try.pinned (OpenSpec.ofChange patternAgainSpec)

/-- ITS FALSE NEIGHBOUR: 'it returns false'. Refute it at one input. -/
def patternAgainWrong : ChangeSpec := { name := "patternAgain", fn := fun _ => fun
  | [d1, d2, d3] => { results := [.lit (.bool false)], args := [d1, d2, d3] }
  | _ => none }
def PatternAgainWrongFalsely : Prop := patternAgainRow.holds Try.pinned (OpenSpec.ofChange patternAgainWrong)

/-- 'civiltimelaw54.PatternCompiles': WHATEVER THE INPUT: true; the input reads as it did. -/
def patternCompilesSpec : ChangeSpec := { name := "patternCompiles", fn := fun _ => fun
  | [d] => { results := [.lit (.bool true)], args := [d] }
  | _ => none }
def patternCompilesRow : OpenClaim := { program := "yticckkadmhklmaa", sum := "d42b3ff7df6ea4e944cb6c1c5b1d8a43f0a8dc837418c56ceec8d0158e89e771", func := "civiltime/civiltimelaw54.PatternCompiles", spec := "patternCompiles", inPlace := ["internal/abi.NoEscape", "internal/bytealg.MakeNoZero"], unfollowed := true, recurses := true, apart := false }
def PatternCompilesSaid : Prop := patternCompilesRow.holds Try.pinned (OpenSpec.ofChange patternCompilesSpec)

/-- ITS FALSE NEIGHBOUR: 'it returns false'. Refute it at one input. -/
def patternCompilesWrong : ChangeSpec := { name := "patternCompiles", fn := fun _ => fun
  | [d] => { results := [.lit (.bool false)], args := [d] }
  | _ => none }
def PatternCompilesWrongFalsely : Prop := patternCompilesRow.holds Try.pinned (OpenSpec.ofChange patternCompilesWrong)

/-- 'civiltimelaw54.PatternLossless': WHATEVER THE INPUT: true; the input reads as it did. -/
def patternLosslessSpec : ChangeSpec := { name := "patternLossless", fn := fun _ => fun
  | [d1, d2, d3, d4] => { results := [.lit (.bool true)], args := [d1, d2, d3, d4] }
  | _ => none }
def patternLosslessRow : OpenClaim := { program := "yticckkadmhklmaa", sum := "d42b3ff7df6ea4e944cb6c1c5b1d8a43f0a8dc837418c56ceec8d0158e89e771", func := "civiltime/civiltimelaw54.PatternLossless", spec := "patternLossless", inPlace := ["internal/abi.NoEscape", "internal/bytealg.MakeNoZero"], unfollowed := true, recurses := true, apart := false }
def PatternLosslessSaid : Prop := patternLosslessRow.holds Try.pinned (OpenSpec.ofChange patternLosslessSpec)

/-- ITS FALSE NEIGHBOUR: 'it returns false'. Refute it at one input. -/
def patternLosslessWrong : ChangeSpec := { name := "patternLossless", fn := fun _ => fun
  | [d1, d2, d3, d4] => { results := [.lit (.bool false)], args := [d1, d2, d3, d4] }
  | _ => none }
def PatternLosslessWrongFalsely : Prop := patternLosslessRow.holds Try.pinned (OpenSpec.ofChange patternLosslessWrong)

/- THE SECOND FORM. 'bulk': how many values and letters a reading holds, each counted each time it is reached (what is shared counts as often as it is met; a slice's spare places count too). A statement '..UptoSaid' is the law's where the arguments, and the package variables that the reading takes, are together of bulk at most 1048576: NARROWER than '..Said'. Prove '..Said' where nothing that the law and all that it calls make is longer than what came in: it says more and counts as full. Else prove '..UptoSaid'. A law counts once. -/
mutual
def uptoBulk {H : Type} : DataW H → Nat
  | .lit (.string bytes) => bytes.length + 1
  | .lit _ => 1
  | .nil => 1
  | .ptr d => uptoBulk d + 1
  | .slice elems spare => uptoBulkAll elems + uptoBulkAll spare + 1
  | .agg parts => uptoBulkAll parts + 1
  | .iface _ d => uptoBulk d + 1
  | .map entries => uptoBulkEntries entries + 1
  | .held _ => 1
def uptoBulkAll {H : Type} : List (DataW H) → Nat
  | [] => 0
  | d :: r => uptoBulk d + uptoBulkAll r
def uptoBulkEntries {H : Type} : List (Lit × DataW H) → Nat
  | [] => 0
  | x :: r => uptoBulkEntry x + uptoBulkEntries r
def uptoBulkEntry {H : Type} : Lit × DataW H → Nat
  | (.string bytes, d) => bytes.length + uptoBulk d + 1
  | (_, d) => uptoBulk d + 1
 end
def uptoSmall : (H : Type) → List (DataW H) → Bool := fun _ ds => decide (uptoBulkAll ds ≤ 1048576)
def OpenSpec.upto (s : _root_.Go.ChangeSpec) : _root_.Go.OpenSpec := { _root_.Go.OpenSpec.ofChange s with cond := some uptoSmall }

/-- 'civiltimelaw54.PatternAgain', WHERE WHAT IT READS IS OF BULK AT MOST 1048576: true; the input reads as it did. -/
def patternAgainUptoRow : OpenClaim := { program := "yticckkadmhklmaa", sum := "d42b3ff7df6ea4e944cb6c1c5b1d8a43f0a8dc837418c56ceec8d0158e89e771", func := "civiltime/civiltimelaw54.PatternAgain", spec := "patternAgain", inPlace := ["internal/abi.NoEscape", "internal/bytealg.MakeNoZero"], unfollowed := true, recurses := true, apart := false, narrowed := true }
def PatternAgainUptoSaid : Prop := patternAgainUptoRow.holds Try.pinned (OpenSpec.upto patternAgainSpec)

/-- 'civiltimelaw54.PatternCompiles', WHERE WHAT IT READS IS OF BULK AT MOST 1048576: true; the input reads as it did. -/
def patternCompilesUptoRow : OpenClaim := { program := "yticckkadmhklmaa", sum := "d42b3ff7df6ea4e944cb6c1c5b1d8a43f0a8dc837418c56ceec8d0158e89e771", func := "civiltime/civiltimelaw54.PatternCompiles", spec := "patternCompiles", inPlace := ["internal/abi.NoEscape", "internal/bytealg.MakeNoZero"], unfollowed := true, recurses := true, apart := false, narrowed := true }
def PatternCompilesUptoSaid : Prop := patternCompilesUptoRow.holds Try.pinned (OpenSpec.upto patternCompilesSpec)

/-- 'civiltimelaw54.PatternLossless', WHERE WHAT IT READS IS OF BULK AT MOST 1048576: true; the input reads as it did. -/
def patternLosslessUptoRow : OpenClaim := { program := "yticckkadmhklmaa", sum := "d42b3ff7df6ea4e944cb6c1c5b1d8a43f0a8dc837418c56ceec8d0158e89e771", func := "civiltime/civiltimelaw54.PatternLossless", spec := "patternLossless", inPlace := ["internal/abi.NoEscape", "internal/bytealg.MakeNoZero"], unfollowed := true, recurses := true, apart := false, narrowed := true }
def PatternLosslessUptoSaid : Prop := patternLosslessUptoRow.holds Try.pinned (OpenSpec.upto patternLosslessSpec)

end Rows
end Go.Proofs.Yticckkadmhklmaa
