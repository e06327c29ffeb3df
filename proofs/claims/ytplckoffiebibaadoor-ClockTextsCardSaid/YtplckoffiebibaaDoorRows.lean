/-
  NARROWER THAN 'FOR EVERY INPUT', by the rows' own cells (each row's printed sentence says how): ClockTimes: laid · ClockInstants: laid · ClockMoments: laid · ClockSteps: laid · ClockDurations: laid · ClockSums: laid · ClockRounds: laid · ClockNear: laid · ClockOrder: laid · ClockTexts: laid.
  DERIVED. THE GIVEN ROWS OF THIS SEAT. 10 by the template 'for every input the law returns true; each argument reads behind the call as it read before'; 0 by the template 'total and deterministic' (their statements: YtplckoffiebibaaDoorTotals.lean).
  GIVEN WITH THE SEED: the statements are not yours to turn. If you find one false, say at which input.
  Laid BY PROGRAM, IN A SANDBOX (cutbox-rows.mjs): the forced cells as the released guide's own fill.sh prints them over the translation e35f5d9f52ec7bec… (all of the seat's roots in one cut). By AI agents, Wed Nov 11 2026. No macro, syntax, notation, axiom, sorry.
-/
import Derived.Test.YtplckoffiebibaaDoorChecked
import GoSem.Claim
import GoSem.ClaimJoined
import GoSem.ClaimMapViews
import Derived.JoinedTies
import Derived.KernelRfl
namespace Go.Proofs.YtplckoffiebibaaDoor
/- THE CELL 'sum', in the pinned program and in every row, IS THE sha256 OF THE DUMP (.gsa) THAT YtplckoffiebibaaDoorProg.lean LOADS. Nothing in Lean hashes anything: it is a label: what it is worth is what the hold of that sum in a sandbox is worth. -/
noncomputable def Tryd.pinned : Pinned := { name := "ytplckoffiebibaadoor", sum := "e35f5d9f52ec7bece5d001774a3718f652e3b6eb8e346b71365da4a0374b4583", checked := Tryd.checked }
namespace Rows
def none {H : Type} : Left H := { results := [], args := [] }

/- WHAT THE LISTED PACKAGE-LEVEL VARIABLES READ AS WHEN THE CALL BEGINS. Each datum BY PROGRAM (the guide's laid-datum.mjs) off the statement by which the dump's own 'gosem.cut.vars' lays the variable. In a bare row this is a premise. The card (YtplckoffiebibaaDoorCards.lean) ties it to the program's text. -/
def laid_math_bits_deBruijn32tab {H : Type} : DataW H := .agg [.lit (.int .u8 0), .lit (.int .u8 1), .lit (.int .u8 28), .lit (.int .u8 2), .lit (.int .u8 29), .lit (.int .u8 14), .lit (.int .u8 24), .lit (.int .u8 3), .lit (.int .u8 30), .lit (.int .u8 22), .lit (.int .u8 20), .lit (.int .u8 15), .lit (.int .u8 25), .lit (.int .u8 17), .lit (.int .u8 4), .lit (.int .u8 8), .lit (.int .u8 31), .lit (.int .u8 27), .lit (.int .u8 13), .lit (.int .u8 23), .lit (.int .u8 21), .lit (.int .u8 19), .lit (.int .u8 16), .lit (.int .u8 7), .lit (.int .u8 26), .lit (.int .u8 12), .lit (.int .u8 18), .lit (.int .u8 6), .lit (.int .u8 11), .lit (.int .u8 5), .lit (.int .u8 10), .lit (.int .u8 9)]
def laid_math_bits_deBruijn64tab {H : Type} : DataW H := .agg [.lit (.int .u8 0), .lit (.int .u8 1), .lit (.int .u8 56), .lit (.int .u8 2), .lit (.int .u8 57), .lit (.int .u8 49), .lit (.int .u8 28), .lit (.int .u8 3), .lit (.int .u8 61), .lit (.int .u8 58), .lit (.int .u8 42), .lit (.int .u8 50), .lit (.int .u8 38), .lit (.int .u8 29), .lit (.int .u8 17), .lit (.int .u8 4), .lit (.int .u8 62), .lit (.int .u8 47), .lit (.int .u8 59), .lit (.int .u8 36), .lit (.int .u8 45), .lit (.int .u8 43), .lit (.int .u8 51), .lit (.int .u8 22), .lit (.int .u8 53), .lit (.int .u8 39), .lit (.int .u8 33), .lit (.int .u8 30), .lit (.int .u8 24), .lit (.int .u8 18), .lit (.int .u8 12), .lit (.int .u8 5), .lit (.int .u8 63), .lit (.int .u8 55), .lit (.int .u8 48), .lit (.int .u8 27), .lit (.int .u8 60), .lit (.int .u8 41), .lit (.int .u8 37), .lit (.int .u8 16), .lit (.int .u8 46), .lit (.int .u8 35), .lit (.int .u8 44), .lit (.int .u8 21), .lit (.int .u8 52), .lit (.int .u8 32), .lit (.int .u8 23), .lit (.int .u8 11), .lit (.int .u8 54), .lit (.int .u8 26), .lit (.int .u8 40), .lit (.int .u8 15), .lit (.int .u8 34), .lit (.int .u8 20), .lit (.int .u8 31), .lit (.int .u8 10), .lit (.int .u8 25), .lit (.int .u8 14), .lit (.int .u8 19), .lit (.int .u8 9), .lit (.int .u8 13), .lit (.int .u8 8), .lit (.int .u8 7), .lit (.int .u8 6)]
def laid_internal_strconv_uint64pow10 {H : Type} : DataW H := .agg [.lit (.int .u64 1), .lit (.int .u64 10), .lit (.int .u64 100), .lit (.int .u64 1000), .lit (.int .u64 10000), .lit (.int .u64 100000), .lit (.int .u64 1000000), .lit (.int .u64 10000000), .lit (.int .u64 100000000), .lit (.int .u64 1000000000), .lit (.int .u64 10000000000), .lit (.int .u64 100000000000), .lit (.int .u64 1000000000000), .lit (.int .u64 10000000000000), .lit (.int .u64 100000000000000), .lit (.int .u64 1000000000000000), .lit (.int .u64 10000000000000000), .lit (.int .u64 100000000000000000), .lit (.int .u64 1000000000000000000), .lit (.int .u64 10000000000000000000)]
def laid_civiltime_clock_units {H : Type} : DataW H := .agg [.agg [.lit (.int .u8 68), .lit (.int .i64 86400)], .agg [.lit (.int .u8 72), .lit (.int .i64 3600)], .agg [.lit (.int .u8 77), .lit (.int .i64 60)], .agg [.lit (.int .u8 83), .lit (.int .i64 1)]]
def laid_strconv_ErrRange {H : Type} : DataW H := .iface "*errors.errorString" (.ptr (.agg [.lit (.string [118, 97, 108, 117, 101, 32, 111, 117, 116, 32, 111, 102, 32, 114, 97, 110, 103, 101])]))
def laid_strconv_ErrSyntax {H : Type} : DataW H := .iface "*errors.errorString" (.ptr (.agg [.lit (.string [105, 110, 118, 97, 108, 105, 100, 32, 115, 121, 110, 116, 97, 120])]))

/-- 'civiltimelaw04.ClockTimes': WHATEVER THE INPUT: true; the input reads as it did. -/
def clockTimesSpec : ChangeSpec := { name := "clockTimes", fn := fun _ => fun
  | [d1, d2] => { results := [.lit (.bool true)], args := [d1, d2] }
  | _ => none }
def clockTimesRow : OpenClaim := { program := "ytplckoffiebibaadoor", sum := "e35f5d9f52ec7bece5d001774a3718f652e3b6eb8e346b71365da4a0374b4583", func := "civiltime/civiltimelaw04.ClockTimes", spec := "clockTimes", inPlace := ["internal/abi.NoEscape"], unfollowed := true, recurses := true, named := ["civiltime/clock.units", "internal/strconv.uint64pow10", "math/bits.deBruijn32tab", "math/bits.deBruijn64tab"], apart := false, laid := [("math/bits.deBruijn32tab", laid_math_bits_deBruijn32tab), ("math/bits.deBruijn64tab", laid_math_bits_deBruijn64tab), ("internal/strconv.uint64pow10", laid_internal_strconv_uint64pow10), ("civiltime/clock.units", laid_civiltime_clock_units)] }
def ClockTimesSaid : Prop := clockTimesRow.holds Tryd.pinned (OpenSpec.ofChange clockTimesSpec)

/-- ITS FALSE NEIGHBOUR: 'it returns false'. Refute it at one input. -/
def clockTimesWrong : ChangeSpec := { name := "clockTimes", fn := fun _ => fun
  | [d1, d2] => { results := [.lit (.bool false)], args := [d1, d2] }
  | _ => none }
def ClockTimesWrongFalsely : Prop := clockTimesRow.holds Tryd.pinned (OpenSpec.ofChange clockTimesWrong)

/-- 'civiltimelaw04.ClockInstants': WHATEVER THE INPUT: true; the input reads as it did. -/
def clockInstantsSpec : ChangeSpec := { name := "clockInstants", fn := fun _ => fun
  | [d1, d2, d3] => { results := [.lit (.bool true)], args := [d1, d2, d3] }
  | _ => none }
def clockInstantsRow : OpenClaim := { program := "ytplckoffiebibaadoor", sum := "e35f5d9f52ec7bece5d001774a3718f652e3b6eb8e346b71365da4a0374b4583", func := "civiltime/civiltimelaw04.ClockInstants", spec := "clockInstants", inPlace := ["internal/abi.NoEscape"], unfollowed := true, recurses := true, named := ["civiltime/clock.units", "internal/strconv.uint64pow10", "math/bits.deBruijn32tab", "math/bits.deBruijn64tab"], apart := false, laid := [("math/bits.deBruijn32tab", laid_math_bits_deBruijn32tab), ("math/bits.deBruijn64tab", laid_math_bits_deBruijn64tab), ("internal/strconv.uint64pow10", laid_internal_strconv_uint64pow10), ("civiltime/clock.units", laid_civiltime_clock_units)] }
def ClockInstantsSaid : Prop := clockInstantsRow.holds Tryd.pinned (OpenSpec.ofChange clockInstantsSpec)

/-- ITS FALSE NEIGHBOUR: 'it returns false'. Refute it at one input. -/
def clockInstantsWrong : ChangeSpec := { name := "clockInstants", fn := fun _ => fun
  | [d1, d2, d3] => { results := [.lit (.bool false)], args := [d1, d2, d3] }
  | _ => none }
def ClockInstantsWrongFalsely : Prop := clockInstantsRow.holds Tryd.pinned (OpenSpec.ofChange clockInstantsWrong)

/-- 'civiltimelaw04.ClockMoments': WHATEVER THE INPUT: true; the input reads as it did. -/
def clockMomentsSpec : ChangeSpec := { name := "clockMoments", fn := fun _ => fun
  | [d1, d2] => { results := [.lit (.bool true)], args := [d1, d2] }
  | _ => none }
def clockMomentsRow : OpenClaim := { program := "ytplckoffiebibaadoor", sum := "e35f5d9f52ec7bece5d001774a3718f652e3b6eb8e346b71365da4a0374b4583", func := "civiltime/civiltimelaw04.ClockMoments", spec := "clockMoments", inPlace := ["internal/abi.NoEscape"], unfollowed := true, recurses := true, named := ["civiltime/clock.units", "internal/strconv.uint64pow10", "math/bits.deBruijn32tab", "math/bits.deBruijn64tab"], apart := false, laid := [("math/bits.deBruijn32tab", laid_math_bits_deBruijn32tab), ("math/bits.deBruijn64tab", laid_math_bits_deBruijn64tab), ("internal/strconv.uint64pow10", laid_internal_strconv_uint64pow10), ("civiltime/clock.units", laid_civiltime_clock_units)] }
def ClockMomentsSaid : Prop := clockMomentsRow.holds Tryd.pinned (OpenSpec.ofChange clockMomentsSpec)

/-- ITS FALSE NEIGHBOUR: 'it returns false'. Refute it at one input. -/
def clockMomentsWrong : ChangeSpec := { name := "clockMoments", fn := fun _ => fun
  | [d1, d2] => { results := [.lit (.bool false)], args := [d1, d2] }
  | _ => none }
def ClockMomentsWrongFalsely : Prop := clockMomentsRow.holds Tryd.pinned (OpenSpec.ofChange clockMomentsWrong)

/-- 'civiltimelaw04.ClockSteps': WHATEVER THE INPUT: true; the input reads as it did. -/
def clockStepsSpec : ChangeSpec := { name := "clockSteps", fn := fun _ => fun
  | [d] => { results := [.lit (.bool true)], args := [d] }
  | _ => none }
def clockStepsRow : OpenClaim := { program := "ytplckoffiebibaadoor", sum := "e35f5d9f52ec7bece5d001774a3718f652e3b6eb8e346b71365da4a0374b4583", func := "civiltime/civiltimelaw04.ClockSteps", spec := "clockSteps", inPlace := ["internal/abi.NoEscape"], unfollowed := true, recurses := true, named := ["civiltime/clock.units", "internal/strconv.uint64pow10", "math/bits.deBruijn32tab", "math/bits.deBruijn64tab"], apart := false, laid := [("math/bits.deBruijn32tab", laid_math_bits_deBruijn32tab), ("math/bits.deBruijn64tab", laid_math_bits_deBruijn64tab), ("internal/strconv.uint64pow10", laid_internal_strconv_uint64pow10), ("civiltime/clock.units", laid_civiltime_clock_units)] }
def ClockStepsSaid : Prop := clockStepsRow.holds Tryd.pinned (OpenSpec.ofChange clockStepsSpec)

/-- ITS FALSE NEIGHBOUR: 'it returns false'. Refute it at one input. -/
def clockStepsWrong : ChangeSpec := { name := "clockSteps", fn := fun _ => fun
  | [d] => { results := [.lit (.bool false)], args := [d] }
  | _ => none }
def ClockStepsWrongFalsely : Prop := clockStepsRow.holds Tryd.pinned (OpenSpec.ofChange clockStepsWrong)

/-- 'civiltimelaw04.ClockDurations': WHATEVER THE INPUT: true; the input reads as it did. -/
def clockDurationsSpec : ChangeSpec := { name := "clockDurations", fn := fun _ => fun
  | [d1, d2] => { results := [.lit (.bool true)], args := [d1, d2] }
  | _ => none }
def clockDurationsRow : OpenClaim := { program := "ytplckoffiebibaadoor", sum := "e35f5d9f52ec7bece5d001774a3718f652e3b6eb8e346b71365da4a0374b4583", func := "civiltime/civiltimelaw04.ClockDurations", spec := "clockDurations", inPlace := ["internal/abi.NoEscape"], unfollowed := true, recurses := true, named := ["civiltime/clock.units", "internal/strconv.uint64pow10", "math/bits.deBruijn32tab", "math/bits.deBruijn64tab"], apart := false, laid := [("math/bits.deBruijn32tab", laid_math_bits_deBruijn32tab), ("math/bits.deBruijn64tab", laid_math_bits_deBruijn64tab), ("internal/strconv.uint64pow10", laid_internal_strconv_uint64pow10), ("civiltime/clock.units", laid_civiltime_clock_units)] }
def ClockDurationsSaid : Prop := clockDurationsRow.holds Tryd.pinned (OpenSpec.ofChange clockDurationsSpec)

/-- ITS FALSE NEIGHBOUR: 'it returns false'. Refute it at one input. -/
def clockDurationsWrong : ChangeSpec := { name := "clockDurations", fn := fun _ => fun
  | [d1, d2] => { results := [.lit (.bool false)], args := [d1, d2] }
  | _ => none }
def ClockDurationsWrongFalsely : Prop := clockDurationsRow.holds Tryd.pinned (OpenSpec.ofChange clockDurationsWrong)

/-- 'civiltimelaw04.ClockSums': WHATEVER THE INPUT: true; the input reads as it did. -/
def clockSumsSpec : ChangeSpec := { name := "clockSums", fn := fun _ => fun
  | [d1, d2, d3, d4] => { results := [.lit (.bool true)], args := [d1, d2, d3, d4] }
  | _ => none }
def clockSumsRow : OpenClaim := { program := "ytplckoffiebibaadoor", sum := "e35f5d9f52ec7bece5d001774a3718f652e3b6eb8e346b71365da4a0374b4583", func := "civiltime/civiltimelaw04.ClockSums", spec := "clockSums", inPlace := ["internal/abi.NoEscape"], unfollowed := true, recurses := true, named := ["civiltime/clock.units", "internal/strconv.uint64pow10", "math/bits.deBruijn32tab", "math/bits.deBruijn64tab"], apart := false, laid := [("math/bits.deBruijn32tab", laid_math_bits_deBruijn32tab), ("math/bits.deBruijn64tab", laid_math_bits_deBruijn64tab), ("internal/strconv.uint64pow10", laid_internal_strconv_uint64pow10), ("civiltime/clock.units", laid_civiltime_clock_units)] }
def ClockSumsSaid : Prop := clockSumsRow.holds Tryd.pinned (OpenSpec.ofChange clockSumsSpec)

/-- ITS FALSE NEIGHBOUR: 'it returns false'. Refute it at one input. -/
def clockSumsWrong : ChangeSpec := { name := "clockSums", fn := fun _ => fun
  | [d1, d2, d3, d4] => { results := [.lit (.bool false)], args := [d1, d2, d3, d4] }
  | _ => none }
def ClockSumsWrongFalsely : Prop := clockSumsRow.holds Tryd.pinned (OpenSpec.ofChange clockSumsWrong)

/-- 'civiltimelaw04.ClockRounds': WHATEVER THE INPUT: true; the input reads as it did. -/
def clockRoundsSpec : ChangeSpec := { name := "clockRounds", fn := fun _ => fun
  | [d1, d2, d3] => { results := [.lit (.bool true)], args := [d1, d2, d3] }
  | _ => none }
def clockRoundsRow : OpenClaim := { program := "ytplckoffiebibaadoor", sum := "e35f5d9f52ec7bece5d001774a3718f652e3b6eb8e346b71365da4a0374b4583", func := "civiltime/civiltimelaw04.ClockRounds", spec := "clockRounds", inPlace := ["internal/abi.NoEscape"], unfollowed := true, recurses := true, named := ["civiltime/clock.units", "internal/strconv.uint64pow10", "math/bits.deBruijn32tab", "math/bits.deBruijn64tab"], apart := false, laid := [("math/bits.deBruijn32tab", laid_math_bits_deBruijn32tab), ("math/bits.deBruijn64tab", laid_math_bits_deBruijn64tab), ("internal/strconv.uint64pow10", laid_internal_strconv_uint64pow10), ("civiltime/clock.units", laid_civiltime_clock_units)] }
def ClockRoundsSaid : Prop := clockRoundsRow.holds Tryd.pinned (OpenSpec.ofChange clockRoundsSpec)

/-- ITS FALSE NEIGHBOUR: 'it returns false'. Refute it at one input. -/
def clockRoundsWrong : ChangeSpec := { name := "clockRounds", fn := fun _ => fun
  | [d1, d2, d3] => { results := [.lit (.bool false)], args := [d1, d2, d3] }
  | _ => none }
def ClockRoundsWrongFalsely : Prop := clockRoundsRow.holds Tryd.pinned (OpenSpec.ofChange clockRoundsWrong)

/-- 'civiltimelaw04.ClockNear': WHATEVER THE INPUT: true; the input reads as it did. -/
def clockNearSpec : ChangeSpec := { name := "clockNear", fn := fun _ => fun
  | [d1, d2, d3, d4] => { results := [.lit (.bool true)], args := [d1, d2, d3, d4] }
  | _ => none }
def clockNearRow : OpenClaim := { program := "ytplckoffiebibaadoor", sum := "e35f5d9f52ec7bece5d001774a3718f652e3b6eb8e346b71365da4a0374b4583", func := "civiltime/civiltimelaw04.ClockNear", spec := "clockNear", inPlace := ["internal/abi.NoEscape"], unfollowed := true, recurses := true, named := ["civiltime/clock.units", "internal/strconv.uint64pow10", "math/bits.deBruijn32tab", "math/bits.deBruijn64tab"], apart := false, laid := [("math/bits.deBruijn32tab", laid_math_bits_deBruijn32tab), ("math/bits.deBruijn64tab", laid_math_bits_deBruijn64tab), ("internal/strconv.uint64pow10", laid_internal_strconv_uint64pow10), ("civiltime/clock.units", laid_civiltime_clock_units)] }
def ClockNearSaid : Prop := clockNearRow.holds Tryd.pinned (OpenSpec.ofChange clockNearSpec)

/-- ITS FALSE NEIGHBOUR: 'it returns false'. Refute it at one input. -/
def clockNearWrong : ChangeSpec := { name := "clockNear", fn := fun _ => fun
  | [d1, d2, d3, d4] => { results := [.lit (.bool false)], args := [d1, d2, d3, d4] }
  | _ => none }
def ClockNearWrongFalsely : Prop := clockNearRow.holds Tryd.pinned (OpenSpec.ofChange clockNearWrong)

/-- 'civiltimelaw04.ClockOrder': WHATEVER THE INPUT: true; the input reads as it did. -/
def clockOrderSpec : ChangeSpec := { name := "clockOrder", fn := fun _ => fun
  | [d1, d2] => { results := [.lit (.bool true)], args := [d1, d2] }
  | _ => none }
def clockOrderRow : OpenClaim := { program := "ytplckoffiebibaadoor", sum := "e35f5d9f52ec7bece5d001774a3718f652e3b6eb8e346b71365da4a0374b4583", func := "civiltime/civiltimelaw04.ClockOrder", spec := "clockOrder", inPlace := ["internal/abi.NoEscape", "internal/bytealg.CountString", "internal/bytealg.IndexByteString", "internal/bytealg.IndexString"], unfollowed := true, recurses := true, named := ["civiltime/clock.units", "internal/strconv.uint64pow10", "math/bits.deBruijn32tab", "math/bits.deBruijn64tab", "internal/bytealg.MaxLen"], apart := false, laid := [("math/bits.deBruijn32tab", laid_math_bits_deBruijn32tab), ("math/bits.deBruijn64tab", laid_math_bits_deBruijn64tab), ("internal/strconv.uint64pow10", laid_internal_strconv_uint64pow10), ("civiltime/clock.units", laid_civiltime_clock_units)] }
def ClockOrderSaid : Prop := clockOrderRow.holds Tryd.pinned (OpenSpec.ofChange clockOrderSpec)

/-- ITS FALSE NEIGHBOUR: 'it returns false'. Refute it at one input. -/
def clockOrderWrong : ChangeSpec := { name := "clockOrder", fn := fun _ => fun
  | [d1, d2] => { results := [.lit (.bool false)], args := [d1, d2] }
  | _ => none }
def ClockOrderWrongFalsely : Prop := clockOrderRow.holds Tryd.pinned (OpenSpec.ofChange clockOrderWrong)

/-- 'civiltimelaw04.ClockTexts': WHATEVER THE INPUT: true; the input reads as it did. -/
def clockTextsSpec : ChangeSpec := { name := "clockTexts", fn := fun _ => fun
  | [d1, d2] => { results := [.lit (.bool true)], args := [d1, d2] }
  | _ => none }
def clockTextsRow : OpenClaim := { program := "ytplckoffiebibaadoor", sum := "e35f5d9f52ec7bece5d001774a3718f652e3b6eb8e346b71365da4a0374b4583", func := "civiltime/civiltimelaw04.ClockTexts", spec := "clockTexts", inPlace := ["internal/abi.NoEscape"], unfollowed := true, recurses := true, named := ["civiltime/clock.units", "internal/strconv.uint64pow10", "math/bits.deBruijn32tab", "math/bits.deBruijn64tab", "strconv.ErrSyntax", "strconv.ErrRange"], apart := false, laid := [("math/bits.deBruijn32tab", laid_math_bits_deBruijn32tab), ("math/bits.deBruijn64tab", laid_math_bits_deBruijn64tab), ("internal/strconv.uint64pow10", laid_internal_strconv_uint64pow10), ("strconv.ErrRange", laid_strconv_ErrRange), ("strconv.ErrSyntax", laid_strconv_ErrSyntax), ("civiltime/clock.units", laid_civiltime_clock_units)] }
def ClockTextsSaid : Prop := clockTextsRow.holds Tryd.pinned (OpenSpec.ofChange clockTextsSpec)

/-- ITS FALSE NEIGHBOUR: 'it returns false'. Refute it at one input. -/
def clockTextsWrong : ChangeSpec := { name := "clockTexts", fn := fun _ => fun
  | [d1, d2] => { results := [.lit (.bool false)], args := [d1, d2] }
  | _ => none }
def ClockTextsWrongFalsely : Prop := clockTextsRow.holds Tryd.pinned (OpenSpec.ofChange clockTextsWrong)

/- THE SECOND FORM. 'bulk': how many values and letters a reading holds, each counted each time it is reached (what is shared counts as often as it is met; a slice's spare places count too). A statement '..UptoSaid' is the law's where the arguments, and the package variables that the reading takes, are together of bulk at most 1048576: NARROWER than '..Said'. Prove '..Said' where nothing that the law and all that it calls make is longer than what came in: it says more and counts as full. Else prove '..UptoSaid'. A law counts once. -/
mutual
def uptoBulk {H : Type} : DataW H → Nat
  | .lit (.string bytes) => bytes.length + 1
  | .lit _ => 1
  | .nil => 1
  | .ptr d => uptoBulk d + 1
  | .slice elems spare => uptoBulkAll elems + uptoBulkAll spare + 1
  | .agg parts => uptoBulkAll parts + 1
  | .iface _ d => uptoBulk d + 1
  | .map entries => uptoBulkEntries entries + 1
  | .held _ => 1
def uptoBulkAll {H : Type} : List (DataW H) → Nat
  | [] => 0
  | d :: r => uptoBulk d + uptoBulkAll r
def uptoBulkEntries {H : Type} : List (Lit × DataW H) → Nat
  | [] => 0
  | x :: r => uptoBulkEntry x + uptoBulkEntries r
def uptoBulkEntry {H : Type} : Lit × DataW H → Nat
  | (.string bytes, d) => bytes.length + uptoBulk d + 1
  | (_, d) => uptoBulk d + 1
 end
def uptoSmall : (H : Type) → List (DataW H) → Bool := fun _ ds => decide (uptoBulkAll ds ≤ 1048576)
def OpenSpec.upto (s : _root_.Go.ChangeSpec) : _root_.Go.OpenSpec := { _root_.Go.OpenSpec.ofChange s with cond := some uptoSmall }

/-- 'civiltimelaw04.ClockTimes', WHERE WHAT IT READS IS OF BULK AT MOST 1048576: true; the input reads as it did. -/
def clockTimesUptoRow : OpenClaim := { program := "ytplckoffiebibaadoor", sum := "e35f5d9f52ec7bece5d001774a3718f652e3b6eb8e346b71365da4a0374b4583", func := "civiltime/civiltimelaw04.ClockTimes", spec := "clockTimes", inPlace := ["internal/abi.NoEscape"], unfollowed := true, recurses := true, named := ["civiltime/clock.units", "internal/strconv.uint64pow10", "math/bits.deBruijn32tab", "math/bits.deBruijn64tab"], apart := false, laid := [("math/bits.deBruijn32tab", laid_math_bits_deBruijn32tab), ("math/bits.deBruijn64tab", laid_math_bits_deBruijn64tab), ("internal/strconv.uint64pow10", laid_internal_strconv_uint64pow10), ("civiltime/clock.units", laid_civiltime_clock_units)], narrowed := true }
def ClockTimesUptoSaid : Prop := clockTimesUptoRow.holds Tryd.pinned (OpenSpec.upto clockTimesSpec)

/-- 'civiltimelaw04.ClockInstants', WHERE WHAT IT READS IS OF BULK AT MOST 1048576: true; the input reads as it did. -/
def clockInstantsUptoRow : OpenClaim := { program := "ytplckoffiebibaadoor", sum := "e35f5d9f52ec7bece5d001774a3718f652e3b6eb8e346b71365da4a0374b4583", func := "civiltime/civiltimelaw04.ClockInstants", spec := "clockInstants", inPlace := ["internal/abi.NoEscape"], unfollowed := true, recurses := true, named := ["civiltime/clock.units", "internal/strconv.uint64pow10", "math/bits.deBruijn32tab", "math/bits.deBruijn64tab"], apart := false, laid := [("math/bits.deBruijn32tab", laid_math_bits_deBruijn32tab), ("math/bits.deBruijn64tab", laid_math_bits_deBruijn64tab), ("internal/strconv.uint64pow10", laid_internal_strconv_uint64pow10), ("civiltime/clock.units", laid_civiltime_clock_units)], narrowed := true }
def ClockInstantsUptoSaid : Prop := clockInstantsUptoRow.holds Tryd.pinned (OpenSpec.upto clockInstantsSpec)

/-- 'civiltimelaw04.ClockMoments', WHERE WHAT IT READS IS OF BULK AT MOST 1048576: true; the input reads as it did. -/
def clockMomentsUptoRow : OpenClaim := { program := "ytplckoffiebibaadoor", sum := "e35f5d9f52ec7bece5d001774a3718f652e3b6eb8e346b71365da4a0374b4583", func := "civiltime/civiltimelaw04.ClockMoments", spec := "clockMoments", inPlace := ["internal/abi.NoEscape"], unfollowed := true, recurses := true, named := ["civiltime/clock.units", "internal/strconv.uint64pow10", "math/bits.deBruijn32tab", "math/bits.deBruijn64tab"], apart := false, laid := [("math/bits.deBruijn32tab", laid_math_bits_deBruijn32tab), ("math/bits.deBruijn64tab", laid_math_bits_deBruijn64tab), ("internal/strconv.uint64pow10", laid_internal_strconv_uint64pow10), ("civiltime/clock.units", laid_civiltime_clock_units)], narrowed := true }
def ClockMomentsUptoSaid : Prop := clockMomentsUptoRow.holds Tryd.pinned (OpenSpec.upto clockMomentsSpec)

/-- 'civiltimelaw04.ClockSteps', WHERE WHAT IT READS IS OF BULK AT MOST 1048576: true; the input reads as it did. -/
def clockStepsUptoRow : OpenClaim := { program := "ytplckoffiebibaadoor", sum := "e35f5d9f52ec7bece5d001774a3718f652e3b6eb8e346b71365da4a0374b4583", func := "civiltime/civiltimelaw04.ClockSteps", spec := "clockSteps", inPlace := ["internal/abi.NoEscape"], unfollowed := true, recurses := true, named := ["civiltime/clock.units", "internal/strconv.uint64pow10", "math/bits.deBruijn32tab", "math/bits.deBruijn64tab"], apart := false, laid := [("math/bits.deBruijn32tab", laid_math_bits_deBruijn32tab), ("math/bits.deBruijn64tab", laid_math_bits_deBruijn64tab), ("internal/strconv.uint64pow10", laid_internal_strconv_uint64pow10), ("civiltime/clock.units", laid_civiltime_clock_units)], narrowed := true }
def ClockStepsUptoSaid : Prop := clockStepsUptoRow.holds Tryd.pinned (OpenSpec.upto clockStepsSpec)

/-- 'civiltimelaw04.ClockDurations', WHERE WHAT IT READS IS OF BULK AT MOST 1048576: true; the input reads as it did. -/
def clockDurationsUptoRow : OpenClaim := { program := "ytplckoffiebibaadoor", sum := "e35f5d9f52ec7bece5d001774a3718f652e3b6eb8e346b71365da4a0374b4583", func := "civiltime/civiltimelaw04.ClockDurations", spec := "clockDurations", inPlace := ["internal/abi.NoEscape"], unfollowed := true, recurses := true, named := ["civiltime/clock.units", "internal/strconv.uint64pow10", "math/bits.deBruijn32tab", "math/bits.deBruijn64tab"], apart := false, laid := [("math/bits.deBruijn32tab", laid_math_bits_deBruijn32tab), ("math/bits.deBruijn64tab", laid_math_bits_deBruijn64tab), ("internal/strconv.uint64pow10", laid_internal_strconv_uint64pow10), ("civiltime/clock.units", laid_civiltime_clock_units)], narrowed := true }
def ClockDurationsUptoSaid : Prop := clockDurationsUptoRow.holds Tryd.pinned (OpenSpec.upto clockDurationsSpec)

/-- 'civiltimelaw04.ClockSums', WHERE WHAT IT READS IS OF BULK AT MOST 1048576: true; the input reads as it did. -/
def clockSumsUptoRow : OpenClaim := { program := "ytplckoffiebibaadoor", sum := "e35f5d9f52ec7bece5d001774a3718f652e3b6eb8e346b71365da4a0374b4583", func := "civiltime/civiltimelaw04.ClockSums", spec := "clockSums", inPlace := ["internal/abi.NoEscape"], unfollowed := true, recurses := true, named := ["civiltime/clock.units", "internal/strconv.uint64pow10", "math/bits.deBruijn32tab", "math/bits.deBruijn64tab"], apart := false, laid := [("math/bits.deBruijn32tab", laid_math_bits_deBruijn32tab), ("math/bits.deBruijn64tab", laid_math_bits_deBruijn64tab), ("internal/strconv.uint64pow10", laid_internal_strconv_uint64pow10), ("civiltime/clock.units", laid_civiltime_clock_units)], narrowed := true }
def ClockSumsUptoSaid : Prop := clockSumsUptoRow.holds Tryd.pinned (OpenSpec.upto clockSumsSpec)

/-- 'civiltimelaw04.ClockRounds', WHERE WHAT IT READS IS OF BULK AT MOST 1048576: true; the input reads as it did. -/
def clockRoundsUptoRow : OpenClaim := { program := "ytplckoffiebibaadoor", sum := "e35f5d9f52ec7bece5d001774a3718f652e3b6eb8e346b71365da4a0374b4583", func := "civiltime/civiltimelaw04.ClockRounds", spec := "clockRounds", inPlace := ["internal/abi.NoEscape"], unfollowed := true, recurses := true, named := ["civiltime/clock.units", "internal/strconv.uint64pow10", "math/bits.deBruijn32tab", "math/bits.deBruijn64tab"], apart := false, laid := [("math/bits.deBruijn32tab", laid_math_bits_deBruijn32tab), ("math/bits.deBruijn64tab", laid_math_bits_deBruijn64tab), ("internal/strconv.uint64pow10", laid_internal_strconv_uint64pow10), ("civiltime/clock.units", laid_civiltime_clock_units)], narrowed := true }
def ClockRoundsUptoSaid : Prop := clockRoundsUptoRow.holds Tryd.pinned (OpenSpec.upto clockRoundsSpec)

/-- 'civiltimelaw04.ClockNear', WHERE WHAT IT READS IS OF BULK AT MOST 1048576: true; the input reads as it did. -/
def clockNearUptoRow : OpenClaim := { program := "ytplckoffiebibaadoor", sum := "e35f5d9f52ec7bece5d001774a3718f652e3b6eb8e346b71365da4a0374b4583", func := "civiltime/civiltimelaw04.ClockNear", spec := "clockNear", inPlace := ["internal/abi.NoEscape"], unfollowed := true, recurses := true, named := ["civiltime/clock.units", "internal/strconv.uint64pow10", "math/bits.deBruijn32tab", "math/bits.deBruijn64tab"], apart := false, laid := [("math/bits.deBruijn32tab", laid_math_bits_deBruijn32tab), ("math/bits.deBruijn64tab", laid_math_bits_deBruijn64tab), ("internal/strconv.uint64pow10", laid_internal_strconv_uint64pow10), ("civiltime/clock.units", laid_civiltime_clock_units)], narrowed := true }
def ClockNearUptoSaid : Prop := clockNearUptoRow.holds Tryd.pinned (OpenSpec.upto clockNearSpec)

/-- 'civiltimelaw04.ClockOrder', WHERE WHAT IT READS IS OF BULK AT MOST 1048576: true; the input reads as it did. -/
def clockOrderUptoRow : OpenClaim := { program := "ytplckoffiebibaadoor", sum := "e35f5d9f52ec7bece5d001774a3718f652e3b6eb8e346b71365da4a0374b4583", func := "civiltime/civiltimelaw04.ClockOrder", spec := "clockOrder", inPlace := ["internal/abi.NoEscape", "internal/bytealg.CountString", "internal/bytealg.IndexByteString", "internal/bytealg.IndexString"], unfollowed := true, recurses := true, named := ["civiltime/clock.units", "internal/strconv.uint64pow10", "math/bits.deBruijn32tab", "math/bits.deBruijn64tab", "internal/bytealg.MaxLen"], apart := false, laid := [("math/bits.deBruijn32tab", laid_math_bits_deBruijn32tab), ("math/bits.deBruijn64tab", laid_math_bits_deBruijn64tab), ("internal/strconv.uint64pow10", laid_internal_strconv_uint64pow10), ("civiltime/clock.units", laid_civiltime_clock_units)], narrowed := true }
def ClockOrderUptoSaid : Prop := clockOrderUptoRow.holds Tryd.pinned (OpenSpec.upto clockOrderSpec)

/-- 'civiltimelaw04.ClockTexts', WHERE WHAT IT READS IS OF BULK AT MOST 1048576: true; the input reads as it did. -/
def clockTextsUptoRow : OpenClaim := { program := "ytplckoffiebibaadoor", sum := "e35f5d9f52ec7bece5d001774a3718f652e3b6eb8e346b71365da4a0374b4583", func := "civiltime/civiltimelaw04.ClockTexts", spec := "clockTexts", inPlace := ["internal/abi.NoEscape"], unfollowed := true, recurses := true, named := ["civiltime/clock.units", "internal/strconv.uint64pow10", "math/bits.deBruijn32tab", "math/bits.deBruijn64tab", "strconv.ErrSyntax", "strconv.ErrRange"], apart := false, laid := [("math/bits.deBruijn32tab", laid_math_bits_deBruijn32tab), ("math/bits.deBruijn64tab", laid_math_bits_deBruijn64tab), ("internal/strconv.uint64pow10", laid_internal_strconv_uint64pow10), ("strconv.ErrRange", laid_strconv_ErrRange), ("strconv.ErrSyntax", laid_strconv_ErrSyntax), ("civiltime/clock.units", laid_civiltime_clock_units)], narrowed := true }
def ClockTextsUptoSaid : Prop := clockTextsUptoRow.holds Tryd.pinned (OpenSpec.upto clockTextsSpec)

end Rows
end Go.Proofs.YtplckoffiebibaaDoor
