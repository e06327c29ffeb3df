/-
  NARROWER THAN 'FOR EVERY INPUT', by the rows' own cells (each row's printed sentence says how): QuerytextTyped: loops, laid · QuerytextValid: loops, laid · QuerytextParses: laid · QuerytextConds: loops, laid · QuerytextPlaces: laid · QuerytextTexts: loops, laid · QuerytextBlanks: loops, laid · QuerytextBack: laid · QuerytextColumns: loops, laid.
  DERIVED. THE GIVEN ROWS OF THIS SEAT. 9 by the template 'for every input the law returns true; each argument reads behind the call as it read before'; 0 by the template 'total and deterministic' (their statements: YtlmeinikknoeeaaGreatDoorTotals.lean).
  GIVEN WITH THE SEED: the statements are not yours to turn. If you find one false, say at which input.
  Laid BY PROGRAM, IN A SANDBOX (cutbox-rows.mjs): the forced cells as the released guide's own fill.sh prints them over the translation dfafe79688c7b420… (all of the seat's roots in one cut). By AI agents, Wed Nov 11 2026. No macro, syntax, notation, axiom, sorry.
-/
import Derived.Test.YtlmeinikknoeeaaGreatDoorChecked
import GoSem.PinnedTables
import GoSem.Claim
import GoSem.ClaimJoined
import GoSem.ClaimMapViews
import Derived.JoinedTies
import Derived.KernelRfl
namespace Go.Proofs.YtlmeinikknoeeaaGreatDoor
/- THE CELL 'sum', in the pinned program and in every row, IS THE sha256 OF THE DUMP (.gsa) THAT YtlmeinikknoeeaaGreatDoorProg.lean LOADS. Nothing in Lean hashes anything: it is a label: what it is worth is what the hold of that sum in a sandbox is worth. -/
noncomputable def Tryz.pinned : Pinned := { name := "ytlmeinikknoeeaagreatdoor", sum := "dfafe79688c7b420090e00e396a446bdb237824c7e5a5ed9702395aed327e5bb", checked := Tryz.checked }
namespace Rows
def none {H : Type} : Left H := { results := [], args := [] }

/- WHAT THE LISTED PACKAGE-LEVEL VARIABLES READ AS WHEN THE CALL BEGINS. Each datum BY PROGRAM (the guide's laid-datum.mjs) off the statement by which the dump's own 'gosem.cut.vars' lays the variable. In a bare row this is a premise. The card (YtlmeinikknoeeaaGreatDoorCards.lean) ties it to the program's text. -/
def laid_math_bits_deBruijn32tab {H : Type} : DataW H := .agg [.lit (.int .u8 0), .lit (.int .u8 1), .lit (.int .u8 28), .lit (.int .u8 2), .lit (.int .u8 29), .lit (.int .u8 14), .lit (.int .u8 24), .lit (.int .u8 3), .lit (.int .u8 30), .lit (.int .u8 22), .lit (.int .u8 20), .lit (.int .u8 15), .lit (.int .u8 25), .lit (.int .u8 17), .lit (.int .u8 4), .lit (.int .u8 8), .lit (.int .u8 31), .lit (.int .u8 27), .lit (.int .u8 13), .lit (.int .u8 23), .lit (.int .u8 21), .lit (.int .u8 19), .lit (.int .u8 16), .lit (.int .u8 7), .lit (.int .u8 26), .lit (.int .u8 12), .lit (.int .u8 18), .lit (.int .u8 6), .lit (.int .u8 11), .lit (.int .u8 5), .lit (.int .u8 10), .lit (.int .u8 9)]
def laid_math_bits_deBruijn64tab {H : Type} : DataW H := .agg [.lit (.int .u8 0), .lit (.int .u8 1), .lit (.int .u8 56), .lit (.int .u8 2), .lit (.int .u8 57), .lit (.int .u8 49), .lit (.int .u8 28), .lit (.int .u8 3), .lit (.int .u8 61), .lit (.int .u8 58), .lit (.int .u8 42), .lit (.int .u8 50), .lit (.int .u8 38), .lit (.int .u8 29), .lit (.int .u8 17), .lit (.int .u8 4), .lit (.int .u8 62), .lit (.int .u8 47), .lit (.int .u8 59), .lit (.int .u8 36), .lit (.int .u8 45), .lit (.int .u8 43), .lit (.int .u8 51), .lit (.int .u8 22), .lit (.int .u8 53), .lit (.int .u8 39), .lit (.int .u8 33), .lit (.int .u8 30), .lit (.int .u8 24), .lit (.int .u8 18), .lit (.int .u8 12), .lit (.int .u8 5), .lit (.int .u8 63), .lit (.int .u8 55), .lit (.int .u8 48), .lit (.int .u8 27), .lit (.int .u8 60), .lit (.int .u8 41), .lit (.int .u8 37), .lit (.int .u8 16), .lit (.int .u8 46), .lit (.int .u8 35), .lit (.int .u8 44), .lit (.int .u8 21), .lit (.int .u8 52), .lit (.int .u8 32), .lit (.int .u8 23), .lit (.int .u8 11), .lit (.int .u8 54), .lit (.int .u8 26), .lit (.int .u8 40), .lit (.int .u8 15), .lit (.int .u8 34), .lit (.int .u8 20), .lit (.int .u8 31), .lit (.int .u8 10), .lit (.int .u8 25), .lit (.int .u8 14), .lit (.int .u8 19), .lit (.int .u8 9), .lit (.int .u8 13), .lit (.int .u8 8), .lit (.int .u8 7), .lit (.int .u8 6)]
def laid_internal_strconv_uint64pow10 {H : Type} : DataW H := .agg [.lit (.int .u64 1), .lit (.int .u64 10), .lit (.int .u64 100), .lit (.int .u64 1000), .lit (.int .u64 10000), .lit (.int .u64 100000), .lit (.int .u64 1000000), .lit (.int .u64 10000000), .lit (.int .u64 100000000), .lit (.int .u64 1000000000), .lit (.int .u64 10000000000), .lit (.int .u64 100000000000), .lit (.int .u64 1000000000000), .lit (.int .u64 10000000000000), .lit (.int .u64 100000000000000), .lit (.int .u64 1000000000000000), .lit (.int .u64 10000000000000000), .lit (.int .u64 100000000000000000), .lit (.int .u64 1000000000000000000), .lit (.int .u64 10000000000000000000)]
def laid_unicode_utf8_acceptRanges {H : Type} : DataW H := .agg [.agg [.lit (.int .u8 128), .lit (.int .u8 191)], .agg [.lit (.int .u8 160), .lit (.int .u8 191)], .agg [.lit (.int .u8 128), .lit (.int .u8 159)], .agg [.lit (.int .u8 144), .lit (.int .u8 191)], .agg [.lit (.int .u8 128), .lit (.int .u8 143)], .agg [.lit (.int .u8 0), .lit (.int .u8 0)], .agg [.lit (.int .u8 0), .lit (.int .u8 0)], .agg [.lit (.int .u8 0), .lit (.int .u8 0)], .agg [.lit (.int .u8 0), .lit (.int .u8 0)], .agg [.lit (.int .u8 0), .lit (.int .u8 0)], .agg [.lit (.int .u8 0), .lit (.int .u8 0)], .agg [.lit (.int .u8 0), .lit (.int .u8 0)], .agg [.lit (.int .u8 0), .lit (.int .u8 0)], .agg [.lit (.int .u8 0), .lit (.int .u8 0)], .agg [.lit (.int .u8 0), .lit (.int .u8 0)], .agg [.lit (.int .u8 0), .lit (.int .u8 0)]]
def laid_strconv_ErrRange {H : Type} : DataW H := .iface "*errors.errorString" (.ptr (.agg [.lit (.string [118, 97, 108, 117, 101, 32, 111, 117, 116, 32, 111, 102, 32, 114, 97, 110, 103, 101])]))
def laid_strconv_ErrSyntax {H : Type} : DataW H := .iface "*errors.errorString" (.ptr (.agg [.lit (.string [105, 110, 118, 97, 108, 105, 100, 32, 115, 121, 110, 116, 97, 120])]))
def laid_civiltime_querytext_reserved {H : Type} : DataW H := .slice [.lit (.string [115, 99, 97, 110]), .lit (.string [115, 101, 108, 101, 99, 116]), .lit (.string [111, 102]), .lit (.string [112, 114, 111, 106, 101, 99, 116]), .lit (.string [114, 101, 110, 97, 109, 101]), .lit (.string [116, 111]), .lit (.string [106, 111, 105, 110]), .lit (.string [117, 110, 105, 111, 110]), .lit (.string [101, 120, 99, 101, 112, 116]), .lit (.string [100, 117, 114, 105, 110, 103]), .lit (.string [103, 114, 111, 117, 112]), .lit (.string [97, 115]), .lit (.string [99, 111, 117, 110, 116]), .lit (.string [115, 117, 109]), .lit (.string [109, 105, 110]), .lit (.string [109, 97, 120]), .lit (.string [114, 101, 108, 97, 116, 101]), .lit (.string [97, 110, 100]), .lit (.string [111, 114]), .lit (.string [110, 111, 116]), .lit (.string [97, 108, 119, 97, 121, 115]), .lit (.string [116, 114, 117, 101]), .lit (.string [102, 97, 108, 115, 101]), .lit (.string [102, 111, 114, 101, 118, 101, 114])] []
/-- One of Go's own tables, pinned by name: the form's constant. -/
def laid_unicode_utf8_first : DataW Unit := Go.Pinned.utf8First

/-- 'civiltimelaw40.QuerytextTyped': WHATEVER THE INPUT: true; the input reads as it did. -/
def querytextTypedSpec : ChangeSpec := { name := "querytextTyped", fn := fun _ => fun
  | [d1, d2] => { results := [.lit (.bool true)], args := [d1, d2] }
  | _ => none }
def querytextTypedRow : OpenClaim := { program := "ytlmeinikknoeeaagreatdoor", sum := "dfafe79688c7b420090e00e396a446bdb237824c7e5a5ed9702395aed327e5bb", func := "civiltime/civiltimelaw40.QuerytextTyped", spec := "querytextTyped", inPlace := ["internal/bytealg.CountString", "internal/bytealg.IndexByteString", "internal/bytealg.IndexString", "internal/abi.NoEscape", "internal/bytealg.MakeNoZero"], unfollowed := true, recurses := true, named := ["civiltime/querytext.reserved", "internal/bytealg.MaxLen", "unicode/utf8.first", "unicode/utf8.acceptRanges", "strconv.ErrSyntax", "strconv.ErrRange", "internal/strconv.uint64pow10", "math/bits.deBruijn32tab", "math/bits.deBruijn64tab"], loops := true, apart := false, laid := [("math/bits.deBruijn32tab", laid_math_bits_deBruijn32tab), ("math/bits.deBruijn64tab", laid_math_bits_deBruijn64tab), ("internal/strconv.uint64pow10", laid_internal_strconv_uint64pow10), ("unicode/utf8.acceptRanges", laid_unicode_utf8_acceptRanges), ("strconv.ErrRange", laid_strconv_ErrRange), ("strconv.ErrSyntax", laid_strconv_ErrSyntax), ("civiltime/querytext.reserved", laid_civiltime_querytext_reserved), ("unicode/utf8.first", laid_unicode_utf8_first)] }
def QuerytextTypedSaid : Prop := querytextTypedRow.holds Tryz.pinned (OpenSpec.ofChange querytextTypedSpec)

/-- ITS FALSE NEIGHBOUR: 'it returns false'. Refute it at one input. -/
def querytextTypedWrong : ChangeSpec := { name := "querytextTyped", fn := fun _ => fun
  | [d1, d2] => { results := [.lit (.bool false)], args := [d1, d2] }
  | _ => none }
def QuerytextTypedWrongFalsely : Prop := querytextTypedRow.holds Tryz.pinned (OpenSpec.ofChange querytextTypedWrong)

/-- 'civiltimelaw40.QuerytextValid': WHATEVER THE INPUT: true; the input reads as it did. -/
def querytextValidSpec : ChangeSpec := { name := "querytextValid", fn := fun _ => fun
  | [d1, d2] => { results := [.lit (.bool true)], args := [d1, d2] }
  | _ => none }
def querytextValidRow : OpenClaim := { program := "ytlmeinikknoeeaagreatdoor", sum := "dfafe79688c7b420090e00e396a446bdb237824c7e5a5ed9702395aed327e5bb", func := "civiltime/civiltimelaw40.QuerytextValid", spec := "querytextValid", inPlace := ["internal/bytealg.CountString", "internal/bytealg.IndexByteString", "internal/bytealg.IndexString", "internal/abi.NoEscape", "internal/bytealg.MakeNoZero"], unfollowed := true, recurses := true, named := ["civiltime/querytext.reserved", "internal/bytealg.MaxLen", "unicode/utf8.first", "unicode/utf8.acceptRanges", "strconv.ErrSyntax", "strconv.ErrRange", "internal/strconv.uint64pow10", "math/bits.deBruijn32tab", "math/bits.deBruijn64tab"], loops := true, apart := false, laid := [("math/bits.deBruijn32tab", laid_math_bits_deBruijn32tab), ("math/bits.deBruijn64tab", laid_math_bits_deBruijn64tab), ("internal/strconv.uint64pow10", laid_internal_strconv_uint64pow10), ("unicode/utf8.acceptRanges", laid_unicode_utf8_acceptRanges), ("strconv.ErrRange", laid_strconv_ErrRange), ("strconv.ErrSyntax", laid_strconv_ErrSyntax), ("civiltime/querytext.reserved", laid_civiltime_querytext_reserved), ("unicode/utf8.first", laid_unicode_utf8_first)] }
def QuerytextValidSaid : Prop := querytextValidRow.holds Tryz.pinned (OpenSpec.ofChange querytextValidSpec)

/-- ITS FALSE NEIGHBOUR: 'it returns false'. Refute it at one input. -/
def querytextValidWrong : ChangeSpec := { name := "querytextValid", fn := fun _ => fun
  | [d1, d2] => { results := [.lit (.bool false)], args := [d1, d2] }
  | _ => none }
def QuerytextValidWrongFalsely : Prop := querytextValidRow.holds Tryz.pinned (OpenSpec.ofChange querytextValidWrong)

/-- 'civiltimelaw40.QuerytextParses': WHATEVER THE INPUT: true; the input reads as it did. -/
def querytextParsesSpec : ChangeSpec := { name := "querytextParses", fn := fun _ => fun
  | [d] => { results := [.lit (.bool true)], args := [d] }
  | _ => none }
def querytextParsesRow : OpenClaim := { program := "ytlmeinikknoeeaagreatdoor", sum := "dfafe79688c7b420090e00e396a446bdb237824c7e5a5ed9702395aed327e5bb", func := "civiltime/civiltimelaw40.QuerytextParses", spec := "querytextParses", inPlace := ["internal/bytealg.CountString", "internal/bytealg.IndexByteString", "internal/bytealg.IndexString", "internal/abi.NoEscape", "internal/bytealg.MakeNoZero"], unfollowed := true, recurses := true, named := ["civiltime/querytext.reserved", "internal/bytealg.MaxLen", "unicode/utf8.first", "unicode/utf8.acceptRanges", "strconv.ErrSyntax", "strconv.ErrRange", "internal/strconv.uint64pow10", "math/bits.deBruijn32tab", "math/bits.deBruijn64tab"], apart := false, laid := [("math/bits.deBruijn32tab", laid_math_bits_deBruijn32tab), ("math/bits.deBruijn64tab", laid_math_bits_deBruijn64tab), ("internal/strconv.uint64pow10", laid_internal_strconv_uint64pow10), ("unicode/utf8.acceptRanges", laid_unicode_utf8_acceptRanges), ("strconv.ErrRange", laid_strconv_ErrRange), ("strconv.ErrSyntax", laid_strconv_ErrSyntax), ("civiltime/querytext.reserved", laid_civiltime_querytext_reserved), ("unicode/utf8.first", laid_unicode_utf8_first)] }
def QuerytextParsesSaid : Prop := querytextParsesRow.holds Tryz.pinned (OpenSpec.ofChange querytextParsesSpec)

/-- ITS FALSE NEIGHBOUR: 'it returns false'. Refute it at one input. -/
def querytextParsesWrong : ChangeSpec := { name := "querytextParses", fn := fun _ => fun
  | [d] => { results := [.lit (.bool false)], args := [d] }
  | _ => none }
def QuerytextParsesWrongFalsely : Prop := querytextParsesRow.holds Tryz.pinned (OpenSpec.ofChange querytextParsesWrong)

/-- 'civiltimelaw40.QuerytextConds': WHATEVER THE INPUT: true; the input reads as it did. -/
def querytextCondsSpec : ChangeSpec := { name := "querytextConds", fn := fun _ => fun
  | [d1, d2] => { results := [.lit (.bool true)], args := [d1, d2] }
  | _ => none }
def querytextCondsRow : OpenClaim := { program := "ytlmeinikknoeeaagreatdoor", sum := "dfafe79688c7b420090e00e396a446bdb237824c7e5a5ed9702395aed327e5bb", func := "civiltime/civiltimelaw40.QuerytextConds", spec := "querytextConds", inPlace := ["internal/bytealg.CountString", "internal/bytealg.IndexByteString", "internal/bytealg.IndexString", "internal/abi.NoEscape", "internal/bytealg.MakeNoZero"], unfollowed := true, recurses := true, named := ["civiltime/querytext.reserved", "internal/bytealg.MaxLen", "unicode/utf8.first", "unicode/utf8.acceptRanges", "strconv.ErrSyntax", "strconv.ErrRange", "internal/strconv.uint64pow10", "math/bits.deBruijn32tab", "math/bits.deBruijn64tab"], loops := true, apart := false, laid := [("math/bits.deBruijn32tab", laid_math_bits_deBruijn32tab), ("math/bits.deBruijn64tab", laid_math_bits_deBruijn64tab), ("internal/strconv.uint64pow10", laid_internal_strconv_uint64pow10), ("unicode/utf8.acceptRanges", laid_unicode_utf8_acceptRanges), ("strconv.ErrRange", laid_strconv_ErrRange), ("strconv.ErrSyntax", laid_strconv_ErrSyntax), ("civiltime/querytext.reserved", laid_civiltime_querytext_reserved), ("unicode/utf8.first", laid_unicode_utf8_first)] }
def QuerytextCondsSaid : Prop := querytextCondsRow.holds Tryz.pinned (OpenSpec.ofChange querytextCondsSpec)

/-- ITS FALSE NEIGHBOUR: 'it returns false'. Refute it at one input. -/
def querytextCondsWrong : ChangeSpec := { name := "querytextConds", fn := fun _ => fun
  | [d1, d2] => { results := [.lit (.bool false)], args := [d1, d2] }
  | _ => none }
def QuerytextCondsWrongFalsely : Prop := querytextCondsRow.holds Tryz.pinned (OpenSpec.ofChange querytextCondsWrong)

/-- 'civiltimelaw40.QuerytextPlaces': WHATEVER THE INPUT: true; the input reads as it did. -/
def querytextPlacesSpec : ChangeSpec := { name := "querytextPlaces", fn := fun _ => fun
  | [d] => { results := [.lit (.bool true)], args := [d] }
  | _ => none }
def querytextPlacesRow : OpenClaim := { program := "ytlmeinikknoeeaagreatdoor", sum := "dfafe79688c7b420090e00e396a446bdb237824c7e5a5ed9702395aed327e5bb", func := "civiltime/civiltimelaw40.QuerytextPlaces", spec := "querytextPlaces", inPlace := ["internal/bytealg.CountString", "internal/bytealg.IndexByteString", "internal/bytealg.IndexString", "internal/abi.NoEscape", "internal/bytealg.MakeNoZero"], unfollowed := true, recurses := true, named := ["civiltime/querytext.reserved", "internal/bytealg.MaxLen", "unicode/utf8.first", "unicode/utf8.acceptRanges", "strconv.ErrSyntax", "strconv.ErrRange", "internal/strconv.uint64pow10", "math/bits.deBruijn32tab", "math/bits.deBruijn64tab"], apart := false, laid := [("math/bits.deBruijn32tab", laid_math_bits_deBruijn32tab), ("math/bits.deBruijn64tab", laid_math_bits_deBruijn64tab), ("internal/strconv.uint64pow10", laid_internal_strconv_uint64pow10), ("unicode/utf8.acceptRanges", laid_unicode_utf8_acceptRanges), ("strconv.ErrRange", laid_strconv_ErrRange), ("strconv.ErrSyntax", laid_strconv_ErrSyntax), ("civiltime/querytext.reserved", laid_civiltime_querytext_reserved), ("unicode/utf8.first", laid_unicode_utf8_first)] }
def QuerytextPlacesSaid : Prop := querytextPlacesRow.holds Tryz.pinned (OpenSpec.ofChange querytextPlacesSpec)

/-- ITS FALSE NEIGHBOUR: 'it returns false'. Refute it at one input. -/
def querytextPlacesWrong : ChangeSpec := { name := "querytextPlaces", fn := fun _ => fun
  | [d] => { results := [.lit (.bool false)], args := [d] }
  | _ => none }
def QuerytextPlacesWrongFalsely : Prop := querytextPlacesRow.holds Tryz.pinned (OpenSpec.ofChange querytextPlacesWrong)

/-- 'civiltimelaw40.QuerytextTexts': WHATEVER THE INPUT: true; the input reads as it did. -/
def querytextTextsSpec : ChangeSpec := { name := "querytextTexts", fn := fun _ => fun
  | [d] => { results := [.lit (.bool true)], args := [d] }
  | _ => none }
def querytextTextsRow : OpenClaim := { program := "ytlmeinikknoeeaagreatdoor", sum := "dfafe79688c7b420090e00e396a446bdb237824c7e5a5ed9702395aed327e5bb", func := "civiltime/civiltimelaw40.QuerytextTexts", spec := "querytextTexts", inPlace := ["internal/bytealg.CountString", "internal/bytealg.IndexByteString", "internal/bytealg.IndexString", "internal/abi.NoEscape", "internal/bytealg.MakeNoZero"], unfollowed := true, recurses := true, named := ["civiltime/querytext.reserved", "internal/bytealg.MaxLen", "unicode/utf8.first", "unicode/utf8.acceptRanges", "strconv.ErrSyntax", "strconv.ErrRange", "internal/strconv.uint64pow10", "math/bits.deBruijn32tab", "math/bits.deBruijn64tab"], loops := true, apart := false, laid := [("math/bits.deBruijn32tab", laid_math_bits_deBruijn32tab), ("math/bits.deBruijn64tab", laid_math_bits_deBruijn64tab), ("internal/strconv.uint64pow10", laid_internal_strconv_uint64pow10), ("unicode/utf8.acceptRanges", laid_unicode_utf8_acceptRanges), ("strconv.ErrRange", laid_strconv_ErrRange), ("strconv.ErrSyntax", laid_strconv_ErrSyntax), ("civiltime/querytext.reserved", laid_civiltime_querytext_reserved), ("unicode/utf8.first", laid_unicode_utf8_first)] }
def QuerytextTextsSaid : Prop := querytextTextsRow.holds Tryz.pinned (OpenSpec.ofChange querytextTextsSpec)

/-- ITS FALSE NEIGHBOUR: 'it returns false'. Refute it at one input. -/
def querytextTextsWrong : ChangeSpec := { name := "querytextTexts", fn := fun _ => fun
  | [d] => { results := [.lit (.bool false)], args := [d] }
  | _ => none }
def QuerytextTextsWrongFalsely : Prop := querytextTextsRow.holds Tryz.pinned (OpenSpec.ofChange querytextTextsWrong)

/-- 'civiltimelaw40.QuerytextBlanks': WHATEVER THE INPUT: true; the input reads as it did. -/
def querytextBlanksSpec : ChangeSpec := { name := "querytextBlanks", fn := fun _ => fun
  | [d1, d2] => { results := [.lit (.bool true)], args := [d1, d2] }
  | _ => none }
def querytextBlanksRow : OpenClaim := { program := "ytlmeinikknoeeaagreatdoor", sum := "dfafe79688c7b420090e00e396a446bdb237824c7e5a5ed9702395aed327e5bb", func := "civiltime/civiltimelaw40.QuerytextBlanks", spec := "querytextBlanks", inPlace := ["internal/bytealg.CountString", "internal/bytealg.IndexByteString", "internal/bytealg.IndexString", "internal/abi.NoEscape", "internal/bytealg.MakeNoZero"], unfollowed := true, recurses := true, named := ["civiltime/querytext.reserved", "internal/bytealg.MaxLen", "unicode/utf8.first", "unicode/utf8.acceptRanges", "strconv.ErrSyntax", "strconv.ErrRange", "internal/strconv.uint64pow10", "math/bits.deBruijn32tab", "math/bits.deBruijn64tab"], loops := true, apart := false, laid := [("math/bits.deBruijn32tab", laid_math_bits_deBruijn32tab), ("math/bits.deBruijn64tab", laid_math_bits_deBruijn64tab), ("internal/strconv.uint64pow10", laid_internal_strconv_uint64pow10), ("unicode/utf8.acceptRanges", laid_unicode_utf8_acceptRanges), ("strconv.ErrRange", laid_strconv_ErrRange), ("strconv.ErrSyntax", laid_strconv_ErrSyntax), ("civiltime/querytext.reserved", laid_civiltime_querytext_reserved), ("unicode/utf8.first", laid_unicode_utf8_first)] }
def QuerytextBlanksSaid : Prop := querytextBlanksRow.holds Tryz.pinned (OpenSpec.ofChange querytextBlanksSpec)

/-- ITS FALSE NEIGHBOUR: 'it returns false'. Refute it at one input. -/
def querytextBlanksWrong : ChangeSpec := { name := "querytextBlanks", fn := fun _ => fun
  | [d1, d2] => { results := [.lit (.bool false)], args := [d1, d2] }
  | _ => none }
def QuerytextBlanksWrongFalsely : Prop := querytextBlanksRow.holds Tryz.pinned (OpenSpec.ofChange querytextBlanksWrong)

/-- 'civiltimelaw40.QuerytextBack': WHATEVER THE INPUT: true; the input reads as it did. -/
def querytextBackSpec : ChangeSpec := { name := "querytextBack", fn := fun _ => fun
  | [d] => { results := [.lit (.bool true)], args := [d] }
  | _ => none }
def querytextBackRow : OpenClaim := { program := "ytlmeinikknoeeaagreatdoor", sum := "dfafe79688c7b420090e00e396a446bdb237824c7e5a5ed9702395aed327e5bb", func := "civiltime/civiltimelaw40.QuerytextBack", spec := "querytextBack", inPlace := ["internal/bytealg.CountString", "internal/bytealg.IndexByteString", "internal/bytealg.IndexString", "internal/abi.NoEscape", "internal/bytealg.MakeNoZero"], unfollowed := true, recurses := true, named := ["civiltime/querytext.reserved", "internal/bytealg.MaxLen", "unicode/utf8.first", "unicode/utf8.acceptRanges", "strconv.ErrSyntax", "strconv.ErrRange", "internal/strconv.uint64pow10", "math/bits.deBruijn32tab", "math/bits.deBruijn64tab"], apart := false, laid := [("math/bits.deBruijn32tab", laid_math_bits_deBruijn32tab), ("math/bits.deBruijn64tab", laid_math_bits_deBruijn64tab), ("internal/strconv.uint64pow10", laid_internal_strconv_uint64pow10), ("unicode/utf8.acceptRanges", laid_unicode_utf8_acceptRanges), ("strconv.ErrRange", laid_strconv_ErrRange), ("strconv.ErrSyntax", laid_strconv_ErrSyntax), ("civiltime/querytext.reserved", laid_civiltime_querytext_reserved), ("unicode/utf8.first", laid_unicode_utf8_first)] }
def QuerytextBackSaid : Prop := querytextBackRow.holds Tryz.pinned (OpenSpec.ofChange querytextBackSpec)

/-- ITS FALSE NEIGHBOUR: 'it returns false'. Refute it at one input. -/
def querytextBackWrong : ChangeSpec := { name := "querytextBack", fn := fun _ => fun
  | [d] => { results := [.lit (.bool false)], args := [d] }
  | _ => none }
def QuerytextBackWrongFalsely : Prop := querytextBackRow.holds Tryz.pinned (OpenSpec.ofChange querytextBackWrong)

/-- 'civiltimelaw40.QuerytextColumns': WHATEVER THE INPUT: true; the input reads as it did. -/
def querytextColumnsSpec : ChangeSpec := { name := "querytextColumns", fn := fun _ => fun
  | [d1, d2] => { results := [.lit (.bool true)], args := [d1, d2] }
  | _ => none }
def querytextColumnsRow : OpenClaim := { program := "ytlmeinikknoeeaagreatdoor", sum := "dfafe79688c7b420090e00e396a446bdb237824c7e5a5ed9702395aed327e5bb", func := "civiltime/civiltimelaw40.QuerytextColumns", spec := "querytextColumns", inPlace := ["internal/bytealg.CountString", "internal/bytealg.IndexByteString", "internal/bytealg.IndexString", "internal/abi.NoEscape", "internal/bytealg.MakeNoZero"], unfollowed := true, recurses := true, named := ["civiltime/querytext.reserved", "internal/bytealg.MaxLen", "unicode/utf8.first", "unicode/utf8.acceptRanges", "strconv.ErrSyntax", "strconv.ErrRange", "internal/strconv.uint64pow10", "math/bits.deBruijn32tab", "math/bits.deBruijn64tab"], loops := true, apart := false, laid := [("math/bits.deBruijn32tab", laid_math_bits_deBruijn32tab), ("math/bits.deBruijn64tab", laid_math_bits_deBruijn64tab), ("internal/strconv.uint64pow10", laid_internal_strconv_uint64pow10), ("unicode/utf8.acceptRanges", laid_unicode_utf8_acceptRanges), ("strconv.ErrRange", laid_strconv_ErrRange), ("strconv.ErrSyntax", laid_strconv_ErrSyntax), ("civiltime/querytext.reserved", laid_civiltime_querytext_reserved), ("unicode/utf8.first", laid_unicode_utf8_first)] }
def QuerytextColumnsSaid : Prop := querytextColumnsRow.holds Tryz.pinned (OpenSpec.ofChange querytextColumnsSpec)

/-- ITS FALSE NEIGHBOUR: 'it returns false'. Refute it at one input. -/
def querytextColumnsWrong : ChangeSpec := { name := "querytextColumns", fn := fun _ => fun
  | [d1, d2] => { results := [.lit (.bool false)], args := [d1, d2] }
  | _ => none }
def QuerytextColumnsWrongFalsely : Prop := querytextColumnsRow.holds Tryz.pinned (OpenSpec.ofChange querytextColumnsWrong)

/- THE SECOND FORM. 'bulk': how many values and letters a reading holds, each counted each time it is reached (what is shared counts as often as it is met; a slice's spare places count too). A statement '..UptoSaid' is the law's where the arguments, and the package variables that the reading takes, are together of bulk at most 1048576: NARROWER than '..Said'. Prove '..Said' where nothing that the law and all that it calls make is longer than what came in: it says more and counts as full. Else prove '..UptoSaid'. A law counts once. -/
mutual
def uptoBulk {H : Type} : DataW H → Nat
  | .lit (.string bytes) => bytes.length + 1
  | .lit _ => 1
  | .nil => 1
  | .ptr d => uptoBulk d + 1
  | .slice elems spare => uptoBulkAll elems + uptoBulkAll spare + 1
  | .agg parts => uptoBulkAll parts + 1
  | .iface _ d => uptoBulk d + 1
  | .map entries => uptoBulkEntries entries + 1
  | .held _ => 1
def uptoBulkAll {H : Type} : List (DataW H) → Nat
  | [] => 0
  | d :: r => uptoBulk d + uptoBulkAll r
def uptoBulkEntries {H : Type} : List (Lit × DataW H) → Nat
  | [] => 0
  | x :: r => uptoBulkEntry x + uptoBulkEntries r
def uptoBulkEntry {H : Type} : Lit × DataW H → Nat
  | (.string bytes, d) => bytes.length + uptoBulk d + 1
  | (_, d) => uptoBulk d + 1
 end
def uptoSmall : (H : Type) → List (DataW H) → Bool := fun _ ds => decide (uptoBulkAll ds ≤ 1048576)
def OpenSpec.upto (s : _root_.Go.ChangeSpec) : _root_.Go.OpenSpec := { _root_.Go.OpenSpec.ofChange s with cond := some uptoSmall }

/-- 'civiltimelaw40.QuerytextTyped', WHERE WHAT IT READS IS OF BULK AT MOST 1048576: true; the input reads as it did. -/
def querytextTypedUptoRow : OpenClaim := { program := "ytlmeinikknoeeaagreatdoor", sum := "dfafe79688c7b420090e00e396a446bdb237824c7e5a5ed9702395aed327e5bb", func := "civiltime/civiltimelaw40.QuerytextTyped", spec := "querytextTyped", inPlace := ["internal/bytealg.CountString", "internal/bytealg.IndexByteString", "internal/bytealg.IndexString", "internal/abi.NoEscape", "internal/bytealg.MakeNoZero"], unfollowed := true, recurses := true, named := ["civiltime/querytext.reserved", "internal/bytealg.MaxLen", "unicode/utf8.first", "unicode/utf8.acceptRanges", "strconv.ErrSyntax", "strconv.ErrRange", "internal/strconv.uint64pow10", "math/bits.deBruijn32tab", "math/bits.deBruijn64tab"], loops := true, apart := false, laid := [("math/bits.deBruijn32tab", laid_math_bits_deBruijn32tab), ("math/bits.deBruijn64tab", laid_math_bits_deBruijn64tab), ("internal/strconv.uint64pow10", laid_internal_strconv_uint64pow10), ("unicode/utf8.acceptRanges", laid_unicode_utf8_acceptRanges), ("strconv.ErrRange", laid_strconv_ErrRange), ("strconv.ErrSyntax", laid_strconv_ErrSyntax), ("civiltime/querytext.reserved", laid_civiltime_querytext_reserved), ("unicode/utf8.first", laid_unicode_utf8_first)], narrowed := true }
def QuerytextTypedUptoSaid : Prop := querytextTypedUptoRow.holds Tryz.pinned (OpenSpec.upto querytextTypedSpec)

/-- 'civiltimelaw40.QuerytextValid', WHERE WHAT IT READS IS OF BULK AT MOST 1048576: true; the input reads as it did. -/
def querytextValidUptoRow : OpenClaim := { program := "ytlmeinikknoeeaagreatdoor", sum := "dfafe79688c7b420090e00e396a446bdb237824c7e5a5ed9702395aed327e5bb", func := "civiltime/civiltimelaw40.QuerytextValid", spec := "querytextValid", inPlace := ["internal/bytealg.CountString", "internal/bytealg.IndexByteString", "internal/bytealg.IndexString", "internal/abi.NoEscape", "internal/bytealg.MakeNoZero"], unfollowed := true, recurses := true, named := ["civiltime/querytext.reserved", "internal/bytealg.MaxLen", "unicode/utf8.first", "unicode/utf8.acceptRanges", "strconv.ErrSyntax", "strconv.ErrRange", "internal/strconv.uint64pow10", "math/bits.deBruijn32tab", "math/bits.deBruijn64tab"], loops := true, apart := false, laid := [("math/bits.deBruijn32tab", laid_math_bits_deBruijn32tab), ("math/bits.deBruijn64tab", laid_math_bits_deBruijn64tab), ("internal/strconv.uint64pow10", laid_internal_strconv_uint64pow10), ("unicode/utf8.acceptRanges", laid_unicode_utf8_acceptRanges), ("strconv.ErrRange", laid_strconv_ErrRange), ("strconv.ErrSyntax", laid_strconv_ErrSyntax), ("civiltime/querytext.reserved", laid_civiltime_querytext_reserved), ("unicode/utf8.first", laid_unicode_utf8_first)], narrowed := true }
def QuerytextValidUptoSaid : Prop := querytextValidUptoRow.holds Tryz.pinned (OpenSpec.upto querytextValidSpec)

/-- 'civiltimelaw40.QuerytextParses', WHERE WHAT IT READS IS OF BULK AT MOST 1048576: true; the input reads as it did. -/
def querytextParsesUptoRow : OpenClaim := { program := "ytlmeinikknoeeaagreatdoor", sum := "dfafe79688c7b420090e00e396a446bdb237824c7e5a5ed9702395aed327e5bb", func := "civiltime/civiltimelaw40.QuerytextParses", spec := "querytextParses", inPlace := ["internal/bytealg.CountString", "internal/bytealg.IndexByteString", "internal/bytealg.IndexString", "internal/abi.NoEscape", "internal/bytealg.MakeNoZero"], unfollowed := true, recurses := true, named := ["civiltime/querytext.reserved", "internal/bytealg.MaxLen", "unicode/utf8.first", "unicode/utf8.acceptRanges", "strconv.ErrSyntax", "strconv.ErrRange", "internal/strconv.uint64pow10", "math/bits.deBruijn32tab", "math/bits.deBruijn64tab"], apart := false, laid := [("math/bits.deBruijn32tab", laid_math_bits_deBruijn32tab), ("math/bits.deBruijn64tab", laid_math_bits_deBruijn64tab), ("internal/strconv.uint64pow10", laid_internal_strconv_uint64pow10), ("unicode/utf8.acceptRanges", laid_unicode_utf8_acceptRanges), ("strconv.ErrRange", laid_strconv_ErrRange), ("strconv.ErrSyntax", laid_strconv_ErrSyntax), ("civiltime/querytext.reserved", laid_civiltime_querytext_reserved), ("unicode/utf8.first", laid_unicode_utf8_first)], narrowed := true }
def QuerytextParsesUptoSaid : Prop := querytextParsesUptoRow.holds Tryz.pinned (OpenSpec.upto querytextParsesSpec)

/-- 'civiltimelaw40.QuerytextConds', WHERE WHAT IT READS IS OF BULK AT MOST 1048576: true; the input reads as it did. -/
def querytextCondsUptoRow : OpenClaim := { program := "ytlmeinikknoeeaagreatdoor", sum := "dfafe79688c7b420090e00e396a446bdb237824c7e5a5ed9702395aed327e5bb", func := "civiltime/civiltimelaw40.QuerytextConds", spec := "querytextConds", inPlace := ["internal/bytealg.CountString", "internal/bytealg.IndexByteString", "internal/bytealg.IndexString", "internal/abi.NoEscape", "internal/bytealg.MakeNoZero"], unfollowed := true, recurses := true, named := ["civiltime/querytext.reserved", "internal/bytealg.MaxLen", "unicode/utf8.first", "unicode/utf8.acceptRanges", "strconv.ErrSyntax", "strconv.ErrRange", "internal/strconv.uint64pow10", "math/bits.deBruijn32tab", "math/bits.deBruijn64tab"], loops := true, apart := false, laid := [("math/bits.deBruijn32tab", laid_math_bits_deBruijn32tab), ("math/bits.deBruijn64tab", laid_math_bits_deBruijn64tab), ("internal/strconv.uint64pow10", laid_internal_strconv_uint64pow10), ("unicode/utf8.acceptRanges", laid_unicode_utf8_acceptRanges), ("strconv.ErrRange", laid_strconv_ErrRange), ("strconv.ErrSyntax", laid_strconv_ErrSyntax), ("civiltime/querytext.reserved", laid_civiltime_querytext_reserved), ("unicode/utf8.first", laid_unicode_utf8_first)], narrowed := true }
def QuerytextCondsUptoSaid : Prop := querytextCondsUptoRow.holds Tryz.pinned (OpenSpec.upto querytextCondsSpec)

/-- 'civiltimelaw40.QuerytextPlaces', WHERE WHAT IT READS IS OF BULK AT MOST 1048576: true; the input reads as it did. -/
def querytextPlacesUptoRow : OpenClaim := { program := "ytlmeinikknoeeaagreatdoor", sum := "dfafe79688c7b420090e00e396a446bdb237824c7e5a5ed9702395aed327e5bb", func := "civiltime/civiltimelaw40.QuerytextPlaces", spec := "querytextPlaces", inPlace := ["internal/bytealg.CountString", "internal/bytealg.IndexByteString", "internal/bytealg.IndexString", "internal/abi.NoEscape", "internal/bytealg.MakeNoZero"], unfollowed := true, recurses := true, named := ["civiltime/querytext.reserved", "internal/bytealg.MaxLen", "unicode/utf8.first", "unicode/utf8.acceptRanges", "strconv.ErrSyntax", "strconv.ErrRange", "internal/strconv.uint64pow10", "math/bits.deBruijn32tab", "math/bits.deBruijn64tab"], apart := false, laid := [("math/bits.deBruijn32tab", laid_math_bits_deBruijn32tab), ("math/bits.deBruijn64tab", laid_math_bits_deBruijn64tab), ("internal/strconv.uint64pow10", laid_internal_strconv_uint64pow10), ("unicode/utf8.acceptRanges", laid_unicode_utf8_acceptRanges), ("strconv.ErrRange", laid_strconv_ErrRange), ("strconv.ErrSyntax", laid_strconv_ErrSyntax), ("civiltime/querytext.reserved", laid_civiltime_querytext_reserved), ("unicode/utf8.first", laid_unicode_utf8_first)], narrowed := true }
def QuerytextPlacesUptoSaid : Prop := querytextPlacesUptoRow.holds Tryz.pinned (OpenSpec.upto querytextPlacesSpec)

/-- 'civiltimelaw40.QuerytextTexts', WHERE WHAT IT READS IS OF BULK AT MOST 1048576: true; the input reads as it did. -/
def querytextTextsUptoRow : OpenClaim := { program := "ytlmeinikknoeeaagreatdoor", sum := "dfafe79688c7b420090e00e396a446bdb237824c7e5a5ed9702395aed327e5bb", func := "civiltime/civiltimelaw40.QuerytextTexts", spec := "querytextTexts", inPlace := ["internal/bytealg.CountString", "internal/bytealg.IndexByteString", "internal/bytealg.IndexString", "internal/abi.NoEscape", "internal/bytealg.MakeNoZero"], unfollowed := true, recurses := true, named := ["civiltime/querytext.reserved", "internal/bytealg.MaxLen", "unicode/utf8.first", "unicode/utf8.acceptRanges", "strconv.ErrSyntax", "strconv.ErrRange", "internal/strconv.uint64pow10", "math/bits.deBruijn32tab", "math/bits.deBruijn64tab"], loops := true, apart := false, laid := [("math/bits.deBruijn32tab", laid_math_bits_deBruijn32tab), ("math/bits.deBruijn64tab", laid_math_bits_deBruijn64tab), ("internal/strconv.uint64pow10", laid_internal_strconv_uint64pow10), ("unicode/utf8.acceptRanges", laid_unicode_utf8_acceptRanges), ("strconv.ErrRange", laid_strconv_ErrRange), ("strconv.ErrSyntax", laid_strconv_ErrSyntax), ("civiltime/querytext.reserved", laid_civiltime_querytext_reserved), ("unicode/utf8.first", laid_unicode_utf8_first)], narrowed := true }
def QuerytextTextsUptoSaid : Prop := querytextTextsUptoRow.holds Tryz.pinned (OpenSpec.upto querytextTextsSpec)

/-- 'civiltimelaw40.QuerytextBlanks', WHERE WHAT IT READS IS OF BULK AT MOST 1048576: true; the input reads as it did. -/
def querytextBlanksUptoRow : OpenClaim := { program := "ytlmeinikknoeeaagreatdoor", sum := "dfafe79688c7b420090e00e396a446bdb237824c7e5a5ed9702395aed327e5bb", func := "civiltime/civiltimelaw40.QuerytextBlanks", spec := "querytextBlanks", inPlace := ["internal/bytealg.CountString", "internal/bytealg.IndexByteString", "internal/bytealg.IndexString", "internal/abi.NoEscape", "internal/bytealg.MakeNoZero"], unfollowed := true, recurses := true, named := ["civiltime/querytext.reserved", "internal/bytealg.MaxLen", "unicode/utf8.first", "unicode/utf8.acceptRanges", "strconv.ErrSyntax", "strconv.ErrRange", "internal/strconv.uint64pow10", "math/bits.deBruijn32tab", "math/bits.deBruijn64tab"], loops := true, apart := false, laid := [("math/bits.deBruijn32tab", laid_math_bits_deBruijn32tab), ("math/bits.deBruijn64tab", laid_math_bits_deBruijn64tab), ("internal/strconv.uint64pow10", laid_internal_strconv_uint64pow10), ("unicode/utf8.acceptRanges", laid_unicode_utf8_acceptRanges), ("strconv.ErrRange", laid_strconv_ErrRange), ("strconv.ErrSyntax", laid_strconv_ErrSyntax), ("civiltime/querytext.reserved", laid_civiltime_querytext_reserved), ("unicode/utf8.first", laid_unicode_utf8_first)], narrowed := true }
def QuerytextBlanksUptoSaid : Prop := querytextBlanksUptoRow.holds Tryz.pinned (OpenSpec.upto querytextBlanksSpec)

/-- 'civiltimelaw40.QuerytextBack', WHERE WHAT IT READS IS OF BULK AT MOST 1048576: true; the input reads as it did. -/
def querytextBackUptoRow : OpenClaim := { program := "ytlmeinikknoeeaagreatdoor", sum := "dfafe79688c7b420090e00e396a446bdb237824c7e5a5ed9702395aed327e5bb", func := "civiltime/civiltimelaw40.QuerytextBack", spec := "querytextBack", inPlace := ["internal/bytealg.CountString", "internal/bytealg.IndexByteString", "internal/bytealg.IndexString", "internal/abi.NoEscape", "internal/bytealg.MakeNoZero"], unfollowed := true, recurses := true, named := ["civiltime/querytext.reserved", "internal/bytealg.MaxLen", "unicode/utf8.first", "unicode/utf8.acceptRanges", "strconv.ErrSyntax", "strconv.ErrRange", "internal/strconv.uint64pow10", "math/bits.deBruijn32tab", "math/bits.deBruijn64tab"], apart := false, laid := [("math/bits.deBruijn32tab", laid_math_bits_deBruijn32tab), ("math/bits.deBruijn64tab", laid_math_bits_deBruijn64tab), ("internal/strconv.uint64pow10", laid_internal_strconv_uint64pow10), ("unicode/utf8.acceptRanges", laid_unicode_utf8_acceptRanges), ("strconv.ErrRange", laid_strconv_ErrRange), ("strconv.ErrSyntax", laid_strconv_ErrSyntax), ("civiltime/querytext.reserved", laid_civiltime_querytext_reserved), ("unicode/utf8.first", laid_unicode_utf8_first)], narrowed := true }
def QuerytextBackUptoSaid : Prop := querytextBackUptoRow.holds Tryz.pinned (OpenSpec.upto querytextBackSpec)

/-- 'civiltimelaw40.QuerytextColumns', WHERE WHAT IT READS IS OF BULK AT MOST 1048576: true; the input reads as it did. -/
def querytextColumnsUptoRow : OpenClaim := { program := "ytlmeinikknoeeaagreatdoor", sum := "dfafe79688c7b420090e00e396a446bdb237824c7e5a5ed9702395aed327e5bb", func := "civiltime/civiltimelaw40.QuerytextColumns", spec := "querytextColumns", inPlace := ["internal/bytealg.CountString", "internal/bytealg.IndexByteString", "internal/bytealg.IndexString", "internal/abi.NoEscape", "internal/bytealg.MakeNoZero"], unfollowed := true, recurses := true, named := ["civiltime/querytext.reserved", "internal/bytealg.MaxLen", "unicode/utf8.first", "unicode/utf8.acceptRanges", "strconv.ErrSyntax", "strconv.ErrRange", "internal/strconv.uint64pow10", "math/bits.deBruijn32tab", "math/bits.deBruijn64tab"], loops := true, apart := false, laid := [("math/bits.deBruijn32tab", laid_math_bits_deBruijn32tab), ("math/bits.deBruijn64tab", laid_math_bits_deBruijn64tab), ("internal/strconv.uint64pow10", laid_internal_strconv_uint64pow10), ("unicode/utf8.acceptRanges", laid_unicode_utf8_acceptRanges), ("strconv.ErrRange", laid_strconv_ErrRange), ("strconv.ErrSyntax", laid_strconv_ErrSyntax), ("civiltime/querytext.reserved", laid_civiltime_querytext_reserved), ("unicode/utf8.first", laid_unicode_utf8_first)], narrowed := true }
def QuerytextColumnsUptoSaid : Prop := querytextColumnsUptoRow.holds Tryz.pinned (OpenSpec.upto querytextColumnsSpec)

end Rows
end Go.Proofs.YtlmeinikknoeeaaGreatDoor
