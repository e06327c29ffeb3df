/- The same for the list of six variables. -/
import Derived.Test.YtplckoffiebibaaDoorLaid
import Derived.LaidSub
namespace Go.Proofs.YtplckoffiebibaaDoor
open Go.ChangeShapes Go.WideShapes Go.ChangeAt Go.WideMaps Go.WideElems Go.RowKit

def laidL6 : List (String × DataW Unit) := [("math/bits.deBruijn32tab", Rows.laid_math_bits_deBruijn32tab), ("math/bits.deBruijn64tab", Rows.laid_math_bits_deBruijn64tab), ("internal/strconv.uint64pow10", Rows.laid_internal_strconv_uint64pow10), ("strconv.ErrRange", Rows.laid_strconv_ErrRange), ("strconv.ErrSyntax", Rows.laid_strconv_ErrSyntax), ("civiltime/clock.units", Rows.laid_civiltime_clock_units)]
theorem door_met6 (os : Os) (args : Array Value) : laidMetH Tryd.prog laidL6 ((World.doorLaid Tryd.prog 400 os).forCall (fun _ _ => 0) ⟨#[], args, []⟩).memory :=
  laidMetH_of_parts3 (fuel := 8) (laidMet_of_run' 8 (by kernel_rfl) (by kernel_rfl)) (by kernel_rfl) (by kernel_rfl)
theorem of_laid6 {W : World} (h : laidMetH Tryd.prog laidL6 W) : Laid W :=
  of_laid (laidMetH.filter (fun x => x.1 != "strconv.ErrRange" && x.1 != "strconv.ErrSyntax") h)
end Go.Proofs.YtplckoffiebibaaDoor
