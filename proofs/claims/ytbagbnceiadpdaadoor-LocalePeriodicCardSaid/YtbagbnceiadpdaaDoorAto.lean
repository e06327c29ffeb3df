/- strconv.Atoi at a few digits. -/
import Derived.Test.YtbagbnceiadpdaaDoorStr
import Derived.Test.YtbagbnceiadpdaaDoorShelf
import Derived.Lib.AtoiErrMem
namespace Go.Proofs.YtbagbnceiadpdaaDoor
set_option linter.unusedVariables false
set_option linter.unusedSimpArgs false
open Go.RowKit

theorem ext_bytes (w : World) (e : TypeId) (s : ByteArray) : Ext w (Lib.bytesWorld w e s) := by
  exact Lib.bytesWorld_below w e s
theorem atoi_c (f : List UInt8) (w : World) (h1 : 1 ≤ f.length) (h2 : f.length ≤ 9) (hd : ∀ c ∈ f, isDg c = true) :
    Calls Tryd.prog 11 #[.string ⟨f.toArray⟩] w fun e w' => e = .returned (.tuple #[.int .i64 (val f : Nat), .nilIface]) ∧ Ext w w' := by
  refine (Tryd.strconv_Atoi_ok ⟨f.toArray⟩ (by show f.toArray.size ≤ _; simp; omega) _ (atoi_val f h1 h2 hd) w).mono ?_
  rintro e w' ⟨rfl, rfl | ⟨t, rfl⟩⟩
  · exact ⟨rfl, Ext.refl _⟩
  · exact ⟨rfl, ext_bytes _ _ _⟩
end Go.Proofs.YtbagbnceiadpdaaDoor
