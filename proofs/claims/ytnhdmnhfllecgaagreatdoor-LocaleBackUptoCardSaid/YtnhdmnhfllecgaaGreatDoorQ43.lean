/- Locales: the walk of the law LocaleBack, at a text as it came. -/
import Derived.Test.YtnhdmnhfllecgaaGreatDoorQ41
import Derived.Test.YtnhdmnhfllecgaaGreatDoorQ42
namespace Go.Proofs.YtnhdmnhfllecgaaGreatDoor
open Go.RowKit

theorem lback_walk (L : Loc) (s : List UInt8) (w : World) (h : LcV L w) (hb : bgL L) (hm : Lm w) (ht : TabW w) (hNl : ∀ s ∈ L.N.all, s.length ≤ 2000000) :
    Calls Tryz.prog 4 #[.agg L.vals.toArray, .string ⟨s.toArray⟩] w fun e w' => e = .returned (.bool true) ∧ Ext w w' := by
  by_cases hs : s.length ≤ 6000
  · rcases Bool.eq_false_or_eq_true (validLB L) with hv | hv
    · exact lback_y L s w h hb hm ht hNl hv hs
    · exact lback_n L s w h hb hm ht hNl hv hs
  · exact lback_long L s w h hb hm hNl hs
theorem lback_walkB (L : Loc) (s : ByteArray) (w : World) (h : LcV L w) (hb : bgL L) (hm : Lm w) (ht : TabW w) (hNl : ∀ s ∈ L.N.all, s.length ≤ 2000000) :
    Calls Tryz.prog 4 #[.agg L.vals.toArray, .string s] w fun e w' => e = .returned (.bool true) ∧ Ext w w' := by
  have q := lback_walk L s.data.toList w h hb hm ht hNl
  rw [← ba_mk s] at q
  exact q
end Go.Proofs.YtnhdmnhfllecgaaGreatDoor
