/- The walk of integer.Text: a decimal text with at least so many digits. -/
import Derived.Test.YtnhdmnhfllecgaaGreatDoorQ38
import Derived.Test.YtnhdmnhfllecgaaGreatDoorQ06
import Derived.Laws.BytesString
import Derived.Laws.IdiomStrings
import Derived.Test.YtnhdmnhfllecgaaGreatDoorShelf
import Derived.Lib.ItoaMem
namespace Go.Proofs.YtnhdmnhfllecgaaGreatDoor
open Go.RowKit

def itxI (n : Int) (k : Nat) : List UInt8 := if n < 0 then 45 :: itx n.natAbs k else itx n.natAbs k

theorem txC_neg (n j : Nat) (h : j < 24) : ((txC n j).setIfInBounds (24 - j - 1) (.int .u8 45)) = (List.replicate (24 - (j + 1)) (Value.int .u8 0) ++ ((45 :: padN j n).map fun c => Value.int .u8 c.toNat)).toArray := by
  unfold txC
  rw [List.setIfInBounds_toArray]
  congr 1
  rw [show 24 - j = (24 - (j + 1)) + 1 from by omega, List.replicate_succ', List.append_assoc, List.set_append_right _ _ (by simp <;> omega)]
  have e : 24 - (j + 1) + 1 - 1 - (List.replicate (24 - (j + 1)) (Value.int .u8 0)).length = 0 := by simp
  rw [e]
  simp
theorem txC_neg_at (n j i : Nat) (hj : j < 24) (c : UInt8) (h : (45 :: padN j n)[i]? = some c) : ((txC n j).setIfInBounds (24 - j - 1) (.int .u8 45))[24 - j - 1 + i]? = some (.int .u8 c.toNat) := by
  rw [txC_neg n j hj]
  simp only [List.getElem?_toArray]
  rw [List.getElem?_append_right (by simp; omega)]
  simp only [List.length_replicate, List.getElem?_map]
  rw [show 24 - j - 1 + i - (24 - (j + 1)) = i from by omega, h]
  rfl

end Go.Proofs.YtnhdmnhfllecgaaGreatDoor
/- Locales: decimal texts of the program; the walk of Ordinal. -/
namespace Go.Proofs.YtnhdmnhfllecgaaGreatDoor
set_option linter.unusedVariables false
set_option linter.unusedSimpArgs false
open Go.RowKit

theorem Ext.grow {a w : World} (h : Ext a w) (os : Array Obj) : Ext a (Go.Sort.grow w os) :=
  h.trans ⟨rfl, rfl, rfl, by simp [Go.Sort.grow], fun k hk => by show (w.heap ++ os)[k]? = _; rw [Array.getElem?_append_left hk]⟩
/-- The table of powers of ten is there. -/
def TabW (w : World) : Prop := Lib.TabIs Tryz.prog w "internal/strconv.uint64pow10" .u64 Lib.pow10Tab ∧ 1 < w.heap.size
theorem gPow : Tryz.prog.globalNamed "internal/strconv.uint64pow10" = some 1 := by kernel_rfl
theorem TabW.ext {w w' : World} (h : TabW w) (hE : Ext w w') : TabW w' := ⟨var?_below hE gPow h.2 h.1, hE.lt h.2⟩
theorem itoa_c (N : Nat) (X : List UInt8) (w : World) (h : (N : Int) ≤ 9223372036854775807) (hL : TabW w) (hX : itx N 1 = X) :
    Calls Tryz.prog 20 #[.int .i64 (N : Int)] w fun e w' => e = .returned (.string ⟨X.toArray⟩) ∧ Ext w w' := by
  refine (Tryz.strconv_Itoa (N : Int) (by omega) h w hL.1).mono ?_
  rintro e w' ⟨rfl, k, os, rfl⟩
  rw [Lib.itoa_nonneg, ← hX, itx_one]
  exact ⟨rfl, ((Ext.refl w).drewN k).grow os⟩
end Go.Proofs.YtnhdmnhfllecgaaGreatDoor
