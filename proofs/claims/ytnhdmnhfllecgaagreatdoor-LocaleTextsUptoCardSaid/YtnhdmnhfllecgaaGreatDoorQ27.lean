/- The walk of integer.Text: a decimal text with at least so many digits. -/
import Derived.Test.YtnhdmnhfllecgaaGreatDoorQ26
import Derived.Test.YtnhdmnhfllecgaaGreatDoorQ06
import Derived.Test.YtnhdmnhfllecgaaGreatDoorQ08
import Derived.Laws.BytesString
import Derived.Laws.IdiomStrings
import Derived.Test.YtnhdmnhfllecgaaGreatDoorShelf
import Derived.Lib.ItoaMem
namespace Go.Proofs.YtnhdmnhfllecgaaGreatDoor
open Go.RowKit

def itxI (n : Int) (k : Nat) : List UInt8 := if n < 0 then 45 :: itx n.natAbs k else itx n.natAbs k

theorem txC_neg (n j : Nat) (h : j < 24) : ((txC n j).setIfInBounds (24 - j - 1) (.int .u8 45)) = (List.replicate (24 - (j + 1)) (Value.int .u8 0) ++ ((45 :: padN j n).map fun c => Value.int .u8 c.toNat)).toArray := by
  unfold txC
  rw [List.setIfInBounds_toArray]
  congr 1
  rw [show 24 - j = (24 - (j + 1)) + 1 from by omega, List.replicate_succ', List.append_assoc, List.set_append_right _ _ (by simp <;> omega)]
  have e : 24 - (j + 1) + 1 - 1 - (List.replicate (24 - (j + 1)) (Value.int .u8 0)).length = 0 := by simp
  rw [e]
  simp
theorem txC_neg_at (n j i : Nat) (hj : j < 24) (c : UInt8) (h : (45 :: padN j n)[i]? = some c) : ((txC n j).setIfInBounds (24 - j - 1) (.int .u8 45))[24 - j - 1 + i]? = some (.int .u8 c.toNat) := by
  rw [txC_neg n j hj]
  simp only [List.getElem?_toArray]
  rw [List.getElem?_append_right (by simp; omega)]
  simp only [List.length_replicate, List.getElem?_map]
  rw [show 24 - j - 1 + i - (24 - (j + 1)) = i from by omega, h]
  rfl

end Go.Proofs.YtnhdmnhfllecgaaGreatDoor
/- Locales: decimal texts of the program; the walk of Ordinal. -/
namespace Go.Proofs.YtnhdmnhfllecgaaGreatDoor
set_option linter.unusedVariables false
set_option linter.unusedSimpArgs false
open Go.RowKit

theorem Ext.grow {a w : World} (h : Ext a w) (os : Array Obj) : Ext a (Go.Sort.grow w os) :=
  h.trans ⟨rfl, rfl, rfl, by simp [Go.Sort.grow], fun k hk => by show (w.heap ++ os)[k]? = _; rw [Array.getElem?_append_left hk]⟩
/-- The table of powers of ten is there. -/
def TabW (w : World) : Prop := Lib.TabIs Tryz.prog w "internal/strconv.uint64pow10" .u64 Lib.pow10Tab ∧ 1 < w.heap.size
theorem gPow : Tryz.prog.globalNamed "internal/strconv.uint64pow10" = some 1 := by kernel_rfl
theorem TabW.ext {w w' : World} (h : TabW w) (hE : Ext w w') : TabW w' := ⟨var?_below hE gPow h.2 h.1, hE.lt h.2⟩
theorem itoa_c (N : Nat) (X : List UInt8) (w : World) (h : (N : Int) ≤ 9223372036854775807) (hL : TabW w) (hX : itx N 1 = X) :
    Calls Tryz.prog 20 #[.int .i64 (N : Int)] w fun e w' => e = .returned (.string ⟨X.toArray⟩) ∧ Ext w w' := by
  refine (Tryz.strconv_Itoa (N : Int) (by omega) h w hL.1).mono ?_
  rintro e w' ⟨rfl, k, os, rfl⟩
  rw [Lib.itoa_nonneg, ← hX, itx_one]
  exact ⟨rfl, ((Ext.refl w).drewN k).grow os⟩
end Go.Proofs.YtnhdmnhfllecgaaGreatDoor
/- Locales: the walk of the law's long (a list of categories that is long, or has long texts). -/
namespace Go.Proofs.YtnhdmnhfllecgaaGreatDoor
set_option linter.unusedVariables false
set_option linter.unusedSimpArgs false
open Go.RowKit

/-- Texts that a machine may hold. -/
def bgP (l : List Plu) : Prop := ∀ p ∈ l, p.c.length ≤ 9223372036854775807 ∧ p.r.length ≤ 9223372036854775807
def plLong (l : List Plu) : Bool := decide (12 < l.length) || l.any fun p => decide (300 < p.c.length) || decide (300 < p.r.length)
theorem plLong_no {l : List Plu} (h : plLong l = false) : l.length ≤ 12 ∧ ∀ p ∈ l, p.c.length ≤ 300 ∧ p.r.length ≤ 300 := by
  unfold plLong at h
  simp only [Bool.or_eq_false_iff, decide_eq_false_iff_not, List.any_eq_false] at h
  refine ⟨by omega, fun p hp => ?_⟩
  have := h.2 p hp
  simp at this
  omega
theorem plLong_shP {l : List Plu} (h : plLong l = false) : shP l := fun p hp => by
  have := (plLong_no h).2 p hp
  omega
theorem plLong_at {l : List Plu} {b : Bool} (hb : plLong l = b) (j : Nat) (hj : j < l.length) (h : 300 < (l[j]).c.length ∨ 300 < (l[j]).r.length) : b = true := by
  rw [← hb]
  unfold plLong
  rw [Bool.or_eq_true]
  right
  rw [List.any_eq_true]
  exact ⟨l[j], List.getElem_mem _, by simpa using h⟩
theorem plLong_end {l : List Plu} {b : Bool} (hb : plLong l = b) (h1 : l.length ≤ 12) (h : ∀ i (hi : i < l.length), (l[i]).c.length ≤ 300 ∧ (l[i]).r.length ≤ 300) : b = false := by
  rw [← hb]
  unfold plLong
  rw [Bool.or_eq_false_iff]
  refine ⟨by simp; omega, ?_⟩
  rw [List.any_eq_false]
  intro p hp
  obtain ⟨i, hi, rfl⟩ := List.mem_iff_getElem.1 hp
  have := h i hi
  simp; omega
set_option maxRecDepth 100000 in
set_option maxHeartbeats 1000000 in
theorem long1_c (l : List Plu) (ao : Option Addr) (cap : Nat) (b : Bool) (w : World) (h : PlV ao cap l w) (hs : bgP l) (hb : plLong l = b) :
    Calls Tryz.prog 15 #[.slice ao l.length cap] w fun e w' => e = .returned (.bool b) ∧ Ext w w' := by
  have hlen := h.1
  have hcap := h.2.1
  unfold maxLen at hcap
  have Hs := Lib.hid hs
  by_cases h12 : 12 < l.length
  · have HF : Hid (b = true) := by rw [Hid, ← hb]; unfold plLong; simp [h12]
    have d1 : (12 : Int) < (l.length : Int) := by omega
    clear hb h h12 hs
    go_enter Tryz.func15, Tryz.ntmps15
    go_wp2_with fail
    go_ret
    exact ⟨by rw [HF.out]; rfl, Ext.refl _⟩
  · have HL := Lib.hid h.2.2
    have HB := Lib.hid hb
    have H12 := Lib.hid h12
    have d1 : ¬ (12 : Int) < (l.length : Int) := by omega
    clear hb h h12 hs
    go_enter Tryz.func15, Tryz.ntmps15
    go_wp2_with fail
    clear d1
    go_loopw [10] (fun i wr => ∃ j : Nat, j ≤ l.length ∧ i = .int .i64 (j : Int) ∧ Hid (∀ i (hi : i < l.length), i < j → (l[i]).c.length ≤ 300 ∧ (l[i]).r.length ≤ 300) ∧ Ext w wr) (fun i _ => l.length - (intOf i).toNat)
    case atStart => exact ⟨0, Nat.zero_le _, rfl, fun i _ hi => absurd hi (Nat.not_lt_zero i), Ext.refl _⟩
    case round =>
      obtain ⟨j, hj, rfl, Hall, hE⟩ := hrel
      by_cases hlt : j < l.length
      · obtain ⟨R, off, rfl, hR0, hc⟩ := HL.out (by rintro rfl; simp at hlt)
        obtain ⟨c0, c1⟩ := hc j hlt
        replace c0 := (hE.cells _ _ hR0).trans c0
        replace c1 := (hE.cells _ _ hR0).trans c1
        have hRr := hE.lt hR0
        have HF : Hid (300 < (l[j]).c.length ∨ 300 < (l[j]).r.length → b = true) := fun q => plLong_at HB.out j hlt q
        have HY : Hid ((l[j]).c.length ≤ 300 ∧ (l[j]).r.length ≤ 300 → ∀ i (hi : i < l.length), i < j + 1 → (l[i]).c.length ≤ 300 ∧ (l[i]).r.length ≤ 300) := fun q i hi hij => by
          by_cases e : i = j
          · subst e; exact q
          · exact Hall.out i hi (by omega)
        obtain ⟨z1, z2⟩ := Hs.out l[j] (List.getElem_mem _)
        obtain ⟨p, hp⟩ : ∃ p, p = l[j] := ⟨_, rfl⟩
        rw [← hp] at c0 c1 HF HY z1 z2
        clear hp hc
        obtain ⟨pc, pr⟩ := p
        simp only at c0 c1 HF HY z1 z2
        by_cases q1 : 300 < pc.length
        · have HFt := Lib.hid (HF.out (.inl q1))
          have e1 : (300 : Int) < (pc.length : Int) := by omega
          have e1b : decide ((300 : Int) < (pc.length : Int)) = true := decide_eq_true e1
          clear q1 HY
          go_wp2_with fail
          go_ret
          exact ⟨by rw [HFt.out]; rfl, hE.trans ((Ext.refl wr).alloc _)⟩
        · have e1b : decide ((300 : Int) < (pc.length : Int)) = false := decide_eq_false (by omega)
          by_cases q2 : 300 < pr.length
          · have HFt := Lib.hid (HF.out (.inr q2))
            have e2b : decide ((300 : Int) < (pr.length : Int)) = true := decide_eq_true (by omega)
            clear q1 q2 HY
            go_wp2_with fail
            go_ret
            exact ⟨by rw [HFt.out]; rfl, hE.trans ((Ext.refl wr).alloc _)⟩
          · have e2b : decide ((300 : Int) < (pr.length : Int)) = false := decide_eq_false (by omega)
            have HS := Lib.hid (HY.out ⟨by omega, by omega⟩)
            clear q1 q2 HY
            go_wp2_with fail
            go_roundw
            case rel => exact ⟨j + 1, by omega, by go_num, HS, hE.trans ((Ext.refl wr).alloc _)⟩
            case measure => simp [intOf]; omega
      · obtain rfl : j = l.length := by omega
        have HF := Lib.hid (plLong_end HB.out (by have := H12.out; omega) (fun i hi => Hall.out i hi hi))
        go_wp2_with fail
        go_ret
        exact ⟨by rw [HF.out]; rfl, hE⟩
end Go.Proofs.YtnhdmnhfllecgaaGreatDoor
