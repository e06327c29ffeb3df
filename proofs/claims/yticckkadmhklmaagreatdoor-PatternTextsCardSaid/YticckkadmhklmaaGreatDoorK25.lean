/- Patterns: the walk of the reference's literal. -/
import Derived.Test.YticckkadmhklmaaGreatDoorK06
import Derived.Test.YticckkadmhklmaaGreatDoorK03
import Derived.Test.YticckkadmhklmaaGreatDoorK00
import Derived.Test.YticckkadmhklmaaGreatDoorK04
namespace Go.Proofs.YticckkadmhklmaaGreatDoor
set_option linter.unusedVariables false
set_option linter.unusedSimpArgs false
open Go.RowKit

/-- A row of parts, all its own, from block G on. -/
abbrev OwnP (G : Nat) (ao : Option Addr) (cap : Nat) (out : List Prt) (w : World) : Prop := w.ownsRow G 38 3 (.slice ao out.length cap) out.length (pcs out)
theorem OwnP.cells {G : Nat} {ao : Option Addr} {cap : Nat} {r : List Prt} {p : Prt} {w : World} (h : OwnP G ao cap (r ++ [p]) w) : ∃ g, ao = some ⟨g, 0, none⟩ ∧ G ≤ g ∧ g < w.heap.size ∧ r.length + 1 ≤ cap ∧ cap ≤ maxLen ∧
    w.cell? ⟨g, r.length * 3, none⟩ = some (.int .i64 p.k) ∧ w.cell? ⟨g, r.length * 3 + 2, none⟩ = some (.string ⟨p.t.toArray⟩) ∧ ∀ o, w.frozen? ⟨g, o, none⟩ = false := by
  have h1 := h.2
  rcases h1 with ⟨_, h0⟩ | ⟨g, cap', cur, he, hb, hg, hc1, hc2, _⟩
  · simp at h0
  · injection he with e1 e2 e3
    subst e1
    subst e3
    rw [List.length_append] at hc1
    have hc := World.ownsRow.cellAt h
    have hf := World.ownsRow.frozenAt h
    obtain ⟨a, b, c⟩ := pcs_at (r ++ [p]) r.length (by simp)
    rw [Nat.mul_comm] at a b c
    refine ⟨g, rfl, hb, (Array.getElem?_eq_some_iff.1 hg).1, hc1, hc2, ?_, ?_, hf⟩
    · rw [hc _ (by rw [List.length_append, List.length_singleton]; omega), a]; simp
    · rw [hc _ (by rw [List.length_append, List.length_singleton]; omega), c]; simp
def RliR (G : Nat) (out : List Prt) (w : World) (e : Ending) (w' : World) : Prop := ∃ ao' cap', e = .returned (.slice ao' out.length cap') ∧ OwnP G ao' cap' out w' ∧ Frm (fun k => G ≤ k) w w'
end Go.Proofs.YticckkadmhklmaaGreatDoor
/- Patterns, plainly: the part of a run of a letter, as the reference looks for it. -/
namespace Go.Proofs.YticckkadmhklmaaGreatDoor
set_option linter.unusedVariables false
set_option linter.unusedSimpArgs false

/-- The reference's letters. -/
def letR : List UInt8 := [63, 63, 121, 77, 77, 77, 100, 69, 69, 72, 104, 109, 115, 97, 90, 122]
def letK (k : Nat) : UInt8 := letR.getD k 0
def wantN (k : Nat) : Nat := if k = 4 ∨ k = 7 then 3 else if k = 5 ∨ k = 8 then 4 else 1
def rfG (c : UInt8) (n : Nat) : List Nat → Prt
  | [] => ⟨0, 0, []⟩
  | k :: r => if letK k ≠ c then rfG c n r else if fullN k ≠ 0 then (if n ≤ fullN k then ⟨(k : Int), (n : Int), []⟩ else rfG c n r) else if n = wantN k then ⟨(k : Int), 0, []⟩ else rfG c n r
/-- From kind k on. -/
def rfK (c : UInt8) (n k : Nat) : Prt := rfG c n (List.range' k (16 - k))
theorem rfK_end (c : UInt8) (n : Nat) : rfK c n 16 = ⟨0, 0, []⟩ := rfl
theorem rfK_step (c : UInt8) (n k : Nat) (h : k < 16) : rfK c n k = if letK k ≠ c then rfK c n (k + 1) else if fullN k ≠ 0 then (if n ≤ fullN k then ⟨(k : Int), (n : Int), []⟩ else rfK c n (k + 1)) else if n = wantN k then ⟨(k : Int), 0, []⟩ else rfK c n (k + 1) := by
  unfold rfK
  rw [show 16 - k = (16 - (k + 1)) + 1 by omega, List.range'_succ]
  rfl
theorem rfG_all (c : UInt8) (n : Nat) : rfG c n [2, 3, 4, 5, 6, 7, 8, 9, 10, 11, 12, 13, 14, 15] = fld c n := by
  have d : letK 2 = 121 ∧ letK 3 = 77 ∧ letK 4 = 77 ∧ letK 5 = 77 ∧ letK 6 = 100 ∧ letK 7 = 69 ∧ letK 8 = 69 ∧ letK 9 = 72 ∧ letK 10 = 104 ∧ letK 11 = 109 ∧ letK 12 = 115 ∧ letK 13 = 97 ∧ letK 14 = 90 ∧ letK 15 = 122 := by decide
  obtain ⟨d2, d3, d4, d5, d6, d7, d8, d9, d10, d11, d12, d13, d14, d15⟩ := d
  simp only [rfG, d2, d3, d4, d5, d6, d7, d8, d9, d10, d11, d12, d13, d14, d15]
  by_cases h1 : c = 121
  · subst h1; by_cases q : n ≤ 4 <;> simp [fld, numK, namK, fullN, wantN, q]
  by_cases h2 : c = 77
  · subst h2
    by_cases q : n ≤ 2
    · simp [fld, numK, namK, fullN, wantN, q]
    · by_cases q3 : n = 3
      · subst q3; simp [fld, numK, namK, fullN, wantN]
      · by_cases q4 : n = 4
        · subst q4; simp [fld, numK, namK, fullN, wantN]
        · simp [fld, numK, namK, fullN, wantN, q, q3, q4]
  by_cases h3 : c = 100
  · subst h3; by_cases q : n ≤ 2 <;> simp [fld, numK, namK, fullN, wantN, q]
  by_cases h4 : c = 69
  · subst h4
    by_cases q3 : n = 3
    · subst q3; simp [fld, numK, namK, fullN, wantN]
    · by_cases q4 : n = 4
      · subst q4; simp [fld, numK, namK, fullN, wantN]
      · simp [fld, numK, namK, fullN, wantN, q3, q4]
  by_cases h5 : c = 72
  · subst h5; by_cases q : n ≤ 2 <;> simp [fld, numK, namK, fullN, wantN, q]
  by_cases h6 : c = 104
  · subst h6; by_cases q : n ≤ 2 <;> simp [fld, numK, namK, fullN, wantN, q]
  by_cases h7 : c = 109
  · subst h7; by_cases q : n ≤ 2 <;> simp [fld, numK, namK, fullN, wantN, q]
  by_cases h8 : c = 115
  · subst h8; by_cases q : n ≤ 2 <;> simp [fld, numK, namK, fullN, wantN, q]
  by_cases h9 : c = 97
  · subst h9; by_cases q : n = 1 <;> simp [fld, numK, namK, fullN, wantN, q]
  by_cases h10 : c = 90
  · subst h10; by_cases q : n = 1 <;> simp [fld, numK, namK, fullN, wantN, q]
  by_cases h11 : c = 122
  · subst h11; by_cases q : n = 1 <;> simp [fld, numK, namK, fullN, wantN, q]
  have f : ∀ x : UInt8, c ≠ x → (x ≠ c) = True := fun x h => eq_true (Ne.symm h)
  simp [fld, numK, namK, h1, h2, h3, h4, h5, h6, h7, h8, h9, h10, h11, Ne.symm h1, Ne.symm h2, Ne.symm h3, Ne.symm h4, Ne.symm h5, Ne.symm h6, Ne.symm h7, Ne.symm h8, Ne.symm h9, Ne.symm h10, Ne.symm h11]
theorem rfK_fld (c : UInt8) (n : Nat) : rfK c n 2 = fld c n := rfG_all c n
end Go.Proofs.YticckkadmhklmaaGreatDoor
/- Patterns: the walks of the reference's letters and field. -/
namespace Go.Proofs.YticckkadmhklmaaGreatDoor
set_option linter.unusedVariables false
set_option linter.unusedSimpArgs false
open Go.RowKit

theorem risLt_c (c : UInt8) (b : Bool) (w : World) (h : isLt c = b) : Calls Tryz.prog 34 #[.int .u8 (c.toNat : Int)] w fun e w' => e = .returned (.bool b) ∧ w = w' := by
  subst h
  have hc : c.toNat < 256 := c.toNat_lt
  go_enter Tryz.func34, Tryz.ntmps34
  go_wp2
  all_goals
    go_ret
    refine ⟨?_, rfl⟩
    refine congrArg (fun b => Ending.returned (Value.bool b)) ?_
    unfold isLt
    rw [Bool.eq_iff_iff]
    simp
    omega
theorem rFull_c (k : Int) (F : Int) (w : World) (h : fullZ k = F) : Calls Tryz.prog 35 #[.int .i64 k] w fun e w' => e = .returned (.int .i64 F) ∧ w = w' := by
  subst h
  go_enter Tryz.func35, Tryz.ntmps35
  go_wp2
  all_goals
    go_ret
    refine ⟨?_, rfl⟩
    refine congrArg (fun b => Ending.returned (Value.int .i64 b)) ?_
    unfold fullZ
    simp_all
theorem rletter_c (k : Nat) (hk : k < 16) (w : World) : Calls Tryz.prog 33 #[.int .i64 (k : Int)] w fun e w' => e = .returned (.int .u8 ((letK k).toNat : Int)) ∧ w = w' := by
  have hl := bget letR k (by simpa [letR] using hk) (letK k) (by unfold letK; simp [List.getD]; rw [List.getElem?_eq_getElem (by simpa [letR] using hk)]; rfl)
  replace hl : (⟨#[63, 63, 121, 77, 77, 77, 100, 69, 69, 72, 104, 109, 115, 97, 90, 122]⟩ : ByteArray)[k]'(by show k < 16; exact hk) = letK k := hl
  have hz : (⟨#[63, 63, 121, 77, 77, 77, 100, 69, 69, 72, 104, 109, 115, 97, 90, 122]⟩ : ByteArray).size = 16 := rfl
  go_enter Tryz.func33, Tryz.ntmps33
  go_wp2
  go_ret
  exact ⟨rfl, rfl⟩
/-- What the reference's field gives. -/
def RfR (p : Prt) (w : World) (e : Ending) (w' : World) : Prop := e = .returned (.tuple #[.agg #[.int .i64 p.k, .int .i64 p.w, .string ⟨p.t.toArray⟩], .bool (decide (p.k ≠ 0))]) ∧ Ext w w'
end Go.Proofs.YticckkadmhklmaaGreatDoor
