/- Patterns: the walk of the reference's Compile. -/
import Derived.Test.YticckkadmhklmaaDoorK25
import Derived.Test.YticckkadmhklmaaDoorK08
import Derived.Deep.Cut
namespace Go.Proofs.YticckkadmhklmaaDoor
set_option linter.unusedVariables false
set_option linter.unusedSimpArgs false
open Go.RowKit

theorem OwnP.ext {G : Nat} {ao : Option Addr} {cap : Nat} {out : List Prt} {w w' : World} (h : OwnP G ao cap out w) (hE : Ext w w') : OwnP G ao cap out w' :=
  World.ownsRow.kept h (grown_none hE) (by cases h : ao <;> simp [Value.ownBlock])
theorem prn_iff (c : UInt8) : prn c = true ↔ 32 ≤ c.toNat ∧ c.toNat ≤ 126 := by unfold prn; simp
theorem prn_lo {c : UInt8} (h : prn c = false) : c.toNat < 32 ∨ (32 ≤ c.toNat ∧ 126 < c.toNat) := by
  have : ¬ (32 ≤ c.toNat ∧ c.toNat ≤ 126) := fun q => by rw [(prn_iff c).2 q] at h; cases h
  omega
theorem bone (s : List UInt8) (k : Nat) (h : k < s.length) : (⟨s.toArray⟩ : ByteArray).extract k (k + 1) = ⟨#[s[k]]⟩ := by
  rw [bmid, List.drop_eq_getElem_cons h, show k + 1 - k = 1 by omega]
  rfl
theorem pt_far {ao : Option Addr} {cap : Nat} {l : List Prt} {w : World} {G P : Nat} (h : PtV ao cap l w) (hr : OwnP G ao cap l w) (x y : Nat) (u v : Value) (hP : P < G) : PtV ao cap l ((w.setCell ⟨P, x, none⟩ u).setCell ⟨P, y, none⟩ v) := by
  refine ⟨h.1, h.2.1, fun hl => ?_⟩
  obtain ⟨R, off, rfl, h1, h2⟩ := h.2.2 hl
  have hRB : R ≠ P := by
    have h3 := hr.2
    rcases h3 with ⟨_, h0⟩ | ⟨g, cap', cur, he, hb, _⟩
    · exact absurd (List.length_eq_zero_iff.1 h0) hl
    · injection he with e1
      injection e1 with e1
      injection e1 with e1
      omega
  refine ⟨R, off, rfl, by simpa using h1, fun i hi => ?_⟩
  have e : ∀ o, ((w.setCell ⟨P, x, none⟩ u).setCell ⟨P, y, none⟩ v).cell? ⟨R, o, none⟩ = w.cell? ⟨R, o, none⟩ := fun o => by
    rw [World.cell?_setCell_other _ _ _ _ (by intro e; injection e with e; omega), World.cell?_setCell_other _ _ _ _ (by intro e; injection e with e; omega)]
  rw [e, e, e]
  exact h2 i hi
theorem run_one {c : UInt8} {r : List UInt8} {m : Nat} (h : runN c (c :: r) = m) : ∃ m0, m = m0 + 1 ∧ runN c r = m0 := by
  refine ⟨runN c r, ?_, rfl⟩
  rw [← h]
  unfold runN
  rw [List.takeWhile_cons_of_pos (by simp), List.length_cons]
end Go.Proofs.YticckkadmhklmaaDoor
