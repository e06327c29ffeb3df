/- Recurrence rules: the reference's Part: what a field's store leaves. -/
import Derived.Test.YtgndogpgfgliaaaGreatDoorQ35
import Derived.Test.YtgndogpgfgliaaaGreatDoorQ17
namespace Go.Proofs.YtgndogpgfgliaaaGreatDoor
set_option linter.unusedVariables false
set_option linter.unnecessarySimpa false
set_option linter.unusedSimpArgs false
open Go.RowKit

theorem prt_at (k : Nat) (hk : k < 14) (s : List UInt8) (R : RecD) : prtZ untZ (ptW.getD k []) s R = (match partZ untZ k s R with
    | some R' => .ok R'
    | none => .er 3) := by
  unfold prtZ
  rw [(pt_at k hk).1, if_neg (by omega), show k + 1 - 1 = k by omega]
  cases partZ untZ k s R <;> rfl
/-- The rule in its box, and the result's box behind it. -/
structure RpS (r : Rec) (w W : World) : Prop where
  o : RcO r w.heap.size w W
  t : W.there (w.heap.size + 1) 0 14
  l : w.heap.size + 1 < W.heap.size
theorem RpS.ext {r : Rec} {w W W' : World} (h : RpS r w W) (hE : Ext W W') : RpS r w W' := ⟨h.o.ext hE, thr_ext h.t h.l hE, hE.lt h.l⟩
theorem RpS.init (r : Rec) (w : World) (hV : RcV r w) : RpS r w ((w.alloc (.cells r.vals.toArray 25)).alloc (.cells Rec.zero.vals.toArray 25)) := by
  have hz1 : (w.alloc (.cells r.vals.toArray 25)).heap.size = w.heap.size + 1 := by simp
  have hE : Ext (w.alloc (.cells r.vals.toArray 25)) ((w.alloc (.cells r.vals.toArray 25)).alloc (.cells Rec.zero.vals.toArray 25)) := (Ext.refl _).alloc _
  refine ⟨⟨(RcB.new r w 25).ext hE, hV, (((Ext.refl w).alloc _).trans hE), Nat.le_refl _, fun o => ?_⟩, ?_, by simp⟩
  · exact (hE.frozens _ o (by rw [hz1]; omega)).trans (World.frozen?_alloc_new w r.vals.toArray 25 o)
  · have := thr_new (w.alloc (.cells r.vals.toArray 25)) Rec.zero.vals.toArray 25 14 rfl
    rw [hz1] at this
    exact this
theorem RpS.cell {r : Rec} {w W : World} (h : RpS r w W) {off : Nat} {u : Value} (hu : r.vals[off]? = some u) : W.cell? ⟨w.heap.size, off, none⟩ = some u ∧ W.frozen? ⟨w.heap.size, off, none⟩ = false := ⟨h.o.b.at_ hu, h.o.f off⟩
theorem RpS.lt0 {r : Rec} {w W : World} (h : RpS r w W) : w.heap.size < W.heap.size := by have := h.l; omega
/-- An error, behind a store into the rule's box. -/
theorem rp_er {r : Rec} {nm s : List UInt8} {w W1 : World} (h : RpS r w W1) (c : Nat) (hp : prtZ untZ nm s r.D = .er c) (off : Nat) (u v : Value) (hu : r.vals[off]? = some u) :
    (W1.setCell ⟨w.heap.size, off, none⟩ v).there (w.heap.size + 1) 0 14 ∧ w.heap.size + 1 < (W1.setCell ⟨w.heap.size, off, none⟩ v).heap.size ∧
    ∀ W3, Frm (fun b => b = w.heap.size + 1) (W1.setCell ⟨w.heap.size, off, none⟩ v) W3 → PartR nm s r w (.returned (.tuple #[.agg Rec.zero.vals.toArray, .int .i64 (c : Int)])) W3 := by
  obtain ⟨h1, h2, hO, h4, h5⟩ := RcO.set (v := v) (off := off) h.o (Ext.refl _) hu
  refine ⟨there_frm h.t h.l h4 (by omega), h4.lt h.l, fun W3 hF => ?_⟩
  unfold PartR
  rw [hp]
  refine ⟨rfl, Frm.far h.o.e ((h4.mono (fun b _ (q : b = w.heap.size) => (show b = w.heap.size ∨ b = w.heap.size + 1 from .inl q))).trans (hF.mono (fun b _ q => .inr q))) (fun k hk q => by omega)⟩
theorem rp_er0 {r : Rec} {nm s : List UInt8} {w W1 : World} (h : RpS r w W1) (c : Nat) (hp : prtZ untZ nm s r.D = .er c) :
    ∀ W3, Frm (fun b => b = w.heap.size + 1) W1 W3 → PartR nm s r w (.returned (.tuple #[.agg Rec.zero.vals.toArray, .int .i64 (c : Int)])) W3 := fun W3 hF => by
  unfold PartR
  rw [hp]
  exact ⟨rfl, Frm.far h.o.e hF (fun k hk q => by omega)⟩
/-- A field is set. -/
theorem rp_ok {r r' : Rec} {nm s : List UInt8} {w W1 : World} (h : RpS r w W1) (off : Nat) (u v : Value) (hu : r.vals[off]? = some u) (hv : r'.vals = r.vals.set off v) (hp : prtZ untZ nm s r.D = .ok r'.D)
    (hst : ∀ (F : Nat → Prop) W, (∀ b, F b → b < w.heap.size ∨ b = w.heap.size ∨ b = w.heap.size + 1) → Frm F W1 W → RcV r W → RcV r' W) :
    (W1.setCell ⟨w.heap.size, off, none⟩ v).there (w.heap.size + 1) 0 14 ∧ w.heap.size + 1 < (W1.setCell ⟨w.heap.size, off, none⟩ v).heap.size ∧ (W1.setCell ⟨w.heap.size, off, none⟩ v).rangeAt w.heap.size 0 r'.vals ∧
    ∀ W3, Frm (fun b => b = w.heap.size + 1) (W1.setCell ⟨w.heap.size, off, none⟩ v) W3 → PartR nm s r w (.returned (.tuple #[.agg r'.vals.toArray, .int .i64 0])) W3 := by
  obtain ⟨h1, h2, hO, h4, h5⟩ := RcO.set (v := v) (off := off) h.o (Ext.refl _) hu
  rw [← hv] at h2
  refine ⟨there_frm h.t h.l h4 (by omega), h4.lt h.l, h2, fun W3 hF => ?_⟩
  have hC : Frm (fun b => b = w.heap.size ∨ b = w.heap.size + 1) W1 W3 := (h4.mono (fun b _ (q : b = w.heap.size) => .inl q)).trans (hF.mono (fun b _ q => .inr q))
  have hX : Ext w W3 := Frm.far h.o.e hC (fun k hk q => by omega)
  unfold PartR
  rw [hp]
  refine ⟨r', rfl, rfl, hst _ W3 (fun b q => .inr q) hC (h.o.v.ext hX), hX, fun F f1 f2 W hG => ?_⟩
  have hD : Frm (fun b => F b ∨ (b = w.heap.size ∨ b = w.heap.size + 1)) W1 W := (hC.mono (fun b _ q => .inr q)).trans (hG.mono (fun b _ q => .inl q))
  refine hst _ W (fun b q => ?_) hD (f2 W (Frm.below h.o.e hD (fun k hk q => ?_)))
  · rcases q with q | q
    · exact .inl (f1 b q)
    · exact .inr q
  · rcases q with q | q
    · exact q
    · omega
end Go.Proofs.YtgndogpgfgliaaaGreatDoor
