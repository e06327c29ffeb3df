/- Frames: what stays as it was outside some blocks. -/
import Derived.Test.YtbagbnceiadpdaaDoorBase
namespace Go.Proofs.YtbagbnceiadpdaaDoor
open Go.RowKit

/-- Outside S, and apart from what is new, the world w' is as w. -/
structure Frm (S : Nat → Prop) (w w' : World) : Prop where
  os : w'.os = w.os
  tape : w'.tape = w.tape
  output : w'.output = w.output
  size : w.heap.size ≤ w'.heap.size
  block : ∀ k, k < w.heap.size → ¬ S k → w'.heap[k]? = w.heap[k]?
theorem Frm.refl (S : Nat → Prop) (w : World) : Frm S w w := ⟨rfl, rfl, rfl, Nat.le_refl _, fun _ _ _ => rfl⟩
theorem Frm.trans {S : Nat → Prop} {a b c : World} (h : Frm S a b) (k : Frm S b c) : Frm S a c :=
  ⟨k.os.trans h.os, k.tape.trans h.tape, k.output.trans h.output, Nat.le_trans h.size k.size, fun i hi hs => (k.block i (Nat.lt_of_lt_of_le hi h.size) hs).trans (h.block i hi hs)⟩
theorem Frm.mono {S T : Nat → Prop} {a b : World} (h : Frm S a b) (hs : ∀ k, k < a.heap.size → S k → T k) : Frm T a b :=
  ⟨h.os, h.tape, h.output, h.size, fun i hi ht => h.block i hi fun q => ht (hs i hi q)⟩
theorem Frm.of_ext {S : Nat → Prop} {a b : World} (h : Ext a b) : Frm S a b := ⟨h.os, h.tape, h.output, h.size, fun i hi _ => h.block i hi⟩
theorem Frm.ext {S : Nat → Prop} {a b : World} (h : Frm S a b) (hs : ∀ k, S k → a.heap.size ≤ k) : Ext a b :=
  ⟨h.os, h.tape, h.output, h.size, fun i hi => h.block i hi fun q => by have := hs i q; omega⟩
theorem Frm.drewN {S : Nat → Prop} {a b : World} (h : Frm S a b) (n : Nat) : Frm S a (b.drewN n) := ⟨h.os, h.tape, h.output, h.size, h.block⟩
theorem Frm.drew {S : Nat → Prop} {a b : World} (h : Frm S a b) : Frm S a b.drew := ⟨h.os, h.tape, h.output, h.size, h.block⟩
theorem Frm.alloc {S : Nat → Prop} {a b : World} (h : Frm S a b) (o : Obj) : Frm S a (b.alloc o) :=
  h.trans (Frm.of_ext ((Ext.refl b).alloc o))
theorem Frm.setCell {S : Nat → Prop} {a b : World} (h : Frm S a b) {p : Addr} (hp : S p.block ∨ a.heap.size ≤ p.block) (u : Value) : Frm S a (b.setCell p u) :=
  ⟨h.os, h.tape, h.output, by simpa [World.setCell] using h.size, fun i hi hs => (Below.heap_setCell b p u i (by rintro rfl; rcases hp with q | q; exact hs q; omega)).trans (h.block i hi hs)⟩
theorem Frm.grown {S : Nat → Prop} {a b c : World} {row : Option Nat} (h : Frm S a b) (hg : b.grownBy c row) (hr : ∀ k, row = some k → S k ∨ a.heap.size ≤ k) : Frm S a c :=
  ⟨hg.os.trans h.os, hg.tape.trans h.tape, hg.output.trans h.output, Nat.le_trans h.size hg.size, fun i hi hs => (hg.block i (Nat.lt_of_lt_of_le hi h.size) (fun e => by rcases hr i e.symm with q | q; exact hs q; omega)).trans (h.block i hi hs)⟩

theorem Frm.cel {S : Nat → Prop} {w w' : World} (h : Frm S w w') {b : Nat} (hb : b < w.heap.size) (hs : ¬ S b) (o : Nat) : w'.cell? ⟨b, o, none⟩ = w.cell? ⟨b, o, none⟩ := by
  unfold World.cell?
  rw [h.block b hb hs]
theorem Frm.frz {S : Nat → Prop} {w w' : World} (h : Frm S w w') {b : Nat} (hb : b < w.heap.size) (hs : ¬ S b) (o : Nat) : w'.frozen? ⟨b, o, none⟩ = w.frozen? ⟨b, o, none⟩ := by
  unfold World.frozen?
  rw [h.block b hb hs]
theorem Frm.lt {S : Nat → Prop} {w w' : World} (h : Frm S w w') {n : Nat} (hn : n < w.heap.size) : n < w'.heap.size := Nat.lt_of_lt_of_le hn h.size
theorem Frm.far {S : Nat → Prop} {a w w' : World} (hE : Ext a w) (h : Frm S w w') (hS : ∀ k, k < a.heap.size → ¬ S k) : Ext a w' :=
  ⟨h.os.trans hE.os, h.tape.trans hE.tape, h.output.trans hE.output, Nat.le_trans hE.size h.size, fun k hk => (h.block k (Nat.lt_of_lt_of_le hk hE.size) (hS k hk)).trans (hE.block k hk)⟩
end Go.Proofs.YtbagbnceiadpdaaDoor
