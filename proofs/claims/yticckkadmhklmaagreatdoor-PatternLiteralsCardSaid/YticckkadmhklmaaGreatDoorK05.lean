/- The walk of english. -/
import Derived.Test.YticckkadmhklmaaGreatDoorK03
import Derived.Test.YticckkadmhklmaaGreatDoorK04
import Derived.Deep.Cut
import Derived.Laws.Tables
namespace Go.Proofs.YticckkadmhklmaaGreatDoor
set_option linter.unusedVariables false
set_option linter.unusedSimpArgs false
open Go.RowKit

theorem there_new (w : World) (C : Array Value) (t : TypeId) (n : Nat) (hn : n = C.size) : (w.alloc (.cells C t)).there w.heap.size 0 n := by
  subst hn
  intro j hj
  constructor
  · rw [Nat.zero_add, World.cell?_alloc_new, Array.getElem?_eq_getElem hj]; rfl
  · rw [World.frozen?_alloc_new]
theorem results_cell {fn : Func} {tmps : Array Value} {w : World} {a : Tmp} {t : TypeId} {v : Value} {p : Addr} (h : fn.results = #[.cell a t]) (hp : tmps.getD a undef = .pointer (some p)) (hl : (loadVar t p).run Tryz.prog w = .ok v w) : (results fn tmps).run Tryz.prog w = .ok v w := by
  unfold results
  rw [h]
  have hp2 : tmps[a]?.getD undef = .pointer (some p) := by rw [← hp]; simp
  simp [hp2, hl, asAddr]
theorem ext_setCells {a w : World} {B : Nat} (h : Ext a w) (hB : a.heap.size ≤ B) : ∀ (vs : List Value) (o : Nat), Ext a (w.setCells B o vs) := by
  intro vs
  induction vs generalizing w with
  | nil => intro o; exact h
  | cons v r ih => intro o; rw [World.setCells]; exact ih (h.setCell hB v) (o + 1)
set_option maxRecDepth 100000 in
set_option maxHeartbeats 1000000 in
theorem english_c (w : World) : Calls Tryz.prog 22 #[] w fun e w' => e = .returned (.agg (sv engN.all).toArray) ∧ Ext w w' := by
  go_enter Tryz.func22, Tryz.ntmps22
  go_upto_region 1 with fail
  have hth := fun C => there_new w C 27
  have hE : ∀ C, Ext w (w.alloc (.cells C 27)) := fun C => (Ext.refl w).alloc _
  go_wp2_with (first
    | (refine wpList_store_mid rfl 27 _ _ rfl w.heap.size 0 (sv engN.all).toArray rfl rfl (hth _ _ (by kernel_rfl)) (by kernel_rfl) (by kernel_rfl) ?_))
  have hr : ((w.alloc (.cells #[Value.string ⟨#[]⟩, Value.string ⟨#[]⟩, Value.string ⟨#[]⟩, Value.string ⟨#[]⟩, Value.string ⟨#[]⟩, Value.string ⟨#[]⟩, Value.string ⟨#[]⟩, Value.string ⟨#[]⟩, Value.string ⟨#[]⟩, Value.string ⟨#[]⟩, Value.string ⟨#[]⟩, Value.string ⟨#[]⟩, Value.string ⟨#[]⟩, Value.string ⟨#[]⟩, Value.string ⟨#[]⟩, Value.string ⟨#[]⟩, Value.string ⟨#[]⟩, Value.string ⟨#[]⟩, Value.string ⟨#[]⟩, Value.string ⟨#[]⟩, Value.string ⟨#[]⟩, Value.string ⟨#[]⟩, Value.string ⟨#[]⟩, Value.string ⟨#[]⟩, Value.string ⟨#[]⟩, Value.string ⟨#[]⟩, Value.string ⟨#[]⟩, Value.string ⟨#[]⟩, Value.string ⟨#[]⟩, Value.string ⟨#[]⟩, Value.string ⟨#[]⟩, Value.string ⟨#[]⟩, Value.string ⟨#[]⟩, Value.string ⟨#[]⟩, Value.string ⟨#[]⟩, Value.string ⟨#[]⟩, Value.string ⟨#[]⟩, Value.string ⟨#[]⟩, Value.string ⟨#[]⟩, Value.string ⟨#[]⟩] 27)).setCells w.heap.size 0 (sv engN.all)).rangeAt w.heap.size 0 (sv engN.all) := World.rangeAt_setCells_same _ _ _ _ (there_new w _ 27 _ (by kernel_rfl))
  refine bodyPost_ret (v := .agg (sv engN.all).toArray) (results_cell rfl rfl (run_loadVar_mid _ _ 0 27 _ _ hr Tryz.underlying27 rfl (names_size eng_ok))) rfl ⟨rfl, ?_⟩
  exact ext_setCells ((Ext.refl w).alloc _) (Nat.le_refl _) _ _
end Go.Proofs.YticckkadmhklmaaGreatDoor
