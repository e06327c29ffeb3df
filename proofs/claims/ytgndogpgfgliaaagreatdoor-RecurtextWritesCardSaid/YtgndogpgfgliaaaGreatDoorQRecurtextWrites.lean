/- The statement RecurtextWrites of chapter 30: for every input the law returns true; each argument reads as before. What is laid in the listed variables is tied to the program's text by the given tie; no condition of our own. -/
import Derived.Test.YtgndogpgfgliaaaGreatDoorQ53
import Derived.Test.YtgndogpgfgliaaaGreatDoorQ29
import Derived.Test.YtgndogpgfgliaaaGreatDoorQ00
import Derived.Test.YtgndogpgfgliaaaGreatDoorQ28
import Derived.Test.YtgndogpgfgliaaaGreatDoorCards
import Derived.Test.YtgndogpgfgliaaaGreatDoorTie
import Derived.SevenTiedAt
import Derived.Below
namespace Go.Proofs.YtgndogpgfgliaaaGreatDoor
open Go Go.ChangeShapes Go.WideShapes Go.ChangeAt Go.WideMaps Go.WideElems Go.RowKit
open Go.ChangeMaps (open_string shut_string)
set_option linter.unusedVariables false
set_option linter.unnecessarySimpa false
def laidL_recurtextWrites : List (String × DataW Unit) := Rows.recurtextWritesRow.laid
theorem lm_of_shaped_recurtextWrites {W : World} (h : W.ShapedOpen Tryz.prog) : Lm W :=
  Go.Proofs.cell_of_shapedOpen_int (zero := #[.int .i64 0]) (t := 3) h (of_decide_eq_true (by kernel_rfl)) (by kernel_rfl) rfl (by kernel_rfl) (by kernel_rfl) Tryz.underlying3
theorem door_met_recurtextWrites (os : Os) (args : Array Value) : laidMetH Tryz.prog laidL_recurtextWrites ((World.laidAll Tryz.prog os laidL_recurtextWrites).forCall (fun _ _ => 0) ⟨#[], args, []⟩).memory := by
  rw [MakeChecks.laidMetH_plain _ _ _ (by kernel_rfl)]
  exact laidMet_laidAll _ (by kernel_rfl) (by kernel_rfl)
theorem door_shaped_recurtextWrites (os : Os) (args : Array Value) : ((World.laidAll Tryz.prog os laidL_recurtextWrites).forCall (fun _ _ => 0) ⟨#[], args, []⟩).Shaped Tryz.prog :=
  World.shaped_of_ZipB (by kernel_rfl) (by kernel_rfl)
set_option maxRecDepth 100000 in
set_option maxHeartbeats 2000000 in
theorem recurtextWrites_lifted (os : Os) (started : os.Started) (H : Type) (enc : TypeId × Value → H) :
    ReturnsInHanded {} Tryz.checked os 3 .any (fun w args => (Rows.recurtextWritesSpec.pre enc Tryz.prog Tryz.f3 [] false w args ∧ laidMetH Tryz.prog laidL_recurtextWrites w) ∧ sizedMet enc Tryz.prog Tryz.f3 (OpenSpec.ofChange Rows.recurtextWritesSpec) false w args)
      (Rows.recurtextWritesSpec.post enc Tryz.prog Tryz.f3 false true false false) := by
  refine returnsIn_shaped_and (C := Tryz.checked) (X := fun w _ => laidMetH Tryz.prog laidL_recurtextWrites w) (fun _ _ _ hh h => h.of_heap hh) own started (by kernel_rfl) Tryz.func3
    (ChangeSpec.witness_shaped (enc := enc) (C := Tryz.checked) (os := os) (X := fun w _ => laidMetH Tryz.prog laidL_recurtextWrites w) false (World.laidAll Tryz.prog os laidL_recurtextWrites) #[.agg #[.int .i64 0, .int .i64 0, .int .i64 0, .int .i64 0, .slice none 0 0, .slice none 0 0, .slice none 0 0, .slice none 0 0, .slice none 0 0, .slice none 0 0, .slice none 0 0, .slice none 0 0, .slice none 0 0, .int .i64 0]] 8 (World.laidAll_os _ _ _) (door_shaped_recurtextWrites os _) (by kernel_rfl) (by kernel_rfl) (by kernel_rfl) (door_met_recurtextWrites os _)) ?_
  intro W base args ds gs before hval0 hW _ _ hL hsh
  have hval : ∀ (j : Nat) t v, Tryz.f3.params[j]? = some t → args[j]? = some v → Value.okWide Tryz.prog W .any base t v := hval0
  have hW' := hW
  obtain ⟨p, q, hA0, hV, rfl, hfz, hnd⟩ := hW
  have hA : DataW.TrodAll enc Tryz.prog W 0 (fun _ => true) true Tryz.f3.params.toList args.toList ds p := hA0
  rw [Tryz.params3] at hA hval
  obtain ⟨v0, vs0, d0, ds0, p0, q0, hargs, rfl, rfl, h0, r0⟩ := trodAll_cons hA
  obtain ⟨rfl, rfl, rfl⟩ := trodAll_nil r0
  obtain rfl : args = #[v0] := by cases args; simp_all
  obtain ⟨rfl, rfl⟩ := trodVars_none hV
  have k0 := h0
  have lt0 : ∀ x ∈ p0, x.block < W.heap.size := by obtain ⟨m, hm⟩ := k0; exact DataW.trod_lt m _ _ _ hm
  obtain ⟨rr0, rfl, rv0⟩ := open_rec (hval 0 25 v0 rfl rfl) h0
  clear hA0 hval0
  refine (writes30_walk rr0 W (lm_of_shaped_recurtextWrites hsh) rv0).mono fun e W' ⟨he, bel⟩ => ?_
  subst he
  have bel : Below W.heap.size W W' := bel
  exact ⟨_, rfl, _, _, _, [], _, [], hW', trodAll_mk1 (shut_bool Tryz.underlying4 _), (trodAll_cons_mk (Below.trod laidOut (by kernel_rfl) (of_decide_eq_true (by kernel_rfl)) k0 bel lt0) trodAll_mk0), rfl, bel.frame _, fun h => by cases h⟩

theorem recurtextWrites_over : Rows.recurtextWritesRow.holds Tryz.pinned (OpenSpec.ofChange Rows.recurtextWritesSpec) :=
  OpenClaim.holds_of_wide 3 Tryz.f3 rfl rfl rfl rfl rfl rfl rfl ⟨rfl, rfl, rfl, rfl, rfl⟩ rfl rfl rfl rfl rfl (by kernel_rfl) Tryz.func3 (by kernel_rfl)
    (of_decide_eq_true (by kernel_rfl)) (by unfold Func.isWrapper; first | (rw [if_pos (by decide +kernel)]; kernel_rfl) | (rw [if_neg (by decide +kernel)]; exact ⟨rfl, rfl⟩))
    (fun os started H enc _ => recurtextWrites_lifted os started H enc)
theorem recurtextWrites_proved : Rows.RecurtextWritesCardSaid :=
  Claim7.holds_tied_plain_at .later [] [.data, .data, .data, .data, .sentinel, .sentinel, .pinned] true Rows.recurtextWritesCard.stood.harness Rows.recurtextWritesCard.stood.looks
    recurtextWrites_over (fun _ h => by cases h) (by kernel_rfl) (fun _ h => by cases h) recurtextWrites_row_tie rfl ⟨rfl, rfl⟩ (by kernel_rfl) rfl
    (fun f fn hf hfn => by
      obtain rfl : f = 3 := Option.some.inj ((show Tryz.prog.funcNamed "civiltime/civiltimelaw30.RecurtextWrites" = some 3 by kernel_rfl).symm.trans hf) |>.symm
      obtain rfl : fn = Tryz.f3 := (Option.some.inj (Tryz.func3.symm.trans hfn)).symm
      exact ⟨by kernel_rfl, fun j t ht => by
        rw [Tryz.params3] at ht
        have hm : t ∈ [25] := by simpa using Array.mem_of_getElem? ht
        have hall : ([25].all fun u => !Tryz.prog.wantsStandIn u) = true := by kernel_rfl
        exact (show Tryz.prog.wantsStandIn t = false by simpa using List.all_eq_true.1 hall t hm)⟩)
    (by kernel_rfl)
#print axioms recurtextWrites_proved
end Go.Proofs.YtgndogpgfgliaaaGreatDoor
