/- Recurrence rules: the walk of the law RecurtextBack. -/
import Derived.Test.YtgndogpgfgliaaaGreatDoorQ28
import Derived.Test.YtgndogpgfgliaaaGreatDoorQ00
import Derived.ProofKit
import Derived.OpenShut
import Derived.Below
import Derived.LaidMore
import Derived.Lay
import Derived.HandedShaped
import Derived.Shelf.Vars
import Derived.Stop.Joined
namespace Go.Proofs.YtgndogpgfgliaaaGreatDoor
set_option linter.unusedVariables false
set_option linter.unnecessarySimpa false
set_option linter.unusedSimpArgs false
open Go.RowKit

theorem days_of_vld {R : RecD} (h : vldR R = true) : ∀ o ∈ R.da, dayOk o := (vld_rd mom_ok h).1.da
theorem days_len {R : RecD} (h : vldR R = true) : R.da.length ≤ 60 ∧ (daysT R.da).length ≤ 420 := by
  obtain ⟨h1, h2, h3, h4, h5, h6⟩ := vld_parts30 h
  exact ⟨h4, daysT_len h4 h5⟩
theorem par_text {R : RecD} (h : vldR R = true) : parZ untZ vldR (txtZ momT R) = .ok R := by
  have h2 := vld_rd mom_ok h
  rw [par_txt h2.1 vldR h2.2 (Nat.le_trans (txt_len mom_ok h) (by decide)), if_pos h]
theorem utext_no (r : Rec) (w : World) (hV : RcV r w) (hv : vldR r.D = false) : Calls Tryz.prog 13 #[.agg r.vals.toArray] w fun e w' => e = .returned (.tuple #[.string ⟨#[]⟩, .int .i64 1]) ∧ Ext w w' :=
  (utext_c r w hV).mono (fun e w' h => by unfold TextR at h; rw [if_neg (by rw [hv]; decide)] at h; exact h)
theorem utext_yes (r : Rec) (w : World) (hV : RcV r w) (hv : vldR r.D = true) : Calls Tryz.prog 13 #[.agg r.vals.toArray] w fun e w' => e = .returned (.tuple #[.string ⟨(txtZ momT r.D).toArray⟩, .int .i64 0]) ∧ Ext w w' :=
  (utext_c r w hV).mono (fun e w' h => by unfold TextR at h; rw [if_pos hv] at h; exact h)
theorem uparse_txt (R : RecD) (w : World) (hm : Lm w) (hv : vldR R = true) : Calls Tryz.prog 17 #[.string ⟨(txtZ momT R).toArray⟩] w fun e w' => ∃ r' : Rec, r'.D = R ∧ e = .returned (.tuple #[.agg r'.vals.toArray, .int .i64 0]) ∧ RcV r' w' ∧ Ext w w' :=
  (uparse_c _ w hm (Nat.le_trans (txt_len mom_ok hv) (by decide))).mono (fun e w' h => by unfold ParR at h; rw [par_text hv] at h; exact h)
set_option maxRecDepth 100000 in
set_option maxHeartbeats 4000000 in
theorem back30_no (r : Rec) (w : World) (hm : Lm w) (hV : RcV r w) (hv : vldR r.D = false) :
    Calls Tryz.prog 7 #[.agg r.vals.toArray] w fun e w' => e = .returned (.bool true) ∧ Ext w w' := by
  have hE0 : Ext w (w.alloc (.cells r.vals.toArray 25)) := (Ext.refl w).alloc _
  have HE0 := Lib.hid hE0
  have hB := RcB.new r w 25
  have hBr := hB.2
  have hBl := hB.1
  have hRs := rec_size r
  have HVc := Lib.hid (fun W (hE : Ext (w.alloc (.cells r.vals.toArray 25)) W) => uvalid_c r false W ((hV.ext hE0).ext hE) hv)
  have HG := Lib.hid (fun W (hE : Ext (w.alloc (.cells r.vals.toArray 25)) W) => great30_c r (greatR r.D) W ((hV.ext hE0).ext hE) rfl)
  have HA := Lib.hid (awake30_c _ (hm.ext hE0))
  have HT := Lib.hid (fun W (hE : Ext (w.alloc (.cells r.vals.toArray 25)) W) => utext_no r W ((hV.ext hE0).ext hE) hv)
  clear hE0 hB hV hm
  go_enter Tryz.func7, Tryz.ntmps7
  go_upto_region 1 with fail
  generalize w.alloc (.cells r.vals.toArray 25) = W0 at *
  generalize w.heap.size = B at *
  go_upto_region 3 with (go_at_call 11; (with_reducible refine HA.out.mono ?_); rintro e w1 ⟨rfl, hE1⟩)
  have hB1 : RcB r B w1 := RcB.ext ⟨hBl, hBr⟩ hE1
  have hBr1 := hB1.2
  go_wp2_with (first
    | (refine load_midg (by rfl) 25 _ rfl B 0 rfl r.vals _ (by assumption) Tryz.underlying25 rfl hRs ?_)
    | (go_at_call 12; (with_reducible refine (HG.out _ hE1).mono ?_); rintro e w2 ⟨rfl, hE2⟩; have hE2' := hE1.trans hE2; have hBr2 := (hB1.ext hE2).2)
    | (go_at_call 13; (with_reducible refine (HT.out _ (by assumption)).mono ?_); rintro e w3 ⟨rfl, hE3⟩; have hE3' := hE2'.trans hE3; have hBr3 := ((hB1.ext hE2).ext hE3).2)
    | (go_at_call 27; (with_reducible refine (HVc.out _ (by assumption)).mono ?_); rintro e w4 ⟨rfl, hE4⟩; have hE4' := hE3'.trans hE4))
  · go_ret
    exact ⟨rfl, HE0.out.trans (by assumption)⟩
  · go_ret
    exact ⟨rfl, HE0.out.trans (by assumption)⟩
set_option maxRecDepth 100000 in
set_option maxHeartbeats 4000000 in
theorem back30_great (r : Rec) (w : World) (hm : Lm w) (hV : RcV r w) (hg : greatR r.D = true) :
    Calls Tryz.prog 7 #[.agg r.vals.toArray] w fun e w' => e = .returned (.bool true) ∧ Ext w w' := by
  have hE0 : Ext w (w.alloc (.cells r.vals.toArray 25)) := (Ext.refl w).alloc _
  have HE0 := Lib.hid hE0
  have hB := RcB.new r w 25
  have hBr := hB.2
  have hBl := hB.1
  have hRs := rec_size r
  have HG := Lib.hid (fun W (hE : Ext (w.alloc (.cells r.vals.toArray 25)) W) => great30_c r true W ((hV.ext hE0).ext hE) hg)
  have HA := Lib.hid (awake30_c _ (hm.ext hE0))
  clear hE0 hB hV hm hg
  go_enter Tryz.func7, Tryz.ntmps7
  go_upto_region 1 with fail
  generalize w.alloc (.cells r.vals.toArray 25) = W0 at *
  generalize w.heap.size = B at *
  go_upto_region 3 with (go_at_call 11; (with_reducible refine HA.out.mono ?_); rintro e w1 ⟨rfl, hE1⟩)
  have hB1 : RcB r B w1 := RcB.ext ⟨hBl, hBr⟩ hE1
  have hBr1 := hB1.2
  go_wp2_with (first
    | (refine load_midg (by rfl) 25 _ rfl B 0 rfl r.vals _ (by assumption) Tryz.underlying25 rfl hRs ?_)
    | (go_at_call 12; (with_reducible refine (HG.out _ hE1).mono ?_); rintro e w2 ⟨rfl, hE2⟩; have hE2' := hE1.trans hE2))
  go_ret
  exact ⟨rfl, HE0.out.trans hE2'⟩
set_option maxRecDepth 100000 in
set_option maxHeartbeats 8000000 in
theorem back30_yes (r : Rec) (w : World) (hm : Lm w) (hV : RcV r w) (hg : greatR r.D = false) (hv : vldR r.D = true) :
    Calls Tryz.prog 7 #[.agg r.vals.toArray] w fun e w' => e = .returned (.bool true) ∧ Ext w w' := by
  have hE0 : Ext w (w.alloc (.cells r.vals.toArray 25)) := (Ext.refl w).alloc _
  have HE0 := Lib.hid hE0
  have hB := RcB.new r w 25
  have hBr := hB.2
  have hBl := hB.1
  have hRs := rec_size r
  obtain ⟨W0, hW0⟩ : ∃ W0, W0 = w.alloc (.cells r.vals.toArray 25) := ⟨_, rfl⟩
  have HW0 := Lib.hid hW0
  rw [← hW0] at hE0 HE0 hB hBr hBl
  have HVc := Lib.hid (fun W (hE : Ext W0 W) => uvalid_c r true W ((hV.ext hE0).ext hE) hv)
  have HG := Lib.hid (fun W (hE : Ext W0 W) => great30_c r false W ((hV.ext hE0).ext hE) hg)
  have HA := Lib.hid (awake30_c _ (hm.ext hE0))
  have HT := Lib.hid (fun W (hE : Ext W0 W) => utext_yes r W ((hV.ext hE0).ext hE) hv)
  have HP := Lib.hid (fun W (hE : Ext W0 W) => uparse_txt r.D W ((hm.ext hE0).ext hE) hv)
  have HS := Lib.hid (fun (r' : Rec) W (hE : Ext W0 W) (hD : r'.D = r.D) (hV' : RcV r' W) => same30_c r r' true W ((hV.ext hE0).ext hE) hV' (by rw [hD]; exact sameR_iff.2 rfl))
  have HO := Lib.hid (hV.ext hE0).da
  have hdv := days_of_vld hv
  have hdl := days_len hv
  have htl := txt_len mom_ok hv
  have HLm := Lib.hid (hm.ext hE0)
  obtain ⟨-, -, -, -, -, -, -, -, c8, -, -, -, -, -⟩ := hB.all
  obtain ⟨da, hda⟩ : ∃ da, da = r.D.da := ⟨_, rfl⟩
  obtain ⟨tx, htx⟩ : ∃ tx, tx = txtZ momT r.D := ⟨_, rfl⟩
  rw [← hda] at hdv HO c8 hdl
  rw [← htx] at HT HP htl
  have HC8 := Lib.hid (fun W (hE : Ext W0 W) => (hE.cells _ _ hB.1).trans c8)
  have HB := Lib.hid hB
  have Hdv := Lib.hid hdv
  clear hE0 hB hV hm hg hv hW0 hda htx c8 hdv
  go_enter Tryz.func7, Tryz.ntmps7
  go_upto_region 1 with fail
  rw [← HW0.out]
  generalize w.heap.size = B at *
  go_upto_region 3 with (go_at_call 11; (with_reducible refine HA.out.mono ?_); rintro e w1 ⟨rfl, hE1⟩)
  have hB1 : RcB r B w1 := RcB.ext ⟨hBl, hBr⟩ hE1
  have hBr1 := hB1.2
  go_upto_region 8 with (first
    | (refine load_midg (by rfl) 25 _ rfl B 0 rfl r.vals _ (by assumption) Tryz.underlying25 rfl hRs ?_)
    | (go_at_call 12; (with_reducible refine (HG.out _ hE1).mono ?_); rintro e w2 ⟨rfl, hE2⟩; have hE2' := hE1.trans hE2; have hBr2 := (hB1.ext hE2).2)
    | (go_at_call 13; (with_reducible refine (HT.out _ (by assumption)).mono ?_); rintro e w3 ⟨rfl, hE3⟩; have hE3' := hE2'.trans hE3; have hBr3 := ((hB1.ext hE2).ext hE3).2)
    | (go_at_call 27; (with_reducible refine (HVc.out _ (by assumption)).mono ?_); rintro e w4 ⟨rfl, hE4⟩; have hE4' := hE3'.trans hE4))
  clear hBr hBr1 hBr2 hBr3 hB1 hE1 hE2 hE3 hE4 hE2' hE3'
  go_upto_region 9 with (first
    | (go_at_call 17; (with_reducible refine (HP.out _ hE4').mono ?_); rintro e w1 ⟨q, hD, rfl, hV, hE1⟩; have hrs := rec_size q; have hr1 := rec_all1 q; have HD := Lib.hid hD; have HV := Lib.hid hV; clear hD hV; have hTz := thr_new w1 (#[.int .i64 0, .int .i64 0, .int .i64 0, .int .i64 0, .slice none 0 0, .slice none 0 0, .slice none 0 0, .slice none 0 0, .slice none 0 0, .slice none 0 0, .slice none 0 0, .slice none 0 0, .slice none 0 0, .int .i64 0]) 25 14 rfl; have hlz : w1.heap.size < (w1.alloc (.cells #[.int .i64 0, .int .i64 0, .int .i64 0, .int .i64 0, .slice none 0 0, .slice none 0 0, .slice none 0 0, .slice none 0 0, .slice none 0 0, .slice none 0 0, .slice none 0 0, .slice none 0 0, .slice none 0 0, .int .i64 0] 25)).heap.size := by simp)
    | (refine wpList_store_gen (op := ⟨none, .store 25 (.tmp 5) (.tmp 30), _, _, _, _⟩) rfl 25 _ _ rfl w1.heap.size q.vals rfl rfl hlz hTz hrs hr1 ?_; intro W2 hF2 hl2 hr2))
  have hE2 : Ext w1 W2 := Frm.far ((Ext.refl w1).alloc _) hF2 (fun k hk e => by omega)
  have hV2 := HV.out.ext hE2
  have hX2 := hE4'.trans (hE1.trans hE2)
  have HSq := Lib.hid (fun W (hE : Ext W2 W) => HS.out q W (hX2.trans hE) HD.out (hV2.ext hE))
  have hBr2 := (HB.out.ext hX2).2
  clear hF2 hTz hlz hE1 hE2 hV2 hE4'
  generalize w1.heap.size = C at *
  go_upto_region 13 with (first
    | (refine load_midg (by rfl) 25 _ rfl B 0 rfl r.vals _ hBr2 Tryz.underlying25 rfl hRs ?_)
    | (refine load_midg (by rfl) 25 _ rfl C 0 rfl q.vals _ hr2 Tryz.underlying25 rfl hrs ?_)
    | (go_at_call 19; (with_reducible refine (HSq.out _ (Ext.refl _)).mono ?_); rintro e w5 ⟨rfl, hE5⟩; have hX5 := hX2.trans hE5))
  have c8 := HC8.out _ hX5
  have hB5 := hX5.lt hBl
  clear hr2 hBr2 hE5 hX2 hl2
  by_cases h0 : da = []
  · subst h0
    have HDt : Hid (Calls Tryz.prog 25 #[.slice (r.a 4) 0 (r.c 4)] w5 fun e w' => e = .returned (.string ⟨#[]⟩) ∧ Ext w5 w') := udaysT_c [] _ _ [] w5 (HO.out.ext hX5) (fun o h => by cases h) (by decide) (by kernel_rfl)
    have c8' : w5.cell? ⟨B, 8, none⟩ = some (.slice (r.a 4) 0 (r.c 4)) := c8
    clear c8
    go_wp2_with (go_at_call 25; (with_reducible refine HDt.out.mono ?_); rintro e w6 ⟨rfl, hE6⟩)
    go_ret
    exact ⟨rfl, HE0.out.trans (hX5.trans hE6)⟩
  · have hd0 : 0 < da.length := List.length_pos_iff.2 h0
    have HDt := Lib.hid (udaysT_c da _ _ (daysT da) w5 (HO.out.ext hX5) (fun o h => by
      obtain ⟨a, b, c, d⟩ := Hdv.out o h
      unfold i64; omega) (by omega) (daysTx_ok Hdv.out))
    have HDd := Lib.hid (fun W (hE : Ext W0 W) => (udays_c (daysT da) W (HLm.out.ext hE) (by omega)).mono (R' := fun e w' => ∃ ao cap, e = .returned (.tuple #[.slice ao da.length cap, .int .i64 0]) ∧ OsV ao cap da w' ∧ Ext W w') (fun e w' h => by
      unfold DaysR at h
      rw [daysZ_text da h0 Hdv.out] at h
      obtain ⟨ao, cap, h1, h2, -, h3⟩ := h
      exact ⟨ao, cap, h1, h2, h3⟩))
    have HEq := Lib.hid (fun ao cap W (hV : OsV ao cap da W) (hE : Ext W0 W) => eqO_c da da ao (r.a 4) cap (r.c 4) true W hV (HO.out.ext hE) (by simp))
    generalize daysT da = ts at *
    go_wp2_with (first
      | (go_at_call 25; (with_reducible refine HDt.out.mono ?_); rintro e w6 ⟨rfl, hE6⟩; have hX6 := hX5.trans hE6)
      | (go_at_call 22; (with_reducible refine (HDd.out w6 hX6).mono ?_); rintro e w7 ⟨ao7, cap7, rfl, hV7, hE7⟩; have hX7 := hX6.trans hE7; have c87 := HC8.out _ hX7)
      | (go_at_call 24; (with_reducible refine (HEq.out _ _ _ hV7 hX7).mono ?_); rintro e w8 ⟨rfl, hE8⟩; have hX8 := hX7.trans hE8))
    go_ret
    exact ⟨rfl, HE0.out.trans hX8⟩
theorem back30_c (r : Rec) (w : World) (hm : Lm w) (hV : RcV r w) :
    Calls Tryz.prog 7 #[.agg r.vals.toArray] w fun e w' => e = .returned (.bool true) ∧ Ext w w' := by
  rcases Bool.eq_false_or_eq_true (vldR r.D) with hv | hv
  · rcases Bool.eq_false_or_eq_true (greatR r.D) with hg | hg
    · exact back30_great r w hm hV hg
    · exact back30_yes r w hm hV hg hv
  · exact back30_no r w hm hV hv
theorem back30_walk (r : Rec) (w : World) (hm : Lm w) (hV : RcV r w) :
    Calls Tryz.prog 7 #[.agg r.vals.toArray] w fun e w' => e = .returned (.bool true) ∧ Ext w w' := back30_c r w hm hV
end Go.Proofs.YtgndogpgfgliaaaGreatDoor
/- What every frame of this seat uses: no knob is set; the types are laid out. -/
namespace Go.Proofs.YtgndogpgfgliaaaGreatDoor
theorem own : ownKnob Tryz.prog.godebug = none := by kernel_rfl
theorem laidOut : laidOutB Tryz.prog = true := by kernel_rfl
end Go.Proofs.YtgndogpgfgliaaaGreatDoor
/- The kit's wrap for a row with a further condition, handing the world's shape on. -/
namespace Go.Proofs.YtgndogpgfgliaaaGreatDoor
open Go.ChangeShapes Go.WideShapes Go.ChangeAt Go.WideMaps Go.WideElems Go.RowKit

section
variable {H : Type} {enc : TypeId × Value → H}
/-- The kit's wrap for a row with a further condition, handing the world's shape on. -/
theorem returnsIn_shaped_and {a : Assume} {C : Checked} {os : Os} {f : FuncId} {fn : Func} {s : ChangeSpec} {conds : List PathCond} {apart fresh handsOn again : Bool} {X : World → Array Value → Prop}
    (hX : ∀ (w w' : World) (args : Array Value), w.heap = w'.heap → X w args → X w' args)
    (own : ownKnob C.prog.godebug = none) (started : os.Started) (noInit : C.prog.inits.idxOf? f = none) (hfn : C.prog.funcs[f]? = some fn)
    (witness : ∃ (w : World) (tape : Tape) (i : Input), w.os = os ∧ (w.forCall tape i).Shaped C.prog ∧ i.vars = [] ∧ Input.okWide C.prog (w.forCall tape i) .any w.heap.size f i ∧
      ((s.pre enc C.prog fn conds apart (w.forCall tape i).memory i.args ∧ X (w.forCall tape i).memory i.args) ∧ sizedMet enc C.prog fn (OpenSpec.ofChange s) apart (w.forCall tape i).memory i.args) ∧ a.holds C.prog (lone (Frame.enter C.prog f i.args .normal) [] (w.forCall tape i)))
    (contract : ∀ (W : World) (base : Nat) (args : Array Value) (ds gs : List (DataW H)) (before : List MemPlace),
      (∀ (j : Nat) t v, fn.params[j]? = some t → args[j]? = some v → Value.okWide C.prog W .any base t v) →
      DataW.Whole enc C.prog fn.params.toList s.vars apart W args.toList ds gs before →
      conds.all (PathCond.test C.prog ⟨fn.params.toList, ds, s.plain.varTypes C.prog, gs⟩) = true →
      (DataW.weightsEach C.prog (fn.params.toList ++ s.plain.varTypes C.prog) (ds ++ gs)).all (· ≤ reachBytes) = true → X W args →
      W.ShapedOpen C.prog →
      Calls C.prog f args W fun e W' => ∃ v, e = .returned v ∧ s.post enc C.prog fn apart fresh handsOn again W args v W') :
    ReturnsInHanded a C os f .any (fun w args => (s.pre enc C.prog fn conds apart w args ∧ X w args) ∧ sizedMet enc C.prog fn (OpenSpec.ofChange s) apart w args) (s.post enc C.prog fn apart fresh handsOn again) := by
  refine returnsInHanded_of_calls own started noInit witness ?_
  intro w tape i _ hsh _ hok hpre hholds
  obtain ⟨_, _, _, fn', hfn', _, _, _, _, hval⟩ := hok
  have e : fn' = fn := Option.some.inj (hfn'.symm.trans hfn)
  subst e
  obtain ⟨⟨⟨ds, gs, before, hw, hc⟩, hx⟩, hz⟩ := hpre
  have hw' := DataW.Whole.of_heap (w' := w.forCall tape i) (by rfl) hw
  refine (contract (w.forCall tape i) w.heap.size i.args ds gs before hval hw' hc (hz.weights hw) (hX _ _ _ (by rfl) hx) hsh).mono fun e W' ⟨v, he, hp⟩ => ?_
  subst he
  exact ChangeSpec.post_blind hp
end
end Go.Proofs.YtgndogpgfgliaaaGreatDoor
