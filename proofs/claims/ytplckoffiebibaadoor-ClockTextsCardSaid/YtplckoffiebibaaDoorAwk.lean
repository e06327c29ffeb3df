/- The walk of awake: the chapter's examples. -/
import Derived.Test.YtplckoffiebibaaDoorPDur
import Derived.Test.YtplckoffiebibaaDoorTxt4
namespace Go.Proofs.YtplckoffiebibaaDoor
open Go.RowKit

theorem mom_1772323199 {y m d : Int} (h : IsDate (1772323199 / 86400) y m d) : momv 1772323199 y m d = .agg #[.int .i64 2026, .int .i64 2, .int .i64 28, .int .i64 23, .int .i64 59, .int .i64 59] := by
  have h2 : IsDate (1772323199 / 86400) 2026 2 28 := ⟨by decide, by decide⟩
  obtain ⟨rfl, rfl, rfl⟩ := h.inj h2
  rfl
theorem mtx_awake : mtx 2026 2 28 23 59 59 = [50, 48, 50, 54, 45, 48, 50, 45, 50, 56, 84, 50, 51, 58, 53, 57, 58, 53, 57] := by decide
theorem parD_awake : parD [80, 84, 57, 48, 77] = (5400, 0) := by decide
theorem durT_awake : durT 172805 = [80, 50, 68, 84, 53, 83] := by
  unfold durT durP tpr prt
  rw [if_neg (by decide)]
  simp [Lib.decDigits_one]
theorem rnd_awake : rndV 100 60 3 = 120 ∧ rndE 100 60 3 = 0 := by decide

set_option maxRecDepth 100000 in
set_option maxHeartbeats 1000000 in
theorem awake_c (w : World) (hL : Laid w) : Calls Tryd.prog 13 #[] w fun e w' => e = .returned (.bool true) ∧ Ext w w' := by
  have HL := Lib.hid hL
  clear hL
  go_enter Tryd.func13, Tryd.ntmps13
  go_wp2_with (first
    | (go_at_call 26; refine (moment_yes _ _ (by decide)).mono ?_; rintro e w1 ⟨y, m, d, rfl, hD, hE1⟩; rw [mom_1772323199 hD]; clear hD; have hL1 := Lib.hid (HL.out.ext hE1))
    | (go_at_call 34; refine (pd_c [80, 84, 57, 48, 77] _ (hL1.out.ext ((Ext.refl _).alloc _)) (by decide)).mono ?_; rw [parD_awake]; rintro e w2 ⟨rfl, hE2⟩; have hc2 := hE2.cells; have hz2 : w1.heap.size < w2.heap.size := (by have := hE2.size; simp at this; omega); have hL2 := Lib.hid (hL1.out.ext (((Ext.refl _).alloc _).trans hE2)))
    | (go_at_call 38; refine (round_c _ _ _ _).mono ?_; rw [rnd_awake.1, rnd_awake.2]; rintro e w3 ⟨rfl, nq, rfl⟩)
    | (go_at_call 40; refine (mtext_yes _ _ _ _ _ _ _ (by decide) (by decide)).mono ?_; rw [mtx_awake]; rintro e w4 ⟨rfl, hE4⟩)
    | (go_at_call 31; refine (dur_c _ _ (hL2.out.ext (((Ext.refl _).drewN _).trans hE4))).mono ?_; rw [durT_awake]; rintro e w5 ⟨rfl, hE5⟩))
  go_ret
  exact ⟨rfl, hE1.trans (((Ext.refl _).alloc _).trans (hE2.trans (((Ext.refl _).drewN _).trans (hE4.trans hE5))))⟩
end Go.Proofs.YtplckoffiebibaaDoor
