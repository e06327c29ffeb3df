/- Patterns: the walk of Lossless, whole. -/
import Derived.Test.YticckkadmhklmaaGreatDoorK21
import Derived.Test.YticckkadmhklmaaGreatDoorK22
import Derived.Test.YticckkadmhklmaaGreatDoorK23
import Derived.Test.YticckkadmhklmaaGreatDoorK05
import Derived.Test.YticckkadmhklmaaGreatDoorK08
import Derived.Test.YticckkadmhklmaaGreatDoorK19
namespace Go.Proofs.YticckkadmhklmaaGreatDoor
set_option linter.unusedVariables false
set_option linter.unusedSimpArgs false

theorem lossless_c (l : List Prt) (ao : Option Addr) (cap : Nat) (w : World) (h : PtV ao cap l w) (hl : ∀ p ∈ l, p.t.length ≤ 4000) :
    Calls Tryz.prog 15 #[.slice ao l.length cap] w fun e w' => e = .returned (.bool (losB l)) ∧ Ext w w' := by
  rcases Bool.eq_false_or_eq_true (validB l && hasK l [2] && hasK l [3, 4, 5] && hasK l [6] && (hasK l [9] || (hasK l [10] && hasK l [13])) && hasK l [11] && hasK l [12]) with q | q
  · have e : losB l = losL l := by
      show (validB l && hasK l [2] && hasK l [3, 4, 5] && hasK l [6] && (hasK l [9] || (hasK l [10] && hasK l [13])) && hasK l [11] && hasK l [12] && losL l) = losL l
      rw [q]; rfl
    rw [e]
    simp only [Bool.and_eq_true, Bool.or_eq_true] at q
    obtain ⟨⟨⟨⟨⟨⟨a1, a2⟩, a3⟩, a4⟩, a5⟩, a8⟩, a9⟩ := q
    cases e9 : hasK l [9] with
    | true => exact loss_y9 l ao cap w h hl a1 a2 a3 a4 e9 a8 a9
    | false =>
      rw [e9] at a5
      obtain ⟨a6, a7⟩ : hasK l [10] = true ∧ hasK l [13] = true := by simpa using a5
      exact loss_y10 l ao cap w h hl a1 a2 a3 a4 e9 a6 a7 a8 a9
  · have e : losB l = false := by
      show (validB l && hasK l [2] && hasK l [3, 4, 5] && hasK l [6] && (hasK l [9] || (hasK l [10] && hasK l [13])) && hasK l [11] && hasK l [12] && losL l) = false
      rw [q]; rfl
    rw [e]
    exact loss_no l ao cap w h hl q
end Go.Proofs.YticckkadmhklmaaGreatDoor
/- The walk of awake of chapter 54. -/
namespace Go.Proofs.YticckkadmhklmaaGreatDoor
set_option linter.unusedVariables false
set_option linter.unusedSimpArgs false
open Go.RowKit

theorem ex_texts : ∀ p ∈ exL, p.t.length ≤ 4000 := by
  have : exL.all (fun p => decide (p.t.length ≤ 4000)) = true := by kernel_rfl
  intro s hs
  simpa using List.all_eq_true.1 this s hs
theorem ex_com (w : World) : Calls Tryz.prog 18 #[.string ⟨#[69, 69, 69, 44, 32, 100, 32, 77, 77, 77, 32, 121, 121, 121, 121, 32, 72, 72, 58, 109, 109, 58, 115, 115]⟩] w fun e w' => ∃ ao cap, e = .returned (.tuple #[.slice ao 13 cap, .agg #[.int .i64 0, .int .i64 0], .int .i64 0]) ∧ PtV ao cap exL w' ∧ Ext w w' := by
  have q := compile_c exPat w (by decide)
  rw [ex_cmp] at q
  exact q
theorem ex_for (ao : Option Addr) (cap : Nat) (w : World) (h : PtV ao cap exL w) : Calls Tryz.prog 21 #[.slice ao 13 cap, .agg (sv engN.all).toArray, .int .i64 1772323199, .agg #[.int .i64 0, .int .i64 0, .string ⟨#[85, 84, 67]⟩]] w fun e w' => e = .returned (.tuple #[.string ⟨#[83, 97, 116, 44, 32, 50, 56, 32, 70, 101, 98, 32, 50, 48, 50, 54, 32, 50, 51, 58, 53, 57, 58, 53, 57]⟩, .int .i64 0]) ∧ Ext w w' := by
  have q := format_ok exL engN exF 0 0 1772323199 [85, 84, 67] ao cap w h ex_texts eng_ok eng_len ex_valid eng_nm (by decide) (by decide) (by decide) (by kernel_rfl) ex_isF
  rw [ex_fmt] at q
  exact q
theorem ex_par (ao : Option Addr) (cap : Nat) (w : World) (h : PtV ao cap exL w) : Calls Tryz.prog 23 #[.slice ao 13 cap, .agg (sv engN.all).toArray, .string ⟨#[83, 97, 116, 44, 32, 50, 56, 32, 70, 101, 98, 32, 50, 48, 50, 54, 32, 50, 51, 58, 53, 57, 58, 53, 57]⟩] w fun e w' => e = .returned (.tuple #[.int .i64 1772323199, .agg #[.int .i64 0, .int .i64 0], .int .i64 0]) ∧ Ext w w' := by
  have q := parse_c exL engN exS ao cap w h ex_texts eng_ok eng_len (by decide)
  unfold PrsR at q
  rw [ex_prs] at q
  exact q
theorem ex_loss (ao : Option Addr) (cap : Nat) (w : World) (h : PtV ao cap exL w) : Calls Tryz.prog 15 #[.slice ao 13 cap] w fun e w' => e = .returned (.bool true) ∧ Ext w w' := by
  have q := lossless_c exL ao cap w h ex_texts
  rw [ex_los] at q
  exact q
set_option maxRecDepth 100000 in
set_option maxHeartbeats 1000000 in
theorem awake_c (w : World) : Calls Tryz.prog 5 #[] w fun e w' => e = .returned (.bool true) ∧ Ext w w' := by
  go_enter Tryz.func5, Tryz.ntmps5
  go_wp2_with (first
    | (go_at_call 18; (with_reducible refine (ex_com _).mono ?_); rintro e w1 ⟨ao, cap, rfl, hP, hE1⟩; have HP := Lib.hid hP; have HE1 := Lib.hid hE1; clear hP hE1)
    | (go_at_call 22; (with_reducible refine (english_c _).mono ?_); rintro e w2 ⟨rfl, hE2⟩; have hX := Ext.trans (show Ext w1 _ from (by (repeat (with_reducible (first | assumption | exact Ext.refl _ | refine Ext.alloc ?_ _ | refine Ext.drewN ?_ _ | refine Ext.drew ?_))))) hE2; clear hE2)
    | (go_at_call 21; (with_reducible refine (ex_for ao cap _ (HP.out.ext (by (repeat (with_reducible (first | assumption | exact Ext.refl _ | refine Ext.alloc ?_ _ | refine Ext.drewN ?_ _ | refine Ext.drew ?_)))))).mono ?_); rintro e w3 ⟨rfl, hE3⟩; have hX := Ext.trans (show Ext w1 _ from (by (repeat (with_reducible (first | assumption | exact Ext.refl _ | refine Ext.alloc ?_ _ | refine Ext.drewN ?_ _ | refine Ext.drew ?_))))) hE3; clear hE3)
    | (go_at_call 23; (with_reducible refine (ex_par ao cap _ (HP.out.ext (by (repeat (with_reducible (first | assumption | exact Ext.refl _ | refine Ext.alloc ?_ _ | refine Ext.drewN ?_ _ | refine Ext.drew ?_)))))).mono ?_); rintro e w4 ⟨rfl, hE4⟩; have hX := Ext.trans (show Ext w1 _ from (by (repeat (with_reducible (first | assumption | exact Ext.refl _ | refine Ext.alloc ?_ _ | refine Ext.drewN ?_ _ | refine Ext.drew ?_))))) hE4; clear hE4)
    | (go_at_call 15; (with_reducible refine (ex_loss ao cap _ (HP.out.ext (by (repeat (with_reducible (first | assumption | exact Ext.refl _ | refine Ext.alloc ?_ _ | refine Ext.drewN ?_ _ | refine Ext.drew ?_)))))).mono ?_); rintro e w5 ⟨rfl, hE5⟩; have hX := Ext.trans (show Ext w1 _ from (by (repeat (with_reducible (first | assumption | exact Ext.refl _ | refine Ext.alloc ?_ _ | refine Ext.drewN ?_ _ | refine Ext.drew ?_))))) hE5; clear hE5)
    | go_in)
  go_ret
  exact ⟨rfl, HE1.out.trans (by (repeat (with_reducible (first | assumption | exact Ext.refl _ | refine Ext.alloc ?_ _ | refine Ext.drewN ?_ _ | refine Ext.drew ?_))))⟩
end Go.Proofs.YticckkadmhklmaaGreatDoor
