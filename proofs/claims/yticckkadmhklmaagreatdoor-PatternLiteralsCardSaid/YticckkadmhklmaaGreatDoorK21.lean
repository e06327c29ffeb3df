/- Patterns: the walk of Lossless. -/
import Derived.Test.YticckkadmhklmaaGreatDoorK20
import Derived.Test.YticckkadmhklmaaGreatDoorK14
namespace Go.Proofs.YticckkadmhklmaaGreatDoor
set_option linter.unusedVariables false
set_option linter.unusedSimpArgs false
open Go.RowKit

theorem losB_of (l : List Prt) (v h2 h3 h6 h9 h10 h13 h11 h12 : Bool) (a1 : validB l = v) (a2 : hasK l [2] = h2) (a3 : hasK l [3, 4, 5] = h3) (a4 : hasK l [6] = h6) (a5 : hasK l [9] = h9) (a6 : hasK l [10] = h10) (a7 : hasK l [13] = h13) (a8 : hasK l [11] = h11) (a9 : hasK l [12] = h12) :
    losB l = (v && h2 && h3 && h6 && (h9 || (h10 && h13)) && h11 && h12 && losL l) := by
  unfold losB; rw [a1, a2, a3, a4, a5, a6, a7, a8, a9]
set_option maxRecDepth 100000 in
set_option maxHeartbeats 2000000 in
theorem loss_no (l : List Prt) (ao : Option Addr) (cap : Nat) (w : World) (h : PtV ao cap l w) (hl : ∀ p ∈ l, p.t.length ≤ 4000)
    (hno : (validB l && hasK l [2] && hasK l [3, 4, 5] && hasK l [6] && (hasK l [9] || (hasK l [10] && hasK l [13])) && hasK l [11] && hasK l [12]) = false) :
    Calls Tryz.prog 15 #[.slice ao l.length cap] w fun e w' => e = .returned (.bool false) ∧ Ext w w' := by
  have hEW : Ext w (w.alloc (.cells #[.slice ao l.length cap] 22)) := (Ext.refl w).alloc _
  have hT : (w.alloc (.cells #[.slice ao l.length cap] 22)).cell? ⟨w.heap.size, 0, none⟩ = some (.slice ao l.length cap) := by rw [World.cell?_alloc_new]; rfl
  have hTl : w.heap.size < (w.alloc (.cells #[.slice ao l.length cap] 22)).heap.size := by simp
  have Hl := Lib.hid hl
  have HPt := Lib.hid h
  have H := h
  obtain ⟨v, a1⟩ : ∃ v, validB l = v := ⟨_, rfl⟩
  obtain ⟨h2, a2⟩ : ∃ v, hasK l [2] = v := ⟨_, rfl⟩
  obtain ⟨h3, a3⟩ : ∃ v, hasK l [3, 4, 5] = v := ⟨_, rfl⟩
  obtain ⟨h6, a4⟩ : ∃ v, hasK l [6] = v := ⟨_, rfl⟩
  obtain ⟨h9, a5⟩ : ∃ v, hasK l [9] = v := ⟨_, rfl⟩
  obtain ⟨h10, a6⟩ : ∃ v, hasK l [10] = v := ⟨_, rfl⟩
  obtain ⟨h13, a7⟩ : ∃ v, hasK l [13] = v := ⟨_, rfl⟩
  obtain ⟨h11, a8⟩ : ∃ v, hasK l [11] = v := ⟨_, rfl⟩
  obtain ⟨h12, a9⟩ : ∃ v, hasK l [12] = v := ⟨_, rfl⟩
  rw [a1, a2, a3, a4, a5, a6, a7, a8, a9] at hno
  have A1 := Lib.hid a1
  have A2 := Lib.hid a2
  have A3 := Lib.hid a3
  have A4 := Lib.hid a4
  have A5 := Lib.hid a5
  have A6 := Lib.hid a6
  have A7 := Lib.hid a7
  have A8 := Lib.hid a8
  have A9 := Lib.hid a9
  clear hl h H a1 a2 a3 a4 a5 a6 a7 a8 a9
  cases v
  · clear hno
    go_enter Tryz.func15, Tryz.ntmps15
    go_upto_region 2 with fail
    generalize w.alloc (.cells #[.slice ao l.length cap] 22) = W0 at hEW hT hTl ⊢
    generalize w.heap.size = T at hT hTl ⊢
    have hEc := Ext.refl W0
    go_upto_region 3 with (first
      | (go_at_call 29; (with_reducible refine (valid_lit l _ ao cap _ (HPt.out.ext hEW) Hl.out A1.out).mono ?_); rintro e w1 ⟨rfl, hE1⟩; have hEc := Ext.trans ‹Ext W0 _› hE1; have hTc := (Ext.cells ‹Ext W0 _› _ 0 hTl).trans hT; clear hE1)
      | (go_at_call 41; (with_reducible refine (has1 l ao cap T 2 _ _ (HPt.out.ext (hEW.trans ‹Ext W0 _›)) ((Ext.cells ‹Ext W0 _› _ _ hTl).trans hT) (Ext.lt ‹Ext W0 _› hTl) A2.out).mono ?_); rintro e wn ⟨rfl, hE1⟩; have hEc := Ext.trans ‹Ext W0 _› hE1; clear hE1)
      | (go_at_call 41; (with_reducible refine (has3 l ao cap T 3 4 5 _ _ (HPt.out.ext (hEW.trans ‹Ext W0 _›)) ((Ext.cells ‹Ext W0 _› _ _ hTl).trans hT) (Ext.lt ‹Ext W0 _› hTl) A3.out).mono ?_); rintro e wn ⟨rfl, hE1⟩; have hEc := Ext.trans ‹Ext W0 _› hE1; clear hE1)
      | (go_at_call 41; (with_reducible refine (has1 l ao cap T 6 _ _ (HPt.out.ext (hEW.trans ‹Ext W0 _›)) ((Ext.cells ‹Ext W0 _› _ _ hTl).trans hT) (Ext.lt ‹Ext W0 _› hTl) A4.out).mono ?_); rintro e wn ⟨rfl, hE1⟩; have hEc := Ext.trans ‹Ext W0 _› hE1; clear hE1)
      | (go_at_call 41; (with_reducible refine (has1 l ao cap T 9 _ _ (HPt.out.ext (hEW.trans ‹Ext W0 _›)) ((Ext.cells ‹Ext W0 _› _ _ hTl).trans hT) (Ext.lt ‹Ext W0 _› hTl) A5.out).mono ?_); rintro e wn ⟨rfl, hE1⟩; have hEc := Ext.trans ‹Ext W0 _› hE1; clear hE1)
      | (go_at_call 41; (with_reducible refine (has1 l ao cap T 10 _ _ (HPt.out.ext (hEW.trans ‹Ext W0 _›)) ((Ext.cells ‹Ext W0 _› _ _ hTl).trans hT) (Ext.lt ‹Ext W0 _› hTl) A6.out).mono ?_); rintro e wn ⟨rfl, hE1⟩; have hEc := Ext.trans ‹Ext W0 _› hE1; clear hE1)
      | (go_at_call 41; (with_reducible refine (has1 l ao cap T 13 _ _ (HPt.out.ext (hEW.trans ‹Ext W0 _›)) ((Ext.cells ‹Ext W0 _› _ _ hTl).trans hT) (Ext.lt ‹Ext W0 _› hTl) A7.out).mono ?_); rintro e wn ⟨rfl, hE1⟩; have hEc := Ext.trans ‹Ext W0 _› hE1; clear hE1)
      | (go_at_call 41; (with_reducible refine (has1 l ao cap T 11 _ _ (HPt.out.ext (hEW.trans ‹Ext W0 _›)) ((Ext.cells ‹Ext W0 _› _ _ hTl).trans hT) (Ext.lt ‹Ext W0 _› hTl) A8.out).mono ?_); rintro e wn ⟨rfl, hE1⟩; have hEc := Ext.trans ‹Ext W0 _› hE1; clear hE1)
      | (go_at_call 41; (with_reducible refine (has1 l ao cap T 12 _ _ (HPt.out.ext (hEW.trans ‹Ext W0 _›)) ((Ext.cells ‹Ext W0 _› _ _ hTl).trans hT) (Ext.lt ‹Ext W0 _› hTl) A9.out).mono ?_); rintro e wn ⟨rfl, hE1⟩; have hEc := Ext.trans ‹Ext W0 _› hE1; clear hE1)
      | go_in)
    go_wp2_with fail
    go_ret
    exact ⟨rfl, hEW.trans ‹Ext W0 _›⟩
  · cases h2
    · clear hno
      go_enter Tryz.func15, Tryz.ntmps15
      go_upto_region 2 with fail
      generalize w.alloc (.cells #[.slice ao l.length cap] 22) = W0 at hEW hT hTl ⊢
      generalize w.heap.size = T at hT hTl ⊢
      have hEc := Ext.refl W0
      go_upto_region 3 with (first
        | (go_at_call 29; (with_reducible refine (valid_lit l _ ao cap _ (HPt.out.ext hEW) Hl.out A1.out).mono ?_); rintro e w1 ⟨rfl, hE1⟩; have hEc := Ext.trans ‹Ext W0 _› hE1; have hTc := (Ext.cells ‹Ext W0 _› _ 0 hTl).trans hT; clear hE1)
        | (go_at_call 41; (with_reducible refine (has1 l ao cap T 2 _ _ (HPt.out.ext (hEW.trans ‹Ext W0 _›)) ((Ext.cells ‹Ext W0 _› _ _ hTl).trans hT) (Ext.lt ‹Ext W0 _› hTl) A2.out).mono ?_); rintro e wn ⟨rfl, hE1⟩; have hEc := Ext.trans ‹Ext W0 _› hE1; clear hE1)
        | (go_at_call 41; (with_reducible refine (has3 l ao cap T 3 4 5 _ _ (HPt.out.ext (hEW.trans ‹Ext W0 _›)) ((Ext.cells ‹Ext W0 _› _ _ hTl).trans hT) (Ext.lt ‹Ext W0 _› hTl) A3.out).mono ?_); rintro e wn ⟨rfl, hE1⟩; have hEc := Ext.trans ‹Ext W0 _› hE1; clear hE1)
        | (go_at_call 41; (with_reducible refine (has1 l ao cap T 6 _ _ (HPt.out.ext (hEW.trans ‹Ext W0 _›)) ((Ext.cells ‹Ext W0 _› _ _ hTl).trans hT) (Ext.lt ‹Ext W0 _› hTl) A4.out).mono ?_); rintro e wn ⟨rfl, hE1⟩; have hEc := Ext.trans ‹Ext W0 _› hE1; clear hE1)
        | (go_at_call 41; (with_reducible refine (has1 l ao cap T 9 _ _ (HPt.out.ext (hEW.trans ‹Ext W0 _›)) ((Ext.cells ‹Ext W0 _› _ _ hTl).trans hT) (Ext.lt ‹Ext W0 _› hTl) A5.out).mono ?_); rintro e wn ⟨rfl, hE1⟩; have hEc := Ext.trans ‹Ext W0 _› hE1; clear hE1)
        | (go_at_call 41; (with_reducible refine (has1 l ao cap T 10 _ _ (HPt.out.ext (hEW.trans ‹Ext W0 _›)) ((Ext.cells ‹Ext W0 _› _ _ hTl).trans hT) (Ext.lt ‹Ext W0 _› hTl) A6.out).mono ?_); rintro e wn ⟨rfl, hE1⟩; have hEc := Ext.trans ‹Ext W0 _› hE1; clear hE1)
        | (go_at_call 41; (with_reducible refine (has1 l ao cap T 13 _ _ (HPt.out.ext (hEW.trans ‹Ext W0 _›)) ((Ext.cells ‹Ext W0 _› _ _ hTl).trans hT) (Ext.lt ‹Ext W0 _› hTl) A7.out).mono ?_); rintro e wn ⟨rfl, hE1⟩; have hEc := Ext.trans ‹Ext W0 _› hE1; clear hE1)
        | (go_at_call 41; (with_reducible refine (has1 l ao cap T 11 _ _ (HPt.out.ext (hEW.trans ‹Ext W0 _›)) ((Ext.cells ‹Ext W0 _› _ _ hTl).trans hT) (Ext.lt ‹Ext W0 _› hTl) A8.out).mono ?_); rintro e wn ⟨rfl, hE1⟩; have hEc := Ext.trans ‹Ext W0 _› hE1; clear hE1)
        | (go_at_call 41; (with_reducible refine (has1 l ao cap T 12 _ _ (HPt.out.ext (hEW.trans ‹Ext W0 _›)) ((Ext.cells ‹Ext W0 _› _ _ hTl).trans hT) (Ext.lt ‹Ext W0 _› hTl) A9.out).mono ?_); rintro e wn ⟨rfl, hE1⟩; have hEc := Ext.trans ‹Ext W0 _› hE1; clear hE1)
        | go_in)
      go_wp2_with fail
      go_ret
      exact ⟨rfl, hEW.trans ‹Ext W0 _›⟩
    · cases h3
      · clear hno
        go_enter Tryz.func15, Tryz.ntmps15
        go_upto_region 2 with fail
        generalize w.alloc (.cells #[.slice ao l.length cap] 22) = W0 at hEW hT hTl ⊢
        generalize w.heap.size = T at hT hTl ⊢
        have hEc := Ext.refl W0
        go_upto_region 3 with (first
          | (go_at_call 29; (with_reducible refine (valid_lit l _ ao cap _ (HPt.out.ext hEW) Hl.out A1.out).mono ?_); rintro e w1 ⟨rfl, hE1⟩; have hEc := Ext.trans ‹Ext W0 _› hE1; have hTc := (Ext.cells ‹Ext W0 _› _ 0 hTl).trans hT; clear hE1)
          | (go_at_call 41; (with_reducible refine (has1 l ao cap T 2 _ _ (HPt.out.ext (hEW.trans ‹Ext W0 _›)) ((Ext.cells ‹Ext W0 _› _ _ hTl).trans hT) (Ext.lt ‹Ext W0 _› hTl) A2.out).mono ?_); rintro e wn ⟨rfl, hE1⟩; have hEc := Ext.trans ‹Ext W0 _› hE1; clear hE1)
          | (go_at_call 41; (with_reducible refine (has3 l ao cap T 3 4 5 _ _ (HPt.out.ext (hEW.trans ‹Ext W0 _›)) ((Ext.cells ‹Ext W0 _› _ _ hTl).trans hT) (Ext.lt ‹Ext W0 _› hTl) A3.out).mono ?_); rintro e wn ⟨rfl, hE1⟩; have hEc := Ext.trans ‹Ext W0 _› hE1; clear hE1)
          | (go_at_call 41; (with_reducible refine (has1 l ao cap T 6 _ _ (HPt.out.ext (hEW.trans ‹Ext W0 _›)) ((Ext.cells ‹Ext W0 _› _ _ hTl).trans hT) (Ext.lt ‹Ext W0 _› hTl) A4.out).mono ?_); rintro e wn ⟨rfl, hE1⟩; have hEc := Ext.trans ‹Ext W0 _› hE1; clear hE1)
          | (go_at_call 41; (with_reducible refine (has1 l ao cap T 9 _ _ (HPt.out.ext (hEW.trans ‹Ext W0 _›)) ((Ext.cells ‹Ext W0 _› _ _ hTl).trans hT) (Ext.lt ‹Ext W0 _› hTl) A5.out).mono ?_); rintro e wn ⟨rfl, hE1⟩; have hEc := Ext.trans ‹Ext W0 _› hE1; clear hE1)
          | (go_at_call 41; (with_reducible refine (has1 l ao cap T 10 _ _ (HPt.out.ext (hEW.trans ‹Ext W0 _›)) ((Ext.cells ‹Ext W0 _› _ _ hTl).trans hT) (Ext.lt ‹Ext W0 _› hTl) A6.out).mono ?_); rintro e wn ⟨rfl, hE1⟩; have hEc := Ext.trans ‹Ext W0 _› hE1; clear hE1)
          | (go_at_call 41; (with_reducible refine (has1 l ao cap T 13 _ _ (HPt.out.ext (hEW.trans ‹Ext W0 _›)) ((Ext.cells ‹Ext W0 _› _ _ hTl).trans hT) (Ext.lt ‹Ext W0 _› hTl) A7.out).mono ?_); rintro e wn ⟨rfl, hE1⟩; have hEc := Ext.trans ‹Ext W0 _› hE1; clear hE1)
          | (go_at_call 41; (with_reducible refine (has1 l ao cap T 11 _ _ (HPt.out.ext (hEW.trans ‹Ext W0 _›)) ((Ext.cells ‹Ext W0 _› _ _ hTl).trans hT) (Ext.lt ‹Ext W0 _› hTl) A8.out).mono ?_); rintro e wn ⟨rfl, hE1⟩; have hEc := Ext.trans ‹Ext W0 _› hE1; clear hE1)
          | (go_at_call 41; (with_reducible refine (has1 l ao cap T 12 _ _ (HPt.out.ext (hEW.trans ‹Ext W0 _›)) ((Ext.cells ‹Ext W0 _› _ _ hTl).trans hT) (Ext.lt ‹Ext W0 _› hTl) A9.out).mono ?_); rintro e wn ⟨rfl, hE1⟩; have hEc := Ext.trans ‹Ext W0 _› hE1; clear hE1)
          | go_in)
        go_wp2_with fail
        go_ret
        exact ⟨rfl, hEW.trans ‹Ext W0 _›⟩
      · cases h6
        · clear hno
          go_enter Tryz.func15, Tryz.ntmps15
          go_upto_region 2 with fail
          generalize w.alloc (.cells #[.slice ao l.length cap] 22) = W0 at hEW hT hTl ⊢
          generalize w.heap.size = T at hT hTl ⊢
          have hEc := Ext.refl W0
          go_upto_region 3 with (first
            | (go_at_call 29; (with_reducible refine (valid_lit l _ ao cap _ (HPt.out.ext hEW) Hl.out A1.out).mono ?_); rintro e w1 ⟨rfl, hE1⟩; have hEc := Ext.trans ‹Ext W0 _› hE1; have hTc := (Ext.cells ‹Ext W0 _› _ 0 hTl).trans hT; clear hE1)
            | (go_at_call 41; (with_reducible refine (has1 l ao cap T 2 _ _ (HPt.out.ext (hEW.trans ‹Ext W0 _›)) ((Ext.cells ‹Ext W0 _› _ _ hTl).trans hT) (Ext.lt ‹Ext W0 _› hTl) A2.out).mono ?_); rintro e wn ⟨rfl, hE1⟩; have hEc := Ext.trans ‹Ext W0 _› hE1; clear hE1)
            | (go_at_call 41; (with_reducible refine (has3 l ao cap T 3 4 5 _ _ (HPt.out.ext (hEW.trans ‹Ext W0 _›)) ((Ext.cells ‹Ext W0 _› _ _ hTl).trans hT) (Ext.lt ‹Ext W0 _› hTl) A3.out).mono ?_); rintro e wn ⟨rfl, hE1⟩; have hEc := Ext.trans ‹Ext W0 _› hE1; clear hE1)
            | (go_at_call 41; (with_reducible refine (has1 l ao cap T 6 _ _ (HPt.out.ext (hEW.trans ‹Ext W0 _›)) ((Ext.cells ‹Ext W0 _› _ _ hTl).trans hT) (Ext.lt ‹Ext W0 _› hTl) A4.out).mono ?_); rintro e wn ⟨rfl, hE1⟩; have hEc := Ext.trans ‹Ext W0 _› hE1; clear hE1)
            | (go_at_call 41; (with_reducible refine (has1 l ao cap T 9 _ _ (HPt.out.ext (hEW.trans ‹Ext W0 _›)) ((Ext.cells ‹Ext W0 _› _ _ hTl).trans hT) (Ext.lt ‹Ext W0 _› hTl) A5.out).mono ?_); rintro e wn ⟨rfl, hE1⟩; have hEc := Ext.trans ‹Ext W0 _› hE1; clear hE1)
            | (go_at_call 41; (with_reducible refine (has1 l ao cap T 10 _ _ (HPt.out.ext (hEW.trans ‹Ext W0 _›)) ((Ext.cells ‹Ext W0 _› _ _ hTl).trans hT) (Ext.lt ‹Ext W0 _› hTl) A6.out).mono ?_); rintro e wn ⟨rfl, hE1⟩; have hEc := Ext.trans ‹Ext W0 _› hE1; clear hE1)
            | (go_at_call 41; (with_reducible refine (has1 l ao cap T 13 _ _ (HPt.out.ext (hEW.trans ‹Ext W0 _›)) ((Ext.cells ‹Ext W0 _› _ _ hTl).trans hT) (Ext.lt ‹Ext W0 _› hTl) A7.out).mono ?_); rintro e wn ⟨rfl, hE1⟩; have hEc := Ext.trans ‹Ext W0 _› hE1; clear hE1)
            | (go_at_call 41; (with_reducible refine (has1 l ao cap T 11 _ _ (HPt.out.ext (hEW.trans ‹Ext W0 _›)) ((Ext.cells ‹Ext W0 _› _ _ hTl).trans hT) (Ext.lt ‹Ext W0 _› hTl) A8.out).mono ?_); rintro e wn ⟨rfl, hE1⟩; have hEc := Ext.trans ‹Ext W0 _› hE1; clear hE1)
            | (go_at_call 41; (with_reducible refine (has1 l ao cap T 12 _ _ (HPt.out.ext (hEW.trans ‹Ext W0 _›)) ((Ext.cells ‹Ext W0 _› _ _ hTl).trans hT) (Ext.lt ‹Ext W0 _› hTl) A9.out).mono ?_); rintro e wn ⟨rfl, hE1⟩; have hEc := Ext.trans ‹Ext W0 _› hE1; clear hE1)
            | go_in)
          go_wp2_with fail
          go_ret
          exact ⟨rfl, hEW.trans ‹Ext W0 _›⟩
        · cases h9
          · cases h10
            · clear hno
              go_enter Tryz.func15, Tryz.ntmps15
              go_upto_region 2 with fail
              generalize w.alloc (.cells #[.slice ao l.length cap] 22) = W0 at hEW hT hTl ⊢
              generalize w.heap.size = T at hT hTl ⊢
              have hEc := Ext.refl W0
              go_upto_region 3 with (first
                | (go_at_call 29; (with_reducible refine (valid_lit l _ ao cap _ (HPt.out.ext hEW) Hl.out A1.out).mono ?_); rintro e w1 ⟨rfl, hE1⟩; have hEc := Ext.trans ‹Ext W0 _› hE1; have hTc := (Ext.cells ‹Ext W0 _› _ 0 hTl).trans hT; clear hE1)
                | (go_at_call 41; (with_reducible refine (has1 l ao cap T 2 _ _ (HPt.out.ext (hEW.trans ‹Ext W0 _›)) ((Ext.cells ‹Ext W0 _› _ _ hTl).trans hT) (Ext.lt ‹Ext W0 _› hTl) A2.out).mono ?_); rintro e wn ⟨rfl, hE1⟩; have hEc := Ext.trans ‹Ext W0 _› hE1; clear hE1)
                | (go_at_call 41; (with_reducible refine (has3 l ao cap T 3 4 5 _ _ (HPt.out.ext (hEW.trans ‹Ext W0 _›)) ((Ext.cells ‹Ext W0 _› _ _ hTl).trans hT) (Ext.lt ‹Ext W0 _› hTl) A3.out).mono ?_); rintro e wn ⟨rfl, hE1⟩; have hEc := Ext.trans ‹Ext W0 _› hE1; clear hE1)
                | (go_at_call 41; (with_reducible refine (has1 l ao cap T 6 _ _ (HPt.out.ext (hEW.trans ‹Ext W0 _›)) ((Ext.cells ‹Ext W0 _› _ _ hTl).trans hT) (Ext.lt ‹Ext W0 _› hTl) A4.out).mono ?_); rintro e wn ⟨rfl, hE1⟩; have hEc := Ext.trans ‹Ext W0 _› hE1; clear hE1)
                | (go_at_call 41; (with_reducible refine (has1 l ao cap T 9 _ _ (HPt.out.ext (hEW.trans ‹Ext W0 _›)) ((Ext.cells ‹Ext W0 _› _ _ hTl).trans hT) (Ext.lt ‹Ext W0 _› hTl) A5.out).mono ?_); rintro e wn ⟨rfl, hE1⟩; have hEc := Ext.trans ‹Ext W0 _› hE1; clear hE1)
                | (go_at_call 41; (with_reducible refine (has1 l ao cap T 10 _ _ (HPt.out.ext (hEW.trans ‹Ext W0 _›)) ((Ext.cells ‹Ext W0 _› _ _ hTl).trans hT) (Ext.lt ‹Ext W0 _› hTl) A6.out).mono ?_); rintro e wn ⟨rfl, hE1⟩; have hEc := Ext.trans ‹Ext W0 _› hE1; clear hE1)
                | (go_at_call 41; (with_reducible refine (has1 l ao cap T 13 _ _ (HPt.out.ext (hEW.trans ‹Ext W0 _›)) ((Ext.cells ‹Ext W0 _› _ _ hTl).trans hT) (Ext.lt ‹Ext W0 _› hTl) A7.out).mono ?_); rintro e wn ⟨rfl, hE1⟩; have hEc := Ext.trans ‹Ext W0 _› hE1; clear hE1)
                | (go_at_call 41; (with_reducible refine (has1 l ao cap T 11 _ _ (HPt.out.ext (hEW.trans ‹Ext W0 _›)) ((Ext.cells ‹Ext W0 _› _ _ hTl).trans hT) (Ext.lt ‹Ext W0 _› hTl) A8.out).mono ?_); rintro e wn ⟨rfl, hE1⟩; have hEc := Ext.trans ‹Ext W0 _› hE1; clear hE1)
                | (go_at_call 41; (with_reducible refine (has1 l ao cap T 12 _ _ (HPt.out.ext (hEW.trans ‹Ext W0 _›)) ((Ext.cells ‹Ext W0 _› _ _ hTl).trans hT) (Ext.lt ‹Ext W0 _› hTl) A9.out).mono ?_); rintro e wn ⟨rfl, hE1⟩; have hEc := Ext.trans ‹Ext W0 _› hE1; clear hE1)
                | go_in)
              go_wp2_with fail
              go_ret
              exact ⟨rfl, hEW.trans ‹Ext W0 _›⟩
            · cases h13
              · clear hno
                go_enter Tryz.func15, Tryz.ntmps15
                go_upto_region 2 with fail
                generalize w.alloc (.cells #[.slice ao l.length cap] 22) = W0 at hEW hT hTl ⊢
                generalize w.heap.size = T at hT hTl ⊢
                have hEc := Ext.refl W0
                go_upto_region 3 with (first
                  | (go_at_call 29; (with_reducible refine (valid_lit l _ ao cap _ (HPt.out.ext hEW) Hl.out A1.out).mono ?_); rintro e w1 ⟨rfl, hE1⟩; have hEc := Ext.trans ‹Ext W0 _› hE1; have hTc := (Ext.cells ‹Ext W0 _› _ 0 hTl).trans hT; clear hE1)
                  | (go_at_call 41; (with_reducible refine (has1 l ao cap T 2 _ _ (HPt.out.ext (hEW.trans ‹Ext W0 _›)) ((Ext.cells ‹Ext W0 _› _ _ hTl).trans hT) (Ext.lt ‹Ext W0 _› hTl) A2.out).mono ?_); rintro e wn ⟨rfl, hE1⟩; have hEc := Ext.trans ‹Ext W0 _› hE1; clear hE1)
                  | (go_at_call 41; (with_reducible refine (has3 l ao cap T 3 4 5 _ _ (HPt.out.ext (hEW.trans ‹Ext W0 _›)) ((Ext.cells ‹Ext W0 _› _ _ hTl).trans hT) (Ext.lt ‹Ext W0 _› hTl) A3.out).mono ?_); rintro e wn ⟨rfl, hE1⟩; have hEc := Ext.trans ‹Ext W0 _› hE1; clear hE1)
                  | (go_at_call 41; (with_reducible refine (has1 l ao cap T 6 _ _ (HPt.out.ext (hEW.trans ‹Ext W0 _›)) ((Ext.cells ‹Ext W0 _› _ _ hTl).trans hT) (Ext.lt ‹Ext W0 _› hTl) A4.out).mono ?_); rintro e wn ⟨rfl, hE1⟩; have hEc := Ext.trans ‹Ext W0 _› hE1; clear hE1)
                  | (go_at_call 41; (with_reducible refine (has1 l ao cap T 9 _ _ (HPt.out.ext (hEW.trans ‹Ext W0 _›)) ((Ext.cells ‹Ext W0 _› _ _ hTl).trans hT) (Ext.lt ‹Ext W0 _› hTl) A5.out).mono ?_); rintro e wn ⟨rfl, hE1⟩; have hEc := Ext.trans ‹Ext W0 _› hE1; clear hE1)
                  | (go_at_call 41; (with_reducible refine (has1 l ao cap T 10 _ _ (HPt.out.ext (hEW.trans ‹Ext W0 _›)) ((Ext.cells ‹Ext W0 _› _ _ hTl).trans hT) (Ext.lt ‹Ext W0 _› hTl) A6.out).mono ?_); rintro e wn ⟨rfl, hE1⟩; have hEc := Ext.trans ‹Ext W0 _› hE1; clear hE1)
                  | (go_at_call 41; (with_reducible refine (has1 l ao cap T 13 _ _ (HPt.out.ext (hEW.trans ‹Ext W0 _›)) ((Ext.cells ‹Ext W0 _› _ _ hTl).trans hT) (Ext.lt ‹Ext W0 _› hTl) A7.out).mono ?_); rintro e wn ⟨rfl, hE1⟩; have hEc := Ext.trans ‹Ext W0 _› hE1; clear hE1)
                  | (go_at_call 41; (with_reducible refine (has1 l ao cap T 11 _ _ (HPt.out.ext (hEW.trans ‹Ext W0 _›)) ((Ext.cells ‹Ext W0 _› _ _ hTl).trans hT) (Ext.lt ‹Ext W0 _› hTl) A8.out).mono ?_); rintro e wn ⟨rfl, hE1⟩; have hEc := Ext.trans ‹Ext W0 _› hE1; clear hE1)
                  | (go_at_call 41; (with_reducible refine (has1 l ao cap T 12 _ _ (HPt.out.ext (hEW.trans ‹Ext W0 _›)) ((Ext.cells ‹Ext W0 _› _ _ hTl).trans hT) (Ext.lt ‹Ext W0 _› hTl) A9.out).mono ?_); rintro e wn ⟨rfl, hE1⟩; have hEc := Ext.trans ‹Ext W0 _› hE1; clear hE1)
                  | go_in)
                go_wp2_with fail
                go_ret
                exact ⟨rfl, hEW.trans ‹Ext W0 _›⟩
              · cases h11
                · clear hno
                  go_enter Tryz.func15, Tryz.ntmps15
                  go_upto_region 2 with fail
                  generalize w.alloc (.cells #[.slice ao l.length cap] 22) = W0 at hEW hT hTl ⊢
                  generalize w.heap.size = T at hT hTl ⊢
                  have hEc := Ext.refl W0
                  go_upto_region 3 with (first
                    | (go_at_call 29; (with_reducible refine (valid_lit l _ ao cap _ (HPt.out.ext hEW) Hl.out A1.out).mono ?_); rintro e w1 ⟨rfl, hE1⟩; have hEc := Ext.trans ‹Ext W0 _› hE1; have hTc := (Ext.cells ‹Ext W0 _› _ 0 hTl).trans hT; clear hE1)
                    | (go_at_call 41; (with_reducible refine (has1 l ao cap T 2 _ _ (HPt.out.ext (hEW.trans ‹Ext W0 _›)) ((Ext.cells ‹Ext W0 _› _ _ hTl).trans hT) (Ext.lt ‹Ext W0 _› hTl) A2.out).mono ?_); rintro e wn ⟨rfl, hE1⟩; have hEc := Ext.trans ‹Ext W0 _› hE1; clear hE1)
                    | (go_at_call 41; (with_reducible refine (has3 l ao cap T 3 4 5 _ _ (HPt.out.ext (hEW.trans ‹Ext W0 _›)) ((Ext.cells ‹Ext W0 _› _ _ hTl).trans hT) (Ext.lt ‹Ext W0 _› hTl) A3.out).mono ?_); rintro e wn ⟨rfl, hE1⟩; have hEc := Ext.trans ‹Ext W0 _› hE1; clear hE1)
                    | (go_at_call 41; (with_reducible refine (has1 l ao cap T 6 _ _ (HPt.out.ext (hEW.trans ‹Ext W0 _›)) ((Ext.cells ‹Ext W0 _› _ _ hTl).trans hT) (Ext.lt ‹Ext W0 _› hTl) A4.out).mono ?_); rintro e wn ⟨rfl, hE1⟩; have hEc := Ext.trans ‹Ext W0 _› hE1; clear hE1)
                    | (go_at_call 41; (with_reducible refine (has1 l ao cap T 9 _ _ (HPt.out.ext (hEW.trans ‹Ext W0 _›)) ((Ext.cells ‹Ext W0 _› _ _ hTl).trans hT) (Ext.lt ‹Ext W0 _› hTl) A5.out).mono ?_); rintro e wn ⟨rfl, hE1⟩; have hEc := Ext.trans ‹Ext W0 _› hE1; clear hE1)
                    | (go_at_call 41; (with_reducible refine (has1 l ao cap T 10 _ _ (HPt.out.ext (hEW.trans ‹Ext W0 _›)) ((Ext.cells ‹Ext W0 _› _ _ hTl).trans hT) (Ext.lt ‹Ext W0 _› hTl) A6.out).mono ?_); rintro e wn ⟨rfl, hE1⟩; have hEc := Ext.trans ‹Ext W0 _› hE1; clear hE1)
                    | (go_at_call 41; (with_reducible refine (has1 l ao cap T 13 _ _ (HPt.out.ext (hEW.trans ‹Ext W0 _›)) ((Ext.cells ‹Ext W0 _› _ _ hTl).trans hT) (Ext.lt ‹Ext W0 _› hTl) A7.out).mono ?_); rintro e wn ⟨rfl, hE1⟩; have hEc := Ext.trans ‹Ext W0 _› hE1; clear hE1)
                    | (go_at_call 41; (with_reducible refine (has1 l ao cap T 11 _ _ (HPt.out.ext (hEW.trans ‹Ext W0 _›)) ((Ext.cells ‹Ext W0 _› _ _ hTl).trans hT) (Ext.lt ‹Ext W0 _› hTl) A8.out).mono ?_); rintro e wn ⟨rfl, hE1⟩; have hEc := Ext.trans ‹Ext W0 _› hE1; clear hE1)
                    | (go_at_call 41; (with_reducible refine (has1 l ao cap T 12 _ _ (HPt.out.ext (hEW.trans ‹Ext W0 _›)) ((Ext.cells ‹Ext W0 _› _ _ hTl).trans hT) (Ext.lt ‹Ext W0 _› hTl) A9.out).mono ?_); rintro e wn ⟨rfl, hE1⟩; have hEc := Ext.trans ‹Ext W0 _› hE1; clear hE1)
                    | go_in)
                  go_wp2_with fail
                  go_ret
                  exact ⟨rfl, hEW.trans ‹Ext W0 _›⟩
                · cases h12
                  · clear hno
                    go_enter Tryz.func15, Tryz.ntmps15
                    go_upto_region 2 with fail
                    generalize w.alloc (.cells #[.slice ao l.length cap] 22) = W0 at hEW hT hTl ⊢
                    generalize w.heap.size = T at hT hTl ⊢
                    have hEc := Ext.refl W0
                    go_upto_region 3 with (first
                      | (go_at_call 29; (with_reducible refine (valid_lit l _ ao cap _ (HPt.out.ext hEW) Hl.out A1.out).mono ?_); rintro e w1 ⟨rfl, hE1⟩; have hEc := Ext.trans ‹Ext W0 _› hE1; have hTc := (Ext.cells ‹Ext W0 _› _ 0 hTl).trans hT; clear hE1)
                      | (go_at_call 41; (with_reducible refine (has1 l ao cap T 2 _ _ (HPt.out.ext (hEW.trans ‹Ext W0 _›)) ((Ext.cells ‹Ext W0 _› _ _ hTl).trans hT) (Ext.lt ‹Ext W0 _› hTl) A2.out).mono ?_); rintro e wn ⟨rfl, hE1⟩; have hEc := Ext.trans ‹Ext W0 _› hE1; clear hE1)
                      | (go_at_call 41; (with_reducible refine (has3 l ao cap T 3 4 5 _ _ (HPt.out.ext (hEW.trans ‹Ext W0 _›)) ((Ext.cells ‹Ext W0 _› _ _ hTl).trans hT) (Ext.lt ‹Ext W0 _› hTl) A3.out).mono ?_); rintro e wn ⟨rfl, hE1⟩; have hEc := Ext.trans ‹Ext W0 _› hE1; clear hE1)
                      | (go_at_call 41; (with_reducible refine (has1 l ao cap T 6 _ _ (HPt.out.ext (hEW.trans ‹Ext W0 _›)) ((Ext.cells ‹Ext W0 _› _ _ hTl).trans hT) (Ext.lt ‹Ext W0 _› hTl) A4.out).mono ?_); rintro e wn ⟨rfl, hE1⟩; have hEc := Ext.trans ‹Ext W0 _› hE1; clear hE1)
                      | (go_at_call 41; (with_reducible refine (has1 l ao cap T 9 _ _ (HPt.out.ext (hEW.trans ‹Ext W0 _›)) ((Ext.cells ‹Ext W0 _› _ _ hTl).trans hT) (Ext.lt ‹Ext W0 _› hTl) A5.out).mono ?_); rintro e wn ⟨rfl, hE1⟩; have hEc := Ext.trans ‹Ext W0 _› hE1; clear hE1)
                      | (go_at_call 41; (with_reducible refine (has1 l ao cap T 10 _ _ (HPt.out.ext (hEW.trans ‹Ext W0 _›)) ((Ext.cells ‹Ext W0 _› _ _ hTl).trans hT) (Ext.lt ‹Ext W0 _› hTl) A6.out).mono ?_); rintro e wn ⟨rfl, hE1⟩; have hEc := Ext.trans ‹Ext W0 _› hE1; clear hE1)
                      | (go_at_call 41; (with_reducible refine (has1 l ao cap T 13 _ _ (HPt.out.ext (hEW.trans ‹Ext W0 _›)) ((Ext.cells ‹Ext W0 _› _ _ hTl).trans hT) (Ext.lt ‹Ext W0 _› hTl) A7.out).mono ?_); rintro e wn ⟨rfl, hE1⟩; have hEc := Ext.trans ‹Ext W0 _› hE1; clear hE1)
                      | (go_at_call 41; (with_reducible refine (has1 l ao cap T 11 _ _ (HPt.out.ext (hEW.trans ‹Ext W0 _›)) ((Ext.cells ‹Ext W0 _› _ _ hTl).trans hT) (Ext.lt ‹Ext W0 _› hTl) A8.out).mono ?_); rintro e wn ⟨rfl, hE1⟩; have hEc := Ext.trans ‹Ext W0 _› hE1; clear hE1)
                      | (go_at_call 41; (with_reducible refine (has1 l ao cap T 12 _ _ (HPt.out.ext (hEW.trans ‹Ext W0 _›)) ((Ext.cells ‹Ext W0 _› _ _ hTl).trans hT) (Ext.lt ‹Ext W0 _› hTl) A9.out).mono ?_); rintro e wn ⟨rfl, hE1⟩; have hEc := Ext.trans ‹Ext W0 _› hE1; clear hE1)
                      | go_in)
                    go_wp2_with fail
                    go_ret
                    exact ⟨rfl, hEW.trans ‹Ext W0 _›⟩
                  · simp at hno
          · cases h11
            · clear hno
              go_enter Tryz.func15, Tryz.ntmps15
              go_upto_region 2 with fail
              generalize w.alloc (.cells #[.slice ao l.length cap] 22) = W0 at hEW hT hTl ⊢
              generalize w.heap.size = T at hT hTl ⊢
              have hEc := Ext.refl W0
              go_upto_region 3 with (first
                | (go_at_call 29; (with_reducible refine (valid_lit l _ ao cap _ (HPt.out.ext hEW) Hl.out A1.out).mono ?_); rintro e w1 ⟨rfl, hE1⟩; have hEc := Ext.trans ‹Ext W0 _› hE1; have hTc := (Ext.cells ‹Ext W0 _› _ 0 hTl).trans hT; clear hE1)
                | (go_at_call 41; (with_reducible refine (has1 l ao cap T 2 _ _ (HPt.out.ext (hEW.trans ‹Ext W0 _›)) ((Ext.cells ‹Ext W0 _› _ _ hTl).trans hT) (Ext.lt ‹Ext W0 _› hTl) A2.out).mono ?_); rintro e wn ⟨rfl, hE1⟩; have hEc := Ext.trans ‹Ext W0 _› hE1; clear hE1)
                | (go_at_call 41; (with_reducible refine (has3 l ao cap T 3 4 5 _ _ (HPt.out.ext (hEW.trans ‹Ext W0 _›)) ((Ext.cells ‹Ext W0 _› _ _ hTl).trans hT) (Ext.lt ‹Ext W0 _› hTl) A3.out).mono ?_); rintro e wn ⟨rfl, hE1⟩; have hEc := Ext.trans ‹Ext W0 _› hE1; clear hE1)
                | (go_at_call 41; (with_reducible refine (has1 l ao cap T 6 _ _ (HPt.out.ext (hEW.trans ‹Ext W0 _›)) ((Ext.cells ‹Ext W0 _› _ _ hTl).trans hT) (Ext.lt ‹Ext W0 _› hTl) A4.out).mono ?_); rintro e wn ⟨rfl, hE1⟩; have hEc := Ext.trans ‹Ext W0 _› hE1; clear hE1)
                | (go_at_call 41; (with_reducible refine (has1 l ao cap T 9 _ _ (HPt.out.ext (hEW.trans ‹Ext W0 _›)) ((Ext.cells ‹Ext W0 _› _ _ hTl).trans hT) (Ext.lt ‹Ext W0 _› hTl) A5.out).mono ?_); rintro e wn ⟨rfl, hE1⟩; have hEc := Ext.trans ‹Ext W0 _› hE1; clear hE1)
                | (go_at_call 41; (with_reducible refine (has1 l ao cap T 10 _ _ (HPt.out.ext (hEW.trans ‹Ext W0 _›)) ((Ext.cells ‹Ext W0 _› _ _ hTl).trans hT) (Ext.lt ‹Ext W0 _› hTl) A6.out).mono ?_); rintro e wn ⟨rfl, hE1⟩; have hEc := Ext.trans ‹Ext W0 _› hE1; clear hE1)
                | (go_at_call 41; (with_reducible refine (has1 l ao cap T 13 _ _ (HPt.out.ext (hEW.trans ‹Ext W0 _›)) ((Ext.cells ‹Ext W0 _› _ _ hTl).trans hT) (Ext.lt ‹Ext W0 _› hTl) A7.out).mono ?_); rintro e wn ⟨rfl, hE1⟩; have hEc := Ext.trans ‹Ext W0 _› hE1; clear hE1)
                | (go_at_call 41; (with_reducible refine (has1 l ao cap T 11 _ _ (HPt.out.ext (hEW.trans ‹Ext W0 _›)) ((Ext.cells ‹Ext W0 _› _ _ hTl).trans hT) (Ext.lt ‹Ext W0 _› hTl) A8.out).mono ?_); rintro e wn ⟨rfl, hE1⟩; have hEc := Ext.trans ‹Ext W0 _› hE1; clear hE1)
                | (go_at_call 41; (with_reducible refine (has1 l ao cap T 12 _ _ (HPt.out.ext (hEW.trans ‹Ext W0 _›)) ((Ext.cells ‹Ext W0 _› _ _ hTl).trans hT) (Ext.lt ‹Ext W0 _› hTl) A9.out).mono ?_); rintro e wn ⟨rfl, hE1⟩; have hEc := Ext.trans ‹Ext W0 _› hE1; clear hE1)
                | go_in)
              go_wp2_with fail
              go_ret
              exact ⟨rfl, hEW.trans ‹Ext W0 _›⟩
            · cases h12
              · clear hno
                go_enter Tryz.func15, Tryz.ntmps15
                go_upto_region 2 with fail
                generalize w.alloc (.cells #[.slice ao l.length cap] 22) = W0 at hEW hT hTl ⊢
                generalize w.heap.size = T at hT hTl ⊢
                have hEc := Ext.refl W0
                go_upto_region 3 with (first
                  | (go_at_call 29; (with_reducible refine (valid_lit l _ ao cap _ (HPt.out.ext hEW) Hl.out A1.out).mono ?_); rintro e w1 ⟨rfl, hE1⟩; have hEc := Ext.trans ‹Ext W0 _› hE1; have hTc := (Ext.cells ‹Ext W0 _› _ 0 hTl).trans hT; clear hE1)
                  | (go_at_call 41; (with_reducible refine (has1 l ao cap T 2 _ _ (HPt.out.ext (hEW.trans ‹Ext W0 _›)) ((Ext.cells ‹Ext W0 _› _ _ hTl).trans hT) (Ext.lt ‹Ext W0 _› hTl) A2.out).mono ?_); rintro e wn ⟨rfl, hE1⟩; have hEc := Ext.trans ‹Ext W0 _› hE1; clear hE1)
                  | (go_at_call 41; (with_reducible refine (has3 l ao cap T 3 4 5 _ _ (HPt.out.ext (hEW.trans ‹Ext W0 _›)) ((Ext.cells ‹Ext W0 _› _ _ hTl).trans hT) (Ext.lt ‹Ext W0 _› hTl) A3.out).mono ?_); rintro e wn ⟨rfl, hE1⟩; have hEc := Ext.trans ‹Ext W0 _› hE1; clear hE1)
                  | (go_at_call 41; (with_reducible refine (has1 l ao cap T 6 _ _ (HPt.out.ext (hEW.trans ‹Ext W0 _›)) ((Ext.cells ‹Ext W0 _› _ _ hTl).trans hT) (Ext.lt ‹Ext W0 _› hTl) A4.out).mono ?_); rintro e wn ⟨rfl, hE1⟩; have hEc := Ext.trans ‹Ext W0 _› hE1; clear hE1)
                  | (go_at_call 41; (with_reducible refine (has1 l ao cap T 9 _ _ (HPt.out.ext (hEW.trans ‹Ext W0 _›)) ((Ext.cells ‹Ext W0 _› _ _ hTl).trans hT) (Ext.lt ‹Ext W0 _› hTl) A5.out).mono ?_); rintro e wn ⟨rfl, hE1⟩; have hEc := Ext.trans ‹Ext W0 _› hE1; clear hE1)
                  | (go_at_call 41; (with_reducible refine (has1 l ao cap T 10 _ _ (HPt.out.ext (hEW.trans ‹Ext W0 _›)) ((Ext.cells ‹Ext W0 _› _ _ hTl).trans hT) (Ext.lt ‹Ext W0 _› hTl) A6.out).mono ?_); rintro e wn ⟨rfl, hE1⟩; have hEc := Ext.trans ‹Ext W0 _› hE1; clear hE1)
                  | (go_at_call 41; (with_reducible refine (has1 l ao cap T 13 _ _ (HPt.out.ext (hEW.trans ‹Ext W0 _›)) ((Ext.cells ‹Ext W0 _› _ _ hTl).trans hT) (Ext.lt ‹Ext W0 _› hTl) A7.out).mono ?_); rintro e wn ⟨rfl, hE1⟩; have hEc := Ext.trans ‹Ext W0 _› hE1; clear hE1)
                  | (go_at_call 41; (with_reducible refine (has1 l ao cap T 11 _ _ (HPt.out.ext (hEW.trans ‹Ext W0 _›)) ((Ext.cells ‹Ext W0 _› _ _ hTl).trans hT) (Ext.lt ‹Ext W0 _› hTl) A8.out).mono ?_); rintro e wn ⟨rfl, hE1⟩; have hEc := Ext.trans ‹Ext W0 _› hE1; clear hE1)
                  | (go_at_call 41; (with_reducible refine (has1 l ao cap T 12 _ _ (HPt.out.ext (hEW.trans ‹Ext W0 _›)) ((Ext.cells ‹Ext W0 _› _ _ hTl).trans hT) (Ext.lt ‹Ext W0 _› hTl) A9.out).mono ?_); rintro e wn ⟨rfl, hE1⟩; have hEc := Ext.trans ‹Ext W0 _› hE1; clear hE1)
                  | go_in)
                go_wp2_with fail
                go_ret
                exact ⟨rfl, hEW.trans ‹Ext W0 _›⟩
              · simp at hno
end Go.Proofs.YticckkadmhklmaaGreatDoor
