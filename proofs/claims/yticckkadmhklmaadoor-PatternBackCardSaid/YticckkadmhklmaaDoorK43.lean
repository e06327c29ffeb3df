/- The walk of the law PatternBack. -/
import Derived.Test.YticckkadmhklmaaDoorK42
import Derived.Test.YticckkadmhklmaaDoorK41
import Derived.Test.YticckkadmhklmaaDoorK08
import Derived.Test.YticckkadmhklmaaDoorK27
import Derived.Test.YticckkadmhklmaaDoorK24
import Derived.Test.YticckkadmhklmaaDoorK29
namespace Go.Proofs.YticckkadmhklmaaDoor
set_option linter.unusedVariables false
set_option linter.unusedSimpArgs false
open Go.RowKit Go.Maps

theorem greatB_texts {l : List Prt} (hg : greatB l = false) : ∀ p ∈ l, p.t.length ≤ 4000 := fun p hp => by
  unfold greatB at hg
  rw [Bool.or_eq_false_iff] at hg
  have := List.any_eq_false.1 hg.2 p hp
  unfold grB at this
  simp at this
  omega
/-- What Text says of parts. -/
def txR (l : List Prt) : List UInt8 × Int := if validB l = true then (txtL l, 0) else ([], 1)
theorem ptext_c (l : List Prt) (ao : Option Addr) (cap : Nat) (w : World) (h : PtV ao cap l w) (hl : ∀ p ∈ l, p.t.length ≤ 4000) (hm : Lm w) (t : List UInt8) (e : Int) (ht : txR l = (t, e)) :
    Calls Tryd.prog 6 #[.slice ao l.length cap] w fun x w' => x = .returned (.tuple #[.string ⟨t.toArray⟩, .int .i64 e]) ∧ Ext w w' := by
  unfold txR at ht
  rcases Bool.eq_false_or_eq_true (validB l) with hv | hv
  · rw [hv, if_pos rfl] at ht
    injection ht with h1 h2
    rw [← h1, ← h2]
    exact text_ok l ao cap w h hl hv hm
  · rw [hv, if_neg (by decide)] at ht
    injection ht with h1 h2
    rw [← h1, ← h2]
    exact text_no l ao cap w h hl hv
theorem txtL_le {l : List Prt} (hv : validB l = true) : (txtL l).length ≤ 8400 := by
  have hv2 := hv
  unfold validB at hv2
  simp only [Bool.and_eq_true, decide_eq_true_eq] at hv2
  have hp := tailB_all l none hv2.2
  have : ∀ l : List Prt, (∀ p ∈ l, partB p = true) → (txtL l).length ≤ 210 * l.length := by
    intro l
    induction l with
    | nil => intro _; simp [txtL]
    | cons p r ih =>
      intro h
      have h1 := prtT_le (h p (by simp))
      have h2 := ih (fun q hq => h q (by simp [hq]))
      unfold txtL at h2 ⊢
      rw [List.flatMap_cons, List.length_append, List.length_cons]
      omega
  have := this l hp
  omega
set_option maxRecDepth 100000 in
set_option maxHeartbeats 1000000 in
theorem back_A (l : List Prt) (ao : Option Addr) (cap : Nat) (s : List UInt8) (w : World) (h : PtV ao cap l w) (hm : Lm w) (hg : greatB l = false) (hs : s.length ≤ 1000) (hv : validB l = false) :
    Calls Tryd.prog 3 #[.slice ao l.length cap, .string ⟨s.toArray⟩] w fun e w' => e = .returned (.bool true) ∧ Ext w w' := by
  have d1 : ¬ (1000 : Int) < (s.length : Int) := by omega
  have HTX := Lib.hid (fun w h hm => ptext_c l ao cap w h (greatB_texts hg) hm [] 1 (by unfold txR; rw [hv]; rfl))
  have HG := Lib.hid hg
  have HPt := Lib.hid h
  have Hm := Lib.hid hm
  obtain ⟨a, c, er, hT2⟩ : ∃ a c er, cmpT s = (a, c, er) := ⟨_, _, _, rfl⟩
  clear hg hv h hm
  by_cases her : er = 0
  · subst her
    have hva := cmp_valid hT2
    have hla : ∀ p ∈ a, p.t.length ≤ 4000 := fun p hp => by
      have h1 := hva
      unfold validB at h1
      simp only [Bool.and_eq_true, decide_eq_true_eq] at h1
      have h2 := tailB_all a none h1.2 p hp
      by_cases hk : p.k = 1
      · have := (partB_lit h2 hk).2.2.1
        omega
      · rw [(partB_fld h2 hk).2.2.1]; simp
    have hT3 := txt_back a hva
    have HTX2 := Lib.hid (fun ao cap w h hm => text_ok a ao cap w h hla hva hm)
    have HC3 := Lib.hid (fun w => compile_c (txtL a) w (by have := txtL_le hva; omega))
    rw [hT3] at HC3
    have HC2 := Lib.hid (fun w => compile_c s w (by omega))
    rw [hT2] at HC2
    obtain ⟨T2, hTT⟩ : ∃ T, txtL a = T := ⟨_, rfl⟩
    rw [hTT] at HTX2 HC3
    by_cases h200 : 200 < T2.length
    · have d5 : (200 : Int) < (T2.length : Int) := by omega
      rw [if_pos h200] at HC3
      clear hva hla hT3 hTT hT2 h200
      go_enter Tryd.func3, Tryd.ntmps3
      go_wp2_with (first
        | (go_at_call 4; (with_reducible refine (awake_c _).mono ?_); rintro e w1 ⟨rfl, hE1⟩; have hX := hE1; clear hE1)
        | (go_at_call 5; (with_reducible refine (great_c l ao cap false _ (HPt.out.ext (by (repeat (with_reducible (first | assumption | exact Ext.refl _ | refine Ext.alloc ?_ _ | refine Ext.drewN ?_ _ | refine Ext.drew ?_))))) HG.out).mono ?_); rintro e w2 ⟨rfl, hE2⟩; have hX := Ext.trans (show Ext w _ from (by (repeat (with_reducible (first | assumption | exact Ext.refl _ | refine Ext.alloc ?_ _ | refine Ext.drewN ?_ _ | refine Ext.drew ?_))))) hE2; clear hE2)
        | (go_at_call 6; (with_reducible refine (HTX.out _ (HPt.out.ext (by (repeat (with_reducible (first | assumption | exact Ext.refl _ | refine Ext.alloc ?_ _ | refine Ext.drewN ?_ _ | refine Ext.drew ?_))))) (Hm.out.ext (by (repeat (with_reducible (first | assumption | exact Ext.refl _ | refine Ext.alloc ?_ _ | refine Ext.drewN ?_ _ | refine Ext.drew ?_)))))).mono ?_); rintro e w3 ⟨rfl, hE3⟩; have hX := Ext.trans (show Ext w _ from (by (repeat (with_reducible (first | assumption | exact Ext.refl _ | refine Ext.alloc ?_ _ | refine Ext.drewN ?_ _ | refine Ext.drew ?_))))) hE3; clear hE3)
        | (go_at_call 7; (with_reducible refine (HC2.out _).mono ?_); rintro e w6 ⟨ao6, cap6, rfl, hP6, hE6⟩; have HP6 := Lib.hid hP6; have hX := Ext.trans (show Ext w _ from (by (repeat (with_reducible (first | assumption | exact Ext.refl _ | refine Ext.alloc ?_ _ | refine Ext.drewN ?_ _ | refine Ext.drew ?_))))) hE6; clear hP6 hE6)
        | (go_at_call 6; (with_reducible refine (HTX2.out ao6 cap6 _ (HP6.out.ext (by (repeat (with_reducible (first | assumption | exact Ext.refl _ | refine Ext.alloc ?_ _ | refine Ext.drewN ?_ _ | refine Ext.drew ?_))))) (Hm.out.ext (by (repeat (with_reducible (first | assumption | exact Ext.refl _ | refine Ext.alloc ?_ _ | refine Ext.drewN ?_ _ | refine Ext.drew ?_)))))).mono ?_); rintro e w7 ⟨rfl, hE7⟩; have hX := Ext.trans (show Ext w _ from (by (repeat (with_reducible (first | assumption | exact Ext.refl _ | refine Ext.alloc ?_ _ | refine Ext.drewN ?_ _ | refine Ext.drew ?_))))) hE7; have hY := Ext.trans (show Ext w6 _ from (by (repeat (with_reducible (first | assumption | exact Ext.refl _ | refine Ext.alloc ?_ _ | refine Ext.drewN ?_ _ | refine Ext.drew ?_))))) hE7; clear hE7)
        | (go_at_call 7; (with_reducible refine (HC3.out _).mono ?_); rintro e w8 ⟨ao8, cap8, rfl, hP8, hE8⟩; have HP8 := Lib.hid hP8; have hX := Ext.trans (show Ext w _ from (by (repeat (with_reducible (first | assumption | exact Ext.refl _ | refine Ext.alloc ?_ _ | refine Ext.drewN ?_ _ | refine Ext.drew ?_))))) hE8; have hY := Ext.trans (show Ext w6 _ from (by (repeat (with_reducible (first | assumption | exact Ext.refl _ | refine Ext.alloc ?_ _ | refine Ext.drewN ?_ _ | refine Ext.drew ?_))))) hE8; clear hP8 hE8)
        | go_in)
      all_goals
        go_ret
        exact ⟨rfl, (by (repeat (with_reducible (first | assumption | exact Ext.refl _ | refine Ext.alloc ?_ _ | refine Ext.drewN ?_ _ | refine Ext.drew ?_))))⟩
    · have d5 : ¬ (200 : Int) < (T2.length : Int) := by omega
      rw [if_neg h200] at HC3
      clear hva hla hT3 hTT hT2 h200
      go_enter Tryd.func3, Tryd.ntmps3
      go_wp2_with (first
        | (go_at_call 4; (with_reducible refine (awake_c _).mono ?_); rintro e w1 ⟨rfl, hE1⟩; have hX := hE1; clear hE1)
        | (go_at_call 5; (with_reducible refine (great_c l ao cap false _ (HPt.out.ext (by (repeat (with_reducible (first | assumption | exact Ext.refl _ | refine Ext.alloc ?_ _ | refine Ext.drewN ?_ _ | refine Ext.drew ?_))))) HG.out).mono ?_); rintro e w2 ⟨rfl, hE2⟩; have hX := Ext.trans (show Ext w _ from (by (repeat (with_reducible (first | assumption | exact Ext.refl _ | refine Ext.alloc ?_ _ | refine Ext.drewN ?_ _ | refine Ext.drew ?_))))) hE2; clear hE2)
        | (go_at_call 6; (with_reducible refine (HTX.out _ (HPt.out.ext (by (repeat (with_reducible (first | assumption | exact Ext.refl _ | refine Ext.alloc ?_ _ | refine Ext.drewN ?_ _ | refine Ext.drew ?_))))) (Hm.out.ext (by (repeat (with_reducible (first | assumption | exact Ext.refl _ | refine Ext.alloc ?_ _ | refine Ext.drewN ?_ _ | refine Ext.drew ?_)))))).mono ?_); rintro e w3 ⟨rfl, hE3⟩; have hX := Ext.trans (show Ext w _ from (by (repeat (with_reducible (first | assumption | exact Ext.refl _ | refine Ext.alloc ?_ _ | refine Ext.drewN ?_ _ | refine Ext.drew ?_))))) hE3; clear hE3)
        | (go_at_call 7; (with_reducible refine (HC2.out _).mono ?_); rintro e w6 ⟨ao6, cap6, rfl, hP6, hE6⟩; have HP6 := Lib.hid hP6; have hX := Ext.trans (show Ext w _ from (by (repeat (with_reducible (first | assumption | exact Ext.refl _ | refine Ext.alloc ?_ _ | refine Ext.drewN ?_ _ | refine Ext.drew ?_))))) hE6; clear hP6 hE6)
        | (go_at_call 6; (with_reducible refine (HTX2.out ao6 cap6 _ (HP6.out.ext (by (repeat (with_reducible (first | assumption | exact Ext.refl _ | refine Ext.alloc ?_ _ | refine Ext.drewN ?_ _ | refine Ext.drew ?_))))) (Hm.out.ext (by (repeat (with_reducible (first | assumption | exact Ext.refl _ | refine Ext.alloc ?_ _ | refine Ext.drewN ?_ _ | refine Ext.drew ?_)))))).mono ?_); rintro e w7 ⟨rfl, hE7⟩; have hX := Ext.trans (show Ext w _ from (by (repeat (with_reducible (first | assumption | exact Ext.refl _ | refine Ext.alloc ?_ _ | refine Ext.drewN ?_ _ | refine Ext.drew ?_))))) hE7; have hY := Ext.trans (show Ext w6 _ from (by (repeat (with_reducible (first | assumption | exact Ext.refl _ | refine Ext.alloc ?_ _ | refine Ext.drewN ?_ _ | refine Ext.drew ?_))))) hE7; clear hE7)
        | (go_at_call 7; (with_reducible refine (HC3.out _).mono ?_); rintro e w8 ⟨ao8, cap8, rfl, hP8, hE8⟩; have HP8 := Lib.hid hP8; have hX := Ext.trans (show Ext w _ from (by (repeat (with_reducible (first | assumption | exact Ext.refl _ | refine Ext.alloc ?_ _ | refine Ext.drewN ?_ _ | refine Ext.drew ?_))))) hE8; have hY := Ext.trans (show Ext w6 _ from (by (repeat (with_reducible (first | assumption | exact Ext.refl _ | refine Ext.alloc ?_ _ | refine Ext.drewN ?_ _ | refine Ext.drew ?_))))) hE8; clear hP8 hE8)
        | (go_at_call 8; (with_reducible refine (eqP_c a ao6 ao8 cap6 cap8 _ (HP6.out.ext (by (repeat (with_reducible (first | assumption | exact Ext.refl _ | refine Ext.alloc ?_ _ | refine Ext.drewN ?_ _ | refine Ext.drew ?_))))) (HP8.out.ext (by (repeat (with_reducible (first | assumption | exact Ext.refl _ | refine Ext.alloc ?_ _ | refine Ext.drewN ?_ _ | refine Ext.drew ?_)))))).mono ?_); rintro e w9 ⟨rfl, hE9⟩; have hX := Ext.trans (show Ext w _ from (by (repeat (with_reducible (first | assumption | exact Ext.refl _ | refine Ext.alloc ?_ _ | refine Ext.drewN ?_ _ | refine Ext.drew ?_))))) hE9; clear hE9)
        | go_in)
      all_goals
        go_ret
        exact ⟨rfl, (by (repeat (with_reducible (first | assumption | exact Ext.refl _ | refine Ext.alloc ?_ _ | refine Ext.drewN ?_ _ | refine Ext.drew ?_))))⟩
  · obtain rfl := cmpT_err hT2 her
    have HC2 := Lib.hid (fun w => compile_c s w (by omega))
    rw [hT2] at HC2
    have d6 : ((er : Int) == 0) = false := by rw [beq_eq_false_iff_ne]; omega
    have d7 : ((er : Int) != 0) = true := by simp; omega
    clear hT2 her
    go_enter Tryd.func3, Tryd.ntmps3
    go_wp2_with (first
      | (go_at_call 4; (with_reducible refine (awake_c _).mono ?_); rintro e w1 ⟨rfl, hE1⟩; have hX := hE1; clear hE1)
      | (go_at_call 5; (with_reducible refine (great_c l ao cap false _ (HPt.out.ext (by (repeat (with_reducible (first | assumption | exact Ext.refl _ | refine Ext.alloc ?_ _ | refine Ext.drewN ?_ _ | refine Ext.drew ?_))))) HG.out).mono ?_); rintro e w2 ⟨rfl, hE2⟩; have hX := Ext.trans (show Ext w _ from (by (repeat (with_reducible (first | assumption | exact Ext.refl _ | refine Ext.alloc ?_ _ | refine Ext.drewN ?_ _ | refine Ext.drew ?_))))) hE2; clear hE2)
      | (go_at_call 6; (with_reducible refine (HTX.out _ (HPt.out.ext (by (repeat (with_reducible (first | assumption | exact Ext.refl _ | refine Ext.alloc ?_ _ | refine Ext.drewN ?_ _ | refine Ext.drew ?_))))) (Hm.out.ext (by (repeat (with_reducible (first | assumption | exact Ext.refl _ | refine Ext.alloc ?_ _ | refine Ext.drewN ?_ _ | refine Ext.drew ?_)))))).mono ?_); rintro e w3 ⟨rfl, hE3⟩; have hX := Ext.trans (show Ext w _ from (by (repeat (with_reducible (first | assumption | exact Ext.refl _ | refine Ext.alloc ?_ _ | refine Ext.drewN ?_ _ | refine Ext.drew ?_))))) hE3; clear hE3)
      | (go_at_call 7; (with_reducible refine (HC2.out _).mono ?_); rintro e w6 ⟨ao6, cap6, rfl, hP6, hE6⟩; have HP6 := Lib.hid hP6; have hX := Ext.trans (show Ext w _ from (by (repeat (with_reducible (first | assumption | exact Ext.refl _ | refine Ext.alloc ?_ _ | refine Ext.drewN ?_ _ | refine Ext.drew ?_))))) hE6; clear hP6 hE6)
      | go_in)
    all_goals
      go_ret
      exact ⟨rfl, (by (repeat (with_reducible (first | assumption | exact Ext.refl _ | refine Ext.alloc ?_ _ | refine Ext.drewN ?_ _ | refine Ext.drew ?_))))⟩
set_option maxRecDepth 100000 in
set_option maxHeartbeats 1000000 in
theorem back_B (l : List Prt) (ao : Option Addr) (cap : Nat) (s : List UInt8) (w : World) (h : PtV ao cap l w) (hm : Lm w) (hg : greatB l = false) (hs : s.length ≤ 1000) (hv : validB l = true) (hq : 200 < (txtL l).length) :
    Calls Tryd.prog 3 #[.slice ao l.length cap, .string ⟨s.toArray⟩] w fun e w' => e = .returned (.bool true) ∧ Ext w w' := by
  have d1 : ¬ (1000 : Int) < (s.length : Int) := by omega
  have HTX := Lib.hid (fun w h hm => text_ok l ao cap w h (greatB_texts hg) hv hm)
  have HC1 := Lib.hid (fun w => compile_c (txtL l) w (by have := txtL_le hv; omega))
  rw [txt_back l hv] at HC1
  have hq0 := txtL_le hv
  obtain ⟨T, hT⟩ : ∃ T, txtL l = T := ⟨_, rfl⟩
  rw [hT] at HTX HC1 hq hq0
  have d2 : (200 : Int) < (T.length : Int) := by omega
  rw [if_pos hq] at HC1
  have HG := Lib.hid hg
  have HPt := Lib.hid h
  have Hm := Lib.hid hm
  obtain ⟨a, c, er, hT2⟩ : ∃ a c er, cmpT s = (a, c, er) := ⟨_, _, _, rfl⟩
  clear hg hv h hm hT hq
  by_cases her : er = 0
  · subst her
    have hva := cmp_valid hT2
    have hla : ∀ p ∈ a, p.t.length ≤ 4000 := fun p hp => by
      have h1 := hva
      unfold validB at h1
      simp only [Bool.and_eq_true, decide_eq_true_eq] at h1
      have h2 := tailB_all a none h1.2 p hp
      by_cases hk : p.k = 1
      · have := (partB_lit h2 hk).2.2.1
        omega
      · rw [(partB_fld h2 hk).2.2.1]; simp
    have hT3 := txt_back a hva
    have HTX2 := Lib.hid (fun ao cap w h hm => text_ok a ao cap w h hla hva hm)
    have HC3 := Lib.hid (fun w => compile_c (txtL a) w (by have := txtL_le hva; omega))
    rw [hT3] at HC3
    have HC2 := Lib.hid (fun w => compile_c s w (by omega))
    rw [hT2] at HC2
    obtain ⟨T2, hTT⟩ : ∃ T, txtL a = T := ⟨_, rfl⟩
    rw [hTT] at HTX2 HC3
    by_cases h200 : 200 < T2.length
    · have d5 : (200 : Int) < (T2.length : Int) := by omega
      rw [if_pos h200] at HC3
      clear hva hla hT3 hTT hT2 h200
      go_enter Tryd.func3, Tryd.ntmps3
      go_wp2_with (first
        | (go_at_call 4; (with_reducible refine (awake_c _).mono ?_); rintro e w1 ⟨rfl, hE1⟩; have hX := hE1; clear hE1)
        | (go_at_call 5; (with_reducible refine (great_c l ao cap false _ (HPt.out.ext (by (repeat (with_reducible (first | assumption | exact Ext.refl _ | refine Ext.alloc ?_ _ | refine Ext.drewN ?_ _ | refine Ext.drew ?_))))) HG.out).mono ?_); rintro e w2 ⟨rfl, hE2⟩; have hX := Ext.trans (show Ext w _ from (by (repeat (with_reducible (first | assumption | exact Ext.refl _ | refine Ext.alloc ?_ _ | refine Ext.drewN ?_ _ | refine Ext.drew ?_))))) hE2; clear hE2)
        | (first | (go_at_call 6; (with_reducible refine (HTX.out _ (HPt.out.ext (by (repeat (with_reducible (first | assumption | exact Ext.refl _ | refine Ext.alloc ?_ _ | refine Ext.drewN ?_ _ | refine Ext.drew ?_))))) (Hm.out.ext (by (repeat (with_reducible (first | assumption | exact Ext.refl _ | refine Ext.alloc ?_ _ | refine Ext.drewN ?_ _ | refine Ext.drew ?_)))))).mono ?_); rintro e w3 ⟨rfl, hE3⟩; have hX := Ext.trans (show Ext w _ from (by (repeat (with_reducible (first | assumption | exact Ext.refl _ | refine Ext.alloc ?_ _ | refine Ext.drewN ?_ _ | refine Ext.drew ?_))))) hE3; clear hE3) | (go_at_call 7; (with_reducible refine (HC1.out _).mono ?_); rintro e w4 ⟨ao4, cap4, rfl, hP4, hE4⟩; have HP4 := Lib.hid hP4; have hX := Ext.trans (show Ext w _ from (by (repeat (with_reducible (first | assumption | exact Ext.refl _ | refine Ext.alloc ?_ _ | refine Ext.drewN ?_ _ | refine Ext.drew ?_))))) hE4; clear hP4 hE4))
        | (go_at_call 7; (with_reducible refine (HC2.out _).mono ?_); rintro e w6 ⟨ao6, cap6, rfl, hP6, hE6⟩; have HP6 := Lib.hid hP6; have hX := Ext.trans (show Ext w _ from (by (repeat (with_reducible (first | assumption | exact Ext.refl _ | refine Ext.alloc ?_ _ | refine Ext.drewN ?_ _ | refine Ext.drew ?_))))) hE6; clear hP6 hE6)
        | (go_at_call 6; (with_reducible refine (HTX2.out ao6 cap6 _ (HP6.out.ext (by (repeat (with_reducible (first | assumption | exact Ext.refl _ | refine Ext.alloc ?_ _ | refine Ext.drewN ?_ _ | refine Ext.drew ?_))))) (Hm.out.ext (by (repeat (with_reducible (first | assumption | exact Ext.refl _ | refine Ext.alloc ?_ _ | refine Ext.drewN ?_ _ | refine Ext.drew ?_)))))).mono ?_); rintro e w7 ⟨rfl, hE7⟩; have hX := Ext.trans (show Ext w _ from (by (repeat (with_reducible (first | assumption | exact Ext.refl _ | refine Ext.alloc ?_ _ | refine Ext.drewN ?_ _ | refine Ext.drew ?_))))) hE7; have hY := Ext.trans (show Ext w6 _ from (by (repeat (with_reducible (first | assumption | exact Ext.refl _ | refine Ext.alloc ?_ _ | refine Ext.drewN ?_ _ | refine Ext.drew ?_))))) hE7; clear hE7)
        | (go_at_call 7; (with_reducible refine (HC3.out _).mono ?_); rintro e w8 ⟨ao8, cap8, rfl, hP8, hE8⟩; have HP8 := Lib.hid hP8; have hX := Ext.trans (show Ext w _ from (by (repeat (with_reducible (first | assumption | exact Ext.refl _ | refine Ext.alloc ?_ _ | refine Ext.drewN ?_ _ | refine Ext.drew ?_))))) hE8; have hY := Ext.trans (show Ext w6 _ from (by (repeat (with_reducible (first | assumption | exact Ext.refl _ | refine Ext.alloc ?_ _ | refine Ext.drewN ?_ _ | refine Ext.drew ?_))))) hE8; clear hP8 hE8)
        | go_in)
      all_goals
        go_ret
        exact ⟨rfl, (by (repeat (with_reducible (first | assumption | exact Ext.refl _ | refine Ext.alloc ?_ _ | refine Ext.drewN ?_ _ | refine Ext.drew ?_))))⟩
    · have d5 : ¬ (200 : Int) < (T2.length : Int) := by omega
      rw [if_neg h200] at HC3
      clear hva hla hT3 hTT hT2 h200
      go_enter Tryd.func3, Tryd.ntmps3
      go_wp2_with (first
        | (go_at_call 4; (with_reducible refine (awake_c _).mono ?_); rintro e w1 ⟨rfl, hE1⟩; have hX := hE1; clear hE1)
        | (go_at_call 5; (with_reducible refine (great_c l ao cap false _ (HPt.out.ext (by (repeat (with_reducible (first | assumption | exact Ext.refl _ | refine Ext.alloc ?_ _ | refine Ext.drewN ?_ _ | refine Ext.drew ?_))))) HG.out).mono ?_); rintro e w2 ⟨rfl, hE2⟩; have hX := Ext.trans (show Ext w _ from (by (repeat (with_reducible (first | assumption | exact Ext.refl _ | refine Ext.alloc ?_ _ | refine Ext.drewN ?_ _ | refine Ext.drew ?_))))) hE2; clear hE2)
        | (first | (go_at_call 6; (with_reducible refine (HTX.out _ (HPt.out.ext (by (repeat (with_reducible (first | assumption | exact Ext.refl _ | refine Ext.alloc ?_ _ | refine Ext.drewN ?_ _ | refine Ext.drew ?_))))) (Hm.out.ext (by (repeat (with_reducible (first | assumption | exact Ext.refl _ | refine Ext.alloc ?_ _ | refine Ext.drewN ?_ _ | refine Ext.drew ?_)))))).mono ?_); rintro e w3 ⟨rfl, hE3⟩; have hX := Ext.trans (show Ext w _ from (by (repeat (with_reducible (first | assumption | exact Ext.refl _ | refine Ext.alloc ?_ _ | refine Ext.drewN ?_ _ | refine Ext.drew ?_))))) hE3; clear hE3) | (go_at_call 7; (with_reducible refine (HC1.out _).mono ?_); rintro e w4 ⟨ao4, cap4, rfl, hP4, hE4⟩; have HP4 := Lib.hid hP4; have hX := Ext.trans (show Ext w _ from (by (repeat (with_reducible (first | assumption | exact Ext.refl _ | refine Ext.alloc ?_ _ | refine Ext.drewN ?_ _ | refine Ext.drew ?_))))) hE4; clear hP4 hE4))
        | (go_at_call 7; (with_reducible refine (HC2.out _).mono ?_); rintro e w6 ⟨ao6, cap6, rfl, hP6, hE6⟩; have HP6 := Lib.hid hP6; have hX := Ext.trans (show Ext w _ from (by (repeat (with_reducible (first | assumption | exact Ext.refl _ | refine Ext.alloc ?_ _ | refine Ext.drewN ?_ _ | refine Ext.drew ?_))))) hE6; clear hP6 hE6)
        | (go_at_call 6; (with_reducible refine (HTX2.out ao6 cap6 _ (HP6.out.ext (by (repeat (with_reducible (first | assumption | exact Ext.refl _ | refine Ext.alloc ?_ _ | refine Ext.drewN ?_ _ | refine Ext.drew ?_))))) (Hm.out.ext (by (repeat (with_reducible (first | assumption | exact Ext.refl _ | refine Ext.alloc ?_ _ | refine Ext.drewN ?_ _ | refine Ext.drew ?_)))))).mono ?_); rintro e w7 ⟨rfl, hE7⟩; have hX := Ext.trans (show Ext w _ from (by (repeat (with_reducible (first | assumption | exact Ext.refl _ | refine Ext.alloc ?_ _ | refine Ext.drewN ?_ _ | refine Ext.drew ?_))))) hE7; have hY := Ext.trans (show Ext w6 _ from (by (repeat (with_reducible (first | assumption | exact Ext.refl _ | refine Ext.alloc ?_ _ | refine Ext.drewN ?_ _ | refine Ext.drew ?_))))) hE7; clear hE7)
        | (go_at_call 7; (with_reducible refine (HC3.out _).mono ?_); rintro e w8 ⟨ao8, cap8, rfl, hP8, hE8⟩; have HP8 := Lib.hid hP8; have hX := Ext.trans (show Ext w _ from (by (repeat (with_reducible (first | assumption | exact Ext.refl _ | refine Ext.alloc ?_ _ | refine Ext.drewN ?_ _ | refine Ext.drew ?_))))) hE8; have hY := Ext.trans (show Ext w6 _ from (by (repeat (with_reducible (first | assumption | exact Ext.refl _ | refine Ext.alloc ?_ _ | refine Ext.drewN ?_ _ | refine Ext.drew ?_))))) hE8; clear hP8 hE8)
        | (go_at_call 8; (with_reducible refine (eqP_c a ao6 ao8 cap6 cap8 _ (HP6.out.ext (by (repeat (with_reducible (first | assumption | exact Ext.refl _ | refine Ext.alloc ?_ _ | refine Ext.drewN ?_ _ | refine Ext.drew ?_))))) (HP8.out.ext (by (repeat (with_reducible (first | assumption | exact Ext.refl _ | refine Ext.alloc ?_ _ | refine Ext.drewN ?_ _ | refine Ext.drew ?_)))))).mono ?_); rintro e w9 ⟨rfl, hE9⟩; have hX := Ext.trans (show Ext w _ from (by (repeat (with_reducible (first | assumption | exact Ext.refl _ | refine Ext.alloc ?_ _ | refine Ext.drewN ?_ _ | refine Ext.drew ?_))))) hE9; clear hE9)
        | go_in)
      all_goals
        go_ret
        exact ⟨rfl, (by (repeat (with_reducible (first | assumption | exact Ext.refl _ | refine Ext.alloc ?_ _ | refine Ext.drewN ?_ _ | refine Ext.drew ?_))))⟩
  · obtain rfl := cmpT_err hT2 her
    have HC2 := Lib.hid (fun w => compile_c s w (by omega))
    rw [hT2] at HC2
    have d6 : ((er : Int) == 0) = false := by rw [beq_eq_false_iff_ne]; omega
    have d7 : ((er : Int) != 0) = true := by simp; omega
    clear hT2 her
    go_enter Tryd.func3, Tryd.ntmps3
    go_wp2_with (first
      | (go_at_call 4; (with_reducible refine (awake_c _).mono ?_); rintro e w1 ⟨rfl, hE1⟩; have hX := hE1; clear hE1)
      | (go_at_call 5; (with_reducible refine (great_c l ao cap false _ (HPt.out.ext (by (repeat (with_reducible (first | assumption | exact Ext.refl _ | refine Ext.alloc ?_ _ | refine Ext.drewN ?_ _ | refine Ext.drew ?_))))) HG.out).mono ?_); rintro e w2 ⟨rfl, hE2⟩; have hX := Ext.trans (show Ext w _ from (by (repeat (with_reducible (first | assumption | exact Ext.refl _ | refine Ext.alloc ?_ _ | refine Ext.drewN ?_ _ | refine Ext.drew ?_))))) hE2; clear hE2)
      | (first | (go_at_call 6; (with_reducible refine (HTX.out _ (HPt.out.ext (by (repeat (with_reducible (first | assumption | exact Ext.refl _ | refine Ext.alloc ?_ _ | refine Ext.drewN ?_ _ | refine Ext.drew ?_))))) (Hm.out.ext (by (repeat (with_reducible (first | assumption | exact Ext.refl _ | refine Ext.alloc ?_ _ | refine Ext.drewN ?_ _ | refine Ext.drew ?_)))))).mono ?_); rintro e w3 ⟨rfl, hE3⟩; have hX := Ext.trans (show Ext w _ from (by (repeat (with_reducible (first | assumption | exact Ext.refl _ | refine Ext.alloc ?_ _ | refine Ext.drewN ?_ _ | refine Ext.drew ?_))))) hE3; clear hE3) | (go_at_call 7; (with_reducible refine (HC1.out _).mono ?_); rintro e w4 ⟨ao4, cap4, rfl, hP4, hE4⟩; have HP4 := Lib.hid hP4; have hX := Ext.trans (show Ext w _ from (by (repeat (with_reducible (first | assumption | exact Ext.refl _ | refine Ext.alloc ?_ _ | refine Ext.drewN ?_ _ | refine Ext.drew ?_))))) hE4; clear hP4 hE4))
      | (go_at_call 7; (with_reducible refine (HC2.out _).mono ?_); rintro e w6 ⟨ao6, cap6, rfl, hP6, hE6⟩; have HP6 := Lib.hid hP6; have hX := Ext.trans (show Ext w _ from (by (repeat (with_reducible (first | assumption | exact Ext.refl _ | refine Ext.alloc ?_ _ | refine Ext.drewN ?_ _ | refine Ext.drew ?_))))) hE6; clear hP6 hE6)
      | go_in)
    all_goals
      go_ret
      exact ⟨rfl, (by (repeat (with_reducible (first | assumption | exact Ext.refl _ | refine Ext.alloc ?_ _ | refine Ext.drewN ?_ _ | refine Ext.drew ?_))))⟩
set_option maxRecDepth 100000 in
set_option maxHeartbeats 1000000 in
theorem back_C (l : List Prt) (ao : Option Addr) (cap : Nat) (s : List UInt8) (w : World) (h : PtV ao cap l w) (hm : Lm w) (hg : greatB l = false) (hs : s.length ≤ 1000) (hv : validB l = true) (hq : ¬ 200 < (txtL l).length) :
    Calls Tryd.prog 3 #[.slice ao l.length cap, .string ⟨s.toArray⟩] w fun e w' => e = .returned (.bool true) ∧ Ext w w' := by
  have d1 : ¬ (1000 : Int) < (s.length : Int) := by omega
  have HTX := Lib.hid (fun w h hm => text_ok l ao cap w h (greatB_texts hg) hv hm)
  have HC1 := Lib.hid (fun w => compile_c (txtL l) w (by have := txtL_le hv; omega))
  rw [txt_back l hv] at HC1
  have hq0 := txtL_le hv
  obtain ⟨T, hT⟩ : ∃ T, txtL l = T := ⟨_, rfl⟩
  rw [hT] at HTX HC1 hq hq0
  have d2 : ¬ (200 : Int) < (T.length : Int) := by omega
  rw [if_neg hq] at HC1
  have HG := Lib.hid hg
  have HPt := Lib.hid h
  have Hm := Lib.hid hm
  obtain ⟨a, c, er, hT2⟩ : ∃ a c er, cmpT s = (a, c, er) := ⟨_, _, _, rfl⟩
  clear hg hv h hm hT hq
  by_cases her : er = 0
  · subst her
    have hva := cmp_valid hT2
    have hla : ∀ p ∈ a, p.t.length ≤ 4000 := fun p hp => by
      have h1 := hva
      unfold validB at h1
      simp only [Bool.and_eq_true, decide_eq_true_eq] at h1
      have h2 := tailB_all a none h1.2 p hp
      by_cases hk : p.k = 1
      · have := (partB_lit h2 hk).2.2.1
        omega
      · rw [(partB_fld h2 hk).2.2.1]; simp
    have hT3 := txt_back a hva
    have HTX2 := Lib.hid (fun ao cap w h hm => text_ok a ao cap w h hla hva hm)
    have HC3 := Lib.hid (fun w => compile_c (txtL a) w (by have := txtL_le hva; omega))
    rw [hT3] at HC3
    have HC2 := Lib.hid (fun w => compile_c s w (by omega))
    rw [hT2] at HC2
    obtain ⟨T2, hTT⟩ : ∃ T, txtL a = T := ⟨_, rfl⟩
    rw [hTT] at HTX2 HC3
    by_cases h200 : 200 < T2.length
    · have d5 : (200 : Int) < (T2.length : Int) := by omega
      rw [if_pos h200] at HC3
      clear hva hla hT3 hTT hT2 h200
      go_enter Tryd.func3, Tryd.ntmps3
      go_wp2_with (first
        | (go_at_call 4; (with_reducible refine (awake_c _).mono ?_); rintro e w1 ⟨rfl, hE1⟩; have hX := hE1; clear hE1)
        | (go_at_call 5; (with_reducible refine (great_c l ao cap false _ (HPt.out.ext (by (repeat (with_reducible (first | assumption | exact Ext.refl _ | refine Ext.alloc ?_ _ | refine Ext.drewN ?_ _ | refine Ext.drew ?_))))) HG.out).mono ?_); rintro e w2 ⟨rfl, hE2⟩; have hX := Ext.trans (show Ext w _ from (by (repeat (with_reducible (first | assumption | exact Ext.refl _ | refine Ext.alloc ?_ _ | refine Ext.drewN ?_ _ | refine Ext.drew ?_))))) hE2; clear hE2)
        | (first | (go_at_call 6; (with_reducible refine (HTX.out _ (HPt.out.ext (by (repeat (with_reducible (first | assumption | exact Ext.refl _ | refine Ext.alloc ?_ _ | refine Ext.drewN ?_ _ | refine Ext.drew ?_))))) (Hm.out.ext (by (repeat (with_reducible (first | assumption | exact Ext.refl _ | refine Ext.alloc ?_ _ | refine Ext.drewN ?_ _ | refine Ext.drew ?_)))))).mono ?_); rintro e w3 ⟨rfl, hE3⟩; have hX := Ext.trans (show Ext w _ from (by (repeat (with_reducible (first | assumption | exact Ext.refl _ | refine Ext.alloc ?_ _ | refine Ext.drewN ?_ _ | refine Ext.drew ?_))))) hE3; clear hE3) | (go_at_call 7; (with_reducible refine (HC1.out _).mono ?_); rintro e w4 ⟨ao4, cap4, rfl, hP4, hE4⟩; have HP4 := Lib.hid hP4; have hX := Ext.trans (show Ext w _ from (by (repeat (with_reducible (first | assumption | exact Ext.refl _ | refine Ext.alloc ?_ _ | refine Ext.drewN ?_ _ | refine Ext.drew ?_))))) hE4; clear hP4 hE4) | (go_at_call 8; (with_reducible refine (eqP_c l ao ao4 cap cap4 _ (HPt.out.ext (by (repeat (with_reducible (first | assumption | exact Ext.refl _ | refine Ext.alloc ?_ _ | refine Ext.drewN ?_ _ | refine Ext.drew ?_))))) (HP4.out.ext (by (repeat (with_reducible (first | assumption | exact Ext.refl _ | refine Ext.alloc ?_ _ | refine Ext.drewN ?_ _ | refine Ext.drew ?_)))))).mono ?_); rintro e w5 ⟨rfl, hE5⟩; have hX := Ext.trans (show Ext w _ from (by (repeat (with_reducible (first | assumption | exact Ext.refl _ | refine Ext.alloc ?_ _ | refine Ext.drewN ?_ _ | refine Ext.drew ?_))))) hE5; clear hE5))
        | (go_at_call 7; (with_reducible refine (HC2.out _).mono ?_); rintro e w6 ⟨ao6, cap6, rfl, hP6, hE6⟩; have HP6 := Lib.hid hP6; have hX := Ext.trans (show Ext w _ from (by (repeat (with_reducible (first | assumption | exact Ext.refl _ | refine Ext.alloc ?_ _ | refine Ext.drewN ?_ _ | refine Ext.drew ?_))))) hE6; clear hP6 hE6)
        | (go_at_call 6; (with_reducible refine (HTX2.out ao6 cap6 _ (HP6.out.ext (by (repeat (with_reducible (first | assumption | exact Ext.refl _ | refine Ext.alloc ?_ _ | refine Ext.drewN ?_ _ | refine Ext.drew ?_))))) (Hm.out.ext (by (repeat (with_reducible (first | assumption | exact Ext.refl _ | refine Ext.alloc ?_ _ | refine Ext.drewN ?_ _ | refine Ext.drew ?_)))))).mono ?_); rintro e w7 ⟨rfl, hE7⟩; have hX := Ext.trans (show Ext w _ from (by (repeat (with_reducible (first | assumption | exact Ext.refl _ | refine Ext.alloc ?_ _ | refine Ext.drewN ?_ _ | refine Ext.drew ?_))))) hE7; have hY := Ext.trans (show Ext w6 _ from (by (repeat (with_reducible (first | assumption | exact Ext.refl _ | refine Ext.alloc ?_ _ | refine Ext.drewN ?_ _ | refine Ext.drew ?_))))) hE7; clear hE7)
        | (go_at_call 7; (with_reducible refine (HC3.out _).mono ?_); rintro e w8 ⟨ao8, cap8, rfl, hP8, hE8⟩; have HP8 := Lib.hid hP8; have hX := Ext.trans (show Ext w _ from (by (repeat (with_reducible (first | assumption | exact Ext.refl _ | refine Ext.alloc ?_ _ | refine Ext.drewN ?_ _ | refine Ext.drew ?_))))) hE8; have hY := Ext.trans (show Ext w6 _ from (by (repeat (with_reducible (first | assumption | exact Ext.refl _ | refine Ext.alloc ?_ _ | refine Ext.drewN ?_ _ | refine Ext.drew ?_))))) hE8; clear hP8 hE8)
        | go_in)
      all_goals
        go_ret
        exact ⟨rfl, (by (repeat (with_reducible (first | assumption | exact Ext.refl _ | refine Ext.alloc ?_ _ | refine Ext.drewN ?_ _ | refine Ext.drew ?_))))⟩
    · have d5 : ¬ (200 : Int) < (T2.length : Int) := by omega
      rw [if_neg h200] at HC3
      clear hva hla hT3 hTT hT2 h200
      go_enter Tryd.func3, Tryd.ntmps3
      go_wp2_with (first
        | (go_at_call 4; (with_reducible refine (awake_c _).mono ?_); rintro e w1 ⟨rfl, hE1⟩; have hX := hE1; clear hE1)
        | (go_at_call 5; (with_reducible refine (great_c l ao cap false _ (HPt.out.ext (by (repeat (with_reducible (first | assumption | exact Ext.refl _ | refine Ext.alloc ?_ _ | refine Ext.drewN ?_ _ | refine Ext.drew ?_))))) HG.out).mono ?_); rintro e w2 ⟨rfl, hE2⟩; have hX := Ext.trans (show Ext w _ from (by (repeat (with_reducible (first | assumption | exact Ext.refl _ | refine Ext.alloc ?_ _ | refine Ext.drewN ?_ _ | refine Ext.drew ?_))))) hE2; clear hE2)
        | (first | (go_at_call 6; (with_reducible refine (HTX.out _ (HPt.out.ext (by (repeat (with_reducible (first | assumption | exact Ext.refl _ | refine Ext.alloc ?_ _ | refine Ext.drewN ?_ _ | refine Ext.drew ?_))))) (Hm.out.ext (by (repeat (with_reducible (first | assumption | exact Ext.refl _ | refine Ext.alloc ?_ _ | refine Ext.drewN ?_ _ | refine Ext.drew ?_)))))).mono ?_); rintro e w3 ⟨rfl, hE3⟩; have hX := Ext.trans (show Ext w _ from (by (repeat (with_reducible (first | assumption | exact Ext.refl _ | refine Ext.alloc ?_ _ | refine Ext.drewN ?_ _ | refine Ext.drew ?_))))) hE3; clear hE3) | (go_at_call 7; (with_reducible refine (HC1.out _).mono ?_); rintro e w4 ⟨ao4, cap4, rfl, hP4, hE4⟩; have HP4 := Lib.hid hP4; have hX := Ext.trans (show Ext w _ from (by (repeat (with_reducible (first | assumption | exact Ext.refl _ | refine Ext.alloc ?_ _ | refine Ext.drewN ?_ _ | refine Ext.drew ?_))))) hE4; clear hP4 hE4) | (go_at_call 8; (with_reducible refine (eqP_c l ao ao4 cap cap4 _ (HPt.out.ext (by (repeat (with_reducible (first | assumption | exact Ext.refl _ | refine Ext.alloc ?_ _ | refine Ext.drewN ?_ _ | refine Ext.drew ?_))))) (HP4.out.ext (by (repeat (with_reducible (first | assumption | exact Ext.refl _ | refine Ext.alloc ?_ _ | refine Ext.drewN ?_ _ | refine Ext.drew ?_)))))).mono ?_); rintro e w5 ⟨rfl, hE5⟩; have hX := Ext.trans (show Ext w _ from (by (repeat (with_reducible (first | assumption | exact Ext.refl _ | refine Ext.alloc ?_ _ | refine Ext.drewN ?_ _ | refine Ext.drew ?_))))) hE5; clear hE5))
        | (go_at_call 7; (with_reducible refine (HC2.out _).mono ?_); rintro e w6 ⟨ao6, cap6, rfl, hP6, hE6⟩; have HP6 := Lib.hid hP6; have hX := Ext.trans (show Ext w _ from (by (repeat (with_reducible (first | assumption | exact Ext.refl _ | refine Ext.alloc ?_ _ | refine Ext.drewN ?_ _ | refine Ext.drew ?_))))) hE6; clear hP6 hE6)
        | (go_at_call 6; (with_reducible refine (HTX2.out ao6 cap6 _ (HP6.out.ext (by (repeat (with_reducible (first | assumption | exact Ext.refl _ | refine Ext.alloc ?_ _ | refine Ext.drewN ?_ _ | refine Ext.drew ?_))))) (Hm.out.ext (by (repeat (with_reducible (first | assumption | exact Ext.refl _ | refine Ext.alloc ?_ _ | refine Ext.drewN ?_ _ | refine Ext.drew ?_)))))).mono ?_); rintro e w7 ⟨rfl, hE7⟩; have hX := Ext.trans (show Ext w _ from (by (repeat (with_reducible (first | assumption | exact Ext.refl _ | refine Ext.alloc ?_ _ | refine Ext.drewN ?_ _ | refine Ext.drew ?_))))) hE7; have hY := Ext.trans (show Ext w6 _ from (by (repeat (with_reducible (first | assumption | exact Ext.refl _ | refine Ext.alloc ?_ _ | refine Ext.drewN ?_ _ | refine Ext.drew ?_))))) hE7; clear hE7)
        | (go_at_call 7; (with_reducible refine (HC3.out _).mono ?_); rintro e w8 ⟨ao8, cap8, rfl, hP8, hE8⟩; have HP8 := Lib.hid hP8; have hX := Ext.trans (show Ext w _ from (by (repeat (with_reducible (first | assumption | exact Ext.refl _ | refine Ext.alloc ?_ _ | refine Ext.drewN ?_ _ | refine Ext.drew ?_))))) hE8; have hY := Ext.trans (show Ext w6 _ from (by (repeat (with_reducible (first | assumption | exact Ext.refl _ | refine Ext.alloc ?_ _ | refine Ext.drewN ?_ _ | refine Ext.drew ?_))))) hE8; clear hP8 hE8)
        | (go_at_call 8; (with_reducible refine (eqP_c a ao6 ao8 cap6 cap8 _ (HP6.out.ext (by (repeat (with_reducible (first | assumption | exact Ext.refl _ | refine Ext.alloc ?_ _ | refine Ext.drewN ?_ _ | refine Ext.drew ?_))))) (HP8.out.ext (by (repeat (with_reducible (first | assumption | exact Ext.refl _ | refine Ext.alloc ?_ _ | refine Ext.drewN ?_ _ | refine Ext.drew ?_)))))).mono ?_); rintro e w9 ⟨rfl, hE9⟩; have hX := Ext.trans (show Ext w _ from (by (repeat (with_reducible (first | assumption | exact Ext.refl _ | refine Ext.alloc ?_ _ | refine Ext.drewN ?_ _ | refine Ext.drew ?_))))) hE9; clear hE9)
        | go_in)
      all_goals
        go_ret
        exact ⟨rfl, (by (repeat (with_reducible (first | assumption | exact Ext.refl _ | refine Ext.alloc ?_ _ | refine Ext.drewN ?_ _ | refine Ext.drew ?_))))⟩
  · obtain rfl := cmpT_err hT2 her
    have HC2 := Lib.hid (fun w => compile_c s w (by omega))
    rw [hT2] at HC2
    have d6 : ((er : Int) == 0) = false := by rw [beq_eq_false_iff_ne]; omega
    have d7 : ((er : Int) != 0) = true := by simp; omega
    clear hT2 her
    go_enter Tryd.func3, Tryd.ntmps3
    go_wp2_with (first
      | (go_at_call 4; (with_reducible refine (awake_c _).mono ?_); rintro e w1 ⟨rfl, hE1⟩; have hX := hE1; clear hE1)
      | (go_at_call 5; (with_reducible refine (great_c l ao cap false _ (HPt.out.ext (by (repeat (with_reducible (first | assumption | exact Ext.refl _ | refine Ext.alloc ?_ _ | refine Ext.drewN ?_ _ | refine Ext.drew ?_))))) HG.out).mono ?_); rintro e w2 ⟨rfl, hE2⟩; have hX := Ext.trans (show Ext w _ from (by (repeat (with_reducible (first | assumption | exact Ext.refl _ | refine Ext.alloc ?_ _ | refine Ext.drewN ?_ _ | refine Ext.drew ?_))))) hE2; clear hE2)
      | (first | (go_at_call 6; (with_reducible refine (HTX.out _ (HPt.out.ext (by (repeat (with_reducible (first | assumption | exact Ext.refl _ | refine Ext.alloc ?_ _ | refine Ext.drewN ?_ _ | refine Ext.drew ?_))))) (Hm.out.ext (by (repeat (with_reducible (first | assumption | exact Ext.refl _ | refine Ext.alloc ?_ _ | refine Ext.drewN ?_ _ | refine Ext.drew ?_)))))).mono ?_); rintro e w3 ⟨rfl, hE3⟩; have hX := Ext.trans (show Ext w _ from (by (repeat (with_reducible (first | assumption | exact Ext.refl _ | refine Ext.alloc ?_ _ | refine Ext.drewN ?_ _ | refine Ext.drew ?_))))) hE3; clear hE3) | (go_at_call 7; (with_reducible refine (HC1.out _).mono ?_); rintro e w4 ⟨ao4, cap4, rfl, hP4, hE4⟩; have HP4 := Lib.hid hP4; have hX := Ext.trans (show Ext w _ from (by (repeat (with_reducible (first | assumption | exact Ext.refl _ | refine Ext.alloc ?_ _ | refine Ext.drewN ?_ _ | refine Ext.drew ?_))))) hE4; clear hP4 hE4) | (go_at_call 8; (with_reducible refine (eqP_c l ao ao4 cap cap4 _ (HPt.out.ext (by (repeat (with_reducible (first | assumption | exact Ext.refl _ | refine Ext.alloc ?_ _ | refine Ext.drewN ?_ _ | refine Ext.drew ?_))))) (HP4.out.ext (by (repeat (with_reducible (first | assumption | exact Ext.refl _ | refine Ext.alloc ?_ _ | refine Ext.drewN ?_ _ | refine Ext.drew ?_)))))).mono ?_); rintro e w5 ⟨rfl, hE5⟩; have hX := Ext.trans (show Ext w _ from (by (repeat (with_reducible (first | assumption | exact Ext.refl _ | refine Ext.alloc ?_ _ | refine Ext.drewN ?_ _ | refine Ext.drew ?_))))) hE5; clear hE5))
      | (go_at_call 7; (with_reducible refine (HC2.out _).mono ?_); rintro e w6 ⟨ao6, cap6, rfl, hP6, hE6⟩; have HP6 := Lib.hid hP6; have hX := Ext.trans (show Ext w _ from (by (repeat (with_reducible (first | assumption | exact Ext.refl _ | refine Ext.alloc ?_ _ | refine Ext.drewN ?_ _ | refine Ext.drew ?_))))) hE6; clear hP6 hE6)
      | go_in)
    all_goals
      go_ret
      exact ⟨rfl, (by (repeat (with_reducible (first | assumption | exact Ext.refl _ | refine Ext.alloc ?_ _ | refine Ext.drewN ?_ _ | refine Ext.drew ?_))))⟩
set_option maxRecDepth 100000 in
set_option maxHeartbeats 1000000 in
theorem back_walk (l : List Prt) (ao : Option Addr) (cap : Nat) (sb : ByteArray) (w : World) (h : PtV ao cap l w) (hm : Lm w) :
    Calls Tryd.prog 3 #[.slice ao l.length cap, .string sb] w fun e w' => e = .returned (.bool true) ∧ Ext w w' := by
  obtain ⟨s, rfl⟩ : ∃ s : List UInt8, sb = ⟨s.toArray⟩ := ⟨sb.data.toList, ba_mk sb⟩
  rcases Bool.eq_false_or_eq_true (greatB l) with hg | hg
  · have HG := Lib.hid hg
    have HPt := Lib.hid h
    clear hg h hm
    go_enter Tryd.func3, Tryd.ntmps3
    go_wp2_with (first
      | (go_at_call 4; (with_reducible refine (awake_c _).mono ?_); rintro e w1 ⟨rfl, hE1⟩; have hX := hE1; clear hE1)
      | (go_at_call 5; (with_reducible refine (great_c l ao cap true _ (HPt.out.ext (by (repeat (with_reducible (first | assumption | exact Ext.refl _ | refine Ext.alloc ?_ _ | refine Ext.drewN ?_ _ | refine Ext.drew ?_))))) HG.out).mono ?_); rintro e w2 ⟨rfl, hE2⟩; have hX := Ext.trans (show Ext w _ from (by (repeat (with_reducible (first | assumption | exact Ext.refl _ | refine Ext.alloc ?_ _ | refine Ext.drewN ?_ _ | refine Ext.drew ?_))))) hE2; clear hE2))
    all_goals
      go_ret
      exact ⟨rfl, (by (repeat (with_reducible (first | assumption | exact Ext.refl _ | refine Ext.alloc ?_ _ | refine Ext.drewN ?_ _ | refine Ext.drew ?_))))⟩
  · by_cases hs : s.length ≤ 1000
    · rcases Bool.eq_false_or_eq_true (validB l) with hv | hv
      · by_cases hq : 200 < (txtL l).length
        · exact back_B l ao cap s w h hm hg hs hv hq
        · exact back_C l ao cap s w h hm hg hs hv hq
      · exact back_A l ao cap s w h hm hg hs hv
    · have d1 : (1000 : Int) < (s.length : Int) := by omega
      have HG := Lib.hid hg
      have HPt := Lib.hid h
      clear hg h hm hs
      go_enter Tryd.func3, Tryd.ntmps3
      go_wp2_with (first
        | (go_at_call 4; (with_reducible refine (awake_c _).mono ?_); rintro e w1 ⟨rfl, hE1⟩; have hX := hE1; clear hE1)
        | (go_at_call 5; (with_reducible refine (great_c l ao cap false _ (HPt.out.ext (by (repeat (with_reducible (first | assumption | exact Ext.refl _ | refine Ext.alloc ?_ _ | refine Ext.drewN ?_ _ | refine Ext.drew ?_))))) HG.out).mono ?_); rintro e w2 ⟨rfl, hE2⟩; have hX := Ext.trans (show Ext w _ from (by (repeat (with_reducible (first | assumption | exact Ext.refl _ | refine Ext.alloc ?_ _ | refine Ext.drewN ?_ _ | refine Ext.drew ?_))))) hE2; clear hE2))
      all_goals
        go_ret
        exact ⟨rfl, (by (repeat (with_reducible (first | assumption | exact Ext.refl _ | refine Ext.alloc ?_ _ | refine Ext.drewN ?_ _ | refine Ext.drew ?_))))⟩
end Go.Proofs.YticckkadmhklmaaDoor
