/- Locales: the walks of rules and ruled. -/
import Derived.Test.YtnhdmnhfllecgaaGreatDoorQ04
import Derived.Test.YtnhdmnhfllecgaaGreatDoorQ10
import Derived.Test.YtnhdmnhfllecgaaGreatDoorQ12
import Derived.Test.YtnhdmnhfllecgaaGreatDoorQ08
namespace Go.Proofs.YtnhdmnhfllecgaaGreatDoor
set_option linter.unusedVariables false
set_option linter.unusedSimpArgs false
open Go.RowKit

theorem okR_nil : okR [] = false := by kernel_rfl
theorem isRule_l (s : List UInt8) (b : Bool) (w : World) (hm : Lm w) (hs : s.length ≤ 7000) (h : okR s = b) : Calls Tryz.prog 55 #[.string ⟨s.toArray⟩] w fun e w' => e = .returned (.bool b) ∧ Ext w w' := by
  rw [← h]; exact isRule_c s w hm hs
theorem rRule_l (s : List UInt8) (b : Bool) (w : World) (hs : s.length ≤ 7000) (h : okR s = b) : Calls Tryz.prog 89 #[.string ⟨s.toArray⟩, .int .i64 0] w fun e w' => ∃ v : Bool, e = .returned (.tuple #[.bool b, .bool v]) ∧ Ext w w' := by
  rw [← h]; exact (rRule_0 s w hs).mono fun _ _ ⟨a, b⟩ => ⟨_, a, b⟩
set_option maxRecDepth 100000 in
set_option maxHeartbeats 1000000 in
theorem rules_w (l : List Plu) (ao : Option Addr) (cap : Nat) (b : Bool) (w : World) (h : PlV ao cap l w) (hl : shP l) (hm : Lm w) (hb : rulB wordB l = b) :
    Calls Tryz.prog 29 #[.slice ao l.length cap, .func (.func 30) #[] #[]] w fun e w' => e = .returned (.bool b) ∧ Ext w w' := by
  have hlen := h.1
  have hcap := h.2.1
  unfold maxLen at hcap
  have HP := Lib.hid h.2.2
  have Hl := Lib.hid hl
  have Hm := Lib.hid hm
  clear h hl hm
  by_cases h1 : 1 ≤ l.length
  · by_cases h2 : l.length ≤ 8
    · have HB := Lib.hid hb
      clear hb
      go_enter Tryz.func29, Tryz.ntmps29
      go_wp2_with fail
      go_loopw [18] (fun i wr => ∃ j : Nat, j ≤ l.length ∧ i = .int .i64 (j : Int) ∧ Hid (∀ i, i < j → rdAt l i) ∧ Hid (∀ i (h : i < l.length), i < j → wordB l[i].c = true) ∧ Ext w wr) (fun i _ => l.length - (intOf i).toNat)
      case atStart => exact ⟨0, Nat.zero_le _, rfl, fun i hi => absurd hi (Nat.not_lt_zero i), fun i _ hi => absurd hi (Nat.not_lt_zero i), Ext.refl _⟩
      case round =>
        obtain ⟨j, hj, rfl, Hall, Hg, hE⟩ := hrel
        by_cases hlt : j < l.length
        · obtain ⟨R, off, rfl, hR0, hc⟩ := HP.out (by rintro rfl; simp at hlt)
          obtain ⟨c0, c1⟩ := hc j hlt
          replace c0 := (hE.cells R _ hR0).trans c0
          replace c1 := (hE.cells R _ hR0).trans c1
          have hRr := hE.lt hR0
          have hsh := Hl.out l[j] (List.getElem_mem _)
          have HN : Hid (¬ rdAt l j → b = false) := fun q => by rw [← HB.out]; unfold rulB; rw [ruled_no j hlt q]; rfl
          have HG : Hid (wordB l[j].c = false → b = false) := fun q => by rw [← HB.out]; unfold rulB; rw [all_plu_no j hlt q]; simp
          have HGy : Hid (wordB l[j].c = true → ∀ i (h : i < l.length), i < j + 1 → wordB l[i].c = true) := fun q i h hi => by
            by_cases e : i = j
            · subst e; exact q
            · exact Hg.out i h (by omega)
          have hRd : rdAt l j ↔ (j + 1 = l.length → l[j].r = []) ∧ (j + 1 ≠ l.length → okR l[j].r = true) := ⟨fun q => q hlt, fun q _ => q⟩
          have HY : Hid (rdAt l j → ∀ i, i < j + 1 → rdAt l i) := fun q i hi => by
            by_cases e : i = j
            · rw [e]; exact q
            · exact Hall.out i (by omega)
          obtain ⟨p, hpp⟩ : ∃ p, p = l[j] := ⟨_, rfl⟩
          rw [← hpp] at c0 c1 hsh hRd HG HGy
          clear hpp hc
          obtain ⟨pc, pr⟩ := p
          simp only at c0 c1 hsh hRd HG HGy
          obtain ⟨hs1, hs2⟩ := hsh
          have hs1' : pc.length ≤ 9223372036854775806 := by omega
          have HRd := Lib.hid hRd
          have hEa : Ext w (wr.alloc (.cells #[.string ⟨pc.toArray⟩, .string ⟨pr.toArray⟩] 50)) := hE.alloc _
          have Hm1 := Lib.hid (Hm.out.ext hEa)
          clear hRd
          rcases Bool.eq_false_or_eq_true (wordB pc) with hg | hg
          · have HGd := Lib.hid hg
            have HGn := Lib.hid (HGy.out hg)
            clear hg
            by_cases hla : j + 1 = l.length
            · have t1 : ((j : Int) == (l.length : Int) - 1) = true := by rw [beq_iff_eq]; omega
              cases pr with
              | nil =>
                have HS := Lib.hid (HY.out (HRd.out.2 ⟨fun _ => rfl, fun q => absurd hla q⟩))
                clear hla
                go_wp2_with (first
                  | (go_at_call 30; (with_reducible refine (isWord_c pc true _ hs1' HGd.out).mono ?_); rintro e w1 ⟨rfl, rfl⟩))
                go_roundw
                case rel => exact ⟨j + 1, by omega, by go_num, HS, HGn, hEa⟩
                case measure => simp [intOf]; omega
              | cons x t =>
                have HF := Lib.hid (HN.out (fun q => by have := (HRd.out.1 q).1 hla; cases this))
                clear hla
                go_wp2_with (first
                  | (go_at_call 30; (with_reducible refine (isWord_c pc true _ hs1' HGd.out).mono ?_); rintro e w1 ⟨rfl, rfl⟩))
                go_ret
                exact ⟨by rw [HF.out]; rfl, hEa⟩
            · have t1 : ((j : Int) == (l.length : Int) - 1) = false := by rw [beq_eq_false_iff_ne]; omega
              rcases Bool.eq_false_or_eq_true (okR pr) with ho | ho
              · have HO := Lib.hid ho
                have HS := Lib.hid (HY.out (HRd.out.2 ⟨fun q => absurd q hla, fun _ => ho⟩))
                clear hla ho
                go_wp2_with (first
                  | (go_at_call 30; (with_reducible refine (isWord_c pc true _ hs1' HGd.out).mono ?_); rintro e w1 ⟨rfl, rfl⟩)
                  | (go_at_call 55; (with_reducible refine (isRule_l pr true _ Hm1.out hs2 HO.out).mono ?_); rintro e w2 ⟨rfl, hE2⟩))
                go_roundw
                case rel => exact ⟨j + 1, by omega, by go_num, HS, HGn, hEa.trans hE2⟩
                case measure => simp [intOf]; omega
              · have HO := Lib.hid ho
                have HF := Lib.hid (HN.out (fun q => by have := (HRd.out.1 q).2 hla; rw [ho] at this; cases this))
                clear hla ho
                go_wp2_with (first
                  | (go_at_call 30; (with_reducible refine (isWord_c pc true _ hs1' HGd.out).mono ?_); rintro e w1 ⟨rfl, rfl⟩)
                  | (go_at_call 55; (with_reducible refine (isRule_l pr false _ Hm1.out hs2 HO.out).mono ?_); rintro e w2 ⟨rfl, hE2⟩))
                go_ret
                exact ⟨by rw [HF.out]; rfl, hEa.trans hE2⟩
          · have HGd := Lib.hid hg
            have HF := Lib.hid (HG.out hg)
            have t1 : ((j : Int) == (l.length : Int) - 1) = decide (j + 1 = l.length) := by rw [Bool.eq_iff_iff, beq_iff_eq, decide_eq_true_eq]; omega
            clear hg
            go_wp2_with (first
              | (go_at_call 30; (with_reducible refine (isWord_c pc false _ hs1' HGd.out).mono ?_); rintro e w1 ⟨rfl, rfl⟩))
            go_ret
            exact ⟨by rw [HF.out]; rfl, hEa⟩
        · obtain rfl : j = l.length := by omega
          have Hn : Hid (b = true) := by rw [Hid, ← HB.out]; unfold rulB; rw [ruled_yes h1 h2 Hall.out, all_plu (fun i hi => Hg.out i hi hi)]; rfl
          go_wp2_with fail
          go_ret
          exact ⟨by rw [Hn.out]; rfl, hE⟩
    · have hq : rulB wordB l = false := by unfold rulB ruledB; rw [decide_eq_false h2]; simp
      rw [hq] at hb
      subst hb
      have d2 : (8 : Int) < (l.length : Int) := by omega
      clear h2 hq
      go_enter Tryz.func29, Tryz.ntmps29
      go_wp2_with fail
      go_ret
      exact ⟨rfl, Ext.refl _⟩
  · have hq : rulB wordB l = false := by unfold rulB ruledB; rw [decide_eq_false h1]; simp
    rw [hq] at hb
    subst hb
    have d2 : (l.length : Int) < 1 := by omega
    clear h1 hq
    go_enter Tryz.func29, Tryz.ntmps29
    go_wp2_with fail
    go_ret
    exact ⟨rfl, Ext.refl _⟩
set_option maxRecDepth 100000 in
set_option maxHeartbeats 1000000 in
theorem rules_s (l : List Plu) (ao : Option Addr) (cap : Nat) (b : Bool) (w : World) (h : PlV ao cap l w) (hl : shP l) (hm : Lm w) (hb : rulB suffB l = b) :
    Calls Tryz.prog 29 #[.slice ao l.length cap, .func (.func 31) #[] #[]] w fun e w' => e = .returned (.bool b) ∧ Ext w w' := by
  have hlen := h.1
  have hcap := h.2.1
  unfold maxLen at hcap
  have HP := Lib.hid h.2.2
  have Hl := Lib.hid hl
  have Hm := Lib.hid hm
  clear h hl hm
  by_cases h1 : 1 ≤ l.length
  · by_cases h2 : l.length ≤ 8
    · have HB := Lib.hid hb
      clear hb
      go_enter Tryz.func29, Tryz.ntmps29
      go_wp2_with fail
      go_loopw [18] (fun i wr => ∃ j : Nat, j ≤ l.length ∧ i = .int .i64 (j : Int) ∧ Hid (∀ i, i < j → rdAt l i) ∧ Hid (∀ i (h : i < l.length), i < j → suffB l[i].c = true) ∧ Ext w wr) (fun i _ => l.length - (intOf i).toNat)
      case atStart => exact ⟨0, Nat.zero_le _, rfl, fun i hi => absurd hi (Nat.not_lt_zero i), fun i _ hi => absurd hi (Nat.not_lt_zero i), Ext.refl _⟩
      case round =>
        obtain ⟨j, hj, rfl, Hall, Hg, hE⟩ := hrel
        by_cases hlt : j < l.length
        · obtain ⟨R, off, rfl, hR0, hc⟩ := HP.out (by rintro rfl; simp at hlt)
          obtain ⟨c0, c1⟩ := hc j hlt
          replace c0 := (hE.cells R _ hR0).trans c0
          replace c1 := (hE.cells R _ hR0).trans c1
          have hRr := hE.lt hR0
          have hsh := Hl.out l[j] (List.getElem_mem _)
          have HN : Hid (¬ rdAt l j → b = false) := fun q => by rw [← HB.out]; unfold rulB; rw [ruled_no j hlt q]; rfl
          have HG : Hid (suffB l[j].c = false → b = false) := fun q => by rw [← HB.out]; unfold rulB; rw [all_plu_no j hlt q]; simp
          have HGy : Hid (suffB l[j].c = true → ∀ i (h : i < l.length), i < j + 1 → suffB l[i].c = true) := fun q i h hi => by
            by_cases e : i = j
            · subst e; exact q
            · exact Hg.out i h (by omega)
          have hRd : rdAt l j ↔ (j + 1 = l.length → l[j].r = []) ∧ (j + 1 ≠ l.length → okR l[j].r = true) := ⟨fun q => q hlt, fun q _ => q⟩
          have HY : Hid (rdAt l j → ∀ i, i < j + 1 → rdAt l i) := fun q i hi => by
            by_cases e : i = j
            · rw [e]; exact q
            · exact Hall.out i (by omega)
          obtain ⟨p, hpp⟩ : ∃ p, p = l[j] := ⟨_, rfl⟩
          rw [← hpp] at c0 c1 hsh hRd HG HGy
          clear hpp hc
          obtain ⟨pc, pr⟩ := p
          simp only at c0 c1 hsh hRd HG HGy
          obtain ⟨hs1, hs2⟩ := hsh
          have hs1' : pc.length ≤ 9223372036854775806 := by omega
          have HRd := Lib.hid hRd
          have hEa : Ext w (wr.alloc (.cells #[.string ⟨pc.toArray⟩, .string ⟨pr.toArray⟩] 50)) := hE.alloc _
          have Hm1 := Lib.hid (Hm.out.ext hEa)
          clear hRd
          rcases Bool.eq_false_or_eq_true (suffB pc) with hg | hg
          · have HGd := Lib.hid hg
            have HGn := Lib.hid (HGy.out hg)
            clear hg
            by_cases hla : j + 1 = l.length
            · have t1 : ((j : Int) == (l.length : Int) - 1) = true := by rw [beq_iff_eq]; omega
              cases pr with
              | nil =>
                have HS := Lib.hid (HY.out (HRd.out.2 ⟨fun _ => rfl, fun q => absurd hla q⟩))
                clear hla
                go_wp2_with (first
                  | (go_at_call 31; (with_reducible refine (isSuffix_c pc true _ hs1' HGd.out).mono ?_); rintro e w1 ⟨rfl, rfl⟩))
                go_roundw
                case rel => exact ⟨j + 1, by omega, by go_num, HS, HGn, hEa⟩
                case measure => simp [intOf]; omega
              | cons x t =>
                have HF := Lib.hid (HN.out (fun q => by have := (HRd.out.1 q).1 hla; cases this))
                clear hla
                go_wp2_with (first
                  | (go_at_call 31; (with_reducible refine (isSuffix_c pc true _ hs1' HGd.out).mono ?_); rintro e w1 ⟨rfl, rfl⟩))
                go_ret
                exact ⟨by rw [HF.out]; rfl, hEa⟩
            · have t1 : ((j : Int) == (l.length : Int) - 1) = false := by rw [beq_eq_false_iff_ne]; omega
              rcases Bool.eq_false_or_eq_true (okR pr) with ho | ho
              · have HO := Lib.hid ho
                have HS := Lib.hid (HY.out (HRd.out.2 ⟨fun q => absurd q hla, fun _ => ho⟩))
                clear hla ho
                go_wp2_with (first
                  | (go_at_call 31; (with_reducible refine (isSuffix_c pc true _ hs1' HGd.out).mono ?_); rintro e w1 ⟨rfl, rfl⟩)
                  | (go_at_call 55; (with_reducible refine (isRule_l pr true _ Hm1.out hs2 HO.out).mono ?_); rintro e w2 ⟨rfl, hE2⟩))
                go_roundw
                case rel => exact ⟨j + 1, by omega, by go_num, HS, HGn, hEa.trans hE2⟩
                case measure => simp [intOf]; omega
              · have HO := Lib.hid ho
                have HF := Lib.hid (HN.out (fun q => by have := (HRd.out.1 q).2 hla; rw [ho] at this; cases this))
                clear hla ho
                go_wp2_with (first
                  | (go_at_call 31; (with_reducible refine (isSuffix_c pc true _ hs1' HGd.out).mono ?_); rintro e w1 ⟨rfl, rfl⟩)
                  | (go_at_call 55; (with_reducible refine (isRule_l pr false _ Hm1.out hs2 HO.out).mono ?_); rintro e w2 ⟨rfl, hE2⟩))
                go_ret
                exact ⟨by rw [HF.out]; rfl, hEa.trans hE2⟩
          · have HGd := Lib.hid hg
            have HF := Lib.hid (HG.out hg)
            have t1 : ((j : Int) == (l.length : Int) - 1) = decide (j + 1 = l.length) := by rw [Bool.eq_iff_iff, beq_iff_eq, decide_eq_true_eq]; omega
            clear hg
            go_wp2_with (first
              | (go_at_call 31; (with_reducible refine (isSuffix_c pc false _ hs1' HGd.out).mono ?_); rintro e w1 ⟨rfl, rfl⟩))
            go_ret
            exact ⟨by rw [HF.out]; rfl, hEa⟩
        · obtain rfl : j = l.length := by omega
          have Hn : Hid (b = true) := by rw [Hid, ← HB.out]; unfold rulB; rw [ruled_yes h1 h2 Hall.out, all_plu (fun i hi => Hg.out i hi hi)]; rfl
          go_wp2_with fail
          go_ret
          exact ⟨by rw [Hn.out]; rfl, hE⟩
    · have hq : rulB suffB l = false := by unfold rulB ruledB; rw [decide_eq_false h2]; simp
      rw [hq] at hb
      subst hb
      have d2 : (8 : Int) < (l.length : Int) := by omega
      clear h2 hq
      go_enter Tryz.func29, Tryz.ntmps29
      go_wp2_with fail
      go_ret
      exact ⟨rfl, Ext.refl _⟩
  · have hq : rulB suffB l = false := by unfold rulB ruledB; rw [decide_eq_false h1]; simp
    rw [hq] at hb
    subst hb
    have d2 : (l.length : Int) < 1 := by omega
    clear h1 hq
    go_enter Tryz.func29, Tryz.ntmps29
    go_wp2_with fail
    go_ret
    exact ⟨rfl, Ext.refl _⟩
set_option maxRecDepth 100000 in
set_option maxHeartbeats 1000000 in
theorem ruled_c (l : List Plu) (ao : Option Addr) (cap : Nat) (b : Bool) (w : World) (h : PlV ao cap l w) (hl : shP l) (hb : ruledB l = b) :
    Calls Tryz.prog 38 #[.slice ao l.length cap] w fun e w' => e = .returned (.bool b) ∧ Ext w w' := by
  have hlen := h.1
  have hcap := h.2.1
  unfold maxLen at hcap
  have HP := Lib.hid h.2.2
  have Hl := Lib.hid hl
  clear h hl
  by_cases h1 : 1 ≤ l.length
  · by_cases h2 : l.length ≤ 8
    · have HB := Lib.hid hb
      clear hb
      go_enter Tryz.func38, Tryz.ntmps38
      go_wp2_with fail
      go_loopw [3] (fun i wr => ∃ j : Nat, j ≤ l.length ∧ i = .int .i64 (j : Int) ∧ Hid (∀ i, i < j → rdAt l i) ∧ Ext w wr) (fun i _ => l.length - (intOf i).toNat)
      case atStart => exact ⟨0, Nat.zero_le _, rfl, fun i hi => absurd hi (Nat.not_lt_zero i), Ext.refl _⟩
      case round =>
        obtain ⟨j, hj, rfl, Hall, hE⟩ := hrel
        by_cases hlt : j < l.length
        · obtain ⟨R, off, rfl, hR0, hc⟩ := HP.out (by rintro rfl; simp at hlt)
          obtain ⟨c0, c1⟩ := hc j hlt
          replace c0 := (hE.cells R _ hR0).trans c0
          replace c1 := (hE.cells R _ hR0).trans c1
          have hRr := hE.lt hR0
          have hsh := Hl.out l[j] (List.getElem_mem _)
          have HN : Hid (¬ rdAt l j → b = false) := fun q => by rw [← HB.out]; exact ruled_no j hlt q
          have hRd : rdAt l j ↔ (j + 1 = l.length → l[j].r = []) ∧ (j + 1 ≠ l.length → okR l[j].r = true) := ⟨fun q => q hlt, fun q _ => q⟩
          have HY : Hid (rdAt l j → ∀ i, i < j + 1 → rdAt l i) := fun q i hi => by
            by_cases e : i = j
            · rw [e]; exact q
            · exact Hall.out i (by omega)
          obtain ⟨p, hpp⟩ : ∃ p, p = l[j] := ⟨_, rfl⟩
          rw [← hpp] at c0 c1 hsh hRd
          clear hpp hc
          obtain ⟨pc, pr⟩ := p
          simp only at c0 c1 hsh hRd
          obtain ⟨hs1, hs2⟩ := hsh
          obtain ⟨o, ho⟩ : ∃ o, okR pr = o := ⟨_, rfl⟩
          have HO := Lib.hid ho
          have HRd := Lib.hid hRd
          clear hRd ho
          by_cases hla : j + 1 = l.length
          · have t1 : ((j : Int) == (l.length : Int) - 1) = true := by rw [beq_iff_eq]; omega
            cases pr with
            | nil =>
              obtain rfl : o = false := by rw [← HO.out]; exact okR_nil
              have HS := Lib.hid (HY.out (HRd.out.2 ⟨fun _ => rfl, fun q => absurd hla q⟩))
              clear hla
              go_wp2_with (first
                | (go_at_call 89; (with_reducible refine (rRule_l _ _ _ hs2 HO.out).mono ?_); rintro e w1 ⟨v, rfl, hE1⟩; have d1 := (hE1.cells R _ hRr).trans c1))
              go_roundw
              case rel => exact ⟨j + 1, by omega, by go_num, HS, hE.trans hE1⟩
              case measure => simp [intOf]; omega
            | cons x t =>
              have HF := Lib.hid (HN.out (fun q => by have := (HRd.out.1 q).1 hla; cases this))
              cases o
              all_goals
                clear hla
                go_wp2_with (first
                  | (go_at_call 89; (with_reducible refine (rRule_l _ _ _ hs2 HO.out).mono ?_); rintro e w1 ⟨v, rfl, hE1⟩; have d1 := (hE1.cells R _ hRr).trans c1))
                go_ret
                exact ⟨by rw [HF.out]; rfl, hE.trans hE1⟩
          · have t1 : ((j : Int) == (l.length : Int) - 1) = false := by rw [beq_eq_false_iff_ne]; omega
            cases o with
            | true =>
              have HS := Lib.hid (HY.out (HRd.out.2 ⟨fun q => absurd q hla, fun _ => HO.out⟩))
              clear hla
              go_wp2_with (first
                | (go_at_call 89; (with_reducible refine (rRule_l _ _ _ hs2 HO.out).mono ?_); rintro e w1 ⟨v, rfl, hE1⟩; have d1 := (hE1.cells R _ hRr).trans c1))
              go_roundw
              case rel => exact ⟨j + 1, by omega, by go_num, HS, hE.trans hE1⟩
              case measure => simp [intOf]; omega
            | false =>
              have HF := Lib.hid (HN.out (fun q => by have := (HRd.out.1 q).2 hla; rw [HO.out] at this; cases this))
              clear hla
              go_wp2_with (first
                | (go_at_call 89; (with_reducible refine (rRule_l _ _ _ hs2 HO.out).mono ?_); rintro e w1 ⟨v, rfl, hE1⟩; have d1 := (hE1.cells R _ hRr).trans c1))
              go_ret
              exact ⟨by rw [HF.out]; rfl, hE.trans hE1⟩
        · obtain rfl : j = l.length := by omega
          have Hn : Hid (b = true) := by rw [Hid, ← HB.out]; exact ruled_yes h1 h2 Hall.out
          go_wp2_with fail
          go_ret
          exact ⟨by rw [Hn.out]; rfl, hE⟩
    · have hq : ruledB l = false := by unfold ruledB; rw [decide_eq_false h2]; simp
      rw [hq] at hb
      subst hb
      have d2 : (8 : Int) < (l.length : Int) := by omega
      clear h2 hq
      go_enter Tryz.func38, Tryz.ntmps38
      go_wp2_with fail
      go_ret
      exact ⟨rfl, Ext.refl _⟩
  · have hq : ruledB l = false := by unfold ruledB; rw [decide_eq_false h1]; simp
    rw [hq] at hb
    subst hb
    have d2 : (l.length : Int) < 1 := by omega
    clear h1 hq
    go_enter Tryz.func38, Tryz.ntmps38
    go_wp2_with fail
    go_ret
    exact ⟨rfl, Ext.refl _⟩
end Go.Proofs.YtnhdmnhfllecgaaGreatDoor
/- Locales: the walk of units. -/
namespace Go.Proofs.YtnhdmnhfllecgaaGreatDoor
set_option linter.unusedVariables false
set_option linter.unusedSimpArgs false
open Go.RowKit

theorem trimq_c (s : List UInt8) (w : World) (hs : s.length ≤ 9223372036854775806) : Calls Tryz.prog 95 #[.string ⟨s.toArray⟩, .string ⟨#[32]⟩] w fun e w' => e = .returned (.string ⟨(Lib.trimB s 32).toArray⟩) ∧ ∃ n, w.drewN n = w' := by
  refine (Tryz.strings_Trim_one ⟨s.toArray⟩ 32 (by decide) w (by show s.toArray.size ≤ _; simp; omega)).mono ?_
  rintro e w' ⟨rfl, rfl | rfl⟩
  · exact ⟨rfl, 0, rfl⟩
  · exact ⟨rfl, 1, rfl⟩
theorem isFormq_c (s : List UInt8) (b : Bool) (w : World) (hs : s.length ≤ 9223372036854775806) (hb : formB s = b) : Calls Tryz.prog 82 #[.string ⟨s.toArray⟩] w fun e w' => e = .returned (.bool b) ∧ ∃ n, w.drewN n = w' := by
  unfold formB at hb
  rcases Bool.eq_false_or_eq_true (onlyB frC 30 s) with ho | ho
  · have hne : s ≠ [] := by rintro rfl; simp [onlyB] at ho
    rw [ho, Bool.true_and, ← trim_id s hne] at hb
    have HO := Lib.hid ho
    obtain ⟨T, hT⟩ : ∃ T, Lib.trimB s 32 = T := ⟨_, rfl⟩
    have HT := trimq_c s
    rw [hT] at HT hb
    have HT := Lib.hid HT
    clear ho hT
    by_cases q : T = s
    · subst q
      have Hb : Hid (b = true) := by rw [Hid, ← hb]; simp
      clear hb hne
      go_enter Tryz.func82, Tryz.ntmps82
      go_wp2_with (first
        | (go_at_call 77; (with_reducible refine (only_fr T 30 true _ hs HO.out).mono ?_); rintro e w1 ⟨rfl, rfl⟩)
        | (go_at_call 95; (with_reducible refine (HT.out _ hs).mono ?_); rintro e w2 ⟨rfl, n, rfl⟩))
      go_ret
      exact ⟨by rw [Hb.out]; first | rfl | simp, n, rfl⟩
    · have Hb : Hid (b = false) := by rw [Hid, ← hb]; simp [q]
      have hq : (T == s) = false := by simpa using q
      clear hb hne q
      go_enter Tryz.func82, Tryz.ntmps82
      go_wp2_with (first
        | (go_at_call 77; (with_reducible refine (only_fr s 30 true _ hs HO.out).mono ?_); rintro e w1 ⟨rfl, rfl⟩)
        | (go_at_call 95; (with_reducible refine (HT.out _ hs).mono ?_); rintro e w2 ⟨rfl, n, rfl⟩))
      go_ret
      exact ⟨by rw [Hb.out]; rfl, n, rfl⟩
  · rw [ho, Bool.false_and] at hb
    subst hb
    have HO := Lib.hid ho
    clear ho
    go_enter Tryz.func82, Tryz.ntmps82
    go_wp2_with (first
      | (go_at_call 77; (with_reducible refine (only_fr s 30 false _ hs HO.out).mono ?_); rintro e w1 ⟨rfl, rfl⟩))
    go_ret
    exact ⟨rfl, 0, rfl⟩
set_option maxRecDepth 100000 in
set_option maxHeartbeats 1000000 in
theorem units_c (L : Loc) (b : Bool) (w : World) (h : LcV L w) (hs : shL L) (hb : unB L.P L.U = b) :
    Calls Tryz.prog 34 #[.agg L.vals.toArray] w fun e w' => e = .returned (.bool b) ∧ Ext w w' := by
  have hN := h.1
  have hE0 : Ext w (w.alloc (.cells L.vals.toArray 30)) := (Ext.refl w).alloc _
  have hB := LcB.new L w 30
  have hV := h.ext hE0
  obtain ⟨-, g2, -, g4, -⟩ := hB.cells hN
  obtain ⟨_, ⟨hp1, hp2, hp3⟩, _, ⟨hu1, hu2, hu3, hu4⟩⟩ := hV
  unfold maxLen at hp2 hu2
  have hsz := hB.1
  have HB := Lib.hid hb
  have Hs := Lib.hid hs.2.2.1
  have HP := Lib.hid hp3
  have HU := Lib.hid hu3
  have HUf := Lib.hid hu4
  have HE0 := Lib.hid hE0
  clear hb hs hp3 hu3 hu4 h hN hB hE0
  generalize hP : L.P = P at *
  generalize hU : L.U = U at *
  generalize L.pa = pa at *
  generalize L.pc = pc at *
  generalize L.ua = ua at *
  generalize L.uc = uc at *
  clear hP hU
  by_cases h1 : 1 ≤ U.length
  · by_cases h2 : U.length ≤ 10
    · obtain ⟨R, off, rfl, hR0, hc⟩ := HU.out (by rintro rfl; simp at h1)
      obtain ⟨c0, -⟩ := hc 0 (by omega)
      obtain ⟨z, hz⟩ : ∃ z, z = U.length - 1 := ⟨_, rfl⟩
      have hzi : (U.length : Int) - 1 = (z : Int) := by omega
      have hzl : z < U.length := by omega
      obtain ⟨cz, -⟩ := hc z hzl
      have HH : Hid (uHead U ↔ (U[0]'(by omega)).s ≤ 1099511627776 ∧ (U[z]'hzl).s = 1) := by
        subst hz; exact ⟨fun ⟨_, _, a, b⟩ => ⟨a, b⟩, fun ⟨a, b⟩ => ⟨h1, h2, a, b⟩⟩
      have HC := Lib.hid hc
      obtain ⟨s0, hs0⟩ : ∃ s, s = (U[0]'(by omega)).s := ⟨_, rfl⟩
      obtain ⟨sz, hsz2⟩ : ∃ s, s = (U[z]'hzl).s := ⟨_, rfl⟩
      rw [← hs0] at c0 HH
      rw [← hsz2] at cz HH
      rw [Nat.zero_mul, Nat.add_zero] at c0
      clear hs0 hsz2 hz hc
      by_cases h3 : s0 ≤ 1099511627776
      · by_cases h4 : sz = 1
        · have HHd := Lib.hid (HH.out.2 ⟨h3, h4⟩)
          have t4 : (sz != 1) = false := by simp [h4]
          clear h4 HH
          go_enter Tryz.func34, Tryz.ntmps34
          go_upto_region 1 with fail
          generalize w.alloc (.cells L.vals.toArray 30) = W0 at *
          generalize w.heap.size = B at *
          go_wp2_with fail
          clear c0 cz t4 hzi hzl h3
          go_loopw [38] (fun i wr => ∃ j : Nat, j ≤ U.length ∧ i = .int .i64 (j : Int) ∧ Hid (∀ i, i < j → unAt P U i) ∧ Ext W0 wr) (fun i _ => U.length - (intOf i).toNat)
          case atStart => exact ⟨0, Nat.zero_le _, rfl, fun i hi => absurd hi (Nat.not_lt_zero i), Ext.refl _⟩
          case round =>
            obtain ⟨j, hj, rfl, Hall, hE⟩ := hrel
            by_cases hlt : j < U.length
            · have e4 := (hE.cells B 43 hsz).trans g4
              have e2 := (hE.cells B 41 hsz).trans g2
              have hszr := hE.lt hsz
              have hRr := hE.lt hR0
              obtain ⟨c0, c1⟩ := HC.out j hlt
              replace c0 := (hE.cells R _ hR0).trans c0
              replace c1 := (hE.cells R _ hR0).trans c1
              have hfv := (HUf.out U[j] (List.getElem_mem _)).ext hE
              have hsf := Hs.out U[j] (List.getElem_mem _)
              have HF := Lib.hid (fun q : ¬ unAt P U j => unB_a j hlt q)
              have HUn : Hid (unAt P U j ↔ (∀ h0 : 0 < j, U[j].s < (U[j - 1]'(by omega)).s) ∧ U[j].f.length = P.length ∧ ∀ k (hk : k < U[j].f.length) (hp : k < P.length), (U[j].f[k]).c = (P[k]).c ∧ formB (U[j].f[k]).r = true) := ⟨fun q => q hlt, fun q _ => q⟩
              have HY : Hid (unAt P U j → ∀ i, i < j + 1 → unAt P U i) := fun q i hi => by
                by_cases e : i = j
                · rw [e]; exact q
                · exact Hall.out i (by omega)
              obtain ⟨u, hu⟩ : ∃ u, u = U[j] := ⟨_, rfl⟩
              rw [← hu] at c0 c1 hfv hsf HUn
              clear hu
              obtain ⟨us, uao, ucap, uf⟩ := u
              simp only at c0 c1 hfv hsf HUn
              have Hfv := Lib.hid hfv
              have Hsf := Lib.hid hsf
              clear hfv hsf
              by_cases j0 : j = 0
              · have a4 : decide ((0 : Int) < (j : Int)) = false := by simp; omega
                have a5 : decide (0 < j) = false := by simp; omega
                have HUn2 : Hid (unAt P U j ↔ uf.length = P.length ∧ ∀ k (hk : k < uf.length) (hp : k < P.length), (uf[k]).c = (P[k]).c ∧ formB (uf[k]).r = true) := ⟨fun q => (HUn.out.1 q).2, fun q => HUn.out.2 ⟨fun h0 => by omega, q⟩⟩
                clear j0 HUn
                by_cases hl : uf.length = P.length
                · have t6 : ((uf.length : Int) != (P.length : Int)) = false := by rw [hl]; simp
                  have HLn := Lib.hid hl
                  clear hl
                  go_upto_region 7 with fail
                  have hEp : Ext wr (wr.alloc (.cells #[.int .i64 us, .slice uao uf.length ucap] 53)) := (Ext.refl wr).alloc _
                  have y0 : (wr.alloc (.cells #[.int .i64 us, .slice uao uf.length ucap] 53)).cell? ⟨wr.heap.size, 0, none⟩ = some (.int .i64 us) := by rw [World.cell?_alloc_new]; rfl
                  have y1 : (wr.alloc (.cells #[.int .i64 us, .slice uao uf.length ucap] 53)).cell? ⟨wr.heap.size, 1, none⟩ = some (.slice uao uf.length ucap) := by rw [World.cell?_alloc_new]; rfl
                  have yz : wr.heap.size < (wr.alloc (.cells #[.int .i64 us, .slice uao uf.length ucap] 53)).heap.size := by simp
                  generalize wr.alloc (.cells #[.int .i64 us, .slice uao uf.length ucap] 53) = V at hEp y0 y1 yz ⊢
                  generalize wr.heap.size = D at y0 y1 yz ⊢
                  have e4V := (hEp.cells B 43 hszr).trans e4
                  have e2V := (hEp.cells B 41 hszr).trans e2
                  skip
                  go_quiet (fail)
                  skip
                  have hEq : Ext V (V.drewN nq) := (Ext.refl V).drewN _
                  have z0 := (hEq.cells D 0 yz).trans y0
                  have z1 := (hEq.cells D 1 yz).trans y1
                  have z2 := (hEq.cells B 41 (hEp.lt hszr)).trans e2V
                  have zD := hEq.lt yz
                  have zB := hEq.lt (hEp.lt hszr)
                  generalize V.drewN nq = V2 at hEq z0 z1 z2 zD zB ⊢
                  have hE2 : Ext wr V2 := hEp.trans hEq
                  have Hfv2 := Lib.hid (Hfv.out.ext hE2)
                  have HP2 : Hid (P ≠ [] → ∃ R off, pa = some ⟨R, off, none⟩ ∧ RdPl P R off V2) := fun q => by
                    obtain ⟨R, off, e, hR⟩ := HP.out q
                    exact ⟨R, off, e, (hR.ext hE).ext hE2⟩
                  have hcf := Hfv2.out.2.1
                  have hcf1 := Hfv2.out.1
                  unfold maxLen at hcf
                  have HE2 := Lib.hid (hE.trans hE2)
                  clear t6 a4 a5 y0 y1 yz e4V e2V hEp hEq c0 c1 e4 e2 hszr hRr hE hE2
                  obtain ⟨wo, rfl⟩ : ∃ wo : World, wo = wr := ⟨_, rfl⟩
                  go_wp2_with fail
                  go_loopw [69] (fun i wk => ∃ q : Nat, q ≤ uf.length ∧ i = .int .i64 (q : Int) ∧ Hid (∀ k (hk : k < uf.length) (hp : k < P.length), k < q → (uf[k]).c = (P[k]).c ∧ formB (uf[k]).r = true) ∧ Ext V2 wk) (fun i _ => uf.length - (intOf i).toNat)
                  case atStart => exact ⟨0, Nat.zero_le _, rfl, fun k _ _ hk => absurd hk (Nat.not_lt_zero k), Ext.refl _⟩
                  case round =>
                    obtain ⟨q, hq, rfl, Hin, hEk⟩ := hrel
                    by_cases hlq : q < uf.length
                    · have hqP : q < P.length := by have := HLn.out; omega
                      obtain ⟨RF, oF, rfl, hRF, hcF⟩ := Hfv2.out.2.2 (by rintro rfl; simp at hlq)
                      obtain ⟨RP, oP, rfl, hRP, hcP⟩ := HP2.out (by rintro rfl; simp at hqP)
                      obtain ⟨f0, f1⟩ := hcF q hlq
                      obtain ⟨p0, -⟩ := hcP q hqP
                      replace f0 := (hEk.cells RF _ hRF).trans f0
                      replace f1 := (hEk.cells RF _ hRF).trans f1
                      replace p0 := (hEk.cells RP _ hRP).trans p0
                      have x2 := (hEk.cells B 41 zB).trans z2
                      have x0 := (hEk.cells D 0 zD).trans z0
                      have x1 := (hEk.cells D 1 zD).trans z1
                      have HI1 : Hid ((uf[q].c = P[q].c ∧ formB uf[q].r = true) → ∀ k (hk : k < uf.length) (hp : k < P.length), k < q + 1 → (uf[k]).c = (P[k]).c ∧ formB (uf[k]).r = true) := fun h k hk hp hkq => by
                        by_cases e : k = q
                        · subst e; exact h
                        · exact Hin.out k hk hp (by omega)
                      have HI2 : Hid (¬ (uf[q].c = P[q].c ∧ formB uf[q].r = true) → ¬ unAt P U j) := fun h q' => h ((HUn2.out.1 q').2 q hlq hqP)
                      have hsq := (Hsf.out uf[q] (List.getElem_mem _)).2
                      obtain ⟨g, hg⟩ : ∃ g, g = uf[q] := ⟨_, rfl⟩
                      rw [← hg] at f0 f1 HI1 HI2 hsq
                      obtain ⟨pq, hpq⟩ : ∃ g, g = P[q].c := ⟨_, rfl⟩
                      rw [← hpq] at p0 HI1 HI2
                      clear hg hpq hcF hcP
                      obtain ⟨gc, gr⟩ := g
                      simp only at f0 f1 HI1 HI2 hsq
                      have hgr : gr.length ≤ 9223372036854775806 := by omega
                      have hRFk := hEk.lt hRF
                      have hRPk := hEk.lt hRP
                      have zBk := hEk.lt zB
                      by_cases hcc : gc = pq
                      · have s1 : (gc == pq) = true := by simpa using hcc
                        have s2 : (gc != pq) = false := by simpa using hcc
                        rcases Bool.eq_false_or_eq_true (formB gr) with hf | hf
                        · have HFo := Lib.hid (fun w => isFormq_c gr true w hgr hf)
                          have HS := Lib.hid (HI1.out ⟨hcc, hf⟩)
                          clear hcc hf
                          go_upto_region 12 with fail
                          have hEx : Ext wr (wr.alloc (.cells #[.string ⟨gc.toArray⟩, .string ⟨gr.toArray⟩] 50)) := (Ext.refl wr).alloc _
                          have w0 : (wr.alloc (.cells #[.string ⟨gc.toArray⟩, .string ⟨gr.toArray⟩] 50)).cell? ⟨wr.heap.size, 0, none⟩ = some (.string ⟨gc.toArray⟩) := by rw [World.cell?_alloc_new]; rfl
                          have w1 : (wr.alloc (.cells #[.string ⟨gc.toArray⟩, .string ⟨gr.toArray⟩] 50)).cell? ⟨wr.heap.size, 1, none⟩ = some (.string ⟨gr.toArray⟩) := by rw [World.cell?_alloc_new]; rfl
                          generalize wr.alloc (.cells #[.string ⟨gc.toArray⟩, .string ⟨gr.toArray⟩] 50) = V3 at hEx w0 w1 ⊢
                          generalize wr.heap.size = D3 at w0 w1 ⊢
                          have p3 := (hEx.cells RP _ hRPk).trans p0
                          have x3 := (hEx.cells B 41 zBk).trans x2
                          go_quiet ((go_at_call 82; exact quiet_of0 (HFo.out _)))
                          go_wp2_with fail
                          go_roundw
                          case rel => exact ⟨q + 1, by omega, by go_num, HS, hEk.trans (hEx.drewN _)⟩
                          case measure => simp [intOf]; omega
                        · have HFo := Lib.hid (fun w => isFormq_c gr false w hgr hf)
                          have hF := Lib.hid (HF.out (HI2.out (fun q => by rw [hf] at q; cases q.2)))
                          clear hcc hf
                          go_upto_region 12 with fail
                          have hEx : Ext wr (wr.alloc (.cells #[.string ⟨gc.toArray⟩, .string ⟨gr.toArray⟩] 50)) := (Ext.refl wr).alloc _
                          have w0 : (wr.alloc (.cells #[.string ⟨gc.toArray⟩, .string ⟨gr.toArray⟩] 50)).cell? ⟨wr.heap.size, 0, none⟩ = some (.string ⟨gc.toArray⟩) := by rw [World.cell?_alloc_new]; rfl
                          have w1 : (wr.alloc (.cells #[.string ⟨gc.toArray⟩, .string ⟨gr.toArray⟩] 50)).cell? ⟨wr.heap.size, 1, none⟩ = some (.string ⟨gr.toArray⟩) := by rw [World.cell?_alloc_new]; rfl
                          generalize wr.alloc (.cells #[.string ⟨gc.toArray⟩, .string ⟨gr.toArray⟩] 50) = V3 at hEx w0 w1 ⊢
                          generalize wr.heap.size = D3 at w0 w1 ⊢
                          have p3 := (hEx.cells RP _ hRPk).trans p0
                          have x3 := (hEx.cells B 41 zBk).trans x2
                          go_quiet ((go_at_call 82; exact quiet_of0 (HFo.out _)))
                          go_wp2_with fail
                          go_ret
                          exact ⟨by rw [HB.out.symm.trans hF.out]; rfl, HE0.out.trans (HE2.out.trans (hEk.trans (hEx.drewN _)))⟩
                      · have s1 : (gc == pq) = false := by simpa using hcc
                        have s2 : (gc != pq) = true := by simpa using hcc
                        have HFo := Lib.hid (fun w => isFormq_c gr _ w hgr rfl)
                        have hF := Lib.hid (HF.out (HI2.out (fun q => hcc q.1)))
                        clear hcc
                        go_upto_region 12 with fail
                        have hEx : Ext wr (wr.alloc (.cells #[.string ⟨gc.toArray⟩, .string ⟨gr.toArray⟩] 50)) := (Ext.refl wr).alloc _
                        have w0 : (wr.alloc (.cells #[.string ⟨gc.toArray⟩, .string ⟨gr.toArray⟩] 50)).cell? ⟨wr.heap.size, 0, none⟩ = some (.string ⟨gc.toArray⟩) := by rw [World.cell?_alloc_new]; rfl
                        have w1 : (wr.alloc (.cells #[.string ⟨gc.toArray⟩, .string ⟨gr.toArray⟩] 50)).cell? ⟨wr.heap.size, 1, none⟩ = some (.string ⟨gr.toArray⟩) := by rw [World.cell?_alloc_new]; rfl
                        generalize wr.alloc (.cells #[.string ⟨gc.toArray⟩, .string ⟨gr.toArray⟩] 50) = V3 at hEx w0 w1 ⊢
                        generalize wr.heap.size = D3 at w0 w1 ⊢
                        have p3 := (hEx.cells RP _ hRPk).trans p0
                        have x3 := (hEx.cells B 41 zBk).trans x2
                        go_quiet ((go_at_call 82; exact quiet_of0 (HFo.out _)))
                        go_wp2_with fail
                        go_ret
                        exact ⟨by rw [HB.out.symm.trans hF.out]; rfl, HE0.out.trans (HE2.out.trans (hEk.trans (hEx.drewN _)))⟩
                    · obtain rfl : q = uf.length := by omega
                      have HS := Lib.hid (HY.out (HUn2.out.2 ⟨HLn.out, fun k hk hp => Hin.out k hk hp hk⟩))
                      go_wp2_with fail
                      go_roundw
                      case rel => exact ⟨j + 1, by omega, by go_num, HS, HE2.out.trans hEk⟩
                      case measure => simp [intOf]; omega
                · have t6 : ((uf.length : Int) != (P.length : Int)) = true := by rw [bne_iff_ne]; omega
                  have hF := Lib.hid (HF.out (fun q => hl (HUn2.out.1 q).1))
                  clear hl
                  go_upto_region 7 with fail
                  have hEp : Ext wr (wr.alloc (.cells #[.int .i64 us, .slice uao uf.length ucap] 53)) := (Ext.refl wr).alloc _
                  have y0 : (wr.alloc (.cells #[.int .i64 us, .slice uao uf.length ucap] 53)).cell? ⟨wr.heap.size, 0, none⟩ = some (.int .i64 us) := by rw [World.cell?_alloc_new]; rfl
                  have y1 : (wr.alloc (.cells #[.int .i64 us, .slice uao uf.length ucap] 53)).cell? ⟨wr.heap.size, 1, none⟩ = some (.slice uao uf.length ucap) := by rw [World.cell?_alloc_new]; rfl
                  have yz : wr.heap.size < (wr.alloc (.cells #[.int .i64 us, .slice uao uf.length ucap] 53)).heap.size := by simp
                  generalize wr.alloc (.cells #[.int .i64 us, .slice uao uf.length ucap] 53) = V at hEp y0 y1 yz ⊢
                  generalize wr.heap.size = D at y0 y1 yz ⊢
                  have e4V := (hEp.cells B 43 hszr).trans e4
                  have e2V := (hEp.cells B 41 hszr).trans e2
                  skip
                  go_quiet (fail)
                  go_wp2_with fail
                  go_ret
                  exact ⟨by rw [HB.out.symm.trans hF.out]; rfl, HE0.out.trans (hE.trans (hEp.drewN _))⟩
              · obtain ⟨m, hjm⟩ : ∃ m, m + 1 = j := ⟨j - 1, by omega⟩
                have hm : m < U.length := by omega
                obtain ⟨b0, -⟩ := HC.out m hm
                replace b0 := (hE.cells R _ hR0).trans b0
                have hpe : (U[j - 1]'(by omega)).s = (U[m]'hm).s := by congr 2; omega
                obtain ⟨sp, hsp⟩ : ∃ s, s = (U[m]'hm).s := ⟨_, rfl⟩
                rw [← hsp] at b0 hpe
                have hj0 : 0 < j := by omega
                have HUn1 : Hid (unAt P U j ↔ us < sp ∧ uf.length = P.length ∧ ∀ k (hk : k < uf.length) (hp : k < P.length), (uf[k]).c = (P[k]).c ∧ formB (uf[k]).r = true) := by
                  rw [Hid, HUn.out]
                  constructor
                  · rintro ⟨a, q⟩
                    exact ⟨by have := a hj0; rw [hpe] at this; exact this, q⟩
                  · rintro ⟨a, q⟩
                    exact ⟨fun h0 => by rw [hpe]; exact a, q⟩
                clear HUn
                have a4 : decide ((0 : Int) < (j : Int)) = true := by simp; omega
                have a5 : decide (0 < j) = true := by simp; omega
                have hji : (j : Int) - 1 = (m : Int) := by omega
                have hji2 : IntKind.i64.wrap ((j : Int) - 1) = (m : Int) := by rw [IntWalk.i64_in _ (by omega)]; exact hji
                have hmi : (0 : Int) ≤ (m : Int) := by omega
                have hmi2 : (m : Int) < (U.length : Int) := by omega
                clear hpe hsp j0
                by_cases hss : us < sp
                · have t5 : decide (sp ≤ us) = false := decide_eq_false (by omega)
                  have HUn2 : Hid (unAt P U j ↔ uf.length = P.length ∧ ∀ k (hk : k < uf.length) (hp : k < P.length), (uf[k]).c = (P[k]).c ∧ formB (uf[k]).r = true) := ⟨fun q => (HUn1.out.1 q).2, fun q => HUn1.out.2 ⟨hss, q⟩⟩
                  clear HUn1 hss hj0 hjm
                  by_cases hl : uf.length = P.length
                  · have t6 : ((uf.length : Int) != (P.length : Int)) = false := by rw [hl]; simp
                    have HLn := Lib.hid hl
                    clear hl
                    go_upto_region 7 with fail
                    have hEp : Ext wr (wr.alloc (.cells #[.int .i64 us, .slice uao uf.length ucap] 53)) := (Ext.refl wr).alloc _
                    have y0 : (wr.alloc (.cells #[.int .i64 us, .slice uao uf.length ucap] 53)).cell? ⟨wr.heap.size, 0, none⟩ = some (.int .i64 us) := by rw [World.cell?_alloc_new]; rfl
                    have y1 : (wr.alloc (.cells #[.int .i64 us, .slice uao uf.length ucap] 53)).cell? ⟨wr.heap.size, 1, none⟩ = some (.slice uao uf.length ucap) := by rw [World.cell?_alloc_new]; rfl
                    have yz : wr.heap.size < (wr.alloc (.cells #[.int .i64 us, .slice uao uf.length ucap] 53)).heap.size := by simp
                    generalize wr.alloc (.cells #[.int .i64 us, .slice uao uf.length ucap] 53) = V at hEp y0 y1 yz ⊢
                    generalize wr.heap.size = D at y0 y1 yz ⊢
                    have e4V := (hEp.cells B 43 hszr).trans e4
                    have e2V := (hEp.cells B 41 hszr).trans e2
                    (have b0V := (hEp.cells R _ hRr).trans b0)
                    go_quiet (fail)
                    (clear b0V hji hji2 hmi hmi2 t5)
                    have hEq : Ext V (V.drewN nq) := (Ext.refl V).drewN _
                    have z0 := (hEq.cells D 0 yz).trans y0
                    have z1 := (hEq.cells D 1 yz).trans y1
                    have z2 := (hEq.cells B 41 (hEp.lt hszr)).trans e2V
                    have zD := hEq.lt yz
                    have zB := hEq.lt (hEp.lt hszr)
                    generalize V.drewN nq = V2 at hEq z0 z1 z2 zD zB ⊢
                    have hE2 : Ext wr V2 := hEp.trans hEq
                    have Hfv2 := Lib.hid (Hfv.out.ext hE2)
                    have HP2 : Hid (P ≠ [] → ∃ R off, pa = some ⟨R, off, none⟩ ∧ RdPl P R off V2) := fun q => by
                      obtain ⟨R, off, e, hR⟩ := HP.out q
                      exact ⟨R, off, e, (hR.ext hE).ext hE2⟩
                    have hcf := Hfv2.out.2.1
                    have hcf1 := Hfv2.out.1
                    unfold maxLen at hcf
                    have HE2 := Lib.hid (hE.trans hE2)
                    clear t6 a4 a5 y0 y1 yz e4V e2V hEp hEq c0 c1 e4 e2 hszr hRr hE hE2
                    obtain ⟨wo, rfl⟩ : ∃ wo : World, wo = wr := ⟨_, rfl⟩
                    go_wp2_with fail
                    go_loopw [69] (fun i wk => ∃ q : Nat, q ≤ uf.length ∧ i = .int .i64 (q : Int) ∧ Hid (∀ k (hk : k < uf.length) (hp : k < P.length), k < q → (uf[k]).c = (P[k]).c ∧ formB (uf[k]).r = true) ∧ Ext V2 wk) (fun i _ => uf.length - (intOf i).toNat)
                    case atStart => exact ⟨0, Nat.zero_le _, rfl, fun k _ _ hk => absurd hk (Nat.not_lt_zero k), Ext.refl _⟩
                    case round =>
                      obtain ⟨q, hq, rfl, Hin, hEk⟩ := hrel
                      by_cases hlq : q < uf.length
                      · have hqP : q < P.length := by have := HLn.out; omega
                        obtain ⟨RF, oF, rfl, hRF, hcF⟩ := Hfv2.out.2.2 (by rintro rfl; simp at hlq)
                        obtain ⟨RP, oP, rfl, hRP, hcP⟩ := HP2.out (by rintro rfl; simp at hqP)
                        obtain ⟨f0, f1⟩ := hcF q hlq
                        obtain ⟨p0, -⟩ := hcP q hqP
                        replace f0 := (hEk.cells RF _ hRF).trans f0
                        replace f1 := (hEk.cells RF _ hRF).trans f1
                        replace p0 := (hEk.cells RP _ hRP).trans p0
                        have x2 := (hEk.cells B 41 zB).trans z2
                        have x0 := (hEk.cells D 0 zD).trans z0
                        have x1 := (hEk.cells D 1 zD).trans z1
                        have HI1 : Hid ((uf[q].c = P[q].c ∧ formB uf[q].r = true) → ∀ k (hk : k < uf.length) (hp : k < P.length), k < q + 1 → (uf[k]).c = (P[k]).c ∧ formB (uf[k]).r = true) := fun h k hk hp hkq => by
                          by_cases e : k = q
                          · subst e; exact h
                          · exact Hin.out k hk hp (by omega)
                        have HI2 : Hid (¬ (uf[q].c = P[q].c ∧ formB uf[q].r = true) → ¬ unAt P U j) := fun h q' => h ((HUn2.out.1 q').2 q hlq hqP)
                        have hsq := (Hsf.out uf[q] (List.getElem_mem _)).2
                        obtain ⟨g, hg⟩ : ∃ g, g = uf[q] := ⟨_, rfl⟩
                        rw [← hg] at f0 f1 HI1 HI2 hsq
                        obtain ⟨pq, hpq⟩ : ∃ g, g = P[q].c := ⟨_, rfl⟩
                        rw [← hpq] at p0 HI1 HI2
                        clear hg hpq hcF hcP
                        obtain ⟨gc, gr⟩ := g
                        simp only at f0 f1 HI1 HI2 hsq
                        have hgr : gr.length ≤ 9223372036854775806 := by omega
                        have hRFk := hEk.lt hRF
                        have hRPk := hEk.lt hRP
                        have zBk := hEk.lt zB
                        by_cases hcc : gc = pq
                        · have s1 : (gc == pq) = true := by simpa using hcc
                          have s2 : (gc != pq) = false := by simpa using hcc
                          rcases Bool.eq_false_or_eq_true (formB gr) with hf | hf
                          · have HFo := Lib.hid (fun w => isFormq_c gr true w hgr hf)
                            have HS := Lib.hid (HI1.out ⟨hcc, hf⟩)
                            clear hcc hf
                            go_upto_region 12 with fail
                            have hEx : Ext wr (wr.alloc (.cells #[.string ⟨gc.toArray⟩, .string ⟨gr.toArray⟩] 50)) := (Ext.refl wr).alloc _
                            have w0 : (wr.alloc (.cells #[.string ⟨gc.toArray⟩, .string ⟨gr.toArray⟩] 50)).cell? ⟨wr.heap.size, 0, none⟩ = some (.string ⟨gc.toArray⟩) := by rw [World.cell?_alloc_new]; rfl
                            have w1 : (wr.alloc (.cells #[.string ⟨gc.toArray⟩, .string ⟨gr.toArray⟩] 50)).cell? ⟨wr.heap.size, 1, none⟩ = some (.string ⟨gr.toArray⟩) := by rw [World.cell?_alloc_new]; rfl
                            generalize wr.alloc (.cells #[.string ⟨gc.toArray⟩, .string ⟨gr.toArray⟩] 50) = V3 at hEx w0 w1 ⊢
                            generalize wr.heap.size = D3 at w0 w1 ⊢
                            have p3 := (hEx.cells RP _ hRPk).trans p0
                            have x3 := (hEx.cells B 41 zBk).trans x2
                            go_quiet ((go_at_call 82; exact quiet_of0 (HFo.out _)))
                            go_wp2_with fail
                            go_roundw
                            case rel => exact ⟨q + 1, by omega, by go_num, HS, hEk.trans (hEx.drewN _)⟩
                            case measure => simp [intOf]; omega
                          · have HFo := Lib.hid (fun w => isFormq_c gr false w hgr hf)
                            have hF := Lib.hid (HF.out (HI2.out (fun q => by rw [hf] at q; cases q.2)))
                            clear hcc hf
                            go_upto_region 12 with fail
                            have hEx : Ext wr (wr.alloc (.cells #[.string ⟨gc.toArray⟩, .string ⟨gr.toArray⟩] 50)) := (Ext.refl wr).alloc _
                            have w0 : (wr.alloc (.cells #[.string ⟨gc.toArray⟩, .string ⟨gr.toArray⟩] 50)).cell? ⟨wr.heap.size, 0, none⟩ = some (.string ⟨gc.toArray⟩) := by rw [World.cell?_alloc_new]; rfl
                            have w1 : (wr.alloc (.cells #[.string ⟨gc.toArray⟩, .string ⟨gr.toArray⟩] 50)).cell? ⟨wr.heap.size, 1, none⟩ = some (.string ⟨gr.toArray⟩) := by rw [World.cell?_alloc_new]; rfl
                            generalize wr.alloc (.cells #[.string ⟨gc.toArray⟩, .string ⟨gr.toArray⟩] 50) = V3 at hEx w0 w1 ⊢
                            generalize wr.heap.size = D3 at w0 w1 ⊢
                            have p3 := (hEx.cells RP _ hRPk).trans p0
                            have x3 := (hEx.cells B 41 zBk).trans x2
                            go_quiet ((go_at_call 82; exact quiet_of0 (HFo.out _)))
                            go_wp2_with fail
                            go_ret
                            exact ⟨by rw [HB.out.symm.trans hF.out]; rfl, HE0.out.trans (HE2.out.trans (hEk.trans (hEx.drewN _)))⟩
                        · have s1 : (gc == pq) = false := by simpa using hcc
                          have s2 : (gc != pq) = true := by simpa using hcc
                          have HFo := Lib.hid (fun w => isFormq_c gr _ w hgr rfl)
                          have hF := Lib.hid (HF.out (HI2.out (fun q => hcc q.1)))
                          clear hcc
                          go_upto_region 12 with fail
                          have hEx : Ext wr (wr.alloc (.cells #[.string ⟨gc.toArray⟩, .string ⟨gr.toArray⟩] 50)) := (Ext.refl wr).alloc _
                          have w0 : (wr.alloc (.cells #[.string ⟨gc.toArray⟩, .string ⟨gr.toArray⟩] 50)).cell? ⟨wr.heap.size, 0, none⟩ = some (.string ⟨gc.toArray⟩) := by rw [World.cell?_alloc_new]; rfl
                          have w1 : (wr.alloc (.cells #[.string ⟨gc.toArray⟩, .string ⟨gr.toArray⟩] 50)).cell? ⟨wr.heap.size, 1, none⟩ = some (.string ⟨gr.toArray⟩) := by rw [World.cell?_alloc_new]; rfl
                          generalize wr.alloc (.cells #[.string ⟨gc.toArray⟩, .string ⟨gr.toArray⟩] 50) = V3 at hEx w0 w1 ⊢
                          generalize wr.heap.size = D3 at w0 w1 ⊢
                          have p3 := (hEx.cells RP _ hRPk).trans p0
                          have x3 := (hEx.cells B 41 zBk).trans x2
                          go_quiet ((go_at_call 82; exact quiet_of0 (HFo.out _)))
                          go_wp2_with fail
                          go_ret
                          exact ⟨by rw [HB.out.symm.trans hF.out]; rfl, HE0.out.trans (HE2.out.trans (hEk.trans (hEx.drewN _)))⟩
                      · obtain rfl : q = uf.length := by omega
                        have HS := Lib.hid (HY.out (HUn2.out.2 ⟨HLn.out, fun k hk hp => Hin.out k hk hp hk⟩))
                        go_wp2_with fail
                        go_roundw
                        case rel => exact ⟨j + 1, by omega, by go_num, HS, HE2.out.trans hEk⟩
                        case measure => simp [intOf]; omega
                  · have t6 : ((uf.length : Int) != (P.length : Int)) = true := by rw [bne_iff_ne]; omega
                    have hF := Lib.hid (HF.out (fun q => hl (HUn2.out.1 q).1))
                    clear hl
                    go_upto_region 7 with fail
                    have hEp : Ext wr (wr.alloc (.cells #[.int .i64 us, .slice uao uf.length ucap] 53)) := (Ext.refl wr).alloc _
                    have y0 : (wr.alloc (.cells #[.int .i64 us, .slice uao uf.length ucap] 53)).cell? ⟨wr.heap.size, 0, none⟩ = some (.int .i64 us) := by rw [World.cell?_alloc_new]; rfl
                    have y1 : (wr.alloc (.cells #[.int .i64 us, .slice uao uf.length ucap] 53)).cell? ⟨wr.heap.size, 1, none⟩ = some (.slice uao uf.length ucap) := by rw [World.cell?_alloc_new]; rfl
                    have yz : wr.heap.size < (wr.alloc (.cells #[.int .i64 us, .slice uao uf.length ucap] 53)).heap.size := by simp
                    generalize wr.alloc (.cells #[.int .i64 us, .slice uao uf.length ucap] 53) = V at hEp y0 y1 yz ⊢
                    generalize wr.heap.size = D at y0 y1 yz ⊢
                    have e4V := (hEp.cells B 43 hszr).trans e4
                    have e2V := (hEp.cells B 41 hszr).trans e2
                    (have b0V := (hEp.cells R _ hRr).trans b0)
                    go_quiet (fail)
                    go_wp2_with fail
                    go_ret
                    exact ⟨by rw [HB.out.symm.trans hF.out]; rfl, HE0.out.trans (hE.trans (hEp.drewN _))⟩
                · have t5 : decide (sp ≤ us) = true := decide_eq_true (by omega)
                  have hF := Lib.hid (HF.out (fun q => hss (HUn1.out.1 q).1))
                  clear HUn1 hss hj0 hjm
                  go_upto_region 7 with fail
                  have hEp : Ext wr (wr.alloc (.cells #[.int .i64 us, .slice uao uf.length ucap] 53)) := (Ext.refl wr).alloc _
                  have y0 : (wr.alloc (.cells #[.int .i64 us, .slice uao uf.length ucap] 53)).cell? ⟨wr.heap.size, 0, none⟩ = some (.int .i64 us) := by rw [World.cell?_alloc_new]; rfl
                  have y1 : (wr.alloc (.cells #[.int .i64 us, .slice uao uf.length ucap] 53)).cell? ⟨wr.heap.size, 1, none⟩ = some (.slice uao uf.length ucap) := by rw [World.cell?_alloc_new]; rfl
                  have yz : wr.heap.size < (wr.alloc (.cells #[.int .i64 us, .slice uao uf.length ucap] 53)).heap.size := by simp
                  generalize wr.alloc (.cells #[.int .i64 us, .slice uao uf.length ucap] 53) = V at hEp y0 y1 yz ⊢
                  generalize wr.heap.size = D at y0 y1 yz ⊢
                  have e4V := (hEp.cells B 43 hszr).trans e4
                  have e2V := (hEp.cells B 41 hszr).trans e2
                  have b0V := (hEp.cells R _ hRr).trans b0
                  go_quiet (fail)
                  go_wp2_with fail
                  go_ret
                  exact ⟨by rw [HB.out.symm.trans hF.out]; rfl, HE0.out.trans (hE.trans (hEp.drewN _))⟩
            · obtain rfl : j = U.length := by omega
              have Hn : Hid (b = true) := by rw [Hid, ← HB.out]; exact unB_y HHd.out Hall.out
              go_wp2_with fail
              go_ret
              exact ⟨by rw [Hn.out]; rfl, HE0.out.trans hE⟩
        · have hF : Hid (b = false) := by rw [Hid, ← HB.out]; exact unB_h (fun q => h4 (HH.out.1 q).2)
          have t4 : (sz != 1) = true := by simpa using h4
          clear h4 HH
          go_enter Tryz.func34, Tryz.ntmps34
          go_upto_region 1 with fail
          generalize w.alloc (.cells L.vals.toArray 30) = W0 at *
          generalize w.heap.size = B at *
          go_wp2_with fail
          go_ret
          exact ⟨by rw [hF.out]; rfl, HE0.out⟩
      · have hF : Hid (b = false) := by rw [Hid, ← HB.out]; exact unB_h (fun q => h3 (HH.out.1 q).1)
        have t3 : 1099511627776 < s0 := by omega
        clear h3 HH
        go_enter Tryz.func34, Tryz.ntmps34
        go_upto_region 1 with fail
        generalize w.alloc (.cells L.vals.toArray 30) = W0 at *
        generalize w.heap.size = B at *
        go_wp2_with fail
        go_ret
        exact ⟨by rw [hF.out]; rfl, HE0.out⟩
    · have hF : Hid (b = false) := by rw [Hid, ← HB.out]; exact unB_h (fun ⟨_, q, _⟩ => h2 q)
      have d2 : (10 : Int) < (U.length : Int) := by omega
      clear h2
      go_enter Tryz.func34, Tryz.ntmps34
      go_upto_region 1 with fail
      generalize w.alloc (.cells L.vals.toArray 30) = W0 at *
      generalize w.heap.size = B at *
      go_wp2_with fail
      go_ret
      exact ⟨by rw [hF.out]; rfl, HE0.out⟩
  · have hF : Hid (b = false) := by rw [Hid, ← HB.out]; exact unB_h (fun ⟨q, _⟩ => h1 q)
    have d2 : (U.length : Int) < 1 := by omega
    clear h1
    go_enter Tryz.func34, Tryz.ntmps34
    go_upto_region 1 with fail
    generalize w.alloc (.cells L.vals.toArray 30) = W0 at *
    generalize w.heap.size = B at *
    go_wp2_with fail
    go_ret
    exact ⟨by rw [hF.out]; rfl, HE0.out⟩
end Go.Proofs.YtnhdmnhfllecgaaGreatDoor
