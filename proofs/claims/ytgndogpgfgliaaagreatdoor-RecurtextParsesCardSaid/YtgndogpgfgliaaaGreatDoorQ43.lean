/- Recurrence rules: the walk of the reference's Part. -/
import Derived.Test.YtgndogpgfgliaaaGreatDoorQ42
namespace Go.Proofs.YtgndogpgfgliaaaGreatDoor
set_option linter.unusedVariables false
set_option linter.unnecessarySimpa false
set_option linter.unusedSimpArgs false
open Go.RowKit

theorem num_any (s : List UInt8) (w : World) (hs : s.length ≤ 50000) : ∃ n b, ∀ w, Calls Tryz.prog 59 #[.string ⟨s.toArray⟩] w fun e w' => e = .returned (.tuple #[.int .i64 n, .bool b]) ∧ w = w' := ⟨_, _, fun w => rnum_c s w (by omega)⟩
theorem nums_any (s : List UInt8) (w : World) (hs : s.length ≤ 50000) : Calls Tryz.prog 60 #[.string ⟨s.toArray⟩] w fun e w' => (∃ v b, e = .returned (.tuple #[v, .bool b])) ∧ Ext w w' :=
  (rnumbers_c s w hs).mono fun e w' h => by
    unfold NumsR at h
    cases hz : numsZ s with
    | none => rw [hz] at h; exact ⟨⟨_, _, h.1⟩, h.2⟩
    | some l => rw [hz] at h; obtain ⟨ao, cap, h1, -, -, h2⟩ := h; exact ⟨⟨_, _, h1⟩, h2⟩
set_option maxRecDepth 100000 in
set_option maxHeartbeats 4000000 in
theorem rpt0_c (s : List UInt8) (r : Rec) (w : World) (hs : s.length ≤ 50000) (hV : RcV r w) :
    Calls Tryz.prog 21 #[.string ⟨#[70, 82, 69, 81]⟩, .string ⟨s.toArray⟩, .agg r.vals.toArray] w (PartR [70, 82, 69, 81] s r w) := by
  obtain ⟨W0, hW0⟩ : ∃ W0, W0 = ((w.alloc (.cells r.vals.toArray 25)).alloc (.cells #[.int .i64 0, .int .i64 0, .int .i64 0, .int .i64 0, .slice none 0 0, .slice none 0 0, .slice none 0 0, .slice none 0 0, .slice none 0 0, .slice none 0 0, .slice none 0 0, .slice none 0 0, .slice none 0 0, .int .i64 0] 25)) := ⟨_, rfl⟩
  have HW0 := Lib.hid hW0
  have HS : Hid (RpS r w W0) := by rw [hW0]; exact RpS.init r w hV
  have HPl : Hid (∀ H W, RdS ptW H 0 W → Calls Tryz.prog 56 #[.slice (some ⟨H, 0, none⟩) 14 14, .string ⟨#[70, 82, 69, 81]⟩] W fun e w' => e = .returned (.int .i64 1) ∧ W = w') := fun H W hR => rplace_c ptW H 14 [70, 82, 69, 81] 1 W hR (by decide) (by decide) (by decide)
  have HP0 : Hid (prtZ untZ [70, 82, 69, 81] s r.D = (match partZ untZ 0 s r.D with
    | some R' => .ok R'
    | none => .er 3)) := prt_at 0 (by decide) s r.D
  obtain ⟨n0, b0, hNu⟩ := num_any s w hs
  have HNu := Lib.hid hNu
  obtain ⟨p, hp⟩ : ∃ p, p = plW frW s := ⟨_, rfl⟩
  have HPf : Hid (∀ H W, RdS frW H 0 W → Calls Tryz.prog 56 #[.slice (some ⟨H, 0, none⟩) 5 5, .string ⟨s.toArray⟩] W fun e w' => e = .returned (.int .i64 (p : Int)) ∧ W = w') := fun H W hR => rplace_c frW H 5 s p W hR (by decide) (by decide) hp.symm
  by_cases hz : p = 0
  · have HP := Lib.hid (HP0.out.trans (by unfold partZ; simp [← hp, hz]) : prtZ untZ [70, 82, 69, 81] s r.D = .er 3)
    have t0 : decide (0 < p) = false := decide_eq_false (by omega)
    have t1 : decide ((0 : Int) < (p : Int)) = false := decide_eq_false (by omega)
    clear hz hV hW0 HP0 hNu hp
    go_enter Tryz.func21, Tryz.ntmps21
    go_upto_region 1 with fail
    rw [← HW0.out]
    go_upto_region 9 with (first
      | (go_at_call 39; (with_reducible refine (rnms_c _).mono ?_); rintro e w1 ⟨⟨H, rfl, hHR⟩, hE1⟩; have HHR := Lib.hid hHR; have HE1 := Lib.hid hE1; clear hHR hE1)
      | (go_at_call 56; (with_reducible refine (HPl.out _ _ HHR.out).mono ?_); rintro e wp ⟨rfl, rfl⟩)
      | (go_at_call 59; (with_reducible refine (HNu.out _).mono ?_); rintro e wn ⟨rfl, rfl⟩)
      | (go_at_call 60; (with_reducible refine (nums_any s _ hs).mono ?_); rintro e w2 ⟨⟨nv, nb, rfl⟩, hE2⟩; have HE2 := Lib.hid hE2; clear hE2))
    go_upto_region 10 with (first
      | (go_at_call 36; (with_reducible refine (rfrq_c _).mono ?_); rintro e w3 ⟨⟨H3, rfl, hHR3⟩, hE3⟩; have HHR3 := Lib.hid hHR3; have hS3 := HS.out.ext (HE1.out.trans (HE2.out.trans hE3)); have HS3 := Lib.hid hS3; obtain ⟨hu, hf⟩ := hS3.cell (off := 0) (u := .int .i64 r.D.fr) rfl; have hl0 := hS3.lt0; clear hHR3 hE3 hS3)
      | (go_at_call 56; (with_reducible refine (HPf.out _ _ HHR3.out).mono ?_); rintro e wp ⟨rfl, rfl⟩))
    have HQ := Lib.hid (rp_er HS3.out 3 HP.out 0 (.int .i64 r.D.fr) (.int .i64 (p : Int)) rfl)
    have hq := HQ.out
    obtain ⟨W2, hW2⟩ : ∃ W2, W2 = w3.setCell ⟨w.heap.size, 0, none⟩ (.int .i64 (p : Int)) := ⟨_, rfl⟩
    have hc2 : W2.cell? ⟨w.heap.size, 0, none⟩ = some (.int .i64 (p : Int)) := by rw [hW2]; exact World.cell?_setCell_same _ _ _ hu
    rw [← hW2] at hq ⊢
    obtain ⟨ht2, hl2, hEr⟩ := hq
    have HEr := Lib.hid hEr
    clear hW2 hEr hu hf hl0
    go_wp2_with (refine wpList_store_gen (op := ⟨none, .store 25 (.tmp 6) (.tmp 124), _, _, _, _⟩) rfl 25 _ _ rfl (w.heap.size + 1) Rec.zero.vals rfl rfl hl2 ht2 (rec_size Rec.zero) (rec_all1 _) ?_; intro W3 hF3 hl4 hr3)
    refine bodyPost_ret (results_ct rfl rfl rfl (run_loadVar_mid W3 (w.heap.size + 1) 0 25 _ _ hr3 Tryz.underlying25 rfl (rec_size Rec.zero))) rfl (HEr.out W3 hF3)
  · obtain ⟨r', hr'⟩ : ∃ r' : Rec, r' = ⟨{ r.D with fr := (p : Int) }, r.a, r.c⟩ := ⟨_, rfl⟩
    have HP := Lib.hid (HP0.out.trans (by rw [hr']; unfold partZ; simp [← hp, hz]) : prtZ untZ [70, 82, 69, 81] s r.D = .ok r'.D)
    have Hv : Hid (r'.vals = r.vals.set 0 (.int .i64 (p : Int))) := by rw [hr']; rfl
    have Hst : Hid (∀ W, RcV r W → RcV r' W) := fun W hr => by rw [hr']; exact ⟨hr.mo, hr.md, hr.yd, hr.wk, hr.da, hr.ho, hr.mi, hr.se, hr.po⟩
    have t0 : decide (0 < p) = true := decide_eq_true (by omega)
    have t1 : decide ((0 : Int) < (p : Int)) = true := decide_eq_true (by omega)
    clear hz hV hW0 HP0 hNu hp hr'
    go_enter Tryz.func21, Tryz.ntmps21
    go_upto_region 1 with fail
    rw [← HW0.out]
    go_upto_region 9 with (first
      | (go_at_call 39; (with_reducible refine (rnms_c _).mono ?_); rintro e w1 ⟨⟨H, rfl, hHR⟩, hE1⟩; have HHR := Lib.hid hHR; have HE1 := Lib.hid hE1; clear hHR hE1)
      | (go_at_call 56; (with_reducible refine (HPl.out _ _ HHR.out).mono ?_); rintro e wp ⟨rfl, rfl⟩)
      | (go_at_call 59; (with_reducible refine (HNu.out _).mono ?_); rintro e wn ⟨rfl, rfl⟩)
      | (go_at_call 60; (with_reducible refine (nums_any s _ hs).mono ?_); rintro e w2 ⟨⟨nv, nb, rfl⟩, hE2⟩; have HE2 := Lib.hid hE2; clear hE2))
    go_upto_region 10 with (first
      | (go_at_call 36; (with_reducible refine (rfrq_c _).mono ?_); rintro e w3 ⟨⟨H3, rfl, hHR3⟩, hE3⟩; have HHR3 := Lib.hid hHR3; have hS3 := HS.out.ext (HE1.out.trans (HE2.out.trans hE3)); have HS3 := Lib.hid hS3; obtain ⟨hu, hf⟩ := hS3.cell (off := 0) (u := .int .i64 r.D.fr) rfl; have hl0 := hS3.lt0; clear hHR3 hE3 hS3)
      | (go_at_call 56; (with_reducible refine (HPf.out _ _ HHR3.out).mono ?_); rintro e wp ⟨rfl, rfl⟩))
    have HQ := Lib.hid (rp_ok (r' := r') HS3.out 0 (.int .i64 r.D.fr) (.int .i64 (p : Int)) rfl Hv.out HP.out (fun F W _ _ hr => Hst.out W hr))
    have hq := HQ.out
    obtain ⟨W2, hW2⟩ : ∃ W2, W2 = w3.setCell ⟨w.heap.size, 0, none⟩ (.int .i64 (p : Int)) := ⟨_, rfl⟩
    have hc2 : W2.cell? ⟨w.heap.size, 0, none⟩ = some (.int .i64 (p : Int)) := by rw [hW2]; exact World.cell?_setCell_same _ _ _ hu
    rw [← hW2] at hq ⊢
    have hRs := rec_size r'
    obtain ⟨ht2, hl2, hr2, hOk⟩ := hq
    have HOk := Lib.hid hOk
    clear hW2 hOk hu hf hl0
    go_wp2_with (first
      | (refine load_midg (by rfl) 25 _ rfl w.heap.size 0 rfl r'.vals _ hr2 Tryz.underlying25 rfl hRs ?_)
      | (refine wpList_store_gen (op := ⟨none, .store 25 (.tmp 6) (.tmp 125), _, _, _, _⟩) rfl 25 _ _ rfl (w.heap.size + 1) r'.vals rfl rfl hl2 ht2 hRs (rec_all1 _) ?_; intro W3 hF4 hl4 hr3))
    refine bodyPost_ret (results_ct rfl rfl rfl (run_loadVar_mid W3 (w.heap.size + 1) 0 25 _ _ hr3 Tryz.underlying25 rfl hRs)) rfl (HOk.out W3 hF4)
set_option maxRecDepth 100000 in
set_option maxHeartbeats 4000000 in
theorem rpt1_c (s : List UInt8) (r : Rec) (w : World) (hs : s.length ≤ 50000) (hV : RcV r w) :
    Calls Tryz.prog 21 #[.string ⟨#[73, 78, 84, 69, 82, 86, 65, 76]⟩, .string ⟨s.toArray⟩, .agg r.vals.toArray] w (PartR [73, 78, 84, 69, 82, 86, 65, 76] s r w) := by
  obtain ⟨W0, hW0⟩ : ∃ W0, W0 = ((w.alloc (.cells r.vals.toArray 25)).alloc (.cells #[.int .i64 0, .int .i64 0, .int .i64 0, .int .i64 0, .slice none 0 0, .slice none 0 0, .slice none 0 0, .slice none 0 0, .slice none 0 0, .slice none 0 0, .slice none 0 0, .slice none 0 0, .slice none 0 0, .int .i64 0] 25)) := ⟨_, rfl⟩
  have HW0 := Lib.hid hW0
  have HS : Hid (RpS r w W0) := by rw [hW0]; exact RpS.init r w hV
  have HPl : Hid (∀ H W, RdS ptW H 0 W → Calls Tryz.prog 56 #[.slice (some ⟨H, 0, none⟩) 14 14, .string ⟨#[73, 78, 84, 69, 82, 86, 65, 76]⟩] W fun e w' => e = .returned (.int .i64 2) ∧ W = w') := fun H W hR => rplace_c ptW H 14 [73, 78, 84, 69, 82, 86, 65, 76] 2 W hR (by decide) (by decide) (by decide)
  have HP0 : Hid (prtZ untZ [73, 78, 84, 69, 82, 86, 65, 76] s r.D = (match partZ untZ 1 s r.D with
    | some R' => .ok R'
    | none => .er 3)) := prt_at 1 (by decide) s r.D
  cases hz : numZ s with
  | none =>
    have HNu : Hid (∀ w', Calls Tryz.prog 59 #[.string ⟨s.toArray⟩] w' fun e w'' => e = .returned (.tuple #[.int .i64 0, .bool false]) ∧ w' = w'') := fun w' => by have := rnum_c s w' (by omega); rwa [hz] at this
    have HP := Lib.hid (HP0.out.trans (by unfold partZ; simp [hz]) : prtZ untZ [73, 78, 84, 69, 82, 86, 65, 76] s r.D = .er 3)
    clear hz hV hW0 HP0
    go_enter Tryz.func21, Tryz.ntmps21
    go_upto_region 1 with fail
    rw [← HW0.out]
    go_upto_region 12 with (first
      | (go_at_call 39; (with_reducible refine (rnms_c _).mono ?_); rintro e w1 ⟨⟨H, rfl, hHR⟩, hE1⟩; have HHR := Lib.hid hHR; have HE1 := Lib.hid hE1; clear hHR hE1)
      | (go_at_call 56; (with_reducible refine (HPl.out _ _ HHR.out).mono ?_); rintro e wp ⟨rfl, rfl⟩)
      | (go_at_call 59; (with_reducible refine (HNu.out _).mono ?_); rintro e wn ⟨rfl, rfl⟩)
      | (go_at_call 60; (with_reducible refine (nums_any s _ hs).mono ?_); rintro e w2 ⟨⟨nv, nb, rfl⟩, hE2⟩; have HE2 := Lib.hid hE2; clear hE2))
    have hS2 := HS.out.ext (HE1.out.trans HE2.out)
    obtain ⟨hu, hf⟩ := hS2.cell (off := 1) (u := .int .i64 r.D.iv) rfl
    have hl0 := hS2.lt0
    have hq := rp_er hS2 3 HP.out 1 (.int .i64 r.D.iv) (.int .i64 0) rfl
    have Hq := Lib.hid hq
    clear hq hS2
    go_upto_region 13 with fail
    have hq := Hq.out
    obtain ⟨W2, hW2⟩ : ∃ W2, W2 = w2.setCell ⟨w.heap.size, 1, none⟩ (.int .i64 0) := ⟨_, rfl⟩
    rw [← hW2] at hq ⊢
    obtain ⟨ht2, hl2, hEr⟩ := hq
    have HEr := Lib.hid hEr
    clear hW2 hEr hu hf hl0
    go_wp2_with (refine wpList_store_gen (op := ⟨none, .store 25 (.tmp 6) (.tmp 124), _, _, _, _⟩) rfl 25 _ _ rfl (w.heap.size + 1) Rec.zero.vals rfl rfl hl2 ht2 (rec_size Rec.zero) (rec_all1 _) ?_; intro W3 hF3 hl4 hr3)
    refine bodyPost_ret (results_ct rfl rfl rfl (run_loadVar_mid W3 (w.heap.size + 1) 0 25 _ _ hr3 Tryz.underlying25 rfl (rec_size Rec.zero))) rfl (HEr.out W3 hF3)
  | some n =>
    have HNu : Hid (∀ w', Calls Tryz.prog 59 #[.string ⟨s.toArray⟩] w' fun e w'' => e = .returned (.tuple #[.int .i64 n, .bool true]) ∧ w' = w'') := fun w' => by have := rnum_c s w' (by omega); rwa [hz] at this
    obtain ⟨r', hr'⟩ : ∃ r' : Rec, r' = ⟨{ r.D with iv := n }, r.a, r.c⟩ := ⟨_, rfl⟩
    have HP := Lib.hid (HP0.out.trans (by rw [hr']; unfold partZ; simp [hz]) : prtZ untZ [73, 78, 84, 69, 82, 86, 65, 76] s r.D = .ok r'.D)
    have Hv : Hid (r'.vals = r.vals.set 1 (.int .i64 n)) := by rw [hr']; rfl
    have Hst : Hid (∀ W, RcV r W → RcV r' W) := fun W hr => by rw [hr']; exact ⟨hr.mo, hr.md, hr.yd, hr.wk, hr.da, hr.ho, hr.mi, hr.se, hr.po⟩
    clear hz hV hW0 HP0 hr'
    go_enter Tryz.func21, Tryz.ntmps21
    go_upto_region 1 with fail
    rw [← HW0.out]
    go_upto_region 12 with (first
      | (go_at_call 39; (with_reducible refine (rnms_c _).mono ?_); rintro e w1 ⟨⟨H, rfl, hHR⟩, hE1⟩; have HHR := Lib.hid hHR; have HE1 := Lib.hid hE1; clear hHR hE1)
      | (go_at_call 56; (with_reducible refine (HPl.out _ _ HHR.out).mono ?_); rintro e wp ⟨rfl, rfl⟩)
      | (go_at_call 59; (with_reducible refine (HNu.out _).mono ?_); rintro e wn ⟨rfl, rfl⟩)
      | (go_at_call 60; (with_reducible refine (nums_any s _ hs).mono ?_); rintro e w2 ⟨⟨nv, nb, rfl⟩, hE2⟩; have HE2 := Lib.hid hE2; clear hE2))
    have hS2 := HS.out.ext (HE1.out.trans HE2.out)
    obtain ⟨hu, hf⟩ := hS2.cell (off := 1) (u := .int .i64 r.D.iv) rfl
    have hl0 := hS2.lt0
    have Hq := Lib.hid (rp_ok (r' := r') hS2 1 (.int .i64 r.D.iv) (.int .i64 n) rfl Hv.out HP.out (fun F W _ _ hr => Hst.out W hr))
    have hRs := rec_size r'
    clear hS2
    go_upto_region 13 with fail
    have hq := Hq.out
    obtain ⟨W2, hW2⟩ : ∃ W2, W2 = w2.setCell ⟨w.heap.size, 1, none⟩ (.int .i64 n) := ⟨_, rfl⟩
    rw [← hW2] at hq ⊢
    obtain ⟨ht2, hl2, hr2, hOk⟩ := hq
    have HOk := Lib.hid hOk
    clear hW2 hOk hu hf hl0
    go_wp2_with (first
      | (refine load_midg (by rfl) 25 _ rfl w.heap.size 0 rfl r'.vals _ hr2 Tryz.underlying25 rfl hRs ?_)
      | (refine wpList_store_gen (op := ⟨none, .store 25 (.tmp 6) (.tmp 125), _, _, _, _⟩) rfl 25 _ _ rfl (w.heap.size + 1) r'.vals rfl rfl hl2 ht2 hRs (rec_all1 _) ?_; intro W3 hF4 hl4 hr3))
    refine bodyPost_ret (results_ct rfl rfl rfl (run_loadVar_mid W3 (w.heap.size + 1) 0 25 _ _ hr3 Tryz.underlying25 rfl hRs)) rfl (HOk.out W3 hF4)
set_option maxRecDepth 100000 in
set_option maxHeartbeats 4000000 in
theorem rpt2_c (s : List UInt8) (r : Rec) (w : World) (hs : s.length ≤ 50000) (hV : RcV r w) :
    Calls Tryz.prog 21 #[.string ⟨#[67, 79, 85, 78, 84]⟩, .string ⟨s.toArray⟩, .agg r.vals.toArray] w (PartR [67, 79, 85, 78, 84] s r w) := by
  obtain ⟨W0, hW0⟩ : ∃ W0, W0 = ((w.alloc (.cells r.vals.toArray 25)).alloc (.cells #[.int .i64 0, .int .i64 0, .int .i64 0, .int .i64 0, .slice none 0 0, .slice none 0 0, .slice none 0 0, .slice none 0 0, .slice none 0 0, .slice none 0 0, .slice none 0 0, .slice none 0 0, .slice none 0 0, .int .i64 0] 25)) := ⟨_, rfl⟩
  have HW0 := Lib.hid hW0
  have HS : Hid (RpS r w W0) := by rw [hW0]; exact RpS.init r w hV
  have HPl : Hid (∀ H W, RdS ptW H 0 W → Calls Tryz.prog 56 #[.slice (some ⟨H, 0, none⟩) 14 14, .string ⟨#[67, 79, 85, 78, 84]⟩] W fun e w' => e = .returned (.int .i64 3) ∧ W = w') := fun H W hR => rplace_c ptW H 14 [67, 79, 85, 78, 84] 3 W hR (by decide) (by decide) (by decide)
  have HP0 : Hid (prtZ untZ [67, 79, 85, 78, 84] s r.D = (match partZ untZ 2 s r.D with
    | some R' => .ok R'
    | none => .er 3)) := prt_at 2 (by decide) s r.D
  cases hz : numZ s with
  | none =>
    have HNu : Hid (∀ w', Calls Tryz.prog 59 #[.string ⟨s.toArray⟩] w' fun e w'' => e = .returned (.tuple #[.int .i64 0, .bool false]) ∧ w' = w'') := fun w' => by have := rnum_c s w' (by omega); rwa [hz] at this
    have HP := Lib.hid (HP0.out.trans (by unfold partZ; simp [hz]) : prtZ untZ [67, 79, 85, 78, 84] s r.D = .er 3)
    clear hz hV hW0 HP0
    go_enter Tryz.func21, Tryz.ntmps21
    go_upto_region 1 with fail
    rw [← HW0.out]
    go_upto_region 15 with (first
      | (go_at_call 39; (with_reducible refine (rnms_c _).mono ?_); rintro e w1 ⟨⟨H, rfl, hHR⟩, hE1⟩; have HHR := Lib.hid hHR; have HE1 := Lib.hid hE1; clear hHR hE1)
      | (go_at_call 56; (with_reducible refine (HPl.out _ _ HHR.out).mono ?_); rintro e wp ⟨rfl, rfl⟩)
      | (go_at_call 59; (with_reducible refine (HNu.out _).mono ?_); rintro e wn ⟨rfl, rfl⟩)
      | (go_at_call 60; (with_reducible refine (nums_any s _ hs).mono ?_); rintro e w2 ⟨⟨nv, nb, rfl⟩, hE2⟩; have HE2 := Lib.hid hE2; clear hE2))
    have hS2 := HS.out.ext (HE1.out.trans HE2.out)
    obtain ⟨hu, hf⟩ := hS2.cell (off := 2) (u := .int .i64 r.D.ct) rfl
    have hl0 := hS2.lt0
    have hq := rp_er hS2 3 HP.out 2 (.int .i64 r.D.ct) (.int .i64 0) rfl
    have Hq := Lib.hid hq
    clear hq hS2
    go_upto_region 16 with fail
    have hq := Hq.out
    obtain ⟨W2, hW2⟩ : ∃ W2, W2 = w2.setCell ⟨w.heap.size, 2, none⟩ (.int .i64 0) := ⟨_, rfl⟩
    rw [← hW2] at hq ⊢
    obtain ⟨ht2, hl2, hEr⟩ := hq
    have HEr := Lib.hid hEr
    clear hW2 hEr hu hf hl0
    go_wp2_with (refine wpList_store_gen (op := ⟨none, .store 25 (.tmp 6) (.tmp 124), _, _, _, _⟩) rfl 25 _ _ rfl (w.heap.size + 1) Rec.zero.vals rfl rfl hl2 ht2 (rec_size Rec.zero) (rec_all1 _) ?_; intro W3 hF3 hl4 hr3)
    refine bodyPost_ret (results_ct rfl rfl rfl (run_loadVar_mid W3 (w.heap.size + 1) 0 25 _ _ hr3 Tryz.underlying25 rfl (rec_size Rec.zero))) rfl (HEr.out W3 hF3)
  | some n =>
    have HNu : Hid (∀ w', Calls Tryz.prog 59 #[.string ⟨s.toArray⟩] w' fun e w'' => e = .returned (.tuple #[.int .i64 n, .bool true]) ∧ w' = w'') := fun w' => by have := rnum_c s w' (by omega); rwa [hz] at this
    obtain ⟨r', hr'⟩ : ∃ r' : Rec, r' = ⟨{ r.D with ct := n }, r.a, r.c⟩ := ⟨_, rfl⟩
    have HP := Lib.hid (HP0.out.trans (by rw [hr']; unfold partZ; simp [hz]) : prtZ untZ [67, 79, 85, 78, 84] s r.D = .ok r'.D)
    have Hv : Hid (r'.vals = r.vals.set 2 (.int .i64 n)) := by rw [hr']; rfl
    have Hst : Hid (∀ W, RcV r W → RcV r' W) := fun W hr => by rw [hr']; exact ⟨hr.mo, hr.md, hr.yd, hr.wk, hr.da, hr.ho, hr.mi, hr.se, hr.po⟩
    clear hz hV hW0 HP0 hr'
    go_enter Tryz.func21, Tryz.ntmps21
    go_upto_region 1 with fail
    rw [← HW0.out]
    go_upto_region 15 with (first
      | (go_at_call 39; (with_reducible refine (rnms_c _).mono ?_); rintro e w1 ⟨⟨H, rfl, hHR⟩, hE1⟩; have HHR := Lib.hid hHR; have HE1 := Lib.hid hE1; clear hHR hE1)
      | (go_at_call 56; (with_reducible refine (HPl.out _ _ HHR.out).mono ?_); rintro e wp ⟨rfl, rfl⟩)
      | (go_at_call 59; (with_reducible refine (HNu.out _).mono ?_); rintro e wn ⟨rfl, rfl⟩)
      | (go_at_call 60; (with_reducible refine (nums_any s _ hs).mono ?_); rintro e w2 ⟨⟨nv, nb, rfl⟩, hE2⟩; have HE2 := Lib.hid hE2; clear hE2))
    have hS2 := HS.out.ext (HE1.out.trans HE2.out)
    obtain ⟨hu, hf⟩ := hS2.cell (off := 2) (u := .int .i64 r.D.ct) rfl
    have hl0 := hS2.lt0
    have Hq := Lib.hid (rp_ok (r' := r') hS2 2 (.int .i64 r.D.ct) (.int .i64 n) rfl Hv.out HP.out (fun F W _ _ hr => Hst.out W hr))
    have hRs := rec_size r'
    clear hS2
    go_upto_region 16 with fail
    have hq := Hq.out
    obtain ⟨W2, hW2⟩ : ∃ W2, W2 = w2.setCell ⟨w.heap.size, 2, none⟩ (.int .i64 n) := ⟨_, rfl⟩
    rw [← hW2] at hq ⊢
    obtain ⟨ht2, hl2, hr2, hOk⟩ := hq
    have HOk := Lib.hid hOk
    clear hW2 hOk hu hf hl0
    go_wp2_with (first
      | (refine load_midg (by rfl) 25 _ rfl w.heap.size 0 rfl r'.vals _ hr2 Tryz.underlying25 rfl hRs ?_)
      | (refine wpList_store_gen (op := ⟨none, .store 25 (.tmp 6) (.tmp 125), _, _, _, _⟩) rfl 25 _ _ rfl (w.heap.size + 1) r'.vals rfl rfl hl2 ht2 hRs (rec_all1 _) ?_; intro W3 hF4 hl4 hr3))
    refine bodyPost_ret (results_ct rfl rfl rfl (run_loadVar_mid W3 (w.heap.size + 1) 0 25 _ _ hr3 Tryz.underlying25 rfl hRs)) rfl (HOk.out W3 hF4)
set_option maxRecDepth 100000 in
set_option maxHeartbeats 4000000 in
theorem rpt3_c (s : List UInt8) (r : Rec) (w : World) (hs : s.length ≤ 50000) (hV : RcV r w) :
    Calls Tryz.prog 21 #[.string ⟨#[85, 78, 84, 73, 76]⟩, .string ⟨s.toArray⟩, .agg r.vals.toArray] w (PartR [85, 78, 84, 73, 76] s r w) := by
  obtain ⟨W0, hW0⟩ : ∃ W0, W0 = ((w.alloc (.cells r.vals.toArray 25)).alloc (.cells #[.int .i64 0, .int .i64 0, .int .i64 0, .int .i64 0, .slice none 0 0, .slice none 0 0, .slice none 0 0, .slice none 0 0, .slice none 0 0, .slice none 0 0, .slice none 0 0, .slice none 0 0, .slice none 0 0, .int .i64 0] 25)) := ⟨_, rfl⟩
  have HW0 := Lib.hid hW0
  have HS : Hid (RpS r w W0) := by rw [hW0]; exact RpS.init r w hV
  have HPl : Hid (∀ H W, RdS ptW H 0 W → Calls Tryz.prog 56 #[.slice (some ⟨H, 0, none⟩) 14 14, .string ⟨#[85, 78, 84, 73, 76]⟩] W fun e w' => e = .returned (.int .i64 4) ∧ W = w') := fun H W hR => rplace_c ptW H 14 [85, 78, 84, 73, 76] 4 W hR (by decide) (by decide) (by decide)
  have HP0 : Hid (prtZ untZ [85, 78, 84, 73, 76] s r.D = (match partZ untZ 3 s r.D with
    | some R' => .ok R'
    | none => .er 3)) := prt_at 3 (by decide) s r.D
  obtain ⟨n0, b0, hNu⟩ := num_any s w hs
  have HNu := Lib.hid hNu
  have HPr := Lib.hid (fun w' => rcparse_c s w' hs)
  clear hV hW0 hNu
  go_enter Tryz.func21, Tryz.ntmps21
  go_upto_region 1 with fail
  rw [← HW0.out]
  go_upto_region 18 with (first
    | (go_at_call 39; (with_reducible refine (rnms_c _).mono ?_); rintro e w1 ⟨⟨H, rfl, hHR⟩, hE1⟩; have HHR := Lib.hid hHR; have HE1 := Lib.hid hE1; clear hHR hE1)
    | (go_at_call 56; (with_reducible refine (HPl.out _ _ HHR.out).mono ?_); rintro e wp ⟨rfl, rfl⟩)
    | (go_at_call 59; (with_reducible refine (HNu.out _).mono ?_); rintro e wn ⟨rfl, rfl⟩)
    | (go_at_call 60; (with_reducible refine (nums_any s _ hs).mono ?_); rintro e w2 ⟨⟨nv, nb, rfl⟩, hE2⟩; have HE2 := Lib.hid hE2; clear hE2))
  go_upto_region 19 with (go_at_call 61; (with_reducible refine (HPr.out _).mono ?_); rintro e w3 ⟨⟨y, m, d, hh, mi, se, er, rfl, hor⟩, hE3⟩; have Hor := Lib.hid hor; clear hor; unfold momA)
  have hE4 : Ext W0 (w3.alloc (.cells #[.int .i64 y, .int .i64 m, .int .i64 d, .int .i64 hh, .int .i64 mi, .int .i64 se] 98)) := (HE1.out.trans (HE2.out.trans hE3)).alloc _
  have HE4 := Lib.hid hE4
  have hc : ∀ o, (w3.alloc (.cells #[.int .i64 y, .int .i64 m, .int .i64 d, .int .i64 hh, .int .i64 mi, .int .i64 se] 98)).cell? ⟨w3.heap.size, o, none⟩ = (#[.int .i64 y, .int .i64 m, .int .i64 d, .int .i64 hh, .int .i64 mi, .int .i64 se] : Array Value)[o]? := fun o => World.cell?_alloc_new _ _ _ _
  have k0 := hc 0
  have k1 := hc 1
  have k2 := hc 2
  have k3 := hc 3
  have k4 := hc 4
  have k5 := hc 5
  simp only [List.getElem?_toArray, List.getElem?_cons_zero, List.getElem?_cons_succ] at k0 k1 k2 k3 k4 k5
  generalize w3.alloc (.cells #[.int .i64 y, .int .i64 m, .int .i64 d, .int .i64 hh, .int .i64 mi, .int .i64 se] 98) = W5 at *
  generalize w3.heap.size = B1 at *
  clear hc hE4 hE3
  rcases Hor.out with ⟨rfl, hv, ht, hz⟩ | ⟨her, hz⟩
  · obtain ⟨t, hT⟩ : ∃ t, t = inst y m d hh mi se := ⟨_, rfl⟩
    rw [← hT] at hz
    have HO : Hid (Calls Tryz.prog 62 #[.agg #[.int .i64 y, .int .i64 m, .int .i64 d, .int .i64 hh, .int .i64 mi, .int .i64 se]] W5 fun e w' => e = .returned (.int .i64 t) ∧ Ext W5 w') := by rw [hT]; exact rof_yes y m d hh mi se W5 hv ht
    obtain ⟨r', hr'⟩ : ∃ r' : Rec, r' = ⟨{ r.D with un := t }, r.a, r.c⟩ := ⟨_, rfl⟩
    have HP := Lib.hid (HP0.out.trans (by rw [hr']; unfold partZ; simp [hz]) : prtZ untZ [85, 78, 84, 73, 76] s r.D = .ok r'.D)
    have Hv : Hid (r'.vals = r.vals.set 3 (.int .i64 t)) := by rw [hr']; rfl
    have Hst : Hid (∀ W, RcV r W → RcV r' W) := fun W hr => by rw [hr']; exact ⟨hr.mo, hr.md, hr.yd, hr.wk, hr.da, hr.ho, hr.mi, hr.se, hr.po⟩
    have hRs := rec_size r'
    clear hv ht hz hT HP0 hr'
    go_upto_region 51 with (go_at_call 62; (with_reducible refine HO.out.mono ?_); rintro e w6 ⟨rfl, hE6⟩; have hS6 := HS.out.ext (HE4.out.trans hE6); have HS6 := Lib.hid hS6; obtain ⟨hu, hf⟩ := hS6.cell (off := 3) (u := .int .i64 r.D.un) rfl; have hl0 := hS6.lt0; clear hE6 hS6)
    have HQ := Lib.hid (rp_ok (r' := r') HS6.out 3 (.int .i64 r.D.un) (.int .i64 t) rfl Hv.out HP.out (fun F W _ _ hr => Hst.out W hr))
    have hq := HQ.out
    obtain ⟨W2, hW2⟩ : ∃ W2, W2 = w6.setCell ⟨w.heap.size, 3, none⟩ (.int .i64 t) := ⟨_, rfl⟩
    rw [← hW2] at hq ⊢
    obtain ⟨ht2, hl2, hr2, hOk⟩ := hq
    have HOk := Lib.hid hOk
    clear hW2 hOk hu hf hl0 k0 k1 k2 k3 k4 k5
    go_wp2_with (first
      | (refine load_midg (by rfl) 25 _ rfl w.heap.size 0 rfl r'.vals _ hr2 Tryz.underlying25 rfl hRs ?_)
      | (refine wpList_store_gen (op := ⟨none, .store 25 (.tmp 6) (.tmp 125), _, _, _, _⟩) rfl 25 _ _ rfl (w.heap.size + 1) r'.vals rfl rfl hl2 ht2 hRs (rec_all1 _) ?_; intro W3 hF4 hl4 hr3))
    refine bodyPost_ret (results_ct rfl rfl rfl (run_loadVar_mid W3 (w.heap.size + 1) 0 25 _ _ hr3 Tryz.underlying25 rfl hRs)) rfl (HOk.out W3 hF4)
  · have t1 : (er != 0) = true := by rw [bne_iff_ne]; omega
    have t2 : (er == 0) = false := by rw [beq_eq_false_iff_ne]; omega
    have HP := Lib.hid (HP0.out.trans (by unfold partZ; simp [hz]) : prtZ untZ [85, 78, 84, 73, 76] s r.D = .er 3)
    have hS2 := HS.out.ext HE4.out
    have HEr := Lib.hid (rp_er0 hS2 3 HP.out)
    have hl2 := hS2.l
    have ht2 := hS2.t
    clear her hz HP0 hS2
    go_wp2_with (refine wpList_store_gen (op := ⟨none, .store 25 (.tmp 6) (.tmp 124), _, _, _, _⟩) rfl 25 _ _ rfl (w.heap.size + 1) Rec.zero.vals rfl rfl hl2 ht2 (rec_size Rec.zero) (rec_all1 _) ?_; intro W3 hF3 hl4 hr3)
    refine bodyPost_ret (results_ct rfl rfl rfl (run_loadVar_mid W3 (w.heap.size + 1) 0 25 _ _ hr3 Tryz.underlying25 rfl (rec_size Rec.zero))) rfl (HEr.out W3 hF3)
set_option maxRecDepth 100000 in
set_option maxHeartbeats 4000000 in
theorem rpt4_c (s : List UInt8) (r : Rec) (w : World) (hs : s.length ≤ 50000) (hV : RcV r w) :
    Calls Tryz.prog 21 #[.string ⟨#[66, 89, 77, 79, 78, 84, 72]⟩, .string ⟨s.toArray⟩, .agg r.vals.toArray] w (PartR [66, 89, 77, 79, 78, 84, 72] s r w) := by
  obtain ⟨W0, hW0⟩ : ∃ W0, W0 = ((w.alloc (.cells r.vals.toArray 25)).alloc (.cells #[.int .i64 0, .int .i64 0, .int .i64 0, .int .i64 0, .slice none 0 0, .slice none 0 0, .slice none 0 0, .slice none 0 0, .slice none 0 0, .slice none 0 0, .slice none 0 0, .slice none 0 0, .slice none 0 0, .int .i64 0] 25)) := ⟨_, rfl⟩
  have HW0 := Lib.hid hW0
  have HS : Hid (RpS r w W0) := by rw [hW0]; exact RpS.init r w hV
  have HPl : Hid (∀ H W, RdS ptW H 0 W → Calls Tryz.prog 56 #[.slice (some ⟨H, 0, none⟩) 14 14, .string ⟨#[66, 89, 77, 79, 78, 84, 72]⟩] W fun e w' => e = .returned (.int .i64 5) ∧ W = w') := fun H W hR => rplace_c ptW H 14 [66, 89, 77, 79, 78, 84, 72] 5 W hR (by decide) (by decide) (by decide)
  have HP0 : Hid (prtZ untZ [66, 89, 77, 79, 78, 84, 72] s r.D = (match partZ untZ 4 s r.D with
    | some R' => .ok R'
    | none => .er 3)) := prt_at 4 (by decide) s r.D
  obtain ⟨n0, b0, hNu⟩ := num_any s w hs
  have HNu := Lib.hid hNu
  cases hz : numsZ s with
  | none =>
    have HNs : Hid (∀ w', Calls Tryz.prog 60 #[.string ⟨s.toArray⟩] w' fun e w'' => e = .returned (.tuple #[.slice none 0 0, .bool false]) ∧ Ext w' w'') := fun w' => (rnumbers_c s w' hs).mono (fun e w'' h => by unfold NumsR at h; rw [hz] at h; exact h)
    have HP := Lib.hid (HP0.out.trans (by unfold partZ; simp [hz]) : prtZ untZ [66, 89, 77, 79, 78, 84, 72] s r.D = .er 3)
    clear hz hV hW0 HP0 hNu
    go_enter Tryz.func21, Tryz.ntmps21
    go_upto_region 1 with fail
    rw [← HW0.out]
    go_upto_region 28 with (first
      | (go_at_call 39; (with_reducible refine (rnms_c _).mono ?_); rintro e w1 ⟨⟨H, rfl, hHR⟩, hE1⟩; have HHR := Lib.hid hHR; have HE1 := Lib.hid hE1; clear hHR hE1)
      | (go_at_call 56; (with_reducible refine (HPl.out _ _ HHR.out).mono ?_); rintro e wp ⟨rfl, rfl⟩)
      | (go_at_call 59; (with_reducible refine (HNu.out _).mono ?_); rintro e wn ⟨rfl, rfl⟩)
      | (go_at_call 60; (with_reducible refine (HNs.out _).mono ?_); rintro e w2 ⟨rfl, hE2⟩; have HE2 := Lib.hid hE2; clear hE2))
    have hS2 := HS.out.ext (HE1.out.trans HE2.out)
    obtain ⟨hu, hf⟩ := hS2.cell (off := 4) (u := .slice (r.a 0) r.D.mo.length (r.c 0)) rfl
    have hl0 := hS2.lt0
    have Hq := Lib.hid (rp_er hS2 3 HP.out 4 (.slice (r.a 0) r.D.mo.length (r.c 0)) (.slice none 0 0) rfl)
    clear hS2
    go_upto_region 29 with fail
    have hq := Hq.out
    obtain ⟨W2, hW2⟩ : ∃ W2, W2 = w2.setCell ⟨w.heap.size, 4, none⟩ (.slice none 0 0) := ⟨_, rfl⟩
    rw [← hW2] at hq ⊢
    obtain ⟨ht2, hl2, hEr⟩ := hq
    have HEr := Lib.hid hEr
    clear hW2 hEr hu hf hl0
    go_wp2_with (refine wpList_store_gen (op := ⟨none, .store 25 (.tmp 6) (.tmp 124), _, _, _, _⟩) rfl 25 _ _ rfl (w.heap.size + 1) Rec.zero.vals rfl rfl hl2 ht2 (rec_size Rec.zero) (rec_all1 _) ?_; intro W3 hF3 hl4 hr3)
    refine bodyPost_ret (results_ct rfl rfl rfl (run_loadVar_mid W3 (w.heap.size + 1) 0 25 _ _ hr3 Tryz.underlying25 rfl (rec_size Rec.zero))) rfl (HEr.out W3 hF3)
  | some l =>
    have HNs : Hid (∀ w', Calls Tryz.prog 60 #[.string ⟨s.toArray⟩] w' fun e w'' => ∃ ao cap, e = .returned (.tuple #[.slice ao l.length cap, .bool true]) ∧ IsV ao cap l w'' ∧ (∀ R o m, ao = some ⟨R, o, m⟩ → w'.heap.size ≤ R) ∧ Ext w' w'') := fun w' => (rnumbers_c s w' hs).mono (fun e w'' h => by unfold NumsR at h; rw [hz] at h; exact h)
    have HP : Hid (∀ ao cap, prtZ untZ [66, 89, 77, 79, 78, 84, 72] s r.D = .ok (Rec.mk { r.D with mo := l } (fun j => if j = 0 then ao else r.a j) (fun j => if j = 0 then cap else r.c j)).D) := fun ao cap => HP0.out.trans (by unfold partZ; simp [hz])
    clear hz hV hW0 HP0 hNu
    go_enter Tryz.func21, Tryz.ntmps21
    go_upto_region 1 with fail
    rw [← HW0.out]
    go_upto_region 28 with (first
      | (go_at_call 39; (with_reducible refine (rnms_c _).mono ?_); rintro e w1 ⟨⟨H, rfl, hHR⟩, hE1⟩; have HHR := Lib.hid hHR; have HE1 := Lib.hid hE1; clear hHR hE1)
      | (go_at_call 56; (with_reducible refine (HPl.out _ _ HHR.out).mono ?_); rintro e wp ⟨rfl, rfl⟩)
      | (go_at_call 59; (with_reducible refine (HNu.out _).mono ?_); rintro e wn ⟨rfl, rfl⟩)
      | (go_at_call 60; (with_reducible refine (HNs.out _).mono ?_); rintro e w2 ⟨ao, cap, rfl, hV2, hb2, hE2⟩; have HE2 := Lib.hid hE2; have HV2 := Lib.hid hV2; have Hb2 := Lib.hid hb2; clear hE2 hV2 hb2))
    have h1 := HS.out.ext HE1.out
    have hS2 := h1.ext HE2.out
    obtain ⟨hu, hf⟩ := hS2.cell (off := 4) (u := .slice (r.a 0) r.D.mo.length (r.c 0)) rfl
    have hl0 := hS2.lt0
    obtain ⟨r', hr'⟩ : ∃ r' : Rec, r' = ⟨{ r.D with mo := l }, fun j => if j = 0 then ao else r.a j, fun j => if j = 0 then cap else r.c j⟩ := ⟨_, rfl⟩
    have Hv : Hid (r'.vals = r.vals.set 4 (.slice ao l.length cap)) := by rw [hr']; rfl
    have Hst : Hid (∀ (F : Nat → Prop) W, (∀ b, F b → b < w.heap.size ∨ b = w.heap.size ∨ b = w.heap.size + 1) → Frm F w2 W → RcV r W → RcV r' W) := fun F W hF1 hF hr => by rw [hr']; exact ⟨HV2.out.frmF (fun R o m e q => by have := Hb2.out R o m e; have := h1.l; have := hF1 R q; omega) hF, hr.md, hr.yd, hr.wk, hr.da, hr.ho, hr.mi, hr.se, hr.po⟩
    have Hq := Lib.hid (rp_ok (r' := r') hS2 4 (.slice (r.a 0) r.D.mo.length (r.c 0)) (.slice ao l.length cap) rfl Hv.out (by rw [hr']; exact HP.out ao cap) Hst.out)
    have hRs := rec_size r'
    clear hS2 h1 hr'
    go_upto_region 29 with fail
    have hq := Hq.out
    obtain ⟨W2, hW2⟩ : ∃ W2, W2 = w2.setCell ⟨w.heap.size, 4, none⟩ (.slice ao l.length cap) := ⟨_, rfl⟩
    rw [← hW2] at hq ⊢
    obtain ⟨ht2, hl2, hr2, hOk⟩ := hq
    have HOk := Lib.hid hOk
    clear hW2 hOk hu hf hl0
    go_wp2_with (first
      | (refine load_midg (by rfl) 25 _ rfl w.heap.size 0 rfl r'.vals _ hr2 Tryz.underlying25 rfl hRs ?_)
      | (refine wpList_store_gen (op := ⟨none, .store 25 (.tmp 6) (.tmp 125), _, _, _, _⟩) rfl 25 _ _ rfl (w.heap.size + 1) r'.vals rfl rfl hl2 ht2 hRs (rec_all1 _) ?_; intro W3 hF4 hl4 hr3))
    refine bodyPost_ret (results_ct rfl rfl rfl (run_loadVar_mid W3 (w.heap.size + 1) 0 25 _ _ hr3 Tryz.underlying25 rfl hRs)) rfl (HOk.out W3 hF4)
set_option maxRecDepth 100000 in
set_option maxHeartbeats 4000000 in
theorem rpt5_c (s : List UInt8) (r : Rec) (w : World) (hs : s.length ≤ 50000) (hV : RcV r w) :
    Calls Tryz.prog 21 #[.string ⟨#[66, 89, 87, 69, 69, 75, 78, 79]⟩, .string ⟨s.toArray⟩, .agg r.vals.toArray] w (PartR [66, 89, 87, 69, 69, 75, 78, 79] s r w) := by
  obtain ⟨W0, hW0⟩ : ∃ W0, W0 = ((w.alloc (.cells r.vals.toArray 25)).alloc (.cells #[.int .i64 0, .int .i64 0, .int .i64 0, .int .i64 0, .slice none 0 0, .slice none 0 0, .slice none 0 0, .slice none 0 0, .slice none 0 0, .slice none 0 0, .slice none 0 0, .slice none 0 0, .slice none 0 0, .int .i64 0] 25)) := ⟨_, rfl⟩
  have HW0 := Lib.hid hW0
  have HS : Hid (RpS r w W0) := by rw [hW0]; exact RpS.init r w hV
  have HPl : Hid (∀ H W, RdS ptW H 0 W → Calls Tryz.prog 56 #[.slice (some ⟨H, 0, none⟩) 14 14, .string ⟨#[66, 89, 87, 69, 69, 75, 78, 79]⟩] W fun e w' => e = .returned (.int .i64 6) ∧ W = w') := fun H W hR => rplace_c ptW H 14 [66, 89, 87, 69, 69, 75, 78, 79] 6 W hR (by decide) (by decide) (by decide)
  have HP0 : Hid (prtZ untZ [66, 89, 87, 69, 69, 75, 78, 79] s r.D = (match partZ untZ 5 s r.D with
    | some R' => .ok R'
    | none => .er 3)) := prt_at 5 (by decide) s r.D
  obtain ⟨n0, b0, hNu⟩ := num_any s w hs
  have HNu := Lib.hid hNu
  cases hz : numsZ s with
  | none =>
    have HNs : Hid (∀ w', Calls Tryz.prog 60 #[.string ⟨s.toArray⟩] w' fun e w'' => e = .returned (.tuple #[.slice none 0 0, .bool false]) ∧ Ext w' w'') := fun w' => (rnumbers_c s w' hs).mono (fun e w'' h => by unfold NumsR at h; rw [hz] at h; exact h)
    have HP := Lib.hid (HP0.out.trans (by unfold partZ; simp [hz]) : prtZ untZ [66, 89, 87, 69, 69, 75, 78, 79] s r.D = .er 3)
    clear hz hV hW0 HP0 hNu
    go_enter Tryz.func21, Tryz.ntmps21
    go_upto_region 1 with fail
    rw [← HW0.out]
    go_upto_region 31 with (first
      | (go_at_call 39; (with_reducible refine (rnms_c _).mono ?_); rintro e w1 ⟨⟨H, rfl, hHR⟩, hE1⟩; have HHR := Lib.hid hHR; have HE1 := Lib.hid hE1; clear hHR hE1)
      | (go_at_call 56; (with_reducible refine (HPl.out _ _ HHR.out).mono ?_); rintro e wp ⟨rfl, rfl⟩)
      | (go_at_call 59; (with_reducible refine (HNu.out _).mono ?_); rintro e wn ⟨rfl, rfl⟩)
      | (go_at_call 60; (with_reducible refine (HNs.out _).mono ?_); rintro e w2 ⟨rfl, hE2⟩; have HE2 := Lib.hid hE2; clear hE2))
    have hS2 := HS.out.ext (HE1.out.trans HE2.out)
    obtain ⟨hu, hf⟩ := hS2.cell (off := 7) (u := .slice (r.a 3) r.D.wk.length (r.c 3)) rfl
    have hl0 := hS2.lt0
    have Hq := Lib.hid (rp_er hS2 3 HP.out 7 (.slice (r.a 3) r.D.wk.length (r.c 3)) (.slice none 0 0) rfl)
    clear hS2
    go_upto_region 32 with fail
    have hq := Hq.out
    obtain ⟨W2, hW2⟩ : ∃ W2, W2 = w2.setCell ⟨w.heap.size, 7, none⟩ (.slice none 0 0) := ⟨_, rfl⟩
    rw [← hW2] at hq ⊢
    obtain ⟨ht2, hl2, hEr⟩ := hq
    have HEr := Lib.hid hEr
    clear hW2 hEr hu hf hl0
    go_wp2_with (refine wpList_store_gen (op := ⟨none, .store 25 (.tmp 6) (.tmp 124), _, _, _, _⟩) rfl 25 _ _ rfl (w.heap.size + 1) Rec.zero.vals rfl rfl hl2 ht2 (rec_size Rec.zero) (rec_all1 _) ?_; intro W3 hF3 hl4 hr3)
    refine bodyPost_ret (results_ct rfl rfl rfl (run_loadVar_mid W3 (w.heap.size + 1) 0 25 _ _ hr3 Tryz.underlying25 rfl (rec_size Rec.zero))) rfl (HEr.out W3 hF3)
  | some l =>
    have HNs : Hid (∀ w', Calls Tryz.prog 60 #[.string ⟨s.toArray⟩] w' fun e w'' => ∃ ao cap, e = .returned (.tuple #[.slice ao l.length cap, .bool true]) ∧ IsV ao cap l w'' ∧ (∀ R o m, ao = some ⟨R, o, m⟩ → w'.heap.size ≤ R) ∧ Ext w' w'') := fun w' => (rnumbers_c s w' hs).mono (fun e w'' h => by unfold NumsR at h; rw [hz] at h; exact h)
    have HP : Hid (∀ ao cap, prtZ untZ [66, 89, 87, 69, 69, 75, 78, 79] s r.D = .ok (Rec.mk { r.D with wk := l } (fun j => if j = 3 then ao else r.a j) (fun j => if j = 3 then cap else r.c j)).D) := fun ao cap => HP0.out.trans (by unfold partZ; simp [hz])
    clear hz hV hW0 HP0 hNu
    go_enter Tryz.func21, Tryz.ntmps21
    go_upto_region 1 with fail
    rw [← HW0.out]
    go_upto_region 31 with (first
      | (go_at_call 39; (with_reducible refine (rnms_c _).mono ?_); rintro e w1 ⟨⟨H, rfl, hHR⟩, hE1⟩; have HHR := Lib.hid hHR; have HE1 := Lib.hid hE1; clear hHR hE1)
      | (go_at_call 56; (with_reducible refine (HPl.out _ _ HHR.out).mono ?_); rintro e wp ⟨rfl, rfl⟩)
      | (go_at_call 59; (with_reducible refine (HNu.out _).mono ?_); rintro e wn ⟨rfl, rfl⟩)
      | (go_at_call 60; (with_reducible refine (HNs.out _).mono ?_); rintro e w2 ⟨ao, cap, rfl, hV2, hb2, hE2⟩; have HE2 := Lib.hid hE2; have HV2 := Lib.hid hV2; have Hb2 := Lib.hid hb2; clear hE2 hV2 hb2))
    have h1 := HS.out.ext HE1.out
    have hS2 := h1.ext HE2.out
    obtain ⟨hu, hf⟩ := hS2.cell (off := 7) (u := .slice (r.a 3) r.D.wk.length (r.c 3)) rfl
    have hl0 := hS2.lt0
    obtain ⟨r', hr'⟩ : ∃ r' : Rec, r' = ⟨{ r.D with wk := l }, fun j => if j = 3 then ao else r.a j, fun j => if j = 3 then cap else r.c j⟩ := ⟨_, rfl⟩
    have Hv : Hid (r'.vals = r.vals.set 7 (.slice ao l.length cap)) := by rw [hr']; rfl
    have Hst : Hid (∀ (F : Nat → Prop) W, (∀ b, F b → b < w.heap.size ∨ b = w.heap.size ∨ b = w.heap.size + 1) → Frm F w2 W → RcV r W → RcV r' W) := fun F W hF1 hF hr => by rw [hr']; exact ⟨hr.mo, hr.md, hr.yd, HV2.out.frmF (fun R o m e q => by have := Hb2.out R o m e; have := h1.l; have := hF1 R q; omega) hF, hr.da, hr.ho, hr.mi, hr.se, hr.po⟩
    have Hq := Lib.hid (rp_ok (r' := r') hS2 7 (.slice (r.a 3) r.D.wk.length (r.c 3)) (.slice ao l.length cap) rfl Hv.out (by rw [hr']; exact HP.out ao cap) Hst.out)
    have hRs := rec_size r'
    clear hS2 h1 hr'
    go_upto_region 32 with fail
    have hq := Hq.out
    obtain ⟨W2, hW2⟩ : ∃ W2, W2 = w2.setCell ⟨w.heap.size, 7, none⟩ (.slice ao l.length cap) := ⟨_, rfl⟩
    rw [← hW2] at hq ⊢
    obtain ⟨ht2, hl2, hr2, hOk⟩ := hq
    have HOk := Lib.hid hOk
    clear hW2 hOk hu hf hl0
    go_wp2_with (first
      | (refine load_midg (by rfl) 25 _ rfl w.heap.size 0 rfl r'.vals _ hr2 Tryz.underlying25 rfl hRs ?_)
      | (refine wpList_store_gen (op := ⟨none, .store 25 (.tmp 6) (.tmp 125), _, _, _, _⟩) rfl 25 _ _ rfl (w.heap.size + 1) r'.vals rfl rfl hl2 ht2 hRs (rec_all1 _) ?_; intro W3 hF4 hl4 hr3))
    refine bodyPost_ret (results_ct rfl rfl rfl (run_loadVar_mid W3 (w.heap.size + 1) 0 25 _ _ hr3 Tryz.underlying25 rfl hRs)) rfl (HOk.out W3 hF4)
set_option maxRecDepth 100000 in
set_option maxHeartbeats 4000000 in
theorem rpt6_c (s : List UInt8) (r : Rec) (w : World) (hs : s.length ≤ 50000) (hV : RcV r w) :
    Calls Tryz.prog 21 #[.string ⟨#[66, 89, 89, 69, 65, 82, 68, 65, 89]⟩, .string ⟨s.toArray⟩, .agg r.vals.toArray] w (PartR [66, 89, 89, 69, 65, 82, 68, 65, 89] s r w) := by
  obtain ⟨W0, hW0⟩ : ∃ W0, W0 = ((w.alloc (.cells r.vals.toArray 25)).alloc (.cells #[.int .i64 0, .int .i64 0, .int .i64 0, .int .i64 0, .slice none 0 0, .slice none 0 0, .slice none 0 0, .slice none 0 0, .slice none 0 0, .slice none 0 0, .slice none 0 0, .slice none 0 0, .slice none 0 0, .int .i64 0] 25)) := ⟨_, rfl⟩
  have HW0 := Lib.hid hW0
  have HS : Hid (RpS r w W0) := by rw [hW0]; exact RpS.init r w hV
  have HPl : Hid (∀ H W, RdS ptW H 0 W → Calls Tryz.prog 56 #[.slice (some ⟨H, 0, none⟩) 14 14, .string ⟨#[66, 89, 89, 69, 65, 82, 68, 65, 89]⟩] W fun e w' => e = .returned (.int .i64 7) ∧ W = w') := fun H W hR => rplace_c ptW H 14 [66, 89, 89, 69, 65, 82, 68, 65, 89] 7 W hR (by decide) (by decide) (by decide)
  have HP0 : Hid (prtZ untZ [66, 89, 89, 69, 65, 82, 68, 65, 89] s r.D = (match partZ untZ 6 s r.D with
    | some R' => .ok R'
    | none => .er 3)) := prt_at 6 (by decide) s r.D
  obtain ⟨n0, b0, hNu⟩ := num_any s w hs
  have HNu := Lib.hid hNu
  cases hz : numsZ s with
  | none =>
    have HNs : Hid (∀ w', Calls Tryz.prog 60 #[.string ⟨s.toArray⟩] w' fun e w'' => e = .returned (.tuple #[.slice none 0 0, .bool false]) ∧ Ext w' w'') := fun w' => (rnumbers_c s w' hs).mono (fun e w'' h => by unfold NumsR at h; rw [hz] at h; exact h)
    have HP := Lib.hid (HP0.out.trans (by unfold partZ; simp [hz]) : prtZ untZ [66, 89, 89, 69, 65, 82, 68, 65, 89] s r.D = .er 3)
    clear hz hV hW0 HP0 hNu
    go_enter Tryz.func21, Tryz.ntmps21
    go_upto_region 1 with fail
    rw [← HW0.out]
    go_upto_region 34 with (first
      | (go_at_call 39; (with_reducible refine (rnms_c _).mono ?_); rintro e w1 ⟨⟨H, rfl, hHR⟩, hE1⟩; have HHR := Lib.hid hHR; have HE1 := Lib.hid hE1; clear hHR hE1)
      | (go_at_call 56; (with_reducible refine (HPl.out _ _ HHR.out).mono ?_); rintro e wp ⟨rfl, rfl⟩)
      | (go_at_call 59; (with_reducible refine (HNu.out _).mono ?_); rintro e wn ⟨rfl, rfl⟩)
      | (go_at_call 60; (with_reducible refine (HNs.out _).mono ?_); rintro e w2 ⟨rfl, hE2⟩; have HE2 := Lib.hid hE2; clear hE2))
    have hS2 := HS.out.ext (HE1.out.trans HE2.out)
    obtain ⟨hu, hf⟩ := hS2.cell (off := 6) (u := .slice (r.a 2) r.D.yd.length (r.c 2)) rfl
    have hl0 := hS2.lt0
    have Hq := Lib.hid (rp_er hS2 3 HP.out 6 (.slice (r.a 2) r.D.yd.length (r.c 2)) (.slice none 0 0) rfl)
    clear hS2
    go_upto_region 35 with fail
    have hq := Hq.out
    obtain ⟨W2, hW2⟩ : ∃ W2, W2 = w2.setCell ⟨w.heap.size, 6, none⟩ (.slice none 0 0) := ⟨_, rfl⟩
    rw [← hW2] at hq ⊢
    obtain ⟨ht2, hl2, hEr⟩ := hq
    have HEr := Lib.hid hEr
    clear hW2 hEr hu hf hl0
    go_wp2_with (refine wpList_store_gen (op := ⟨none, .store 25 (.tmp 6) (.tmp 124), _, _, _, _⟩) rfl 25 _ _ rfl (w.heap.size + 1) Rec.zero.vals rfl rfl hl2 ht2 (rec_size Rec.zero) (rec_all1 _) ?_; intro W3 hF3 hl4 hr3)
    refine bodyPost_ret (results_ct rfl rfl rfl (run_loadVar_mid W3 (w.heap.size + 1) 0 25 _ _ hr3 Tryz.underlying25 rfl (rec_size Rec.zero))) rfl (HEr.out W3 hF3)
  | some l =>
    have HNs : Hid (∀ w', Calls Tryz.prog 60 #[.string ⟨s.toArray⟩] w' fun e w'' => ∃ ao cap, e = .returned (.tuple #[.slice ao l.length cap, .bool true]) ∧ IsV ao cap l w'' ∧ (∀ R o m, ao = some ⟨R, o, m⟩ → w'.heap.size ≤ R) ∧ Ext w' w'') := fun w' => (rnumbers_c s w' hs).mono (fun e w'' h => by unfold NumsR at h; rw [hz] at h; exact h)
    have HP : Hid (∀ ao cap, prtZ untZ [66, 89, 89, 69, 65, 82, 68, 65, 89] s r.D = .ok (Rec.mk { r.D with yd := l } (fun j => if j = 2 then ao else r.a j) (fun j => if j = 2 then cap else r.c j)).D) := fun ao cap => HP0.out.trans (by unfold partZ; simp [hz])
    clear hz hV hW0 HP0 hNu
    go_enter Tryz.func21, Tryz.ntmps21
    go_upto_region 1 with fail
    rw [← HW0.out]
    go_upto_region 34 with (first
      | (go_at_call 39; (with_reducible refine (rnms_c _).mono ?_); rintro e w1 ⟨⟨H, rfl, hHR⟩, hE1⟩; have HHR := Lib.hid hHR; have HE1 := Lib.hid hE1; clear hHR hE1)
      | (go_at_call 56; (with_reducible refine (HPl.out _ _ HHR.out).mono ?_); rintro e wp ⟨rfl, rfl⟩)
      | (go_at_call 59; (with_reducible refine (HNu.out _).mono ?_); rintro e wn ⟨rfl, rfl⟩)
      | (go_at_call 60; (with_reducible refine (HNs.out _).mono ?_); rintro e w2 ⟨ao, cap, rfl, hV2, hb2, hE2⟩; have HE2 := Lib.hid hE2; have HV2 := Lib.hid hV2; have Hb2 := Lib.hid hb2; clear hE2 hV2 hb2))
    have h1 := HS.out.ext HE1.out
    have hS2 := h1.ext HE2.out
    obtain ⟨hu, hf⟩ := hS2.cell (off := 6) (u := .slice (r.a 2) r.D.yd.length (r.c 2)) rfl
    have hl0 := hS2.lt0
    obtain ⟨r', hr'⟩ : ∃ r' : Rec, r' = ⟨{ r.D with yd := l }, fun j => if j = 2 then ao else r.a j, fun j => if j = 2 then cap else r.c j⟩ := ⟨_, rfl⟩
    have Hv : Hid (r'.vals = r.vals.set 6 (.slice ao l.length cap)) := by rw [hr']; rfl
    have Hst : Hid (∀ (F : Nat → Prop) W, (∀ b, F b → b < w.heap.size ∨ b = w.heap.size ∨ b = w.heap.size + 1) → Frm F w2 W → RcV r W → RcV r' W) := fun F W hF1 hF hr => by rw [hr']; exact ⟨hr.mo, hr.md, HV2.out.frmF (fun R o m e q => by have := Hb2.out R o m e; have := h1.l; have := hF1 R q; omega) hF, hr.wk, hr.da, hr.ho, hr.mi, hr.se, hr.po⟩
    have Hq := Lib.hid (rp_ok (r' := r') hS2 6 (.slice (r.a 2) r.D.yd.length (r.c 2)) (.slice ao l.length cap) rfl Hv.out (by rw [hr']; exact HP.out ao cap) Hst.out)
    have hRs := rec_size r'
    clear hS2 h1 hr'
    go_upto_region 35 with fail
    have hq := Hq.out
    obtain ⟨W2, hW2⟩ : ∃ W2, W2 = w2.setCell ⟨w.heap.size, 6, none⟩ (.slice ao l.length cap) := ⟨_, rfl⟩
    rw [← hW2] at hq ⊢
    obtain ⟨ht2, hl2, hr2, hOk⟩ := hq
    have HOk := Lib.hid hOk
    clear hW2 hOk hu hf hl0
    go_wp2_with (first
      | (refine load_midg (by rfl) 25 _ rfl w.heap.size 0 rfl r'.vals _ hr2 Tryz.underlying25 rfl hRs ?_)
      | (refine wpList_store_gen (op := ⟨none, .store 25 (.tmp 6) (.tmp 125), _, _, _, _⟩) rfl 25 _ _ rfl (w.heap.size + 1) r'.vals rfl rfl hl2 ht2 hRs (rec_all1 _) ?_; intro W3 hF4 hl4 hr3))
    refine bodyPost_ret (results_ct rfl rfl rfl (run_loadVar_mid W3 (w.heap.size + 1) 0 25 _ _ hr3 Tryz.underlying25 rfl hRs)) rfl (HOk.out W3 hF4)
end Go.Proofs.YtgndogpgfgliaaaGreatDoor
