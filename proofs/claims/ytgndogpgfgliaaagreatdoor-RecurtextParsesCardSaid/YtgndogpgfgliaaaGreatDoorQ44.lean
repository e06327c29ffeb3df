/- Recurrence rules: the walk of the reference's Part. -/
import Derived.Test.YtgndogpgfgliaaaGreatDoorQ43
namespace Go.Proofs.YtgndogpgfgliaaaGreatDoor
set_option linter.unusedVariables false
set_option linter.unnecessarySimpa false
set_option linter.unusedSimpArgs false
open Go.RowKit

set_option maxRecDepth 100000 in
set_option maxHeartbeats 4000000 in
theorem rpt7_c (s : List UInt8) (r : Rec) (w : World) (hs : s.length ≤ 50000) (hV : RcV r w) :
    Calls Tryz.prog 21 #[.string ⟨#[66, 89, 77, 79, 78, 84, 72, 68, 65, 89]⟩, .string ⟨s.toArray⟩, .agg r.vals.toArray] w (PartR [66, 89, 77, 79, 78, 84, 72, 68, 65, 89] s r w) := by
  obtain ⟨W0, hW0⟩ : ∃ W0, W0 = ((w.alloc (.cells r.vals.toArray 25)).alloc (.cells #[.int .i64 0, .int .i64 0, .int .i64 0, .int .i64 0, .slice none 0 0, .slice none 0 0, .slice none 0 0, .slice none 0 0, .slice none 0 0, .slice none 0 0, .slice none 0 0, .slice none 0 0, .slice none 0 0, .int .i64 0] 25)) := ⟨_, rfl⟩
  have HW0 := Lib.hid hW0
  have HS : Hid (RpS r w W0) := by rw [hW0]; exact RpS.init r w hV
  have HPl : Hid (∀ H W, RdS ptW H 0 W → Calls Tryz.prog 56 #[.slice (some ⟨H, 0, none⟩) 14 14, .string ⟨#[66, 89, 77, 79, 78, 84, 72, 68, 65, 89]⟩] W fun e w' => e = .returned (.int .i64 8) ∧ W = w') := fun H W hR => rplace_c ptW H 14 [66, 89, 77, 79, 78, 84, 72, 68, 65, 89] 8 W hR (by decide) (by decide) (by decide)
  have HP0 : Hid (prtZ untZ [66, 89, 77, 79, 78, 84, 72, 68, 65, 89] s r.D = (match partZ untZ 7 s r.D with
    | some R' => .ok R'
    | none => .er 3)) := prt_at 7 (by decide) s r.D
  obtain ⟨n0, b0, hNu⟩ := num_any s w hs
  have HNu := Lib.hid hNu
  cases hz : numsZ s with
  | none =>
    have HNs : Hid (∀ w', Calls Tryz.prog 60 #[.string ⟨s.toArray⟩] w' fun e w'' => e = .returned (.tuple #[.slice none 0 0, .bool false]) ∧ Ext w' w'') := fun w' => (rnumbers_c s w' hs).mono (fun e w'' h => by unfold NumsR at h; rw [hz] at h; exact h)
    have HP := Lib.hid (HP0.out.trans (by unfold partZ; simp [hz]) : prtZ untZ [66, 89, 77, 79, 78, 84, 72, 68, 65, 89] s r.D = .er 3)
    clear hz hV hW0 HP0 hNu
    go_enter Tryz.func21, Tryz.ntmps21
    go_upto_region 1 with fail
    rw [← HW0.out]
    go_upto_region 37 with (first
      | (go_at_call 39; (with_reducible refine (rnms_c _).mono ?_); rintro e w1 ⟨⟨H, rfl, hHR⟩, hE1⟩; have HHR := Lib.hid hHR; have HE1 := Lib.hid hE1; clear hHR hE1)
      | (go_at_call 56; (with_reducible refine (HPl.out _ _ HHR.out).mono ?_); rintro e wp ⟨rfl, rfl⟩)
      | (go_at_call 59; (with_reducible refine (HNu.out _).mono ?_); rintro e wn ⟨rfl, rfl⟩)
      | (go_at_call 60; (with_reducible refine (HNs.out _).mono ?_); rintro e w2 ⟨rfl, hE2⟩; have HE2 := Lib.hid hE2; clear hE2))
    have hS2 := HS.out.ext (HE1.out.trans HE2.out)
    obtain ⟨hu, hf⟩ := hS2.cell (off := 5) (u := .slice (r.a 1) r.D.md.length (r.c 1)) rfl
    have hl0 := hS2.lt0
    have Hq := Lib.hid (rp_er hS2 3 HP.out 5 (.slice (r.a 1) r.D.md.length (r.c 1)) (.slice none 0 0) rfl)
    clear hS2
    go_upto_region 38 with fail
    have hq := Hq.out
    obtain ⟨W2, hW2⟩ : ∃ W2, W2 = w2.setCell ⟨w.heap.size, 5, none⟩ (.slice none 0 0) := ⟨_, rfl⟩
    rw [← hW2] at hq ⊢
    obtain ⟨ht2, hl2, hEr⟩ := hq
    have HEr := Lib.hid hEr
    clear hW2 hEr hu hf hl0
    go_wp2_with (refine wpList_store_gen (op := ⟨none, .store 25 (.tmp 6) (.tmp 124), _, _, _, _⟩) rfl 25 _ _ rfl (w.heap.size + 1) Rec.zero.vals rfl rfl hl2 ht2 (rec_size Rec.zero) (rec_all1 _) ?_; intro W3 hF3 hl4 hr3)
    refine bodyPost_ret (results_ct rfl rfl rfl (run_loadVar_mid W3 (w.heap.size + 1) 0 25 _ _ hr3 Tryz.underlying25 rfl (rec_size Rec.zero))) rfl (HEr.out W3 hF3)
  | some l =>
    have HNs : Hid (∀ w', Calls Tryz.prog 60 #[.string ⟨s.toArray⟩] w' fun e w'' => ∃ ao cap, e = .returned (.tuple #[.slice ao l.length cap, .bool true]) ∧ IsV ao cap l w'' ∧ (∀ R o m, ao = some ⟨R, o, m⟩ → w'.heap.size ≤ R) ∧ Ext w' w'') := fun w' => (rnumbers_c s w' hs).mono (fun e w'' h => by unfold NumsR at h; rw [hz] at h; exact h)
    have HP : Hid (∀ ao cap, prtZ untZ [66, 89, 77, 79, 78, 84, 72, 68, 65, 89] s r.D = .ok (Rec.mk { r.D with md := l } (fun j => if j = 1 then ao else r.a j) (fun j => if j = 1 then cap else r.c j)).D) := fun ao cap => HP0.out.trans (by unfold partZ; simp [hz])
    clear hz hV hW0 HP0 hNu
    go_enter Tryz.func21, Tryz.ntmps21
    go_upto_region 1 with fail
    rw [← HW0.out]
    go_upto_region 37 with (first
      | (go_at_call 39; (with_reducible refine (rnms_c _).mono ?_); rintro e w1 ⟨⟨H, rfl, hHR⟩, hE1⟩; have HHR := Lib.hid hHR; have HE1 := Lib.hid hE1; clear hHR hE1)
      | (go_at_call 56; (with_reducible refine (HPl.out _ _ HHR.out).mono ?_); rintro e wp ⟨rfl, rfl⟩)
      | (go_at_call 59; (with_reducible refine (HNu.out _).mono ?_); rintro e wn ⟨rfl, rfl⟩)
      | (go_at_call 60; (with_reducible refine (HNs.out _).mono ?_); rintro e w2 ⟨ao, cap, rfl, hV2, hb2, hE2⟩; have HE2 := Lib.hid hE2; have HV2 := Lib.hid hV2; have Hb2 := Lib.hid hb2; clear hE2 hV2 hb2))
    have h1 := HS.out.ext HE1.out
    have hS2 := h1.ext HE2.out
    obtain ⟨hu, hf⟩ := hS2.cell (off := 5) (u := .slice (r.a 1) r.D.md.length (r.c 1)) rfl
    have hl0 := hS2.lt0
    obtain ⟨r', hr'⟩ : ∃ r' : Rec, r' = ⟨{ r.D with md := l }, fun j => if j = 1 then ao else r.a j, fun j => if j = 1 then cap else r.c j⟩ := ⟨_, rfl⟩
    have Hv : Hid (r'.vals = r.vals.set 5 (.slice ao l.length cap)) := by rw [hr']; rfl
    have Hst : Hid (∀ (F : Nat → Prop) W, (∀ b, F b → b < w.heap.size ∨ b = w.heap.size ∨ b = w.heap.size + 1) → Frm F w2 W → RcV r W → RcV r' W) := fun F W hF1 hF hr => by rw [hr']; exact ⟨hr.mo, HV2.out.frmF (fun R o m e q => by have := Hb2.out R o m e; have := h1.l; have := hF1 R q; omega) hF, hr.yd, hr.wk, hr.da, hr.ho, hr.mi, hr.se, hr.po⟩
    have Hq := Lib.hid (rp_ok (r' := r') hS2 5 (.slice (r.a 1) r.D.md.length (r.c 1)) (.slice ao l.length cap) rfl Hv.out (by rw [hr']; exact HP.out ao cap) Hst.out)
    have hRs := rec_size r'
    clear hS2 h1 hr'
    go_upto_region 38 with fail
    have hq := Hq.out
    obtain ⟨W2, hW2⟩ : ∃ W2, W2 = w2.setCell ⟨w.heap.size, 5, none⟩ (.slice ao l.length cap) := ⟨_, rfl⟩
    rw [← hW2] at hq ⊢
    obtain ⟨ht2, hl2, hr2, hOk⟩ := hq
    have HOk := Lib.hid hOk
    clear hW2 hOk hu hf hl0
    go_wp2_with (first
      | (refine load_midg (by rfl) 25 _ rfl w.heap.size 0 rfl r'.vals _ hr2 Tryz.underlying25 rfl hRs ?_)
      | (refine wpList_store_gen (op := ⟨none, .store 25 (.tmp 6) (.tmp 125), _, _, _, _⟩) rfl 25 _ _ rfl (w.heap.size + 1) r'.vals rfl rfl hl2 ht2 hRs (rec_all1 _) ?_; intro W3 hF4 hl4 hr3))
    refine bodyPost_ret (results_ct rfl rfl rfl (run_loadVar_mid W3 (w.heap.size + 1) 0 25 _ _ hr3 Tryz.underlying25 rfl hRs)) rfl (HOk.out W3 hF4)
set_option maxRecDepth 100000 in
set_option maxHeartbeats 4000000 in
theorem rpt8_c (s : List UInt8) (r : Rec) (w : World) (hs : s.length ≤ 50000) (hV : RcV r w) :
    Calls Tryz.prog 21 #[.string ⟨#[66, 89, 68, 65, 89]⟩, .string ⟨s.toArray⟩, .agg r.vals.toArray] w (PartR [66, 89, 68, 65, 89] s r w) := by
  obtain ⟨W0, hW0⟩ : ∃ W0, W0 = ((w.alloc (.cells r.vals.toArray 25)).alloc (.cells #[.int .i64 0, .int .i64 0, .int .i64 0, .int .i64 0, .slice none 0 0, .slice none 0 0, .slice none 0 0, .slice none 0 0, .slice none 0 0, .slice none 0 0, .slice none 0 0, .slice none 0 0, .slice none 0 0, .int .i64 0] 25)) := ⟨_, rfl⟩
  have HW0 := Lib.hid hW0
  have HS : Hid (RpS r w W0) := by rw [hW0]; exact RpS.init r w hV
  have HPl : Hid (∀ H W, RdS ptW H 0 W → Calls Tryz.prog 56 #[.slice (some ⟨H, 0, none⟩) 14 14, .string ⟨#[66, 89, 68, 65, 89]⟩] W fun e w' => e = .returned (.int .i64 9) ∧ W = w') := fun H W hR => rplace_c ptW H 14 [66, 89, 68, 65, 89] 9 W hR (by decide) (by decide) (by decide)
  have HP0 : Hid (prtZ untZ [66, 89, 68, 65, 89] s r.D = (match partZ untZ 8 s r.D with
    | some R' => .ok R'
    | none => .er 3)) := prt_at 8 (by decide) s r.D
  obtain ⟨n0, b0, hNu⟩ := num_any s w hs
  have HNu := Lib.hid hNu
  cases hz : daysZ s with
  | none =>
    have HNs : Hid (∀ w', Calls Tryz.prog 23 #[.string ⟨s.toArray⟩] w' fun e w'' => e = .returned (.tuple #[.slice none 0 0, .bool false]) ∧ Ext w' w'') := fun w' => (rdays_c s w' hs).mono (fun e w'' h => by unfold RDaysR at h; rw [hz] at h; exact h)
    have HP := Lib.hid (HP0.out.trans (by unfold partZ; simp [hz]) : prtZ untZ [66, 89, 68, 65, 89] s r.D = .er 3)
    clear hz hV hW0 HP0 hNu
    go_enter Tryz.func21, Tryz.ntmps21
    go_upto_region 1 with fail
    rw [← HW0.out]
    go_upto_region 23 with (first
      | (go_at_call 39; (with_reducible refine (rnms_c _).mono ?_); rintro e w1 ⟨⟨H, rfl, hHR⟩, hE1⟩; have HHR := Lib.hid hHR; have HE1 := Lib.hid hE1; clear hHR hE1)
      | (go_at_call 56; (with_reducible refine (HPl.out _ _ HHR.out).mono ?_); rintro e wp ⟨rfl, rfl⟩)
      | (go_at_call 59; (with_reducible refine (HNu.out _).mono ?_); rintro e wn ⟨rfl, rfl⟩)
      | (go_at_call 60; (with_reducible refine (nums_any s _ hs).mono ?_); rintro e w2 ⟨⟨nv, nb, rfl⟩, hE2⟩; have HE2 := Lib.hid hE2; clear hE2))
    go_upto_region 51 with (go_at_call 23; (with_reducible refine (HNs.out _).mono ?_); rintro e w3 ⟨rfl, hE3⟩; have hS3 := HS.out.ext (HE1.out.trans (HE2.out.trans hE3)); have HS3 := Lib.hid hS3; obtain ⟨hu, hf⟩ := hS3.cell (off := 8) (u := .slice (r.a 4) r.D.da.length (r.c 4)) rfl; have hl0 := hS3.lt0; clear hE3 hS3)
    have HQ := Lib.hid (rp_er HS3.out 3 HP.out 8 (.slice (r.a 4) r.D.da.length (r.c 4)) (.slice none 0 0) rfl)
    have hq := HQ.out
    obtain ⟨W2, hW2⟩ : ∃ W2, W2 = w3.setCell ⟨w.heap.size, 8, none⟩ (.slice none 0 0) := ⟨_, rfl⟩
    rw [← hW2] at hq ⊢
    obtain ⟨ht2, hl2, hEr⟩ := hq
    have HEr := Lib.hid hEr
    clear hW2 hEr hu hf hl0
    go_wp2_with (refine wpList_store_gen (op := ⟨none, .store 25 (.tmp 6) (.tmp 124), _, _, _, _⟩) rfl 25 _ _ rfl (w.heap.size + 1) Rec.zero.vals rfl rfl hl2 ht2 (rec_size Rec.zero) (rec_all1 _) ?_; intro W3 hF3 hl4 hr3)
    refine bodyPost_ret (results_ct rfl rfl rfl (run_loadVar_mid W3 (w.heap.size + 1) 0 25 _ _ hr3 Tryz.underlying25 rfl (rec_size Rec.zero))) rfl (HEr.out W3 hF3)
  | some l =>
    have HNs : Hid (∀ w', Calls Tryz.prog 23 #[.string ⟨s.toArray⟩] w' fun e w'' => ∃ ao cap, e = .returned (.tuple #[.slice ao l.length cap, .bool true]) ∧ OsV ao cap l w'' ∧ (∀ R o m, ao = some ⟨R, o, m⟩ → w'.heap.size ≤ R) ∧ Ext w' w'') := fun w' => (rdays_c s w' hs).mono (fun e w'' h => by unfold RDaysR at h; rw [hz] at h; exact h)
    have HP : Hid (∀ ao cap, prtZ untZ [66, 89, 68, 65, 89] s r.D = .ok (Rec.mk { r.D with da := l } (fun j => if j = 4 then ao else r.a j) (fun j => if j = 4 then cap else r.c j)).D) := fun ao cap => HP0.out.trans (by unfold partZ; simp [hz])
    clear hz hV hW0 HP0 hNu
    go_enter Tryz.func21, Tryz.ntmps21
    go_upto_region 1 with fail
    rw [← HW0.out]
    go_upto_region 23 with (first
      | (go_at_call 39; (with_reducible refine (rnms_c _).mono ?_); rintro e w1 ⟨⟨H, rfl, hHR⟩, hE1⟩; have HHR := Lib.hid hHR; have HE1 := Lib.hid hE1; clear hHR hE1)
      | (go_at_call 56; (with_reducible refine (HPl.out _ _ HHR.out).mono ?_); rintro e wp ⟨rfl, rfl⟩)
      | (go_at_call 59; (with_reducible refine (HNu.out _).mono ?_); rintro e wn ⟨rfl, rfl⟩)
      | (go_at_call 60; (with_reducible refine (nums_any s _ hs).mono ?_); rintro e w2 ⟨⟨nv, nb, rfl⟩, hE2⟩; have HE2 := Lib.hid hE2; clear hE2))
    go_upto_region 51 with (go_at_call 23; (with_reducible refine (HNs.out _).mono ?_); rintro e w3 ⟨ao, cap, rfl, hV2, hb2, hE3⟩; have HV2 := Lib.hid hV2; have Hb2 := Lib.hid hb2; have HL1 := Lib.hid (HS.out.ext (HE1.out.trans HE2.out)).l; have hS3 := HS.out.ext (HE1.out.trans (HE2.out.trans hE3)); have HS3 := Lib.hid hS3; obtain ⟨hu, hf⟩ := hS3.cell (off := 8) (u := .slice (r.a 4) r.D.da.length (r.c 4)) rfl; have hl0 := hS3.lt0; clear hE3 hS3 hV2 hb2)
    obtain ⟨r', hr'⟩ : ∃ r' : Rec, r' = ⟨{ r.D with da := l }, fun j => if j = 4 then ao else r.a j, fun j => if j = 4 then cap else r.c j⟩ := ⟨_, rfl⟩
    have Hv : Hid (r'.vals = r.vals.set 8 (.slice ao l.length cap)) := by rw [hr']; rfl
    have Hst : Hid (∀ (F : Nat → Prop) W, (∀ b, F b → b < w.heap.size ∨ b = w.heap.size ∨ b = w.heap.size + 1) → Frm F w3 W → RcV r W → RcV r' W) := fun F W hF1 hF hr => by rw [hr']; exact ⟨hr.mo, hr.md, hr.yd, hr.wk, HV2.out.frmF (fun R o m e q => by have := Hb2.out R o m e; have := HL1.out; have := hF1 R q; omega) hF, hr.ho, hr.mi, hr.se, hr.po⟩
    have Hq := Lib.hid (rp_ok (r' := r') HS3.out 8 (.slice (r.a 4) r.D.da.length (r.c 4)) (.slice ao l.length cap) rfl Hv.out (by rw [hr']; exact HP.out ao cap) Hst.out)
    have hRs := rec_size r'
    clear hr'
    have hq := Hq.out
    obtain ⟨W2, hW2⟩ : ∃ W2, W2 = w3.setCell ⟨w.heap.size, 8, none⟩ (.slice ao l.length cap) := ⟨_, rfl⟩
    rw [← hW2] at hq ⊢
    obtain ⟨ht2, hl2, hr2, hOk⟩ := hq
    have HOk := Lib.hid hOk
    clear hW2 hOk hu hf hl0
    go_wp2_with (first
      | (refine load_midg (by rfl) 25 _ rfl w.heap.size 0 rfl r'.vals _ hr2 Tryz.underlying25 rfl hRs ?_)
      | (refine wpList_store_gen (op := ⟨none, .store 25 (.tmp 6) (.tmp 125), _, _, _, _⟩) rfl 25 _ _ rfl (w.heap.size + 1) r'.vals rfl rfl hl2 ht2 hRs (rec_all1 _) ?_; intro W3 hF4 hl4 hr3))
    refine bodyPost_ret (results_ct rfl rfl rfl (run_loadVar_mid W3 (w.heap.size + 1) 0 25 _ _ hr3 Tryz.underlying25 rfl hRs)) rfl (HOk.out W3 hF4)
set_option maxRecDepth 100000 in
set_option maxHeartbeats 4000000 in
theorem rpt9_c (s : List UInt8) (r : Rec) (w : World) (hs : s.length ≤ 50000) (hV : RcV r w) :
    Calls Tryz.prog 21 #[.string ⟨#[66, 89, 72, 79, 85, 82]⟩, .string ⟨s.toArray⟩, .agg r.vals.toArray] w (PartR [66, 89, 72, 79, 85, 82] s r w) := by
  obtain ⟨W0, hW0⟩ : ∃ W0, W0 = ((w.alloc (.cells r.vals.toArray 25)).alloc (.cells #[.int .i64 0, .int .i64 0, .int .i64 0, .int .i64 0, .slice none 0 0, .slice none 0 0, .slice none 0 0, .slice none 0 0, .slice none 0 0, .slice none 0 0, .slice none 0 0, .slice none 0 0, .slice none 0 0, .int .i64 0] 25)) := ⟨_, rfl⟩
  have HW0 := Lib.hid hW0
  have HS : Hid (RpS r w W0) := by rw [hW0]; exact RpS.init r w hV
  have HPl : Hid (∀ H W, RdS ptW H 0 W → Calls Tryz.prog 56 #[.slice (some ⟨H, 0, none⟩) 14 14, .string ⟨#[66, 89, 72, 79, 85, 82]⟩] W fun e w' => e = .returned (.int .i64 10) ∧ W = w') := fun H W hR => rplace_c ptW H 14 [66, 89, 72, 79, 85, 82] 10 W hR (by decide) (by decide) (by decide)
  have HP0 : Hid (prtZ untZ [66, 89, 72, 79, 85, 82] s r.D = (match partZ untZ 9 s r.D with
    | some R' => .ok R'
    | none => .er 3)) := prt_at 9 (by decide) s r.D
  obtain ⟨n0, b0, hNu⟩ := num_any s w hs
  have HNu := Lib.hid hNu
  cases hz : numsZ s with
  | none =>
    have HNs : Hid (∀ w', Calls Tryz.prog 60 #[.string ⟨s.toArray⟩] w' fun e w'' => e = .returned (.tuple #[.slice none 0 0, .bool false]) ∧ Ext w' w'') := fun w' => (rnumbers_c s w' hs).mono (fun e w'' h => by unfold NumsR at h; rw [hz] at h; exact h)
    have HP := Lib.hid (HP0.out.trans (by unfold partZ; simp [hz]) : prtZ untZ [66, 89, 72, 79, 85, 82] s r.D = .er 3)
    clear hz hV hW0 HP0 hNu
    go_enter Tryz.func21, Tryz.ntmps21
    go_upto_region 1 with fail
    rw [← HW0.out]
    go_upto_region 40 with (first
      | (go_at_call 39; (with_reducible refine (rnms_c _).mono ?_); rintro e w1 ⟨⟨H, rfl, hHR⟩, hE1⟩; have HHR := Lib.hid hHR; have HE1 := Lib.hid hE1; clear hHR hE1)
      | (go_at_call 56; (with_reducible refine (HPl.out _ _ HHR.out).mono ?_); rintro e wp ⟨rfl, rfl⟩)
      | (go_at_call 59; (with_reducible refine (HNu.out _).mono ?_); rintro e wn ⟨rfl, rfl⟩)
      | (go_at_call 60; (with_reducible refine (HNs.out _).mono ?_); rintro e w2 ⟨rfl, hE2⟩; have HE2 := Lib.hid hE2; clear hE2))
    have hS2 := HS.out.ext (HE1.out.trans HE2.out)
    obtain ⟨hu, hf⟩ := hS2.cell (off := 9) (u := .slice (r.a 5) r.D.ho.length (r.c 5)) rfl
    have hl0 := hS2.lt0
    have Hq := Lib.hid (rp_er hS2 3 HP.out 9 (.slice (r.a 5) r.D.ho.length (r.c 5)) (.slice none 0 0) rfl)
    clear hS2
    go_upto_region 41 with fail
    have hq := Hq.out
    obtain ⟨W2, hW2⟩ : ∃ W2, W2 = w2.setCell ⟨w.heap.size, 9, none⟩ (.slice none 0 0) := ⟨_, rfl⟩
    rw [← hW2] at hq ⊢
    obtain ⟨ht2, hl2, hEr⟩ := hq
    have HEr := Lib.hid hEr
    clear hW2 hEr hu hf hl0
    go_wp2_with (refine wpList_store_gen (op := ⟨none, .store 25 (.tmp 6) (.tmp 124), _, _, _, _⟩) rfl 25 _ _ rfl (w.heap.size + 1) Rec.zero.vals rfl rfl hl2 ht2 (rec_size Rec.zero) (rec_all1 _) ?_; intro W3 hF3 hl4 hr3)
    refine bodyPost_ret (results_ct rfl rfl rfl (run_loadVar_mid W3 (w.heap.size + 1) 0 25 _ _ hr3 Tryz.underlying25 rfl (rec_size Rec.zero))) rfl (HEr.out W3 hF3)
  | some l =>
    have HNs : Hid (∀ w', Calls Tryz.prog 60 #[.string ⟨s.toArray⟩] w' fun e w'' => ∃ ao cap, e = .returned (.tuple #[.slice ao l.length cap, .bool true]) ∧ IsV ao cap l w'' ∧ (∀ R o m, ao = some ⟨R, o, m⟩ → w'.heap.size ≤ R) ∧ Ext w' w'') := fun w' => (rnumbers_c s w' hs).mono (fun e w'' h => by unfold NumsR at h; rw [hz] at h; exact h)
    have HP : Hid (∀ ao cap, prtZ untZ [66, 89, 72, 79, 85, 82] s r.D = .ok (Rec.mk { r.D with ho := l } (fun j => if j = 5 then ao else r.a j) (fun j => if j = 5 then cap else r.c j)).D) := fun ao cap => HP0.out.trans (by unfold partZ; simp [hz])
    clear hz hV hW0 HP0 hNu
    go_enter Tryz.func21, Tryz.ntmps21
    go_upto_region 1 with fail
    rw [← HW0.out]
    go_upto_region 40 with (first
      | (go_at_call 39; (with_reducible refine (rnms_c _).mono ?_); rintro e w1 ⟨⟨H, rfl, hHR⟩, hE1⟩; have HHR := Lib.hid hHR; have HE1 := Lib.hid hE1; clear hHR hE1)
      | (go_at_call 56; (with_reducible refine (HPl.out _ _ HHR.out).mono ?_); rintro e wp ⟨rfl, rfl⟩)
      | (go_at_call 59; (with_reducible refine (HNu.out _).mono ?_); rintro e wn ⟨rfl, rfl⟩)
      | (go_at_call 60; (with_reducible refine (HNs.out _).mono ?_); rintro e w2 ⟨ao, cap, rfl, hV2, hb2, hE2⟩; have HE2 := Lib.hid hE2; have HV2 := Lib.hid hV2; have Hb2 := Lib.hid hb2; clear hE2 hV2 hb2))
    have h1 := HS.out.ext HE1.out
    have hS2 := h1.ext HE2.out
    obtain ⟨hu, hf⟩ := hS2.cell (off := 9) (u := .slice (r.a 5) r.D.ho.length (r.c 5)) rfl
    have hl0 := hS2.lt0
    obtain ⟨r', hr'⟩ : ∃ r' : Rec, r' = ⟨{ r.D with ho := l }, fun j => if j = 5 then ao else r.a j, fun j => if j = 5 then cap else r.c j⟩ := ⟨_, rfl⟩
    have Hv : Hid (r'.vals = r.vals.set 9 (.slice ao l.length cap)) := by rw [hr']; rfl
    have Hst : Hid (∀ (F : Nat → Prop) W, (∀ b, F b → b < w.heap.size ∨ b = w.heap.size ∨ b = w.heap.size + 1) → Frm F w2 W → RcV r W → RcV r' W) := fun F W hF1 hF hr => by rw [hr']; exact ⟨hr.mo, hr.md, hr.yd, hr.wk, hr.da, HV2.out.frmF (fun R o m e q => by have := Hb2.out R o m e; have := h1.l; have := hF1 R q; omega) hF, hr.mi, hr.se, hr.po⟩
    have Hq := Lib.hid (rp_ok (r' := r') hS2 9 (.slice (r.a 5) r.D.ho.length (r.c 5)) (.slice ao l.length cap) rfl Hv.out (by rw [hr']; exact HP.out ao cap) Hst.out)
    have hRs := rec_size r'
    clear hS2 h1 hr'
    go_upto_region 41 with fail
    have hq := Hq.out
    obtain ⟨W2, hW2⟩ : ∃ W2, W2 = w2.setCell ⟨w.heap.size, 9, none⟩ (.slice ao l.length cap) := ⟨_, rfl⟩
    rw [← hW2] at hq ⊢
    obtain ⟨ht2, hl2, hr2, hOk⟩ := hq
    have HOk := Lib.hid hOk
    clear hW2 hOk hu hf hl0
    go_wp2_with (first
      | (refine load_midg (by rfl) 25 _ rfl w.heap.size 0 rfl r'.vals _ hr2 Tryz.underlying25 rfl hRs ?_)
      | (refine wpList_store_gen (op := ⟨none, .store 25 (.tmp 6) (.tmp 125), _, _, _, _⟩) rfl 25 _ _ rfl (w.heap.size + 1) r'.vals rfl rfl hl2 ht2 hRs (rec_all1 _) ?_; intro W3 hF4 hl4 hr3))
    refine bodyPost_ret (results_ct rfl rfl rfl (run_loadVar_mid W3 (w.heap.size + 1) 0 25 _ _ hr3 Tryz.underlying25 rfl hRs)) rfl (HOk.out W3 hF4)
set_option maxRecDepth 100000 in
set_option maxHeartbeats 4000000 in
theorem rpt10_c (s : List UInt8) (r : Rec) (w : World) (hs : s.length ≤ 50000) (hV : RcV r w) :
    Calls Tryz.prog 21 #[.string ⟨#[66, 89, 77, 73, 78, 85, 84, 69]⟩, .string ⟨s.toArray⟩, .agg r.vals.toArray] w (PartR [66, 89, 77, 73, 78, 85, 84, 69] s r w) := by
  obtain ⟨W0, hW0⟩ : ∃ W0, W0 = ((w.alloc (.cells r.vals.toArray 25)).alloc (.cells #[.int .i64 0, .int .i64 0, .int .i64 0, .int .i64 0, .slice none 0 0, .slice none 0 0, .slice none 0 0, .slice none 0 0, .slice none 0 0, .slice none 0 0, .slice none 0 0, .slice none 0 0, .slice none 0 0, .int .i64 0] 25)) := ⟨_, rfl⟩
  have HW0 := Lib.hid hW0
  have HS : Hid (RpS r w W0) := by rw [hW0]; exact RpS.init r w hV
  have HPl : Hid (∀ H W, RdS ptW H 0 W → Calls Tryz.prog 56 #[.slice (some ⟨H, 0, none⟩) 14 14, .string ⟨#[66, 89, 77, 73, 78, 85, 84, 69]⟩] W fun e w' => e = .returned (.int .i64 11) ∧ W = w') := fun H W hR => rplace_c ptW H 14 [66, 89, 77, 73, 78, 85, 84, 69] 11 W hR (by decide) (by decide) (by decide)
  have HP0 : Hid (prtZ untZ [66, 89, 77, 73, 78, 85, 84, 69] s r.D = (match partZ untZ 10 s r.D with
    | some R' => .ok R'
    | none => .er 3)) := prt_at 10 (by decide) s r.D
  obtain ⟨n0, b0, hNu⟩ := num_any s w hs
  have HNu := Lib.hid hNu
  cases hz : numsZ s with
  | none =>
    have HNs : Hid (∀ w', Calls Tryz.prog 60 #[.string ⟨s.toArray⟩] w' fun e w'' => e = .returned (.tuple #[.slice none 0 0, .bool false]) ∧ Ext w' w'') := fun w' => (rnumbers_c s w' hs).mono (fun e w'' h => by unfold NumsR at h; rw [hz] at h; exact h)
    have HP := Lib.hid (HP0.out.trans (by unfold partZ; simp [hz]) : prtZ untZ [66, 89, 77, 73, 78, 85, 84, 69] s r.D = .er 3)
    clear hz hV hW0 HP0 hNu
    go_enter Tryz.func21, Tryz.ntmps21
    go_upto_region 1 with fail
    rw [← HW0.out]
    go_upto_region 43 with (first
      | (go_at_call 39; (with_reducible refine (rnms_c _).mono ?_); rintro e w1 ⟨⟨H, rfl, hHR⟩, hE1⟩; have HHR := Lib.hid hHR; have HE1 := Lib.hid hE1; clear hHR hE1)
      | (go_at_call 56; (with_reducible refine (HPl.out _ _ HHR.out).mono ?_); rintro e wp ⟨rfl, rfl⟩)
      | (go_at_call 59; (with_reducible refine (HNu.out _).mono ?_); rintro e wn ⟨rfl, rfl⟩)
      | (go_at_call 60; (with_reducible refine (HNs.out _).mono ?_); rintro e w2 ⟨rfl, hE2⟩; have HE2 := Lib.hid hE2; clear hE2))
    have hS2 := HS.out.ext (HE1.out.trans HE2.out)
    obtain ⟨hu, hf⟩ := hS2.cell (off := 10) (u := .slice (r.a 6) r.D.mi.length (r.c 6)) rfl
    have hl0 := hS2.lt0
    have Hq := Lib.hid (rp_er hS2 3 HP.out 10 (.slice (r.a 6) r.D.mi.length (r.c 6)) (.slice none 0 0) rfl)
    clear hS2
    go_upto_region 44 with fail
    have hq := Hq.out
    obtain ⟨W2, hW2⟩ : ∃ W2, W2 = w2.setCell ⟨w.heap.size, 10, none⟩ (.slice none 0 0) := ⟨_, rfl⟩
    rw [← hW2] at hq ⊢
    obtain ⟨ht2, hl2, hEr⟩ := hq
    have HEr := Lib.hid hEr
    clear hW2 hEr hu hf hl0
    go_wp2_with (refine wpList_store_gen (op := ⟨none, .store 25 (.tmp 6) (.tmp 124), _, _, _, _⟩) rfl 25 _ _ rfl (w.heap.size + 1) Rec.zero.vals rfl rfl hl2 ht2 (rec_size Rec.zero) (rec_all1 _) ?_; intro W3 hF3 hl4 hr3)
    refine bodyPost_ret (results_ct rfl rfl rfl (run_loadVar_mid W3 (w.heap.size + 1) 0 25 _ _ hr3 Tryz.underlying25 rfl (rec_size Rec.zero))) rfl (HEr.out W3 hF3)
  | some l =>
    have HNs : Hid (∀ w', Calls Tryz.prog 60 #[.string ⟨s.toArray⟩] w' fun e w'' => ∃ ao cap, e = .returned (.tuple #[.slice ao l.length cap, .bool true]) ∧ IsV ao cap l w'' ∧ (∀ R o m, ao = some ⟨R, o, m⟩ → w'.heap.size ≤ R) ∧ Ext w' w'') := fun w' => (rnumbers_c s w' hs).mono (fun e w'' h => by unfold NumsR at h; rw [hz] at h; exact h)
    have HP : Hid (∀ ao cap, prtZ untZ [66, 89, 77, 73, 78, 85, 84, 69] s r.D = .ok (Rec.mk { r.D with mi := l } (fun j => if j = 6 then ao else r.a j) (fun j => if j = 6 then cap else r.c j)).D) := fun ao cap => HP0.out.trans (by unfold partZ; simp [hz])
    clear hz hV hW0 HP0 hNu
    go_enter Tryz.func21, Tryz.ntmps21
    go_upto_region 1 with fail
    rw [← HW0.out]
    go_upto_region 43 with (first
      | (go_at_call 39; (with_reducible refine (rnms_c _).mono ?_); rintro e w1 ⟨⟨H, rfl, hHR⟩, hE1⟩; have HHR := Lib.hid hHR; have HE1 := Lib.hid hE1; clear hHR hE1)
      | (go_at_call 56; (with_reducible refine (HPl.out _ _ HHR.out).mono ?_); rintro e wp ⟨rfl, rfl⟩)
      | (go_at_call 59; (with_reducible refine (HNu.out _).mono ?_); rintro e wn ⟨rfl, rfl⟩)
      | (go_at_call 60; (with_reducible refine (HNs.out _).mono ?_); rintro e w2 ⟨ao, cap, rfl, hV2, hb2, hE2⟩; have HE2 := Lib.hid hE2; have HV2 := Lib.hid hV2; have Hb2 := Lib.hid hb2; clear hE2 hV2 hb2))
    have h1 := HS.out.ext HE1.out
    have hS2 := h1.ext HE2.out
    obtain ⟨hu, hf⟩ := hS2.cell (off := 10) (u := .slice (r.a 6) r.D.mi.length (r.c 6)) rfl
    have hl0 := hS2.lt0
    obtain ⟨r', hr'⟩ : ∃ r' : Rec, r' = ⟨{ r.D with mi := l }, fun j => if j = 6 then ao else r.a j, fun j => if j = 6 then cap else r.c j⟩ := ⟨_, rfl⟩
    have Hv : Hid (r'.vals = r.vals.set 10 (.slice ao l.length cap)) := by rw [hr']; rfl
    have Hst : Hid (∀ (F : Nat → Prop) W, (∀ b, F b → b < w.heap.size ∨ b = w.heap.size ∨ b = w.heap.size + 1) → Frm F w2 W → RcV r W → RcV r' W) := fun F W hF1 hF hr => by rw [hr']; exact ⟨hr.mo, hr.md, hr.yd, hr.wk, hr.da, hr.ho, HV2.out.frmF (fun R o m e q => by have := Hb2.out R o m e; have := h1.l; have := hF1 R q; omega) hF, hr.se, hr.po⟩
    have Hq := Lib.hid (rp_ok (r' := r') hS2 10 (.slice (r.a 6) r.D.mi.length (r.c 6)) (.slice ao l.length cap) rfl Hv.out (by rw [hr']; exact HP.out ao cap) Hst.out)
    have hRs := rec_size r'
    clear hS2 h1 hr'
    go_upto_region 44 with fail
    have hq := Hq.out
    obtain ⟨W2, hW2⟩ : ∃ W2, W2 = w2.setCell ⟨w.heap.size, 10, none⟩ (.slice ao l.length cap) := ⟨_, rfl⟩
    rw [← hW2] at hq ⊢
    obtain ⟨ht2, hl2, hr2, hOk⟩ := hq
    have HOk := Lib.hid hOk
    clear hW2 hOk hu hf hl0
    go_wp2_with (first
      | (refine load_midg (by rfl) 25 _ rfl w.heap.size 0 rfl r'.vals _ hr2 Tryz.underlying25 rfl hRs ?_)
      | (refine wpList_store_gen (op := ⟨none, .store 25 (.tmp 6) (.tmp 125), _, _, _, _⟩) rfl 25 _ _ rfl (w.heap.size + 1) r'.vals rfl rfl hl2 ht2 hRs (rec_all1 _) ?_; intro W3 hF4 hl4 hr3))
    refine bodyPost_ret (results_ct rfl rfl rfl (run_loadVar_mid W3 (w.heap.size + 1) 0 25 _ _ hr3 Tryz.underlying25 rfl hRs)) rfl (HOk.out W3 hF4)
set_option maxRecDepth 100000 in
set_option maxHeartbeats 4000000 in
theorem rpt11_c (s : List UInt8) (r : Rec) (w : World) (hs : s.length ≤ 50000) (hV : RcV r w) :
    Calls Tryz.prog 21 #[.string ⟨#[66, 89, 83, 69, 67, 79, 78, 68]⟩, .string ⟨s.toArray⟩, .agg r.vals.toArray] w (PartR [66, 89, 83, 69, 67, 79, 78, 68] s r w) := by
  obtain ⟨W0, hW0⟩ : ∃ W0, W0 = ((w.alloc (.cells r.vals.toArray 25)).alloc (.cells #[.int .i64 0, .int .i64 0, .int .i64 0, .int .i64 0, .slice none 0 0, .slice none 0 0, .slice none 0 0, .slice none 0 0, .slice none 0 0, .slice none 0 0, .slice none 0 0, .slice none 0 0, .slice none 0 0, .int .i64 0] 25)) := ⟨_, rfl⟩
  have HW0 := Lib.hid hW0
  have HS : Hid (RpS r w W0) := by rw [hW0]; exact RpS.init r w hV
  have HPl : Hid (∀ H W, RdS ptW H 0 W → Calls Tryz.prog 56 #[.slice (some ⟨H, 0, none⟩) 14 14, .string ⟨#[66, 89, 83, 69, 67, 79, 78, 68]⟩] W fun e w' => e = .returned (.int .i64 12) ∧ W = w') := fun H W hR => rplace_c ptW H 14 [66, 89, 83, 69, 67, 79, 78, 68] 12 W hR (by decide) (by decide) (by decide)
  have HP0 : Hid (prtZ untZ [66, 89, 83, 69, 67, 79, 78, 68] s r.D = (match partZ untZ 11 s r.D with
    | some R' => .ok R'
    | none => .er 3)) := prt_at 11 (by decide) s r.D
  obtain ⟨n0, b0, hNu⟩ := num_any s w hs
  have HNu := Lib.hid hNu
  cases hz : numsZ s with
  | none =>
    have HNs : Hid (∀ w', Calls Tryz.prog 60 #[.string ⟨s.toArray⟩] w' fun e w'' => e = .returned (.tuple #[.slice none 0 0, .bool false]) ∧ Ext w' w'') := fun w' => (rnumbers_c s w' hs).mono (fun e w'' h => by unfold NumsR at h; rw [hz] at h; exact h)
    have HP := Lib.hid (HP0.out.trans (by unfold partZ; simp [hz]) : prtZ untZ [66, 89, 83, 69, 67, 79, 78, 68] s r.D = .er 3)
    clear hz hV hW0 HP0 hNu
    go_enter Tryz.func21, Tryz.ntmps21
    go_upto_region 1 with fail
    rw [← HW0.out]
    go_upto_region 46 with (first
      | (go_at_call 39; (with_reducible refine (rnms_c _).mono ?_); rintro e w1 ⟨⟨H, rfl, hHR⟩, hE1⟩; have HHR := Lib.hid hHR; have HE1 := Lib.hid hE1; clear hHR hE1)
      | (go_at_call 56; (with_reducible refine (HPl.out _ _ HHR.out).mono ?_); rintro e wp ⟨rfl, rfl⟩)
      | (go_at_call 59; (with_reducible refine (HNu.out _).mono ?_); rintro e wn ⟨rfl, rfl⟩)
      | (go_at_call 60; (with_reducible refine (HNs.out _).mono ?_); rintro e w2 ⟨rfl, hE2⟩; have HE2 := Lib.hid hE2; clear hE2))
    have hS2 := HS.out.ext (HE1.out.trans HE2.out)
    obtain ⟨hu, hf⟩ := hS2.cell (off := 11) (u := .slice (r.a 7) r.D.se.length (r.c 7)) rfl
    have hl0 := hS2.lt0
    have Hq := Lib.hid (rp_er hS2 3 HP.out 11 (.slice (r.a 7) r.D.se.length (r.c 7)) (.slice none 0 0) rfl)
    clear hS2
    go_upto_region 47 with fail
    have hq := Hq.out
    obtain ⟨W2, hW2⟩ : ∃ W2, W2 = w2.setCell ⟨w.heap.size, 11, none⟩ (.slice none 0 0) := ⟨_, rfl⟩
    rw [← hW2] at hq ⊢
    obtain ⟨ht2, hl2, hEr⟩ := hq
    have HEr := Lib.hid hEr
    clear hW2 hEr hu hf hl0
    go_wp2_with (refine wpList_store_gen (op := ⟨none, .store 25 (.tmp 6) (.tmp 124), _, _, _, _⟩) rfl 25 _ _ rfl (w.heap.size + 1) Rec.zero.vals rfl rfl hl2 ht2 (rec_size Rec.zero) (rec_all1 _) ?_; intro W3 hF3 hl4 hr3)
    refine bodyPost_ret (results_ct rfl rfl rfl (run_loadVar_mid W3 (w.heap.size + 1) 0 25 _ _ hr3 Tryz.underlying25 rfl (rec_size Rec.zero))) rfl (HEr.out W3 hF3)
  | some l =>
    have HNs : Hid (∀ w', Calls Tryz.prog 60 #[.string ⟨s.toArray⟩] w' fun e w'' => ∃ ao cap, e = .returned (.tuple #[.slice ao l.length cap, .bool true]) ∧ IsV ao cap l w'' ∧ (∀ R o m, ao = some ⟨R, o, m⟩ → w'.heap.size ≤ R) ∧ Ext w' w'') := fun w' => (rnumbers_c s w' hs).mono (fun e w'' h => by unfold NumsR at h; rw [hz] at h; exact h)
    have HP : Hid (∀ ao cap, prtZ untZ [66, 89, 83, 69, 67, 79, 78, 68] s r.D = .ok (Rec.mk { r.D with se := l } (fun j => if j = 7 then ao else r.a j) (fun j => if j = 7 then cap else r.c j)).D) := fun ao cap => HP0.out.trans (by unfold partZ; simp [hz])
    clear hz hV hW0 HP0 hNu
    go_enter Tryz.func21, Tryz.ntmps21
    go_upto_region 1 with fail
    rw [← HW0.out]
    go_upto_region 46 with (first
      | (go_at_call 39; (with_reducible refine (rnms_c _).mono ?_); rintro e w1 ⟨⟨H, rfl, hHR⟩, hE1⟩; have HHR := Lib.hid hHR; have HE1 := Lib.hid hE1; clear hHR hE1)
      | (go_at_call 56; (with_reducible refine (HPl.out _ _ HHR.out).mono ?_); rintro e wp ⟨rfl, rfl⟩)
      | (go_at_call 59; (with_reducible refine (HNu.out _).mono ?_); rintro e wn ⟨rfl, rfl⟩)
      | (go_at_call 60; (with_reducible refine (HNs.out _).mono ?_); rintro e w2 ⟨ao, cap, rfl, hV2, hb2, hE2⟩; have HE2 := Lib.hid hE2; have HV2 := Lib.hid hV2; have Hb2 := Lib.hid hb2; clear hE2 hV2 hb2))
    have h1 := HS.out.ext HE1.out
    have hS2 := h1.ext HE2.out
    obtain ⟨hu, hf⟩ := hS2.cell (off := 11) (u := .slice (r.a 7) r.D.se.length (r.c 7)) rfl
    have hl0 := hS2.lt0
    obtain ⟨r', hr'⟩ : ∃ r' : Rec, r' = ⟨{ r.D with se := l }, fun j => if j = 7 then ao else r.a j, fun j => if j = 7 then cap else r.c j⟩ := ⟨_, rfl⟩
    have Hv : Hid (r'.vals = r.vals.set 11 (.slice ao l.length cap)) := by rw [hr']; rfl
    have Hst : Hid (∀ (F : Nat → Prop) W, (∀ b, F b → b < w.heap.size ∨ b = w.heap.size ∨ b = w.heap.size + 1) → Frm F w2 W → RcV r W → RcV r' W) := fun F W hF1 hF hr => by rw [hr']; exact ⟨hr.mo, hr.md, hr.yd, hr.wk, hr.da, hr.ho, hr.mi, HV2.out.frmF (fun R o m e q => by have := Hb2.out R o m e; have := h1.l; have := hF1 R q; omega) hF, hr.po⟩
    have Hq := Lib.hid (rp_ok (r' := r') hS2 11 (.slice (r.a 7) r.D.se.length (r.c 7)) (.slice ao l.length cap) rfl Hv.out (by rw [hr']; exact HP.out ao cap) Hst.out)
    have hRs := rec_size r'
    clear hS2 h1 hr'
    go_upto_region 47 with fail
    have hq := Hq.out
    obtain ⟨W2, hW2⟩ : ∃ W2, W2 = w2.setCell ⟨w.heap.size, 11, none⟩ (.slice ao l.length cap) := ⟨_, rfl⟩
    rw [← hW2] at hq ⊢
    obtain ⟨ht2, hl2, hr2, hOk⟩ := hq
    have HOk := Lib.hid hOk
    clear hW2 hOk hu hf hl0
    go_wp2_with (first
      | (refine load_midg (by rfl) 25 _ rfl w.heap.size 0 rfl r'.vals _ hr2 Tryz.underlying25 rfl hRs ?_)
      | (refine wpList_store_gen (op := ⟨none, .store 25 (.tmp 6) (.tmp 125), _, _, _, _⟩) rfl 25 _ _ rfl (w.heap.size + 1) r'.vals rfl rfl hl2 ht2 hRs (rec_all1 _) ?_; intro W3 hF4 hl4 hr3))
    refine bodyPost_ret (results_ct rfl rfl rfl (run_loadVar_mid W3 (w.heap.size + 1) 0 25 _ _ hr3 Tryz.underlying25 rfl hRs)) rfl (HOk.out W3 hF4)
set_option maxRecDepth 100000 in
set_option maxHeartbeats 4000000 in
theorem rpt12_c (s : List UInt8) (r : Rec) (w : World) (hs : s.length ≤ 50000) (hV : RcV r w) :
    Calls Tryz.prog 21 #[.string ⟨#[66, 89, 83, 69, 84, 80, 79, 83]⟩, .string ⟨s.toArray⟩, .agg r.vals.toArray] w (PartR [66, 89, 83, 69, 84, 80, 79, 83] s r w) := by
  obtain ⟨W0, hW0⟩ : ∃ W0, W0 = ((w.alloc (.cells r.vals.toArray 25)).alloc (.cells #[.int .i64 0, .int .i64 0, .int .i64 0, .int .i64 0, .slice none 0 0, .slice none 0 0, .slice none 0 0, .slice none 0 0, .slice none 0 0, .slice none 0 0, .slice none 0 0, .slice none 0 0, .slice none 0 0, .int .i64 0] 25)) := ⟨_, rfl⟩
  have HW0 := Lib.hid hW0
  have HS : Hid (RpS r w W0) := by rw [hW0]; exact RpS.init r w hV
  have HPl : Hid (∀ H W, RdS ptW H 0 W → Calls Tryz.prog 56 #[.slice (some ⟨H, 0, none⟩) 14 14, .string ⟨#[66, 89, 83, 69, 84, 80, 79, 83]⟩] W fun e w' => e = .returned (.int .i64 13) ∧ W = w') := fun H W hR => rplace_c ptW H 14 [66, 89, 83, 69, 84, 80, 79, 83] 13 W hR (by decide) (by decide) (by decide)
  have HP0 : Hid (prtZ untZ [66, 89, 83, 69, 84, 80, 79, 83] s r.D = (match partZ untZ 12 s r.D with
    | some R' => .ok R'
    | none => .er 3)) := prt_at 12 (by decide) s r.D
  obtain ⟨n0, b0, hNu⟩ := num_any s w hs
  have HNu := Lib.hid hNu
  cases hz : numsZ s with
  | none =>
    have HNs : Hid (∀ w', Calls Tryz.prog 60 #[.string ⟨s.toArray⟩] w' fun e w'' => e = .returned (.tuple #[.slice none 0 0, .bool false]) ∧ Ext w' w'') := fun w' => (rnumbers_c s w' hs).mono (fun e w'' h => by unfold NumsR at h; rw [hz] at h; exact h)
    have HP := Lib.hid (HP0.out.trans (by unfold partZ; simp [hz]) : prtZ untZ [66, 89, 83, 69, 84, 80, 79, 83] s r.D = .er 3)
    clear hz hV hW0 HP0 hNu
    go_enter Tryz.func21, Tryz.ntmps21
    go_upto_region 1 with fail
    rw [← HW0.out]
    go_upto_region 49 with (first
      | (go_at_call 39; (with_reducible refine (rnms_c _).mono ?_); rintro e w1 ⟨⟨H, rfl, hHR⟩, hE1⟩; have HHR := Lib.hid hHR; have HE1 := Lib.hid hE1; clear hHR hE1)
      | (go_at_call 56; (with_reducible refine (HPl.out _ _ HHR.out).mono ?_); rintro e wp ⟨rfl, rfl⟩)
      | (go_at_call 59; (with_reducible refine (HNu.out _).mono ?_); rintro e wn ⟨rfl, rfl⟩)
      | (go_at_call 60; (with_reducible refine (HNs.out _).mono ?_); rintro e w2 ⟨rfl, hE2⟩; have HE2 := Lib.hid hE2; clear hE2))
    have hS2 := HS.out.ext (HE1.out.trans HE2.out)
    obtain ⟨hu, hf⟩ := hS2.cell (off := 12) (u := .slice (r.a 8) r.D.po.length (r.c 8)) rfl
    have hl0 := hS2.lt0
    have Hq := Lib.hid (rp_er hS2 3 HP.out 12 (.slice (r.a 8) r.D.po.length (r.c 8)) (.slice none 0 0) rfl)
    clear hS2
    go_upto_region 50 with fail
    have hq := Hq.out
    obtain ⟨W2, hW2⟩ : ∃ W2, W2 = w2.setCell ⟨w.heap.size, 12, none⟩ (.slice none 0 0) := ⟨_, rfl⟩
    rw [← hW2] at hq ⊢
    obtain ⟨ht2, hl2, hEr⟩ := hq
    have HEr := Lib.hid hEr
    clear hW2 hEr hu hf hl0
    go_wp2_with (refine wpList_store_gen (op := ⟨none, .store 25 (.tmp 6) (.tmp 124), _, _, _, _⟩) rfl 25 _ _ rfl (w.heap.size + 1) Rec.zero.vals rfl rfl hl2 ht2 (rec_size Rec.zero) (rec_all1 _) ?_; intro W3 hF3 hl4 hr3)
    refine bodyPost_ret (results_ct rfl rfl rfl (run_loadVar_mid W3 (w.heap.size + 1) 0 25 _ _ hr3 Tryz.underlying25 rfl (rec_size Rec.zero))) rfl (HEr.out W3 hF3)
  | some l =>
    have HNs : Hid (∀ w', Calls Tryz.prog 60 #[.string ⟨s.toArray⟩] w' fun e w'' => ∃ ao cap, e = .returned (.tuple #[.slice ao l.length cap, .bool true]) ∧ IsV ao cap l w'' ∧ (∀ R o m, ao = some ⟨R, o, m⟩ → w'.heap.size ≤ R) ∧ Ext w' w'') := fun w' => (rnumbers_c s w' hs).mono (fun e w'' h => by unfold NumsR at h; rw [hz] at h; exact h)
    have HP : Hid (∀ ao cap, prtZ untZ [66, 89, 83, 69, 84, 80, 79, 83] s r.D = .ok (Rec.mk { r.D with po := l } (fun j => if j = 8 then ao else r.a j) (fun j => if j = 8 then cap else r.c j)).D) := fun ao cap => HP0.out.trans (by unfold partZ; simp [hz])
    clear hz hV hW0 HP0 hNu
    go_enter Tryz.func21, Tryz.ntmps21
    go_upto_region 1 with fail
    rw [← HW0.out]
    go_upto_region 49 with (first
      | (go_at_call 39; (with_reducible refine (rnms_c _).mono ?_); rintro e w1 ⟨⟨H, rfl, hHR⟩, hE1⟩; have HHR := Lib.hid hHR; have HE1 := Lib.hid hE1; clear hHR hE1)
      | (go_at_call 56; (with_reducible refine (HPl.out _ _ HHR.out).mono ?_); rintro e wp ⟨rfl, rfl⟩)
      | (go_at_call 59; (with_reducible refine (HNu.out _).mono ?_); rintro e wn ⟨rfl, rfl⟩)
      | (go_at_call 60; (with_reducible refine (HNs.out _).mono ?_); rintro e w2 ⟨ao, cap, rfl, hV2, hb2, hE2⟩; have HE2 := Lib.hid hE2; have HV2 := Lib.hid hV2; have Hb2 := Lib.hid hb2; clear hE2 hV2 hb2))
    have h1 := HS.out.ext HE1.out
    have hS2 := h1.ext HE2.out
    obtain ⟨hu, hf⟩ := hS2.cell (off := 12) (u := .slice (r.a 8) r.D.po.length (r.c 8)) rfl
    have hl0 := hS2.lt0
    obtain ⟨r', hr'⟩ : ∃ r' : Rec, r' = ⟨{ r.D with po := l }, fun j => if j = 8 then ao else r.a j, fun j => if j = 8 then cap else r.c j⟩ := ⟨_, rfl⟩
    have Hv : Hid (r'.vals = r.vals.set 12 (.slice ao l.length cap)) := by rw [hr']; rfl
    have Hst : Hid (∀ (F : Nat → Prop) W, (∀ b, F b → b < w.heap.size ∨ b = w.heap.size ∨ b = w.heap.size + 1) → Frm F w2 W → RcV r W → RcV r' W) := fun F W hF1 hF hr => by rw [hr']; exact ⟨hr.mo, hr.md, hr.yd, hr.wk, hr.da, hr.ho, hr.mi, hr.se, HV2.out.frmF (fun R o m e q => by have := Hb2.out R o m e; have := h1.l; have := hF1 R q; omega) hF⟩
    have Hq := Lib.hid (rp_ok (r' := r') hS2 12 (.slice (r.a 8) r.D.po.length (r.c 8)) (.slice ao l.length cap) rfl Hv.out (by rw [hr']; exact HP.out ao cap) Hst.out)
    have hRs := rec_size r'
    clear hS2 h1 hr'
    go_upto_region 50 with fail
    have hq := Hq.out
    obtain ⟨W2, hW2⟩ : ∃ W2, W2 = w2.setCell ⟨w.heap.size, 12, none⟩ (.slice ao l.length cap) := ⟨_, rfl⟩
    rw [← hW2] at hq ⊢
    obtain ⟨ht2, hl2, hr2, hOk⟩ := hq
    have HOk := Lib.hid hOk
    clear hW2 hOk hu hf hl0
    go_wp2_with (first
      | (refine load_midg (by rfl) 25 _ rfl w.heap.size 0 rfl r'.vals _ hr2 Tryz.underlying25 rfl hRs ?_)
      | (refine wpList_store_gen (op := ⟨none, .store 25 (.tmp 6) (.tmp 125), _, _, _, _⟩) rfl 25 _ _ rfl (w.heap.size + 1) r'.vals rfl rfl hl2 ht2 hRs (rec_all1 _) ?_; intro W3 hF4 hl4 hr3))
    refine bodyPost_ret (results_ct rfl rfl rfl (run_loadVar_mid W3 (w.heap.size + 1) 0 25 _ _ hr3 Tryz.underlying25 rfl hRs)) rfl (HOk.out W3 hF4)
set_option maxRecDepth 100000 in
set_option maxHeartbeats 4000000 in
theorem rpt13_c (s : List UInt8) (r : Rec) (w : World) (hs : s.length ≤ 50000) (hV : RcV r w) :
    Calls Tryz.prog 21 #[.string ⟨#[87, 75, 83, 84]⟩, .string ⟨s.toArray⟩, .agg r.vals.toArray] w (PartR [87, 75, 83, 84] s r w) := by
  obtain ⟨W0, hW0⟩ : ∃ W0, W0 = ((w.alloc (.cells r.vals.toArray 25)).alloc (.cells #[.int .i64 0, .int .i64 0, .int .i64 0, .int .i64 0, .slice none 0 0, .slice none 0 0, .slice none 0 0, .slice none 0 0, .slice none 0 0, .slice none 0 0, .slice none 0 0, .slice none 0 0, .slice none 0 0, .int .i64 0] 25)) := ⟨_, rfl⟩
  have HW0 := Lib.hid hW0
  have HS : Hid (RpS r w W0) := by rw [hW0]; exact RpS.init r w hV
  have HPl : Hid (∀ H W, RdS ptW H 0 W → Calls Tryz.prog 56 #[.slice (some ⟨H, 0, none⟩) 14 14, .string ⟨#[87, 75, 83, 84]⟩] W fun e w' => e = .returned (.int .i64 14) ∧ W = w') := fun H W hR => rplace_c ptW H 14 [87, 75, 83, 84] 14 W hR (by decide) (by decide) (by decide)
  have HP0 : Hid (prtZ untZ [87, 75, 83, 84] s r.D = (match partZ untZ 13 s r.D with
    | some R' => .ok R'
    | none => .er 3)) := prt_at 13 (by decide) s r.D
  obtain ⟨n0, b0, hNu⟩ := num_any s w hs
  have HNu := Lib.hid hNu
  obtain ⟨p, hp⟩ : ∃ p, p = plW wkW s := ⟨_, rfl⟩
  have HPf : Hid (∀ H W, RdS wkW H 0 W → Calls Tryz.prog 56 #[.slice (some ⟨H, 0, none⟩) 7 7, .string ⟨s.toArray⟩] W fun e w' => e = .returned (.int .i64 (p : Int)) ∧ W = w') := fun H W hR => rplace_c wkW H 7 s p W hR (by decide) (by decide) hp.symm
  by_cases hz : p = 0
  · have HP := Lib.hid (HP0.out.trans (by unfold partZ; simp [← hp, hz]) : prtZ untZ [87, 75, 83, 84] s r.D = .er 3)
    have t0 : decide (0 < p) = false := decide_eq_false (by omega)
    have t1 : decide ((0 : Int) < (p : Int)) = false := decide_eq_false (by omega)
    clear hz hV hW0 HP0 hNu hp
    go_enter Tryz.func21, Tryz.ntmps21
    go_upto_region 1 with fail
    rw [← HW0.out]
    go_upto_region 25 with (first
      | (go_at_call 39; (with_reducible refine (rnms_c _).mono ?_); rintro e w1 ⟨⟨H, rfl, hHR⟩, hE1⟩; have HHR := Lib.hid hHR; have HE1 := Lib.hid hE1; clear hHR hE1)
      | (go_at_call 56; (with_reducible refine (HPl.out _ _ HHR.out).mono ?_); rintro e wp ⟨rfl, rfl⟩)
      | (go_at_call 59; (with_reducible refine (HNu.out _).mono ?_); rintro e wn ⟨rfl, rfl⟩)
      | (go_at_call 60; (with_reducible refine (nums_any s _ hs).mono ?_); rintro e w2 ⟨⟨nv, nb, rfl⟩, hE2⟩; have HE2 := Lib.hid hE2; clear hE2))
    go_upto_region 26 with (first
      | (go_at_call 41; (with_reducible refine (rwkd_c _).mono ?_); rintro e w3 ⟨⟨H3, rfl, hHR3⟩, hE3⟩; have HHR3 := Lib.hid hHR3; have hS3 := HS.out.ext (HE1.out.trans (HE2.out.trans hE3)); have HS3 := Lib.hid hS3; obtain ⟨hu, hf⟩ := hS3.cell (off := 13) (u := .int .i64 r.D.ws) rfl; have hl0 := hS3.lt0; clear hHR3 hE3 hS3)
      | (go_at_call 56; (with_reducible refine (HPf.out _ _ HHR3.out).mono ?_); rintro e wp ⟨rfl, rfl⟩))
    have HQ := Lib.hid (rp_er HS3.out 3 HP.out 13 (.int .i64 r.D.ws) (.int .i64 (p : Int)) rfl)
    have hq := HQ.out
    obtain ⟨W2, hW2⟩ : ∃ W2, W2 = w3.setCell ⟨w.heap.size, 13, none⟩ (.int .i64 (p : Int)) := ⟨_, rfl⟩
    have hc2 : W2.cell? ⟨w.heap.size, 13, none⟩ = some (.int .i64 (p : Int)) := by rw [hW2]; exact World.cell?_setCell_same _ _ _ hu
    rw [← hW2] at hq ⊢
    obtain ⟨ht2, hl2, hEr⟩ := hq
    have HEr := Lib.hid hEr
    clear hW2 hEr hu hf hl0
    go_wp2_with (refine wpList_store_gen (op := ⟨none, .store 25 (.tmp 6) (.tmp 124), _, _, _, _⟩) rfl 25 _ _ rfl (w.heap.size + 1) Rec.zero.vals rfl rfl hl2 ht2 (rec_size Rec.zero) (rec_all1 _) ?_; intro W3 hF3 hl4 hr3)
    refine bodyPost_ret (results_ct rfl rfl rfl (run_loadVar_mid W3 (w.heap.size + 1) 0 25 _ _ hr3 Tryz.underlying25 rfl (rec_size Rec.zero))) rfl (HEr.out W3 hF3)
  · obtain ⟨r', hr'⟩ : ∃ r' : Rec, r' = ⟨{ r.D with ws := (p : Int) }, r.a, r.c⟩ := ⟨_, rfl⟩
    have HP := Lib.hid (HP0.out.trans (by rw [hr']; unfold partZ; simp [← hp, hz]) : prtZ untZ [87, 75, 83, 84] s r.D = .ok r'.D)
    have Hv : Hid (r'.vals = r.vals.set 13 (.int .i64 (p : Int))) := by rw [hr']; rfl
    have Hst : Hid (∀ W, RcV r W → RcV r' W) := fun W hr => by rw [hr']; exact ⟨hr.mo, hr.md, hr.yd, hr.wk, hr.da, hr.ho, hr.mi, hr.se, hr.po⟩
    have t0 : decide (0 < p) = true := decide_eq_true (by omega)
    have t1 : decide ((0 : Int) < (p : Int)) = true := decide_eq_true (by omega)
    clear hz hV hW0 HP0 hNu hp hr'
    go_enter Tryz.func21, Tryz.ntmps21
    go_upto_region 1 with fail
    rw [← HW0.out]
    go_upto_region 25 with (first
      | (go_at_call 39; (with_reducible refine (rnms_c _).mono ?_); rintro e w1 ⟨⟨H, rfl, hHR⟩, hE1⟩; have HHR := Lib.hid hHR; have HE1 := Lib.hid hE1; clear hHR hE1)
      | (go_at_call 56; (with_reducible refine (HPl.out _ _ HHR.out).mono ?_); rintro e wp ⟨rfl, rfl⟩)
      | (go_at_call 59; (with_reducible refine (HNu.out _).mono ?_); rintro e wn ⟨rfl, rfl⟩)
      | (go_at_call 60; (with_reducible refine (nums_any s _ hs).mono ?_); rintro e w2 ⟨⟨nv, nb, rfl⟩, hE2⟩; have HE2 := Lib.hid hE2; clear hE2))
    go_upto_region 26 with (first
      | (go_at_call 41; (with_reducible refine (rwkd_c _).mono ?_); rintro e w3 ⟨⟨H3, rfl, hHR3⟩, hE3⟩; have HHR3 := Lib.hid hHR3; have hS3 := HS.out.ext (HE1.out.trans (HE2.out.trans hE3)); have HS3 := Lib.hid hS3; obtain ⟨hu, hf⟩ := hS3.cell (off := 13) (u := .int .i64 r.D.ws) rfl; have hl0 := hS3.lt0; clear hHR3 hE3 hS3)
      | (go_at_call 56; (with_reducible refine (HPf.out _ _ HHR3.out).mono ?_); rintro e wp ⟨rfl, rfl⟩))
    have HQ := Lib.hid (rp_ok (r' := r') HS3.out 13 (.int .i64 r.D.ws) (.int .i64 (p : Int)) rfl Hv.out HP.out (fun F W _ _ hr => Hst.out W hr))
    have hq := HQ.out
    obtain ⟨W2, hW2⟩ : ∃ W2, W2 = w3.setCell ⟨w.heap.size, 13, none⟩ (.int .i64 (p : Int)) := ⟨_, rfl⟩
    have hc2 : W2.cell? ⟨w.heap.size, 13, none⟩ = some (.int .i64 (p : Int)) := by rw [hW2]; exact World.cell?_setCell_same _ _ _ hu
    rw [← hW2] at hq ⊢
    have hRs := rec_size r'
    obtain ⟨ht2, hl2, hr2, hOk⟩ := hq
    have HOk := Lib.hid hOk
    clear hW2 hOk hu hf hl0
    go_wp2_with (first
      | (refine load_midg (by rfl) 25 _ rfl w.heap.size 0 rfl r'.vals _ hr2 Tryz.underlying25 rfl hRs ?_)
      | (refine wpList_store_gen (op := ⟨none, .store 25 (.tmp 6) (.tmp 125), _, _, _, _⟩) rfl 25 _ _ rfl (w.heap.size + 1) r'.vals rfl rfl hl2 ht2 hRs (rec_all1 _) ?_; intro W3 hF4 hl4 hr3))
    refine bodyPost_ret (results_ct rfl rfl rfl (run_loadVar_mid W3 (w.heap.size + 1) 0 25 _ _ hr3 Tryz.underlying25 rfl hRs)) rfl (HOk.out W3 hF4)
set_option maxRecDepth 100000 in
set_option maxHeartbeats 4000000 in
theorem rpt_none (nm s : List UInt8) (r : Rec) (w : World) (h0 : plW ptW nm = 0) (hV : RcV r w) :
    Calls Tryz.prog 21 #[.string ⟨nm.toArray⟩, .string ⟨s.toArray⟩, .agg r.vals.toArray] w (PartR nm s r w) := by
  obtain ⟨W0, hW0⟩ : ∃ W0, W0 = ((w.alloc (.cells r.vals.toArray 25)).alloc (.cells #[.int .i64 0, .int .i64 0, .int .i64 0, .int .i64 0, .slice none 0 0, .slice none 0 0, .slice none 0 0, .slice none 0 0, .slice none 0 0, .slice none 0 0, .slice none 0 0, .slice none 0 0, .slice none 0 0, .int .i64 0] 25)) := ⟨_, rfl⟩
  have HW0 := Lib.hid hW0
  have HS : Hid (RpS r w W0) := by rw [hW0]; exact RpS.init r w hV
  have HPl : Hid (∀ H W, RdS ptW H 0 W → Calls Tryz.prog 56 #[.slice (some ⟨H, 0, none⟩) 14 14, .string ⟨nm.toArray⟩] W fun e w' => e = .returned (.int .i64 0) ∧ W = w') := fun H W hR => rplace_c ptW H 14 nm 0 W hR (by decide) (by decide) h0
  have HP : Hid (prtZ untZ nm s r.D = .er 7) := by rw [Hid]; unfold prtZ; rw [if_pos h0]
  clear hW0 hV h0
  go_enter Tryz.func21, Tryz.ntmps21
  go_upto_region 1 with fail
  rw [← HW0.out]
  go_upto_region 2 with (first
    | (go_at_call 39; (with_reducible refine (rnms_c _).mono ?_); rintro e w1 ⟨⟨H, rfl, hHR⟩, hE1⟩; have HHR := Lib.hid hHR; have HE1 := Lib.hid hE1; clear hHR hE1)
    | (go_at_call 56; (with_reducible refine (HPl.out _ _ HHR.out).mono ?_); rintro e wp ⟨rfl, rfl⟩))
  have hS2 := HS.out.ext HE1.out
  have HEr := Lib.hid (rp_er0 hS2 7 HP.out)
  have hl2 := hS2.l
  have ht2 := hS2.t
  clear hS2
  go_wp2_with (refine wpList_store_gen (op := ⟨none, .store 25 (.tmp 6) (.tmp 21), _, _, _, _⟩) rfl 25 _ _ rfl (w.heap.size + 1) Rec.zero.vals rfl rfl hl2 ht2 (rec_size Rec.zero) (rec_all1 _) ?_; intro W3 hF3 hl4 hr3)
  refine bodyPost_ret (results_ct rfl rfl rfl (run_loadVar_mid W3 (w.heap.size + 1) 0 25 _ _ hr3 Tryz.underlying25 rfl (rec_size Rec.zero))) rfl (HEr.out W3 hF3)
theorem rpart_c (nm s : List UInt8) (r : Rec) (w : World) (hs : s.length ≤ 50000) (hV : RcV r w) :
    Calls Tryz.prog 21 #[.string ⟨nm.toArray⟩, .string ⟨s.toArray⟩, .agg r.vals.toArray] w (PartR nm s r w) := by
  by_cases h0 : plW ptW nm = 0
  · exact rpt_none nm s r w h0 hV
  · have hle := plW_le ptW nm
    have hlen : ptW.length = 14 := rfl
    obtain ⟨k, hk⟩ : ∃ k, plW ptW nm = k + 1 := ⟨plW ptW nm - 1, by omega⟩
    have hk14 : k < 14 := by omega
    have he : nm = ptW.getD k [] := plW_inj h0 (hk.trans (pt_at k hk14).1.symm)
    subst he
    exact lt14 (P := fun k => Calls Tryz.prog 21 #[.string ⟨(ptW.getD k []).toArray⟩, .string ⟨s.toArray⟩, .agg r.vals.toArray] w (PartR (ptW.getD k []) s r w)) ⟨rpt0_c s r w hs hV, rpt1_c s r w hs hV, rpt2_c s r w hs hV, rpt3_c s r w hs hV, rpt4_c s r w hs hV, rpt5_c s r w hs hV, rpt6_c s r w hs hV, rpt7_c s r w hs hV, rpt8_c s r w hs hV, rpt9_c s r w hs hV, rpt10_c s r w hs hV, rpt11_c s r w hs hV, rpt12_c s r w hs hV, rpt13_c s r w hs hV⟩ k hk14
end Go.Proofs.YtgndogpgfgliaaaGreatDoor
