/- Recurrence rules: the walk of Valid (recurrence). -/
import Derived.Test.YtgndogpgfgliaaaGreatDoorQ19
namespace Go.Proofs.YtgndogpgfgliaaaGreatDoor
set_option linter.unusedVariables false
set_option linter.unnecessarySimpa false
set_option linter.unusedSimpArgs false
open Go.RowKit

theorem RcB.all {r : Rec} {B : Nat} {w : World} (h : RcB r B w) :
    w.cell? ⟨B, 0, none⟩ = some (.int .i64 r.D.fr) ∧ w.cell? ⟨B, 1, none⟩ = some (.int .i64 r.D.iv) ∧ w.cell? ⟨B, 2, none⟩ = some (.int .i64 r.D.ct) ∧ w.cell? ⟨B, 3, none⟩ = some (.int .i64 r.D.un) ∧
    w.cell? ⟨B, 4, none⟩ = some (.slice (r.a 0) r.D.mo.length (r.c 0)) ∧ w.cell? ⟨B, 5, none⟩ = some (.slice (r.a 1) r.D.md.length (r.c 1)) ∧ w.cell? ⟨B, 6, none⟩ = some (.slice (r.a 2) r.D.yd.length (r.c 2)) ∧ w.cell? ⟨B, 7, none⟩ = some (.slice (r.a 3) r.D.wk.length (r.c 3)) ∧
    w.cell? ⟨B, 8, none⟩ = some (.slice (r.a 4) r.D.da.length (r.c 4)) ∧ w.cell? ⟨B, 9, none⟩ = some (.slice (r.a 5) r.D.ho.length (r.c 5)) ∧ w.cell? ⟨B, 10, none⟩ = some (.slice (r.a 6) r.D.mi.length (r.c 6)) ∧ w.cell? ⟨B, 11, none⟩ = some (.slice (r.a 7) r.D.se.length (r.c 7)) ∧ w.cell? ⟨B, 12, none⟩ = some (.slice (r.a 8) r.D.po.length (r.c 8)) ∧ w.cell? ⟨B, 13, none⟩ = some (.int .i64 r.D.ws) :=
  ⟨h.at_ rfl, h.at_ rfl, h.at_ rfl, h.at_ rfl, h.at_ rfl, h.at_ rfl, h.at_ rfl, h.at_ rfl, h.at_ rfl, h.at_ rfl, h.at_ rfl, h.at_ rfl, h.at_ rfl, h.at_ rfl⟩
theorem btw_len {l : List Int} {lo hi : Int} {sg : Bool} (h : btwZ l lo hi sg = true) : l.length ≤ 60 := by
  unfold btwZ at h
  rw [Bool.and_eq_true, decide_eq_true_eq] at h
  exact h.1
theorem vld_no_num {R : RecD} (h : numbV R = false) : vldR R = false := by unfold vldR; rw [h]; rfl
theorem vld_no_lst {R : RecD} (h : lstV R = false) : vldR R = false := by unfold vldR; rw [h]; simp
theorem vld_no_wk {R : RecD} (h : ¬ (R.wk = [] ∨ R.fr = 1)) : vldR R = false := by unfold vldR; rw [decide_eq_false h]; simp
theorem vld_no_da {R : RecD} (h : ¬ R.da.length ≤ 60) : vldR R = false := by unfold vldR; rw [decide_eq_false h]; simp
theorem vld_no_day {R : RecD} {j : Nat} (hj : j < R.da.length) (h : dayV R.fr R.da[j] = false) : vldR R = false := by
  have : R.da.all (dayV R.fr) = false := List.all_eq_false.2 ⟨_, List.getElem_mem hj, by rw [h]; simp⟩
  unfold vldR; rw [this]; simp
theorem vld_no_tm {R : RecD} (h : ¬ tmsV R ≤ 1440) : vldR R = false := by unfold vldR; rw [decide_eq_false h]; simp
theorem vld_yes {R : RecD} (h1 : numbV R = true) (h2 : lstV R = true) (h3 : R.wk = [] ∨ R.fr = 1) (h4 : R.da.length ≤ 60) (h5 : ∀ j (hj : j < R.da.length), dayV R.fr R.da[j] = true) (h6 : tmsV R ≤ 1440) : vldR R = true := by
  have : R.da.all (dayV R.fr) = true := List.all_eq_true.2 (fun o ho => by obtain ⟨i, hi, rfl⟩ := List.mem_iff_getElem.1 ho; exact h5 i hi)
  unfold vldR; rw [h1, h2, this, decide_eq_true h3, decide_eq_true h4, decide_eq_true h6]; rfl
set_option maxRecDepth 100000 in
set_option maxHeartbeats 8000000 in
theorem uvalid_c (r : Rec) (b : Bool) (w : World) (hV : RcV r w) (hb : vldR r.D = b) :
    Calls Tryz.prog 27 #[.agg r.vals.toArray] w fun e w' => e = .returned (.bool b) ∧ Ext w w' := by
  have hE0 : Ext w (w.alloc (.cells r.vals.toArray 25)) := (Ext.refl w).alloc _
  have HE0 := Lib.hid hE0
  have hB := RcB.new r w 25
  have hVe := hV.ext hE0
  have HB := Lib.hid hB
  obtain ⟨c0, c1, c2, c3, c4, c5, c6, c7, c8, c9, c10, c11, c12, c13⟩ := hB.all
  have hBl := hB.1
  have HNum : Hid (numbV r.D = false → b = false) := fun q => by rw [← hb]; exact vld_no_num q
  have HLst : Hid (lstV r.D = false → b = false) := fun q => by rw [← hb]; exact vld_no_lst q
  have HWk : Hid (¬ (r.D.wk = [] ∨ r.D.fr = 1) → b = false) := fun q => by rw [← hb]; exact vld_no_wk q
  have HDl : Hid (¬ r.D.da.length ≤ 60 → b = false) := fun q => by rw [← hb]; exact vld_no_da q
  have HDay : Hid (∀ j (hj : j < r.D.da.length), dayV r.D.fr r.D.da[j] = false → b = false) := fun j hj q => by rw [← hb]; exact vld_no_day hj q
  have HTm : Hid (¬ tmsV r.D ≤ 1440 → b = false) := fun q => by rw [← hb]; exact vld_no_tm q
  have HYes : Hid (numbV r.D = true → lstV r.D = true → (r.D.wk = [] ∨ r.D.fr = 1) → r.D.da.length ≤ 60 → (∀ j (hj : j < r.D.da.length), dayV r.D.fr r.D.da[j] = true) → tmsV r.D ≤ 1440 → b = true) := fun a1 a2 a3 a4 a5 a6 => by rw [← hb]; exact vld_yes a1 a2 a3 a4 a5 a6
  have HNumY : Hid (¬ r.D.fr < 1 → ¬ 5 < r.D.fr → ¬ r.D.iv < 1 → ¬ 1000 < r.D.iv → ¬ r.D.ws < 1 → ¬ 7 < r.D.ws → ¬ r.D.ct < 0 → ¬ 1000 < r.D.ct → (r.D.un = 0 ∨ (locZ r.D.un = true ∧ r.D.ct = 0)) → numbV r.D = true) := fun a1 a2 a3 a4 a5 a6 a7 a8 a9 => by
    unfold numbV; exact decide_eq_true ⟨by omega, by omega, by omega, by omega, by omega, by omega, a9, by omega, by omega⟩
  obtain ⟨e0, he0⟩ : ∃ x, btwZ r.D.mo 1 12 false = x := ⟨_, rfl⟩
  have HB0 : Hid (∀ W, Ext (w.alloc (.cells r.vals.toArray 25)) W → Calls Tryz.prog 67 #[.slice (r.a 0) r.D.mo.length (r.c 0), .int .i64 1, .int .i64 12, .bool false] W fun e w' => e = .returned (.bool e0) ∧ Ext (w.alloc (.cells r.vals.toArray 25)) w') := fun W hE => (between_c r.D.mo _ _ 1 12 false e0 W (hVe.mo.ext hE) (by decide) (by decide) (by decide) he0).mono fun e w' ⟨a, c⟩ => ⟨a, hE.trans c⟩
  obtain ⟨e1, he1⟩ : ∃ x, btwZ r.D.md 1 31 true = x := ⟨_, rfl⟩
  have HB1 : Hid (∀ W, Ext (w.alloc (.cells r.vals.toArray 25)) W → Calls Tryz.prog 67 #[.slice (r.a 1) r.D.md.length (r.c 1), .int .i64 1, .int .i64 31, .bool true] W fun e w' => e = .returned (.bool e1) ∧ Ext (w.alloc (.cells r.vals.toArray 25)) w') := fun W hE => (between_c r.D.md _ _ 1 31 true e1 W (hVe.md.ext hE) (by decide) (by decide) (by decide) he1).mono fun e w' ⟨a, c⟩ => ⟨a, hE.trans c⟩
  obtain ⟨e2, he2⟩ : ∃ x, btwZ r.D.yd 1 366 true = x := ⟨_, rfl⟩
  have HB2 : Hid (∀ W, Ext (w.alloc (.cells r.vals.toArray 25)) W → Calls Tryz.prog 67 #[.slice (r.a 2) r.D.yd.length (r.c 2), .int .i64 1, .int .i64 366, .bool true] W fun e w' => e = .returned (.bool e2) ∧ Ext (w.alloc (.cells r.vals.toArray 25)) w') := fun W hE => (between_c r.D.yd _ _ 1 366 true e2 W (hVe.yd.ext hE) (by decide) (by decide) (by decide) he2).mono fun e w' ⟨a, c⟩ => ⟨a, hE.trans c⟩
  obtain ⟨e3, he3⟩ : ∃ x, btwZ r.D.wk 1 53 true = x := ⟨_, rfl⟩
  have HB3 : Hid (∀ W, Ext (w.alloc (.cells r.vals.toArray 25)) W → Calls Tryz.prog 67 #[.slice (r.a 3) r.D.wk.length (r.c 3), .int .i64 1, .int .i64 53, .bool true] W fun e w' => e = .returned (.bool e3) ∧ Ext (w.alloc (.cells r.vals.toArray 25)) w') := fun W hE => (between_c r.D.wk _ _ 1 53 true e3 W (hVe.wk.ext hE) (by decide) (by decide) (by decide) he3).mono fun e w' ⟨a, c⟩ => ⟨a, hE.trans c⟩
  obtain ⟨e4, he4⟩ : ∃ x, btwZ r.D.ho 0 23 false = x := ⟨_, rfl⟩
  have HB4 : Hid (∀ W, Ext (w.alloc (.cells r.vals.toArray 25)) W → Calls Tryz.prog 67 #[.slice (r.a 5) r.D.ho.length (r.c 5), .int .i64 0, .int .i64 23, .bool false] W fun e w' => e = .returned (.bool e4) ∧ Ext (w.alloc (.cells r.vals.toArray 25)) w') := fun W hE => (between_c r.D.ho _ _ 0 23 false e4 W (hVe.ho.ext hE) (by decide) (by decide) (by decide) he4).mono fun e w' ⟨a, c⟩ => ⟨a, hE.trans c⟩
  obtain ⟨e5, he5⟩ : ∃ x, btwZ r.D.mi 0 59 false = x := ⟨_, rfl⟩
  have HB5 : Hid (∀ W, Ext (w.alloc (.cells r.vals.toArray 25)) W → Calls Tryz.prog 67 #[.slice (r.a 6) r.D.mi.length (r.c 6), .int .i64 0, .int .i64 59, .bool false] W fun e w' => e = .returned (.bool e5) ∧ Ext (w.alloc (.cells r.vals.toArray 25)) w') := fun W hE => (between_c r.D.mi _ _ 0 59 false e5 W (hVe.mi.ext hE) (by decide) (by decide) (by decide) he5).mono fun e w' ⟨a, c⟩ => ⟨a, hE.trans c⟩
  obtain ⟨e6, he6⟩ : ∃ x, btwZ r.D.se 0 59 false = x := ⟨_, rfl⟩
  have HB6 : Hid (∀ W, Ext (w.alloc (.cells r.vals.toArray 25)) W → Calls Tryz.prog 67 #[.slice (r.a 7) r.D.se.length (r.c 7), .int .i64 0, .int .i64 59, .bool false] W fun e w' => e = .returned (.bool e6) ∧ Ext (w.alloc (.cells r.vals.toArray 25)) w') := fun W hE => (between_c r.D.se _ _ 0 59 false e6 W (hVe.se.ext hE) (by decide) (by decide) (by decide) he6).mono fun e w' ⟨a, c⟩ => ⟨a, hE.trans c⟩
  obtain ⟨e7, he7⟩ : ∃ x, btwZ r.D.po 1 366 true = x := ⟨_, rfl⟩
  have HB7 : Hid (∀ W, Ext (w.alloc (.cells r.vals.toArray 25)) W → Calls Tryz.prog 67 #[.slice (r.a 8) r.D.po.length (r.c 8), .int .i64 1, .int .i64 366, .bool true] W fun e w' => e = .returned (.bool e7) ∧ Ext (w.alloc (.cells r.vals.toArray 25)) w') := fun W hE => (between_c r.D.po _ _ 1 366 true e7 W (hVe.po.ext hE) (by decide) (by decide) (by decide) he7).mono fun e w' ⟨a, c⟩ => ⟨a, hE.trans c⟩
  have HLstE : Hid (lstV r.D = (e0 && e1 && e2 && e3 && e4 && e5 && e6 && e7)) := by rw [Hid]; unfold lstV; rw [he0, he1, he2, he3, he4, he5, he6, he7]
  have HTms : Hid (e4 = true → e5 = true → e6 = true → ¬ r.D.fr < 1 → ¬ 5 < r.D.fr → ∀ W, Ext (w.alloc (.cells r.vals.toArray 25)) W → Calls Tryz.prog 68 #[.agg r.vals.toArray, .int .i64 0] W fun e w' => (∃ ao cap, e = .returned (.slice ao (tmsV r.D) cap)) ∧ Ext W w') := fun a1 a2 a3 a4 a5 W hE => utimes_c r W (hVe.ext hE) (btw_len (he4.trans a1)) (btw_len (he5.trans a2)) (btw_len (he6.trans a3)) ⟨by omega, by omega⟩
  have HDa := Lib.hid hVe.da
  have hRs := rec_size r
  have hdal := hVe.da.1
  have hdac := hVe.da.2.1
  unfold maxLen at hdac
  clear hE0 hB hVe hV hb he0 he1 he2 he3 he4 he5 he6 he7
  go_enter Tryz.func27, Tryz.ntmps27
  go_upto_region 1 with fail
  generalize w.alloc (.cells r.vals.toArray 25) = W0 at *
  generalize w.heap.size = B at *
  by_cases q1 : r.D.fr < 1
  · have t : decide (r.D.fr < 1) = true := decide_eq_true q1
    have hf := HNum.out (by unfold numbV; exact decide_eq_false (fun ⟨h1, h2, h3, h4, h5, h6, h7, h8, h9⟩ => by omega))
    subst hf
    clear q1
    go_wp2_with fail
    go_ret
    exact ⟨rfl, HE0.out⟩
  have tq1 : decide (r.D.fr < 1) = false := decide_eq_false q1
  by_cases q2 : 5 < r.D.fr
  · have t : decide (5 < r.D.fr) = true := decide_eq_true q2
    have hf := HNum.out (by unfold numbV; exact decide_eq_false (fun ⟨h1, h2, h3, h4, h5, h6, h7, h8, h9⟩ => by omega))
    subst hf
    clear q2
    go_wp2_with fail
    go_ret
    exact ⟨rfl, HE0.out⟩
  have tq2 : decide (5 < r.D.fr) = false := decide_eq_false q2
  go_upto_region 2 with fail
  by_cases q3 : r.D.iv < 1
  · have t : decide (r.D.iv < 1) = true := decide_eq_true q3
    have hf := HNum.out (by unfold numbV; exact decide_eq_false (fun ⟨h1, h2, h3, h4, h5, h6, h7, h8, h9⟩ => by omega))
    subst hf
    clear q3
    go_wp2_with fail
    go_ret
    exact ⟨rfl, HE0.out⟩
  have tq3 : decide (r.D.iv < 1) = false := decide_eq_false q3
  by_cases q4 : 1000 < r.D.iv
  · have t : decide (1000 < r.D.iv) = true := decide_eq_true q4
    have hf := HNum.out (by unfold numbV; exact decide_eq_false (fun ⟨h1, h2, h3, h4, h5, h6, h7, h8, h9⟩ => by omega))
    subst hf
    clear q4
    go_wp2_with fail
    go_ret
    exact ⟨rfl, HE0.out⟩
  have tq4 : decide (1000 < r.D.iv) = false := decide_eq_false q4
  go_upto_region 3 with fail
  by_cases q5 : r.D.ws < 1
  · have t : decide (r.D.ws < 1) = true := decide_eq_true q5
    have hf := HNum.out (by unfold numbV; exact decide_eq_false (fun ⟨h1, h2, h3, h4, h5, h6, h7, h8, h9⟩ => by omega))
    subst hf
    clear q5
    go_wp2_with fail
    go_ret
    exact ⟨rfl, HE0.out⟩
  have tq5 : decide (r.D.ws < 1) = false := decide_eq_false q5
  by_cases q6 : 7 < r.D.ws
  · have t : decide (7 < r.D.ws) = true := decide_eq_true q6
    have hf := HNum.out (by unfold numbV; exact decide_eq_false (fun ⟨h1, h2, h3, h4, h5, h6, h7, h8, h9⟩ => by omega))
    subst hf
    clear q6
    go_wp2_with fail
    go_ret
    exact ⟨rfl, HE0.out⟩
  have tq6 : decide (7 < r.D.ws) = false := decide_eq_false q6
  go_upto_region 5 with fail
  by_cases q7 : r.D.ct < 0
  · have t : decide (r.D.ct < 0) = true := decide_eq_true q7
    have hf := HNum.out (by unfold numbV; exact decide_eq_false (fun ⟨h1, h2, h3, h4, h5, h6, h7, h8, h9⟩ => by omega))
    subst hf
    clear q7
    go_wp2_with fail
    go_ret
    exact ⟨rfl, HE0.out⟩
  have tq7 : decide (r.D.ct < 0) = false := decide_eq_false q7
  by_cases q8 : 1000 < r.D.ct
  · have t : decide (1000 < r.D.ct) = true := decide_eq_true q8
    have hf := HNum.out (by unfold numbV; exact decide_eq_false (fun ⟨h1, h2, h3, h4, h5, h6, h7, h8, h9⟩ => by omega))
    subst hf
    clear q8
    go_wp2_with fail
    go_ret
    exact ⟨rfl, HE0.out⟩
  have tq8 : decide (1000 < r.D.ct) = false := decide_eq_false q8
  go_upto_region 6 with fail
  have Q1 := Lib.hid q1
  have Q2 := Lib.hid q2
  have HNY := Lib.hid (HNumY.out q1 q2 q3 q4 q5 q6 q7 q8)
  clear q1 q2 q3 q4 q5 q6 q7 q8 tq1 tq2 tq3 tq4 tq5 tq6 tq7 tq8 HNumY
  obtain ⟨lb, hlb⟩ : ∃ lb, locZ r.D.un = lb := ⟨_, rfl⟩
  have HLo := Lib.hid (fun w' => local_c r.D.un lb w' hlb)
  obtain ⟨bd, hbd⟩ : ∃ bd : Bool, bd = !(decide (r.D.un = 0 ∨ (locZ r.D.un = true ∧ r.D.ct = 0))) := ⟨_, rfl⟩
  have Hbd := Lib.hid hbd
  rw [hlb] at hbd
  clear hlb
  go_cut [30] from 39 to 52 (fun x wx => x = .bool bd ∧ W0 = wx)
  case first =>
    by_cases a1 : r.D.un = 0
    · have t1 : (r.D.un == 0) = true := by simpa using a1
      have t2 : (r.D.un != 0) = false := by simpa using a1
      have hd : bd = false := by rw [hbd]; simp [a1]
      clear a1 hbd
      go_wp2_with fail
      go_meet
      exact ⟨by rw [hd], rfl⟩
    · have t1 : (r.D.un == 0) = false := by simpa using a1
      have t2 : (r.D.un != 0) = true := by simpa using a1
      cases lb
      · have hd : bd = true := by rw [hbd]; simp [a1]
        clear a1 hbd
        go_wp2_with (go_at_call 66; (with_reducible refine (HLo.out _).mono ?_); rintro e w1 ⟨rfl, rfl⟩)
        go_meet
        exact ⟨by rw [hd], rfl⟩
      · by_cases a2 : r.D.ct = 0
        · have t3 : (r.D.ct == 0) = true := by simpa using a2
          have t4 : (r.D.ct != 0) = false := by simpa using a2
          have hd : bd = false := by rw [hbd]; simp [a2]
          clear a1 a2 hbd
          go_wp2_with (go_at_call 66; (with_reducible refine (HLo.out _).mono ?_); rintro e w1 ⟨rfl, rfl⟩)
          go_meet
          exact ⟨by rw [hd], rfl⟩
        · have t3 : (r.D.ct == 0) = false := by simpa using a2
          have t4 : (r.D.ct != 0) = true := by simpa using a2
          have hd : bd = true := by rw [hbd]; simp [a1, a2]
          clear a1 a2 hbd
          go_wp2_with (go_at_call 66; (with_reducible refine (HLo.out _).mono ?_); rintro e w1 ⟨rfl, rfl⟩)
          go_meet
          exact ⟨by rw [hd], rfl⟩
  case rest =>
  obtain ⟨rfl, rfl⟩ := hcut
  clear hbd
  cases bd with
  | true =>
    have hf := HNum.out (by unfold numbV; exact decide_eq_false (fun ⟨h1, h2, h3, h4, h5, h6, h7, h8, h9⟩ => by have h := Hbd.out; rw [decide_eq_true h7] at h; cases h))
    subst hf
    go_wp2_with fail
    go_ret
    exact ⟨rfl, HE0.out⟩
  | false =>
  have hun : r.D.un = 0 ∨ (locZ r.D.un = true ∧ r.D.ct = 0) := by
    have h := Hbd.out
    have h2 : decide (r.D.un = 0 ∨ (locZ r.D.un = true ∧ r.D.ct = 0)) = true := by
      cases hx : decide (r.D.un = 0 ∨ (locZ r.D.un = true ∧ r.D.ct = 0))
      · rw [hx] at h; cases h
      · rfl
    exact of_decide_eq_true h2
  have HNT := Lib.hid (HNY.out hun)
  clear hun Hbd
  go_upto_region 8 with fail
  cases e0 with
  | false =>
    have hf := HLst.out (by rw [HLstE.out]; simp)
    subst hf
    go_wp2_with (first
      | (go_at_call 67; (with_reducible refine (HB0.out _ (Ext.refl _)).mono ?_); rintro e w1 ⟨rfl, hX1⟩; have k1 := (hX1.cells B 5 hBl).trans c5; have hBl1 := hX1.lt hBl))
    go_ret
    exact ⟨rfl, HE0.out.trans hX1⟩
  | true =>
  cases e1 with
  | false =>
    have hf := HLst.out (by rw [HLstE.out]; simp)
    subst hf
    go_wp2_with (first
      | (go_at_call 67; (with_reducible refine (HB0.out _ (Ext.refl _)).mono ?_); rintro e w1 ⟨rfl, hX1⟩; have k1 := (hX1.cells B 5 hBl).trans c5; have hBl1 := hX1.lt hBl)
      | (go_at_call 67; (with_reducible refine (HB1.out _ hX1).mono ?_); rintro e w2 ⟨rfl, hX2⟩; have k2 := (hX2.cells B 6 hBl).trans c6; have hBl2 := hX2.lt hBl))
    go_ret
    exact ⟨rfl, HE0.out.trans hX2⟩
  | true =>
  cases e2 with
  | false =>
    have hf := HLst.out (by rw [HLstE.out]; simp)
    subst hf
    go_wp2_with (first
      | (go_at_call 67; (with_reducible refine (HB0.out _ (Ext.refl _)).mono ?_); rintro e w1 ⟨rfl, hX1⟩; have k1 := (hX1.cells B 5 hBl).trans c5; have hBl1 := hX1.lt hBl)
      | (go_at_call 67; (with_reducible refine (HB1.out _ hX1).mono ?_); rintro e w2 ⟨rfl, hX2⟩; have k2 := (hX2.cells B 6 hBl).trans c6; have hBl2 := hX2.lt hBl)
      | (go_at_call 67; (with_reducible refine (HB2.out _ hX2).mono ?_); rintro e w3 ⟨rfl, hX3⟩; have k3 := (hX3.cells B 7 hBl).trans c7; have hBl3 := hX3.lt hBl))
    go_ret
    exact ⟨rfl, HE0.out.trans hX3⟩
  | true =>
  cases e3 with
  | false =>
    have hf := HLst.out (by rw [HLstE.out]; simp)
    subst hf
    go_wp2_with (first
      | (go_at_call 67; (with_reducible refine (HB0.out _ (Ext.refl _)).mono ?_); rintro e w1 ⟨rfl, hX1⟩; have k1 := (hX1.cells B 5 hBl).trans c5; have hBl1 := hX1.lt hBl)
      | (go_at_call 67; (with_reducible refine (HB1.out _ hX1).mono ?_); rintro e w2 ⟨rfl, hX2⟩; have k2 := (hX2.cells B 6 hBl).trans c6; have hBl2 := hX2.lt hBl)
      | (go_at_call 67; (with_reducible refine (HB2.out _ hX2).mono ?_); rintro e w3 ⟨rfl, hX3⟩; have k3 := (hX3.cells B 7 hBl).trans c7; have hBl3 := hX3.lt hBl)
      | (go_at_call 67; (with_reducible refine (HB3.out _ hX3).mono ?_); rintro e w4 ⟨rfl, hX4⟩; have k4 := (hX4.cells B 9 hBl).trans c9; have hBl4 := hX4.lt hBl))
    go_ret
    exact ⟨rfl, HE0.out.trans hX4⟩
  | true =>
  go_upto_region 10 with (first
    | (go_at_call 67; (with_reducible refine (HB0.out _ (Ext.refl _)).mono ?_); rintro e w1 ⟨rfl, hX1⟩; have k1 := (hX1.cells B 5 hBl).trans c5; have hBl1 := hX1.lt hBl)
    | (go_at_call 67; (with_reducible refine (HB1.out _ hX1).mono ?_); rintro e w2 ⟨rfl, hX2⟩; have k2 := (hX2.cells B 6 hBl).trans c6; have hBl2 := hX2.lt hBl)
    | (go_at_call 67; (with_reducible refine (HB2.out _ hX2).mono ?_); rintro e w3 ⟨rfl, hX3⟩; have k3 := (hX3.cells B 7 hBl).trans c7; have hBl3 := hX3.lt hBl)
    | (go_at_call 67; (with_reducible refine (HB3.out _ hX3).mono ?_); rintro e w4 ⟨rfl, hX4⟩; have k4 := (hX4.cells B 9 hBl).trans c9; have hBl4 := hX4.lt hBl))
  cases e4 with
  | false =>
    have hf := HLst.out (by rw [HLstE.out]; simp)
    subst hf
    go_wp2_with (first
      | (go_at_call 67; (with_reducible refine (HB4.out _ hX4).mono ?_); rintro e w5 ⟨rfl, hX5⟩; have k5 := (hX5.cells B 10 hBl).trans c10; have hBl5 := hX5.lt hBl))
    go_ret
    exact ⟨rfl, HE0.out.trans hX5⟩
  | true =>
  cases e5 with
  | false =>
    have hf := HLst.out (by rw [HLstE.out]; simp)
    subst hf
    go_wp2_with (first
      | (go_at_call 67; (with_reducible refine (HB4.out _ hX4).mono ?_); rintro e w5 ⟨rfl, hX5⟩; have k5 := (hX5.cells B 10 hBl).trans c10; have hBl5 := hX5.lt hBl)
      | (go_at_call 67; (with_reducible refine (HB5.out _ hX5).mono ?_); rintro e w6 ⟨rfl, hX6⟩; have k6 := (hX6.cells B 11 hBl).trans c11; have hBl6 := hX6.lt hBl))
    go_ret
    exact ⟨rfl, HE0.out.trans hX6⟩
  | true =>
  cases e6 with
  | false =>
    have hf := HLst.out (by rw [HLstE.out]; simp)
    subst hf
    go_wp2_with (first
      | (go_at_call 67; (with_reducible refine (HB4.out _ hX4).mono ?_); rintro e w5 ⟨rfl, hX5⟩; have k5 := (hX5.cells B 10 hBl).trans c10; have hBl5 := hX5.lt hBl)
      | (go_at_call 67; (with_reducible refine (HB5.out _ hX5).mono ?_); rintro e w6 ⟨rfl, hX6⟩; have k6 := (hX6.cells B 11 hBl).trans c11; have hBl6 := hX6.lt hBl)
      | (go_at_call 67; (with_reducible refine (HB6.out _ hX6).mono ?_); rintro e w7 ⟨rfl, hX7⟩; have k7 := (hX7.cells B 12 hBl).trans c12; have hBl7 := hX7.lt hBl))
    go_ret
    exact ⟨rfl, HE0.out.trans hX7⟩
  | true =>
  cases e7 with
  | false =>
    have hf := HLst.out (by rw [HLstE.out]; simp)
    subst hf
    go_wp2_with (first
      | (go_at_call 67; (with_reducible refine (HB4.out _ hX4).mono ?_); rintro e w5 ⟨rfl, hX5⟩; have k5 := (hX5.cells B 10 hBl).trans c10; have hBl5 := hX5.lt hBl)
      | (go_at_call 67; (with_reducible refine (HB5.out _ hX5).mono ?_); rintro e w6 ⟨rfl, hX6⟩; have k6 := (hX6.cells B 11 hBl).trans c11; have hBl6 := hX6.lt hBl)
      | (go_at_call 67; (with_reducible refine (HB6.out _ hX6).mono ?_); rintro e w7 ⟨rfl, hX7⟩; have k7 := (hX7.cells B 12 hBl).trans c12; have hBl7 := hX7.lt hBl)
      | (go_at_call 67; (with_reducible refine (HB7.out _ hX7).mono ?_); rintro e w8 ⟨rfl, hX8⟩; have k8 := (hX8.cells B 7 hBl).trans c7; have hBl8 := hX8.lt hBl))
    go_ret
    exact ⟨rfl, HE0.out.trans hX8⟩
  | true =>
  go_upto_region 12 with (first
    | (go_at_call 67; (with_reducible refine (HB4.out _ hX4).mono ?_); rintro e w5 ⟨rfl, hX5⟩; have k5 := (hX5.cells B 10 hBl).trans c10; have hBl5 := hX5.lt hBl)
    | (go_at_call 67; (with_reducible refine (HB5.out _ hX5).mono ?_); rintro e w6 ⟨rfl, hX6⟩; have k6 := (hX6.cells B 11 hBl).trans c11; have hBl6 := hX6.lt hBl)
    | (go_at_call 67; (with_reducible refine (HB6.out _ hX6).mono ?_); rintro e w7 ⟨rfl, hX7⟩; have k7 := (hX7.cells B 12 hBl).trans c12; have hBl7 := hX7.lt hBl)
    | (go_at_call 67; (with_reducible refine (HB7.out _ hX7).mono ?_); rintro e w8 ⟨rfl, hX8⟩; have k8 := (hX8.cells B 7 hBl).trans c7; have hBl8 := hX8.lt hBl))
  have HLT : Hid (lstV r.D = true) := by rw [Hid, HLstE.out]; rfl
  have HTT := Lib.hid (HTms.out (by first | trivial | rfl) (by first | trivial | rfl) (by first | trivial | rfl) Q1.out Q2.out)
  have HX := Lib.hid hX8
  have HBx := HB.out.ext hX8
  have hBr := HBx.2
  obtain ⟨d0, -, -, -, -, -, -, d7, d8, -, -, -, -, -⟩ := HBx.all
  have hB8 := HBx.1
  have HBB := Lib.hid HBx
  clear c0 c1 c2 c3 c4 c5 c6 c7 c8 c9 c10 c11 c12 c13 k1 k2 k3 k4 k5 k6 k7 k8 hX1 hX2 hX3 hX4 hX5 hX6 hX7 hBl1 hBl2 hBl3 hBl4 hBl5 hBl6 hBl7 hBl8 HB0 HB1 HB2 HB3 HB4 HB5 HB6 HB7 HLstE HTms HLst HNum hX8 HBx HLo HNY
  obtain ⟨bd, hbd⟩ : ∃ bd : Bool, bd = !(decide (r.D.wk = [] ∨ r.D.fr = 1)) := ⟨_, rfl⟩
  have Hbd := Lib.hid hbd
  have hwl0 : r.D.wk.length = 0 ↔ r.D.wk = [] := List.length_eq_zero_iff
  obtain ⟨wl, hwl⟩ : ∃ wl, wl = r.D.wk.length := ⟨_, rfl⟩
  rw [← hwl] at hwl0 d7
  have Hwl := Lib.hid hwl0
  clear hwl hwl0
  go_cut [99] from 100 to 108 (fun x wx => x = .bool bd ∧ w8 = wx)
  case first =>
    by_cases a1 : r.D.wk = []
    · have t1 : decide ((0 : Int) < (wl : Int)) = false := decide_eq_false (by have := Hwl.out.2 a1; omega)
      have t0 : decide (0 < wl) = false := decide_eq_false (by have := Hwl.out.2 a1; omega)
      have hd : bd = false := by rw [hbd]; simp [a1]
      clear a1 hbd
      go_wp2_with fail
      go_meet
      exact ⟨by rw [hd], rfl⟩
    · have t1 : decide ((0 : Int) < (wl : Int)) = true := decide_eq_true (by have : wl ≠ 0 := fun h => a1 (Hwl.out.1 h); omega)
      have t0 : decide (0 < wl) = true := decide_eq_true (by have : wl ≠ 0 := fun h => a1 (Hwl.out.1 h); omega)
      by_cases a2 : r.D.fr = 1
      · have t3 : (r.D.fr == 1) = true := by simpa using a2
        have t4 : (r.D.fr != 1) = false := by simpa using a2
        have hd : bd = false := by rw [hbd]; simp [a2]
        clear a1 a2 hbd
        go_wp2_with fail
        go_meet
        exact ⟨by rw [hd], rfl⟩
      · have t3 : (r.D.fr == 1) = false := by simpa using a2
        have t4 : (r.D.fr != 1) = true := by simpa using a2
        have hd : bd = true := by rw [hbd]; simp [a1, a2]
        clear a1 a2 hbd
        go_wp2_with fail
        go_meet
        exact ⟨by rw [hd], rfl⟩
  case rest =>
  obtain ⟨rfl, rfl⟩ := hcut
  clear hbd
  cases bd with
  | true =>
    have hf := HWk.out (fun h => by have q := Hbd.out; rw [decide_eq_true h] at q; cases q)
    subst hf
    go_wp2_with fail
    go_ret
    exact ⟨rfl, HE0.out.trans HX.out⟩
  | false =>
  have HWT : Hid (r.D.wk = [] ∨ r.D.fr = 1) := by
    have h := Hbd.out
    rw [Hid]
    cases hx : decide (r.D.wk = [] ∨ r.D.fr = 1)
    · rw [hx] at h; cases h
    · exact of_decide_eq_true hx
  clear Hbd
  go_upto_region 13 with fail
  by_cases q : 60 < r.D.da.length
  · have t : decide ((60 : Int) < (r.D.da.length : Int)) = true := decide_eq_true (by omega)
    have hf := HDl.out (by omega)
    subst hf
    clear q
    go_wp2_with fail
    go_ret
    exact ⟨rfl, HE0.out.trans HX.out⟩
  have t : decide ((60 : Int) < (r.D.da.length : Int)) = false := decide_eq_false (by omega)
  have HD60 : Hid (r.D.da.length ≤ 60) := by rw [Hid]; omega
  obtain ⟨n, hn⟩ : ∃ n, n = r.D.da.length := ⟨_, rfl⟩
  go_wp2_with fail
  go_loopw [116] (fun i wr => ∃ j : Nat, j ≤ r.D.da.length ∧ i = .int .i64 (j : Int) ∧ (∀ k (hk : k < r.D.da.length), k < j → dayV r.D.fr r.D.da[k] = true) ∧ Ext w8 wr) (fun i _ => r.D.da.length - (intOf i).toNat)
  case atStart => exact ⟨0, Nat.zero_le _, rfl, (fun k hk h => by omega), Ext.refl _⟩
  case round =>
    obtain ⟨j, hj, rfl, hall, hE⟩ := hrel
    have Hall := Lib.hid hall
    clear hall
    by_cases hlt : j < r.D.da.length
    · obtain ⟨R, off, hao, hR⟩ := HDa.out.2.2 (by intro e; rw [e] at hlt; cases hlt)
      have hRr := hR.ext (HX.out.trans hE)
      have hRz := hRr.1
      obtain ⟨x0, x1⟩ := hRr.2 j hlt
      have HNo : Hid (dayV r.D.fr r.D.da[j] = false → b = false) := HDay.out j hlt
      have HAl : Hid (dayV r.D.fr r.D.da[j] = true → ∀ k (hk : k < r.D.da.length), k < j + 1 → dayV r.D.fr r.D.da[k] = true) := fun q k hk h2 => by
        by_cases e : k = j
        · subst e; exact q
        · exact Hall.out k hk (by omega)
      obtain ⟨o, ho⟩ : ∃ o, o = r.D.da[j] := ⟨_, rfl⟩
      rw [← ho] at x0 x1 HNo HAl
      obtain ⟨m, d⟩ := o
      simp only at x0 x1
      rw [hao]
      clear ho hR hRr hn
      have g0 := (hE.cells B 0 hB8).trans d0
      have hBr2 := hE.lt hB8
      have hE1 : Ext wr (wr.alloc (.cells #[.int .i64 m, .int .i64 d] 48)) := (Ext.refl wr).alloc _
      have y0 : (wr.alloc (.cells #[.int .i64 m, .int .i64 d] 48)).cell? ⟨wr.heap.size, 0, none⟩ = some (.int .i64 m) := by rw [World.cell?_alloc_new]; rfl
      have y1 : (wr.alloc (.cells #[.int .i64 m, .int .i64 d] 48)).cell? ⟨wr.heap.size, 1, none⟩ = some (.int .i64 d) := by rw [World.cell?_alloc_new]; rfl
      go_upto_region 18 with fail
      generalize wr.alloc (.cells #[.int .i64 m, .int .i64 d] 48) = W2 at *
      have z0 := (hE1.cells B 0 hBr2).trans g0
      have HE1 := Lib.hid hE1
      generalize wr.heap.size = B2 at y0 y1 ⊢
      obtain ⟨bd, hbd⟩ : ∃ bd : Bool, bd = !(dayV r.D.fr (m, d)) := ⟨_, rfl⟩
      have Hbd := Lib.hid hbd
      unfold dayV at hbd
      simp only at hbd
      clear x0 x1 g0 hE1
      go_cut [152] from 120 to 152 (fun x wx => x = .bool bd ∧ W2 = wx)
      case first =>
        by_cases a1 : d < 1
        · have t : decide (d < 1) = true := decide_eq_true a1
          have hd : bd = true := by rw [hbd, decide_eq_false (fun ⟨h1, h2, h3, h4, h5⟩ => by omega)]; rfl
          clear a1 hbd
          go_wp2_with fail
          go_meet
          exact ⟨by rw [hd], rfl⟩
        have ta1 : decide (d < 1) = false := decide_eq_false a1
        by_cases a2 : 7 < d
        · have t : decide (7 < d) = true := decide_eq_true a2
          have hd : bd = true := by rw [hbd, decide_eq_false (fun ⟨h1, h2, h3, h4, h5⟩ => by omega)]; rfl
          clear a2 hbd
          go_wp2_with fail
          go_meet
          exact ⟨by rw [hd], rfl⟩
        have ta2 : decide (7 < d) = false := decide_eq_false a2
        by_cases a3 : m < -53
        · have t : decide (m < -53) = true := decide_eq_true a3
          have hd : bd = true := by rw [hbd, decide_eq_false (fun ⟨h1, h2, h3, h4, h5⟩ => by omega)]; rfl
          clear a3 hbd
          go_wp2_with fail
          go_meet
          exact ⟨by rw [hd], rfl⟩
        have ta3 : decide (m < -53) = false := decide_eq_false a3
        by_cases a4 : 53 < m
        · have t : decide (53 < m) = true := decide_eq_true a4
          have hd : bd = true := by rw [hbd, decide_eq_false (fun ⟨h1, h2, h3, h4, h5⟩ => by omega)]; rfl
          clear a4 hbd
          go_wp2_with fail
          go_meet
          exact ⟨by rw [hd], rfl⟩
        have ta4 : decide (53 < m) = false := decide_eq_false a4
        by_cases a5 : m = 0
        · have t1 : (m == 0) = true := by simpa using a5
          have t2 : (m != 0) = false := by simpa using a5
          have hd : bd = false := by rw [hbd, decide_eq_true ⟨by omega, by omega, by omega, by omega, .inl a5⟩]; rfl
          clear a1 a2 a3 a4 a5 hbd
          go_wp2_with fail
          go_meet
          exact ⟨by rw [hd], rfl⟩
        have t1 : (m == 0) = false := by simpa using a5
        have t2 : (m != 0) = true := by simpa using a5
        by_cases a6 : r.D.fr = 1
        · have t3 : (r.D.fr == 1) = true := by simpa using a6
          have t4 : (r.D.fr != 1) = false := by simpa using a6
          have hd : bd = false := by rw [hbd, decide_eq_true ⟨by omega, by omega, by omega, by omega, .inr (.inl a6)⟩]; rfl
          clear a1 a2 a3 a4 a5 a6 hbd
          go_wp2_with fail
          go_meet
          exact ⟨by rw [hd], rfl⟩
        have t3 : (r.D.fr == 1) = false := by simpa using a6
        have t4 : (r.D.fr != 1) = true := by simpa using a6
        by_cases a7 : r.D.fr = 2
        · have t5 : (r.D.fr == 2) = true := by simpa using a7
          have t6 : (r.D.fr != 2) = false := by simpa using a7
          have hd : bd = false := by rw [hbd, decide_eq_true ⟨by omega, by omega, by omega, by omega, .inr (.inr a7)⟩]; rfl
          clear a1 a2 a3 a4 a5 a6 a7 hbd
          go_wp2_with fail
          go_meet
          exact ⟨by rw [hd], rfl⟩
        have t5 : (r.D.fr == 2) = false := by simpa using a7
        have t6 : (r.D.fr != 2) = true := by simpa using a7
        have hd : bd = true := by rw [hbd, decide_eq_false (fun ⟨h1, h2, h3, h4, h5⟩ => by omega)]; rfl
        clear a1 a2 a3 a4 a5 a6 a7 hbd
        go_wp2_with fail
        go_meet
        exact ⟨by rw [hd], rfl⟩
      case rest =>
      obtain ⟨rfl, rfl⟩ := hcut
      clear hbd
      cases bd with
      | true =>
        have hf := HNo.out (by have h := Hbd.out; cases hx : dayV r.D.fr (m, d); rfl; rw [hx] at h; cases h)
        subst hf
        go_wp2_with fail
        go_ret
        exact ⟨rfl, HE0.out.trans (HX.out.trans (hE.trans HE1.out))⟩
      | false =>
        have HA2 := Lib.hid (HAl.out (by have h := Hbd.out; cases hx : dayV r.D.fr (m, d); rw [hx] at h; cases h; rfl))
        go_wp2_with fail
        go_roundw
        case rel => exact ⟨j + 1, by omega, by go_num, HA2.out, hE.trans HE1.out⟩
        case measure => simp [intOf]; omega
    · obtain rfl : j = r.D.da.length := by omega
      have hBy := HBB.out.ext hE
      have hR2 := hBy.2
      have HTc := Lib.hid (HTT.out wr (HX.out.trans hE))
      have HEr := Lib.hid hE
      by_cases q9 : tmsV r.D ≤ 1440
      · have hf := HYes.out HNT.out HLT.out HWT.out HD60.out (fun k hk => Hall.out k hk hk) q9
        subst hf
        obtain ⟨T, hT⟩ : ∃ T, T = tmsV r.D := ⟨_, rfl⟩
        rw [← hT] at q9 HTc
        have t9 : decide ((T : Int) ≤ 1440) = true := decide_eq_true (by omega)
        clear q9 hT
        go_wp2_with (first
          | (refine load_midg (by rfl) 25 _ rfl B 0 rfl r.vals _ hR2 Tryz.underlying25 rfl hRs ?_)
          | (go_at_call 68; (with_reducible refine HTc.out.mono ?_); rintro e w9 ⟨⟨ao9, cap9, rfl⟩, hE9⟩))
        go_ret
        exact ⟨rfl, HE0.out.trans (HX.out.trans (HEr.out.trans hE9))⟩
      · have hf := HTm.out q9
        subst hf
        obtain ⟨T, hT⟩ : ∃ T, T = tmsV r.D := ⟨_, rfl⟩
        rw [← hT] at q9 HTc
        have t9 : decide ((T : Int) ≤ 1440) = false := decide_eq_false (by omega)
        clear q9 hT
        go_wp2_with (first
          | (refine load_midg (by rfl) 25 _ rfl B 0 rfl r.vals _ hR2 Tryz.underlying25 rfl hRs ?_)
          | (go_at_call 68; (with_reducible refine HTc.out.mono ?_); rintro e w9 ⟨⟨ao9, cap9, rfl⟩, hE9⟩))
        go_ret
        exact ⟨rfl, HE0.out.trans (HX.out.trans (HEr.out.trans hE9))⟩
end Go.Proofs.YtgndogpgfgliaaaGreatDoor
