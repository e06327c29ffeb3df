/- Recurrence rules: the reference's Valid (ref29). -/
import Derived.Test.YtgndogpgfgliaaaGreatDoorQ39
namespace Go.Proofs.YtgndogpgfgliaaaGreatDoor
set_option linter.unusedVariables false
set_option linter.unnecessarySimpa false
set_option linter.unusedSimpArgs false
open Go.RowKit

set_option maxRecDepth 100000 in
set_option maxHeartbeats 8000000 in
theorem rvalid_y (r : Rec) (b : Bool) (w : World) (hV : RcV r w) (hnb : numbV r.D = true) (hun : r.D.un = 0 ∨ (r.D.un ≠ 0 ∧ locZ r.D.un = true ∧ r.D.ct = 0)) (hb : vldR r.D = b) :
    Calls Tryz.prog 30 #[.agg r.vals.toArray] w fun e w' => e = .returned (.bool b) ∧ Ext w w' := by
  have hE0 : Ext w (w.alloc (.cells r.vals.toArray 25)) := (Ext.refl w).alloc _
  have HE0 := Lib.hid hE0
  have hB := RcB.new r w 25
  have hVe := hV.ext hE0
  have HB := Lib.hid hB
  obtain ⟨c0, c1, c2, c3, c4, c5, c6, c7, c8, c9, c10, c11, c12, c13⟩ := hB.all
  have hBl := hB.1
  have hRs := rec_size r
  obtain ⟨q1, q2, q3, q4, q5, q6, -, q8, q9⟩ := numb_leaves hnb
  have HNT : Hid (numbV r.D = true) := hnb
  have HLst : Hid (lstV r.D = false → b = false) := fun q => by rw [← hb]; exact vld_no_lst q
  have HWk : Hid (¬ (r.D.wk = [] ∨ r.D.fr = 1) → b = false) := fun q => by rw [← hb]; exact vld_no_wk q
  have HDs : Hid ((decide (r.D.da.length ≤ 60) && r.D.da.all (dayV r.D.fr)) = false → b = false) := fun q => by
    rw [← hb]; unfold vldR; rw [Bool.and_eq_false_iff] at q; rcases q with q | q <;> rw [q] <;> simp
  have HFin : Hid (lstV r.D = true → (r.D.wk = [] ∨ r.D.fr = 1) → (decide (r.D.da.length ≤ 60) && r.D.da.all (dayV r.D.fr)) = true → b = decide (tmsV r.D ≤ 1440)) := fun h2 h3 h4 => by
    rw [Bool.and_eq_true] at h4
    rw [← hb]; unfold vldR; rw [HNT.out, h2, decide_eq_true h3, h4.1, h4.2]; rfl
  obtain ⟨dd, hdd⟩ : ∃ x, (decide (r.D.da.length ≤ 60) && r.D.da.all (dayV r.D.fr)) = x := ⟨_, rfl⟩
  have Hdd := Lib.hid hdd
  obtain ⟨e0, he0⟩ : ∃ x, btwZ r.D.mo 1 12 false = x := ⟨_, rfl⟩
  have HB0 : Hid (Calls Tryz.prog 70 #[.slice (r.a 0) r.D.mo.length (r.c 0), .int .i64 1, .int .i64 12, .bool false] (w.alloc (.cells r.vals.toArray 25)) fun e w' => e = .returned (.bool e0) ∧ (w.alloc (.cells r.vals.toArray 25)) = w') := rwithin_c r.D.mo _ _ 1 12 false e0 _ hVe.mo (by decide) (by decide) (by decide) he0
  obtain ⟨e1, he1⟩ : ∃ x, btwZ r.D.md 1 31 true = x := ⟨_, rfl⟩
  have HB1 : Hid (Calls Tryz.prog 70 #[.slice (r.a 1) r.D.md.length (r.c 1), .int .i64 1, .int .i64 31, .bool true] (w.alloc (.cells r.vals.toArray 25)) fun e w' => e = .returned (.bool e1) ∧ (w.alloc (.cells r.vals.toArray 25)) = w') := rwithin_c r.D.md _ _ 1 31 true e1 _ hVe.md (by decide) (by decide) (by decide) he1
  obtain ⟨e2, he2⟩ : ∃ x, btwZ r.D.yd 1 366 true = x := ⟨_, rfl⟩
  have HB2 : Hid (Calls Tryz.prog 70 #[.slice (r.a 2) r.D.yd.length (r.c 2), .int .i64 1, .int .i64 366, .bool true] (w.alloc (.cells r.vals.toArray 25)) fun e w' => e = .returned (.bool e2) ∧ (w.alloc (.cells r.vals.toArray 25)) = w') := rwithin_c r.D.yd _ _ 1 366 true e2 _ hVe.yd (by decide) (by decide) (by decide) he2
  obtain ⟨e3, he3⟩ : ∃ x, btwZ r.D.wk 1 53 true = x := ⟨_, rfl⟩
  have HB3 : Hid (Calls Tryz.prog 70 #[.slice (r.a 3) r.D.wk.length (r.c 3), .int .i64 1, .int .i64 53, .bool true] (w.alloc (.cells r.vals.toArray 25)) fun e w' => e = .returned (.bool e3) ∧ (w.alloc (.cells r.vals.toArray 25)) = w') := rwithin_c r.D.wk _ _ 1 53 true e3 _ hVe.wk (by decide) (by decide) (by decide) he3
  obtain ⟨e4, he4⟩ : ∃ x, btwZ r.D.ho 0 23 false = x := ⟨_, rfl⟩
  have HB4 : Hid (Calls Tryz.prog 70 #[.slice (r.a 5) r.D.ho.length (r.c 5), .int .i64 0, .int .i64 23, .bool false] (w.alloc (.cells r.vals.toArray 25)) fun e w' => e = .returned (.bool e4) ∧ (w.alloc (.cells r.vals.toArray 25)) = w') := rwithin_c r.D.ho _ _ 0 23 false e4 _ hVe.ho (by decide) (by decide) (by decide) he4
  obtain ⟨e5, he5⟩ : ∃ x, btwZ r.D.mi 0 59 false = x := ⟨_, rfl⟩
  have HB5 : Hid (Calls Tryz.prog 70 #[.slice (r.a 6) r.D.mi.length (r.c 6), .int .i64 0, .int .i64 59, .bool false] (w.alloc (.cells r.vals.toArray 25)) fun e w' => e = .returned (.bool e5) ∧ (w.alloc (.cells r.vals.toArray 25)) = w') := rwithin_c r.D.mi _ _ 0 59 false e5 _ hVe.mi (by decide) (by decide) (by decide) he5
  obtain ⟨e6, he6⟩ : ∃ x, btwZ r.D.se 0 59 false = x := ⟨_, rfl⟩
  have HB6 : Hid (Calls Tryz.prog 70 #[.slice (r.a 7) r.D.se.length (r.c 7), .int .i64 0, .int .i64 59, .bool false] (w.alloc (.cells r.vals.toArray 25)) fun e w' => e = .returned (.bool e6) ∧ (w.alloc (.cells r.vals.toArray 25)) = w') := rwithin_c r.D.se _ _ 0 59 false e6 _ hVe.se (by decide) (by decide) (by decide) he6
  obtain ⟨e7, he7⟩ : ∃ x, btwZ r.D.po 1 366 true = x := ⟨_, rfl⟩
  have HB7 : Hid (Calls Tryz.prog 70 #[.slice (r.a 8) r.D.po.length (r.c 8), .int .i64 1, .int .i64 366, .bool true] (w.alloc (.cells r.vals.toArray 25)) fun e w' => e = .returned (.bool e7) ∧ (w.alloc (.cells r.vals.toArray 25)) = w') := rwithin_c r.D.po _ _ 1 366 true e7 _ hVe.po (by decide) (by decide) (by decide) he7
  have HLstE : Hid (lstV r.D = (e0 && e1 && e2 && e3 && e4 && e5 && e6 && e7)) := by rw [Hid]; unfold lstV; rw [he0, he1, he2, he3, he4, he5, he6, he7]
  have HDc : Hid (Calls Tryz.prog 71 #[.agg r.vals.toArray] (w.alloc (.cells r.vals.toArray 25)) fun e w' => e = .returned (.bool dd) ∧ Ext (w.alloc (.cells r.vals.toArray 25)) w') := rdys_c r dd _ hVe hdd
  have L4 : Hid (e4 = true → r.D.ho.length ≤ 60) := fun q => btw_len (he4.trans q)
  have L5 : Hid (e5 = true → r.D.mi.length ≤ 60) := fun q => btw_len (he5.trans q)
  have L6 : Hid (e6 = true → r.D.se.length ≤ 60) := fun q => btw_len (he6.trans q)
  have HVe := Lib.hid hVe
  have hBr := hB.2
  have tq1 : decide (r.D.fr < 1) = false := decide_eq_false q1
  have tq2 : decide (5 < r.D.fr) = false := decide_eq_false q2
  have tq3 : decide (r.D.iv < 1) = false := decide_eq_false q3
  have tq4 : decide (1000 < r.D.iv) = false := decide_eq_false q4
  have tq5 : decide (r.D.ct < 0) = false := decide_eq_false q5
  have tq6 : decide (1000 < r.D.ct) = false := decide_eq_false q6
  have tq8 : decide (r.D.ws < 1) = false := decide_eq_false q8
  have tq9 : decide (7 < r.D.ws) = false := decide_eq_false q9
  have HUn := Lib.hid hun
  have HLb : Hid (locZ r.D.un = true → ∀ w', Calls Tryz.prog 69 #[.int .i64 r.D.un] w' fun e w'' => e = .returned (.bool true) ∧ w' = w'') := fun h w' => rlocal_c _ _ _ h
  clear hE0 hB hV hVe hb hnb hdd he0 he1 he2 he3 he4 he5 he6 he7 q1 q2 q3 q4 q5 q6 q8 q9 hun
  go_enter Tryz.func30, Tryz.ntmps30
  go_upto_region 1 with fail
  generalize w.alloc (.cells r.vals.toArray 25) = W0 at *
  generalize w.heap.size = B at *
  go_cut [57] from 4 to 57 (fun x wx => x = .bool false ∧ W0 = wx)
  case first =>
    rcases HUn.out with h0 | ⟨h0, h1, h2⟩
    · have t1 : (r.D.un == 0) = true := by simpa using h0
      have t2 : (r.D.un != 0) = false := by simpa using h0
      clear h0
      go_wp2_with fail
      go_meet
      exact ⟨rfl, rfl⟩
    · have t1 : (r.D.un == 0) = false := by simpa using h0
      have t2 : (r.D.un != 0) = true := by simpa using h0
      have t3 : (r.D.ct == 0) = true := by simpa using h2
      have t4 : (r.D.ct != 0) = false := by simpa using h2
      have HLb := Lib.hid (HLb.out h1)
      clear h0 h1 h2
      go_wp2_with (go_at_call 69; (with_reducible refine (HLb.out _).mono ?_); rintro e w1 ⟨rfl, rfl⟩)
      go_meet
      exact ⟨rfl, rfl⟩
  case rest =>
  obtain ⟨rfl, rfl⟩ := hcut
  clear tq1 tq2 tq3 tq4 tq5 tq6 tq8 tq9 HLb HUn
  go_upto_region 3 with fail
  cases e0 with
  | false =>
    have hf := HLst.out (by rw [HLstE.out]; simp)
    subst hf
    go_wp2_with (first
      | (go_at_call 70; (with_reducible refine HB0.out.mono ?_); rintro e wx ⟨rfl, rfl⟩))
    go_ret
    exact ⟨rfl, HE0.out⟩
  | true =>
  cases e1 with
  | false =>
    have hf := HLst.out (by rw [HLstE.out]; simp)
    subst hf
    go_wp2_with (first
      | (go_at_call 70; (with_reducible refine HB0.out.mono ?_); rintro e wx ⟨rfl, rfl⟩)
      | (go_at_call 70; (with_reducible refine HB1.out.mono ?_); rintro e wx ⟨rfl, rfl⟩))
    go_ret
    exact ⟨rfl, HE0.out⟩
  | true =>
  cases e2 with
  | false =>
    have hf := HLst.out (by rw [HLstE.out]; simp)
    subst hf
    go_wp2_with (first
      | (go_at_call 70; (with_reducible refine HB0.out.mono ?_); rintro e wx ⟨rfl, rfl⟩)
      | (go_at_call 70; (with_reducible refine HB1.out.mono ?_); rintro e wx ⟨rfl, rfl⟩)
      | (go_at_call 70; (with_reducible refine HB2.out.mono ?_); rintro e wx ⟨rfl, rfl⟩))
    go_ret
    exact ⟨rfl, HE0.out⟩
  | true =>
  cases e3 with
  | false =>
    have hf := HLst.out (by rw [HLstE.out]; simp)
    subst hf
    go_wp2_with (first
      | (go_at_call 70; (with_reducible refine HB0.out.mono ?_); rintro e wx ⟨rfl, rfl⟩)
      | (go_at_call 70; (with_reducible refine HB1.out.mono ?_); rintro e wx ⟨rfl, rfl⟩)
      | (go_at_call 70; (with_reducible refine HB2.out.mono ?_); rintro e wx ⟨rfl, rfl⟩)
      | (go_at_call 70; (with_reducible refine HB3.out.mono ?_); rintro e wx ⟨rfl, rfl⟩))
    go_ret
    exact ⟨rfl, HE0.out⟩
  | true =>
  cases e4 with
  | false =>
    have hf := HLst.out (by rw [HLstE.out]; simp)
    subst hf
    go_wp2_with (first
      | (go_at_call 70; (with_reducible refine HB0.out.mono ?_); rintro e wx ⟨rfl, rfl⟩)
      | (go_at_call 70; (with_reducible refine HB1.out.mono ?_); rintro e wx ⟨rfl, rfl⟩)
      | (go_at_call 70; (with_reducible refine HB2.out.mono ?_); rintro e wx ⟨rfl, rfl⟩)
      | (go_at_call 70; (with_reducible refine HB3.out.mono ?_); rintro e wx ⟨rfl, rfl⟩)
      | (go_at_call 70; (with_reducible refine HB4.out.mono ?_); rintro e wx ⟨rfl, rfl⟩))
    go_ret
    exact ⟨rfl, HE0.out⟩
  | true =>
  cases e5 with
  | false =>
    have hf := HLst.out (by rw [HLstE.out]; simp)
    subst hf
    go_wp2_with (first
      | (go_at_call 70; (with_reducible refine HB0.out.mono ?_); rintro e wx ⟨rfl, rfl⟩)
      | (go_at_call 70; (with_reducible refine HB1.out.mono ?_); rintro e wx ⟨rfl, rfl⟩)
      | (go_at_call 70; (with_reducible refine HB2.out.mono ?_); rintro e wx ⟨rfl, rfl⟩)
      | (go_at_call 70; (with_reducible refine HB3.out.mono ?_); rintro e wx ⟨rfl, rfl⟩)
      | (go_at_call 70; (with_reducible refine HB4.out.mono ?_); rintro e wx ⟨rfl, rfl⟩)
      | (go_at_call 70; (with_reducible refine HB5.out.mono ?_); rintro e wx ⟨rfl, rfl⟩))
    go_ret
    exact ⟨rfl, HE0.out⟩
  | true =>
  cases e6 with
  | false =>
    have hf := HLst.out (by rw [HLstE.out]; simp)
    subst hf
    go_wp2_with (first
      | (go_at_call 70; (with_reducible refine HB0.out.mono ?_); rintro e wx ⟨rfl, rfl⟩)
      | (go_at_call 70; (with_reducible refine HB1.out.mono ?_); rintro e wx ⟨rfl, rfl⟩)
      | (go_at_call 70; (with_reducible refine HB2.out.mono ?_); rintro e wx ⟨rfl, rfl⟩)
      | (go_at_call 70; (with_reducible refine HB3.out.mono ?_); rintro e wx ⟨rfl, rfl⟩)
      | (go_at_call 70; (with_reducible refine HB4.out.mono ?_); rintro e wx ⟨rfl, rfl⟩)
      | (go_at_call 70; (with_reducible refine HB5.out.mono ?_); rintro e wx ⟨rfl, rfl⟩)
      | (go_at_call 70; (with_reducible refine HB6.out.mono ?_); rintro e wx ⟨rfl, rfl⟩))
    go_ret
    exact ⟨rfl, HE0.out⟩
  | true =>
  cases e7 with
  | false =>
    have hf := HLst.out (by rw [HLstE.out]; simp)
    subst hf
    go_wp2_with (first
      | (go_at_call 70; (with_reducible refine HB0.out.mono ?_); rintro e wx ⟨rfl, rfl⟩)
      | (go_at_call 70; (with_reducible refine HB1.out.mono ?_); rintro e wx ⟨rfl, rfl⟩)
      | (go_at_call 70; (with_reducible refine HB2.out.mono ?_); rintro e wx ⟨rfl, rfl⟩)
      | (go_at_call 70; (with_reducible refine HB3.out.mono ?_); rintro e wx ⟨rfl, rfl⟩)
      | (go_at_call 70; (with_reducible refine HB4.out.mono ?_); rintro e wx ⟨rfl, rfl⟩)
      | (go_at_call 70; (with_reducible refine HB5.out.mono ?_); rintro e wx ⟨rfl, rfl⟩)
      | (go_at_call 70; (with_reducible refine HB6.out.mono ?_); rintro e wx ⟨rfl, rfl⟩)
      | (go_at_call 70; (with_reducible refine HB7.out.mono ?_); rintro e wx ⟨rfl, rfl⟩))
    go_ret
    exact ⟨rfl, HE0.out⟩
  | true =>
  have HLT : Hid (lstV r.D = true) := by rw [Hid, HLstE.out]; rfl
  have l4 := L4.out rfl
  have l5 := L5.out rfl
  have l6 := L6.out rfl
  clear L4 L5 L6 HLst HLstE
  have hwl0 : r.D.wk.length = 0 ↔ r.D.wk = [] := List.length_eq_zero_iff
  obtain ⟨wl, hwl⟩ : ∃ wl, wl = r.D.wk.length := ⟨_, rfl⟩
  have HwL := Lib.hid hwl
  rw [← hwl] at hwl0
  have c7w : W0.cell? ⟨B, 7, none⟩ = some (.slice (r.a 3) wl (r.c 3)) := by rw [hwl]; exact c7
  have HWkB : Hid (Calls Tryz.prog 70 #[.slice (r.a 3) wl (r.c 3), .int .i64 1, .int .i64 53, .bool true] W0 fun e w' => e = .returned (.bool true) ∧ W0 = w') := by rw [hwl]; exact HB3.out
  have HDw : Hid (Calls Tryz.prog 71 #[.agg #[.int .i64 r.D.fr, .int .i64 r.D.iv, .int .i64 r.D.ct, .int .i64 r.D.un, .slice (r.a 0) r.D.mo.length (r.c 0), .slice (r.a 1) r.D.md.length (r.c 1), .slice (r.a 2) r.D.yd.length (r.c 2), .slice (r.a 3) wl (r.c 3), .slice (r.a 4) r.D.da.length (r.c 4), .slice (r.a 5) r.D.ho.length (r.c 5), .slice (r.a 6) r.D.mi.length (r.c 6), .slice (r.a 7) r.D.se.length (r.c 7), .slice (r.a 8) r.D.po.length (r.c 8), .int .i64 r.D.ws]] W0 fun e w' => e = .returned (.bool dd) ∧ Ext W0 w') := by rw [hwl]; exact HDc.out
  clear HB3 c7 hwl HDc
  have Hwl := Lib.hid hwl0
  clear hwl0
  cases dd with
  | false =>
    have hf := HDs.out Hdd.out
    subst hf
    go_cut [119] from 58 to 119 (fun x wx => x = .bool true ∧ Ext W0 wx)
    case first =>
      go_wp2_with (first
      | (go_at_call 70; (with_reducible refine HB0.out.mono ?_); rintro e wx ⟨rfl, rfl⟩)
      | (go_at_call 70; (with_reducible refine HB1.out.mono ?_); rintro e wx ⟨rfl, rfl⟩)
      | (go_at_call 70; (with_reducible refine HB2.out.mono ?_); rintro e wx ⟨rfl, rfl⟩)
      | (go_at_call 70; (with_reducible refine HWkB.out.mono ?_); rintro e wx ⟨rfl, rfl⟩)
      | (go_at_call 70; (with_reducible refine HB4.out.mono ?_); rintro e wx ⟨rfl, rfl⟩)
      | (go_at_call 70; (with_reducible refine HB5.out.mono ?_); rintro e wx ⟨rfl, rfl⟩)
      | (go_at_call 70; (with_reducible refine HB6.out.mono ?_); rintro e wx ⟨rfl, rfl⟩)
      | (go_at_call 70; (with_reducible refine HB7.out.mono ?_); rintro e wx ⟨rfl, rfl⟩)
      | (go_at_call 71; (with_reducible refine HDw.out.mono ?_); rintro e w1 ⟨rfl, hX1⟩; have k7 := (hX1.cells B 7 hBl).trans c7w; have k0 := (hX1.cells B 0 hBl).trans c0; have hBl1 := hX1.lt hBl))
      go_meet
      exact ⟨rfl, hX1⟩
    case rest =>
    obtain ⟨rfl, hX1⟩ := hcut
    go_wp2_with fail
    go_ret
    exact ⟨rfl, HE0.out.trans hX1⟩
  | true =>
  by_cases a3 : r.D.wk = [] ∨ r.D.fr = 1
  rotate_left
  · have hf := HWk.out a3
    subst hf
    have u1 : decide ((0 : Int) < (wl : Int)) = true := decide_eq_true (by have : wl ≠ 0 := fun h => a3 (.inl (Hwl.out.1 h)); omega)
    have u0 : decide (0 < wl) = true := decide_eq_true (by have : wl ≠ 0 := fun h => a3 (.inl (Hwl.out.1 h)); omega)
    have u3 : (r.D.fr == 1) = false := by simpa using fun h => a3 (.inr h)
    have u4 : (r.D.fr != 1) = true := by simpa using fun h => a3 (.inr h)
    clear a3
    go_wp2_with (first
      | (go_at_call 70; (with_reducible refine HB0.out.mono ?_); rintro e wx ⟨rfl, rfl⟩)
      | (go_at_call 70; (with_reducible refine HB1.out.mono ?_); rintro e wx ⟨rfl, rfl⟩)
      | (go_at_call 70; (with_reducible refine HB2.out.mono ?_); rintro e wx ⟨rfl, rfl⟩)
      | (go_at_call 70; (with_reducible refine HWkB.out.mono ?_); rintro e wx ⟨rfl, rfl⟩)
      | (go_at_call 70; (with_reducible refine HB4.out.mono ?_); rintro e wx ⟨rfl, rfl⟩)
      | (go_at_call 70; (with_reducible refine HB5.out.mono ?_); rintro e wx ⟨rfl, rfl⟩)
      | (go_at_call 70; (with_reducible refine HB6.out.mono ?_); rintro e wx ⟨rfl, rfl⟩)
      | (go_at_call 70; (with_reducible refine HB7.out.mono ?_); rintro e wx ⟨rfl, rfl⟩)
      | (go_at_call 71; (with_reducible refine HDw.out.mono ?_); rintro e w1 ⟨rfl, hX1⟩; have k7 := (hX1.cells B 7 hBl).trans c7w; have k0 := (hX1.cells B 0 hBl).trans c0; have hBl1 := hX1.lt hBl))
    go_ret
    exact ⟨rfl, HE0.out.trans hX1⟩
  have HFb := Lib.hid (HFin.out HLT.out a3 Hdd.out)
  obtain ⟨h, hh, hh60, hh5⟩ : ∃ h : Nat, h = (if r.D.fr = 5 then 24 else 1) ∧ h ≤ 60 ∧ (h = 24 ∧ r.D.fr = 5 ∨ h = 1 ∧ r.D.fr ≠ 5) := by
    by_cases e : r.D.fr = 5
    · exact ⟨24, by rw [if_pos e], by omega, .inl ⟨rfl, e⟩⟩
    · exact ⟨1, by rw [if_neg e], by omega, .inr ⟨rfl, e⟩⟩
  have HN0 : Hid (∀ w', Ext W0 w' → Calls Tryz.prog 72 #[.slice (r.a 5) r.D.ho.length (r.c 5), .int .i64 (h : Int)] w' fun e w'' => e = .returned (.int .i64 (cntZ r.D.ho h : Int)) ∧ Ext w' w'') := fun w' hE => rnumber29_c _ _ _ h w' (HVe.out.ho.ext hE) l4 hh60
  have HN1 : Hid (∀ w', Ext W0 w' → Calls Tryz.prog 72 #[.slice (r.a 6) r.D.mi.length (r.c 6), .int .i64 1] w' fun e w'' => e = .returned (.int .i64 (cntZ r.D.mi 1 : Int)) ∧ Ext w' w'') := fun w' hE => rnumber29_c _ _ _ 1 w' (HVe.out.mi.ext hE) l5 (by decide)
  have HN2 : Hid (∀ w', Ext W0 w' → Calls Tryz.prog 72 #[.slice (r.a 7) r.D.se.length (r.c 7), .int .i64 1] w' fun e w'' => e = .returned (.int .i64 (cntZ r.D.se 1 : Int)) ∧ Ext w' w'') := fun w' hE => rnumber29_c _ _ _ 1 w' (HVe.out.se.ext hE) l6 (by decide)
  have n0 := cnt_le29 l4 hh60
  have n1 := cnt_le29 l5 (show 1 ≤ 60 by decide)
  have n2 := cnt_le29 l6 (show 1 ≤ 60 by decide)
  have HT : Hid (tmsV r.D = cntZ r.D.ho h * cntZ r.D.mi 1 * cntZ r.D.se 1) := by rw [Hid, hh]; rfl
  generalize cntZ r.D.ho h = N0 at HN0 n0 HT
  generalize cntZ r.D.mi 1 = N1 at HN1 n1 HT
  generalize cntZ r.D.se 1 = N2 at HN2 n2 HT
  have hle : decide (((N0 * N1 * N2 : Nat) : Int) ≤ 1440) = b := by
    rw [HFb.out, HT.out]
    generalize N0 * N1 * N2 = P
    exact decide_eq_decide.2 (by omega)
  have p1 : N0 * N1 ≤ 3600 := Nat.le_trans (Nat.mul_le_mul n0 n1) (by decide)
  have p2 : N0 * N1 * N2 ≤ 216000 := Nat.le_trans (Nat.mul_le_mul p1 n2) (by decide)
  have hm1 : IntKind.i64.wrap ((N0 : Int) * (N1 : Int)) = ((N0 * N1 : Nat) : Int) := by
    rw [← Int.natCast_mul]; exact wrap64n _ (by omega)
  have hm2 : IntKind.i64.wrap (((N0 * N1 : Nat) : Int) * (N2 : Int)) = ((N0 * N1 * N2 : Nat) : Int) := by
    rw [← Int.natCast_mul]; exact wrap64n _ (by omega)
  have Hm1 := Lib.hid hm1
  have Hm2 := Lib.hid hm2
  have Hle := Lib.hid hle
  clear hm1 hm2 hle p1 p2 HT HFb hh HFin HLT HNT HWk HDs Hdd n0 n1 n2
  have HA3 : Hid (wl = 0 ∨ r.D.fr = 1) := a3.imp Hwl.out.2 id
  clear a3
  have HH5 := Lib.hid hh5
  clear hh5
  go_cut [119] from 58 to 119 (fun x wx => x = .bool false ∧ Ext W0 wx)
  case first =>
    by_cases hw0 : wl = 0
    · have u1 : decide ((0 : Int) < (wl : Int)) = false := decide_eq_false (by omega)
      have u0 : decide (0 < wl) = false := decide_eq_false (by omega)
      clear hw0
      go_wp2_with (first
      | (go_at_call 70; (with_reducible refine HB0.out.mono ?_); rintro e wx ⟨rfl, rfl⟩)
      | (go_at_call 70; (with_reducible refine HB1.out.mono ?_); rintro e wx ⟨rfl, rfl⟩)
      | (go_at_call 70; (with_reducible refine HB2.out.mono ?_); rintro e wx ⟨rfl, rfl⟩)
      | (go_at_call 70; (with_reducible refine HWkB.out.mono ?_); rintro e wx ⟨rfl, rfl⟩)
      | (go_at_call 70; (with_reducible refine HB4.out.mono ?_); rintro e wx ⟨rfl, rfl⟩)
      | (go_at_call 70; (with_reducible refine HB5.out.mono ?_); rintro e wx ⟨rfl, rfl⟩)
      | (go_at_call 70; (with_reducible refine HB6.out.mono ?_); rintro e wx ⟨rfl, rfl⟩)
      | (go_at_call 70; (with_reducible refine HB7.out.mono ?_); rintro e wx ⟨rfl, rfl⟩)
      | (go_at_call 71; (with_reducible refine HDw.out.mono ?_); rintro e w1 ⟨rfl, hX1⟩; have k7 := (hX1.cells B 7 hBl).trans c7w; have k0 := (hX1.cells B 0 hBl).trans c0; have hBl1 := hX1.lt hBl))
      go_meet
      exact ⟨rfl, hX1⟩
    · have u1 : decide ((0 : Int) < (wl : Int)) = true := decide_eq_true (by omega)
      have u0 : decide (0 < wl) = true := decide_eq_true (by omega)
      have hf1 : r.D.fr = 1 := by rcases HA3.out with h | h; exact absurd h hw0; exact h
      have u3 : (r.D.fr == 1) = true := by simpa using hf1
      have u4 : (r.D.fr != 1) = false := by simpa using hf1
      clear hw0 hf1
      go_wp2_with (first
      | (go_at_call 70; (with_reducible refine HB0.out.mono ?_); rintro e wx ⟨rfl, rfl⟩)
      | (go_at_call 70; (with_reducible refine HB1.out.mono ?_); rintro e wx ⟨rfl, rfl⟩)
      | (go_at_call 70; (with_reducible refine HB2.out.mono ?_); rintro e wx ⟨rfl, rfl⟩)
      | (go_at_call 70; (with_reducible refine HWkB.out.mono ?_); rintro e wx ⟨rfl, rfl⟩)
      | (go_at_call 70; (with_reducible refine HB4.out.mono ?_); rintro e wx ⟨rfl, rfl⟩)
      | (go_at_call 70; (with_reducible refine HB5.out.mono ?_); rintro e wx ⟨rfl, rfl⟩)
      | (go_at_call 70; (with_reducible refine HB6.out.mono ?_); rintro e wx ⟨rfl, rfl⟩)
      | (go_at_call 70; (with_reducible refine HB7.out.mono ?_); rintro e wx ⟨rfl, rfl⟩)
      | (go_at_call 71; (with_reducible refine HDw.out.mono ?_); rintro e w1 ⟨rfl, hX1⟩; have k7 := (hX1.cells B 7 hBl).trans c7w; have k0 := (hX1.cells B 0 hBl).trans c0; have hBl1 := hX1.lt hBl))
      go_meet
      exact ⟨rfl, hX1⟩
  case rest =>
  obtain ⟨rfl, hX1⟩ := hcut
  have hBx := HB.out.ext hX1
  obtain ⟨k0, -, -, -, -, -, -, -, -, d9, d10, d11, -, -⟩ := hBx.all
  have hBl := hBx.1
  go_upto_if 122 with fail
  go_cut [3] from 120 to 122 (fun x wx => x = .int .i64 (h : Int) ∧ wc = wx)
  case first =>
    rcases HH5.out with ⟨rfl, h5⟩ | ⟨rfl, h5⟩
    · have t5 : (r.D.fr == 5) = true := by simpa using h5
      clear h5
      go_wp2_with fail
      go_meet
      exact ⟨rfl, rfl⟩
    · have t5 : (r.D.fr == 5) = false := by simpa using h5
      clear h5
      go_wp2_with fail
      go_meet
      exact ⟨rfl, rfl⟩
  case rest =>
  obtain ⟨rfl, rfl⟩ := hcut
  go_upto_region 8 with fail
  have HN0 : Hid (∀ w', Ext wc w' → Calls Tryz.prog 72 #[.slice (r.a 5) r.D.ho.length (r.c 5), .int .i64 (h : Int)] w' fun e w'' => e = .returned (.int .i64 (N0 : Int)) ∧ Ext w' w'') := fun w' hE => HN0.out w' (hX1.trans hE)
  have HN1 : Hid (∀ w', Ext wc w' → Calls Tryz.prog 72 #[.slice (r.a 6) r.D.mi.length (r.c 6), .int .i64 1] w' fun e w'' => e = .returned (.int .i64 (N1 : Int)) ∧ Ext w' w'') := fun w' hE => HN1.out w' (hX1.trans hE)
  have HN2 : Hid (∀ w', Ext wc w' → Calls Tryz.prog 72 #[.slice (r.a 7) r.D.se.length (r.c 7), .int .i64 1] w' fun e w'' => e = .returned (.int .i64 (N2 : Int)) ∧ Ext w' w'') := fun w' hE => HN2.out w' (hX1.trans hE)
  have hm1 := Hm1.out
  have hm2 := Hm2.out
  have hle := Hle.out
  refine wp_region_grow [123, 124, 125, 126, 127, 128, 129, 130, 131, 132, 133, 134, 135] [fun x _ => x = .pointer (some ⟨B, 9, none⟩), fun x _ => x = .slice (r.a 5) r.D.ho.length (r.c 5), fun x _ => x = .int .i64 (h : Int), fun x _ => x = .int .i64 (N0 : Int), fun x _ => x = .pointer (some ⟨B, 10, none⟩), fun x _ => x = .slice (r.a 6) r.D.mi.length (r.c 6), fun x _ => x = .int .i64 (N1 : Int), fun x _ => x = .int .i64 ((N0 * N1 : Nat) : Int), fun x _ => x = .pointer (some ⟨B, 11, none⟩), fun x _ => x = .slice (r.a 7) r.D.se.length (r.c 7), fun x _ => x = .int .i64 (N2 : Int), fun x _ => x = .int .i64 ((N0 * N1 * N2 : Nat) : Int), fun x _ => x = .bool b] 1 (by kernel_rfl) (by kernel_rfl) (by kernel_rfl) (by kernel_rfl) ?_ ?_ ?_
  · intro Rl hRl
    simp only [List.mem_cons, List.not_mem_nil, or_false] at hRl
    rcases hRl with rfl | rfl | rfl | rfl | rfl | rfl | rfl | rfl | rfl | rfl | rfl | rfl | rfl
    all_goals first
      | exact fun _ _ _ h _ => h
  · refine ⟨?_, ?_, ?_, ?_, ?_, ?_, ?_, ?_, ?_, ?_, ?_, ?_, ?_, trivial⟩
    all_goals intro a w hE hF hD K hK
    · exact gs_val rfl (yr_field rfl ((hF 1 (fr_of rfl)).trans rfl) (by go_simp)) (hK _ _ rfl (Ext.refl _))
    · have u123 : a.eval (.tmp 123) = .pointer (some ⟨B, 9, none⟩) := hD 0 (by kernel_rfl)
      exact gs_val rfl (yr_load rfl u123 (ld_is _ _ _ ((hE.cells B 9 hBl).trans d9))) (hK _ _ rfl (Ext.refl _))
    · exact gs_val rfl (yr_move rfl ((hF 3 (fr_of rfl)).trans rfl)) (hK _ _ rfl (Ext.refl _))
    · have u124 : a.eval (.tmp 124) = .slice (r.a 5) r.D.ho.length (r.c 5) := hD 1 (by kernel_rfl)
      have u125 : a.eval (.tmp 125) = .int .i64 (h : Int) := hD 2 (by kernel_rfl)
      have q0 : a.eval (.tmp 124) = .slice (r.a 5) r.D.ho.length (r.c 5) := u124
      have q1 : a.eval (.tmp 125) = .int .i64 (h : Int) := u125
      exact gs_call rfl (yr_call rfl rfl (show (#[Operand.tmp 124, Operand.tmp 125] : Array Operand).map a.eval = #[.slice (r.a 5) r.D.ho.length (r.c 5), .int .i64 (h : Int)] by simp only [List.map_toArray, List.map_cons, List.map_nil, q0, q1] <;> rfl) (by kernel_rfl)) ((HN0.out w hE).mono fun e w' ⟨h1, h2⟩ => ⟨_, h1, rfl, h2⟩) hK
    · exact gs_val rfl (yr_field rfl ((hF 1 (fr_of rfl)).trans rfl) (by go_simp)) (hK _ _ rfl (Ext.refl _))
    · have u127 : a.eval (.tmp 127) = .pointer (some ⟨B, 10, none⟩) := hD 4 (by kernel_rfl)
      exact gs_val rfl (yr_load rfl u127 (ld_is _ _ _ ((hE.cells B 10 hBl).trans d10))) (hK _ _ rfl (Ext.refl _))
    · have u128 : a.eval (.tmp 128) = .slice (r.a 6) r.D.mi.length (r.c 6) := hD 5 (by kernel_rfl)
      have q0 : a.eval (.tmp 128) = .slice (r.a 6) r.D.mi.length (r.c 6) := u128
      exact gs_call rfl (yr_call rfl rfl (show (#[Operand.tmp 128, Operand.const (.int .i64 1)] : Array Operand).map a.eval = #[.slice (r.a 6) r.D.mi.length (r.c 6), .int .i64 1] by simp only [List.map_toArray, List.map_cons, List.map_nil, q0] <;> rfl) (by kernel_rfl)) ((HN1.out w hE).mono fun e w' ⟨h1, h2⟩ => ⟨_, h1, rfl, h2⟩) hK
    · have u126 : a.eval (.tmp 126) = .int .i64 (N0 : Int) := hD 3 (by kernel_rfl)
      have u129 : a.eval (.tmp 129) = .int .i64 (N1 : Int) := hD 6 (by kernel_rfl)
      exact gs_val rfl (yr_mul30 rfl u126 u129 hm1) (hK _ _ rfl (Ext.refl _))
    · exact gs_val rfl (yr_field rfl ((hF 1 (fr_of rfl)).trans rfl) (by go_simp)) (hK _ _ rfl (Ext.refl _))
    · have u131 : a.eval (.tmp 131) = .pointer (some ⟨B, 11, none⟩) := hD 8 (by kernel_rfl)
      exact gs_val rfl (yr_load rfl u131 (ld_is _ _ _ ((hE.cells B 11 hBl).trans d11))) (hK _ _ rfl (Ext.refl _))
    · have u132 : a.eval (.tmp 132) = .slice (r.a 7) r.D.se.length (r.c 7) := hD 9 (by kernel_rfl)
      have q0 : a.eval (.tmp 132) = .slice (r.a 7) r.D.se.length (r.c 7) := u132
      exact gs_call rfl (yr_call rfl rfl (show (#[Operand.tmp 132, Operand.const (.int .i64 1)] : Array Operand).map a.eval = #[.slice (r.a 7) r.D.se.length (r.c 7), .int .i64 1] by simp only [List.map_toArray, List.map_cons, List.map_nil, q0] <;> rfl) (by kernel_rfl)) ((HN2.out w hE).mono fun e w' ⟨h1, h2⟩ => ⟨_, h1, rfl, h2⟩) hK
    · have u130 : a.eval (.tmp 130) = .int .i64 ((N0 * N1 : Nat) : Int) := hD 7 (by kernel_rfl)
      have u133 : a.eval (.tmp 133) = .int .i64 (N2 : Int) := hD 10 (by kernel_rfl)
      exact gs_val rfl (yr_mul30 rfl u130 u133 hm2) (hK _ _ rfl (Ext.refl _))
    · have u134 : a.eval (.tmp 134) = .int .i64 ((N0 * N1 * N2 : Nat) : Int) := hD 11 (by kernel_rfl)
      exact gs_val rfl (yr_leq30 rfl u134 rfl hle) (hK _ _ rfl (Ext.refl _))
  intro vals wz hEz hRz
  obtain ⟨-, -, -, -, -, -, -, -, -, -, -, -, h12, -⟩ := hRz
  have e135 : vals 12 = .bool b := h12
  simp only [putF, Act.put, List.length_cons, List.length_nil, List.getD_cons_zero, List.getD_cons_succ, List.setIfInBounds_toArray, List.set_cons_zero, List.set_cons_succ, Nat.reduceAdd, e135]
  clear e135
  refine wpAny_one (i := 13) (o := ⟨some 2, .assign (.tmp 135), _, _, _, _⟩) (by kernel_rfl) rfl (by rfl) (by exact yr_assign rfl rfl) ?_
  refine wpAny_done (by kernel_rfl) ?_ _
  simp only [Act.put, List.setIfInBounds_toArray, List.set_cons_zero, List.set_cons_succ]
  go_wp2_with fail
  go_ret
  exact ⟨rfl, HE0.out.trans (hX1.trans hEz)⟩
theorem rvalid29_c (r : Rec) (b : Bool) (w : World) (hV : RcV r w) (hb : vldR r.D = b) :
    Calls Tryz.prog 30 #[.agg r.vals.toArray] w fun e w' => e = .returned (.bool b) ∧ Ext w w' := by
  cases hn : numbV r.D with
  | false =>
    rw [vld_no_num hn] at hb
    subst hb
    exact rvalid_no r false w hV hn
  | true =>
    exact rvalid_y r b w hV hn (numb_leaves hn).2.2.2.2.2.2.1 hb
end Go.Proofs.YtgndogpgfgliaaaGreatDoor
