/- Recurrence rules, plainly: the local time of a text, the text of a local time. No program in sight. -/
import Derived.Test.YtgndogpgfgliaaaGreatDoorQ02
import Derived.Test.YtgndogpgfgliaaaGreatDoorQ05
import Derived.Test.YtgndogpgfgliaaaGreatDoorQ07
import Derived.Test.YtgndogpgfgliaaaGreatDoorQ00
import Derived.Test.YtgndogpgfgliaaaGreatDoorShelf
import Derived.Lib.AtoiErrMem
namespace Go.Proofs.YtgndogpgfgliaaaGreatDoor
set_option linter.unusedVariables false
set_option linter.unnecessarySimpa false
set_option linter.unusedSimpArgs false
open Go.RowKit

/-- A step between two numbers. -/
theorem step_in (f : Nat → Int) (n : Int) : ∀ k : Nat, f 0 ≤ n → n < f k → ∃ j, j < k ∧ f j ≤ n ∧ n < f (j + 1)
  | 0, h1, h2 => by omega
  | k + 1, h1, h2 => by
    by_cases h : n < f k
    · obtain ⟨j, j1, j2⟩ := step_in f n k h1 h
      exact ⟨j, by omega, j2⟩
    · exact ⟨k, by omega, by omega, h2⟩
/-- Each day of the range has its date. -/
theorem date_ex (n : Int) (h1 : -719162 ≤ n) (h2 : n < 2932897) : ∃ y m d, IsDate n y m d := by
  obtain ⟨j, j1, j2, j3⟩ := step_in (fun k => yd ((k : Int) + 1)) n 9999 (by simp [yd]; omega) (by simp [yd]; omega)
  have hy : 1 ≤ (j : Int) + 1 := by omega
  have hy2 : (j : Int) + 1 ≤ 9999 := by omega
  have hs := yd_succ ((j : Int) + 1)
  have j3 : n < yd ((j : Int) + 1 + 1) := j3
  have hc := cum13 ((j : Int) + 1)
  obtain ⟨i, i1, i2, i3⟩ := step_in (fun k => yd ((j : Int) + 1) + cum ((j : Int) + 1) ((k : Int) + 1)) n 12 (by simp [cum]; omega) (by
    show n < yd ((j : Int) + 1) + cum ((j : Int) + 1) (((12 : Nat) : Int) + 1)
    rw [show ((12 : Nat) : Int) + 1 = 13 by rfl, hc]
    omega)
  exact ⟨_, _, _, IsDate.of (y := (j : Int) + 1) (m := (i : Int) + 1) hy hy2 (by omega) (by omega) i2 i3⟩
/-- The number in a piece of a text. -/
def fldZ (v : List UInt8) (a k : Nat) : Int := (val ((v.drop a).take k) : Int)
open Classical in
/-- The local time of a text. -/
noncomputable def untZ (v : List UInt8) : Option Int :=
  if formL v ∧ vldB (fldZ v 0 4) (fldZ v 5 2) (fldZ v 8 2) = true ∧ tmB (fldZ v 11 2) (fldZ v 14 2) (fldZ v 17 2) = true then some (inst (fldZ v 0 4) (fldZ v 5 2) (fldZ v 8 2) (fldZ v 11 2) (fldZ v 14 2) (fldZ v 17 2)) else none
theorem fld_mtx {y m d h mi s : Int} (hb : 0 ≤ y ∧ y ≤ 9999 ∧ 0 ≤ m ∧ m ≤ 99 ∧ 0 ≤ d ∧ d ≤ 99 ∧ 0 ≤ h ∧ h ≤ 99 ∧ 0 ≤ mi ∧ mi ≤ 99 ∧ 0 ≤ s ∧ s ≤ 99) :
    fldZ (mtx y m d h mi s) 0 4 = y ∧ fldZ (mtx y m d h mi s) 5 2 = m ∧ fldZ (mtx y m d h mi s) 8 2 = d ∧ fldZ (mtx y m d h mi s) 11 2 = h ∧ fldZ (mtx y m d h mi s) 14 2 = mi ∧ fldZ (mtx y m d h mi s) 17 2 = s := by
  have p2 : ∀ x : Int, 0 ≤ x → x ≤ 99 → (val (padN 2 x.toNat) : Int) = x := fun x h0 h1 => by rw [val_padN 2 x.toNat (by omega)]; omega
  refine ⟨?_, ?_, ?_, ?_, ?_, ?_⟩
  · have e := mtx_s0 y m d h mi s
    unfold fldZ
    rw [show (4 : Nat) = 4 - 0 by rfl, e, val_padN 4 y.toNat (by omega)]
    omega
  · have e := mtx_s1 y m d h mi s
    unfold fldZ
    rw [show ((mtx y m d h mi s).drop 5).take 2 = padN 2 m.toNat from e]
    exact p2 m (by omega) (by omega)
  · have e := mtx_s2 y m d h mi s
    unfold fldZ
    rw [show ((mtx y m d h mi s).drop 8).take 2 = padN 2 d.toNat from e]
    exact p2 d (by omega) (by omega)
  · have e := mtx_s3 y m d h mi s
    unfold fldZ
    rw [show ((mtx y m d h mi s).drop 11).take 2 = padN 2 h.toNat from e]
    exact p2 h (by omega) (by omega)
  · have e := mtx_s4 y m d h mi s
    unfold fldZ
    rw [show ((mtx y m d h mi s).drop 14).take 2 = padN 2 mi.toNat from e]
    exact p2 mi (by omega) (by omega)
  · have e := mtx_s5 y m d h mi s
    unfold fldZ
    rw [show ((mtx y m d h mi s).drop 17).take 2 = padN 2 s.toNat from e]
    exact p2 s (by omega) (by omega)
/-- A text of the form, in its fields. -/
theorem untZ_mtx {y m d h mi s : Int} (hb : 0 ≤ y ∧ y ≤ 9999 ∧ 0 ≤ m ∧ m ≤ 99 ∧ 0 ≤ d ∧ d ≤ 99 ∧ 0 ≤ h ∧ h ≤ 99 ∧ 0 ≤ mi ∧ mi ≤ 99 ∧ 0 ≤ s ∧ s ≤ 99) :
    untZ (mtx y m d h mi s) = if vldB y m d = true ∧ tmB h mi s = true then some (inst y m d h mi s) else none := by
  obtain ⟨e0, e1, e2, e3, e4, e5⟩ := fld_mtx hb
  unfold untZ
  rw [e0, e1, e2, e3, e4, e5]
  by_cases q : vldB y m d = true ∧ tmB h mi s = true
  · rw [if_pos ⟨mtx_form _ _ _ _ _ _, q.1, q.2⟩, if_pos q]
  · rw [if_neg (fun k => q ⟨k.2.1, k.2.2⟩), if_neg q]
theorem untZ_no {v : List UInt8} (h : ¬ formL v) : untZ v = none := by
  unfold untZ
  rw [if_neg (fun k => h k.1)]
theorem untZ_empty : untZ [] = none := untZ_no (fun h => by cases h.1)
open Classical in
/-- The text of a local time. -/
noncomputable def momT (t : Int) : List UInt8 :=
  if h : ∃ x : Int × Int × Int, IsDate (t / 86400) x.1 x.2.1 x.2.2 then mtx (Classical.choose h).1 (Classical.choose h).2.1 (Classical.choose h).2.2 (t % 86400 / 3600) (t % 86400 / 60 % 60) (t % 86400 % 60) else []
theorem momT_is {t y m d : Int} (h : IsDate (t / 86400) y m d) : momT t = mtx y m d (t % 86400 / 3600) (t % 86400 / 60 % 60) (t % 86400 % 60) := by
  have hx : ∃ x : Int × Int × Int, IsDate (t / 86400) x.1 x.2.1 x.2.2 := ⟨(y, m, d), h⟩
  unfold momT
  rw [dif_pos hx]
  obtain ⟨e1, e2, e3⟩ := (Classical.choose_spec hx).inj h
  rw [e1, e2, e3]
theorem loc_date {t : Int} (h : locZ t = true) : ∃ y m d, IsDate (t / 86400) y m d := by
  unfold locZ at h
  rw [decide_eq_true_eq] at h
  exact date_ex _ (by omega) (by omega)
theorem hms_99 (t : Int) : 0 ≤ t % 86400 / 3600 ∧ t % 86400 / 3600 ≤ 23 ∧ 0 ≤ t % 86400 / 60 % 60 ∧ t % 86400 / 60 % 60 ≤ 59 ∧ 0 ≤ t % 86400 % 60 ∧ t % 86400 % 60 ≤ 59 := by omega
theorem mom_ok : MomOk untZ momT := by
  refine ⟨fun t h => ?_, fun t h => ?_, fun t h => ?_⟩
  · obtain ⟨y, m, d, hd⟩ := loc_date h
    obtain ⟨a1, a2, a3, a4, a5, a6, a7⟩ := vld_parts hd.1
    obtain ⟨c1, c2, c3, c4, c5, c6⟩ := hms_99 t
    rw [momT_is hd, untZ_mtx (by omega), if_pos ⟨hd.1, tm_iff.2 ⟨c1, c2, c3, c4, c5, c6⟩⟩]
    have := hd.2
    unfold inst secs
    congr 1
    omega
  · obtain ⟨y, m, d, hd⟩ := loc_date h
    rw [momT_is hd]
    have hf := mtx_form y m d (t % 86400 / 3600) (t % 86400 / 60 % 60) (t % 86400 % 60)
    intro x hx e
    obtain ⟨i, hi, rfl⟩ := List.mem_iff_getElem.1 hx
    have := hf.2 i hi
    rw [e] at this
    unfold okAt at this
    split at this
    · exact absurd this (by decide)
    · split at this
      · exact absurd this (by decide)
      · split at this
        · exact absurd this (by decide)
        · exact absurd this (by decide)
  · obtain ⟨y, m, d, hd⟩ := loc_date h
    rw [momT_is hd]
    exact mtx_length _ _ _ _ _ _
end Go.Proofs.YtgndogpgfgliaaaGreatDoor
/- strconv.Atoi at a few digits. -/
namespace Go.Proofs.YtgndogpgfgliaaaGreatDoor
set_option linter.unusedVariables false
set_option linter.unnecessarySimpa false
set_option linter.unusedSimpArgs false
open Go.RowKit

theorem ext_bytes (w : World) (e : TypeId) (s : ByteArray) : Ext w (Lib.bytesWorld w e s) := by
  exact Lib.bytesWorld_below w e s
theorem atoi_c (f : List UInt8) (w : World) (h1 : 1 ≤ f.length) (h2 : f.length ≤ 9) (hd : ∀ c ∈ f, isDg c = true) :
    Calls Tryz.prog 132 #[.string ⟨f.toArray⟩] w fun e w' => e = .returned (.tuple #[.int .i64 (val f : Nat), .nilIface]) ∧ Ext w w' := by
  refine (Tryz.strconv_Atoi_ok ⟨f.toArray⟩ (by show f.toArray.size ≤ _; simp; omega) _ (atoi_val f h1 h2 hd) w).mono ?_
  rintro e w' ⟨rfl, rfl | ⟨t, rfl⟩⟩
  · exact ⟨rfl, Ext.refl _⟩
  · exact ⟨rfl, ext_bytes _ _ _⟩
end Go.Proofs.YtgndogpgfgliaaaGreatDoor
/- The walk of clock.Parse. -/
namespace Go.Proofs.YtgndogpgfgliaaaGreatDoor
set_option linter.unusedVariables false
set_option linter.unnecessarySimpa false
set_option linter.unusedSimpArgs false
open Go.RowKit

/-- The closure 'field'. -/
theorem field_c (B : Nat) (l : List UInt8) (a b : Nat) (w : World) (hc : w.cell? ⟨B, 0, none⟩ = some (.string ⟨l.toArray⟩)) (h1 : a + 1 ≤ b) (h2 : b ≤ a + 4) (h3 : b ≤ l.length) (h4 : l.length = 19)
    (hd : ∀ c ∈ (l.drop a).take (b - a), isDg c = true) :
    Calls Tryz.prog 131 #[.int .i64 (a : Int), .int .i64 (b : Int), .pointer (some ⟨B, 0, none⟩)] w fun e w' => e = .returned (.int .i64 (val ((l.drop a).take (b - a)) : Nat)) ∧ Ext w w' := by
  have hm := bmid l a b
  have hlen : ((l.drop a).take (b - a)).length = b - a := by rw [List.length_take, List.length_drop]; omega
  have Hat := Lib.hid hd
  generalize (l.drop a).take (b - a) = f at hm hlen Hat ⊢
  have Hlen := Lib.hid hlen
  clear hd hlen
  go_enter Tryz.func131, Tryz.ntmps131
  go_wp2_with (go_at_call 132; (with_reducible refine (atoi_c f _ (by have := Hlen.out; omega) (by have := Hlen.out; omega) Hat.out).mono ?_); rintro e w1 ⟨rfl, hE⟩)
  go_ret
  exact ⟨rfl, hE⟩
theorem fm_get (k : Nat) (h : k < 19) : (⟨#[48, 48, 48, 48, 45, 48, 48, 45, 48, 48, 84, 48, 48, 58, 48, 48, 58, 48, 48]⟩ : ByteArray)[k]'(by show k < 19; omega) = fmC k := by
  rcases (show k = 0 ∨ k = 1 ∨ k = 2 ∨ k = 3 ∨ k = 4 ∨ k = 5 ∨ k = 6 ∨ k = 7 ∨ k = 8 ∨ k = 9 ∨ k = 10 ∨ k = 11 ∨ k = 12 ∨ k = 13 ∨ k = 14 ∨ k = 15 ∨ k = 16 ∨ k = 17 ∨ k = 18 by omega) with rfl | rfl | rfl | rfl | rfl | rfl | rfl | rfl | rfl | rfl | rfl | rfl | rfl | rfl | rfl | rfl | rfl | rfl | rfl <;> rfl
theorem field_x (B : Nat) (l f : List UInt8) (a b : Nat) (v : Int) (w : World) (hc : w.cell? ⟨B, 0, none⟩ = some (.string ⟨l.toArray⟩)) (hf : (l.drop a).take (b - a) = f) (h1 : a + 1 ≤ b) (h2 : b ≤ a + 4) (h3 : b ≤ l.length) (h4 : l.length = 19)
    (hd : ∀ c ∈ f, isDg c = true) (hv : (val f : Int) = v) (x y : Int) (hx : x = a) (hy : y = b) :
    Calls Tryz.prog 131 #[.int .i64 x, .int .i64 y, .pointer (some ⟨B, 0, none⟩)] w fun e w' => e = .returned (.int .i64 v) ∧ Ext w w' := by
  subst hx hy hv hf
  exact field_c B l a b w hc h1 h2 h3 h4 hd
theorem set6 (w : World) (B : Nat) {v0 v1 v2 v3 v4 v5 x0 x1 x2 x3 x4 x5 : Value} (r0 : w.cell? ⟨B, 0, none⟩ = some x0) (r1 : w.cell? ⟨B, 1, none⟩ = some x1) (r2 : w.cell? ⟨B, 2, none⟩ = some x2) (r3 : w.cell? ⟨B, 3, none⟩ = some x3) (r4 : w.cell? ⟨B, 4, none⟩ = some x4) (r5 : w.cell? ⟨B, 5, none⟩ = some x5) : (w.setCell ⟨B, 0, none⟩ v0).cell? ⟨B, 0, none⟩ = some v0 ∧ ((w.setCell ⟨B, 0, none⟩ v0).setCell ⟨B, 1, none⟩ v1).cell? ⟨B, 1, none⟩ = some v1 ∧ (((w.setCell ⟨B, 0, none⟩ v0).setCell ⟨B, 1, none⟩ v1).setCell ⟨B, 2, none⟩ v2).cell? ⟨B, 2, none⟩ = some v2 ∧ ((((w.setCell ⟨B, 0, none⟩ v0).setCell ⟨B, 1, none⟩ v1).setCell ⟨B, 2, none⟩ v2).setCell ⟨B, 3, none⟩ v3).cell? ⟨B, 3, none⟩ = some v3 ∧ (((((w.setCell ⟨B, 0, none⟩ v0).setCell ⟨B, 1, none⟩ v1).setCell ⟨B, 2, none⟩ v2).setCell ⟨B, 3, none⟩ v3).setCell ⟨B, 4, none⟩ v4).cell? ⟨B, 4, none⟩ = some v4 ∧ ((((((w.setCell ⟨B, 0, none⟩ v0).setCell ⟨B, 1, none⟩ v1).setCell ⟨B, 2, none⟩ v2).setCell ⟨B, 3, none⟩ v3).setCell ⟨B, 4, none⟩ v4).setCell ⟨B, 5, none⟩ v5).cell? ⟨B, 5, none⟩ = some v5 :=
  ⟨World.cell?_setCell_same _ _ _ r0, World.cell?_setCell_same _ _ _ ((World.cell?_setCell_other _ _ _ _ (by simp)).trans r1), World.cell?_setCell_same _ _ _ ((World.cell?_setCell_other _ _ _ _ (by simp)).trans ((World.cell?_setCell_other _ _ _ _ (by simp)).trans r2)), World.cell?_setCell_same _ _ _ ((World.cell?_setCell_other _ _ _ _ (by simp)).trans ((World.cell?_setCell_other _ _ _ _ (by simp)).trans ((World.cell?_setCell_other _ _ _ _ (by simp)).trans r3))), World.cell?_setCell_same _ _ _ ((World.cell?_setCell_other _ _ _ _ (by simp)).trans ((World.cell?_setCell_other _ _ _ _ (by simp)).trans ((World.cell?_setCell_other _ _ _ _ (by simp)).trans ((World.cell?_setCell_other _ _ _ _ (by simp)).trans r4)))), World.cell?_setCell_same _ _ _ ((World.cell?_setCell_other _ _ _ _ (by simp)).trans ((World.cell?_setCell_other _ _ _ _ (by simp)).trans ((World.cell?_setCell_other _ _ _ _ (by simp)).trans ((World.cell?_setCell_other _ _ _ _ (by simp)).trans ((World.cell?_setCell_other _ _ _ _ (by simp)).trans r5)))))⟩
set_option maxRecDepth 100000 in
set_option maxHeartbeats 2000000 in
theorem parse_v (y m d hh mi s : Int) (w : World) (y0 : 0 ≤ y) (y1 : y ≤ 9999) (m0 : 0 ≤ m) (m1 : m ≤ 99) (d0 : 0 ≤ d) (d1 : d ≤ 99) (h0 : 0 ≤ hh) (h1 : hh ≤ 99) (i0 : 0 ≤ mi) (i1 : mi ≤ 99) (s0 : 0 ≤ s) (s1 : s ≤ 99) (hv : vldB y m d = true) (ht : tmB hh mi s = true) :
    Calls Tryz.prog 84 #[.string ⟨(mtx y m d hh mi s).toArray⟩] w fun e w' => e = .returned (.tuple #[.agg #[.int .i64 y, .int .i64 m, .int .i64 d, .int .i64 hh, .int .i64 mi, .int .i64 s], .int .i64 0]) ∧ Ext w w' := by
  obtain ⟨hl, ho⟩ := mtx_form y m d hh mi s
  have Ho := Lib.hid ho
  have P0 := Lib.hid (mtx_s0 y m d hh mi s)
  have P1 := Lib.hid (mtx_s1 y m d hh mi s)
  have P2 := Lib.hid (mtx_s2 y m d hh mi s)
  have P3 := Lib.hid (mtx_s3 y m d hh mi s)
  have P4 := Lib.hid (mtx_s4 y m d hh mi s)
  have P5 := Lib.hid (mtx_s5 y m d hh mi s)
  have V0 : Hid ((val (padN 4 y.toNat) : Int) = y) := by rw [Hid, val_padN 4 y.toNat (by omega)]; omega
  have V1 : Hid ((val (padN 2 m.toNat) : Int) = m) := by rw [Hid, val_padN 2 m.toNat (by omega)]; omega
  have V2 : Hid ((val (padN 2 d.toNat) : Int) = d) := by rw [Hid, val_padN 2 d.toNat (by omega)]; omega
  have V3 : Hid ((val (padN 2 hh.toNat) : Int) = hh) := by rw [Hid, val_padN 2 hh.toNat (by omega)]; omega
  have V4 : Hid ((val (padN 2 mi.toNat) : Int) = mi) := by rw [Hid, val_padN 2 mi.toNat (by omega)]; omega
  have V5 : Hid ((val (padN 2 s.toNat) : Int) = s) := by rw [Hid, val_padN 2 s.toNat (by omega)]; omega
  have Hl := Lib.hid hl
  generalize mtx y m d hh mi s = l at hl Ho P0 P1 P2 P3 P4 P5 Hl ⊢
  clear ho
  go_enter Tryz.func84, Tryz.ntmps84
  go_wp2_with fail
  go_loopw [14] (fun t wr => ∃ k : Nat, k ≤ 19 ∧ t = .int .i64 (k : Int) ∧ ∃ n, wr = ((w.alloc (.cells #[.string ⟨l.toArray⟩] 9)).alloc (.cells #[.int .i64 0, .int .i64 0, .int .i64 0, .int .i64 0, .int .i64 0, .int .i64 0] 98)).drewN n) (fun t _ => 19 - (intOf t).toNat)
  case atStart => exact ⟨0, by omega, rfl, 0, rfl⟩
  case round =>
    obtain ⟨k, hk, rfl, n, rfl⟩ := hrel
    by_cases hlt : k < 19
    · obtain ⟨c, hcl⟩ : ∃ c, c = l[k]'(by omega) := ⟨_, rfl⟩
      have hok := Ho.out k (by omega) 
      rw [← hcl] at hok
      have b0 := bget l k (by omega) c hcl
      have hfk := fm_get k hlt
      by_cases hfm : fmC k = 48
      · rw [okAt_dg hfm, isDg_iff] at hok
        have c1 : 48 ≤ (c.toNat : Int) := by omega
        have c2 : (c.toNat : Int) ≤ 57 := by omega
        have f1 : (((fmC k).toNat : Int) == 48) = true := by rw [hfm]; rfl
        have f2 : (((fmC k).toNat : Int) != 48) = false := by rw [hfm]; rfl
        clear hok hcl hfm
        go_wp2
        go_quiet (fail)
        go_wp2
        go_roundw
        case rel => exact ⟨k + 1, by omega, by go_num, _, rfl⟩
        case measure => simp [intOf]; omega
      · rw [okAt_sep hfm, beq_iff_eq] at hok
        have f1 : (((fmC k).toNat : Int) == 48) = false := by
          rw [beq_eq_false_iff_ne]; intro e; exact hfm (UInt8.toNat_inj.1 (by show (fmC k).toNat = 48; omega))
        have f2 : (((fmC k).toNat : Int) != 48) = true := by
          rw [bne_iff_ne]; intro e; exact hfm (UInt8.toNat_inj.1 (by show (fmC k).toNat = 48; omega))
        have f3 : ((c.toNat : Int) != ((fmC k).toNat : Int)) = false := by rw [hok]; simp
        clear hok hcl hfm
        by_cases c1 : 48 ≤ (c.toNat : Int)
        · by_cases c2 : (c.toNat : Int) ≤ 57
          · go_wp2
            go_quiet (fail)
            go_wp2
            go_roundw
            case rel => exact ⟨k + 1, by omega, by go_num, _, rfl⟩
            case measure => simp [intOf]; omega
          · go_wp2
            go_quiet (fail)
            go_wp2
            go_roundw
            case rel => exact ⟨k + 1, by omega, by go_num, _, rfl⟩
            case measure => simp [intOf]; omega
        · go_wp2
          go_quiet (fail)
          go_wp2
          go_roundw
          case rel => exact ⟨k + 1, by omega, by go_num, _, rfl⟩
          case measure => simp [intOf]; omega
    · obtain ⟨W0, hW0⟩ : ∃ W0, W0 = ((w.alloc (.cells #[.string ⟨l.toArray⟩] 9)).alloc (.cells #[.int .i64 0, .int .i64 0, .int .i64 0, .int .i64 0, .int .i64 0, .int .i64 0] 98)).drewN n := ⟨_, rfl⟩
      have hc : Hid (W0.cell? ⟨w.heap.size, 0, none⟩ = some (.string ⟨l.toArray⟩)) := by rw [Hid, hW0, World.cell?_drewN, World.cell?_alloc_lt _ _ _ (by simp)]; simp
      have hR := Lib.hid (show ∀ o, W0.cell? ⟨w.heap.size + 1, o, none⟩ = (#[.int .i64 0, .int .i64 0, .int .i64 0, .int .i64 0, .int .i64 0, .int .i64 0] : Array Value)[o]? by
        intro o; rw [hW0, World.cell?_drewN]; simp)
      have hF := Lib.hid (show ∀ o, W0.frozen? ⟨w.heap.size + 1, o, none⟩ = false by intro o; rw [hW0]; simp)
      have hz : w.heap.size + 1 < W0.heap.size := by rw [hW0]; simp
      have hE : Ext w W0 := by rw [hW0]; exact (((Ext.refl w).alloc _).alloc _).drewN _
      rw [← hW0]
      have hX : Hid (Ext W0 W0) := Ext.refl _
      have hz0 := Lib.hid hz
      clear hW0
      generalize hB : w.heap.size = B at hc hR hF hz ⊢
      have HB := Lib.hid hB
      clear hB
      rw [HB.out] at hz0
      go_wp2_with (first
        | (go_at_call 131; (with_reducible refine (field_x B l _ 0 4 _ _ hc.out P0.out (by omega) (by omega) (by have := Hl.out; omega) Hl.out (padN_dg _ _) V0.out 0 4 (by simp) (by simp)).mono ?_); rintro e w1 ⟨rfl, hE1⟩; replace hc := Lib.hid ((hE1.cells _ _ (by omega)).trans hc.out); replace hX := Lib.hid (hX.out.trans hE1); replace hz := hE1.lt hz)
        | (go_at_call 131; (with_reducible refine (field_x B l _ 5 7 _ _ hc.out P1.out (by omega) (by omega) (by have := Hl.out; omega) Hl.out (padN_dg _ _) V1.out 5 7 (by simp) (by simp)).mono ?_); rintro e w1 ⟨rfl, hE1⟩; replace hc := Lib.hid ((hE1.cells _ _ (by omega)).trans hc.out); replace hX := Lib.hid (hX.out.trans hE1); replace hz := hE1.lt hz)
        | (go_at_call 131; (with_reducible refine (field_x B l _ 8 10 _ _ hc.out P2.out (by omega) (by omega) (by have := Hl.out; omega) Hl.out (padN_dg _ _) V2.out 8 10 (by simp) (by simp)).mono ?_); rintro e w1 ⟨rfl, hE1⟩; replace hc := Lib.hid ((hE1.cells _ _ (by omega)).trans hc.out); replace hX := Lib.hid (hX.out.trans hE1); replace hz := hE1.lt hz)
        | (go_at_call 131; (with_reducible refine (field_x B l _ 11 13 _ _ hc.out P3.out (by omega) (by omega) (by have := Hl.out; omega) Hl.out (padN_dg _ _) V3.out 11 13 (by simp) (by simp)).mono ?_); rintro e w1 ⟨rfl, hE1⟩; replace hc := Lib.hid ((hE1.cells _ _ (by omega)).trans hc.out); replace hX := Lib.hid (hX.out.trans hE1); replace hz := hE1.lt hz)
        | (go_at_call 131; (with_reducible refine (field_x B l _ 14 16 _ _ hc.out P4.out (by omega) (by omega) (by have := Hl.out; omega) Hl.out (padN_dg _ _) V4.out 14 16 (by simp) (by simp)).mono ?_); rintro e w1 ⟨rfl, hE1⟩; replace hc := Lib.hid ((hE1.cells _ _ (by omega)).trans hc.out); replace hX := Lib.hid (hX.out.trans hE1); replace hz := hE1.lt hz)
        | (go_at_call 131; (with_reducible refine (field_x B l _ 17 19 _ _ hc.out P5.out (by omega) (by omega) (by have := Hl.out; omega) Hl.out (padN_dg _ _) V5.out 17 19 (by simp) (by simp)).mono ?_); rintro e w1 ⟨rfl, hE1⟩; replace hc := Lib.hid ((hE1.cells _ _ (by omega)).trans hc.out); replace hX := Lib.hid (hX.out.trans hE1); replace hz := hE1.lt hz)
        | (go_at_call 85; (with_reducible refine (of_yes y m d hh mi s _ hv ht).mono ?_); go_loud (rintro e w9 ⟨rfl, hE9⟩; have k9 := hE9.cells; have z9 : w1.heap.size < w9.heap.size := (by have := hE9.size; simp at this; omega); have r0 : w9.cell? ⟨B + 1, 0, none⟩ = some (.int .i64 0) := ((hE9.cells _ _ (by simp; omega)).trans ((World.cell?_alloc_lt _ _ _ hz).trans ((hX.out.cells _ _ hz0.out).trans (hR.out 0)))); have q0 : w9.frozen? ⟨B + 1, 0, none⟩ = false := ((hE9.frozens _ _ (by simp; omega)).trans ((World.frozen?_alloc_past _ _ _ hz).trans ((hX.out.frozens _ _ hz0.out).trans (hF.out 0)))); have r1 : w9.cell? ⟨B + 1, 1, none⟩ = some (.int .i64 0) := ((hE9.cells _ _ (by simp; omega)).trans ((World.cell?_alloc_lt _ _ _ hz).trans ((hX.out.cells _ _ hz0.out).trans (hR.out 1)))); have q1 : w9.frozen? ⟨B + 1, 1, none⟩ = false := ((hE9.frozens _ _ (by simp; omega)).trans ((World.frozen?_alloc_past _ _ _ hz).trans ((hX.out.frozens _ _ hz0.out).trans (hF.out 1)))); have r2 : w9.cell? ⟨B + 1, 2, none⟩ = some (.int .i64 0) := ((hE9.cells _ _ (by simp; omega)).trans ((World.cell?_alloc_lt _ _ _ hz).trans ((hX.out.cells _ _ hz0.out).trans (hR.out 2)))); have q2 : w9.frozen? ⟨B + 1, 2, none⟩ = false := ((hE9.frozens _ _ (by simp; omega)).trans ((World.frozen?_alloc_past _ _ _ hz).trans ((hX.out.frozens _ _ hz0.out).trans (hF.out 2)))); have r3 : w9.cell? ⟨B + 1, 3, none⟩ = some (.int .i64 0) := ((hE9.cells _ _ (by simp; omega)).trans ((World.cell?_alloc_lt _ _ _ hz).trans ((hX.out.cells _ _ hz0.out).trans (hR.out 3)))); have q3 : w9.frozen? ⟨B + 1, 3, none⟩ = false := ((hE9.frozens _ _ (by simp; omega)).trans ((World.frozen?_alloc_past _ _ _ hz).trans ((hX.out.frozens _ _ hz0.out).trans (hF.out 3)))); have r4 : w9.cell? ⟨B + 1, 4, none⟩ = some (.int .i64 0) := ((hE9.cells _ _ (by simp; omega)).trans ((World.cell?_alloc_lt _ _ _ hz).trans ((hX.out.cells _ _ hz0.out).trans (hR.out 4)))); have q4 : w9.frozen? ⟨B + 1, 4, none⟩ = false := ((hE9.frozens _ _ (by simp; omega)).trans ((World.frozen?_alloc_past _ _ _ hz).trans ((hX.out.frozens _ _ hz0.out).trans (hF.out 4)))); have r5 : w9.cell? ⟨B + 1, 5, none⟩ = some (.int .i64 0) := ((hE9.cells _ _ (by simp; omega)).trans ((World.cell?_alloc_lt _ _ _ hz).trans ((hX.out.cells _ _ hz0.out).trans (hR.out 5)))); have q5 : w9.frozen? ⟨B + 1, 5, none⟩ = false := ((hE9.frozens _ _ (by simp; omega)).trans ((World.frozen?_alloc_past _ _ _ hz).trans ((hX.out.frozens _ _ hz0.out).trans (hF.out 5)))))))
      refine bodyPost_ret (v := .tuple #[.agg #[.int .i64 y, .int .i64 m, .int .i64 d, .int .i64 hh, .int .i64 mi, .int .i64 s], .int .i64 0]) ?_ rfl ⟨rfl, ?_⟩
      · obtain ⟨s0, s1, s2, s3, s4, s5⟩ := set6 w9 (B + 1) (v0 := .int .i64 y) (v1 := .int .i64 m) (v2 := .int .i64 d) (v3 := .int .i64 hh) (v4 := .int .i64 mi) (v5 := .int .i64 s) r0 r1 r2 r3 r4 r5
        simp [results, Tryz.results84, go_sem, s0, s1, s2, s3, s4, s5]
      · have hb := HB.out
        iterate 6 refine Ext.setCell ?_ (by simp; omega) _
        exact hE.trans (hX.out.trans (((Ext.refl _).alloc _).trans hE9))
set_option maxRecDepth 100000 in
set_option maxHeartbeats 2000000 in
theorem parse_i (y m d hh mi s : Int) (w : World) (y0 : 0 ≤ y) (y1 : y ≤ 9999) (m0 : 0 ≤ m) (m1 : m ≤ 99) (d0 : 0 ≤ d) (d1 : d ≤ 99) (h0 : 0 ≤ hh) (h1 : hh ≤ 99) (i0 : 0 ≤ mi) (i1 : mi ≤ 99) (s0 : 0 ≤ s) (s1 : s ≤ 99) (hv : ¬ (vldB y m d = true ∧ tmB hh mi s = true)) :
    Calls Tryz.prog 84 #[.string ⟨(mtx y m d hh mi s).toArray⟩] w fun e w' => e = .returned (.tuple #[.agg #[.int .i64 0, .int .i64 0, .int .i64 0, .int .i64 0, .int .i64 0, .int .i64 0], .int .i64 1]) ∧ Ext w w' := by
  obtain ⟨hl, ho⟩ := mtx_form y m d hh mi s
  have Ho := Lib.hid ho
  have P0 := Lib.hid (mtx_s0 y m d hh mi s)
  have P1 := Lib.hid (mtx_s1 y m d hh mi s)
  have P2 := Lib.hid (mtx_s2 y m d hh mi s)
  have P3 := Lib.hid (mtx_s3 y m d hh mi s)
  have P4 := Lib.hid (mtx_s4 y m d hh mi s)
  have P5 := Lib.hid (mtx_s5 y m d hh mi s)
  have V0 : Hid ((val (padN 4 y.toNat) : Int) = y) := by rw [Hid, val_padN 4 y.toNat (by omega)]; omega
  have V1 : Hid ((val (padN 2 m.toNat) : Int) = m) := by rw [Hid, val_padN 2 m.toNat (by omega)]; omega
  have V2 : Hid ((val (padN 2 d.toNat) : Int) = d) := by rw [Hid, val_padN 2 d.toNat (by omega)]; omega
  have V3 : Hid ((val (padN 2 hh.toNat) : Int) = hh) := by rw [Hid, val_padN 2 hh.toNat (by omega)]; omega
  have V4 : Hid ((val (padN 2 mi.toNat) : Int) = mi) := by rw [Hid, val_padN 2 mi.toNat (by omega)]; omega
  have V5 : Hid ((val (padN 2 s.toNat) : Int) = s) := by rw [Hid, val_padN 2 s.toNat (by omega)]; omega
  have Hl := Lib.hid hl
  generalize mtx y m d hh mi s = l at hl Ho P0 P1 P2 P3 P4 P5 Hl ⊢
  clear ho
  go_enter Tryz.func84, Tryz.ntmps84
  go_wp2_with fail
  go_loopw [14] (fun t wr => ∃ k : Nat, k ≤ 19 ∧ t = .int .i64 (k : Int) ∧ ∃ n, wr = ((w.alloc (.cells #[.string ⟨l.toArray⟩] 9)).alloc (.cells #[.int .i64 0, .int .i64 0, .int .i64 0, .int .i64 0, .int .i64 0, .int .i64 0] 98)).drewN n) (fun t _ => 19 - (intOf t).toNat)
  case atStart => exact ⟨0, by omega, rfl, 0, rfl⟩
  case round =>
    obtain ⟨k, hk, rfl, n, rfl⟩ := hrel
    by_cases hlt : k < 19
    · obtain ⟨c, hcl⟩ : ∃ c, c = l[k]'(by omega) := ⟨_, rfl⟩
      have hok := Ho.out k (by omega) 
      rw [← hcl] at hok
      have b0 := bget l k (by omega) c hcl
      have hfk := fm_get k hlt
      by_cases hfm : fmC k = 48
      · rw [okAt_dg hfm, isDg_iff] at hok
        have c1 : 48 ≤ (c.toNat : Int) := by omega
        have c2 : (c.toNat : Int) ≤ 57 := by omega
        have f1 : (((fmC k).toNat : Int) == 48) = true := by rw [hfm]; rfl
        have f2 : (((fmC k).toNat : Int) != 48) = false := by rw [hfm]; rfl
        clear hok hcl hfm
        go_wp2
        go_quiet (fail)
        go_wp2
        go_roundw
        case rel => exact ⟨k + 1, by omega, by go_num, _, rfl⟩
        case measure => simp [intOf]; omega
      · rw [okAt_sep hfm, beq_iff_eq] at hok
        have f1 : (((fmC k).toNat : Int) == 48) = false := by
          rw [beq_eq_false_iff_ne]; intro e; exact hfm (UInt8.toNat_inj.1 (by show (fmC k).toNat = 48; omega))
        have f2 : (((fmC k).toNat : Int) != 48) = true := by
          rw [bne_iff_ne]; intro e; exact hfm (UInt8.toNat_inj.1 (by show (fmC k).toNat = 48; omega))
        have f3 : ((c.toNat : Int) != ((fmC k).toNat : Int)) = false := by rw [hok]; simp
        clear hok hcl hfm
        by_cases c1 : 48 ≤ (c.toNat : Int)
        · by_cases c2 : (c.toNat : Int) ≤ 57
          · go_wp2
            go_quiet (fail)
            go_wp2
            go_roundw
            case rel => exact ⟨k + 1, by omega, by go_num, _, rfl⟩
            case measure => simp [intOf]; omega
          · go_wp2
            go_quiet (fail)
            go_wp2
            go_roundw
            case rel => exact ⟨k + 1, by omega, by go_num, _, rfl⟩
            case measure => simp [intOf]; omega
        · go_wp2
          go_quiet (fail)
          go_wp2
          go_roundw
          case rel => exact ⟨k + 1, by omega, by go_num, _, rfl⟩
          case measure => simp [intOf]; omega
    · obtain ⟨W0, hW0⟩ : ∃ W0, W0 = ((w.alloc (.cells #[.string ⟨l.toArray⟩] 9)).alloc (.cells #[.int .i64 0, .int .i64 0, .int .i64 0, .int .i64 0, .int .i64 0, .int .i64 0] 98)).drewN n := ⟨_, rfl⟩
      have hc : Hid (W0.cell? ⟨w.heap.size, 0, none⟩ = some (.string ⟨l.toArray⟩)) := by rw [Hid, hW0, World.cell?_drewN, World.cell?_alloc_lt _ _ _ (by simp)]; simp
      have hR := Lib.hid (show ∀ o, W0.cell? ⟨w.heap.size + 1, o, none⟩ = (#[.int .i64 0, .int .i64 0, .int .i64 0, .int .i64 0, .int .i64 0, .int .i64 0] : Array Value)[o]? by
        intro o; rw [hW0, World.cell?_drewN]; simp)
      have hF := Lib.hid (show ∀ o, W0.frozen? ⟨w.heap.size + 1, o, none⟩ = false by intro o; rw [hW0]; simp)
      have hz : w.heap.size + 1 < W0.heap.size := by rw [hW0]; simp
      have hE : Ext w W0 := by rw [hW0]; exact (((Ext.refl w).alloc _).alloc _).drewN _
      rw [← hW0]
      have hX : Hid (Ext W0 W0) := Ext.refl _
      have hz0 := Lib.hid hz
      clear hW0
      generalize hB : w.heap.size = B at hc hR hF hz ⊢
      have HB := Lib.hid hB
      clear hB
      rw [HB.out] at hz0
      go_wp2_with (first
        | (go_at_call 131; (with_reducible refine (field_x B l _ 0 4 _ _ hc.out P0.out (by omega) (by omega) (by have := Hl.out; omega) Hl.out (padN_dg _ _) V0.out 0 4 (by simp) (by simp)).mono ?_); rintro e w1 ⟨rfl, hE1⟩; replace hc := Lib.hid ((hE1.cells _ _ (by omega)).trans hc.out); replace hX := Lib.hid (hX.out.trans hE1); replace hz := hE1.lt hz)
        | (go_at_call 131; (with_reducible refine (field_x B l _ 5 7 _ _ hc.out P1.out (by omega) (by omega) (by have := Hl.out; omega) Hl.out (padN_dg _ _) V1.out 5 7 (by simp) (by simp)).mono ?_); rintro e w1 ⟨rfl, hE1⟩; replace hc := Lib.hid ((hE1.cells _ _ (by omega)).trans hc.out); replace hX := Lib.hid (hX.out.trans hE1); replace hz := hE1.lt hz)
        | (go_at_call 131; (with_reducible refine (field_x B l _ 8 10 _ _ hc.out P2.out (by omega) (by omega) (by have := Hl.out; omega) Hl.out (padN_dg _ _) V2.out 8 10 (by simp) (by simp)).mono ?_); rintro e w1 ⟨rfl, hE1⟩; replace hc := Lib.hid ((hE1.cells _ _ (by omega)).trans hc.out); replace hX := Lib.hid (hX.out.trans hE1); replace hz := hE1.lt hz)
        | (go_at_call 131; (with_reducible refine (field_x B l _ 11 13 _ _ hc.out P3.out (by omega) (by omega) (by have := Hl.out; omega) Hl.out (padN_dg _ _) V3.out 11 13 (by simp) (by simp)).mono ?_); rintro e w1 ⟨rfl, hE1⟩; replace hc := Lib.hid ((hE1.cells _ _ (by omega)).trans hc.out); replace hX := Lib.hid (hX.out.trans hE1); replace hz := hE1.lt hz)
        | (go_at_call 131; (with_reducible refine (field_x B l _ 14 16 _ _ hc.out P4.out (by omega) (by omega) (by have := Hl.out; omega) Hl.out (padN_dg _ _) V4.out 14 16 (by simp) (by simp)).mono ?_); rintro e w1 ⟨rfl, hE1⟩; replace hc := Lib.hid ((hE1.cells _ _ (by omega)).trans hc.out); replace hX := Lib.hid (hX.out.trans hE1); replace hz := hE1.lt hz)
        | (go_at_call 131; (with_reducible refine (field_x B l _ 17 19 _ _ hc.out P5.out (by omega) (by omega) (by have := Hl.out; omega) Hl.out (padN_dg _ _) V5.out 17 19 (by simp) (by simp)).mono ?_); rintro e w1 ⟨rfl, hE1⟩; replace hc := Lib.hid ((hE1.cells _ _ (by omega)).trans hc.out); replace hX := Lib.hid (hX.out.trans hE1); replace hz := hE1.lt hz)
        | (go_at_call 85; (with_reducible refine (of_no y m d hh mi s _ hv).mono ?_); go_loud (rintro e w9 ⟨rfl, hE9⟩; have k9 := hE9.cells; have z9 : w1.heap.size < w9.heap.size := (by have := hE9.size; simp at this; omega); have r0 : w9.cell? ⟨B + 1, 0, none⟩ = some (.int .i64 0) := ((hE9.cells _ _ (by simp; omega)).trans ((World.cell?_alloc_lt _ _ _ hz).trans ((hX.out.cells _ _ hz0.out).trans (hR.out 0)))); have q0 : w9.frozen? ⟨B + 1, 0, none⟩ = false := ((hE9.frozens _ _ (by simp; omega)).trans ((World.frozen?_alloc_past _ _ _ hz).trans ((hX.out.frozens _ _ hz0.out).trans (hF.out 0)))); have r1 : w9.cell? ⟨B + 1, 1, none⟩ = some (.int .i64 0) := ((hE9.cells _ _ (by simp; omega)).trans ((World.cell?_alloc_lt _ _ _ hz).trans ((hX.out.cells _ _ hz0.out).trans (hR.out 1)))); have q1 : w9.frozen? ⟨B + 1, 1, none⟩ = false := ((hE9.frozens _ _ (by simp; omega)).trans ((World.frozen?_alloc_past _ _ _ hz).trans ((hX.out.frozens _ _ hz0.out).trans (hF.out 1)))); have r2 : w9.cell? ⟨B + 1, 2, none⟩ = some (.int .i64 0) := ((hE9.cells _ _ (by simp; omega)).trans ((World.cell?_alloc_lt _ _ _ hz).trans ((hX.out.cells _ _ hz0.out).trans (hR.out 2)))); have q2 : w9.frozen? ⟨B + 1, 2, none⟩ = false := ((hE9.frozens _ _ (by simp; omega)).trans ((World.frozen?_alloc_past _ _ _ hz).trans ((hX.out.frozens _ _ hz0.out).trans (hF.out 2)))); have r3 : w9.cell? ⟨B + 1, 3, none⟩ = some (.int .i64 0) := ((hE9.cells _ _ (by simp; omega)).trans ((World.cell?_alloc_lt _ _ _ hz).trans ((hX.out.cells _ _ hz0.out).trans (hR.out 3)))); have q3 : w9.frozen? ⟨B + 1, 3, none⟩ = false := ((hE9.frozens _ _ (by simp; omega)).trans ((World.frozen?_alloc_past _ _ _ hz).trans ((hX.out.frozens _ _ hz0.out).trans (hF.out 3)))); have r4 : w9.cell? ⟨B + 1, 4, none⟩ = some (.int .i64 0) := ((hE9.cells _ _ (by simp; omega)).trans ((World.cell?_alloc_lt _ _ _ hz).trans ((hX.out.cells _ _ hz0.out).trans (hR.out 4)))); have q4 : w9.frozen? ⟨B + 1, 4, none⟩ = false := ((hE9.frozens _ _ (by simp; omega)).trans ((World.frozen?_alloc_past _ _ _ hz).trans ((hX.out.frozens _ _ hz0.out).trans (hF.out 4)))); have r5 : w9.cell? ⟨B + 1, 5, none⟩ = some (.int .i64 0) := ((hE9.cells _ _ (by simp; omega)).trans ((World.cell?_alloc_lt _ _ _ hz).trans ((hX.out.cells _ _ hz0.out).trans (hR.out 5)))); have q5 : w9.frozen? ⟨B + 1, 5, none⟩ = false := ((hE9.frozens _ _ (by simp; omega)).trans ((World.frozen?_alloc_past _ _ _ hz).trans ((hX.out.frozens _ _ hz0.out).trans (hF.out 5)))))))
      refine bodyPost_ret (v := .tuple #[.agg #[.int .i64 0, .int .i64 0, .int .i64 0, .int .i64 0, .int .i64 0, .int .i64 0], .int .i64 1]) ?_ rfl ⟨rfl, ?_⟩
      · obtain ⟨s0, s1, s2, s3, s4, s5⟩ := set6 w9 (B + 1) (v0 := .int .i64 0) (v1 := .int .i64 0) (v2 := .int .i64 0) (v3 := .int .i64 0) (v4 := .int .i64 0) (v5 := .int .i64 0) r0 r1 r2 r3 r4 r5
        simp [results, Tryz.results84, go_sem, s0, s1, s2, s3, s4, s5]
      · have hb := HB.out
        iterate 6 refine Ext.setCell ?_ (by simp; omega) _
        exact hE.trans (hX.out.trans (((Ext.refl _).alloc _).trans hE9))
end Go.Proofs.YtgndogpgfgliaaaGreatDoor
/- The walk of clock.Parse at texts that do not have the form. -/
namespace Go.Proofs.YtgndogpgfgliaaaGreatDoor
set_option linter.unusedVariables false
set_option linter.unnecessarySimpa false
set_option linter.unusedSimpArgs false
open Go.RowKit

set_option maxRecDepth 100000 in
set_option maxHeartbeats 2000000 in
theorem parse_len (l : List UInt8) (w : World) (hl : l.length ≠ 19) (hb : l.length ≤ 9223372036854775807) :
    Calls Tryz.prog 84 #[.string ⟨l.toArray⟩] w fun e w' => e = .returned (.tuple #[mom0, .int .i64 3]) ∧ Ext w w' := by
  have t1 : ((l.length : Int) != 19) = true := by rw [bne_iff_ne]; omega
  clear hl
  go_enter Tryz.func84, Tryz.ntmps84
  go_wp2
  refine bodyPost_ret (v := .tuple #[mom0, .int .i64 3]) ?_ rfl ⟨rfl, ?_⟩
  · simp [results, Tryz.results84, go_sem, mom0]
  · (repeat (with_reducible (first | assumption | exact Ext.refl _ | refine Ext.alloc ?_ _ | refine Ext.setCell ?_ (by simp) _ | refine Ext.setCell ?_ (by simp; omega) _ | refine Ext.drewN ?_ _ | refine Ext.drew ?_)))
set_option maxRecDepth 100000 in
set_option maxHeartbeats 2000000 in
theorem parse_bad (l : List UInt8) (w : World) (hl : l.length = 19) (p : Nat) (hp : p < l.length) (hbad : okAt p l[p] = false) (ho : ∀ i (hi : i < l.length), i < p → okAt i l[i] = true) :
    Calls Tryz.prog 84 #[.string ⟨l.toArray⟩] w fun e w' => e = .returned (.tuple #[mom0, .int .i64 3]) ∧ Ext w w' := by
  have Ho := Lib.hid ho
  have Hbad := Lib.hid hbad
  clear ho hbad
  go_enter Tryz.func84, Tryz.ntmps84
  go_wp2_with fail
  go_loopw [14] (fun t wr => ∃ k : Nat, k ≤ p ∧ t = .int .i64 (k : Int) ∧ ∃ n, wr = ((w.alloc (.cells #[.string ⟨l.toArray⟩] 9)).alloc (.cells #[.int .i64 0, .int .i64 0, .int .i64 0, .int .i64 0, .int .i64 0, .int .i64 0] 98)).drewN n) (fun t _ => p - (intOf t).toNat)
  case atStart => exact ⟨0, by omega, rfl, 0, rfl⟩
  case round =>
    obtain ⟨k, hk, rfl, n, rfl⟩ := hrel
    by_cases hlt : k < p
    · have hk19 : k < 19 := by omega
      obtain ⟨c, hcl⟩ : ∃ c, c = l[k]'(by omega) := ⟨_, rfl⟩
      have hok := Ho.out k (by omega) (by omega)
      rw [← hcl] at hok
      have b0 := bget l k (by omega) c hcl
      have hfk := fm_get k hk19
      by_cases hfm : fmC k = 48
      · rw [okAt_dg hfm, isDg_iff] at hok
        have c1 : 48 ≤ (c.toNat : Int) := by omega
        have c2 : (c.toNat : Int) ≤ 57 := by omega
        have f1 : (((fmC k).toNat : Int) == 48) = true := by rw [hfm]; rfl
        have f2 : (((fmC k).toNat : Int) != 48) = false := by rw [hfm]; rfl
        clear hok hcl hfm
        go_wp2
        go_quiet (fail)
        go_wp2
        go_roundw
        case rel => exact ⟨k + 1, by omega, by go_num, _, rfl⟩
        case measure => simp [intOf]; omega
      · rw [okAt_sep hfm, beq_iff_eq] at hok
        have f1 : (((fmC k).toNat : Int) == 48) = false := by
          rw [beq_eq_false_iff_ne]; intro e; exact hfm (UInt8.toNat_inj.1 (by show (fmC k).toNat = 48; omega))
        have f2 : (((fmC k).toNat : Int) != 48) = true := by
          rw [bne_iff_ne]; intro e; exact hfm (UInt8.toNat_inj.1 (by show (fmC k).toNat = 48; omega))
        have f3 : ((c.toNat : Int) != ((fmC k).toNat : Int)) = false := by rw [hok]; simp
        clear hok hcl hfm
        by_cases c1 : 48 ≤ (c.toNat : Int)
        · by_cases c2 : (c.toNat : Int) ≤ 57
          · go_wp2
            go_quiet (fail)
            go_wp2
            go_roundw
            case rel => exact ⟨k + 1, by omega, by go_num, _, rfl⟩
            case measure => simp [intOf]; omega
          · go_wp2
            go_quiet (fail)
            go_wp2
            go_roundw
            case rel => exact ⟨k + 1, by omega, by go_num, _, rfl⟩
            case measure => simp [intOf]; omega
        · go_wp2
          go_quiet (fail)
          go_wp2
          go_roundw
          case rel => exact ⟨k + 1, by omega, by go_num, _, rfl⟩
          case measure => simp [intOf]; omega
    · obtain rfl : k = p := by omega
      have hk19 : k < 19 := by omega
      obtain ⟨c, hcl⟩ : ∃ c, c = l[k] := ⟨_, rfl⟩
      have hok := Hbad.out
      rw [← hcl] at hok
      have b0 := bget l k (by omega) c hcl
      have hfk := fm_get k hk19
      clear Hbad
      by_cases hfm : fmC k = 48
      · rw [okAt_dg hfm, ← Bool.not_eq_true, isDg_iff] at hok
        have f1 : (((fmC k).toNat : Int) == 48) = true := by rw [hfm]; rfl
        have f2 : (((fmC k).toNat : Int) != 48) = false := by rw [hfm]; rfl
        clear hcl hfm
        by_cases c1 : 48 ≤ (c.toNat : Int)
        · have c2 : ¬ (c.toNat : Int) ≤ 57 := by omega
          clear hok
          go_wp2
          go_quiet (fail)
          go_wp2
          refine bodyPost_ret (v := .tuple #[mom0, .int .i64 3]) ?_ rfl ⟨rfl, ?_⟩
          · simp [results, Tryz.results84, go_sem, mom0]
          · (repeat (with_reducible (first | assumption | exact Ext.refl _ | refine Ext.alloc ?_ _ | refine Ext.setCell ?_ (by simp) _ | refine Ext.setCell ?_ (by simp; omega) _ | refine Ext.drewN ?_ _ | refine Ext.drew ?_)))
        · clear hok
          go_wp2
          go_quiet (fail)
          go_wp2
          refine bodyPost_ret (v := .tuple #[mom0, .int .i64 3]) ?_ rfl ⟨rfl, ?_⟩
          · simp [results, Tryz.results84, go_sem, mom0]
          · (repeat (with_reducible (first | assumption | exact Ext.refl _ | refine Ext.alloc ?_ _ | refine Ext.setCell ?_ (by simp) _ | refine Ext.setCell ?_ (by simp; omega) _ | refine Ext.drewN ?_ _ | refine Ext.drew ?_)))
      · rw [okAt_sep hfm] at hok
        have hok := (beq_eq_false_iff_ne).1 hok
        have f1 : (((fmC k).toNat : Int) == 48) = false := by
          rw [beq_eq_false_iff_ne]; intro e; exact hfm (UInt8.toNat_inj.1 (by show (fmC k).toNat = 48; omega))
        have f2 : (((fmC k).toNat : Int) != 48) = true := by
          rw [bne_iff_ne]; intro e; exact hfm (UInt8.toNat_inj.1 (by show (fmC k).toNat = 48; omega))
        have f3 : ((c.toNat : Int) != ((fmC k).toNat : Int)) = true := by
          rw [bne_iff_ne]; intro e; exact hok (UInt8.toNat_inj.1 (by omega))
        clear hok hcl hfm
        by_cases c1 : 48 ≤ (c.toNat : Int)
        · by_cases c2 : (c.toNat : Int) ≤ 57
          · go_wp2
            go_quiet (fail)
            go_wp2
            refine bodyPost_ret (v := .tuple #[mom0, .int .i64 3]) ?_ rfl ⟨rfl, ?_⟩
            · simp [results, Tryz.results84, go_sem, mom0]
            · (repeat (with_reducible (first | assumption | exact Ext.refl _ | refine Ext.alloc ?_ _ | refine Ext.setCell ?_ (by simp) _ | refine Ext.setCell ?_ (by simp; omega) _ | refine Ext.drewN ?_ _ | refine Ext.drew ?_)))
          · go_wp2
            go_quiet (fail)
            go_wp2
            refine bodyPost_ret (v := .tuple #[mom0, .int .i64 3]) ?_ rfl ⟨rfl, ?_⟩
            · simp [results, Tryz.results84, go_sem, mom0]
            · (repeat (with_reducible (first | assumption | exact Ext.refl _ | refine Ext.alloc ?_ _ | refine Ext.setCell ?_ (by simp) _ | refine Ext.setCell ?_ (by simp; omega) _ | refine Ext.drewN ?_ _ | refine Ext.drew ?_)))
        · go_wp2
          go_quiet (fail)
          go_wp2
          refine bodyPost_ret (v := .tuple #[mom0, .int .i64 3]) ?_ rfl ⟨rfl, ?_⟩
          · simp [results, Tryz.results84, go_sem, mom0]
          · (repeat (with_reducible (first | assumption | exact Ext.refl _ | refine Ext.alloc ?_ _ | refine Ext.setCell ?_ (by simp) _ | refine Ext.setCell ?_ (by simp; omega) _ | refine Ext.drewN ?_ _ | refine Ext.drew ?_)))
theorem parse_n (l : List UInt8) (w : World) (h : ¬ formL l) (hb : l.length ≤ 9223372036854775807) :
    Calls Tryz.prog 84 #[.string ⟨l.toArray⟩] w fun e w' => e = .returned (.tuple #[mom0, .int .i64 3]) ∧ Ext w w' := by
  by_cases hl : l.length = 19
  · obtain ⟨p, hp, h1, h2⟩ := first_bad hl h
    exact parse_bad l w hl p hp h1 h2
  · exact parse_len l w hl hb
end Go.Proofs.YtgndogpgfgliaaaGreatDoor
