/- Recurrence rules: the walk of the law RecurtextParses. -/
import Derived.Test.YtgndogpgfgliaaaGreatDoorQ47
import Derived.Test.YtgndogpgfgliaaaGreatDoorQ29
namespace Go.Proofs.YtgndogpgfgliaaaGreatDoor
set_option linter.unusedVariables false
set_option linter.unnecessarySimpa false
set_option linter.unusedSimpArgs false
open Go.RowKit

theorem ParR.any {s : List UInt8} {w w' : World} {e : Ending} (h : ParR s w e w') : ∃ q : Rec, q.D = prD2 (parZ untZ vldR s) ∧ e = .returned (.tuple #[.agg q.vals.toArray, .int .i64 (prC2 (parZ untZ vldR s))]) ∧ RcV q w' ∧ Ext w w' := by
  unfold ParR at h
  cases hp : parZ untZ vldR s with
  | er c =>
    rw [hp] at h
    exact ⟨Rec.zero, rfl, h.1, ⟨IsV.nil w', IsV.nil w', IsV.nil w', IsV.nil w', OsV.nil w', IsV.nil w', IsV.nil w', IsV.nil w', IsV.nil w'⟩, h.2⟩
  | ok D =>
    rw [hp] at h
    obtain ⟨q, h1, h2, h3, h4⟩ := h
    exact ⟨q, h1, h2, h3, h4⟩
set_option maxRecDepth 100000 in
set_option maxHeartbeats 4000000 in
theorem uparse_long (s : List UInt8) (w : World) (h4 : 4000 < s.length) : Calls Tryz.prog 17 #[.string ⟨s.toArray⟩] w (ParR s w) := by
  have hzs := rec_size Rec.zero
  have hz1 := rec_all1 Rec.zero
  obtain ⟨WA, hWA⟩ : ∃ WA, WA = w.alloc (.cells #[.int .i64 0, .int .i64 0, .int .i64 0, .int .i64 0, .slice none 0 0, .slice none 0 0, .slice none 0 0, .slice none 0 0, .slice none 0 0, .slice none 0 0, .slice none 0 0, .slice none 0 0, .slice none 0 0, .int .i64 0] 25) := ⟨_, rfl⟩
  have hEA : Ext w WA := by rw [hWA]; exact (Ext.refl w).alloc _
  have hTA : WA.there w.heap.size 0 14 := by rw [hWA]; exact thr_new w _ _ 14 rfl
  have hzA : WA.heap.size = w.heap.size + 1 := by rw [hWA]; simp
  have HWA := Lib.hid hWA
  have HR : Hid (∀ e w', e = .returned (.tuple #[.agg Rec.zero.vals.toArray, .int .i64 5]) ∧ Ext w w' → ParR s w e w') := fun e w' h => by
    unfold ParR parZ; rw [if_pos h4]; exact h
  have t1 : decide ((4000 : Int) < (s.length : Int)) = true := decide_eq_true (by omega)
  have t0 : decide (4000 < s.length) = true := decide_eq_true h4
  have HEA := Lib.hid hEA
  clear hWA hEA h4
  go_enter Tryz.func17, Tryz.ntmps17
  go_upto_region 1 with fail
  rw [← HWA.out]
  have hlA : w.heap.size < WA.heap.size := by omega
  go_wp2_with (refine wpList_store_gen (op := ⟨none, .store 25 (.tmp 2) (.tmp 16), _, _, _, _⟩) rfl 25 _ _ rfl w.heap.size Rec.zero.vals rfl rfl hlA hTA hzs hz1 ?_; intro W3 hF3 hl3 hr3)
  refine bodyPost_ret (results_ct rfl rfl rfl (run_loadVar_mid W3 w.heap.size 0 25 _ _ hr3 Tryz.underlying25 rfl hzs)) rfl (HR.out _ _ ⟨rfl, Frm.far HEA.out hF3 (fun k hk e => by omega)⟩)
set_option maxRecDepth 100000 in
set_option maxHeartbeats 4000000 in
theorem parses_mid (s : List UInt8) (w : World) (hm : Lm w) (h1 : 1000 < s.length) (h4 : s.length ≤ 4000) :
    Calls Tryz.prog 4 #[.string ⟨s.toArray⟩] w fun e w' => e = .returned (.bool true) ∧ Ext w w' := by
  have t1 : decide ((1000 : Int) < (s.length : Int)) = true := decide_eq_true (by omega)
  have t4 : decide ((s.length : Int) ≤ 4000) = true := decide_eq_true (by omega)
  have HA := Lib.hid (awake30_c _ hm)
  clear hm h1 h4
  go_enter Tryz.func4, Tryz.ntmps4
  go_upto_region 3 with (go_at_call 11; (with_reducible refine HA.out.mono ?_); rintro e w1 ⟨rfl, hE1⟩)
  go_wp2_with fail
  go_ret
  exact ⟨rfl, hE1⟩
set_option maxRecDepth 100000 in
set_option maxHeartbeats 4000000 in
theorem parses_go (s : List UInt8) (w : World) (hm : Lm w) (h1 : ¬ (1000 < s.length ∧ s.length ≤ 4000)) :
    Calls Tryz.prog 4 #[.string ⟨s.toArray⟩] w fun e w' => e = .returned (.bool true) ∧ Ext w w' := by
  have HA := Lib.hid (awake30_c _ hm)
  obtain ⟨X, hX⟩ : ∃ X, X = parZ untZ vldR s := ⟨_, rfl⟩
  have HP := Lib.hid (fun W (hE : Ext w W) => (show Calls Tryz.prog 17 #[.string ⟨s.toArray⟩] W (ParR s W) from if h : 4000 < s.length then uparse_long s W h else uparse_c s W (hm.ext hE) (by omega)).mono (fun e w' h => ParR.any h))
  have HQ := Lib.hid (fun W (hE : Ext w W) => (show Calls Tryz.prog 18 #[.string ⟨s.toArray⟩] W (ParR s W) from if h : 4000 < s.length then rparse_long s W h else rparse_short s W (by omega)).mono (fun e w' h => ParR.any h))
  rw [← hX] at HP HQ
  obtain ⟨c, hc⟩ : ∃ c, c = prC2 X := ⟨_, rfl⟩
  rw [← hc] at HP HQ
  have hor : (decide ((1000 : Int) < (s.length : Int)) = true ∧ decide ((s.length : Int) ≤ 4000) = false) ∨ decide ((1000 : Int) < (s.length : Int)) = false := by
    by_cases q : 1000 < s.length
    · exact .inl ⟨decide_eq_true (by omega), decide_eq_false (by omega)⟩
    · exact .inr (decide_eq_false (by omega))
  have HOr := Lib.hid hor
  clear hX hc h1 hm hor
  go_enter Tryz.func4, Tryz.ntmps4
  go_upto_region 3 with (go_at_call 11; (with_reducible refine HA.out.mono ?_); rintro e w1 ⟨rfl, hE1⟩)
  have HX2 := Lib.hid hE1
  clear hE1
  go_cut [16] from 9 to 16 (fun x wx => x = .bool false ∧ w1 = wx)
  case first =>
    rcases HOr.out with ⟨t1, t2⟩ | t1
    · go_wp2_with fail
      go_meet
      exact ⟨rfl, rfl⟩
    · go_wp2_with fail
      go_meet
      exact ⟨rfl, rfl⟩
  case rest =>
  obtain ⟨rfl, rfl⟩ := hcut
  go_upto_region 6 with (first
    | (go_at_call 17; (with_reducible refine (HP.out _ HX2.out).mono ?_); rintro e w3 ⟨p, hpD, rfl, hpV, hE3⟩; have hrp := rec_size p; have hp1 := rec_all1 p; have HpD := Lib.hid hpD; have HpV := Lib.hid hpV; have HE3 := Lib.hid hE3; clear hpD hpV hE3; have hTz := thr_new w3 (#[.int .i64 0, .int .i64 0, .int .i64 0, .int .i64 0, .slice none 0 0, .slice none 0 0, .slice none 0 0, .slice none 0 0, .slice none 0 0, .slice none 0 0, .slice none 0 0, .slice none 0 0, .slice none 0 0, .int .i64 0]) 25 14 rfl; have hlz : w3.heap.size < (w3.alloc (.cells #[.int .i64 0, .int .i64 0, .int .i64 0, .int .i64 0, .slice none 0 0, .slice none 0 0, .slice none 0 0, .slice none 0 0, .slice none 0 0, .slice none 0 0, .slice none 0 0, .slice none 0 0, .slice none 0 0, .int .i64 0] 25)).heap.size := by simp)
    | (refine wpList_store_gen (op := ⟨none, .store 25 (.tmp 3) (.tmp 20), _, _, _, _⟩) rfl 25 _ _ rfl w3.heap.size p.vals rfl rfl hlz hTz hrp hp1 ?_; intro W4 hF4 hl4 hr4))
  have hE4 : Ext w3 W4 := Frm.far ((Ext.refl w3).alloc _) hF4 (fun k hk e => by omega)
  have HX4 := Lib.hid (HX2.out.trans (HE3.out.trans hE4))
  have HpV4 := Lib.hid (HpV.out.ext hE4)
  have HR4 := Lib.hid (show RcB p w3.heap.size W4 from ⟨hl4, hr4⟩)
  clear hF4 hTz hlz hE4 hr4
  generalize w3.heap.size = C at *
  go_upto_region 7 with (first
    | (go_at_call 18; (with_reducible refine (HQ.out _ HX4.out).mono ?_); rintro e w5 ⟨q, hqD, rfl, hqV, hE5⟩; have hrq := rec_size q; have hq1 := rec_all1 q; have HqD := Lib.hid hqD; have HqV := Lib.hid hqV; have HE5 := Lib.hid hE5; clear hqD hqV hE5; have hTz := thr_new w5 (#[.int .i64 0, .int .i64 0, .int .i64 0, .int .i64 0, .slice none 0 0, .slice none 0 0, .slice none 0 0, .slice none 0 0, .slice none 0 0, .slice none 0 0, .slice none 0 0, .slice none 0 0, .slice none 0 0, .int .i64 0]) 25 14 rfl; have hlz : w5.heap.size < (w5.alloc (.cells #[.int .i64 0, .int .i64 0, .int .i64 0, .int .i64 0, .slice none 0 0, .slice none 0 0, .slice none 0 0, .slice none 0 0, .slice none 0 0, .slice none 0 0, .slice none 0 0, .slice none 0 0, .slice none 0 0, .int .i64 0] 25)).heap.size := by simp)
    | (refine wpList_store_gen (op := ⟨none, .store 25 (.tmp 5) (.tmp 25), _, _, _, _⟩) rfl 25 _ _ rfl w5.heap.size q.vals rfl rfl hlz hTz hrq hq1 ?_; intro W6 hF6 hl6 hr6))
  have hE6 : Ext w5 W6 := Frm.far ((Ext.refl w5).alloc _) hF6 (fun k hk e => by omega)
  have hX6 := HE5.out.trans hE6
  have HX6 := Lib.hid (HX4.out.trans hX6)
  have hrC := (HR4.out.ext hX6).2
  have HS := Lib.hid (same30_c p q true W6 (HpV4.out.ext hX6) (HqV.out.ext hE6) (sameR_iff.2 (HpD.out.trans HqD.out.symm)))
  clear hF6 hTz hlz hE6 hX6
  generalize w5.heap.size = D at *
  go_wp2_with (first
    | (refine load_midg (by rfl) 25 _ rfl C 0 rfl p.vals _ hrC Tryz.underlying25 rfl hrp ?_)
    | (refine load_midg (by rfl) 25 _ rfl D 0 rfl q.vals _ hr6 Tryz.underlying25 rfl hrq ?_)
    | (go_at_call 19; (with_reducible refine HS.out.mono ?_); rintro e w7 ⟨rfl, hE7⟩))
  go_ret
  exact ⟨rfl, HX6.out.trans hE7⟩
theorem parses30_walk (b : ByteArray) (w : World) (hm : Lm w) :
    Calls Tryz.prog 4 #[.string b] w fun e w' => e = .returned (.bool true) ∧ Ext w w' := by
  have e1 : (⟨b.data.toList.toArray⟩ : ByteArray) = b := by simp
  have h : Calls Tryz.prog 4 #[.string ⟨b.data.toList.toArray⟩] w fun e w' => e = .returned (.bool true) ∧ Ext w w' := by
    by_cases q : 1000 < b.data.toList.length ∧ b.data.toList.length ≤ 4000
    · exact parses_mid _ w hm q.1 q.2
    · exact parses_go _ w hm q
  rw [e1] at h
  exact h
end Go.Proofs.YtgndogpgfgliaaaGreatDoor
