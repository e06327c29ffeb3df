/- Recurrence rules: the walk of the law RecurtextPart. -/
import Derived.Test.YtgndogpgfgliaaaGreatDoorQ44
import Derived.Test.YtgndogpgfgliaaaGreatDoorQ29
namespace Go.Proofs.YtgndogpgfgliaaaGreatDoor
set_option linter.unusedVariables false
set_option linter.unnecessarySimpa false
set_option linter.unusedSimpArgs false
open Go.RowKit

def prD : RPr → RecD
  | .er _ => RecD.zero
  | .ok D => D
def prC : RPr → Int
  | .er c => (c : Int)
  | .ok _ => 0
theorem PartR.any {nm s : List UInt8} {r : Rec} {w w' : World} {e : Ending} (h : PartR nm s r w e w') : ∃ q : Rec, q.D = prD (prtZ untZ nm s r.D) ∧ e = .returned (.tuple #[.agg q.vals.toArray, .int .i64 (prC (prtZ untZ nm s r.D))]) ∧ RcV q w' ∧ Ext w w' := by
  unfold PartR at h
  cases hp : prtZ untZ nm s r.D with
  | er c =>
    rw [hp] at h
    exact ⟨Rec.zero, rfl, h.1, ⟨IsV.nil w', IsV.nil w', IsV.nil w', IsV.nil w', OsV.nil w', IsV.nil w', IsV.nil w', IsV.nil w', IsV.nil w'⟩, h.2⟩
  | ok D =>
    rw [hp] at h
    obtain ⟨q, h1, h2, h3, h4, -⟩ := h
    exact ⟨q, h1, h2, h3, h4⟩
set_option maxRecDepth 100000 in
set_option maxHeartbeats 4000000 in
theorem part30_nm (nm s : List UInt8) (r : Rec) (w : World) (hm : Lm w) (hV : RcV r w) (hn : 500 < nm.length) :
    Calls Tryz.prog 5 #[.string ⟨nm.toArray⟩, .string ⟨s.toArray⟩, .agg r.vals.toArray] w fun e w' => e = .returned (.bool true) ∧ Ext w w' := by
  have hE0 : Ext w (w.alloc (.cells r.vals.toArray 25)) := (Ext.refl w).alloc _
  have HE0 := Lib.hid hE0
  have hB := RcB.new r w 25
  have hBr := hB.2
  have hBl := hB.1
  have hRs := rec_size r
  have tn : decide ((500 : Int) < (nm.length : Int)) = true := decide_eq_true (by omega)
  have HA := Lib.hid (awake30_c _ (hm.ext hE0))
  clear hE0 hB hV hm hn
  go_enter Tryz.func5, Tryz.ntmps5
  go_upto_region 1 with fail
  generalize w.alloc (.cells r.vals.toArray 25) = W0 at *
  generalize w.heap.size = B at *
  go_upto_region 3 with (go_at_call 11; (with_reducible refine HA.out.mono ?_); rintro e w1 ⟨rfl, hE1⟩)
  have hB1 : RcB r B w1 := RcB.ext ⟨hBl, hBr⟩ hE1
  have hBr1 := hB1.2
  go_wp2_with fail
  go_ret
  exact ⟨rfl, HE0.out.trans hE1⟩
set_option maxRecDepth 100000 in
set_option maxHeartbeats 4000000 in
theorem part30_s (nm s : List UInt8) (r : Rec) (w : World) (hm : Lm w) (hV : RcV r w) (hn : ¬ 500 < nm.length) (hs : 500 < s.length) :
    Calls Tryz.prog 5 #[.string ⟨nm.toArray⟩, .string ⟨s.toArray⟩, .agg r.vals.toArray] w fun e w' => e = .returned (.bool true) ∧ Ext w w' := by
  have hE0 : Ext w (w.alloc (.cells r.vals.toArray 25)) := (Ext.refl w).alloc _
  have HE0 := Lib.hid hE0
  have hB := RcB.new r w 25
  have hBr := hB.2
  have hBl := hB.1
  have hRs := rec_size r
  have tn : decide ((500 : Int) < (nm.length : Int)) = false := decide_eq_false (by omega)
  have ts : decide ((500 : Int) < (s.length : Int)) = true := decide_eq_true (by omega)
  have HA := Lib.hid (awake30_c _ (hm.ext hE0))
  clear hE0 hB hV hm hn hs
  go_enter Tryz.func5, Tryz.ntmps5
  go_upto_region 1 with fail
  generalize w.alloc (.cells r.vals.toArray 25) = W0 at *
  generalize w.heap.size = B at *
  go_upto_region 3 with (go_at_call 11; (with_reducible refine HA.out.mono ?_); rintro e w1 ⟨rfl, hE1⟩)
  have hB1 : RcB r B w1 := RcB.ext ⟨hBl, hBr⟩ hE1
  have hBr1 := hB1.2
  go_wp2_with fail
  go_ret
  exact ⟨rfl, HE0.out.trans hE1⟩
set_option maxRecDepth 100000 in
set_option maxHeartbeats 4000000 in
theorem part30_g (nm s : List UInt8) (r : Rec) (w : World) (hm : Lm w) (hV : RcV r w) (hn : ¬ 500 < nm.length) (hs : ¬ 500 < s.length) (hg : greatR r.D = true) :
    Calls Tryz.prog 5 #[.string ⟨nm.toArray⟩, .string ⟨s.toArray⟩, .agg r.vals.toArray] w fun e w' => e = .returned (.bool true) ∧ Ext w w' := by
  have hE0 : Ext w (w.alloc (.cells r.vals.toArray 25)) := (Ext.refl w).alloc _
  have HE0 := Lib.hid hE0
  have hB := RcB.new r w 25
  have hBr := hB.2
  have hBl := hB.1
  have hRs := rec_size r
  have tn : decide ((500 : Int) < (nm.length : Int)) = false := decide_eq_false (by omega)
  have ts : decide ((500 : Int) < (s.length : Int)) = false := decide_eq_false (by omega)
  have HG := Lib.hid (fun W (hE : Ext (w.alloc (.cells r.vals.toArray 25)) W) => great30_c r true W ((hV.ext hE0).ext hE) hg)
  have HA := Lib.hid (awake30_c _ (hm.ext hE0))
  clear hE0 hB hV hm hn hs
  go_enter Tryz.func5, Tryz.ntmps5
  go_upto_region 1 with fail
  generalize w.alloc (.cells r.vals.toArray 25) = W0 at *
  generalize w.heap.size = B at *
  go_upto_region 3 with (go_at_call 11; (with_reducible refine HA.out.mono ?_); rintro e w1 ⟨rfl, hE1⟩)
  have hB1 : RcB r B w1 := RcB.ext ⟨hBl, hBr⟩ hE1
  have hBr1 := hB1.2
  go_wp2_with (first
    | (refine load_midg (by rfl) 25 _ rfl B 0 rfl r.vals _ hBr1 Tryz.underlying25 rfl hRs ?_)
    | (go_at_call 12; (with_reducible refine (HG.out _ hE1).mono ?_); rintro e w2 ⟨rfl, hE2⟩))
  go_ret
  exact ⟨rfl, HE0.out.trans (hE1.trans hE2)⟩
set_option maxRecDepth 100000 in
set_option maxHeartbeats 4000000 in
theorem part30_go (nm s : List UInt8) (r : Rec) (w : World) (hm : Lm w) (hV : RcV r w) (hn : ¬ 500 < nm.length) (hs : ¬ 500 < s.length) (hg : greatR r.D = false) :
    Calls Tryz.prog 5 #[.string ⟨nm.toArray⟩, .string ⟨s.toArray⟩, .agg r.vals.toArray] w fun e w' => e = .returned (.bool true) ∧ Ext w w' := by
  have hE0 : Ext w (w.alloc (.cells r.vals.toArray 25)) := (Ext.refl w).alloc _
  have HE0 := Lib.hid hE0
  have hB := RcB.new r w 25
  have hBr := hB.2
  have hBl := hB.1
  have hRs := rec_size r
  have tn : decide ((500 : Int) < (nm.length : Int)) = false := decide_eq_false (by omega)
  have ts : decide ((500 : Int) < (s.length : Int)) = false := decide_eq_false (by omega)
  have HG := Lib.hid (fun W (hE : Ext (w.alloc (.cells r.vals.toArray 25)) W) => great30_c r false W ((hV.ext hE0).ext hE) hg)
  have HA := Lib.hid (awake30_c _ (hm.ext hE0))
  obtain ⟨X, hX⟩ : ∃ X, X = prtZ untZ nm s r.D := ⟨_, rfl⟩
  have HP := Lib.hid (fun W (hE : Ext (w.alloc (.cells r.vals.toArray 25)) W) => (part_c nm s r W ((hm.ext hE0).ext hE) (by omega) ((hV.ext hE0).ext hE)).mono (fun e w' h => PartR.any h))
  have HQ := Lib.hid (fun W (hE : Ext (w.alloc (.cells r.vals.toArray 25)) W) => (rpart_c nm s r W (by omega) ((hV.ext hE0).ext hE)).mono (fun e w' h => PartR.any h))
  rw [← hX] at HP HQ
  obtain ⟨c, hc⟩ : ∃ c, c = prC X := ⟨_, rfl⟩
  rw [← hc] at HP HQ
  clear hE0 hB hV hm hn hs hg hX hc
  go_enter Tryz.func5, Tryz.ntmps5
  go_upto_region 1 with fail
  generalize w.alloc (.cells r.vals.toArray 25) = W0 at *
  generalize w.heap.size = B at *
  go_upto_region 3 with (go_at_call 11; (with_reducible refine HA.out.mono ?_); rintro e w1 ⟨rfl, hE1⟩)
  have hB1 : RcB r B w1 := RcB.ext ⟨hBl, hBr⟩ hE1
  have hBr1 := hB1.2
  go_upto_region 5 with (first
    | (refine load_midg (by rfl) 25 _ rfl B 0 rfl r.vals _ hBr1 Tryz.underlying25 rfl hRs ?_)
    | (go_at_call 12; (with_reducible refine (HG.out _ hE1).mono ?_); rintro e w2 ⟨rfl, hE2⟩))
  have HX2 := Lib.hid (hE1.trans hE2)
  have hBr2 := (hB1.ext hE2).2
  have HB2 := Lib.hid (hB1.ext hE2)
  clear hBr hB1 hBr1 hE1 hE2 hBl
  go_upto_region 6 with (first
    | (refine load_midg (by rfl) 25 _ rfl B 0 rfl r.vals _ hBr2 Tryz.underlying25 rfl hRs ?_)
    | (go_at_call 20; (with_reducible refine (HP.out _ HX2.out).mono ?_); rintro e w3 ⟨p, hpD, rfl, hpV, hE3⟩; have hrp := rec_size p; have hp1 := rec_all1 p; have HpD := Lib.hid hpD; have HpV := Lib.hid hpV; have HE3 := Lib.hid hE3; clear hpD hpV hE3; have hTz := thr_new w3 (#[.int .i64 0, .int .i64 0, .int .i64 0, .int .i64 0, .slice none 0 0, .slice none 0 0, .slice none 0 0, .slice none 0 0, .slice none 0 0, .slice none 0 0, .slice none 0 0, .slice none 0 0, .slice none 0 0, .int .i64 0]) 25 14 rfl; have hlz : w3.heap.size < (w3.alloc (.cells #[.int .i64 0, .int .i64 0, .int .i64 0, .int .i64 0, .slice none 0 0, .slice none 0 0, .slice none 0 0, .slice none 0 0, .slice none 0 0, .slice none 0 0, .slice none 0 0, .slice none 0 0, .slice none 0 0, .int .i64 0] 25)).heap.size := by simp)
    | (refine wpList_store_gen (op := ⟨none, .store 25 (.tmp 7) (.tmp 30), _, _, _, _⟩) rfl 25 _ _ rfl w3.heap.size p.vals rfl rfl hlz hTz hrp hp1 ?_; intro W4 hF4 hl4 hr4))
  have hE4 : Ext w3 W4 := Frm.far ((Ext.refl w3).alloc _) hF4 (fun k hk e => by omega)
  have HX4 := Lib.hid (HX2.out.trans (HE3.out.trans hE4))
  have HpV4 := Lib.hid (HpV.out.ext hE4)
  have HR4 := Lib.hid (show RcB p w3.heap.size W4 from ⟨hl4, hr4⟩)
  have hBr4 := (HB2.out.ext (HE3.out.trans hE4)).2
  clear hF4 hTz hlz hE4 hBr2 hr4
  generalize w3.heap.size = C at *
  go_upto_region 7 with (first
    | (refine load_midg (by rfl) 25 _ rfl B 0 rfl r.vals _ hBr4 Tryz.underlying25 rfl hRs ?_)
    | (go_at_call 21; (with_reducible refine (HQ.out _ HX4.out).mono ?_); rintro e w5 ⟨q, hqD, rfl, hqV, hE5⟩; have hrq := rec_size q; have hq1 := rec_all1 q; have HqD := Lib.hid hqD; have HqV := Lib.hid hqV; have HE5 := Lib.hid hE5; clear hqD hqV hE5; have hTz := thr_new w5 (#[.int .i64 0, .int .i64 0, .int .i64 0, .int .i64 0, .slice none 0 0, .slice none 0 0, .slice none 0 0, .slice none 0 0, .slice none 0 0, .slice none 0 0, .slice none 0 0, .slice none 0 0, .slice none 0 0, .int .i64 0]) 25 14 rfl; have hlz : w5.heap.size < (w5.alloc (.cells #[.int .i64 0, .int .i64 0, .int .i64 0, .int .i64 0, .slice none 0 0, .slice none 0 0, .slice none 0 0, .slice none 0 0, .slice none 0 0, .slice none 0 0, .slice none 0 0, .slice none 0 0, .slice none 0 0, .int .i64 0] 25)).heap.size := by simp)
    | (refine wpList_store_gen (op := ⟨none, .store 25 (.tmp 9) (.tmp 37), _, _, _, _⟩) rfl 25 _ _ rfl w5.heap.size q.vals rfl rfl hlz hTz hrq hq1 ?_; intro W6 hF6 hl6 hr6))
  have hE6 : Ext w5 W6 := Frm.far ((Ext.refl w5).alloc _) hF6 (fun k hk e => by omega)
  have hX6 := HE5.out.trans hE6
  have HX6 := Lib.hid (HX4.out.trans hX6)
  have hrC := (HR4.out.ext hX6).2
  have HS := Lib.hid (same30_c p q true W6 (HpV4.out.ext hX6) (HqV.out.ext hE6) (sameR_iff.2 (HpD.out.trans HqD.out.symm)))
  clear hF6 hTz hlz hE6 hX6 hBr4
  generalize w5.heap.size = D at *
  go_wp2_with (first
    | (refine load_midg (by rfl) 25 _ rfl C 0 rfl p.vals _ hrC Tryz.underlying25 rfl hrp ?_)
    | (refine load_midg (by rfl) 25 _ rfl D 0 rfl q.vals _ hr6 Tryz.underlying25 rfl hrq ?_)
    | (go_at_call 19; (with_reducible refine HS.out.mono ?_); rintro e w7 ⟨rfl, hE7⟩))
  go_ret
  exact ⟨rfl, HE0.out.trans (HX6.out.trans hE7)⟩
theorem part30_l (nm s : List UInt8) (r : Rec) (w : World) (hm : Lm w) (hV : RcV r w) :
    Calls Tryz.prog 5 #[.string ⟨nm.toArray⟩, .string ⟨s.toArray⟩, .agg r.vals.toArray] w fun e w' => e = .returned (.bool true) ∧ Ext w w' := by
  by_cases hn : 500 < nm.length
  · exact part30_nm nm s r w hm hV hn
  · by_cases hs : 500 < s.length
    · exact part30_s nm s r w hm hV hn hs
    · rcases Bool.eq_false_or_eq_true (greatR r.D) with hg | hg
      · exact part30_g nm s r w hm hV hn hs hg
      · exact part30_go nm s r w hm hV hn hs hg
theorem part30_walk (a b : ByteArray) (r : Rec) (w : World) (hm : Lm w) (hV : RcV r w) :
    Calls Tryz.prog 5 #[.string a, .string b, .agg r.vals.toArray] w fun e w' => e = .returned (.bool true) ∧ Ext w w' := by
  have e1 : (⟨a.data.toList.toArray⟩ : ByteArray) = a := by simp
  have e2 : (⟨b.data.toList.toArray⟩ : ByteArray) = b := by simp
  have h := part30_l a.data.toList b.data.toList r w hm hV
  rw [e1, e2] at h
  exact h
end Go.Proofs.YtgndogpgfgliaaaGreatDoor
