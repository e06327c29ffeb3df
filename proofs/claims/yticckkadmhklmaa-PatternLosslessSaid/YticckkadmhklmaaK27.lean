/- The walk of the law PatternCompiles. -/
import Derived.Test.YticckkadmhklmaaK24
import Derived.Test.YticckkadmhklmaaK26
import Derived.Test.YticckkadmhklmaaK00
import Derived.ProofKit
import Derived.OpenShut
import Derived.Below
namespace Go.Proofs.Yticckkadmhklmaa
set_option linter.unusedVariables false
set_option linter.unusedSimpArgs false
open Go.RowKit

set_option maxRecDepth 100000 in
set_option maxHeartbeats 1000000 in
/-- Two slices that hold the same parts are equal. -/
theorem eqP_c (l : List Prt) (ao ao2 : Option Addr) (cap cap2 : Nat) (w : World) (h1 : PtV ao cap l w) (h2 : PtV ao2 cap2 l w) : Calls Try.prog 17 #[.slice ao l.length cap, .slice ao2 l.length cap2] w fun e w' => e = .returned (.bool true) ∧ Ext w w' := by
  have hlen := h1.1
  have hcap := h1.2.1
  have hlen2 := h2.1
  have hcap2 := h2.2.1
  unfold maxLen at hcap hcap2
  have H1 := Lib.hid h1.2.2
  have H2 := Lib.hid h2.2.2
  clear h1 h2
  go_enter Try.func17, Try.ntmps17
  go_wp2_with fail
  go_loopw [13] (fun i wr => ∃ (j q : Nat), j ≤ l.length ∧ i = .int .i64 (j : Int) ∧ wr = w.drewN q) (fun i _ => l.length - (intOf i).toNat)
  case atStart => exact ⟨0, 0, Nat.zero_le _, rfl, rfl⟩
  case round =>
    obtain ⟨j, q, hj, rfl, rfl⟩ := hrel
    by_cases hlt : j < l.length
    · obtain ⟨R, off, rfl, hRl, hRc⟩ := H1.out (by rintro rfl; simp at hlt)
      obtain ⟨R2, off2, rfl, hRl2, hRc2⟩ := H2.out (by rintro rfl; simp at hlt)
      obtain ⟨g0, g1, g2⟩ := hRc j hlt
      obtain ⟨n0, n1, n2⟩ := hRc2 j hlt
      obtain ⟨p, hpp⟩ : ∃ p, p = l[j] := ⟨_, rfl⟩
      rw [← hpp] at g0 g1 g2 n0 n1 n2
      clear hpp hRc hRc2
      obtain ⟨pk, pw, pt⟩ := p
      simp only at g0 g1 g2 n0 n1 n2
      go_upto_region 6 with fail
      go_quiet (fail)
      go_wp2_with fail
      go_roundw
      case rel => exact ⟨j + 1, q + nq, by omega, by go_num, by trivial⟩
      case measure => simp [intOf]; omega
    · obtain rfl : j = l.length := by omega
      clear hlt
      go_wp2_with fail
      go_ret
      exact ⟨rfl, (Ext.refl w).drewN _⟩
set_option maxRecDepth 100000 in
set_option maxHeartbeats 1000000 in
theorem compiles_walk (sb : ByteArray) (w : World) : Calls Try.prog 4 #[.string sb] w fun e w' => e = .returned (.bool true) ∧ Ext w w' := by
  obtain ⟨s, rfl⟩ : ∃ s : List UInt8, sb = ⟨s.toArray⟩ := ⟨sb.data.toList, ba_mk sb⟩
  by_cases h1 : s.length ≤ 1000
  · have d1 : ¬ (1000 : Int) < (s.length : Int) := by omega
    have hs : s.length ≤ 9223372036854775806 := by omega
    have HC := Lib.hid (fun w => compile_c s w hs)
    have HR := Lib.hid (fun w => rcompile_c s w hs)
    obtain ⟨l, col, er, hT⟩ : ∃ l col er, cmpT s = (l, col, er) := ⟨_, _, _, rfl⟩
    rw [hT] at HC HR
    clear h1 hT
    go_enter Try.func4, Try.ntmps4
    go_wp2_with (first
      | (go_at_call 6; (with_reducible refine (awake_c _).mono ?_); rintro e w1 ⟨rfl, hE1⟩; have hX := hE1; clear hE1)
      | (go_at_call 15; (with_reducible refine (HC.out _).mono ?_); rintro e w2 ⟨ao, cap, rfl, hP, hE2⟩; have HP := Lib.hid hP; have hX := Ext.trans (show Ext w _ from (by (repeat (with_reducible (first | assumption | exact Ext.refl _ | refine Ext.alloc ?_ _ | refine Ext.drewN ?_ _ | refine Ext.drew ?_))))) hE2; clear hP hE2)
      | (go_at_call 16; (with_reducible refine (HR.out _).mono ?_); rintro e w3 ⟨ao2, cap2, rfl, hP2, hE3⟩; have HP2 := Lib.hid hP2; have hX := Ext.trans (show Ext w _ from (by (repeat (with_reducible (first | assumption | exact Ext.refl _ | refine Ext.alloc ?_ _ | refine Ext.drewN ?_ _ | refine Ext.drew ?_))))) hE3; have hY := Ext.trans (show Ext w2 _ from (by (repeat (with_reducible (first | assumption | exact Ext.refl _ | refine Ext.alloc ?_ _ | refine Ext.drewN ?_ _ | refine Ext.drew ?_))))) hE3; have hc3 := hE3.cells; have hz3 := hE3.lt (show w2.heap.size < _ by simp); clear hP2 hE3)
      | (go_at_call 17; (with_reducible refine (eqP_c l ao ao2 cap cap2 _ (HP.out.ext (by (repeat (with_reducible (first | assumption | exact Ext.refl _ | refine Ext.alloc ?_ _ | refine Ext.drewN ?_ _ | refine Ext.drew ?_))))) (HP2.out.ext (by (repeat (with_reducible (first | assumption | exact Ext.refl _ | refine Ext.alloc ?_ _ | refine Ext.drewN ?_ _ | refine Ext.drew ?_)))))).mono ?_); rintro e w4 ⟨rfl, hE4⟩; have hX := Ext.trans (show Ext w _ from (by (repeat (with_reducible (first | assumption | exact Ext.refl _ | refine Ext.alloc ?_ _ | refine Ext.drewN ?_ _ | refine Ext.drew ?_))))) hE4; clear hE4)
      | go_in)
    all_goals
      go_ret
      exact ⟨rfl, (by (repeat (with_reducible (first | assumption | exact Ext.refl _ | refine Ext.alloc ?_ _ | refine Ext.drewN ?_ _ | refine Ext.drew ?_))))⟩
  · have d1 : (1000 : Int) < (s.length : Int) := by omega
    clear h1
    go_enter Try.func4, Try.ntmps4
    go_wp2_with (first
      | (go_at_call 6; (with_reducible refine (awake_c _).mono ?_); rintro e w1 ⟨rfl, hE1⟩))
    go_ret
    exact ⟨rfl, hE1⟩
end Go.Proofs.Yticckkadmhklmaa
/- Opening arguments: integers' bounds. -/
namespace Go.Proofs.Yticckkadmhklmaa
open Go.ChangeShapes Go.WideShapes Go.ChangeAt Go.RowKit

theorem i64_wf {n : Int} (h : (Lit.int .i64 n).wf = true) : -9223372036854775808 ≤ n ∧ n ≤ 9223372036854775807 := by
  simp only [Lit.wf, Bool.and_eq_true, decide_eq_true_eq] at h
  exact h
theorem u8_wf {n : Int} (h : (Lit.int .u8 n).wf = true) : 0 ≤ n ∧ n ≤ 255 := by
  simp only [Lit.wf, Bool.and_eq_true, decide_eq_true_eq] at h
  exact h
end Go.Proofs.Yticckkadmhklmaa
/- What every frame of this seat uses: no knob is set; the types are laid out. -/
namespace Go.Proofs.Yticckkadmhklmaa
theorem own : ownKnob Try.prog.godebug = none := by kernel_rfl
theorem laidOut : laidOutB Try.prog = true := by kernel_rfl
end Go.Proofs.Yticckkadmhklmaa
