/- The walks of the reference's Rule and Holds, whole. -/
import Derived.Test.YtbagbnceiadpdaaDoorRef6
namespace Go.Proofs.YtbagbnceiadpdaaDoor
set_option linter.unusedVariables false
set_option linter.unusedSimpArgs false
open Go.RowKit

theorem rRule_c (s : List UInt8) (N : Nat) (w : World) (hs : s.length ≤ 4000) (hN : (N : Int) ≤ 4611686018427387904) :
    Calls Tryd.prog 17 #[.string ⟨s.toArray⟩, .int .i64 (N : Int)] w fun e w' => e = .returned (.tuple #[.bool (okR s), .bool (okR s && (rul N (wds s)).1)]) ∧ Ext w w' := by
  by_cases h : s.length ≤ 200
  · have e1 : okR s = (rul N (wds s)).2 := by unfold okR; rw [rul_ind 0 N]; simp [h]
    rw [e1]
    have q := rRule_in s N w h hN
    have e2 : rfL N false true (spl 32 s) = ((rul N (wds s)).2, (rul N (wds s)).2 && (rul N (wds s)).1) := by
      rw [rfL_rul]
      show (if (rul N (wds s)).2 = true then (true, (rul N (wds s)).1) else (false, false)) = _
      cases (rul N (wds s)).2 <;> rfl
    rw [e2] at q
    exact q
  · have e1 : okR s = false := by unfold okR; simp; omega
    have d0 : decide (200 < (s.length : Int)) = true := by simp; omega
    have He := Lib.hid e1
    clear e1 h
    go_enter Tryd.func17, Tryd.ntmps17
    go_wp2
    go_ret2
    exact ⟨by rw [He.out]; rfl, Ext.refl _⟩
theorem rRule_0 (s : List UInt8) (w : World) (hs : s.length ≤ 4000) :
    Calls Tryd.prog 17 #[.string ⟨s.toArray⟩, .int .i64 0] w fun e w' => e = .returned (.tuple #[.bool (okR s), .bool (okR s && (rul 0 (wds s)).1)]) ∧ Ext w w' := rRule_c s 0 w hs (by omega)
theorem abs_c (n : Int) (w : World) (h1 : -4611686018427387904 ≤ n) (h2 : n ≤ 4611686018427387904) :
    Calls Tryd.prog 18 #[.int .i64 n] w fun e w' => e = .returned (.int .i64 (n.natAbs : Nat)) ∧ w = w' := by
  have Hz : Hid (((n.natAbs : Nat) : Int) = if -n < n then n else -n) := by unfold Hid; split <;> omega
  by_cases h : -n < n
  all_goals
    go_enter Tryd.func18, Tryd.ntmps18
    go_wp2
    go_ret
    exact ⟨ret_i (by rw [Hz.out]; first | (split <;> omega) | (simp [h] <;> omega)), rfl⟩
set_option maxRecDepth 100000 in
theorem rholds_c (s : List UInt8) (n : Int) (w : World) (hs : s.length ≤ 4000) :
    Calls Tryd.prog 8 #[.string ⟨s.toArray⟩, .int .i64 n] w fun e w' => e = .returned (.tuple #[.bool (hoV s n), .int .i64 (hoE s n)]) ∧ Ext w w' := by
  rcases Bool.eq_false_or_eq_true (okR s) with h1 | h1
  · rcases Bool.eq_false_or_eq_true (inrB n) with h2 | h2
    · have HE : Hid (hoE s n = 0) := by simp [Hid, hoE, h1, h2]
      have HV : Hid (hoV s n = (rul n.natAbs (wds s)).1) := by simp [Hid, hoV, HE.out]
      obtain ⟨a, c⟩ : -4611686018427387904 ≤ n ∧ n ≤ 4611686018427387904 := of_decide_eq_true h2
      go_enter Tryd.func8, Tryd.ntmps8
      go_wp2_with (first
        | (go_at_call 17; (with_reducible refine (rRule_0 s _ hs).mono ?_); rw [h1]; rintro e w1 ⟨rfl, hE1⟩)
        | (go_at_call 18; refine (abs_c n _ a c).mono ?_; rintro e w3 ⟨rfl, rfl⟩)
        | (go_at_call 17; (with_reducible refine (rRule_c s n.natAbs _ hs (by omega)).mono ?_); rw [h1]; rintro e w4 ⟨rfl, hE4⟩))
      go_ret2
      exact ⟨by rw [HE.out, HV.out]; rfl, hE1.trans hE4⟩
    · have HE : Hid (hoE s n = 2) := by simp [Hid, hoE, h1, h2]
      have HV : Hid (hoV s n = false) := by simp [Hid, hoV, HE.out]
      have h3 : ¬ (-4611686018427387904 ≤ n ∧ n ≤ 4611686018427387904) := of_decide_eq_false h2
      by_cases q : n < -4611686018427387904
      all_goals
        go_enter Tryd.func8, Tryd.ntmps8
        go_wp2_with (go_at_call 17; (with_reducible refine (rRule_0 s _ hs).mono ?_); rw [h1]; rintro e w1 ⟨rfl, hE1⟩)
        go_ret2
        exact ⟨by rw [HE.out, HV.out]; rfl, hE1⟩
  · have HE : Hid (hoE s n = 3) := by simp [Hid, hoE, h1]
    have HV : Hid (hoV s n = false) := by simp [Hid, hoV, HE.out]
    go_enter Tryd.func8, Tryd.ntmps8
    go_wp2_with (go_at_call 17; (with_reducible refine (rRule_0 s _ hs).mono ?_); rw [h1]; rintro e w1 ⟨rfl, hE1⟩)
    go_ret2
    exact ⟨by rw [HE.out, HV.out]; rfl, hE1⟩
end Go.Proofs.YtbagbnceiadpdaaDoor
