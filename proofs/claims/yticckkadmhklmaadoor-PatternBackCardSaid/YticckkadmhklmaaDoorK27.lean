/- The walk of the law PatternCompiles. -/
import Derived.Test.YticckkadmhklmaaDoorK24
import Derived.Test.YticckkadmhklmaaDoorK26
namespace Go.Proofs.YticckkadmhklmaaDoor
set_option linter.unusedVariables false
set_option linter.unusedSimpArgs false
open Go.RowKit

set_option maxRecDepth 100000 in
set_option maxHeartbeats 1000000 in
/-- Two slices that hold the same parts are equal. -/
theorem eqP_c (l : List Prt) (ao ao2 : Option Addr) (cap cap2 : Nat) (w : World) (h1 : PtV ao cap l w) (h2 : PtV ao2 cap2 l w) : Calls Tryd.prog 8 #[.slice ao l.length cap, .slice ao2 l.length cap2] w fun e w' => e = .returned (.bool true) ∧ Ext w w' := by
  have hlen := h1.1
  have hcap := h1.2.1
  have hlen2 := h2.1
  have hcap2 := h2.2.1
  unfold maxLen at hcap hcap2
  have H1 := Lib.hid h1.2.2
  have H2 := Lib.hid h2.2.2
  clear h1 h2
  go_enter Tryd.func8, Tryd.ntmps8
  go_wp2_with fail
  go_loopw [13] (fun i wr => ∃ (j q : Nat), j ≤ l.length ∧ i = .int .i64 (j : Int) ∧ wr = w.drewN q) (fun i _ => l.length - (intOf i).toNat)
  case atStart => exact ⟨0, 0, Nat.zero_le _, rfl, rfl⟩
  case round =>
    obtain ⟨j, q, hj, rfl, rfl⟩ := hrel
    by_cases hlt : j < l.length
    · obtain ⟨R, off, rfl, hRl, hRc⟩ := H1.out (by rintro rfl; simp at hlt)
      obtain ⟨R2, off2, rfl, hRl2, hRc2⟩ := H2.out (by rintro rfl; simp at hlt)
      obtain ⟨g0, g1, g2⟩ := hRc j hlt
      obtain ⟨n0, n1, n2⟩ := hRc2 j hlt
      obtain ⟨p, hpp⟩ : ∃ p, p = l[j] := ⟨_, rfl⟩
      rw [← hpp] at g0 g1 g2 n0 n1 n2
      clear hpp hRc hRc2
      obtain ⟨pk, pw, pt⟩ := p
      simp only at g0 g1 g2 n0 n1 n2
      go_upto_region 6 with fail
      go_quiet (fail)
      go_wp2_with fail
      go_roundw
      case rel => exact ⟨j + 1, q + nq, by omega, by go_num, by trivial⟩
      case measure => simp [intOf]; omega
    · obtain rfl : j = l.length := by omega
      clear hlt
      go_wp2_with fail
      go_ret
      exact ⟨rfl, (Ext.refl w).drewN _⟩
end Go.Proofs.YticckkadmhklmaaDoor
