/- The walks of the laws ClockTimes, ClockInstants, ClockRounds. -/
import Derived.Test.YtplckoffiebibaaDoorAwk
namespace Go.Proofs.YtplckoffiebibaaDoor
open Go.RowKit

set_option maxHeartbeats 1000000 in
theorem rounds_walk (n u k : Int) (w : World) (hL : Laid w) (_ : -9223372036854775808 ≤ n) (_ : n ≤ 9223372036854775807) (_ : -9223372036854775808 ≤ u) (_ : u ≤ 9223372036854775807) (_ : -9223372036854775808 ≤ k) (_ : k ≤ 9223372036854775807) :
    Calls Tryd.prog 9 #[.int .i64 n, .int .i64 u, .int .i64 k] w fun e w' => e = .returned (.bool true) ∧ Ext w w' := by
  have HL := Lib.hid hL
  clear hL
  go_enter Tryd.func9, Tryd.ntmps9
  go_wp2_with (first
    | (go_at_call 13; refine (awake_c _ HL.out).mono ?_; rintro e w1 ⟨rfl, hE1⟩)
    | (go_at_call 38; refine (round_c _ _ _ _).mono ?_; rintro e w2 ⟨rfl, nq, rfl⟩)
    | (go_at_call 39; refine (rround_c _ _ _ _).mono ?_; rintro e w2 ⟨rfl, nr, rfl⟩))
  go_ret
  exact ⟨rfl, hE1.trans ((Ext.refl _).drewN _)⟩

end Go.Proofs.YtplckoffiebibaaDoor
