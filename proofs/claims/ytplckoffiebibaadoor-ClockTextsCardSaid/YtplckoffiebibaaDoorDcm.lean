/- Decimal texts built digit by digit: when all digits are there. -/
import Derived.Test.YtplckoffiebibaaDoorDec
namespace Go.Proofs.YtplckoffiebibaaDoor
set_option linter.unusedVariables false
set_option linter.unusedSimpArgs false
open Go.RowKit

theorem nDigits_eq (N j : Nat) (h1 : N / 10 ^ (j + 1) = 0) (h2 : j = 0 ∨ N / 10 ^ j ≠ 0) : Lib.nDigits N = j + 1 := by
  have hp := Lib.nDigits_pos N
  have hlt := Lib.lt_pow_nDigits N
  have hup : Lib.nDigits N ≤ j + 1 := by
    rcases Nat.eq_zero_or_pos N with rfl | hN
    · rw [Lib.nDigits_small (by decide)]; omega
    · exact div_zero_of hN h1
  rcases h2 with rfl | h2
  · omega
  · rcases Nat.lt_or_ge j (Lib.nDigits N) with q | q
    · omega
    · exact absurd (Nat.div_eq_of_lt (Nat.lt_of_lt_of_le hlt (Nat.pow_le_pow_right (by decide) q))) h2
theorem padN_all (N j : Nat) (h1 : N / 10 ^ (j + 1) = 0) (h2 : j = 0 ∨ N / 10 ^ j ≠ 0) : padN (j + 1) N = Lib.decDigits N := by
  rw [← nDigits_eq N j h1 h2, padN_decDigits]
/-- A text of one byte, out of a slice of one byte. -/
theorem byte_str (w : World) (q : Nat) : (convert 59 9 (.slice (some ⟨w.heap.size, 0, none⟩) 1 1)).run Tryd.prog (w.alloc (.cells #[.int .u8 (48 + (q : Int) % 10)] 5)) = .ok (.string ⟨#[dg1 q]⟩) (w.alloc (.cells #[.int .u8 (48 + (q : Int) % 10)] 5)) := by
  exact run_convert_bytes_back (P := Tryd.prog) (w.alloc (.cells #[.int .u8 (48 + (q : Int) % 10)] 5)) 59 9 5 ⟨w.heap.size, 0, none⟩ 1 [dg1 q] Tryd.underlying59 Tryd.underlying5 Tryd.underlying9 (by
    intro j hj
    have : j = 0 := by simpa using hj
    subst this
    rw [show (⟨w.heap.size, 0, none⟩ : Addr).add 0 = ⟨w.heap.size, 0, none⟩ from by unfold Addr.add; split <;> simp_all, World.cell?_alloc_new]
    simp [dg1_toNat])
end Go.Proofs.YtplckoffiebibaaDoor
