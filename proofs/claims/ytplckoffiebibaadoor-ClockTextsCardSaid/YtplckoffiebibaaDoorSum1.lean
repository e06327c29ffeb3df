/- The closures of the law ClockSums; the reference's decimal texts. -/
import Derived.Test.YtplckoffiebibaaDoorAwk
import Derived.Test.YtplckoffiebibaaDoorRead
import Derived.Test.YtplckoffiebibaaDoorDcm
namespace Go.Proofs.YtplckoffiebibaaDoor
set_option linter.unusedVariables false
set_option linter.unusedSimpArgs false
open Go.RowKit

def fewB (n : Int) : Bool := decide (0 ≤ n ∧ n ≤ 1000000)
theorem few_c (n : Int) (w : World) : Calls Tryd.prog 36 #[.int .i64 n] w fun e w' => e = .returned (.bool (fewB n)) ∧ w = w' := by
  by_cases a : 0 ≤ n
  · by_cases b : n ≤ 1000000
    all_goals
      go_enter Tryd.func36, Tryd.ntmps36
      go_wp2
      go_ret
      exact ⟨ret_b (by simp [fewB, a, b]), rfl⟩
  · go_enter Tryd.func36, Tryd.ntmps36
    go_wp2
    go_ret
    exact ⟨ret_b (by simp [fewB]; omega), rfl⟩
set_option maxRecDepth 100000 in
set_option maxHeartbeats 1000000 in
theorem cl_number (N : Nat) (w : World) (hN : N < 10000000000) :
    Calls Tryd.prog 37 #[.int .i64 (N : Int)] w fun e w' => e = .returned (.string ⟨(Lib.decDigits N).toArray⟩) ∧ Ext w w' := by
  go_enter Tryd.func37, Tryd.ntmps37
  go_wp2_with fail
  go_loopw [0, 3] (fun n t wr => ∃ j q : Nat, n = .int .i64 (q : Int) ∧ t = .string ⟨(padN j N).toArray⟩ ∧ q + j ≤ N ∧ Hid (q = N / 10 ^ j ∧ (j = 0 ∨ q ≠ 0)) ∧ Ext w wr) (fun n t _ => (intOf n).toNat + (match t with | .string b => if b.size = 0 then 1 else 0 | _ => 0))
  case atStart => exact ⟨0, N, rfl, rfl, by omega, ⟨by simp, .inl rfl⟩, Ext.refl _⟩
  case round =>
    obtain ⟨j, q, rfl, rfl, hq, Hq, hE⟩ := hrel
    have hcv := byte_str wr q
    have hl := padN_length j N
    by_cases h0 : q / 10 = 0
    · have t0 : ((q : Int) / 10 == 0) = true := by simp; omega
      have Hf : Hid (padN (j + 1) N = Lib.decDigits N) := by
        refine padN_all N j ?_ ?_
        · rw [← div_pow_succ N j q Hq.out.1]; exact h0
        · rcases Hq.out with ⟨rfl, h | h⟩
          · exact .inl h
          · exact .inr h
      clear h0
      go_wp2
      go_ret
      exact ⟨ret_s (by rw [str_cons, Hq.out.1, ← padN_cons, Hf.out]), hE.alloc _⟩
    · have t0 : ((q : Int) / 10 == 0) = false := by simp; omega
      have Hq2 : Hid (q / 10 = N / 10 ^ (j + 1) ∧ (j + 1 = 0 ∨ q / 10 ≠ 0)) := ⟨div_pow_succ N j q Hq.out.1, .inr h0⟩
      have hq2 : q / 10 < q := by omega
      clear h0
      go_wp2
      go_roundw
      case rel => exact ⟨j + 1, q / 10, by congr 1, (by rw [str_cons, Hq.out.1, ← padN_cons] : Value.string (⟨#[dg1 q]⟩ ++ ⟨(padN j N).toArray⟩) = Value.string ⟨(padN (j + 1) N).toArray⟩), by omega, Hq2, hE.alloc _⟩
      case measure => simp [intOf, ByteArray.size]; omega
set_option maxRecDepth 100000 in
set_option maxHeartbeats 1000000 in
theorem rdecimal_c (N : Nat) (w : World) (hN : N < 10000000000) :
    Calls Tryd.prog 83 #[.int .i64 (N : Int)] w fun e w' => e = .returned (.string ⟨(Lib.decDigits N).toArray⟩) ∧ Ext w w' := by
  have hcv0 := byte_str w N
  go_enter Tryd.func83, Tryd.ntmps83
  go_wp2_with fail
  clear hcv0
  go_loopw [0, 3] (fun n t wr => ∃ j q : Nat, n = .int .i64 (q : Int) ∧ t = .string ⟨(padN (j + 1) N).toArray⟩ ∧ q + j ≤ N ∧ Hid (q = N / 10 ^ (j + 1) ∧ (j = 0 ∨ N / 10 ^ j ≠ 0)) ∧ Ext w wr) (fun n _ _ => (intOf n).toNat)
  case atStart => exact ⟨0, N / 10, by congr 1, by simp [padN], by omega, ⟨by simp, .inl rfl⟩, (Ext.refl _).alloc _⟩
  case round =>
    obtain ⟨j, q, rfl, rfl, hq, Hq, hE⟩ := hrel
    have hl := padN_length (j + 1) N
    by_cases h0 : q = 0
    · subst h0
      have Hf : Hid (padN (j + 1) N = Lib.decDigits N) := padN_all N j Hq.out.1.symm Hq.out.2
      go_wp2
      go_ret
      exact ⟨ret_s (by rw [Hf.out]), hE⟩
    · have hcv := byte_str wr q
      have hp : 0 < (q : Int) := by omega
      have Hq2 : Hid (q / 10 = N / 10 ^ (j + 1 + 1) ∧ (j + 1 = 0 ∨ N / 10 ^ (j + 1) ≠ 0)) := ⟨div_pow_succ N (j + 1) q Hq.out.1, .inr (by rw [← Hq.out.1]; exact h0)⟩
      clear h0
      go_wp2
      go_roundw
      case rel => exact ⟨j + 1, q / 10, by congr 1, (by rw [str_cons, Hq.out.1, ← padN_cons] : Value.string (⟨#[dg1 q]⟩ ++ ⟨(padN (j + 1) N).toArray⟩) = Value.string ⟨(padN (j + 1 + 1) N).toArray⟩), by omega, Hq2, hE.alloc _⟩
      case measure => simp [intOf]; omega
end Go.Proofs.YtplckoffiebibaaDoor
