/- parD (durT n) = (n, 0): what Duration writes ParseDuration reads. -/
import Derived.Test.YtplckoffiebibaaDoorRead
namespace Go.Proofs.YtplckoffiebibaaDoor

theorem tail_prt (a b c V : Nat) : tailP (prt a 72 ++ prt b 77 ++ prt c 83) V = some (V + a * 3600 + b * 60 + c) := by
  have d72 : isDg 72 = false := by decide
  have d77 : isDg 77 = false := by decide
  have d83 : isDg 83 = false := by decide
  have n1 : (77 : UInt8) ≠ 72 := by decide
  have n2 : (83 : UInt8) ≠ 72 := by decide
  have n3 : (83 : UInt8) ≠ 77 := by decide
  unfold tailP
  by_cases ha : a = 0 <;> by_cases hb : b = 0 <;> by_cases hc : c = 0 <;>
    simp [prt, ha, hb, hc, try_dec, try_not, try_nil, d72, d77, d83, n1, n2, n3] <;> omega
theorem body_dur (n : Nat) (hn : 0 < n) : bodyP (prt (n / 86400) 68 ++ (if tpr n = [] then [] else 84 :: tpr n)) = some n := by
  have d68 : isDg 68 = false := by decide
  have ht := tail_prt (n / 3600 % 24) (n / 60 % 60) (n % 60)
  have hz : tpr n = [] → n % 86400 = 0 := by
    unfold tpr prt
    intro h
    simp only [List.append_eq_nil_iff] at h
    obtain ⟨⟨h1, h2⟩, h3⟩ := h
    have e1 : n / 3600 % 24 = 0 := by apply Classical.byContradiction; intro q; rw [if_neg q] at h1; simp at h1
    have e2 : n / 60 % 60 = 0 := by apply Classical.byContradiction; intro q; rw [if_neg q] at h2; simp at h2
    have e3 : n % 60 = 0 := by apply Classical.byContradiction; intro q; rw [if_neg q] at h3; simp at h3
    omega
  unfold bodyP
  by_cases hq : n / 86400 = 0
  · by_cases hp : tpr n = []
    · have := hz hp; omega
    · rw [hq, prt_zero, if_neg hp, List.nil_append, try_T]
      simp only [ne_eq, true_and]
      rw [if_pos hp]
      have := ht 0
      unfold tpr
      exact this.trans (congrArg some (by omega))
  · rw [prt_pos hq]
    by_cases hp : tpr n = []
    · rw [if_pos hp, List.append_nil, try_dec 68 86400 _ 0 [] d68]
      have := hz hp
      show some (0 + n / 86400 * 86400) = some n
      exact congrArg some (by omega)
    · rw [if_neg hp, List.append_assoc, List.singleton_append, try_dec 68 86400 _ 0 _ d68]
      simp only [ne_eq, true_and]
      rw [if_pos hp]
      have := ht (0 + n / 86400 * 86400)
      unfold tpr
      exact this.trans (congrArg some (by omega))
end Go.Proofs.YtplckoffiebibaaDoor
