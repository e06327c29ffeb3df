/- parD of the texts of ClockSums; parD (durT n) = (n, 0). -/
import Derived.Test.YtplckoffiebibaaDoorRead2
import Derived.Test.YtplckoffiebibaaDoorPDur
namespace Go.Proofs.YtplckoffiebibaaDoor
set_option linter.unusedVariables false
set_option linter.unusedSimpArgs false

theorem parD_pos (r : List UInt8) (V : Nat) (hr : r ≠ []) (h : bodyP r = some V) (hV : V ≤ 4398046511104) : parD (80 :: r) = ((V : Int), 0) := by
  unfold parD
  have e : cutM (80 :: r) = (80 :: r, false) := rfl
  rw [e]
  dsimp only
  rw [if_pos ⟨rfl, hr⟩, h]
  dsimp only
  rw [if_neg (by omega)]
  rfl
theorem parD_min (r : List UInt8) (V : Nat) (hr : r ≠ []) (h : bodyP r = some V) (hV : V ≤ 4398046511104) : parD (45 :: 80 :: r) = (-(V : Int), 0) := by
  unfold parD
  have e : cutM (45 :: 80 :: r) = (80 :: r, true) := rfl
  rw [e]
  dsimp only
  rw [if_pos ⟨rfl, hr⟩, h]
  dsimp only
  rw [if_neg (by omega)]
  rfl
/-- What Duration writes ParseDuration reads. -/
theorem parD_durT (n : Int) (hl : lineB n = true) : parD (durT n) = (n, 0) := by
  obtain ⟨l1, l2⟩ : -4398046511104 ≤ n ∧ n ≤ 4398046511104 := by simpa [lineB] using hl
  unfold durT
  rw [if_neg (by simp [hl])]
  by_cases h0 : n = 0
  · subst h0
    rw [if_pos rfl]
    have := parD_pos (84 :: (Lib.decDigits 0 ++ [83])) 0 (by simp) (by
      unfold bodyP
      rw [try_T]
      simp only [ne_eq, true_and]
      rw [if_pos (by simp)]
      unfold tailP
      rw [try_not 72 83 3600 0 _ _ (by decide) (by decide), try_not 77 83 60 0 _ _ (by decide) (by decide), try_dec 83 1 0 _ _ (by decide)]
      simp) (by omega)
    rw [Lib.decDigits] at this
    exact this
  · rw [if_neg h0]
    have hb := body_dur n.natAbs (by omega)
    have hne : prt (n.natAbs / 86400) 68 ++ (if tpr n.natAbs = [] then [] else 84 :: tpr n.natAbs) ≠ [] := by
      intro e
      rw [e] at hb
      have : bodyP [] = some 0 := by unfold bodyP; rw [try_nil]
      rw [this] at hb
      have := Option.some.inj hb
      omega
    unfold durP
    rw [List.append_assoc, List.singleton_append]
    by_cases hn : n < 0
    · rw [if_pos hn, List.singleton_append, parD_min _ _ hne hb (by omega)]
      congr 1; omega
    · rw [if_neg hn, List.nil_append, parD_pos _ _ hne hb (by omega)]
      congr 1; omega
end Go.Proofs.YtplckoffiebibaaDoor
