/- Reading what was printed: a number's digits; the parts of a duration's text; parD of a built text; parD (durT n) = (n, 0). -/
import Derived.Test.YtplckoffiebibaaDoorPar
import Derived.Test.YtplckoffiebibaaDoorDur
namespace Go.Proofs.YtplckoffiebibaaDoor

theorem dg_isDg (d : Nat) (h : d < 10) : isDg (UInt8.ofNat (48 + d)) = true := by
  rw [isDg_iff, UInt8.toNat_ofNat']
  omega
theorem dg_val (d : Nat) (h : d < 10) : (UInt8.ofNat (48 + d)).toNat - 48 = d := by
  rw [UInt8.toNat_ofNat']
  omega
theorem dec_all (q : Nat) : ∀ c ∈ Lib.decDigits q, isDg c = true := by
  induction q using Nat.strongRecOn with
  | ind q ih =>
    rw [Lib.decDigits]
    split
    · intro c hc
      simp only [List.mem_singleton] at hc
      subst hc
      exact dg_isDg q (by omega)
    · intro c hc
      rw [List.mem_append] at hc
      rcases hc with hc | hc
      · exact ih (q / 10) (by omega) c hc
      · simp only [List.mem_singleton] at hc
        subst hc
        exact dg_isDg _ (Nat.mod_lt _ (by omega))
theorem dec_val (q : Nat) : val (Lib.decDigits q) = q := by
  induction q using Nat.strongRecOn with
  | ind q ih =>
    rw [Lib.decDigits]
    split
    · unfold val
      simp only [List.foldl_cons, List.foldl_nil]
      rw [dg_val q (by omega)]; omega
    · rw [val_snoc, ih (q / 10) (by omega), dg_val _ (Nat.mod_lt _ (by omega))]; omega
theorem dec_ne (q : Nat) : Lib.decDigits q ≠ [] := by
  rw [Lib.decDigits]
  split
  · simp
  · simp
theorem tw_dec (l : List UInt8) (hl : ∀ c ∈ l, isDg c = true) (c : UInt8) (hc : isDg c = false) (r : List UInt8) : (l ++ c :: r).takeWhile isDg = l := by
  rw [List.takeWhile_append_of_pos hl, List.takeWhile_cons_of_neg (by simp [hc]), List.append_nil]
theorem dgN_of (l : List UInt8) (hl : ∀ c ∈ l, isDg c = true) (c : UInt8) (hc : isDg c = false) (r : List UInt8) : dgN (l ++ c :: r) = l.length := by unfold dgN; rw [tw_dec l hl c hc r]
theorem numV_of (l : List UInt8) (hl : ∀ c ∈ l, isDg c = true) (c : UInt8) (hc : isDg c = false) (r : List UInt8) : numV (l ++ c :: r) = val l := by unfold numV; rw [tw_dec l hl c hc r]
theorem rst_of (l : List UInt8) (hl : ∀ c ∈ l, isDg c = true) (c : UInt8) (hc : isDg c = false) (r : List UInt8) : rst (l ++ c :: r) = c :: r := by
  unfold rst
  rw [dgN_of l hl c hc r, List.drop_left]
/-- One part that is there. -/
theorem try_dec (c : UInt8) (u q V : Nat) (r : List UInt8) (hc : isDg c = false) : tryP c u (Lib.decDigits q ++ c :: r, V) = (r, V + q * u) := by
  have h := tryP_yes c u (Lib.decDigits q ++ c :: r) r V (by rw [dgN_of _ (dec_all q) c hc r]; exact List.length_pos_iff.2 (dec_ne q)) (rst_of _ (dec_all q) c hc r)
  rw [numV_of _ (dec_all q) c hc r, dec_val] at h
  exact h
/-- One part that is not there, but another. -/
theorem try_not (c d : UInt8) (u q V : Nat) (r : List UInt8) (hd : isDg d = false) (hne : d ≠ c) : tryP c u (Lib.decDigits q ++ d :: r, V) = (Lib.decDigits q ++ d :: r, V) :=
  tryP_other c d u _ r V (rst_of _ (dec_all q) d hd r) hne
/-- The same with one zero ahead. -/
theorem try_zero (c : UInt8) (u q V : Nat) (r : List UInt8) (hc : isDg c = false) : tryP c u (48 :: (Lib.decDigits q ++ c :: r), V) = (r, V + q * u) := by
  have ha : ∀ x ∈ 48 :: Lib.decDigits q, isDg x = true := by
    intro x hx
    rcases List.mem_cons.1 hx with rfl | hx
    · decide
    · exact dec_all q x hx
  have h := tryP_yes c u ((48 :: Lib.decDigits q) ++ c :: r) r V (by rw [dgN_of _ ha c hc r]; simp) (rst_of _ ha c hc r)
  rw [numV_of _ ha c hc r] at h
  have hv : val (48 :: Lib.decDigits q) = val (Lib.decDigits q) := by unfold val; rfl
  rw [hv, dec_val] at h
  exact h
theorem try_nil (c : UInt8) (u V : Nat) : tryP c u ([], V) = ([], V) := tryP_no c u [] V dgN_nil
theorem try_T (c : UInt8) (u V : Nat) (r : List UInt8) : tryP c u (84 :: r, V) = (84 :: r, V) := tryP_no c u _ V (dgN_T r)
/-- The texts of the law ClockSums. -/
theorem sum_all (d h m s : Nat) : bodyP (Lib.decDigits d ++ 68 :: 84 :: (Lib.decDigits h ++ 72 :: (Lib.decDigits m ++ 77 :: 48 :: (Lib.decDigits s ++ [83])))) = some (d * 86400 + h * 3600 + m * 60 + s) := by
  unfold bodyP
  rw [try_dec 68 86400 d 0 _ (by decide)]
  simp only [ne_eq, true_and]
  rw [if_pos (by simp)]
  unfold tailP
  rw [try_dec 72 3600 h _ _ (by decide), try_dec 77 60 m _ _ (by decide), try_zero 83 1 s _ _ (by decide)]
  simp
theorem sum_day (d : Nat) : bodyP (Lib.decDigits d ++ [68]) = some (d * 86400) := by
  unfold bodyP
  rw [try_dec 68 86400 d 0 _ (by decide)]
  simp
theorem sum_hs (h s : Nat) : bodyP (84 :: (Lib.decDigits h ++ 72 :: (Lib.decDigits s ++ [83]))) = some (h * 3600 + s) := by
  unfold bodyP
  rw [try_T]
  simp only [ne_eq, true_and]
  rw [if_pos (by simp)]
  unfold tailP
  rw [try_dec 72 3600 h _ _ (by decide), try_not 77 83 60 s _ _ (by decide) (by decide), try_dec 83 1 s _ _ (by decide)]
  simp
end Go.Proofs.YtplckoffiebibaaDoor
