/- Rules for numbers, plainly: a rule repeats. No program in sight. -/
import Derived.Test.YtbagbnceiadpdaaDoorLog3
namespace Go.Proofs.YtbagbnceiadpdaaDoor
set_option linter.unusedVariables false
set_option linter.unusedSimpArgs false

/-- Behind 'mod' stands a number that is not 0. -/
theorem mod_num (n : Nat) (k : Nat) : ∀ (any all : Bool) (A : List (List UInt8)), A.length ≤ k → (rfL n any all A).1 = true → ∀ i, A[i]? = some wMod → ∃ x, A[i + 1]? = some x ∧ numB x = true ∧ numN x ≠ 0 := by
  induction k with
  | zero =>
    intro any all A hk h i hi
    obtain rfl : A = [] := List.length_eq_zero_iff.1 (by omega)
    simp at hi
  | succ k ih =>
    intro any all A hk h i hi
    have m1 : numB wMod = false ∧ listB wMod = false ∧ wMod ≠ wN ∧ wMod ≠ wIs ∧ wMod ≠ wNot ∧ wMod ≠ wOr ∧ wMod ≠ wAnd := by decide
    obtain ⟨m1, m2, m3, m4, m5, m6, m7⟩ := m1
    cases hb : teB A with
    | false => rw [rfL_bad n any all _ hb] at h; cases h
    | true =>
      have rest : ∀ w r, teR A = w :: r → (w = wOr ∨ w = wAnd) ∧ ∃ any' all', (rfL n any' all' r).1 = true := by
        intro w r hr
        rw [rfL_go n any all _ w r hb hr] at h
        by_cases c1 : w = wOr
        · rw [if_pos c1] at h; exact ⟨.inl c1, _, _, h⟩
        · rw [if_neg c1] at h
          by_cases c2 : w = wAnd
          · rw [if_pos c2] at h; exact ⟨.inr c2, _, _, h⟩
          · rw [if_neg c2] at h; cases h
      rcases te_form A hb with ⟨o, l, r', rfl, ho, hl, e, _⟩ | ⟨c, o, l, r', rfl, hc, hc0, ho, hl, e, _⟩
      · rw [e] at rest
        rcases i with _ | _ | _ | i
        · exact absurd (Option.some.inj hi) (Ne.symm m3)
        · have := Option.some.inj hi
          rcases ho with q | q
          · exact absurd (this.symm.trans q) m4
          · exact absurd (this.symm.trans q) m5
        · have := Option.some.inj hi
          rw [this] at hl; rw [hl] at m2; cases m2
        · have hi' : r'[i]? = some wMod := by simpa using hi
          cases r' with
          | nil => simp at hi'
          | cons w r =>
            obtain ⟨hw, a', b', hr⟩ := rest w r rfl
            cases i with
            | zero =>
              have := Option.some.inj hi'
              rcases hw with q | q
              · exact absurd (this.symm.trans q) m6
              · exact absurd (this.symm.trans q) m7
            | succ i =>
              obtain ⟨x, x1, x2⟩ := ih a' b' r (by simp at hk; omega) hr i (by simpa using hi')
              exact ⟨x, by simpa using x1, x2⟩
      · rw [e] at rest
        rcases i with _ | _ | _ | _ | _ | i
        · exact absurd (Option.some.inj hi) (Ne.symm m3)
        · exact ⟨c, rfl, hc, hc0⟩
        · have := Option.some.inj hi
          rw [this] at hc; rw [hc] at m1; cases m1
        · have := Option.some.inj hi
          rcases ho with q | q
          · exact absurd (this.symm.trans q) m4
          · exact absurd (this.symm.trans q) m5
        · have := Option.some.inj hi
          rw [this] at hl; rw [hl] at m2; cases m2
        · have hi' : r'[i]? = some wMod := by simpa using hi
          cases r' with
          | nil => simp at hi'
          | cons w r =>
            obtain ⟨hw, a', b', hr⟩ := rest w r rfl
            cases i with
            | zero =>
              have := Option.some.inj hi'
              rcases hw with q | q
              · exact absurd (this.symm.trans q) m6
              · exact absurd (this.symm.trans q) m7
            | succ i =>
              obtain ⟨x, x1, x2⟩ := ih a' b' r (by simp at hk; omega) hr i (by simpa using hi')
              exact ⟨x, by simpa using x1, x2⟩
/-- Each number behind 'mod' divides P; n itself is not tested. -/
def Prd (P : Nat) (A : List (List UInt8)) : Prop := (∀ i x, A[i]? = some wMod → A[i + 1]? = some x → numN x ∣ P) ∧ ∀ i x, A[i]? = some wN → A[i + 1]? = some x → x ≠ wIs ∧ x ≠ wNot
theorem Prd.drop {P : Nat} {A : List (List UInt8)} (h : Prd P A) (j : Nat) : Prd P (A.drop j) := by
  refine ⟨fun i x h1 h2 => h.1 (j + i) x ?_ ?_, fun i x h1 h2 => h.2 (j + i) x ?_ ?_⟩
  all_goals
    simp only [List.getElem?_drop] at h1 h2
    first | exact h1 | exact h2
theorem per_law (P n t : Nat) (k : Nat) : ∀ (any all : Bool) (A : List (List UInt8)), A.length ≤ k → Prd P A → rfL (n + P * t) any all A = rfL n any all A := by
  induction k with
  | zero =>
    intro any all A hk _
    obtain rfl : A = [] := List.length_eq_zero_iff.1 (by omega)
    have e : teB ([] : List (List UInt8)) = false := by decide
    rw [rfL_bad _ any all _ e, rfL_bad _ any all _ e]
  | succ k ih =>
    intro any all A hk hp
    cases hb : teB A with
    | false => rw [rfL_bad _ any all _ hb, rfL_bad _ any all _ hb]
    | true =>
      rcases te_form A hb with ⟨o, l, r', rfl, ho, hl, e, _⟩ | ⟨c, o, l, r', rfl, hc, hc0, ho, hl, e, hh⟩
      · exfalso
        obtain ⟨a, b⟩ := hp.2 0 o rfl rfl
        rcases ho with q | q
        · exact a q
        · exact b q
      · have hd : numN c ∣ P := hp.1 1 c rfl rfl
        have hm : (n + P * t) % numN c = n % numN c := by
          obtain ⟨z, rfl⟩ := hd
          rw [Nat.mul_assoc, Nat.add_mul_mod_self_left]
        have hte : teH (n + P * t) (wN :: wMod :: c :: o :: l :: r') = teH n (wN :: wMod :: c :: o :: l :: r') := by rw [hh, hh, hm]
        cases r' with
        | nil => rw [rfL_end _ any all _ hb e, rfL_end _ any all _ hb e, hte]
        | cons w r =>
          rw [rfL_go _ any all _ w r hb e, rfL_go _ any all _ w r hb e, hte]
          have hr : Prd P r := hp.drop 6
          have hlt : r.length ≤ k := by simp at hk; omega
          by_cases c1 : w = wOr
          · rw [if_pos c1, if_pos c1]; exact ih _ _ r hlt hr
          · rw [if_neg c1, if_neg c1]
            by_cases c2 : w = wAnd
            · rw [if_pos c2, if_pos c2]; exact ih _ _ r hlt hr
            · rw [if_neg c2, if_neg c2]
/-- What stands side by side stands in the text. -/
theorem not_next (s x y : List UInt8) (h : Lib.contains s (x ++ 32 :: y) = false) : ∀ i, (spl 32 s)[i]? = some x → (spl 32 s)[i + 1]? ≠ some y := by
  intro i h1 h2
  obtain ⟨l1, e1⟩ := List.getElem?_eq_some_iff.1 h1
  obtain ⟨l2, e2⟩ := List.getElem?_eq_some_iff.1 h2
  have e : spl 32 s = (spl 32 s).take i ++ x :: y :: (spl 32 s).drop (i + 2) := by
    rw [← e1, ← e2, ← List.drop_eq_getElem_cons l2, ← List.drop_eq_getElem_cons l1, List.take_append_drop]
  rw [two_words 32 s x y _ _ e] at h
  cases h
theorem per_val (s : List UInt8) (P n t : Nat) (ho : okW (spl 32 s) = true) (h1 : Lib.contains s [110, 32, 105, 115] = false) (h2 : Lib.contains s [110, 32, 110, 111, 116] = false)
    (hd : ∀ i x, (spl 32 s)[i]? = some wMod → (spl 32 s)[i + 1]? = some x → numN x ∣ P) : vlW (n + P * t) (spl 32 s) = vlW n (spl 32 s) := by
  have hp : Prd P (spl 32 s) := ⟨hd, fun i x a b => ⟨fun q => not_next s wN wIs h1 i a (by rw [b, q]), fun q => not_next s wN wNot h2 i a (by rw [b, q])⟩⟩
  rw [← (rfL_ok (n + P * t) _).2 ho, ← (rfL_ok n _).2 ho, per_law P n t _ false true _ (Nat.le_refl _) hp]
theorem mod_word (s : List UInt8) (ho : okW (spl 32 s) = true) (i : Nat) (h : (spl 32 s)[i]? = some wMod) : ∃ x, (spl 32 s)[i + 1]? = some x ∧ numB x = true ∧ numN x ≠ 0 :=
  mod_num 0 _ false true (spl 32 s) (Nat.le_refl _) (by rw [(rfL_ok 0 _).1]; exact ho) i h
end Go.Proofs.YtbagbnceiadpdaaDoor
