/- The form of the text of a moment, plainly. -/
import Derived.Test.YtplckoffiebibaaDoorOrd
import Derived.Test.YtplckoffiebibaaDoorRead
import Derived.Lib.AtoiAll
namespace Go.Proofs.YtplckoffiebibaaDoor
set_option linter.unusedVariables false
set_option linter.unusedSimpArgs false

/-- What stands at a place of the form. -/
def fmC (i : Nat) : UInt8 := if i = 4 ∨ i = 7 then 45 else if i = 10 then 84 else if i = 13 ∨ i = 16 then 58 else 48
def okAt (i : Nat) (c : UInt8) : Bool := if i = 4 ∨ i = 7 then c == 45 else if i = 10 then c == 84 else if i = 13 ∨ i = 16 then c == 58 else isDg c
def formL (l : List UInt8) : Prop := l.length = 19 ∧ ∀ i (h : i < l.length), okAt i l[i] = true
theorem snoc_ind {P : List UInt8 → Prop} (h0 : P []) (h1 : ∀ l c, P l → P (l ++ [c])) (l : List UInt8) : P l := by
  have H : ∀ r : List UInt8, P r.reverse := by
    intro r
    induction r with
    | nil => exact h0
    | cons c r ih => rw [List.reverse_cons]; exact h1 _ c ih
  have := H l.reverse
  rwa [List.reverse_reverse] at this
theorem val_nil : val [] = 0 := rfl
theorem dg1_val {c : UInt8} (n : Nat) (h : isDg c = true) : dg1 (10 * n + (c.toNat - 48)) = c := by
  have := isDg_iff.1 h
  rw [← UInt8.toNat_inj, dg1_toNat]; omega
/-- Digits are the text of their value. -/
theorem padN_val (l : List UInt8) (h : ∀ c ∈ l, isDg c = true) : padN l.length (val l) = l := by
  revert h
  refine snoc_ind (P := fun l => (∀ c ∈ l, isDg c = true) → padN l.length (val l) = l) ?_ ?_ l
  · intro _; rfl
  · intro l c ih h
    have ih := ih (fun x hx => h x (by simp [hx]))
    have hc := h c (by simp)
    have := isDg_iff.1 hc
    rw [List.length_append, List.length_singleton, padN, val_snoc, dg1_val _ hc]
    rw [show (10 * val l + (c.toNat - 48)) / 10 = val l from by omega, ih]
theorem val_lt (l : List UInt8) (h : ∀ c ∈ l, isDg c = true) : val l < 10 ^ l.length := by
  revert h
  refine snoc_ind (P := fun l => (∀ c ∈ l, isDg c = true) → val l < 10 ^ l.length) ?_ ?_ l
  · intro _; simp [val_nil]
  · intro l c ih h
    have := isDg_iff.1 (h c (by simp))
    have := ih (fun x hx => h x (by simp [hx]))
    rw [List.length_append, List.length_singleton, val_snoc, Nat.pow_succ]; omega
theorem val_padN (k n : Nat) (h : n < 10 ^ k) : val (padN k n) = n := by
  induction k generalizing n with
  | zero => simp at h; subst h; rfl
  | succ k ih =>
    rw [Nat.pow_succ] at h
    rw [padN, val_snoc, ih (n / 10) (by omega), dg1_toNat]; omega
theorem padN_dg (k n : Nat) : ∀ c ∈ padN k n, isDg c = true := by
  induction k generalizing n with
  | zero => intro c hc; cases hc
  | succ k ih =>
    intro c hc
    rcases List.mem_append.1 hc with h | h
    · exact ih _ c h
    · obtain rfl : c = dg1 n := by simpa using h
      rw [isDg_iff, dg1_toNat]; omega
theorem pow4 : (10 : Nat) ^ 4 = 10000 := rfl
theorem pow2 : (10 : Nat) ^ 2 = 100 := rfl
set_option maxRecDepth 100000 in
/-- A text of the form is the text of some six numbers. -/
theorem form_mtx {l : List UInt8} (h : formL l) : ∃ y m d hh mi s : Nat, y < 10000 ∧ m < 100 ∧ d < 100 ∧ hh < 100 ∧ mi < 100 ∧ s < 100 ∧ l = mtx y m d hh mi s := by
  obtain ⟨hl, ho⟩ := h
  match l, hl, ho with
  | [c0, c1, c2, c3, c4, c5, c6, c7, c8, c9, c10, c11, c12, c13, c14, c15, c16, c17, c18], _, ho =>
    have o0 : isDg c0 = true := ho 0 (by simp)
    have o1 : isDg c1 = true := ho 1 (by simp)
    have o2 : isDg c2 = true := ho 2 (by simp)
    have o3 : isDg c3 = true := ho 3 (by simp)
    have o4 : (c4 == 45) = true := ho 4 (by simp)
    have o5 : isDg c5 = true := ho 5 (by simp)
    have o6 : isDg c6 = true := ho 6 (by simp)
    have o7 : (c7 == 45) = true := ho 7 (by simp)
    have o8 : isDg c8 = true := ho 8 (by simp)
    have o9 : isDg c9 = true := ho 9 (by simp)
    have o10 : (c10 == 84) = true := ho 10 (by simp)
    have o11 : isDg c11 = true := ho 11 (by simp)
    have o12 : isDg c12 = true := ho 12 (by simp)
    have o13 : (c13 == 58) = true := ho 13 (by simp)
    have o14 : isDg c14 = true := ho 14 (by simp)
    have o15 : isDg c15 = true := ho 15 (by simp)
    have o16 : (c16 == 58) = true := ho 16 (by simp)
    have o17 : isDg c17 = true := ho 17 (by simp)
    have o18 : isDg c18 = true := ho 18 (by simp)
    simp only [beq_iff_eq] at o4 o7 o10 o13 o16
    have p : ∀ a b : UInt8, isDg a = true → isDg b = true → padN 2 (val [a, b]) = [a, b] ∧ val [a, b] < 100 := fun a b ha hb =>
      ⟨padN_val [a, b] (by intro c hc; simp at hc; rcases hc with rfl | rfl <;> assumption), val_lt [a, b] (by intro c hc; simp at hc; rcases hc with rfl | rfl <;> assumption)⟩
    have q : padN 4 (val [c0, c1, c2, c3]) = [c0, c1, c2, c3] ∧ val [c0, c1, c2, c3] < 10000 :=
      ⟨padN_val [c0, c1, c2, c3] (by intro c hc; simp at hc; rcases hc with rfl | rfl | rfl | rfl <;> assumption), val_lt [c0, c1, c2, c3] (by intro c hc; simp at hc; rcases hc with rfl | rfl | rfl | rfl <;> assumption)⟩
    refine ⟨_, _, _, _, _, _, q.2, (p c5 c6 o5 o6).2, (p c8 c9 o8 o9).2, (p c11 c12 o11 o12).2, (p c14 c15 o14 o15).2, (p c17 c18 o17 o18).2, ?_⟩
    rw [mtx_assoc]
    simp only [Int.toNat_natCast]
    rw [q.1, (p c5 c6 o5 o6).1, (p c8 c9 o8 o9).1, (p c11 c12 o11 o12).1, (p c14 c15 o14 o15).1, (p c17 c18 o17 o18).1, o4, o7, o10, o13, o16]
    rfl
/-- strconv.Atoi at a few digits. -/
theorem pu_val (l : List UInt8) : ∀ (acc : Nat), acc < 1000000 → l.length ≤ 9 → (∀ c ∈ l, isDg c = true) → Lib.parseUint10 acc l = .ok (l.foldl (fun a c => 10 * a + (c.toNat - 48)) acc) := by
  suffices H : ∀ (n : Nat) (l : List UInt8) (acc : Nat), l.length ≤ n → n ≤ 9 → acc < 10 ^ (16 - n) → (∀ c ∈ l, isDg c = true) → Lib.parseUint10 acc l = .ok (l.foldl (fun a c => 10 * a + (c.toNat - 48)) acc) by
    intro acc ha hl hd
    exact H 9 l acc hl (by omega) (by have : (10 : Nat) ^ (16 - 9) = 10000000 := rfl; omega) hd
  intro n
  induction n with
  | zero =>
    intro l acc hl _ _ _
    obtain rfl : l = [] := List.length_eq_zero_iff.1 (by omega)
    rfl
  | succ n ih =>
    intro l acc hl hn ha hd
    match l with
    | [] => rfl
    | c :: r =>
      have hc := isDg_iff.1 (hd c (by simp))
      have h16 : (10 : Nat) ^ (16 - (n + 1)) ≤ 10 ^ 15 := Nat.pow_le_pow_right (by omega) (by omega)
      have h15 : (10 : Nat) ^ 15 = 1000000000000000 := rfl
      have e : (10 : Nat) ^ (16 - n) = 10 ^ (16 - (n + 1)) * 10 := by rw [← Nat.pow_succ]; congr 1; omega
      rw [Lib.parseUint10, if_pos hc, if_neg (by omega), if_neg (by omega), ih r _ (by simpa using hl) (by omega) (by omega) (fun x hx => hd x (by simp [hx])), List.foldl_cons, Nat.mul_comm]
theorem atoi_val (l : List UInt8) (h1 : 1 ≤ l.length) (h2 : l.length ≤ 9) (hd : ∀ c ∈ l, isDg c = true) : Lib.atoiAll l = .ok (val l : Int) := by
  match l with
  | c :: r =>
    have hc := isDg_iff.1 (hd c (by simp))
    have hv := val_lt (c :: r) hd
    have h10 : (10 : Nat) ^ (c :: r).length ≤ 10 ^ 9 := Nat.pow_le_pow_right (by omega) h2
    have h9 : (10 : Nat) ^ 9 = 1000000000 := rfl
    unfold Lib.atoiAll
    simp only
    rw [if_neg (by omega)]
    unfold Lib.parseMag
    rw [if_neg (by simp), pu_val (c :: r) 0 (by omega) h2 hd]
    show (if ¬ c.toNat = 45 ∧ 9223372036854775808 ≤ val (c :: r) then _ else _) = _
    rw [if_neg (by omega), if_neg (by omega), if_neg (by omega)]
    rfl
theorem okAt_dg {k : Nat} {c : UInt8} (h : fmC k = 48) : okAt k c = isDg c := by
  unfold fmC at h
  unfold okAt
  split at h
  · exact absurd h (by decide)
  · rename_i h1
    rw [if_neg h1]
    split at h
    · exact absurd h (by decide)
    · rename_i h2
      rw [if_neg h2]
      split at h
      · exact absurd h (by decide)
      · rename_i h3
        rw [if_neg h3]
theorem okAt_sep {k : Nat} {c : UInt8} (h : fmC k ≠ 48) : okAt k c = (c == fmC k) := by
  unfold fmC at h ⊢
  unfold okAt
  split
  · rfl
  · rename_i h1
    rw [if_neg h1] at h
    split
    · rfl
    · rename_i h2
      rw [if_neg h2] at h
      split
      · rfl
      · rename_i h3
        rw [if_neg h3] at h
        exact absurd rfl h
theorem fmC_cases (k : Nat) : fmC k = 48 ∨ fmC k = 45 ∨ fmC k = 84 ∨ fmC k = 58 := by
  unfold fmC
  repeat' split
  all_goals simp
/-- Where a text of 19 bytes first departs from the form. -/
theorem first_bad {l : List UInt8} (hl : l.length = 19) (h : ¬ formL l) : ∃ p, ∃ hp : p < l.length, okAt p l[p] = false ∧ ∀ i (hi : i < l.length), i < p → okAt i l[i] = true := by
  have H : ∀ n, n ≤ l.length → (∀ i (hi : i < l.length), i < n → okAt i l[i] = true) ∨ ∃ p, ∃ hp : p < l.length, okAt p l[p] = false ∧ ∀ i (hi : i < l.length), i < p → okAt i l[i] = true := by
    intro n
    induction n with
    | zero => intro _; exact .inl (fun i _ h => absurd h (by omega))
    | succ n ih =>
      intro hn
      rcases ih (by omega) with q | q
      · rcases Bool.eq_false_or_eq_true (okAt n (l[n]'(by omega))) with e | e
        · left
          intro i hi h
          by_cases hin : i = n
          · subst hin; exact e
          · exact q i hi (by omega)
        · exact .inr ⟨n, by omega, e, q⟩
      · exact .inr q
  rcases H l.length (Nat.le_refl _) with q | q
  · exact absurd ⟨hl, fun i hi => q i hi hi⟩ h
  · exact q
theorem padN_4 (n : Nat) : padN 4 n = [dg1 (n / 10 / 10 / 10), dg1 (n / 10 / 10), dg1 (n / 10), dg1 n] := rfl
theorem padN_2 (n : Nat) : padN 2 n = [dg1 (n / 10), dg1 n] := rfl
theorem dg1_isDg (n : Nat) : isDg (dg1 n) = true := by rw [isDg_iff, dg1_toNat]; omega
theorem mtx_list (y m d h mi s : Int) : mtx y m d h mi s = [dg1 (y.toNat / 10 / 10 / 10), dg1 (y.toNat / 10 / 10), dg1 (y.toNat / 10), dg1 y.toNat, 45, dg1 (m.toNat / 10), dg1 m.toNat, 45, dg1 (d.toNat / 10), dg1 d.toNat, 84, dg1 (h.toNat / 10), dg1 h.toNat, 58, dg1 (mi.toNat / 10), dg1 mi.toNat, 58, dg1 (s.toNat / 10), dg1 s.toNat] := by
  rw [mtx_assoc, padN_4, padN_2, padN_2, padN_2, padN_2, padN_2]; rfl
set_option maxRecDepth 100000 in
theorem mtx_form (y m d h mi s : Int) : formL (mtx y m d h mi s) := by
  refine ⟨mtx_length _ _ _ _ _ _, ?_⟩
  rw [mtx_list]
  intro i hi
  have hi : i < 19 := hi
  rcases (show i = 0 ∨ i = 1 ∨ i = 2 ∨ i = 3 ∨ i = 4 ∨ i = 5 ∨ i = 6 ∨ i = 7 ∨ i = 8 ∨ i = 9 ∨ i = 10 ∨ i = 11 ∨ i = 12 ∨ i = 13 ∨ i = 14 ∨ i = 15 ∨ i = 16 ∨ i = 17 ∨ i = 18 by omega) with rfl | rfl | rfl | rfl | rfl | rfl | rfl | rfl | rfl | rfl | rfl | rfl | rfl | rfl | rfl | rfl | rfl | rfl | rfl
  all_goals first
    | exact dg1_isDg _
    | rfl
theorem mtx_s0 (y m d h mi s : Int) : ((mtx y m d h mi s).drop 0).take (4 - 0) = padN 4 y.toNat := by rw [mtx_list]; rfl
theorem mtx_s1 (y m d h mi s : Int) : ((mtx y m d h mi s).drop 5).take (7 - 5) = padN 2 m.toNat := by rw [mtx_list]; rfl
theorem mtx_s2 (y m d h mi s : Int) : ((mtx y m d h mi s).drop 8).take (10 - 8) = padN 2 d.toNat := by rw [mtx_list]; rfl
theorem mtx_s3 (y m d h mi s : Int) : ((mtx y m d h mi s).drop 11).take (13 - 11) = padN 2 h.toNat := by rw [mtx_list]; rfl
theorem mtx_s4 (y m d h mi s : Int) : ((mtx y m d h mi s).drop 14).take (16 - 14) = padN 2 mi.toNat := by rw [mtx_list]; rfl
theorem mtx_s5 (y m d h mi s : Int) : ((mtx y m d h mi s).drop 17).take (19 - 17) = padN 2 s.toNat := by rw [mtx_list]; rfl
end Go.Proofs.YtplckoffiebibaaDoor
