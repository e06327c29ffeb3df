/- Rules for numbers, plainly: two rules with a word between them. No program in sight. -/
import Derived.Test.YtbagbnceiadpdaaDoorRul2
import Derived.Lib.IndexMore
import Derived.Lib.Replace
namespace Go.Proofs.YtbagbnceiadpdaaDoor
set_option linter.unusedVariables false
set_option linter.unusedSimpArgs false

theorem spl_app (c : UInt8) (y : List UInt8) : ∀ x : List UInt8, spl c (x ++ c :: y) = spl c x ++ spl c y
  | [] => by rw [List.nil_append, spl_hit]; rfl
  | d :: r => by
    rw [List.cons_append]
    by_cases h : d = c
    · subst h
      rw [spl_hit, spl_hit, spl_app d y r]
      rfl
    · obtain ⟨x, t, e1, e2⟩ := spl_cons c d r h
      obtain ⟨x', t', e3, e4⟩ := spl_cons c d (r ++ c :: y) h
      rw [spl_app c y r, e1] at e3
      simp only [List.cons_append, List.cons.injEq] at e3
      rw [e2, e4, ← e3.1, ← e3.2]
      rfl
/-- The words with the byte between them. -/
def jn (c : UInt8) : List (List UInt8) → List UInt8
  | [] => []
  | [x] => x
  | x :: y :: r => x ++ c :: jn c (y :: r)
theorem jn_app (c : UInt8) (Q : List (List UInt8)) (hQ : Q ≠ []) : ∀ P : List (List UInt8), P ≠ [] → jn c (P ++ Q) = jn c P ++ c :: jn c Q
  | [], h => absurd rfl h
  | [x], _ => by
    cases Q with
    | nil => exact absurd rfl hQ
    | cons q r => rfl
  | x :: y :: r, _ => by
    have := jn_app c Q hQ (y :: r) (by simp)
    show x ++ c :: jn c (y :: r ++ Q) = (x ++ c :: jn c (y :: r)) ++ c :: jn c Q
    rw [this]; simp
theorem jn_cons (c d : UInt8) (x : List UInt8) (t : List (List UInt8)) : jn c ((d :: x) :: t) = d :: jn c (x :: t) := by
  cases t <;> rfl
theorem jn_spl (c : UInt8) : ∀ s : List UInt8, jn c (spl c s) = s
  | [] => rfl
  | d :: r => by
    by_cases h : d = c
    · subst h
      rw [spl_hit]
      have := jn_app d (spl d r) (spl_ne d r) [[]] (by simp)
      rw [jn_spl d r] at this
      exact this
    · obtain ⟨x, t, e1, e2⟩ := spl_cons c d r h
      rw [e2, jn_cons, ← e1, jn_spl c r]
theorem contains_iff (s sub : List UInt8) : Lib.contains s sub = true ↔ ∃ u v, s = u ++ sub ++ v := by
  unfold Lib.contains
  rw [decide_eq_true_eq]
  constructor
  · intro h
    rcases Lib.index_spec s sub with ⟨h1, _⟩ | ⟨i, h1, h2, h3, _⟩
    · omega
    · unfold Lib.occAt at h3
      obtain ⟨v, hv⟩ := List.isPrefixOf_iff_prefix.1 h3
      exact ⟨s.take i, v, by rw [List.append_assoc, hv, List.take_append_drop]⟩
  · rintro ⟨u, v, rfl⟩
    rcases Lib.index_spec (u ++ sub ++ v) sub with ⟨h1, h2⟩ | ⟨i, h1, h2, h3, _⟩
    · have := h2 u.length (by simp)
      unfold Lib.occAt at this
      rw [List.append_assoc, List.drop_left] at this
      have e : sub.isPrefixOf (sub ++ v) = true := List.isPrefixOf_iff_prefix.2 ⟨v, rfl⟩
      rw [e] at this
      cases this
    · omega
/-- An inner word stands between two bytes. -/
theorem inner_word (c : UInt8) (s x : List UInt8) (p q : List (List UInt8)) (h : spl c s = p ++ x :: q) (hp : p ≠ []) (hq : q ≠ []) : Lib.contains s (c :: x ++ [c]) = true := by
  rw [contains_iff]
  refine ⟨jn c p, jn c q, ?_⟩
  have e := jn_spl c s
  rw [h, jn_app c (x :: q) (by simp) p hp] at e
  have e2 := jn_app c q hq [x] (by simp)
  rw [show [x] ++ q = x :: q from rfl] at e2
  rw [e2] at e
  rw [← e]
  simp [jn]
theorem jn_front (c : UInt8) (y : List UInt8) (q : List (List UInt8)) : ∃ v, jn c (y :: q) = y ++ v := by
  cases q with
  | nil => exact ⟨[], by simp [jn]⟩
  | cons z r => exact ⟨c :: jn c (z :: r), rfl⟩
theorem jn_back (c : UInt8) (x : List UInt8) (p : List (List UInt8)) : ∃ u, jn c (p ++ [x]) = u ++ x := by
  cases p with
  | nil => exact ⟨[], rfl⟩
  | cons z r => exact ⟨jn c (z :: r) ++ [c], by rw [jn_app c [x] (by simp) (z :: r) (by simp)]; simp [jn]⟩
/-- Two words that stand side by side. -/
theorem two_words (c : UInt8) (s x y : List UInt8) (p q : List (List UInt8)) (h : spl c s = p ++ x :: y :: q) : Lib.contains s (x ++ c :: y) = true := by
  rw [contains_iff]
  obtain ⟨u, hu⟩ := jn_back c x p
  obtain ⟨v, hv⟩ := jn_front c y q
  refine ⟨u, v, ?_⟩
  have e := jn_spl c s
  rw [h, show p ++ x :: y :: q = (p ++ [x]) ++ (y :: q) by simp, jn_app c (y :: q) (by simp) (p ++ [x]) (by simp), hu, hv] at e
  rw [← e]
  simp

/-- A word that joins. -/
def kw (w : List UInt8) : Prop := w = wOr ∨ w = wAnd
theorem kw_facts {w : List UInt8} (h : kw w) : w ≠ wN ∧ w ≠ wMod ∧ w ≠ wIs ∧ w ≠ wNot ∧ numB w = false ∧ listB w = false := by
  rcases h with rfl | rfl <;> decide
theorem nil_facts : numB [] = false ∧ listB [] = false ∧ ([] : List UInt8) ≠ wIs ∧ ([] : List UInt8) ≠ wNot ∧ ([] : List UInt8) ≠ wN ∧ ([] : List UInt8) ≠ wMod := by decide
theorem is_mods : wIs ≠ wMod ∧ wNot ≠ wMod := by decide
/-- A test of a rule is three or five words. -/
theorem te_form (ws : List (List UInt8)) (h : teB ws = true) :
    (∃ o l r, ws = wN :: o :: l :: r ∧ (o = wIs ∨ o = wNot) ∧ listB l = true ∧ teR ws = r ∧ ∀ n, teH n ws = (inList n l == decide (o = wIs))) ∨
    (∃ k o l r, ws = wN :: wMod :: k :: o :: l :: r ∧ numB k = true ∧ numN k ≠ 0 ∧ (o = wIs ∨ o = wNot) ∧ listB l = true ∧ teR ws = r ∧ ∀ n, teH n ws = (inList (n % numN k) l == decide (o = wIs))) := by
  obtain ⟨n1, n2, n3, n4, n5, n6⟩ := nil_facts
  rcases ws with _ | ⟨a, _ | ⟨b, r⟩⟩
  · simp [teB, whB, hd1, tl1, n5] at h
  · simp [teB, whB, whR, hd1, tl1, n3, n4] at h
  · by_cases hb : b = wMod
    · subst hb
      rcases r with _ | ⟨c, _ | ⟨d, _ | ⟨e, r⟩⟩⟩
      · simp [teB, whB, whR, hd1, tl1, n1] at h
      · simp [teB, whB, whR, hd1, tl1, n3, n4] at h
      · simp [teB, whB, whR, hd1, tl1, n2] at h
      · right
        simp [teB, whB, whR, hd1, tl1] at h
        obtain ⟨⟨⟨ha, hc, hc0⟩, ho⟩, hl⟩ := h
        subst ha
        exact ⟨c, d, e, r, rfl, hc, hc0, ho, hl, by simp [teR, whR, tl1], fun n => by simp [teH, whN, whR, tl1, hd1, hc0]⟩
    · rcases r with _ | ⟨c, r⟩
      · simp [teB, whB, whR, hd1, tl1, n2, hb] at h
      · left
        simp [teB, whB, whR, hd1, tl1, hb] at h
        obtain ⟨⟨ha, ho⟩, hl⟩ := h
        subst ha
        exact ⟨b, c, r, rfl, ho, hl, by simp [teR, whR, tl1, hb], fun n => by simp [teH, whN, whR, tl1, hd1, hb]⟩
theorem te_three (o l : List UInt8) (r : List (List UInt8)) (ho : o = wIs ∨ o = wNot) (hl : listB l = true) :
    teB (wN :: o :: l :: r) = true ∧ teR (wN :: o :: l :: r) = r ∧ ∀ n, teH n (wN :: o :: l :: r) = (inList n l == decide (o = wIs)) := by
  have hm : o ≠ wMod := by rcases ho with rfl | rfl; exact is_mods.1; exact is_mods.2
  exact ⟨by simp [teB, whB, whR, hd1, tl1, hm, ho, hl], by simp [teR, whR, tl1, hm], fun n => by simp [teH, whN, whR, tl1, hd1, hm]⟩
theorem te_five (k o l : List UInt8) (r : List (List UInt8)) (hk : numB k = true) (hk0 : numN k ≠ 0) (ho : o = wIs ∨ o = wNot) (hl : listB l = true) :
    teB (wN :: wMod :: k :: o :: l :: r) = true ∧ teR (wN :: wMod :: k :: o :: l :: r) = r ∧ ∀ n, teH n (wN :: wMod :: k :: o :: l :: r) = (inList (n % numN k) l == decide (o = wIs)) :=
  ⟨by simp [teB, whB, whR, hd1, tl1, ho, hl, hk, hk0], by simp [teR, whR, tl1], fun n => by simp [teH, whN, whR, tl1, hd1, hk0]⟩
/-- A test does not look behind a word that joins. -/
theorem te_app (A : List (List UInt8)) (w : List UInt8) (B : List (List UInt8)) (hw : kw w) :
    teB (A ++ w :: B) = teB A ∧ (teB A = true → teR (A ++ w :: B) = teR A ++ w :: B ∧ ∀ n, teH n (A ++ w :: B) = teH n A) := by
  obtain ⟨k1, k2, k3, k4, k5, k6⟩ := kw_facts hw
  cases ha : teB A with
  | true =>
    rcases te_form A ha with ⟨o, l, r, rfl, ho, hl, hr, hh⟩ | ⟨k, o, l, r, rfl, hk, hk0, ho, hl, hr, hh⟩
    · obtain ⟨a, b, c⟩ := te_three o l (r ++ w :: B) ho hl
      exact ⟨a, fun _ => ⟨by rw [hr]; exact b, fun n => by rw [hh]; exact c n⟩⟩
    · obtain ⟨a, b, c⟩ := te_five k o l (r ++ w :: B) hk hk0 ho hl
      exact ⟨a, fun _ => ⟨by rw [hr]; exact b, fun n => by rw [hh]; exact c n⟩⟩
  | false =>
    refine ⟨?_, fun h => by cases h⟩
    cases hb : teB (A ++ w :: B) with
    | false => rfl
    | true =>
      exfalso
      rcases te_form _ hb with ⟨o, l, r, e, ho, hl, _, _⟩ | ⟨k, o, l, r, e, hk, hk0, ho, hl, _, _⟩
      · rcases A with _ | ⟨a, _ | ⟨b, _ | ⟨c, A⟩⟩⟩ <;> simp only [List.nil_append, List.cons_append, List.cons.injEq] at e
        · exact k1 e.1
        · rcases ho with rfl | rfl
          · exact k3 e.2.1
          · exact k4 e.2.1
        · rw [e.2.2.1, hl] at k6; cases k6
        · obtain ⟨rfl, rfl, rfl, _⟩ := e
          rw [(te_three b c A ho hl).1] at ha; cases ha
      · rcases A with _ | ⟨a, _ | ⟨b, _ | ⟨c, _ | ⟨d, _ | ⟨f, A⟩⟩⟩⟩⟩ <;> simp only [List.nil_append, List.cons_append, List.cons.injEq] at e
        · exact k1 e.1
        · exact k2 e.2.1
        · rw [e.2.2.1, hk] at k5; cases k5
        · rcases ho with rfl | rfl
          · exact k3 e.2.2.2.1
          · exact k4 e.2.2.2.1
        · rw [e.2.2.2.2.1, hl] at k6; cases k6
        · obtain ⟨rfl, rfl, rfl, rfl, rfl, _⟩ := e
          rw [(te_five c d f A hk hk0 ho hl).1] at ha; cases ha
end Go.Proofs.YtbagbnceiadpdaaDoor
