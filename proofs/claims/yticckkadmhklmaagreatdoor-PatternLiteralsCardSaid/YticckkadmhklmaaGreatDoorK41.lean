/- Patterns, plainly: the text of parts, and that it is compiled to them. No program in sight. -/
import Derived.Test.YticckkadmhklmaaGreatDoorK00
import Derived.Test.YticckkadmhklmaaGreatDoorK02
import Derived.Lib.Replace
import Derived.Lib.CountLaws
namespace Go.Proofs.YticckkadmhklmaaGreatDoor
set_option linter.unusedVariables false
set_option linter.unusedSimpArgs false

/-- A text with its quotes doubled. -/
def qtT (t : List UInt8) : List UInt8 := t.flatMap fun c => if c = 39 then [39, 39] else [c]
def litT (t : List UInt8) : List UInt8 := if t.any isLt then 39 :: (qtT t ++ [39]) else qtT t
/-- How many letters a field has. -/
def nrp (p : Prt) : Nat := if p.k = 4 ∨ p.k = 7 then 3 else if p.k = 5 ∨ p.k = 8 then 4 else max 1 p.w.toNat
def prtT (p : Prt) : List UInt8 := if p.k = 1 then litT p.t else List.replicate (nrp p) (lpK p.k)
def txtL (l : List Prt) : List UInt8 := l.flatMap prtT
theorem qtT_nil : qtT [] = [] := rfl
theorem qtT_cons (c : UInt8) (t : List UInt8) : qtT (c :: t) = if c = 39 then 39 :: 39 :: qtT t else c :: qtT t := by
  unfold qtT
  rw [List.flatMap_cons]
  split <;> rfl
theorem cmp_qt (r : List UInt8) : ∀ (t : List UInt8) (i : Nat) (q : Bool) (out : List Prt), t.all prn = true → (q = true ∨ t.any isLt = false) → ∃ j, cmpL (qtT t ++ r) i q out = cmpL r j q (t.foldl addLit out)
  | [], i, q, out, _, _ => ⟨i, rfl⟩
  | c :: t, i, q, out, hp, hq => by
    rw [List.all_cons, Bool.and_eq_true] at hp
    have hq2 : q = true ∨ t.any isLt = false := by
      rcases hq with h | h
      · exact .inl h
      · rw [List.any_cons, Bool.or_eq_false_iff] at h
        exact .inr h.2
    have hc2 : q = true ∨ isLt c = false := by
      rcases hq with h | h
      · exact .inl h
      · rw [List.any_cons, Bool.or_eq_false_iff] at h
        exact .inr h.1
    rw [qtT_cons]
    by_cases h : c = 39
    · subst h
      rw [if_pos rfl]
      obtain ⟨j, hj⟩ := cmp_qt r t (i + 2) q (addLit out 39) hp.2 hq2
      refine ⟨j, ?_⟩
      rw [List.cons_append, List.cons_append, cmpL_cons, if_neg (by decide), if_pos ⟨rfl, rfl⟩]
      exact hj
    · rw [if_neg h]
      obtain ⟨j, hj⟩ := cmp_qt r t (i + 1) q (addLit out c) hp.2 hq2
      refine ⟨j, ?_⟩
      rw [List.cons_append, cmpL_cons, if_neg (by rw [hp.1]; simp), if_neg (fun q => h q.1), if_neg h, if_pos hc2]
      exact hj
theorem qtT_head (c : UInt8) (t r : List UInt8) (h : c ≠ 39) : (qtT (c :: t) ++ r) = c :: (qtT t ++ r) := by
  rw [qtT_cons, if_neg h]; rfl
theorem cmp_quoted (r : List UInt8) (hr : r.head? ≠ some 39) : ∀ (t : List UInt8) (i : Nat) (out : List Prt), t.all prn = true → (t.any fun c => !(c == 39)) = true → ∃ j, cmpL (39 :: (qtT t ++ 39 :: r)) i false out = cmpL r j false (t.foldl addLit out)
  | [], i, out, _, h => by simp at h
  | c :: t, i, out, hp, ha => by
    have hp0 := hp
    rw [List.all_cons, Bool.and_eq_true] at hp
    by_cases h : c = 39
    · subst h
      have ha2 : (t.any fun c => !(c == 39)) = true := by
        rw [List.any_cons, Bool.or_eq_true] at ha
        rcases ha with ha | ha
        · exact absurd ha (by decide)
        · exact ha
      obtain ⟨j, hj⟩ := cmp_quoted r hr t (i + 2) (addLit out 39) hp.2 ha2
      refine ⟨j, ?_⟩
      rw [qtT_cons, if_pos rfl, List.cons_append, List.cons_append, cmpL_cons, if_neg (by decide), if_pos ⟨rfl, rfl⟩]
      exact hj
    · obtain ⟨j, hj⟩ := cmp_qt (39 :: r) (c :: t) (i + 1) true out hp0 (.inl rfl)
      refine ⟨j + 1, ?_⟩
      rw [cmpL_cons, if_neg (by decide), if_neg (by rw [qtT_head c t _ h]; rintro ⟨_, q⟩; exact h (by simpa using q)), if_pos rfl]
      show cmpL (qtT (c :: t) ++ 39 :: r) (i + 1) true out = _
      rw [hj, cmpL_cons, if_neg (by decide), if_neg (fun q => hr q.2), if_pos rfl]
      rfl
theorem lt_q {t : List UInt8} (h : t.any isLt = true) : (t.any fun c => !(c == 39)) = true := by
  rw [List.any_eq_true] at h ⊢
  obtain ⟨c, hc, hl⟩ := h
  refine ⟨c, hc, ?_⟩
  have : c ≠ 39 := by rintro rfl; exact absurd hl (by decide)
  simpa using this
theorem cmp_litT (r : List UInt8) (hr : r.head? ≠ some 39) (t : List UInt8) (i : Nat) (out : List Prt) (hp : t.all prn = true) : ∃ j, cmpL (litT t ++ r) i false out = cmpL r j false (t.foldl addLit out) := by
  unfold litT
  rcases Bool.eq_false_or_eq_true (t.any isLt) with h | h
  · rw [if_pos h]
    obtain ⟨j, hj⟩ := cmp_quoted r hr t i out hp (lt_q h)
    exact ⟨j, by rw [← hj]; simp⟩
  · rw [if_neg (by rw [h]; simp)]
    exact cmp_qt r t i false out hp (.inr h)
theorem fold_lit (t : List UInt8) : ∀ (r : List Prt) (s : List UInt8), t.foldl addLit (r ++ [⟨1, 0, s⟩]) = r ++ [⟨1, 0, s ++ t⟩] := by
  induction t with
  | nil => intro r s; simp
  | cons c t ih =>
    intro r s
    rw [List.foldl_cons, addLit_snoc, if_pos rfl, ih]
    simp
theorem fold_new (t : List UInt8) (out : List Prt) (ht : t ≠ []) (hl : lastLit out = false) : t.foldl addLit out = out ++ [⟨1, 0, t⟩] := by
  cases t with
  | nil => exact absurd rfl ht
  | cons c t =>
    rw [List.foldl_cons]
    have e : addLit out c = out ++ [⟨1, 0, [c]⟩] := by
      rcases snoc_cases out with rfl | ⟨r', x, rfl⟩
      · rfl
      · rw [addLit_snoc, if_neg]
        unfold lastLit at hl
        rw [List.getLast?_concat] at hl
        simpa using hl
    rw [e, fold_lit]
    rfl
theorem lp_lt : ∀ k : Nat, k < 16 → 2 ≤ k → isLt (lpK (k : Int)) = true ∧ prn (lpK (k : Int)) = true ∧ lpK (k : Int) ≠ 39 := by decide
theorem lpZ_lt {k : Int} (h1 : 2 ≤ k) (h2 : k ≤ 15) : isLt (lpK k) = true ∧ prn (lpK k) = true ∧ lpK k ≠ 39 := by
  obtain ⟨n, rfl⟩ : ∃ n : Nat, k = n := ⟨k.toNat, by omega⟩
  exact lp_lt n (by omega) (by omega)
theorem partB_fld {p : Prt} (h : partB p = true) (hk : p.k ≠ 1) : 2 ≤ p.k ∧ p.k ≤ 15 ∧ p.t = [] ∧ ((0 < fullZ p.k ∧ 1 ≤ p.w ∧ p.w ≤ fullZ p.k) ∨ (fullZ p.k = 0 ∧ p.w = 0)) := by
  have h1 := partB_kind h
  unfold partB at h
  rw [if_neg hk] at h
  simp only [Bool.and_eq_true, decide_eq_true_eq, List.isEmpty_iff] at h
  have := fullZ_nonneg p.k
  refine ⟨by omega, by omega, h.1.2, ?_⟩
  have h2 := h.2
  by_cases q : 0 < fullZ p.k
  · rw [if_pos q] at h2
    simp only [Bool.and_eq_true, decide_eq_true_eq] at h2
    exact .inl ⟨q, h2⟩
  · rw [if_neg q] at h2
    exact .inr ⟨by omega, by simpa using h2⟩
theorem fld_back {p : Prt} (h : partB p = true) (hk : p.k ≠ 1) : fld (lpK p.k) (nrp p) = p ∧ 1 ≤ nrp p := by
  obtain ⟨h1, h2, h3, h4⟩ := partB_fld h hk
  obtain ⟨k, w, t⟩ := p
  simp only at h1 h2 h3 h4
  subst h3
  have hc : k = 2 ∨ k = 3 ∨ k = 4 ∨ k = 5 ∨ k = 6 ∨ k = 7 ∨ k = 8 ∨ k = 9 ∨ k = 10 ∨ k = 11 ∨ k = 12 ∨ k = 13 ∨ k = 14 ∨ k = 15 := by omega
  have hw : w = 0 ∨ w = 1 ∨ w = 2 ∨ w = 3 ∨ w = 4 := by
    have : fullZ k ≤ 4 := by unfold fullZ; split <;> (try split) <;> omega
    omega
  rcases hc with rfl | rfl | rfl | rfl | rfl | rfl | rfl | rfl | rfl | rfl | rfl | rfl | rfl | rfl <;> rcases hw with rfl | rfl | rfl | rfl | rfl <;> revert h4 <;> decide
theorem run_rep (c : UInt8) (n : Nat) (r : List UInt8) (hr : r.head? ≠ some c) : runN c (List.replicate n c ++ r) = n ∧ (List.replicate n c ++ r).drop n = r := by
  refine ⟨?_, by simp⟩
  unfold runN
  rw [List.takeWhile_append_of_pos (by simp), List.length_append, List.length_replicate]
  have : r.takeWhile (fun x => x == c) = [] := by
    cases r with
    | nil => rfl
    | cons d r => rw [List.takeWhile_cons_of_neg]; simpa using hr
  rw [this]; rfl
theorem cmp_fldT {p : Prt} (h : partB p = true) (hk : p.k ≠ 1) (r : List UInt8) (hr : r.head? ≠ some (lpK p.k)) (i : Nat) (out : List Prt) : ∃ j, cmpL (List.replicate (nrp p) (lpK p.k) ++ r) i false out = cmpL r j false (out ++ [p]) := by
  obtain ⟨h1, h2, h3, h4⟩ := partB_fld h hk
  obtain ⟨l1, l2, l3⟩ := lpZ_lt h1 h2
  obtain ⟨f1, f2⟩ := fld_back h hk
  obtain ⟨n, hn⟩ : ∃ n, nrp p = n + 1 := ⟨nrp p - 1, by omega⟩
  obtain ⟨r1, r2⟩ := run_rep (lpK p.k) n r hr
  rw [hn] at f1
  rw [hn, List.replicate_succ, List.cons_append, cmpL_cons, if_neg (by rw [l2]; simp), if_neg (fun q => l3 q.1), if_neg l3, if_neg (by rw [l1]; simp), r1, Nat.add_comm 1 n, f1, if_neg (by omega), r2]
  exact ⟨_, rfl⟩
theorem litT_head (t : List UInt8) (ht : t ≠ []) : ∃ c r, litT t = c :: r ∧ isLt c = false := by
  unfold litT
  rcases Bool.eq_false_or_eq_true (t.any isLt) with h | h
  · rw [if_pos h]; exact ⟨_, _, rfl, by decide⟩
  · rw [if_neg (by rw [h]; simp)]
    cases t with
    | nil => exact absurd rfl ht
    | cons c t =>
      rw [List.any_cons, Bool.or_eq_false_iff] at h
      rw [qtT_cons]
      split
      · exact ⟨_, _, rfl, by decide⟩
      · exact ⟨_, _, rfl, h.1⟩
theorem partB_lit {p : Prt} (h : partB p = true) (hk : p.k = 1) : p.w = 0 ∧ p.t ≠ [] ∧ p.t.length ≤ 100 ∧ p.t.all prn = true := by
  unfold partB at h
  rw [if_pos hk] at h
  simp only [Bool.and_eq_true, decide_eq_true_eq] at h
  refine ⟨h.1.1.1, ?_, h.1.2, h.2⟩
  intro e
  rw [e] at h
  simp at h
/-- The text of what comes behind a part does not begin with its letter. -/
theorem txt_head (q : Prt) (hq : partB q = true) (l : List Prt) (h : tailB (some q) l = true) : (txtL l).head? ≠ some (lpK q.k) := by
  cases l with
  | nil => simp [txtL]
  | cons p r =>
    simp only [tailB, Bool.and_eq_true, Bool.not_eq_true'] at h
    obtain ⟨⟨hp, hd⟩, -⟩ := h
    unfold txtL
    rw [List.flatMap_cons]
    have hd : lpK p.k ≠ lpK q.k := by simpa using hd
    by_cases hk : p.k = 1
    · obtain ⟨-, ht, -, -⟩ := partB_lit hp hk
      obtain ⟨c, r2, e, hc⟩ := litT_head p.t ht
      have : prtT p = litT p.t := by unfold prtT; rw [if_pos hk]
      rw [this, e, List.cons_append, List.head?_cons]
      intro e2
      injection e2 with e2
      have hq1 : q.k ≠ 1 := by
        intro e3
        rw [hk, e3] at hd
        exact hd rfl
      obtain ⟨h1, h2, -, -⟩ := partB_fld hq hq1
      have := (lpZ_lt h1 h2).1
      rw [← e2, hc] at this
      cases this
    · have : prtT p = List.replicate (nrp p) (lpK p.k) := by unfold prtT; rw [if_neg hk]
      obtain ⟨f1, f2⟩ := fld_back hp hk
      obtain ⟨n, hn⟩ : ∃ n, nrp p = n + 1 := ⟨nrp p - 1, by omega⟩
      rw [this, hn, List.replicate_succ, List.cons_append, List.head?_cons]
      intro e2
      injection e2 with e2
      exact hd e2
theorem tail_cons {q : Option Prt} {p : Prt} {r : List Prt} (h : tailB q (p :: r) = true) : partB p = true ∧ tailB (some p) r = true ∧ ∀ x, q = some x → lpK p.k ≠ lpK x.k := by
  cases q with
  | none =>
    simp only [tailB, Bool.and_eq_true] at h
    exact ⟨h.1, h.2, fun x e => by cases e⟩
  | some y =>
    simp only [tailB, Bool.and_eq_true, Bool.not_eq_true'] at h
    refine ⟨h.1.1, h.2, fun x e => ?_⟩
    injection e with e
    subst e
    simpa using h.1.2
theorem cmp_txt : ∀ (l : List Prt) (q : Option Prt) (out : List Prt) (i : Nat), tailB q l = true → (lastLit out = true → ∃ x, q = some x ∧ x.k = 1) → ∃ j, cmpL (txtL l) i false out = cmpL [] j false (out ++ l)
  | [], q, out, i, _, _ => ⟨i, by rw [List.append_nil]; rfl⟩
  | p :: r, q, out, i, h, hq => by
    obtain ⟨hp, hr, hd⟩ := tail_cons h
    have hh := txt_head p hp r hr
    have e : txtL (p :: r) = prtT p ++ txtL r := by unfold txtL; rw [List.flatMap_cons]
    rw [e]
    by_cases hk : p.k = 1
    · obtain ⟨hw, ht, -, ha⟩ := partB_lit hp hk
      have e1 : prtT p = litT p.t := by unfold prtT; rw [if_pos hk]
      have e39 : lpK p.k = 39 := by rw [hk]; decide
      rw [e39] at hh
      have hl : lastLit out = false := by
        cases e2 : lastLit out with
        | false => rfl
        | true =>
          obtain ⟨x, hx, hx1⟩ := hq e2
          exact absurd (by rw [hk, hx1]) (hd x hx)
      obtain ⟨j, hj⟩ := cmp_litT (txtL r) hh p.t i out ha
      have ep : (⟨1, 0, p.t⟩ : Prt) = p := by obtain ⟨k, w, t⟩ := p; simp only at hk hw; subst hk hw; rfl
      rw [fold_new p.t out ht hl, ep] at hj
      obtain ⟨j2, hj2⟩ := cmp_txt r (some p) (out ++ [p]) j hr (fun _ => ⟨p, rfl, hk⟩)
      exact ⟨j2, by rw [e1, hj, hj2, List.append_assoc]; rfl⟩
    · have e1 : prtT p = List.replicate (nrp p) (lpK p.k) := by unfold prtT; rw [if_neg hk]
      obtain ⟨j, hj⟩ := cmp_fldT hp hk (txtL r) hh i out
      obtain ⟨j2, hj2⟩ := cmp_txt r (some p) (out ++ [p]) j hr (fun e2 => by
        unfold lastLit at e2
        rw [List.getLast?_concat] at e2
        exact absurd (by simpa using e2) hk)
      exact ⟨j2, by rw [e1, hj, hj2, List.append_assoc]; rfl⟩
theorem longB_valid {l : List Prt} (h : ∀ p ∈ l, partB p = true) : longB l = false := by
  unfold longB
  rw [List.any_eq_false]
  intro p hp
  have := h p hp
  by_cases hk : p.k = 1
  · have := (partB_lit this hk).2.2.1
    simp; omega
  · rw [(partB_fld this hk).2.2.1]; simp
theorem tail_all : ∀ (l : List Prt) (q : Option Prt), tailB q l = true → ∀ p ∈ l, partB p = true
  | [], _, _, p, hp => by cases hp
  | x :: r, q, h, p, hp => by
    obtain ⟨h1, h2, -⟩ := tail_cons h
    rcases List.mem_cons.1 hp with rfl | hp
    · exact h1
    · exact tail_all r (some x) h2 p hp
/-- The text of valid parts is compiled to them. -/
theorem txt_back (l : List Prt) (h : validB l = true) : cmpT (txtL l) = if 200 < (txtL l).length then ([], 0, 5) else (l, 0, 0) := by
  unfold validB at h
  simp only [Bool.and_eq_true, decide_eq_true_eq] at h
  unfold cmpT
  by_cases h2 : 200 < (txtL l).length
  · rw [if_pos h2, if_pos h2]
  · rw [if_neg h2, if_neg h2]
    obtain ⟨j, hj⟩ := cmp_txt l none [] 0 h.2 (fun q => by simp [lastLit] at q)
    rw [hj, List.nil_append, cmpL_end, if_neg (by simp), longB_valid (tail_all l none h.2), decide_eq_false (by omega)]
    rfl
end Go.Proofs.YticckkadmhklmaaGreatDoor
/- Quotes doubled, as strings.ReplaceAll doubles them. No program in sight. -/
namespace Go.Proofs.YticckkadmhklmaaGreatDoor
set_option linter.unusedVariables false
set_option linter.unusedSimpArgs false

theorem index_cons39 (c : UInt8) (s : List UInt8) : Lib.index (c :: s) [39] = if c = 39 then 0 else if Lib.index s [39] = -1 then -1 else Lib.index s [39] + 1 := by
  by_cases h : c = 39
  · subst h
    rw [if_pos rfl]
    refine Lib.index_first (i := 0) (Nat.zero_le _) (by simp [Lib.occAt]) (fun j hj => absurd hj (Nat.not_lt_zero j))
  · rw [if_neg h]
    have hno : Lib.NoOcc (c :: s) [39] 1 := by
      intro j hj
      obtain rfl : j = 0 := by omega
      have : (39 : UInt8) ≠ c := fun e => h e.symm
      show ([39] : List UInt8).isPrefixOf (c :: s) = false
      simp [List.isPrefixOf, this]
    rw [Lib.index_drop hno (by simp)]
    show (if Lib.index s [39] == -1 then -1 else Lib.index s [39] + ((1 : Nat) : Int)) = _
    by_cases q : Lib.index s [39] = -1
    · rw [q]; rfl
    · rw [if_neg q, if_neg (by simpa using q)]; rfl
theorem rep_qt : ∀ s : List UInt8, Lib.replaceK [39] [39, 39] (Lib.count s [39]) s = qtT s
  | [] => by
    have e : Lib.index [] [39] = -1 := by decide
    rw [Lib.count_miss e]; rfl
  | c :: s => by
    have ih := rep_qt s
    have hi := index_cons39 c s
    rw [qtT_cons]
    by_cases h : c = 39
    · rw [if_pos h] at hi ⊢
      rw [Lib.count_hit (by simp) (show Lib.index (c :: s) [39] = ((0 : Nat) : Int) from hi), Nat.add_comm 1, Lib.replaceK_hit _ _ _ _ 0 hi]
      show [] ++ [39, 39] ++ Lib.replaceK [39] [39, 39] (Lib.count s [39]) s = _
      rw [ih]; rfl
    · rw [if_neg h] at hi ⊢
      by_cases q : Lib.index s [39] = -1
      · rw [if_pos q] at hi
        rw [Lib.count_miss hi]
        rw [Lib.count_miss q] at ih
        show c :: s = _
        rw [← ih]; rfl
      · rw [if_neg q] at hi
        obtain ⟨i, hi2⟩ : ∃ i : Nat, Lib.index s [39] = (i : Int) := ⟨(Lib.index s [39]).toNat, by have := Lib.index_ge s [39]; omega⟩
        have hi3 : Lib.index (c :: s) [39] = ((i + 1 : Nat) : Int) := by rw [hi, hi2]; rfl
        rw [Lib.count_hit (by simp) hi2, Nat.add_comm 1, Lib.replaceK_hit _ _ _ _ i hi2] at ih
        rw [Lib.count_hit (by simp) hi3, Nat.add_comm 1, Lib.replaceK_hit _ _ _ _ (i + 1) hi3, ← ih]
        rfl
/-- The quotes doubled. -/
theorem replace_qt (s : List UInt8) : Lib.replace s [39] [39, 39] (-1) = qtT s := by
  unfold Lib.replace
  rw [if_neg (by decide)]
  unfold Lib.replaceNum
  rw [if_pos (.inl (by decide))]
  exact rep_qt s
end Go.Proofs.YticckkadmhklmaaGreatDoor
/- Patterns, plainly: what is compiled is valid. No program in sight. -/
namespace Go.Proofs.YticckkadmhklmaaGreatDoor
set_option linter.unusedVariables false
set_option linter.unusedSimpArgs false

/-- A part that a pattern can have, but for the length of its text. -/
def partW (p : Prt) : Prop := (p.k = 1 → p.w = 0 ∧ p.t ≠ [] ∧ p.t.all prn = true) ∧ (p.k ≠ 1 → partB p = true)
def goodW (l : List Prt) : Prop := (∀ p ∈ l, partW p) ∧ ∀ i (h : i + 1 < l.length), lpK l[i + 1].k ≠ lpK l[i].k
/-- What the last part forbids the rest to begin with. -/
def nextW (l : List Prt) (q : Bool) (r : List UInt8) : Prop := ∀ p, l.getLast? = some p → p.k ≠ 1 → r.head? ≠ some (if q then 39 else lpK p.k)
theorem fullN_le (k : Nat) : fullN k ≤ 4 := by unfold fullN; split <;> (try split) <;> omega
theorem fld_part {c : UInt8} {n : Nat} (hc : isLt c = true) (hn : 1 ≤ n) (hk : (fld c n).k ≠ 0) : partB (fld c n) = true ∧ lpK (fld c n).k = c ∧ (fld c n).k ≠ 1 := by
  unfold fld at hk ⊢
  by_cases h : numK c ≠ 0 ∧ n ≤ fullN (numK c)
  · rw [if_pos h] at hk ⊢
    obtain ⟨h1, h2⟩ := h
    unfold numK at h1 h2 hk ⊢
    have hn4 : n ≤ 4 := Nat.le_trans h2 (fullN_le _)
    have hv : n = 1 ∨ n = 2 ∨ n = 3 ∨ n = 4 := by omega
    by_cases e1 : c = 121
    · subst e1; rcases hv with rfl | rfl | rfl | rfl <;> revert h2 <;> decide
    by_cases e2 : c = 77
    · subst e2; rcases hv with rfl | rfl | rfl | rfl <;> revert h2 <;> decide
    by_cases e3 : c = 100
    · subst e3; rcases hv with rfl | rfl | rfl | rfl <;> revert h2 <;> decide
    by_cases e4 : c = 72
    · subst e4; rcases hv with rfl | rfl | rfl | rfl <;> revert h2 <;> decide
    by_cases e5 : c = 104
    · subst e5; rcases hv with rfl | rfl | rfl | rfl <;> revert h2 <;> decide
    by_cases e6 : c = 109
    · subst e6; rcases hv with rfl | rfl | rfl | rfl <;> revert h2 <;> decide
    by_cases e7 : c = 115
    · subst e7; rcases hv with rfl | rfl | rfl | rfl <;> revert h2 <;> decide
    simp [e1, e2, e3, e4, e5, e6, e7] at h1
  · rw [if_neg h] at hk ⊢
    simp only at hk ⊢
    unfold namK at hk ⊢
    by_cases e1 : c = 77 ∧ n = 3
    · obtain ⟨rfl, rfl⟩ := e1; decide
    by_cases e2 : c = 77 ∧ n = 4
    · obtain ⟨rfl, rfl⟩ := e2; decide
    by_cases e3 : c = 69 ∧ n = 3
    · obtain ⟨rfl, rfl⟩ := e3; decide
    by_cases e4 : c = 69 ∧ n = 4
    · obtain ⟨rfl, rfl⟩ := e4; decide
    by_cases e5 : c = 97 ∧ n = 1
    · obtain ⟨rfl, rfl⟩ := e5; decide
    by_cases e6 : c = 90 ∧ n = 1
    · obtain ⟨rfl, rfl⟩ := e6; decide
    by_cases e7 : c = 122 ∧ n = 1
    · obtain ⟨rfl, rfl⟩ := e7; decide
    simp [e1, e2, e3, e4, e5, e6, e7] at hk
theorem good_snoc {l : List Prt} {p : Prt} (h : goodW l) (hp : partW p) (hd : ∀ x, l.getLast? = some x → lpK p.k ≠ lpK x.k) : goodW (l ++ [p]) := by
  refine ⟨fun x hx => ?_, fun i hi => ?_⟩
  · rcases List.mem_append.1 hx with hx | hx
    · exact h.1 x hx
    · rw [List.mem_singleton] at hx; subst hx; exact hp
  · rw [List.length_append, List.length_singleton] at hi
    by_cases hl : i + 1 < l.length
    · rw [List.getElem_append_left hl, List.getElem_append_left (by omega)]
      exact h.2 i hl
    · have e : i + 1 = l.length := by omega
      have e1 : (l ++ [p])[i + 1]'(by simp; omega) = p := by
        rw [List.getElem_append_right (by omega)]; simp [e]
      have e2 : l.getLast? = some (l[i]'(by omega)) := by
        rw [List.getLast?_eq_getElem?, show l.length - 1 = i by omega, List.getElem?_eq_getElem]
      rw [e1, List.getElem_append_left (by omega)]
      exact hd _ e2
theorem good_init {r : List Prt} {p : Prt} (h : goodW (r ++ [p])) : goodW r ∧ ∀ x, r.getLast? = some x → lpK p.k ≠ lpK x.k := by
  refine ⟨⟨fun x hx => h.1 x (List.mem_append.2 (.inl hx)), fun i hi => ?_⟩, fun x hx => ?_⟩
  · have := h.2 i (by simp; omega)
    rw [List.getElem_append_left hi, List.getElem_append_left (by omega)] at this
    exact this
  · rcases snoc_cases r with rfl | ⟨r', y, rfl⟩
    · simp at hx
    · rw [List.getLast?_concat] at hx
      injection hx with hx
      subst hx
      have := h.2 r'.length (by simp)
      have e1 : (r' ++ [y] ++ [p])[r'.length + 1]'(by simp) = p := by
        rw [List.getElem_append_right (by simp)]; simp
      have e2 : (r' ++ [y] ++ [p])[r'.length]'(by simp) = y := by
        rw [List.getElem_append_left (by simp)]; simp
      rw [e1, e2] at this
      exact this
theorem good_addLit {l : List Prt} {b : UInt8} (h : goodW l) (hb : prn b = true) : goodW (addLit l b) := by
  have hn : partW ⟨1, 0, [b]⟩ := ⟨fun _ => ⟨rfl, by simp, by simp [hb]⟩, fun q => absurd rfl q⟩
  rcases snoc_cases l with rfl | ⟨r, p, rfl⟩
  · rw [addLit_nil]
    exact good_snoc (l := []) h hn (fun x hx => by simp at hx)
  · rw [addLit_snoc]
    by_cases hk : p.k = 1
    · rw [if_pos hk]
      obtain ⟨h1, h2⟩ := good_init h
      obtain ⟨w1, w2, w3⟩ := (h.1 p (by simp)).1 hk
      refine good_snoc h1 ⟨fun _ => ⟨w1, by simp, by simp [w3, hb]⟩, fun q => absurd rfl q⟩ (fun x hx => ?_)
      have := h2 x hx
      rw [hk] at this
      exact this
    · rw [if_neg hk]
      refine good_snoc h hn (fun x hx => ?_)
      rw [List.getLast?_concat] at hx
      injection hx with hx
      subst hx
      have hp := (h.1 p (by simp)).2 hk
      obtain ⟨h1, h2, -, -⟩ := partB_fld hp hk
      have := (lpZ_lt h1 h2).2.2
      rw [show lpK (1 : Int) = 39 by decide]
      exact fun e => this e.symm
theorem next_addLit (l : List Prt) (b : UInt8) (q : Bool) (r : List UInt8) : nextW (addLit l b) q r := by
  obtain ⟨r', p, e, hk⟩ := addLit_last l b
  intro x hx hk2
  rw [e, List.getLast?_concat] at hx
  injection hx with hx
  subst hx
  exact absurd hk hk2
theorem cmp_good : ∀ (n : Nat) (r : List UInt8) (i : Nat) (q : Bool) (out a : List Prt) (c : Nat), r.length ≤ n → goodW out → nextW out q r → cmpL r i q out = (a, c, 0) → goodW a ∧ a.length ≤ 40 ∧ longB a = false
  | n, [], i, q, out, a, c, _, hg, _, h => by
    rw [cmpL_end] at h
    cases q with
    | true => simp at h
    | false =>
      rw [if_neg (by simp)] at h
      cases e : (decide (40 < out.length) || longB out) with
      | true => rw [e] at h; simp at h
      | false =>
        rw [e] at h
        simp at h
        rw [Bool.or_eq_false_iff] at e
        obtain ⟨rfl, -⟩ := h
        exact ⟨hg, by simpa using e.1, e.2⟩
  | 0, b :: r, i, q, out, a, c, hl, _, _, _ => by simp at hl
  | n + 1, b :: r, i, q, out, a, c, hl, hg, hx, h => by
    have hl2 : r.length ≤ n := by simpa using hl
    rw [cmpL_cons] at h
    cases hp : prn b with
    | false => rw [hp] at h; simp at h
    | true =>
      rw [if_neg (by rw [hp]; simp)] at h
      by_cases h1 : b = 39 ∧ r.head? = some 39
      · rw [if_pos h1] at h
        exact cmp_good n r.tail (i + 2) q (addLit out 39) a c (by simp; omega) (good_addLit hg (by decide)) (next_addLit _ _ _ _) h
      · rw [if_neg h1] at h
        by_cases h2 : b = 39
        · rw [if_pos h2] at h
          refine cmp_good n r (i + 1) (!q) out a c hl2 hg ?_ h
          intro p hpl hk
          have := hx p hpl hk
          cases q with
          | true =>
            rw [if_pos rfl, h2] at this
            exact absurd rfl this
          | false =>
            show r.head? ≠ some 39
            exact fun e => h1 ⟨h2, e⟩
        · rw [if_neg h2] at h
          by_cases h3 : q = true ∨ isLt b = false
          · rw [if_pos h3] at h
            exact cmp_good n r (i + 1) q (addLit out b) a c hl2 (good_addLit hg hp) (next_addLit _ _ _ _) h
          · rw [if_neg h3] at h
            have hq : q = false := by
              cases q with
              | true => exact absurd (.inl rfl) h3
              | false => rfl
            have hb : isLt b = true := by
              cases e : isLt b with
              | true => rfl
              | false => exact absurd (.inr e) h3
            subst hq
            by_cases h4 : (fld b (1 + runN b r)).k = 0
            · rw [if_pos h4] at h; simp at h
            · rw [if_neg h4] at h
              obtain ⟨f1, f2, f3⟩ := fld_part hb (by omega) h4
              refine cmp_good n (r.drop (runN b r)) _ false _ a c (by simp; omega) (good_snoc hg ⟨fun e => absurd e f3, fun _ => f1⟩ (fun x hxl => ?_)) ?_ h
              · rw [f2]
                by_cases hk : x.k = 1
                · rw [hk, show lpK (1 : Int) = 39 by decide]; exact h2
                · have := hx x hxl hk
                  intro e
                  exact this (by rw [← e]; rfl)
              · intro x hxl hk
                rw [List.getLast?_concat] at hxl
                injection hxl with hxl
                subst hxl
                show (r.drop (runN b r)).head? ≠ some (lpK (fld b (1 + runN b r)).k)
                rw [f2]
                exact drop_run b r
where drop_run (b : UInt8) : ∀ r : List UInt8, (r.drop (runN b r)).head? ≠ some b
  | [] => by simp
  | d :: r => by
    unfold runN
    by_cases e : d = b
    · subst e
      rw [List.takeWhile_cons_of_pos (by simp)]
      exact drop_run d r
    · rw [List.takeWhile_cons_of_neg (by simpa using e)]
      simpa using e
theorem tail_good : ∀ (l : List Prt) (q : Option Prt), (∀ p ∈ l, partB p = true) → (∀ i (h : i + 1 < l.length), lpK l[i + 1].k ≠ lpK l[i].k) → (∀ x p, q = some x → l.head? = some p → lpK p.k ≠ lpK x.k) → tailB q l = true
  | [], q, _, _, _ => by cases q <;> rfl
  | p :: r, q, hp, hd, hq => by
    have ih := tail_good r (some p) (fun x hx => hp x (List.mem_cons_of_mem _ hx)) (fun i hi => hd (i + 1) (by simpa using hi)) (fun x y hx hy => by
      injection hx with hx
      subst hx
      cases r with
      | nil => simp at hy
      | cons z r =>
        rw [List.head?_cons] at hy
        injection hy with hy
        subst hy
        exact hd 0 (by simp))
    cases q with
    | none => simp only [tailB, hp p List.mem_cons_self, ih]; rfl
    | some x =>
      have : (lpK p.k == lpK x.k) = false := by simpa using hq x p rfl rfl
      simp only [tailB, hp p List.mem_cons_self, ih, this]; rfl
/-- The parts of a pattern are valid. -/
theorem cmp_valid {s : List UInt8} {a : List Prt} {c : Nat} (h : cmpT s = (a, c, 0)) : validB a = true := by
  unfold cmpT at h
  by_cases h2 : 200 < s.length
  · rw [if_pos h2] at h; simp at h
  · rw [if_neg h2] at h
    obtain ⟨g, h40, hl⟩ := cmp_good s.length s 0 false [] a c (Nat.le_refl _) ⟨(fun p hp => by cases hp), (fun i hi => by simp at hi)⟩ (fun p hp => by simp at hp) h
    unfold validB
    rw [decide_eq_true h40]
    refine tail_good a none (fun p hp => ?_) g.2 (fun x p hx => by cases hx)
    by_cases hk : p.k = 1
    · obtain ⟨w1, w2, w3⟩ := (g.1 p hp).1 hk
      unfold longB at hl
      rw [List.any_eq_false] at hl
      have h100 := hl p hp
      have hpos := List.length_pos_iff.2 w2
      unfold partB
      rw [if_pos hk, w3]
      simp only [Bool.and_eq_true, decide_eq_true_eq]
      simp only [decide_eq_true_eq] at h100
      exact ⟨⟨⟨w1, by omega⟩, by omega⟩, trivial⟩
    · exact (g.1 p hp).2 hk
/-- Where there is an error, there are no parts. -/
theorem cmp_err : ∀ (n : Nat) (r : List UInt8) (i : Nat) (q : Bool) (out a : List Prt) (c e : Nat), r.length ≤ n → cmpL r i q out = (a, c, e) → e ≠ 0 → a = []
  | n, [], i, q, out, a, c, e, _, h, he => by
    rw [cmpL_end] at h
    cases q with
    | true => rw [if_pos rfl] at h; injection h with h _; exact h.symm
    | false =>
      rw [if_neg (by simp)] at h
      cases e0 : (decide (40 < out.length) || longB out) with
      | true => rw [e0, if_pos rfl] at h; injection h with h _; exact h.symm
      | false =>
        rw [e0, if_neg (by simp)] at h
        injection h with _ h; injection h with _ h
        exact absurd h.symm he
  | 0, b :: r, i, q, out, a, c, e, hl, _, _ => by simp at hl
  | n + 1, b :: r, i, q, out, a, c, e, hl, h, he => by
    have hl2 : r.length ≤ n := by simpa using hl
    rw [cmpL_cons] at h
    by_cases h0 : prn b = false
    · rw [if_pos h0] at h; injection h with h _; exact h.symm
    rw [if_neg h0] at h
    by_cases h1 : b = 39 ∧ r.head? = some 39
    · rw [if_pos h1] at h
      exact cmp_err n _ _ _ _ a c e (by simp; omega) h he
    rw [if_neg h1] at h
    by_cases h2 : b = 39
    · rw [if_pos h2] at h
      exact cmp_err n _ _ _ _ a c e hl2 h he
    rw [if_neg h2] at h
    by_cases h3 : q = true ∨ isLt b = false
    · rw [if_pos h3] at h
      exact cmp_err n _ _ _ _ a c e hl2 h he
    rw [if_neg h3] at h
    by_cases h4 : (fld b (1 + runN b r)).k = 0
    · rw [if_pos h4] at h; injection h with h _; exact h.symm
    rw [if_neg h4] at h
    exact cmp_err n _ _ _ _ a c e (by simp; omega) h he
theorem cmpT_err {s : List UInt8} {a : List Prt} {c e : Nat} (h : cmpT s = (a, c, e)) (he : e ≠ 0) : a = [] := by
  unfold cmpT at h
  by_cases h2 : 200 < s.length
  · rw [if_pos h2] at h; injection h with h _; exact h.symm
  · rw [if_neg h2] at h
    exact cmp_err s.length s 0 false [] a c e (Nat.le_refl _) h he
end Go.Proofs.YticckkadmhklmaaGreatDoor
