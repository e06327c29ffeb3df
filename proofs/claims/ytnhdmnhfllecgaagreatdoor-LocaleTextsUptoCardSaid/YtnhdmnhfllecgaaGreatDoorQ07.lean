/- Patterns, plainly: writing by parts, and reading what was written. No program in sight. -/
import Derived.Test.YtnhdmnhfllecgaaGreatDoorQ05
import Derived.Test.YtnhdmnhfllecgaaGreatDoorQ06
namespace Go.Proofs.YtnhdmnhfllecgaaGreatDoor
set_option linter.unusedVariables false
set_option linter.unusedSimpArgs false

/-- The fields of a local time. -/
structure Fv where
  y : Nat
  mo : Nat
  d : Nat
  h : Nat
  mi : Nat
  s : Nat
  wd : Nat
def Fv.ok (F : Fv) : Prop := 1 ≤ F.y ∧ F.y ≤ 9999 ∧ 1 ≤ F.mo ∧ F.mo ≤ 12 ∧ 1 ≤ F.d ∧ F.d ≤ 31 ∧ F.h ≤ 23 ∧ F.mi ≤ 59 ∧ F.s ≤ 59 ∧ 1 ≤ F.wd ∧ F.wd ≤ 7
/-- The value of a kind. -/
def valK (F : Fv) (k : Int) : Nat :=
  if k = 2 then F.y else if k = 3 then F.mo else if k = 4 ∨ k = 5 then F.mo - 1 else if k = 6 then F.d else if k = 7 ∨ k = 8 then F.wd - 1
  else if k = 9 then F.h else if k = 10 then (F.h + 11) % 12 + 1 else if k = 11 then F.mi else if k = 12 then F.s else F.h / 12
/-- The text of an offset. -/
def offT (o : Int) : List UInt8 :=
  (if o < 0 then 45 else 43) :: (itx (o.natAbs / 3600) 2 ++ 58 :: (itx (o.natAbs / 60 % 60) 2 ++ if o.natAbs % 60 = 0 then [] else 58 :: itx (o.natAbs % 60) 2))
def typB (s : List UInt8) : Bool := decide (1 ≤ s.length) && decide (s.length ≤ 8) && s.all tyC
def fmt1 (N : Nms) (F : Fv) (o : Int) (tn : List UInt8) (p : Prt) : List UInt8 :=
  if p.k = 1 then p.t else if p.k = 14 then offT o else if p.k = 15 then tn
  else if 0 < fullZ p.k then itx (valK F p.k) p.w.toNat else (lstK N p.k).getD (valK F p.k) []
def fmtL (N : Nms) (F : Fv) (o : Int) (tn : List UInt8) (l : List Prt) : List UInt8 := l.flatMap (fmt1 N F o tn)
def Nms.ok (N : Nms) : Prop := N.mo.length = 12 ∧ N.sh.length = 12 ∧ N.da.length = 7 ∧ N.sd.length = 7 ∧ N.ha.length = 2

theorem tw_app {p : UInt8 → Bool} (a b : List UInt8) (ha : a.all p = true) (hb : ∀ c, b.head? = some c → p c = false) : (a ++ b).takeWhile p = a := by
  rw [List.takeWhile_append_of_pos (fun x hx => List.all_eq_true.1 ha x hx)]
  cases b with
  | nil => simp
  | cons c r => rw [List.takeWhile_cons_of_neg (by rw [hb c rfl]; simp), List.append_nil]
theorem head_take (b : List UInt8) (n : Nat) (c : UInt8) (h : (b.take n).head? = some c) : b.head? = some c := by
  cases b with
  | nil => simp at h
  | cons d r =>
    cases n with
    | zero => simp at h
    | succ n => simpa using h
theorem tw_take {p : UInt8 → Bool} (a b : List UInt8) (n : Nat) (ha : a.all p = true) (hn : a.length ≤ n) (hb : a.length = n ∨ ∀ c, b.head? = some c → p c = false) : ((a ++ b).take n).takeWhile p = a := by
  rw [List.take_append, List.take_of_length_le hn]
  rcases hb with hb | hb
  · rw [hb, Nat.sub_self, List.take_zero, List.append_nil]
    have := tw_app a [] ha (by intro c h; simp at h)
    rwa [List.append_nil] at this
  · exact tw_app a _ ha (fun c h => hb c (head_take _ _ _ h))
theorem dg1_dg (n : Nat) : isDg (dg1 n) = true := by
  rw [isDg_iff, dg1_toNat]; omega
theorem padN_all (k n : Nat) : (padN k n).all isDg = true := by
  induction k generalizing n with
  | zero => rfl
  | succ k ih => rw [padN, List.all_append, ih]; simp [dg1_dg]
theorem padN_val (k n : Nat) (h : n < 10 ^ k) : val (padN k n) = n := by
  induction k generalizing n with
  | zero => simp at h; subst h; rfl
  | succ k ih =>
    rw [padN, val_snoc, dg1_toNat, ih (n / 10) (by rw [Nat.pow_succ] at h; omega)]
    omega
theorem itx_all (n k : Nat) : (itx n k).all isDg = true := padN_all _ _
theorem itx_val (n k : Nat) : val (itx n k) = n := by
  unfold itx
  refine padN_val _ _ ?_
  have h1 := Lib.lt_pow_nDigits n
  exact Nat.lt_of_lt_of_le h1 (Nat.pow_le_pow_right (by decide) (Nat.le_max_left _ _))
theorem itx_len (n k : Nat) : (itx n k).length = max (Lib.nDigits n) k := padN_length _ _
theorem itx_len_le {n k m : Nat} (hk : k ≤ m) (hm : 1 ≤ m) (h : n < 10 ^ m) : k ≤ (itx n k).length ∧ (itx n k).length ≤ m ∧ 1 ≤ (itx n k).length := by
  rw [itx_len]
  have := nDigits_le hm h
  have := Lib.nDigits_pos n
  omega
theorem itx_head (n k : Nat) : ∃ c r, itx n k = c :: r ∧ isDg c = true := by
  have h := itx_all n k
  have hl := itx_len n k
  have := Lib.nDigits_pos n
  cases e : itx n k with
  | nil => rw [e] at hl; simp at hl; omega
  | cons c r => rw [e] at h; exact ⟨c, r, rfl, by simp at h; exact h.1⟩
theorem itx_two (n : Nat) (h : n < 100) : ∃ c d, itx n 2 = [c, d] ∧ isDg c = true ∧ isDg d = true := by
  have h1 := itx_all n 2
  have hl := itx_len_le (n := n) (k := 2) (m := 2) (Nat.le_refl _) (by decide) h
  match e : itx n 2 with
  | [] => rw [e] at hl; simp at hl
  | [c] => rw [e] at hl; simp at hl
  | [c, d] => rw [e] at h1; simp at h1; exact ⟨c, d, rfl, h1⟩
  | c :: d :: f :: r => rw [e] at hl; simp at hl
theorem digN_app (a b : List UInt8) (n : Nat) (ha : a.all isDg = true) (hn : a.length ≤ n) (hb : a.length = n ∨ ∀ c, b.head? = some c → isDg c = false) : digN (a ++ b) n = a.length := by
  unfold digN
  rw [tw_take a b n ha hn hb]
theorem tyN_app (a b : List UInt8) (ha : a.all tyC = true) (hn : a.length ≤ 8) (hb : a.length = 8 ∨ ∀ c, b.head? = some c → tyC c = false) : tyN (a ++ b) = a.length := by
  unfold tyN
  rw [tw_take a b 8 ha hn hb]
theorem pre_app (a b : List UInt8) : a.isPrefixOf (a ++ b) = true := by
  rw [List.isPrefixOf_iff_prefix]; exact List.prefix_append _ _
/-- Names of which none begins with another: the one that stands there is found. -/
theorem namI_app (l : List (List UInt8)) (M : Nat) (h : nmsB M l = true) (i : Nat) (hi : i < l.length) (b : List UInt8) : namI l (l[i] ++ b) = i := by
  unfold nmsB at h
  rw [nmsL_iff] at h
  have hp := List.pairwise_iff_getElem.1 h.2.1
  unfold namI
  rw [List.findIdx_eq hi]
  refine ⟨pre_app _ _, fun j hj => ?_⟩
  have hq := hp j i (by omega) hi hj
  cases e : (l[j]'(by omega)).isPrefixOf (l[i] ++ b) with
  | false => rfl
  | true =>
    rw [List.isPrefixOf_iff_prefix] at e
    rcases List.prefix_or_prefix_of_prefix e (List.prefix_append l[i] b) with q | q
    · rw [← List.isPrefixOf_iff_prefix, hq.1] at q; cases q
    · rw [← List.isPrefixOf_iff_prefix, hq.2] at q; cases q
theorem names_len (N : Nms) (hN : N.ok) (F : Fv) (hF : F.ok) (k : Int) (hk : k = 4 ∨ k = 5 ∨ k = 7 ∨ k = 8 ∨ k = 13) : valK F k < (lstK N k).length := by
  obtain ⟨a, b, c, d, e⟩ := hN
  obtain ⟨_, _, f1, f2, _, _, f3, _, _, f4, f5⟩ := hF
  rcases hk with rfl | rfl | rfl | rfl | rfl <;> simp [valK, lstK] <;> omega
theorem names_ok (N : Nms) (h : nmOk N = true) (k : Int) : nmsB 30 (lstK N k) = true := by
  unfold nmOk at h
  simp only [Bool.and_eq_true] at h
  obtain ⟨⟨⟨⟨h1, h2⟩, h3⟩, h4⟩, h5⟩ := h
  unfold lstK
  repeat' split
  all_goals assumption
theorem name_head {M : Nat} {s : List UInt8} (h : nameB M s = true) : ∃ c r, s = c :: r ∧ isLt c = true := by
  unfold nameB at h
  simp only [Bool.and_eq_true, decide_eq_true_eq] at h
  obtain ⟨⟨⟨h1, _⟩, h2⟩, _⟩ := h
  cases s with
  | nil => simp at h1
  | cons c r => exact ⟨c, r, rfl, by simpa using h2⟩
theorem lt_not_dg {c : UInt8} (h : isLt c = true) : isDg c = false ∧ c ≠ 58 := by
  unfold isLt at h
  simp only [Bool.or_eq_true, decide_eq_true_eq] at h
  refine ⟨?_, ?_⟩
  · unfold isDg; rw [decide_eq_false_iff_not]; omega
  · rintro rfl; revert h; decide
theorem dg_not {c : UInt8} (h : isDg c = true) : c ≠ 58 := by
  rintro rfl; revert h; decide
theorem kinds (p : Prt) (h : partB p = true) : p.k = 1 ∨ p.k = 14 ∨ p.k = 15 ∨ 0 < fullZ p.k ∨ (p.k = 4 ∨ p.k = 5 ∨ p.k = 7 ∨ p.k = 8 ∨ p.k = 13) := by
  obtain ⟨h1, h2⟩ := partB_kind h
  unfold fullZ
  by_cases a : p.k = 2
  · rw [if_pos a]; omega
  · rw [if_neg a]
    by_cases b : p.k = 3 ∨ p.k = 6 ∨ p.k = 9 ∨ p.k = 10 ∨ p.k = 11 ∨ p.k = 12
    · rw [if_pos b]; omega
    · omega
theorem num_not {k : Int} (h : 0 < fullZ k) : k ≠ 1 ∧ k ≠ 14 ∧ k ≠ 15 := by
  refine ⟨?_, ?_, ?_⟩ <;> (rintro rfl; revert h; decide)
theorem nam_not {k : Int} (h : k = 4 ∨ k = 5 ∨ k = 7 ∨ k = 8 ∨ k = 13) : k ≠ 1 ∧ k ≠ 14 ∧ k ≠ 15 ∧ ¬ 0 < fullZ k := by
  rcases h with rfl | rfl | rfl | rfl | rfl <;> decide
theorem num_width {p : Prt} (h : partB p = true) (hf : 0 < fullZ p.k) : 1 ≤ p.w ∧ p.w ≤ fullZ p.k := by
  have hn := (num_not hf).1
  unfold partB at h
  rw [if_neg hn, if_pos hf] at h
  simp only [Bool.and_eq_true, decide_eq_true_eq] at h
  exact h.2
theorem lit_head {p : Prt} (h : partB p = true) (hk : p.k = 1) : ∃ c r, p.t = c :: r := by
  unfold partB at h
  rw [if_pos hk] at h
  simp only [Bool.and_eq_true, decide_eq_true_eq] at h
  cases e : p.t with
  | nil => rw [e] at h; simp at h
  | cons c r => exact ⟨c, r, rfl⟩
end Go.Proofs.YtnhdmnhfllecgaaGreatDoor
/- Patterns, plainly: what was written by parts of which none is bad before the next is read back. No program in sight. -/
namespace Go.Proofs.YtnhdmnhfllecgaaGreatDoor
set_option linter.unusedVariables false
set_option linter.unusedSimpArgs false

/-- What reading gives for a part that was written. -/
def valsK (F : Fv) (p : Prt) : List (Int × Nat) := if p.k = 1 ∨ p.k = 14 ∨ p.k = 15 then [] else [(p.k, valK F p.k)]
theorem num_val {F : Fv} (hF : F.ok) {k : Int} (h : 0 < fullZ k) : valK F k < 10 ^ (fullZ k).toNat := by
  obtain ⟨a1, a2, a3, a4, a5, a6, a7, a8, a9, _, _⟩ := hF
  have hk : k = 2 ∨ k = 3 ∨ k = 6 ∨ k = 9 ∨ k = 10 ∨ k = 11 ∨ k = 12 := by
    unfold fullZ at h
    by_cases a : k = 2
    · exact .inl a
    · rw [if_neg a] at h
      by_cases b : k = 3 ∨ k = 6 ∨ k = 9 ∨ k = 10 ∨ k = 11 ∨ k = 12
      · exact .inr b
      · rw [if_neg b] at h; omega
  rcases hk with rfl | rfl | rfl | rfl | rfl | rfl | rfl <;> simp [valK, fullZ] <;> omega
theorem offT_eq (o : Int) (ho : o.natAbs < 93600) : ∃ sg a b c d, (sg = 43 ∨ sg = 45) ∧ isDg a = true ∧ isDg b = true ∧ isDg c = true ∧ isDg d = true ∧
    ((o.natAbs % 60 = 0 ∧ offT o = [sg, a, b, 58, c, d]) ∨ (∃ e f, isDg e = true ∧ isDg f = true ∧ offT o = [sg, a, b, 58, c, d, 58, e, f])) := by
  obtain ⟨a, b, e1, ha, hb⟩ := itx_two (o.natAbs / 3600) (by omega)
  obtain ⟨c, d, e2, hc, hd⟩ := itx_two (o.natAbs / 60 % 60) (by omega)
  obtain ⟨e, f, e3, he, hf⟩ := itx_two (o.natAbs % 60) (by omega)
  refine ⟨if o < 0 then 45 else 43, a, b, c, d, by split <;> simp, ha, hb, hc, hd, ?_⟩
  unfold offT
  rw [e1, e2, e3]
  by_cases h : o.natAbs % 60 = 0
  · left; exact ⟨h, by rw [if_pos h]; rfl⟩
  · right; exact ⟨e, f, he, hf, by rw [if_neg h]; rfl⟩
theorem sg_not {c : UInt8} (h : c = 43 ∨ c = 45) : isDg c = false ∧ c ≠ 58 := by rcases h with rfl | rfl <;> decide
theorem ty_not {c : UInt8} (h : tyC c = true) : c ≠ 58 := by rintro rfl; revert h; decide
theorem typB_parts {s : List UInt8} (h : typB s = true) : 1 ≤ s.length ∧ s.length ≤ 8 ∧ s.all tyC = true := by
  unfold typB at h
  simp only [Bool.and_eq_true, decide_eq_true_eq] at h
  exact ⟨h.1.1, h.1.2, h.2⟩
theorem name_at (N : Nms) (h : nmOk N = true) (k : Int) (i : Nat) (hi : i < (lstK N k).length) : ∃ c r, (lstK N k).getD i [] = c :: r ∧ isLt c = true := by
  have h2 := names_ok N h k
  unfold nmsB at h2
  rw [nmsL_iff] at h2
  have := h2.1 _ (List.getElem_mem hi)
  have e : (lstK N k).getD i [] = (lstK N k)[i] := by simp [List.getD, hi]
  rw [e]
  exact name_head this
theorem fmt_head {N : Nms} {F : Fv} {o : Int} {tn : List UInt8} (hN : N.ok) (hn : nmOk N = true) (hF : F.ok) (ho : o.natAbs < 93600) (ht : typB tn = true) {p : Prt} (hp : partB p = true) :
    ∃ c r, fmt1 N F o tn p = c :: r ∧ (p.k = 1 → c = fstB p) ∧ (p.k ≠ 1 → c ≠ 58) ∧ (p.k ≠ 1 → ¬ 0 < fullZ p.k → p.k ≠ 15 → isDg c = false) := by
  rcases kinds p hp with h | h | h | h | h
  · obtain ⟨c, r, e⟩ := lit_head hp h
    exact ⟨c, r, by unfold fmt1; rw [if_pos h, e], fun _ => by unfold fstB; rw [if_pos h, e]; rfl, fun q => absurd h q, fun q => absurd h q⟩
  · obtain ⟨sg, a, b, c, d, h1, _, _, _, _, h2⟩ := offT_eq o ho
    obtain ⟨n1, n2⟩ := sg_not h1
    have e : fmt1 N F o tn p = offT o := by unfold fmt1; rw [if_neg (by omega), if_pos h]
    rw [e]
    rcases h2 with ⟨_, h2⟩ | ⟨x, y, _, _, h2⟩
    · exact ⟨sg, _, h2, fun q => by omega, fun _ => n2, fun _ _ _ => n1⟩
    · exact ⟨sg, _, h2, fun q => by omega, fun _ => n2, fun _ _ _ => n1⟩
  · obtain ⟨h1, h2, h3⟩ := typB_parts ht
    have e : fmt1 N F o tn p = tn := by unfold fmt1; rw [if_neg (by omega), if_neg (by omega), if_pos h]
    rw [e]
    cases tn with
    | nil => simp at h1
    | cons c r => exact ⟨c, r, rfl, fun q => by omega, fun _ => ty_not (by simp at h3; exact h3.1), fun _ _ q => absurd h q⟩
  · obtain ⟨n1, n2, n3⟩ := num_not h
    obtain ⟨c, r, e, hc⟩ := itx_head (valK F p.k) p.w.toNat
    exact ⟨c, r, by unfold fmt1; rw [if_neg n1, if_neg n2, if_neg n3, if_pos h, e], fun q => absurd q n1, fun _ => dg_not hc, fun _ q => absurd h q⟩
  · obtain ⟨n1, n2, n3, n4⟩ := nam_not h
    obtain ⟨c, r, e, hc⟩ := name_at N hn p.k _ (names_len N hN F hF p.k h)
    obtain ⟨q1, q2⟩ := lt_not_dg hc
    exact ⟨c, r, by unfold fmt1; rw [if_neg n1, if_neg n2, if_neg n3, if_neg n4, e], fun q => absurd q n1, fun _ => q2, fun _ _ _ => q1⟩
theorem rest_head {N : Nms} {F : Fv} {o : Int} {tn : List UInt8} (hN : N.ok) (hn : nmOk N = true) (hF : F.ok) (ho : o.natAbs < 93600) (ht : typB tn = true) {r : List Prt} (hr : ∀ q, r.head? = some q → partB q = true)
    {c : UInt8} (h : (fmtL N F o tn r).head? = some c) : ∃ q, r.head? = some q ∧ (q.k = 1 → c = fstB q) ∧ (q.k ≠ 1 → c ≠ 58) ∧ (q.k ≠ 1 → ¬ 0 < fullZ q.k → q.k ≠ 15 → isDg c = false) := by
  cases r with
  | nil => simp [fmtL] at h
  | cons q r =>
    obtain ⟨x, t, e, h1, h2, h3⟩ := fmt_head hN hn hF ho ht (hr q rfl)
    have e2 : fmtL N F o tn (q :: r) = x :: (t ++ fmtL N F o tn r) := by unfold fmtL; rw [List.flatMap_cons, e]; rfl
    rw [e2] at h
    have : x = c := Option.some.inj h
    subst this
    exact ⟨q, rfl, h1, h2, h3⟩
theorem rd1_fmt {N : Nms} {F : Fv} {o : Int} {tn : List UInt8} (hN : N.ok) (hn : nmOk N = true) (hF : F.ok) (ho : o.natAbs < 93600) (ht : typB tn = true) {p : Prt} (hp : partB p = true) {r : List Prt}
    (hr : ∀ q, r.head? = some q → partB q = true ∧ badB p q = false) :
    rd1 N p r.head? (fmt1 N F o tn p ++ fmtL N F o tn r) = some ((fmt1 N F o tn p).length, valsK F p) := by
  have hh : ∀ c, (fmtL N F o tn r).head? = some c → _ := fun c h => rest_head hN hn hF ho ht (fun q hq => (hr q hq).1) h
  generalize fmtL N F o tn r = b at hh ⊢
  rcases kinds p hp with h | h | h | h | h
  · have e : fmt1 N F o tn p = p.t := by unfold fmt1; rw [if_pos h]
    unfold rd1 valsK
    rw [e, if_pos h, if_pos (pre_app _ _), if_pos (.inl h)]
  · have e : fmt1 N F o tn p = offT o := by unfold fmt1; rw [if_neg (by omega), if_pos h]
    have hb : ∀ c, b.head? = some c → c ≠ 58 := by
      intro c hc
      obtain ⟨q, hq, h1, h2, _⟩ := hh c hc
      have hbad := (hr q hq).2
      unfold badB at hbad
      simp only [Bool.or_eq_false_iff, Bool.and_eq_false_iff, decide_eq_false_iff_not] at hbad
      have h58 : ¬ fstB q = 58 := by
        rcases hbad.1.2 with q1 | q1
        · exact absurd h q1
        · exact q1
      by_cases k1 : q.k = 1
      · rw [h1 k1]; exact h58
      · exact h2 k1
    obtain ⟨sg, a1, a2, a3, a4, h1, d1, d2, d3, d4, h2⟩ := offT_eq o ho
    unfold rd1 valsK
    rw [e, if_neg (by omega), if_pos h, if_pos (show p.k = 1 ∨ p.k = 14 ∨ p.k = 15 from .inr (.inl h))]
    rcases h2 with ⟨_, h2⟩ | ⟨x, y, dx, dy, h2⟩
    · rw [h2]
      have g1 : offB ([sg, a1, a2, 58, a3, a4] ++ b) = true := by
        unfold offB colB digN
        simp [d1, d2, d3, d4, h1]
      have g2 : colB ([sg, a1, a2, 58, a3, a4] ++ b) 6 = false := by
        unfold colB
        cases b with
        | nil => simp
        | cons c t =>
          have := hb c rfl
          simp [this]
      rw [if_pos g1, g2]
      rfl
    · rw [h2]
      have g1 : offB ([sg, a1, a2, 58, a3, a4, 58, x, y] ++ b) = true := by
        unfold offB colB digN
        simp [d1, d2, d3, d4, h1]
      have g2 : colB ([sg, a1, a2, 58, a3, a4, 58, x, y] ++ b) 6 = true := by
        unfold colB
        simp [dx, dy]
      rw [if_pos g1, g2]
      rfl
  · have e : fmt1 N F o tn p = tn := by unfold fmt1; rw [if_neg (by omega), if_neg (by omega), if_pos h]
    obtain ⟨t1, t2, t3⟩ := typB_parts ht
    have hb : ∀ c, b.head? = some c → tyC c = false := by
      intro c hc
      obtain ⟨q, hq, h1, h2, _⟩ := hh c hc
      have hbad := (hr q hq).2
      unfold badB at hbad
      simp only [Bool.or_eq_false_iff, Bool.and_eq_false_iff, decide_eq_false_iff_not] at hbad
      rcases hbad.2 with q1 | q1
      · exact absurd h q1
      · obtain ⟨⟨⟨⟨k1, k2⟩, k3⟩, k4⟩, k5⟩ := q1
        have k1' : q.k = 1 := by simpa using k1
        rw [h1 k1']
        unfold tyC
        simp [k2, k3, k4, k5]
    have g := tyN_app tn b t3 t2 (.inr hb)
    unfold rd1 valsK
    rw [e, if_neg (by omega), if_neg (by omega), if_pos h, g, if_neg (by omega), if_pos (show p.k = 1 ∨ p.k = 14 ∨ p.k = 15 from .inr (.inr h))]
  · obtain ⟨n1, n2, n3⟩ := num_not h
    have e : fmt1 N F o tn p = itx (valK F p.k) p.w.toNat := by unfold fmt1; rw [if_neg n1, if_neg n2, if_neg n3, if_pos h]
    obtain ⟨w1, w2⟩ := num_width hp h
    have hv := num_val hF h
    obtain ⟨l1, l2, l3⟩ := itx_len_le (n := valK F p.k) (k := p.w.toNat) (m := (fullZ p.k).toNat) (by omega) (by omega) hv
    have key : digN (itx (valK F p.k) p.w.toNat ++ b) (mostN p r.head?) = (itx (valK F p.k) p.w.toNat).length := by
      by_cases hw : p.w = fullZ p.k
      · unfold mostN
        rw [hw, ite_self]
        rw [hw] at l1 l2
        exact digN_app _ _ _ (itx_all _ _) l2 (.inl (by omega))
      · have hb : ∀ q, r.head? = some q → ¬ 0 < fullZ q.k ∧ ¬ q.k = 15 ∧ isDg (fstB q) = false := by
          intro q hq
          have hbad := (hr q hq).2
          unfold badB at hbad
          simp only [Bool.or_eq_false_iff, Bool.and_eq_false_iff, decide_eq_false_iff_not] at hbad
          rcases hbad.1.1 with (q1 | q1) | q1
          · exact absurd h q1
          · omega
          · exact ⟨q1.1.1, q1.1.2, q1.2⟩
        have hm : mostN p r.head? = (fullZ p.k).toNat := by
          unfold mostN
          cases hq : r.head? with
          | none => rfl
          | some q => simp [(hb q hq).1]
        rw [hm]
        refine digN_app _ _ _ (itx_all _ _) l2 (.inr fun c hc => ?_)
        obtain ⟨q, hq, h1, h2, h3⟩ := hh c hc
        obtain ⟨b1, b2, b3⟩ := hb q hq
        by_cases k1 : q.k = 1
        · rw [h1 k1]; exact b3
        · exact h3 k1 b1 b2
    unfold rd1 valsK
    rw [e, if_neg n1, if_neg n2, if_neg n3, if_pos h, if_neg (show ¬ (p.k = 1 ∨ p.k = 14 ∨ p.k = 15) by omega)]
    rw [key, if_neg (by omega), List.take_left, itx_val]
  · obtain ⟨n1, n2, n3, n4⟩ := nam_not h
    have hl := names_len N hN F hF p.k h
    have hg : (lstK N p.k).getD (valK F p.k) [] = (lstK N p.k)[valK F p.k] := by simp [List.getD, hl]
    have e : fmt1 N F o tn p = (lstK N p.k)[valK F p.k] := by unfold fmt1; rw [if_neg n1, if_neg n2, if_neg n3, if_neg n4, hg]
    have key := namI_app (lstK N p.k) 30 (names_ok N hn p.k) (valK F p.k) hl b
    unfold rd1 valsK
    rw [e, if_neg n1, if_neg n2, if_neg n3, if_neg n4, key, if_pos hl, if_neg (show ¬ (p.k = 1 ∨ p.k = 14 ∨ p.k = 15) by omega), hg]
/-- All of it is read back. -/
theorem rdL_fmt {N : Nms} {F : Fv} {o : Int} {tn : List UInt8} (hN : N.ok) (hn : nmOk N = true) (hF : F.ok) (ho : o.natAbs < 93600) (ht : typB tn = true) :
    ∀ (l : List Prt) (i : Nat) (vs : List (Int × Nat)), (∀ p ∈ l, partB p = true) → losL l = true → rdL N l (fmtL N F o tn l) i vs = .inr (vs ++ l.flatMap (valsK F))
  | [], i, vs, _, _ => by simp [rdL, fmtL]
  | p :: r, i, vs, hp, hl => by
    have hr : ∀ q, r.head? = some q → partB q = true ∧ badB p q = false := by
      intro q hq
      cases r with
      | nil => simp at hq
      | cons x t =>
        have : x = q := Option.some.inj hq
        subst this
        refine ⟨hp x (by simp), ?_⟩
        rw [losL, Bool.and_eq_true, Bool.not_eq_true'] at hl
        exact hl.1
    have hl2 : losL r = true := by
      cases r with
      | nil => rfl
      | cons x t => rw [losL, Bool.and_eq_true] at hl; exact hl.2
    have e : fmtL N F o tn (p :: r) = fmt1 N F o tn p ++ fmtL N F o tn r := by unfold fmtL; rw [List.flatMap_cons]
    rw [rdL, e, rd1_fmt hN hn hF ho ht (hp p (by simp)) hr]
    simp only
    rw [List.drop_left, rdL_fmt hN hn hF ho ht r _ _ (fun q hq => hp q (by simp [hq])) hl2, List.flatMap_cons, List.append_assoc]
end Go.Proofs.YtnhdmnhfllecgaaGreatDoor
/- Patterns: the walks of digits, colon, typeName, name. -/
namespace Go.Proofs.YtnhdmnhfllecgaaGreatDoor
set_option linter.unusedVariables false
set_option linter.unusedSimpArgs false
open Go.RowKit

theorem isLt_lit (c : UInt8) (b : Bool) (w : World) (h : isLt c = b) : Calls Tryz.prog 67 #[.int .u8 (c.toNat : Int)] w fun e w' => e = .returned (.bool b) ∧ w = w' := by
  have q := isLt_c c w
  rw [h] at q
  exact q
/-- The length of the longest head of which all are p. -/
theorem twl_eq {p : UInt8 → Bool} : ∀ (r : List UInt8) (m : Nat), (∀ k, k < m → ∃ c, r[k]? = some c ∧ p c = true) → (∀ c, r[m]? = some c → p c = false) → (r.takeWhile p).length = m
  | [], 0, _, _ => rfl
  | [], m + 1, h, _ => by obtain ⟨c, hc, _⟩ := h 0 (by omega); simp at hc
  | x :: r, 0, _, h2 => by
    rw [List.takeWhile_cons_of_neg (by rw [h2 x rfl]; simp)]; rfl
  | x :: r, m + 1, h1, h2 => by
    obtain ⟨c, hc, hp⟩ := h1 0 (by omega)
    have e : x = c := by simpa using hc
    have ih := twl_eq r m (fun k hk => by obtain ⟨c, a, b⟩ := h1 (k + 1) (by omega); exact ⟨c, by simpa using a, b⟩) (fun c hc => h2 c (by simpa using hc))
    rw [List.takeWhile_cons_of_pos (by rw [e]; exact hp), List.length_cons, ih]
end Go.Proofs.YtnhdmnhfllecgaaGreatDoor
