/- Recurrence rules, plainly: what is written of numbers, weekdays and lists is read again. No program in sight. -/
import Derived.Test.YtgndogpgfgliaaaGreatDoorQ00
import Derived.Lib.Join
import Derived.Lib.Split
namespace Go.Proofs.YtgndogpgfgliaaaGreatDoor
set_option linter.unusedVariables false
set_option linter.unnecessarySimpa false
set_option linter.unusedSimpArgs false
open Go.RowKit

theorem uPad_dg (k n : Nat) : ∀ c ∈ padN k n, isDg c = true := by
  induction k generalizing n with
  | zero => intro c hc; cases hc
  | succ k ih =>
    intro c hc
    rw [padN, List.mem_append, List.mem_singleton] at hc
    rcases hc with q | q
    · exact ih _ c q
    · rw [q, isDg_iff, dg1_toNat]; omega
theorem uPad_val (k n : Nat) (h : n < 10 ^ k) : val (padN k n) = n := by
  induction k generalizing n with
  | zero => simp at h; subst h; rfl
  | succ k ih =>
    rw [Nat.pow_succ] at h
    rw [padN, val_snoc, ih (n / 10) (by omega), dg1_toNat]; omega
theorem uItx_len (n : Nat) : 1 ≤ (itx n 1).length := by
  unfold itx
  rw [padN_length]
  exact Nat.le_max_right _ _
theorem uItx_val (n : Nat) : val (itx n 1) = n :=
  uPad_val _ _ (Nat.lt_of_lt_of_le (Lib.lt_pow_nDigits n) (Nat.pow_le_pow_right (by decide) (Nat.le_max_left _ _)))
theorem uItx_dg (n : Nat) : ∀ c ∈ itx n 1, isDg c = true := uPad_dg _ _
theorem uItx_all (n : Nat) : (itx n 1).all isDg = true := List.all_eq_true.2 (uItx_dg n)
theorem uItx_head {n : Nat} (h1 : 1 ≤ n) : (itx n 1).head? ≠ some 48 := by
  intro q
  have hp := Lib.nDigits_pos n
  unfold itx at q
  obtain ⟨k, hk⟩ : ∃ k, max (Lib.nDigits n) 1 = k + 1 := ⟨max (Lib.nDigits n) 1 - 1, by omega⟩
  rw [hk, padN_cons, List.head?_cons] at q
  injection q with q
  have h3 := pow_nDigits n k (by omega) (by omega)
  have h4 : n / 10 ^ k < 10 := by
    have := Lib.lt_pow_nDigits n
    rw [show Lib.nDigits n = k + 1 by omega, Nat.pow_succ] at this
    exact Nat.div_lt_of_lt_mul (by rw [Nat.mul_comm] at this; rwa [Nat.mul_comm])
  have h5 := congrArg UInt8.toNat q
  rw [dg1_toNat, Nat.mod_eq_of_lt h4] at h5
  have h6 : (48 : UInt8).toNat = 48 := rfl
  omega
theorem uItx_minus (n : Nat) : (itx n 1).head? ≠ some 45 := by
  intro q
  have h : (45 : UInt8) ∈ itx n 1 := by
    cases e : itx n 1 with
    | nil => rw [e] at q; cases q
    | cons a r => rw [e, List.head?_cons] at q; injection q with q; rw [q]; simp
  exact absurd (uItx_dg n _ h) (by decide)
/-- A number's text. -/
def decZ (n : Int) : List UInt8 := if n < 0 then 45 :: itx n.natAbs 1 else itx n.natAbs 1
theorem numT_nat (n : Nat) : numT (itx n 1) = itx n 1 := by
  unfold numT
  rw [if_neg (uItx_minus n)]
theorem numT_neg (l : List UInt8) : numT (45 :: l) = l := by
  unfold numT
  rw [List.head?_cons, if_pos rfl]
  rfl
theorem itx_ne (n : Nat) : itx n 1 ≠ [] := fun e => by have := uItx_len n; rw [e] at this; simp at this
theorem itx_zero1 : itx 0 1 = [48] := by
  unfold itx
  rw [Lib.nDigits_small (by decide)]
  decide
theorem numZ_dec (n : Int) (h : -999999999 ≤ n ∧ n ≤ 999999999) : numZ (decZ n) = some n := by
  unfold decZ
  by_cases hn : n < 0
  · rw [if_pos hn]
    have hp : 1 ≤ n.natAbs := by omega
    have hb : numZB (45 :: itx n.natAbs 1) = true := by
      unfold numZB
      rw [numT_neg]
      have h1 : ((itx n.natAbs 1).head? == some 48) = false := by simpa using uItx_head hp
      have h2 : decide (itx n.natAbs 1 ≠ []) = true := by simpa using itx_ne n.natAbs
      have h3 : decide (val (itx n.natAbs 1) ≤ 999999999) = true := by rw [uItx_val]; simp; omega
      rw [h1, h2, h3, uItx_all]
      rfl
    unfold numZ
    rw [if_pos hb, numT_neg, List.head?_cons, if_pos rfl, uItx_val]
    congr 1; omega
  · rw [if_neg hn]
    have hb : numZB (itx n.natAbs 1) = true := by
      unfold numZB
      rw [numT_nat]
      have h2 : decide (itx n.natAbs 1 ≠ []) = true := by simpa using itx_ne n.natAbs
      have h3 : decide (val (itx n.natAbs 1) ≤ 999999999) = true := by rw [uItx_val]; simp; omega
      have h4 : ((itx n.natAbs 1).head? == some 45) = false := by simpa using uItx_minus n.natAbs
      have h1 : ((itx n.natAbs 1).head? == some 48 && (decide (1 < (itx n.natAbs 1).length) || false)) = false := by
        by_cases hz : n.natAbs = 0
        · rw [hz, itx_zero1]; rfl
        · have : ((itx n.natAbs 1).head? == some 48) = false := by simpa using uItx_head (by omega)
          rw [this]; rfl
      rw [h4, h1, h2, h3, uItx_all]
      rfl
    unfold numZ
    rw [if_pos hb, numT_nat, if_neg (uItx_minus _), uItx_val]
    congr 1; omega
/-- No such byte. -/
def Cl (c : UInt8) (l : List UInt8) : Prop := ∀ x ∈ l, x ≠ c
theorem decZ_cl (n : Int) (c : UInt8) (h : isDg c = false) (h2 : c ≠ 45) : Cl c (decZ n) := by
  have hi : Cl c (itx n.natAbs 1) := fun x hx e => by
    have := uItx_dg n.natAbs x hx
    rw [e, h] at this
    cases this
  unfold decZ
  split
  · intro x hx
    rcases List.mem_cons.1 hx with q | q
    · rw [q]; exact h2.symm
    · exact hi x q
  · exact hi
theorem uSpl_no (c : UInt8) : ∀ a : List UInt8, Cl c a → spl c a = [a]
  | [], _ => rfl
  | d :: r, h => by rw [spl, if_neg (h d (by simp)), uSpl_no c r (fun x hx => h x (by simp [hx]))]
theorem uSpl_stp (c : UInt8) (b : List UInt8) : ∀ a : List UInt8, Cl c a → spl c (a ++ c :: b) = a :: spl c b
  | [], _ => by rw [List.nil_append, spl, if_pos rfl]
  | d :: r, h => by rw [List.cons_append, spl, if_neg (h d (by simp)), uSpl_stp c b r (fun x hx => h x (by simp [hx]))]
theorem uSpl_join (c : UInt8) : ∀ (l : List (List UInt8)), l ≠ [] → (∀ a ∈ l, Cl c a) → spl c (Lib.join l [c]) = l
  | [], h, _ => absurd rfl h
  | [x], _, h => by rw [Lib.join_one]; exact uSpl_no c x (h x (by simp))
  | x :: y :: r, _, h => by
    have ih := uSpl_join c (y :: r) (by simp) (fun a ha => h a (by simp [ha]))
    have e : Lib.join (x :: y :: r) [c] = x ++ c :: Lib.join (y :: r) [c] := by
      rw [Lib.join_cons, Lib.join_cons]; simp [Lib.joinTail]
    rw [e, uSpl_stp c _ x (h x (by simp)), ih]
/-- A list's text. -/
def numsT (l : List Int) : List UInt8 := Lib.join (l.map decZ) [44]
theorem numsZ_text (l : List Int) (h0 : l ≠ []) (h : ∀ n ∈ l, -999999999 ≤ n ∧ n ≤ 999999999) : numsZ (numsT l) = some l := by
  unfold numsZ numsT
  rw [uSpl_join 44 _ (by simpa using h0) (fun a ha => by
    obtain ⟨n, -, rfl⟩ := List.mem_map.1 ha
    exact decZ_cl n 44 (by decide) (by decide))]
  refine allO_some (by simp) (fun i hi => ?_)
  rw [List.getElem_map]
  exact numZ_dec _ (h _ (List.getElem_mem _))
/-- A weekday's text. -/
def dayT (o : Int × Int) : List UInt8 := (if o.1 = 0 then [] else decZ o.1) ++ wkW.getD (o.2 - 1).toNat []
def dayOk (o : Int × Int) : Prop := 1 ≤ o.2 ∧ o.2 ≤ 7 ∧ -999999999 ≤ o.1 ∧ o.1 ≤ 999999999
theorem wk_at : ∀ k, k < 7 → (wkW.getD k []).length = 2 ∧ plW wkW (wkW.getD k []) = k + 1 ∧ Cl 44 (wkW.getD k []) ∧ Cl 59 (wkW.getD k []) := by
  intro k hk
  have h : ∀ k, k < 7 → (wkW.getD k []).length = 2 ∧ plW wkW (wkW.getD k []) = k + 1 ∧ (wkW.getD k []).all (fun x => !(x == 44) && !(x == 59)) = true := by decide
  obtain ⟨h1, h2, h3⟩ := h k hk
  rw [List.all_eq_true] at h3
  refine ⟨h1, h2, fun x hx e => ?_, fun x hx e => ?_⟩
  · have := h3 x hx; rw [e] at this; exact absurd this (by decide)
  · have := h3 x hx; rw [e] at this; exact absurd this (by decide)
theorem dayZ_text (o : Int × Int) (h : dayOk o) : dayZ (dayT o) = some o ∧ Cl 44 (dayT o) ∧ Cl 59 (dayT o) ∧ dayT o ≠ [] := by
  obtain ⟨n, d⟩ := o
  obtain ⟨h1, h2, h3, h4⟩ := h
  simp only at h1 h2 h3 h4
  obtain ⟨k, rfl⟩ : ∃ k : Nat, d = (k : Int) + 1 := ⟨(d - 1).toNat, by omega⟩
  obtain ⟨e1, e2, e3, e4⟩ := wk_at k (by omega)
  have ek : dayT (n, (k : Int) + 1) = (if n = 0 then [] else decZ n) ++ wkW.getD k [] := by
    unfold dayT
    simp only
    rw [show ((k : Int) + 1 - 1).toNat = k by omega]
  rw [ek]
  generalize wkW.getD k [] = W at e1 e2 e3 e4
  have hcl : ∀ c, isDg c = false → c ≠ 45 → Cl c W → Cl c ((if n = 0 then [] else decZ n) ++ W) := fun c q1 q2 q3 x hx => by
    rcases List.mem_append.1 hx with q | q
    · split at q
      · cases q
      · exact decZ_cl n c q1 q2 x q
    · exact q3 x q
  refine ⟨?_, hcl 44 (by decide) (by decide) e3, hcl 59 (by decide) (by decide) e4, fun e => by have := congrArg List.length e; rw [List.length_append, e1] at this; simp at this⟩
  by_cases hn : n = 0
  · subst hn
    rw [if_pos rfl, List.nil_append]
    unfold dayZ
    rw [e1, show 2 - 2 = 0 by rfl, List.drop_zero, e2, if_neg (by omega), if_pos rfl]
    rfl
  · rw [if_neg hn]
    have hl : (decZ n ++ W).length = (decZ n).length + 2 := by rw [List.length_append, e1]
    have hd : 1 ≤ (decZ n).length := by
      unfold decZ
      have := uItx_len n.natAbs
      split
      · simp
      · exact this
    unfold dayZ
    rw [hl, show (decZ n).length + 2 - 2 = (decZ n).length by omega, List.drop_left, List.take_left, e2, if_neg (by omega), if_neg (by omega), numZ_dec n ⟨h3, h4⟩]
    simp only
    rw [if_neg hn]
    rfl
def daysT (l : List (Int × Int)) : List UInt8 := Lib.join (l.map dayT) [44]
theorem daysZ_text (l : List (Int × Int)) (h0 : l ≠ []) (h : ∀ o ∈ l, dayOk o) : daysZ (daysT l) = some l := by
  unfold daysZ daysT
  rw [uSpl_join 44 _ (by simpa using h0) (fun a ha => by
    obtain ⟨o, ho, rfl⟩ := List.mem_map.1 ha
    exact (dayZ_text o (h o ho)).2.1)]
  refine allO_some (by simp) (fun i hi => ?_)
  rw [List.getElem_map]
  exact (dayZ_text _ (h _ (List.getElem_mem _))).1
end Go.Proofs.YtgndogpgfgliaaaGreatDoor
/- Recurrence rules, plainly: the text of a rule, the rule of a text; the text's parts in any order are read as the rule. No program in sight. -/
namespace Go.Proofs.YtgndogpgfgliaaaGreatDoor
set_option linter.unusedVariables false
set_option linter.unnecessarySimpa false
set_option linter.unusedSimpArgs false
open Go.RowKit

/-- The days' text, or nothing if one is no day. -/
def daysTx (l : List (Int × Int)) : List UInt8 := if l.all (fun o => decide (1 ≤ o.2 ∧ o.2 ≤ 7 ∧ -999999999 ≤ o.1 ∧ o.1 ≤ 999999999)) = true then daysT l else []
/-- What a part writes. -/
def wrtZ (momT : Int → List UInt8) (k : Nat) (R : RecD) : List UInt8 :=
  match k with
  | 0 => if R.fr = 0 then [] else frW.getD (R.fr - 1).toNat []
  | 1 => if R.iv = 1 then [] else decZ R.iv
  | 2 => if R.ct = 0 then [] else decZ R.ct
  | 3 => if R.un = 0 then [] else momT R.un
  | 4 => numsT R.mo
  | 5 => numsT R.wk
  | 6 => numsT R.yd
  | 7 => numsT R.md
  | 8 => daysTx R.da
  | 9 => numsT R.ho
  | 10 => numsT R.mi
  | 11 => numsT R.se
  | 12 => numsT R.po
  | _ => if R.ws = 1 then [] else wkW.getD (R.ws - 1).toNat []
/-- A part of the text. -/
def ptxZ (momT : Int → List UInt8) (R : RecD) (k : Nat) : List UInt8 := ptW.getD k [] ++ 61 :: wrtZ momT k R
/-- The parts that are written. -/
def ksZ (momT : Int → List UInt8) (R : RecD) : List Nat := (List.range 14).filter fun k => decide (wrtZ momT k R ≠ [])
def txtZ (momT : Int → List UInt8) (R : RecD) : List UInt8 := Lib.join ((ksZ momT R).map (ptxZ momT R)) [59]
/-- The parts' reading. -/
def runZ (untZ : List UInt8 → Option Int) (vld : RecD → Bool) : List (List UInt8) → List (List UInt8) → RecD → RPr
  | [], seen, R => if ptW.getD 0 [] ∈ seen then (if vld R = true then .ok R else .er 1) else .er 4
  | p :: ps, seen, R =>
    if (Lib.cut p [61]).2.2 = false then .er 3
    else match prtZ untZ (Lib.cut p [61]).1 (Lib.cut p [61]).2.1 R with
      | .er e => .er e
      | .ok R' => if (Lib.cut p [61]).1 ∈ seen then .er 8 else runZ untZ vld ps ((Lib.cut p [61]).1 :: seen) R'
def RecD.start : RecD := { RecD.zero with iv := 1, ws := 1 }
/-- Parse: its error, or the rule. -/
def parZ (untZ : List UInt8 → Option Int) (vld : RecD → Bool) (s : List UInt8) : RPr := if 4000 < s.length then .er 5 else runZ untZ vld (spl 59 s) [] RecD.start
/-- One field of R is put into Q. -/
def setF (k : Nat) (R Q : RecD) : RecD :=
  match k with
  | 0 => { Q with fr := R.fr }
  | 1 => { Q with iv := R.iv }
  | 2 => { Q with ct := R.ct }
  | 3 => { Q with un := R.un }
  | 4 => { Q with mo := R.mo }
  | 5 => { Q with wk := R.wk }
  | 6 => { Q with yd := R.yd }
  | 7 => { Q with md := R.md }
  | 8 => { Q with da := R.da }
  | 9 => { Q with ho := R.ho }
  | 10 => { Q with mi := R.mi }
  | 11 => { Q with se := R.se }
  | 12 => { Q with po := R.po }
  | _ => { Q with ws := R.ws }
def fEq (k : Nat) (A B : RecD) : Prop :=
  match k with
  | 0 => A.fr = B.fr
  | 1 => A.iv = B.iv
  | 2 => A.ct = B.ct
  | 3 => A.un = B.un
  | 4 => A.mo = B.mo
  | 5 => A.wk = B.wk
  | 6 => A.yd = B.yd
  | 7 => A.md = B.md
  | 8 => A.da = B.da
  | 9 => A.ho = B.ho
  | 10 => A.mi = B.mi
  | 11 => A.se = B.se
  | 12 => A.po = B.po
  | _ => A.ws = B.ws
theorem lt14 {P : Nat → Prop} (h : P 0 ∧ P 1 ∧ P 2 ∧ P 3 ∧ P 4 ∧ P 5 ∧ P 6 ∧ P 7 ∧ P 8 ∧ P 9 ∧ P 10 ∧ P 11 ∧ P 12 ∧ P 13) (k : Nat) (hk : k < 14) : P k := by
  obtain ⟨h0, h1, h2, h3, h4, h5, h6, h7, h8, h9, h10, h11, h12, h13⟩ := h
  match k, hk with
  | 0, _ => exact h0
  | 1, _ => exact h1
  | 2, _ => exact h2
  | 3, _ => exact h3
  | 4, _ => exact h4
  | 5, _ => exact h5
  | 6, _ => exact h6
  | 7, _ => exact h7
  | 8, _ => exact h8
  | 9, _ => exact h9
  | 10, _ => exact h10
  | 11, _ => exact h11
  | 12, _ => exact h12
  | 13, _ => exact h13
  | n + 14, h => omega
theorem fEq_same (R Q : RecD) (k : Nat) (hk : k < 14) : fEq k (setF k R Q) R :=
  lt14 (P := fun k => fEq k (setF k R Q) R) ⟨rfl, rfl, rfl, rfl, rfl, rfl, rfl, rfl, rfl, rfl, rfl, rfl, rfl, rfl⟩ k hk
theorem fEq_other (R Q : RecD) (j k : Nat) (hj : j < 14) (hk : k < 14) (h : j ≠ k) : fEq j (setF k R Q) Q := by
  revert h
  refine lt14 (P := fun j => j ≠ k → fEq j (setF k R Q) Q) ?_ j hj
  refine ⟨?_, ?_, ?_, ?_, ?_, ?_, ?_, ?_, ?_, ?_, ?_, ?_, ?_, ?_⟩
  · exact lt14 (P := fun k => 0 ≠ k → fEq 0 (setF k R Q) Q) (by refine ⟨?_, ?_, ?_, ?_, ?_, ?_, ?_, ?_, ?_, ?_, ?_, ?_, ?_, ?_⟩ <;> intro h <;> first | rfl | exact absurd rfl h) k hk
  · exact lt14 (P := fun k => 1 ≠ k → fEq 1 (setF k R Q) Q) (by refine ⟨?_, ?_, ?_, ?_, ?_, ?_, ?_, ?_, ?_, ?_, ?_, ?_, ?_, ?_⟩ <;> intro h <;> first | rfl | exact absurd rfl h) k hk
  · exact lt14 (P := fun k => 2 ≠ k → fEq 2 (setF k R Q) Q) (by refine ⟨?_, ?_, ?_, ?_, ?_, ?_, ?_, ?_, ?_, ?_, ?_, ?_, ?_, ?_⟩ <;> intro h <;> first | rfl | exact absurd rfl h) k hk
  · exact lt14 (P := fun k => 3 ≠ k → fEq 3 (setF k R Q) Q) (by refine ⟨?_, ?_, ?_, ?_, ?_, ?_, ?_, ?_, ?_, ?_, ?_, ?_, ?_, ?_⟩ <;> intro h <;> first | rfl | exact absurd rfl h) k hk
  · exact lt14 (P := fun k => 4 ≠ k → fEq 4 (setF k R Q) Q) (by refine ⟨?_, ?_, ?_, ?_, ?_, ?_, ?_, ?_, ?_, ?_, ?_, ?_, ?_, ?_⟩ <;> intro h <;> first | rfl | exact absurd rfl h) k hk
  · exact lt14 (P := fun k => 5 ≠ k → fEq 5 (setF k R Q) Q) (by refine ⟨?_, ?_, ?_, ?_, ?_, ?_, ?_, ?_, ?_, ?_, ?_, ?_, ?_, ?_⟩ <;> intro h <;> first | rfl | exact absurd rfl h) k hk
  · exact lt14 (P := fun k => 6 ≠ k → fEq 6 (setF k R Q) Q) (by refine ⟨?_, ?_, ?_, ?_, ?_, ?_, ?_, ?_, ?_, ?_, ?_, ?_, ?_, ?_⟩ <;> intro h <;> first | rfl | exact absurd rfl h) k hk
  · exact lt14 (P := fun k => 7 ≠ k → fEq 7 (setF k R Q) Q) (by refine ⟨?_, ?_, ?_, ?_, ?_, ?_, ?_, ?_, ?_, ?_, ?_, ?_, ?_, ?_⟩ <;> intro h <;> first | rfl | exact absurd rfl h) k hk
  · exact lt14 (P := fun k => 8 ≠ k → fEq 8 (setF k R Q) Q) (by refine ⟨?_, ?_, ?_, ?_, ?_, ?_, ?_, ?_, ?_, ?_, ?_, ?_, ?_, ?_⟩ <;> intro h <;> first | rfl | exact absurd rfl h) k hk
  · exact lt14 (P := fun k => 9 ≠ k → fEq 9 (setF k R Q) Q) (by refine ⟨?_, ?_, ?_, ?_, ?_, ?_, ?_, ?_, ?_, ?_, ?_, ?_, ?_, ?_⟩ <;> intro h <;> first | rfl | exact absurd rfl h) k hk
  · exact lt14 (P := fun k => 10 ≠ k → fEq 10 (setF k R Q) Q) (by refine ⟨?_, ?_, ?_, ?_, ?_, ?_, ?_, ?_, ?_, ?_, ?_, ?_, ?_, ?_⟩ <;> intro h <;> first | rfl | exact absurd rfl h) k hk
  · exact lt14 (P := fun k => 11 ≠ k → fEq 11 (setF k R Q) Q) (by refine ⟨?_, ?_, ?_, ?_, ?_, ?_, ?_, ?_, ?_, ?_, ?_, ?_, ?_, ?_⟩ <;> intro h <;> first | rfl | exact absurd rfl h) k hk
  · exact lt14 (P := fun k => 12 ≠ k → fEq 12 (setF k R Q) Q) (by refine ⟨?_, ?_, ?_, ?_, ?_, ?_, ?_, ?_, ?_, ?_, ?_, ?_, ?_, ?_⟩ <;> intro h <;> first | rfl | exact absurd rfl h) k hk
  · exact lt14 (P := fun k => 13 ≠ k → fEq 13 (setF k R Q) Q) (by refine ⟨?_, ?_, ?_, ?_, ?_, ?_, ?_, ?_, ?_, ?_, ?_, ?_, ?_, ?_⟩ <;> intro h <;> first | rfl | exact absurd rfl h) k hk
theorem fEq_trans {k : Nat} {A B C : RecD} (hk : k < 14) (h1 : fEq k A B) (h2 : fEq k B C) : fEq k A C :=
  lt14 (P := fun k => fEq k A B → fEq k B C → fEq k A C) ⟨Eq.trans, Eq.trans, Eq.trans, Eq.trans, Eq.trans, Eq.trans, Eq.trans, Eq.trans, Eq.trans, Eq.trans, Eq.trans, Eq.trans, Eq.trans, Eq.trans⟩ k hk h1 h2
theorem fEq_refl (k : Nat) (A : RecD) : fEq k A A := by unfold fEq; split <;> rfl
theorem fEq_all {A B : RecD} (h : ∀ k, k < 14 → fEq k A B) : A = B := by
  have e0 : A.fr = B.fr := h 0 (by omega)
  have e1 : A.iv = B.iv := h 1 (by omega)
  have e2 : A.ct = B.ct := h 2 (by omega)
  have e3 : A.un = B.un := h 3 (by omega)
  have e4 : A.mo = B.mo := h 4 (by omega)
  have e5 : A.wk = B.wk := h 5 (by omega)
  have e6 : A.yd = B.yd := h 6 (by omega)
  have e7 : A.md = B.md := h 7 (by omega)
  have e8 : A.da = B.da := h 8 (by omega)
  have e9 : A.ho = B.ho := h 9 (by omega)
  have ea : A.mi = B.mi := h 10 (by omega)
  have eb : A.se = B.se := h 11 (by omega)
  have ec : A.po = B.po := h 12 (by omega)
  have ed : A.ws = B.ws := h 13 (by omega)
  obtain ⟨a0, a1, a2, a3, a4, a5, a6, a7, a8, a9, aa, ab, ac, ad⟩ := A
  obtain ⟨b0, b1, b2, b3, b4, b5, b6, b7, b8, b9, ba, bb, bc, bd⟩ := B
  simp only at e0 e1 e2 e3 e4 e5 e6 e7 e8 e9 ea eb ec ed
  subst e0 e1 e2 e3 e4 e5 e6 e7 e8 e9 ea eb ec ed
  rfl
/-- Many fields. -/
def setFs (R : RecD) : List Nat → RecD → RecD
  | [], Q => Q
  | k :: ks, Q => setFs R ks (setF k R Q)
theorem setFs_in (R : RecD) : ∀ (ks : List Nat) (Q : RecD) (j : Nat), j < 14 → (∀ k ∈ ks, k < 14) → (j ∈ ks ∨ fEq j Q R) → fEq j (setFs R ks Q) R
  | [], Q, j, hj, hk, h => by
    rcases h with q | q
    · cases q
    · exact q
  | k :: ks, Q, j, hj, hk, h => by
    rw [setFs]
    refine setFs_in R ks (setF k R Q) j hj (fun x hx => hk x (List.mem_cons_of_mem _ hx)) ?_
    by_cases e : j = k
    · subst e; exact .inr (fEq_same R Q j hj)
    · rcases h with q | q
      · rcases List.mem_cons.1 q with q | q
        · exact absurd q e
        · exact .inl q
      · exact .inr (fEq_trans hj (fEq_other R Q j k hj (hk k (by simp)) e) q)
/-- The rules whose text is read again. -/
structure RdOk (untZ : List UInt8 → Option Int) (momT : Int → List UInt8) (R : RecD) : Prop where
  fr : 1 ≤ R.fr ∧ R.fr ≤ 5
  iv : -999999999 ≤ R.iv ∧ R.iv ≤ 999999999
  ct : -999999999 ≤ R.ct ∧ R.ct ≤ 999999999
  un : R.un ≠ 0 → untZ (momT R.un) = some R.un ∧ Cl 59 (momT R.un)
  ls : ∀ l, (l = R.mo ∨ l = R.md ∨ l = R.yd ∨ l = R.wk ∨ l = R.ho ∨ l = R.mi ∨ l = R.se ∨ l = R.po) → ∀ n ∈ l, -999999999 ≤ n ∧ n ≤ 999999999
  da : ∀ o ∈ R.da, dayOk o
  ws : 1 ≤ R.ws ∧ R.ws ≤ 7
theorem fr_at : ∀ k, k < 5 → plW frW (frW.getD k []) = k + 1 ∧ Cl 59 (frW.getD k []) ∧ frW.getD k [] ≠ [] := by
  intro k hk
  have h : ∀ k, k < 5 → plW frW (frW.getD k []) = k + 1 ∧ (frW.getD k []).all (fun x => !(x == 59)) = true ∧ frW.getD k [] ≠ [] := by decide
  obtain ⟨h2, h3, h4⟩ := h k hk
  rw [List.all_eq_true] at h3
  refine ⟨h2, fun x hx e => ?_, h4⟩
  have := h3 x hx; rw [e] at this; exact absurd this (by decide)
theorem pt_at : ∀ k, k < 14 → plW ptW (ptW.getD k []) = k + 1 ∧ Cl 59 (ptW.getD k []) ∧ Cl 61 (ptW.getD k []) := by
  intro k hk
  have h : ∀ k, k < 14 → plW ptW (ptW.getD k []) = k + 1 ∧ (ptW.getD k []).all (fun x => !(x == 59) && !(x == 61)) = true := by decide
  obtain ⟨h2, h3⟩ := h k hk
  rw [List.all_eq_true] at h3
  refine ⟨h2, fun x hx e => ?_, fun x hx e => ?_⟩
  · have := h3 x hx; rw [e] at this; exact absurd this (by decide)
  · have := h3 x hx; rw [e] at this; exact absurd this (by decide)
theorem pt_inj {i j : Nat} (hi : i < 14) (hj : j < 14) (h : ptW.getD i [] = ptW.getD j []) : i = j := by
  have h1 := (pt_at i hi).1
  have h2 := (pt_at j hj).1
  rw [h] at h1
  omega
end Go.Proofs.YtgndogpgfgliaaaGreatDoor
/- Recurrence rules, plainly: the parts of a rule's text, in any order, are read as the rule. No program in sight. -/
namespace Go.Proofs.YtgndogpgfgliaaaGreatDoor
set_option linter.unusedVariables false
set_option linter.unnecessarySimpa false
set_option linter.unusedSimpArgs false
open Go.RowKit

theorem uIx_at (c : UInt8) (r : List UInt8) : ∀ a : List UInt8, Cl c a → Lib.index (a ++ c :: r) [c] = (a.length : Int)
  | [], _ => by rw [List.nil_append, index1_cons, if_pos rfl]; rfl
  | d :: t, h => by
    have ih := uIx_at c r t (fun x hx => h x (by simp [hx]))
    rw [List.cons_append, index1_cons, if_neg (h d (by simp)), ih, if_neg (by omega), List.length_cons]
    omega
theorem uCut_at (c : UInt8) (a r : List UInt8) (h : Cl c a) : Lib.cut (a ++ c :: r) [c] = (a, r, true) := by
  unfold Lib.cut
  rw [uIx_at c r a h, if_pos (by omega), Int.toNat_natCast, List.take_append_of_le_length (Nat.le_refl _), List.take_length, List.drop_append]
  simp
theorem decZ_ne (n : Int) : decZ n ≠ [] := by
  unfold decZ
  split
  · simp
  · exact itx_ne _
theorem uJoin_ne {x : List UInt8} {r : List (List UInt8)} (h : x ≠ []) (sep : List UInt8) : Lib.join (x :: r) sep ≠ [] := by
  rw [Lib.join_cons]
  intro e
  exact h (List.append_eq_nil_iff.1 e).1
theorem uJoin_cl {c : UInt8} {sep : List UInt8} (hs : Cl c sep) : ∀ l : List (List UInt8), (∀ a ∈ l, Cl c a) → Cl c (Lib.join l sep)
  | [], _ => fun x hx => by cases hx
  | [y], h => by rw [Lib.join_one]; exact h y (by simp)
  | y :: z :: r, h => by
    have ih := uJoin_cl hs (z :: r) (fun a ha => h a (by simp [ha]))
    have e : Lib.join (y :: z :: r) sep = y ++ (sep ++ Lib.join (z :: r) sep) := by rw [Lib.join_cons, Lib.join_cons]; simp [Lib.joinTail]
    rw [e]
    intro x hx
    rcases List.mem_append.1 hx with q | q
    · exact h y (by simp) x q
    · rcases List.mem_append.1 q with q | q
      · exact hs x q
      · exact ih x q
theorem numsT_ne {l : List Int} (h : l ≠ []) : numsT l ≠ [] := by
  cases l with
  | nil => exact absurd rfl h
  | cons n r => unfold numsT; rw [List.map_cons]; exact uJoin_ne (decZ_ne n) _
theorem numsT_nil : numsT [] = [] := rfl
theorem daysTx_ok {l : List (Int × Int)} (h : ∀ o ∈ l, dayOk o) : daysTx l = daysT l := by
  unfold daysTx
  rw [if_pos (List.all_eq_true.2 fun o ho => by
    obtain ⟨a, b, c, d⟩ := h o ho
    simp; omega)]
theorem daysT_ne {l : List (Int × Int)} (h : ∀ o ∈ l, dayOk o) (h0 : l ≠ []) : daysT l ≠ [] := by
  cases l with
  | nil => exact absurd rfl h0
  | cons o r => unfold daysT; rw [List.map_cons]; exact uJoin_ne (dayZ_text o (h o (by simp))).2.2.2 _
theorem runZ_cons (untZ : List UInt8 → Option Int) (vld : RecD → Bool) (p : List UInt8) (ps seen : List (List UInt8)) (R : RecD) : runZ untZ vld (p :: ps) seen R = if (Lib.cut p [61]).2.2 = false then .er 3
    else match prtZ untZ (Lib.cut p [61]).1 (Lib.cut p [61]).2.1 R with
      | .er e => .er e
      | .ok R' => if (Lib.cut p [61]).1 ∈ seen then .er 8 else runZ untZ vld ps ((Lib.cut p [61]).1 :: seen) R' := by rw [runZ] <;> rfl
section
variable {untZ : List UInt8 → Option Int} {momT : Int → List UInt8} {R : RecD} (h : RdOk untZ momT R)
include h
/-- What a part writes is read as its field. -/
theorem part_rd (k : Nat) (hk : k < 14) (Q : RecD) : wrtZ momT k R ≠ [] → partZ untZ k (wrtZ momT k R) Q = some (setF k R Q) := by
  have hl : ∀ l, (l = R.mo ∨ l = R.md ∨ l = R.yd ∨ l = R.wk ∨ l = R.ho ∨ l = R.mi ∨ l = R.se ∨ l = R.po) → numsT l ≠ [] → numsZ (numsT l) = some l := fun l hl hn => by
    refine numsZ_text l ?_ (h.ls l hl)
    intro e; subst e; exact hn rfl
  refine lt14 (P := fun k => wrtZ momT k R ≠ [] → partZ untZ k (wrtZ momT k R) Q = some (setF k R Q)) ?_ k hk
  refine ⟨?_, ?_, ?_, ?_, ?_, ?_, ?_, ?_, ?_, ?_, ?_, ?_, ?_, ?_⟩
  · intro hw
    obtain ⟨f1, f2⟩ := h.fr
    obtain ⟨j, hj⟩ : ∃ j : Nat, R.fr = (j : Int) + 1 := ⟨(R.fr - 1).toNat, by omega⟩
    obtain ⟨e1, e2, e3⟩ := fr_at j (by omega)
    have ew : wrtZ momT 0 R = frW.getD j [] := by
      unfold wrtZ
      simp only
      rw [if_neg (by omega), hj, show ((j : Int) + 1 - 1).toNat = j by omega]
    rw [ew]
    unfold partZ setF
    simp only
    rw [e1, if_neg (by omega), hj]
    rfl
  · intro hw
    have hi : R.iv ≠ 1 := fun e => hw (by unfold wrtZ; simp only; rw [if_pos e])
    have ew : wrtZ momT 1 R = decZ R.iv := by unfold wrtZ; simp only; rw [if_neg hi]
    rw [ew]
    unfold partZ setF
    simp only
    rw [numZ_dec _ h.iv]
    rfl
  · intro hw
    have hi : R.ct ≠ 0 := fun e => hw (by unfold wrtZ; simp only; rw [if_pos e])
    have ew : wrtZ momT 2 R = decZ R.ct := by unfold wrtZ; simp only; rw [if_neg hi]
    rw [ew]
    unfold partZ setF
    simp only
    rw [numZ_dec _ h.ct]
    rfl
  · intro hw
    have hi : R.un ≠ 0 := fun e => hw (by unfold wrtZ; simp only; rw [if_pos e])
    have ew : wrtZ momT 3 R = momT R.un := by unfold wrtZ; simp only; rw [if_neg hi]
    rw [ew]
    unfold partZ setF
    simp only
    rw [(h.un hi).1]
    rfl
  · intro hw; show (numsZ (numsT R.mo)).map _ = _; rw [hl R.mo (by simp) hw]; rfl
  · intro hw; show (numsZ (numsT R.wk)).map _ = _; rw [hl R.wk (by simp) hw]; rfl
  · intro hw; show (numsZ (numsT R.yd)).map _ = _; rw [hl R.yd (by simp) hw]; rfl
  · intro hw; show (numsZ (numsT R.md)).map _ = _; rw [hl R.md (by simp) hw]; rfl
  · intro hw
    have hw : daysTx R.da ≠ [] := hw
    rw [daysTx_ok h.da] at hw
    show (daysZ (daysTx R.da)).map _ = _
    rw [daysTx_ok h.da, daysZ_text R.da (fun e => hw (by rw [e]; rfl)) h.da]
    rfl
  · intro hw; show (numsZ (numsT R.ho)).map _ = _; rw [hl R.ho (by simp) hw]; rfl
  · intro hw; show (numsZ (numsT R.mi)).map _ = _; rw [hl R.mi (by simp) hw]; rfl
  · intro hw; show (numsZ (numsT R.se)).map _ = _; rw [hl R.se (by simp) hw]; rfl
  · intro hw; show (numsZ (numsT R.po)).map _ = _; rw [hl R.po (by simp) hw]; rfl
  · intro hw
    obtain ⟨f1, f2⟩ := h.ws
    obtain ⟨j, hj⟩ : ∃ j : Nat, R.ws = (j : Int) + 1 := ⟨(R.ws - 1).toNat, by omega⟩
    obtain ⟨-, e1, -⟩ := wk_at j (by omega)
    have hi : R.ws ≠ 1 := fun e => hw (by unfold wrtZ; simp only; rw [if_pos e])
    have ew : wrtZ momT 13 R = wkW.getD j [] := by
      unfold wrtZ
      simp only
      rw [if_neg hi, hj, show ((j : Int) + 1 - 1).toNat = j by omega]
    rw [ew]
    unfold partZ setF
    simp only
    rw [e1, if_neg (by omega), hj]
    rfl
/-- What writes nothing is as at the start. -/
theorem wrt_nil (hm : R.un ≠ 0 → momT R.un ≠ []) (k : Nat) (hk : k < 14) : wrtZ momT k R = [] → fEq k RecD.start R := by
  have hl : ∀ l, numsT l = [] → [] = l := fun l e => by
    cases l with
    | nil => rfl
    | cons a r => exact absurd e (numsT_ne (by simp))
  refine lt14 (P := fun k => wrtZ momT k R = [] → fEq k RecD.start R) ?_ k hk
  refine ⟨?_, ?_, ?_, ?_, ?_, ?_, ?_, ?_, ?_, ?_, ?_, ?_, ?_, ?_⟩
  · intro hw
    obtain ⟨f1, f2⟩ := h.fr
    obtain ⟨j, hj⟩ : ∃ j : Nat, R.fr = (j : Int) + 1 := ⟨(R.fr - 1).toNat, by omega⟩
    obtain ⟨e1, e2, e3⟩ := fr_at j (by omega)
    exfalso
    apply e3
    have ew : wrtZ momT 0 R = frW.getD j [] := by
      unfold wrtZ
      simp only
      rw [if_neg (by omega), hj, show ((j : Int) + 1 - 1).toNat = j by omega]
    rw [← ew]; exact hw
  · intro hw
    have hw : (if R.iv = 1 then [] else decZ R.iv) = [] := hw
    split at hw
    · rename_i e; exact e.symm
    · exact absurd hw (decZ_ne _)
  · intro hw
    have hw : (if R.ct = 0 then [] else decZ R.ct) = [] := hw
    split at hw
    · rename_i e; exact e.symm
    · exact absurd hw (decZ_ne _)
  · intro hw
    have hw : (if R.un = 0 then [] else momT R.un) = [] := hw
    split at hw
    · rename_i e; exact e.symm
    · rename_i e; exact absurd hw (hm e)
  · exact fun hw => hl _ hw
  · exact fun hw => hl _ hw
  · exact fun hw => hl _ hw
  · exact fun hw => hl _ hw
  · intro hw
    have hw : daysTx R.da = [] := hw
    rw [daysTx_ok h.da] at hw
    show [] = R.da
    cases e : R.da with
    | nil => rfl
    | cons a r => exact absurd hw (daysT_ne h.da (by rw [e]; simp))
  · exact fun hw => hl _ hw
  · exact fun hw => hl _ hw
  · exact fun hw => hl _ hw
  · exact fun hw => hl _ hw
  · intro hw
    obtain ⟨f1, f2⟩ := h.ws
    obtain ⟨j, hj⟩ : ∃ j : Nat, R.ws = (j : Int) + 1 := ⟨(R.ws - 1).toNat, by omega⟩
    obtain ⟨e0, -⟩ := wk_at j (by omega)
    have hw : (if R.ws = 1 then [] else wkW.getD (R.ws - 1).toNat []) = [] := hw
    split at hw
    · rename_i e; exact e.symm
    · rw [hj, show ((j : Int) + 1 - 1).toNat = j by omega] at hw
      rw [hw] at e0
      cases e0
/-- No part's value holds the parts' separator. -/
theorem wrt_cl (k : Nat) (hk : k < 14) : Cl 59 (wrtZ momT k R) := by
  have hl : ∀ l : List Int, Cl 59 (numsT l) := fun l => uJoin_cl (by intro x hx; rw [List.mem_singleton.1 hx]; decide) _ (fun a ha => by
    obtain ⟨n, -, rfl⟩ := List.mem_map.1 ha
    exact decZ_cl n 59 (by decide) (by decide))
  have hnil : Cl 59 [] := fun x hx => by cases hx
  refine lt14 (P := fun k => Cl 59 (wrtZ momT k R)) ?_ k hk
  refine ⟨?_, ?_, ?_, ?_, hl _, hl _, hl _, hl _, ?_, hl _, hl _, hl _, hl _, ?_⟩
  · show Cl 59 (if R.fr = 0 then [] else frW.getD (R.fr - 1).toNat [])
    split
    · exact hnil
    · exact (fr_at _ (by have := h.fr; omega)).2.1
  · show Cl 59 (if R.iv = 1 then [] else decZ R.iv)
    split
    · exact hnil
    · exact decZ_cl _ 59 (by decide) (by decide)
  · show Cl 59 (if R.ct = 0 then [] else decZ R.ct)
    split
    · exact hnil
    · exact decZ_cl _ 59 (by decide) (by decide)
  · show Cl 59 (if R.un = 0 then [] else momT R.un)
    split
    · exact hnil
    · rename_i e; exact (h.un e).2
  · show Cl 59 (daysTx R.da)
    rw [daysTx_ok h.da]
    exact uJoin_cl (by intro x hx; rw [List.mem_singleton.1 hx]; decide) _ (fun a ha => by
      obtain ⟨o, ho, rfl⟩ := List.mem_map.1 ha
      exact (dayZ_text o (h.da o ho)).2.2.1)
  · show Cl 59 (if R.ws = 1 then [] else wkW.getD (R.ws - 1).toNat [])
    split
    · exact hnil
    · exact (wk_at _ (by have := h.ws; omega)).2.2.2
/-- Parts of different names are read one by one. -/
theorem run_ks (vld : RecD → Bool) : ∀ (ks : List Nat) (seen : List (List UInt8)) (Q : RecD), ks.Nodup → (∀ k ∈ ks, k < 14 ∧ wrtZ momT k R ≠ [] ∧ ptW.getD k [] ∉ seen) →
    runZ untZ vld (ks.map (ptxZ momT R)) seen Q = runZ untZ vld [] ((ks.map fun k => ptW.getD k []).reverse ++ seen) (setFs R ks Q)
  | [], seen, Q, _, _ => rfl
  | k :: ks, seen, Q, hn, hk => by
    obtain ⟨k14, kw, ks0⟩ := hk k (by simp)
    obtain ⟨e1, e2, e3⟩ := pt_at k k14
    have hc : Lib.cut (ptxZ momT R k) [61] = (ptW.getD k [], wrtZ momT k R, true) := uCut_at 61 _ _ e3
    rw [List.map_cons, runZ_cons, hc, if_neg (by simp)]
    have hp : prtZ untZ (ptW.getD k []) (wrtZ momT k R) Q = .ok (setF k R Q) := by
      unfold prtZ
      rw [e1, if_neg (by omega), show k + 1 - 1 = k by omega, part_rd h k k14 Q kw]
    simp only [hp]
    rw [if_neg ks0, run_ks vld ks _ _ (List.nodup_cons.1 hn).2 (fun j hj => ?_), setFs]
    · simp
    · obtain ⟨j1, j2, j3⟩ := hk j (List.mem_cons_of_mem _ hj)
      refine ⟨j1, j2, fun q => ?_⟩
      rcases List.mem_cons.1 q with q | q
      · have := pt_inj j1 k14 q
        subst this
        exact (List.nodup_cons.1 hn).1 hj
      · exact j3 q
/-- The parts of a rule's text, in whatever order, are read as the rule. -/
theorem par_ks (vld : RecD → Bool) (hm : R.un ≠ 0 → momT R.un ≠ []) (ks : List Nat) (hn : ks.Nodup) (hk : ∀ k, k ∈ ks ↔ k < 14 ∧ wrtZ momT k R ≠ []) (hl : (Lib.join (ks.map (ptxZ momT R)) [59]).length ≤ 4000) :
    parZ untZ vld (Lib.join (ks.map (ptxZ momT R)) [59]) = if vld R = true then .ok R else .er 1 := by
  have h0 : 0 ∈ ks := by
    refine (hk 0).2 ⟨by omega, fun e => ?_⟩
    have := wrt_nil h hm 0 (by omega) e
    have h1 := h.fr.1
    have e2 : RecD.start.fr = R.fr := this
    rw [← e2] at h1
    exact absurd h1 (by decide)
  have hne : ks.map (ptxZ momT R) ≠ [] := by
    cases ks with
    | nil => cases h0
    | cons a r => simp
  have hcl : ∀ a ∈ ks.map (ptxZ momT R), Cl 59 a := by
    intro a ha
    obtain ⟨k, hk0, rfl⟩ := List.mem_map.1 ha
    obtain ⟨k14, kw⟩ := (hk k).1 hk0
    intro x hx
    unfold ptxZ at hx
    rcases List.mem_append.1 hx with q | q
    · exact (pt_at k k14).2.1 x q
    · rcases List.mem_cons.1 q with q | q
      · rw [q]; decide
      · exact wrt_cl h k k14 x q
  unfold parZ
  rw [if_neg (by omega), uSpl_join 59 _ hne hcl, run_ks h vld ks [] RecD.start hn (fun k q => ⟨((hk k).1 q).1, ((hk k).1 q).2, by simp⟩), runZ]
  have hS : setFs R ks RecD.start = R := fEq_all fun j hj => by
    refine setFs_in R ks RecD.start j hj (fun k q => ((hk k).1 q).1) ?_
    by_cases e : wrtZ momT j R = []
    · exact .inr (wrt_nil h hm j hj e)
    · exact .inl ((hk j).2 ⟨hj, e⟩)
  rw [hS, if_pos]
  simp only [List.append_nil, List.mem_reverse, List.mem_map]
  exact ⟨0, h0, rfl⟩
end
end Go.Proofs.YtgndogpgfgliaaaGreatDoor
