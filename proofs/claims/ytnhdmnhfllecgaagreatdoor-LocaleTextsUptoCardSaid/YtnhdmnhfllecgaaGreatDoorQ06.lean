/- Patterns: the walks of the search for a name that begins another. -/
import Derived.Test.YtnhdmnhfllecgaaGreatDoorQ05
import Derived.Test.YtnhdmnhfllecgaaGreatDoorQ01
import Derived.Test.YtnhdmnhfllecgaaGreatDoorQ00
import Derived.Test.YtnhdmnhfllecgaaGreatDoorShelf
import Derived.Laws.OwnMore
import Derived.Lib.ItoaNum
namespace Go.Proofs.YtnhdmnhfllecgaaGreatDoor
set_option linter.unusedVariables false
set_option linter.unusedSimpArgs false
open Go.RowKit

theorem hasPrefix_l (s p : List UInt8) (b : Bool) (w : World) (h : p.isPrefixOf s = b) : Calls Tryz.prog 76 #[.string ⟨s.toArray⟩, .string ⟨p.toArray⟩] w fun e w' => e = .returned (.bool b) ∧ w = w' := by
  refine (Tryz.strings_HasPrefix ⟨s.toArray⟩ ⟨p.toArray⟩ w).mono ?_
  rintro e w' ⟨rfl, rfl⟩
  refine ⟨?_, rfl⟩
  rw [← h]
  rfl
/-- Whether one of them begins with the other. -/
def eqpB (s t : List UInt8) : Bool := t.isPrefixOf s || s.isPrefixOf t
theorem clo_c (s t : List UInt8) (S : Nat) (w : World) (hS : w.cell? ⟨S, 0, none⟩ = some (.string ⟨s.toArray⟩)) :
    Calls Tryz.prog 75 #[.string ⟨t.toArray⟩, .pointer (some ⟨S, 0, none⟩)] w fun e w' => e = .returned (.bool (eqpB s t)) ∧ w = w' := by
  rcases Bool.eq_false_or_eq_true (t.isPrefixOf s) with h1 | h1
  · have H1 := Lib.hid h1
    have HE : Hid (eqpB s t = true) := by unfold Hid eqpB; rw [h1]; rfl
    clear h1
    go_enter Tryz.func75, Tryz.ntmps75
    go_wp2_with (first
      | (go_at_call 76; (with_reducible refine (hasPrefix_l s t true _ H1.out).mono ?_); rintro e w1 ⟨rfl, rfl⟩))
    go_ret
    exact ⟨by rw [HE.out]; rfl, rfl⟩
  · have H1 := Lib.hid h1
    have HE : Hid (eqpB s t = s.isPrefixOf t) := by unfold Hid eqpB; rw [h1]; rfl
    obtain ⟨b, hb⟩ : ∃ b, s.isPrefixOf t = b := ⟨_, rfl⟩
    have H2 := Lib.hid hb
    rw [hb] at HE
    clear h1 hb
    go_enter Tryz.func75, Tryz.ntmps75
    go_wp2_with (first
      | (go_at_call 76; (with_reducible refine (hasPrefix_l s t false _ H1.out).mono ?_); rintro e w1 ⟨rfl, rfl⟩)
      | (go_at_call 76; (with_reducible refine (hasPrefix_l t s b _ H2.out).mono ?_); rintro e w1 ⟨rfl, rfl⟩))
    go_ret
    exact ⟨by rw [HE.out]; rfl, rfl⟩
set_option maxHeartbeats 1000000 in
theorem idx_c (ws : List (List UInt8)) (s : List UInt8) (R off cap S : Nat) (w : World) (hw : RdS ws R off w) (hS : w.cell? ⟨S, 0, none⟩ = some (.string ⟨s.toArray⟩)) (hn : ws.length ≤ 1000) (hcap : ws.length ≤ cap) (hm : cap ≤ maxLen) :
    Calls Tryz.prog 107 #[.slice (some ⟨R, off, none⟩) ws.length cap, .func (.func 75) #[] #[.pointer (some ⟨S, 0, none⟩)]] w fun e w' => (∃ z : Int, e = .returned (.int .i64 z) ∧ (decide (0 ≤ z) = preB ws s)) ∧ w = w' := by
  have HR := Lib.hid hw.2
  have HP : Hid (preB ws s = ws.any (eqpB s)) := rfl
  unfold maxLen at hm
  clear hw
  go_enter Tryz.func107, Tryz.ntmps107
  go_wp2_with fail
  go_loop [8] (fun i => ∃ j : Nat, j ≤ ws.length ∧ i = .int .i64 (j : Int) ∧ Hid ((ws.take j).any (eqpB s) = false)) (fun i => ws.length - (intOf i).toNat)
  case atStart => exact ⟨0, Nat.zero_le _, rfl, rfl⟩
  case round =>
    obtain ⟨j, hj, rfl, Hall⟩ := hrel
    by_cases hlt : j < ws.length
    · have c0 := HR.out j hlt
      have Hs : Hid ((ws.take (j + 1)).any (eqpB s) = ((ws.take j).any (eqpB s) || eqpB s ws[j])) := by rw [Hid, List.take_add_one, List.any_append]; simp [hlt]
      have hmem : ws[j] ∈ ws := List.getElem_mem _
      obtain ⟨t, ht⟩ : ∃ t, t = ws[j] := ⟨_, rfl⟩
      rw [← ht] at c0 Hs hmem
      clear ht
      rcases Bool.eq_false_or_eq_true (eqpB s t) with hp | hp
      · have HV : Hid (preB ws s = true) := by rw [Hid, HP.out, List.any_eq_true]; exact ⟨t, hmem, hp⟩
        have Hp := Lib.hid hp
        clear hp hmem
        go_wp2_with (first
          | (go_at_call 75; (with_reducible refine (clo_c s t S _ hS).mono ?_); (with_reducible rw [Hp.out]); rintro e w1 ⟨rfl, rfl⟩))
        go_ret
        exact ⟨⟨(j : Int), rfl, by rw [HV.out]; simp⟩, rfl⟩
      · have Hp := Lib.hid hp
        have Hn : Hid ((ws.take (j + 1)).any (eqpB s) = false) := by rw [Hid, Hs.out, Hall.out, hp]; rfl
        clear hp hmem
        go_wp2_with (first
          | (go_at_call 75; (with_reducible refine (clo_c s t S _ hS).mono ?_); (with_reducible rw [Hp.out]); rintro e w1 ⟨rfl, rfl⟩))
        go_round
        case rel => exact ⟨j + 1, by omega, by go_num, Hn⟩
        case measure => simp [intOf]; omega
    · obtain rfl : j = ws.length := by omega
      have HV : Hid (preB ws s = false) := by rw [Hid, HP.out]; have := Hall.out; rwa [List.take_length] at this
      go_wp2_with fail
      go_ret
      exact ⟨⟨-1, rfl, by rw [HV.out]; rfl⟩, rfl⟩
theorem cfn_c (ws : List (List UInt8)) (s : List UInt8) (R off cap S : Nat) (b : Bool) (w : World) (hw : RdS ws R off w) (hS : w.cell? ⟨S, 0, none⟩ = some (.string ⟨s.toArray⟩)) (hn : ws.length ≤ 1000) (hcap : ws.length ≤ cap) (hm : cap ≤ maxLen) (hb : preB ws s = b) :
    Calls Tryz.prog 74 #[.slice (some ⟨R, off, none⟩) ws.length cap, .func (.func 75) #[] #[.pointer (some ⟨S, 0, none⟩)]] w fun e w' => e = .returned (.bool b) ∧ w = w' := by
  have HC := Lib.hid (idx_c ws s R off cap S w hw hS hn hcap hm)
  have Hb := Lib.hid hb
  clear hb
  go_enter Tryz.func74, Tryz.ntmps74
  go_wp2_with (first
    | (go_at_call 107; (with_reducible refine HC.out.mono ?_); rintro e w1 ⟨⟨z, rfl, hz⟩, rfl⟩))
  go_ret
  exact ⟨congrArg (fun b => Ending.returned (Value.bool b)) Hb.out, rfl⟩
end Go.Proofs.YtnhdmnhfllecgaaGreatDoor
/- Patterns: the walks of the questions on bytes and kinds. -/
namespace Go.Proofs.YtnhdmnhfllecgaaGreatDoor
set_option linter.unusedVariables false
set_option linter.unusedSimpArgs false
open Go.RowKit

theorem isLt_c (c : UInt8) (w : World) : Calls Tryz.prog 67 #[.int .u8 (c.toNat : Int)] w fun e w' => e = .returned (.bool (isLt c)) ∧ w = w' := by
  have hc : c.toNat < 256 := c.toNat_lt
  go_enter Tryz.func67, Tryz.ntmps67
  go_wp2
  all_goals
    go_ret
    refine ⟨?_, rfl⟩
    refine congrArg (fun b => Ending.returned (Value.bool b)) ?_
    unfold isLt
    rw [Bool.eq_iff_iff]
    simp
    omega
theorem prn_c (c : UInt8) (w : World) : Calls Tryz.prog 65 #[.int .u8 (c.toNat : Int)] w fun e w' => e = .returned (.bool (prn c)) ∧ w = w' := by
  have hc : c.toNat < 256 := c.toNat_lt
  go_enter Tryz.func65, Tryz.ntmps65
  go_wp2
  all_goals
    go_ret
    refine ⟨?_, rfl⟩
    refine congrArg (fun b => Ending.returned (Value.bool b)) ?_
    unfold prn
    rw [Bool.eq_iff_iff]
    simp
    omega
theorem full_c (k : Int) (w : World) : Calls Tryz.prog 104 #[.int .i64 k] w fun e w' => e = .returned (.int .i64 (fullZ k)) ∧ w = w' := by
  go_enter Tryz.func104, Tryz.ntmps104
  go_wp2
  all_goals
    go_ret
    refine ⟨?_, rfl⟩
    refine congrArg (fun b => Ending.returned (Value.int .i64 b)) ?_
    unfold fullZ
    simp_all
end Go.Proofs.YtnhdmnhfllecgaaGreatDoor
/- The cells of a list of parts. -/
namespace Go.Proofs.YtnhdmnhfllecgaaGreatDoor
set_option linter.unusedVariables false
set_option linter.unusedSimpArgs false

def pc (p : Prt) : List Value := [.int .i64 p.k, .int .i64 p.w, .string ⟨p.t.toArray⟩]
def pcs (l : List Prt) : List Value := l.flatMap pc
theorem pcs_nil : pcs [] = [] := rfl
theorem pcs_app (a b : List Prt) : pcs (a ++ b) = pcs a ++ pcs b := by simp [pcs]
theorem pcs_one (p : Prt) : pcs [p] = pc p := by simp [pcs]
theorem pcs_cons (p : Prt) (r : List Prt) : pcs (p :: r) = pc p ++ pcs r := by simp [pcs]
theorem pcs_len (l : List Prt) : (pcs l).length = 3 * l.length := by
  induction l with
  | nil => rfl
  | cons p r ih => rw [pcs_cons, List.length_append, ih]; simp [pc]; omega
theorem pcs_at : ∀ (l : List Prt) (i : Nat) (h : i < l.length), (pcs l)[3 * i]? = some (.int .i64 l[i].k) ∧ (pcs l)[3 * i + 1]? = some (.int .i64 l[i].w) ∧ (pcs l)[3 * i + 2]? = some (.string ⟨l[i].t.toArray⟩)
  | [], i, h => by simp at h
  | p :: r, 0, _ => by rw [pcs_cons]; exact ⟨rfl, rfl, rfl⟩
  | p :: r, i + 1, h => by
    have h' : i < r.length := by simpa using h
    obtain ⟨a, b, c⟩ := pcs_at r i h'
    rw [pcs_cons]
    have e : ∀ k, (pc p ++ pcs r)[3 * (i + 1) + k]? = (pcs r)[3 * i + k]? := by
      intro k
      rw [List.getElem?_append_right (by simp [pc]; omega)]
      congr 1
      simp [pc]; omega
    exact ⟨(e 0).trans a, (e 1).trans b, (e 2).trans c⟩
/-- A new text of the last part. -/
theorem pcs_set (r : List Prt) (p : Prt) (t : List UInt8) : (pcs (r ++ [p])).set (3 * r.length + 2) (.string ⟨t.toArray⟩) = pcs (r ++ [⟨p.k, p.w, t⟩]) := by
  rw [pcs_app, pcs_app, pcs_one, pcs_one, List.set_append_right _ _ (by rw [pcs_len]; omega), pcs_len]
  congr 1
  rw [show 3 * r.length + 2 - 3 * r.length = 2 by omega]
  rfl
theorem pcs_one_cell (l : List Prt) : ∀ u ∈ pcs l, u.oneCell' = true := by
  intro u hu
  unfold pcs at hu
  rw [List.mem_flatMap] at hu
  obtain ⟨p, _, hp⟩ := hu
  simp only [pc, List.mem_cons, List.not_mem_nil, or_false] at hp
  rcases hp with rfl | rfl | rfl <;> rfl
end Go.Proofs.YtnhdmnhfllecgaaGreatDoor
/- Patterns: the walk of part. -/
namespace Go.Proofs.YtnhdmnhfllecgaaGreatDoor
set_option linter.unusedVariables false
set_option linter.unusedSimpArgs false
open Go.RowKit

theorem all_succP {α : Type} (P : List α) (f : α → Bool) (j : Nat) (h : j < P.length) : (P.take (j + 1)).all f = ((P.take j).all f && f P[j]) := by
  rw [List.take_add_one, List.all_append]; simp [h]
theorem prn_lit (c : UInt8) (b : Bool) (w : World) (h : prn c = b) : Calls Tryz.prog 65 #[.int .u8 (c.toNat : Int)] w fun e w' => e = .returned (.bool b) ∧ w = w' := by
  have q := prn_c c w
  rw [h] at q
  exact q
def pv (p : Prt) : Value := .agg #[.int .i64 p.k, .int .i64 p.w, .string ⟨p.t.toArray⟩]
end Go.Proofs.YtnhdmnhfllecgaaGreatDoor
/- Patterns, plainly: what loses nothing. No program in sight. -/
namespace Go.Proofs.YtnhdmnhfllecgaaGreatDoor
set_option linter.unusedVariables false
set_option linter.unusedSimpArgs false

def fstB (q : Prt) : UInt8 := if q.k = 1 then q.t.headD 0 else 0
/-- Bad next to each other, as the program asks. -/
def badB (p q : Prt) : Bool :=
  (decide (0 < fullZ p.k) && decide (p.w < fullZ p.k) && (decide (0 < fullZ q.k) || decide (q.k = 15) || isDg (fstB q))) ||
  (decide (p.k = 14) && decide (fstB q = 58)) ||
  (decide (p.k = 15) && (decide (q.k ≠ 1) || isLt (fstB q) || isDg (fstB q) || decide (fstB q = 43) || decide (fstB q = 45)))
/-- .. and as the reference asks. -/
def badR (p q : Prt) : Bool :=
  (decide (p.w < fullZ p.k) && (decide (0 < fullZ q.k) || decide (q.k = 15) || isDg (fstB q))) ||
  (decide (p.k = 14) && decide (fstB q = 58)) ||
  (decide (p.k = 15) && (decide (q.k ≠ 1) || isLt (fstB q) || isDg (fstB q) || decide (fstB q = 43) || decide (fstB q = 45)))
def losL : List Prt → Bool
  | p :: q :: r => !badB p q && losL (q :: r)
  | _ => true
def hasK (l : List Prt) (ks : List Int) : Bool := l.any fun p => ks.contains p.k
def losB (l : List Prt) : Bool := validB l && hasK l [2] && hasK l [3, 4, 5] && hasK l [6] && (hasK l [9] || (hasK l [10] && hasK l [13])) && hasK l [11] && hasK l [12] && losL l
theorem partB_width {p : Prt} (h : partB p = true) : 0 ≤ p.w := by
  unfold partB at h
  by_cases hk : p.k = 1
  · rw [if_pos hk] at h
    simp only [Bool.and_eq_true, decide_eq_true_eq] at h
    omega
  · rw [if_neg hk] at h
    by_cases q : 0 < fullZ p.k
    · rw [if_pos q] at h
      simp only [Bool.and_eq_true, decide_eq_true_eq] at h
      omega
    · rw [if_neg q] at h
      simp only [Bool.and_eq_true, decide_eq_true_eq] at h
      omega
theorem badR_eq {p : Prt} (q : Prt) (h : partB p = true) : badR p q = badB p q := by
  have hw := partB_width h
  unfold badR badB
  by_cases hf : p.w < fullZ p.k
  · rw [decide_eq_true hf, decide_eq_true (show 0 < fullZ p.k by omega)]; simp
  · rw [decide_eq_false hf]; simp
theorem hasK_or (l : List Prt) (a b c : Int) : hasK l [a, b, c] = (hasK l [a] || hasK l [b] || hasK l [c]) := by
  unfold hasK
  rw [Bool.eq_iff_iff]
  simp only [Bool.or_eq_true, List.any_eq_true, List.contains_cons, List.contains_nil, Bool.or_false, beq_iff_eq]
  constructor
  · rintro ⟨x, hx, h⟩
    rcases h with h | h | h
    · exact .inl (.inl ⟨x, hx, h⟩)
    · exact .inl (.inr ⟨x, hx, h⟩)
    · exact .inr ⟨x, hx, h⟩
  · rintro ((⟨x, hx, h⟩ | ⟨x, hx, h⟩) | ⟨x, hx, h⟩)
    · exact ⟨x, hx, .inl h⟩
    · exact ⟨x, hx, .inr (.inl h)⟩
    · exact ⟨x, hx, .inr (.inr h)⟩
/-- All parts of a valid list are parts. -/
theorem tailB_all : ∀ (l : List Prt) (q : Option Prt), tailB q l = true → ∀ p ∈ l, partB p = true
  | [], _, _, p, hp => by simp at hp
  | x :: r, q, h, p, hp => by
    have h' : partB x = true ∧ tailB (some x) r = true := by
      cases q with
      | none => simpa [tailB] using h
      | some q =>
        simp only [tailB, Bool.and_eq_true] at h
        exact ⟨h.1.1, h.2⟩
    rcases List.mem_cons.1 hp with rfl | hp
    · exact h'.1
    · exact tailB_all r (some x) h'.2 p hp
end Go.Proofs.YtnhdmnhfllecgaaGreatDoor
/- Decimal digits, plainly. -/
namespace Go.Proofs.YtnhdmnhfllecgaaGreatDoor

def dg1 (n : Nat) : UInt8 := UInt8.ofNat (48 + n % 10)
/-- The last k decimal digits of n. -/
def padN : Nat → Nat → List UInt8
  | 0, _ => []
  | k + 1, n => padN k (n / 10) ++ [dg1 n]
theorem padN_length (k n : Nat) : (padN k n).length = k := by
  induction k generalizing n with
  | zero => rfl
  | succ k ih => simp [padN, ih]
theorem dg1_toNat (n : Nat) : (dg1 n).toNat = 48 + n % 10 := by
  unfold dg1
  have : n % 10 < 10 := Nat.mod_lt _ (by decide)
  rw [UInt8.toNat_ofNat']; omega
/-- One digit more, in front. -/
theorem padN_cons (k n : Nat) : padN (k + 1) n = dg1 (n / 10 ^ k) :: padN k n := by
  induction k generalizing n with
  | zero => simp [padN]
  | succ k ih =>
    rw [padN, ih (n / 10)]
    show dg1 (n / 10 / 10 ^ k) :: (padN k (n / 10) ++ [dg1 n]) = _
    rw [Nat.div_div_eq_div_mul, Nat.pow_succ, Nat.mul_comm 10]
    rfl
theorem padN_decDigits (n : Nat) : padN (Lib.nDigits n) n = Lib.decDigits n := by
  induction n using Nat.strongRecOn with
  | _ n ih =>
    by_cases h : n < 10
    · rw [Lib.nDigits_small h, Lib.decDigits, dif_pos h]
      simp [padN, dg1, Nat.mod_eq_of_lt h]
    · rw [Lib.nDigits_big h, Lib.decDigits, dif_neg h, padN, ih (n / 10) (by omega)]
      rfl
/-- A decimal text with at least k digits. -/
def itx (n k : Nat) : List UInt8 := padN (max (Lib.nDigits n) k) n
theorem nDigits_le {n k : Nat} (hk : 1 ≤ k) (h : n < 10 ^ k) : Lib.nDigits n ≤ k := by
  induction k generalizing n with
  | zero => omega
  | succ k ih =>
    by_cases h10 : n < 10
    · rw [Lib.nDigits_small h10]; omega
    · rw [Lib.nDigits_big h10]
      rw [Nat.pow_succ] at h
      rcases Nat.eq_zero_or_pos k with rfl | hk0
      · simp at h; omega
      · have := ih (n := n / 10) hk0 (by omega)
        omega
theorem itx_small {n k : Nat} (hk : 1 ≤ k) (h : n < 10 ^ k) : itx n k = padN k n := by
  unfold itx
  rw [Nat.max_eq_right (nDigits_le hk h)]
theorem itx_one (n : Nat) : itx n 1 = Lib.decDigits n := by
  unfold itx
  rw [Nat.max_eq_left (Lib.nDigits_pos n), padN_decDigits]
theorem pow_nDigits (n : Nat) (j : Nat) (hj : j < Lib.nDigits n) (hn : 0 < n) : 0 < n / 10 ^ j := by
  have : 10 ^ j ≤ n := by
    induction j generalizing n with
    | zero => simp; omega
    | succ j ih =>
      by_cases h : n < 10
      · rw [Lib.nDigits_small h] at hj; omega
      · rw [Lib.nDigits_big h] at hj
        have := ih (n / 10) (by omega) (by omega)
        rw [Nat.pow_succ]; omega
  exact Nat.div_pos this (Nat.pow_pos (by decide))
theorem div_nDigits (n : Nat) : n / 10 ^ Lib.nDigits n = 0 := Nat.div_eq_of_lt (Lib.lt_pow_nDigits n)
theorem nDigits_20 (n : Nat) (h : n < 18446744073709551616) : Lib.nDigits n ≤ 20 := nDigits_le (by decide) (by omega)
theorem div_zero_of {n j : Nat} (hn : 0 < n) (h : n / 10 ^ j = 0) : Lib.nDigits n ≤ j := by
  rcases Nat.lt_or_ge j (Lib.nDigits n) with q | q
  · have := pow_nDigits n j q hn; omega
  · exact q

/-- The cells of the array of 24 bytes when the last j digits lie in it. -/
def txC (n j : Nat) : Array Value := (List.replicate (24 - j) (Value.int .u8 0) ++ (padN j n).map fun c => Value.int .u8 c.toNat).toArray
theorem txC_size (n j : Nat) (h : j ≤ 24) : (txC n j).size = 24 := by simp [txC, padN_length]; omega
theorem txC_zero (n : Nat) : txC n 0 = #[.int .u8 0, .int .u8 0, .int .u8 0, .int .u8 0, .int .u8 0, .int .u8 0, .int .u8 0, .int .u8 0, .int .u8 0, .int .u8 0, .int .u8 0, .int .u8 0, .int .u8 0, .int .u8 0, .int .u8 0, .int .u8 0, .int .u8 0, .int .u8 0, .int .u8 0, .int .u8 0, .int .u8 0, .int .u8 0, .int .u8 0, .int .u8 0] := rfl
theorem txC_step (n j : Nat) (h : j < 24) : (txC n j).setIfInBounds (23 - j) (.int .u8 ((48 + n / 10 ^ j % 10 : Nat) : Int)) = txC n (j + 1) := by
  unfold txC
  rw [padN_cons, List.setIfInBounds_toArray]
  congr 1
  rw [show 24 - j = (24 - (j + 1)) + 1 from by omega, List.replicate_succ', List.append_assoc, List.set_append_right _ _ (by simp <;> omega)]
  have e : 23 - j - (List.replicate (24 - (j + 1)) (Value.int .u8 0)).length = 0 := by simp <;> omega
  rw [e]
  simp [dg1_toNat]
theorem txC_step' (n j q : Nat) (h : j < 24) (hq : q = n / 10 ^ j) : (txC n j).setIfInBounds (24 - j - 1) (.int .u8 (48 + (q : Int) % 10)) = txC n (j + 1) := by
  rw [← txC_step n j h, hq, show 24 - j - 1 = 23 - j from by omega]
  congr 2
theorem div_pow_succ (n j q : Nat) (hq : q = n / 10 ^ j) : q / 10 = n / 10 ^ (j + 1) := by
  rw [hq, Nat.div_div_eq_div_mul, Nat.pow_succ]
theorem txC_get (n j i : Nat) (hj : j ≤ 24) (hi : i < 24) : ∃ x : Int, (txC n j)[i]? = some (.int .u8 x) := by
  have hs := txC_size n j hj
  rw [Array.getElem?_eq_getElem (by omega)]
  unfold txC
  simp only [List.getElem_toArray]
  rw [List.getElem_append]
  split
  · exact ⟨0, by simp⟩
  · exact ⟨_, by simp; rfl⟩
theorem txC_at (n j i : Nat) (_ : j ≤ 24) (c : UInt8) (h : (padN j n)[i]? = some c) : (txC n j)[24 - j + i]? = some (.int .u8 c.toNat) := by
  unfold txC
  simp only [List.getElem?_toArray]
  rw [List.getElem?_append_right (by simp)]
  simp [h]
end Go.Proofs.YtnhdmnhfllecgaaGreatDoor
