/- Small lemmas on worlds and results that every walk of this seat uses; nothing of the program is in sight here. -/
import Derived.Test.YticckkadmhklmaaGreatDoorRows
import Derived.WalkKit
import Derived.WalkSpells
import Derived.WalkLawsBesides
import Derived.BigQuiet
import Derived.Deep.QuietTactic
import Derived.Deep.RegionHeld3
import Derived.Lib.Hide
import Derived.Lib.Split
import Derived.Lib.SplitLaws
import Derived.Lib.AtoiAll
import Derived.Lib.ItoaNum
namespace Go.Proofs.YticckkadmhklmaaGreatDoor
open Go.RowKit

/-- The world w' has all the blocks of w as they were. -/
def Ext (w w' : World) : Prop := Below w.heap.size w w'
theorem Ext.refl (w : World) : Ext w w := Below.refl _ _
theorem Ext.size {w w' : World} (h : Ext w w') : w.heap.size ≤ w'.heap.size := Below.size h
theorem Ext.trans {a b c : World} (h : Ext a b) (k : Ext b c) : Ext a c := Below.trans h (Below.mono k h.size)
theorem Ext.drewN {a w : World} (h : Ext a w) (n : Nat) : Ext a (w.drewN n) := ⟨h.os, h.tape, h.output, h.size, h.block⟩
theorem Ext.drew {a w : World} (h : Ext a w) : Ext a w.drew := ⟨h.os, h.tape, h.output, h.size, h.block⟩
theorem Ext.alloc {a w : World} (h : Ext a w) (o : Obj) : Ext a (w.alloc o) := Below.alloc h h.size o
theorem Ext.setCell {a w : World} (h : Ext a w) {p : Addr} (hp : a.heap.size ≤ p.block) (u : Value) : Ext a (w.setCell p u) := Below.setCell h hp u
theorem Ext.cells {w w' : World} (h : Ext w w') : ∀ b o, b < w.heap.size → w'.cell? ⟨b, o, none⟩ = w.cell? ⟨b, o, none⟩ := fun b o hb => Below.cell h (p := ⟨b, o, none⟩) hb
theorem Ext.frozens {w w' : World} (h : Ext w w') : ∀ b o, b < w.heap.size → w'.frozen? ⟨b, o, none⟩ = w.frozen? ⟨b, o, none⟩ := fun b o hb => Below.frozen h (p := ⟨b, o, none⟩) hb
theorem Ext.lt {w w' : World} (h : Ext w w') {n : Nat} (hn : n < w.heap.size) : n < w'.heap.size := Nat.lt_of_lt_of_le hn h.size
theorem Ext.of_drewN {w w' : World} (h : ∃ n, w.drewN n = w') : Ext w w' := by
  obtain ⟨n, rfl⟩ := h
  exact (Ext.refl w).drewN n
theorem Ext.drewN_left {w w' : World} {n : Nat} (h : Ext (w.drewN n) w') : Ext w w' := ⟨h.os, h.tape, h.output, h.size, h.block⟩

theorem ret_i {k : IntKind} {a a' : Int} (h : a = a') : Ending.returned (.int k a) = .returned (.int k a') := by rw [h]
theorem ret_b {a a' : Bool} (h : a = a') : Ending.returned (.bool a) = .returned (.bool a') := by rw [h]
theorem ret_s {a a' : ByteArray} (h : a = a') : Ending.returned (.string a) = .returned (.string a') := by rw [h]
theorem ret_i2 {k1 k2 : IntKind} {a b a' b' : Int} (h1 : a = a') (h2 : b = b') : Ending.returned (.tuple #[.int k1 a, .int k2 b]) = .returned (.tuple #[.int k1 a', .int k2 b']) := by rw [h1, h2]
theorem ret_i3 {k1 k2 k3 : IntKind} {a b c a' b' c' : Int} (h1 : a = a') (h2 : b = b') (h3 : c = c') : Ending.returned (.tuple #[.int k1 a, .int k2 b, .int k3 c]) = .returned (.tuple #[.int k1 a', .int k2 b', .int k3 c']) := by rw [h1, h2, h3]

theorem quiet_of {P : Program} {f : FuncId} {args : Array Value} {w : World} {a n : Nat} {v : Value}
    (h : Calls P f args (w.drewN (a + n)) fun e w' => e = .returned v ∧ ∃ m, (w.drewN (a + n)).drewN m = w') :
    Calls P f args (w.drewN (a + n)) fun e w'' => e = .returned v ∧ ∃ m, w'' = w.drewN (a + m) :=
  h.mono fun _ _ ⟨he, m, hm⟩ => ⟨he, n + m, by rw [← hm, World.drewN_drewN, Nat.add_assoc]⟩
theorem quiet_of0 {P : Program} {f : FuncId} {args : Array Value} {w : World} {n : Nat} {v : Value}
    (h : Calls P f args (w.drewN n) fun e w' => e = .returned v ∧ ∃ m, (w.drewN n).drewN m = w') :
    Calls P f args (w.drewN n) fun e w'' => e = .returned v ∧ ∃ m, w'' = w.drewN m :=
  h.mono fun _ _ ⟨he, m, hm⟩ => ⟨he, n + m, by rw [← hm, World.drewN_drewN]⟩

theorem neg_div (n b : Int) (hb : 0 < b) : (-n) / b = if n % b = 0 then -(n / b) else -(n / b) - 1 := by
  have h1 := Int.mul_ediv_add_emod n b
  have h2 := Int.emod_nonneg n (show b ≠ 0 by omega)
  have h3 := Int.emod_lt_of_pos n hb
  have e1 : -(n / b) * b = - (b * (n / b)) := by rw [Int.neg_mul, Int.mul_comm]
  split
  · rename_i h
    rw [Int.ediv_eq_iff_of_pos hb]
    rw [e1]; omega
  · rename_i h
    rw [Int.ediv_eq_iff_of_pos hb, Int.sub_mul, e1]; omega

theorem neg_mod (n b : Int) (hb : 0 < b) : (-n) % b = if n % b = 0 then 0 else b - n % b := by
  have h1 := Int.mul_ediv_add_emod n b
  have h2 := Int.mul_ediv_add_emod (-n) b
  rw [neg_div n b hb] at h2
  split
  · rename_i h
    rw [if_pos h, Int.mul_neg] at h2
    omega
  · rename_i h
    rw [if_neg h, Int.mul_sub, Int.mul_neg] at h2
    omega

theorem div_half (a b : Int) (ha : 0 ≤ a) (hb : 2 ≤ b) : 2 * (a / b) ≤ a := by
  have h1 := Int.mul_ediv_add_emod a b
  have h2 := Int.emod_nonneg a (show b ≠ 0 by omega)
  have h3 := Int.ediv_nonneg (a := a) (b := b) ha (by omega)
  have h4 : 2 * (a / b) ≤ b * (a / b) := Int.mul_le_mul_of_nonneg_right hb h3
  omega
end Go.Proofs.YticckkadmhklmaaGreatDoor
/- Small lemmas on strings of bytes; nothing of the program is in sight here. -/
namespace Go.Proofs.YticckkadmhklmaaGreatDoor
set_option linter.unusedVariables false
set_option linter.unusedSimpArgs false
open Go.RowKit

def isDg (c : UInt8) : Bool := decide (48 ≤ c.toNat ∧ c.toNat ≤ 57)
def val (l : List UInt8) : Nat := l.foldl (fun a c => 10 * a + (c.toNat - 48)) 0
theorem isDg_iff {c : UInt8} : isDg c = true ↔ 48 ≤ c.toNat ∧ c.toNat ≤ 57 := by unfold isDg; simp
theorem val_snoc (l : List UInt8) (c : UInt8) : val (l ++ [c]) = 10 * val l + (c.toNat - 48) := by unfold val; simp
theorem val_take_succ (l : List UInt8) (k : Nat) (h : k < l.length) : val (l.take (k + 1)) = 10 * val (l.take k) + (l[k].toNat - 48) := by
  rw [List.take_succ_eq_append_getElem h, val_snoc]
theorem snoc_ind {P : List UInt8 → Prop} (h0 : P []) (h1 : ∀ l c, P l → P (l ++ [c])) (l : List UInt8) : P l := by
  have H : ∀ r : List UInt8, P r.reverse := by
    intro r
    induction r with
    | nil => exact h0
    | cons c r ih => rw [List.reverse_cons]; exact h1 _ c ih
  have := H l.reverse
  rwa [List.reverse_reverse] at this
theorem val_nil : val [] = 0 := rfl
theorem val_lt (l : List UInt8) (h : ∀ c ∈ l, isDg c = true) : val l < 10 ^ l.length := by
  revert h
  refine snoc_ind (P := fun l => (∀ c ∈ l, isDg c = true) → val l < 10 ^ l.length) ?_ ?_ l
  · intro _; simp [val_nil]
  · intro l c ih h
    have := isDg_iff.1 (h c (by simp))
    have := ih (fun x hx => h x (by simp [hx]))
    rw [List.length_append, List.length_singleton, val_snoc, Nat.pow_succ]; omega
theorem bget (l : List UInt8) (k : Nat) (h : k < l.length) (c : UInt8) (hc : c = l[k]) : (⟨l.toArray⟩ : ByteArray)[k]'(by simpa [ByteArray.size] using h) = c := by
  rw [hc]
  rfl
theorem bdrop (l : List UInt8) (k : Nat) : (⟨l.toArray⟩ : ByteArray).extract k l.length = ⟨(l.drop k).toArray⟩ := by
  apply ByteArray.ext
  simp only [ByteArray.data_extract, List.extract_toArray]
  rw [List.extract_eq_take_drop, List.take_of_length_le (by simp)]
theorem bmid (l : List UInt8) (a b : Nat) : (⟨l.toArray⟩ : ByteArray).extract a b = ⟨((l.drop a).take (b - a)).toArray⟩ := by
  apply ByteArray.ext
  simp only [ByteArray.data_extract, List.extract_toArray]
  try rw [List.extract_eq_take_drop]
theorem snoc_str (l : List UInt8) (c : UInt8) : (⟨l.toArray⟩ : ByteArray) ++ ⟨#[c]⟩ = ⟨(l ++ [c]).toArray⟩ := by
  apply ByteArray.ext
  simp
theorem app_str (a b : List UInt8) : (⟨a.toArray⟩ : ByteArray) ++ ⟨b.toArray⟩ = ⟨(a ++ b).toArray⟩ := by
  apply ByteArray.ext
  simp
theorem u8_beq {c : UInt8} {k : Nat} (hk : k < 256) : (((c.toNat : Nat) : Int) == (k : Int)) = decide (c = UInt8.ofNat k) := by
  rw [Bool.eq_iff_iff, beq_iff_eq, decide_eq_true_eq, ← UInt8.toNat_inj, UInt8.toNat_ofNat']
  omega
theorem ba_mk (s : ByteArray) : s = ⟨(s.data.toList).toArray⟩ := by
  apply ByteArray.ext; simp

/-- strconv.Atoi at a few digits. -/
theorem pu_val (l : List UInt8) : ∀ (acc : Nat), acc < 1000000 → l.length ≤ 9 → (∀ c ∈ l, isDg c = true) → Lib.parseUint10 acc l = .ok (l.foldl (fun a c => 10 * a + (c.toNat - 48)) acc) := by
  suffices H : ∀ (n : Nat) (l : List UInt8) (acc : Nat), l.length ≤ n → n ≤ 9 → acc < 10 ^ (16 - n) → (∀ c ∈ l, isDg c = true) → Lib.parseUint10 acc l = .ok (l.foldl (fun a c => 10 * a + (c.toNat - 48)) acc) by
    intro acc ha hl hd
    exact H 9 l acc hl (by omega) (by have : (10 : Nat) ^ (16 - 9) = 10000000 := rfl; omega) hd
  intro n
  induction n with
  | zero =>
    intro l acc hl _ _ _
    obtain rfl : l = [] := List.length_eq_zero_iff.1 (by omega)
    rfl
  | succ n ih =>
    intro l acc hl hn ha hd
    match l with
    | [] => rfl
    | c :: r =>
      have hc := isDg_iff.1 (hd c (by simp))
      have h16 : (10 : Nat) ^ (16 - (n + 1)) ≤ 10 ^ 15 := Nat.pow_le_pow_right (by omega) (by omega)
      have h15 : (10 : Nat) ^ 15 = 1000000000000000 := rfl
      have e : (10 : Nat) ^ (16 - n) = 10 ^ (16 - (n + 1)) * 10 := by rw [← Nat.pow_succ]; congr 1; omega
      rw [Lib.parseUint10, if_pos hc, if_neg (by omega), if_neg (by omega), ih r _ (by simpa using hl) (by omega) (by omega) (fun x hx => hd x (by simp [hx])), List.foldl_cons, Nat.mul_comm]
theorem atoi_val (l : List UInt8) (h1 : 1 ≤ l.length) (h2 : l.length ≤ 9) (hd : ∀ c ∈ l, isDg c = true) : Lib.atoiAll l = .ok (val l : Int) := by
  match l with
  | c :: r =>
    have hc := isDg_iff.1 (hd c (by simp))
    have hv := val_lt (c :: r) hd
    have h10 : (10 : Nat) ^ (c :: r).length ≤ 10 ^ 9 := Nat.pow_le_pow_right (by omega) h2
    have h9 : (10 : Nat) ^ 9 = 1000000000 := rfl
    unfold Lib.atoiAll
    simp only
    rw [if_neg (by omega)]
    unfold Lib.parseMag
    rw [if_neg (by simp), pu_val (c :: r) 0 (by omega) h2 hd]
    show (if ¬ c.toNat = 45 ∧ 9223372036854775808 ≤ val (c :: r) then _ else _) = _
    rw [if_neg (by omega), if_neg (by omega), if_neg (by omega)]
    rfl
/-- A text cut at each place of a byte. -/
def spl (c : UInt8) : List UInt8 → List (List UInt8)
  | [] => [[]]
  | d :: r => if d = c then [] :: spl c r else match spl c r with
    | [] => [[d]]
    | h :: t => (d :: h) :: t
theorem spl_ne (c : UInt8) (l : List UInt8) : spl c l ≠ [] := by
  cases l with
  | nil => simp [spl]
  | cons d r => unfold spl; split; simp; split <;> simp
theorem spl_hit (c : UInt8) (r : List UInt8) : spl c (c :: r) = [] :: spl c r := by rw [spl, if_pos rfl]
theorem spl_cons (c d : UInt8) (r : List UInt8) (h : d ≠ c) : ∃ x t, spl c r = x :: t ∧ spl c (d :: r) = (d :: x) :: t := by
  cases e : spl c r with
  | nil => exact absurd e (spl_ne c r)
  | cons x t => exact ⟨x, t, rfl, by rw [spl, if_neg h, e]⟩
theorem index1_cons (c d : UInt8) (r : List UInt8) : Lib.index (d :: r) [c] = if d = c then 0 else if Lib.index r [c] = -1 then -1 else Lib.index r [c] + 1 := by
  have e : [c].isPrefixOf (d :: r) = decide (d = c) := by
    simp only [List.isPrefixOf, Bool.and_true]
    rw [Bool.eq_iff_iff, beq_iff_eq, decide_eq_true_eq]
    exact eq_comm
  rw [Lib.index, e]
  by_cases h : d = c
  · simp [h]
  · simp [h]
theorem spl_miss (c : UInt8) : ∀ s : List UInt8, Lib.index s [c] = -1 → spl c s = [s] := by
  intro s
  induction s with
  | nil => intro _; rfl
  | cons d r ih =>
    intro h
    rw [index1_cons] at h
    by_cases hd : d = c
    · rw [if_pos hd] at h; omega
    · rw [if_neg hd] at h
      by_cases hi : Lib.index r [c] = -1
      · rw [spl, if_neg hd, ih hi]
      · rw [if_neg hi] at h
        have := Lib.index_ge r [c]
        omega
theorem spl_at (c : UInt8) : ∀ (s : List UInt8) (i : Nat), Lib.index s [c] = i → spl c s = s.take i :: spl c (s.drop (i + 1)) := by
  intro s
  induction s with
  | nil => intro i h; simp [Lib.index] at h
  | cons d r ih =>
    intro i h
    rw [index1_cons] at h
    by_cases hd : d = c
    · rw [if_pos hd] at h
      obtain rfl : i = 0 := by omega
      rw [hd, spl_hit]; rfl
    · rw [if_neg hd] at h
      by_cases hi : Lib.index r [c] = -1
      · rw [if_pos hi] at h; omega
      · rw [if_neg hi] at h
        have := Lib.index_ge r [c]
        obtain ⟨j, hj⟩ : ∃ j : Nat, Lib.index r [c] = j := ⟨(Lib.index r [c]).toNat, by omega⟩
        obtain rfl : i = j + 1 := by omega
        rw [spl, if_neg hd, ih j hj]
        rfl
theorem splitK_spl (c : UInt8) : ∀ (fuel : Nat) (s : List UInt8) (k : Nat), s.length < fuel → Lib.countFrom [c] fuel s ≤ k → Lib.splitK [c] 0 k s = spl c s := by
  intro fuel
  induction fuel with
  | zero => intro s k h; omega
  | succ fuel ih =>
    intro s k hl hk
    rw [Lib.countFrom] at hk
    by_cases hi : Lib.index s [c] = -1
    · rw [spl_miss c s hi]
      cases k with
      | zero => rfl
      | succ k => rw [Lib.splitK, if_pos (by rw [hi]; rfl)]
    · rw [if_neg (by simpa using hi)] at hk
      have hge := Lib.index_ge s [c]
      obtain ⟨i, hi2⟩ : ∃ i : Nat, Lib.index s [c] = i := ⟨(Lib.index s [c]).toNat, by omega⟩
      have hroom := Lib.index_room s [c] (by omega)
      rw [hi2] at hk hroom
      simp only [List.length_singleton] at hk hroom
      have e : ((i : Int)).toNat = i := by omega
      rw [e] at hk
      cases k with
      | zero => omega
      | succ k =>
        rw [Lib.splitK, if_neg (by simpa using hi), hi2, e, spl_at c s i hi2, List.length_singleton, Nat.add_zero]
        rw [ih (s.drop (i + 1)) k (by rw [List.length_drop]; omega) (by omega)]
/-- What strings.Split gives at a separator of one byte. -/
theorem split_spl (c : UInt8) (s : ByteArray) : (Lib.splitB ⟨#[c]⟩ 0 (Lib.countB s ⟨#[c]⟩) s).map (·.data.toList) = spl c s.data.toList := by
  rw [Lib.splitB_data]
  exact splitK_spl c (s.data.toList.length + 1) s.data.toList _ (by omega) (Nat.le_refl _)
theorem split_vals (c : UInt8) (s : ByteArray) : (Lib.splitB ⟨#[c]⟩ 0 (Lib.countB s ⟨#[c]⟩) s).map Value.string = (spl c s.data.toList).map fun l => Value.string ⟨l.toArray⟩ := by
  rw [← split_spl, List.map_map]
  refine List.map_congr_left ?_
  intro b _
  show Value.string b = Value.string ⟨b.data.toList.toArray⟩
  rw [← ba_mk b]
theorem split_count (c : UInt8) (s : ByteArray) : Lib.countB s ⟨#[c]⟩ + 1 = (spl c s.data.toList).length := by
  have h := congrArg List.length (split_spl c s)
  rw [List.length_map] at h
  rw [← h]
  exact (Lib.splitB_all ⟨#[c]⟩ (Nat.le_refl 1) 0 _ s rfl).symm
end Go.Proofs.YticckkadmhklmaaGreatDoor
/- Patterns, plainly: the parts of a pattern. No program in sight. -/
namespace Go.Proofs.YticckkadmhklmaaGreatDoor
set_option linter.unusedVariables false
set_option linter.unusedSimpArgs false

/-- A part: its kind, its width, its text. -/
structure Prt where
  k : Int
  w : Int
  t : List UInt8
deriving DecidableEq
def isLt (c : UInt8) : Bool := decide (97 ≤ c.toNat ∧ c.toNat ≤ 122) || decide (65 ≤ c.toNat ∧ c.toNat ≤ 90)
def prn (c : UInt8) : Bool := decide (32 ≤ c.toNat ∧ c.toNat ≤ 126)
/-- The full width of a kind. -/
def fullN (k : Nat) : Nat := if k = 2 then 4 else if k = 3 ∨ k = 6 ∨ k = 9 ∨ k = 10 ∨ k = 11 ∨ k = 12 then 2 else 0
/-- The kind of a letter that stands for a number. -/
def numK (c : UInt8) : Nat := if c = 121 then 2 else if c = 77 then 3 else if c = 100 then 6 else if c = 72 then 9 else if c = 104 then 10 else if c = 109 then 11 else if c = 115 then 12 else 0
/-- The kind of a run of a letter that stands for a name. -/
def namK (c : UInt8) (n : Nat) : Nat :=
  if c = 77 ∧ n = 3 then 4 else if c = 77 ∧ n = 4 then 5 else if c = 69 ∧ n = 3 then 7 else if c = 69 ∧ n = 4 then 8 else if c = 97 ∧ n = 1 then 13 else if c = 90 ∧ n = 1 then 14 else if c = 122 ∧ n = 1 then 15 else 0
/-- The part of a run of a letter; kind 0: none. -/
def fld (c : UInt8) (n : Nat) : Prt := if numK c ≠ 0 ∧ n ≤ fullN (numK c) then ⟨(numK c : Int), (n : Int), []⟩ else ⟨(namK c n : Int), 0, []⟩
def lastLit (l : List Prt) : Bool := match l.getLast? with | some p => decide (p.k = 1) | none => false
/-- A byte more of a literal. -/
def addLit (l : List Prt) (b : UInt8) : List Prt := match l.getLast? with
  | some p => if p.k = 1 then l.dropLast ++ [⟨1, p.w, p.t ++ [b]⟩] else l ++ [⟨1, 0, [b]⟩]
  | none => l ++ [⟨1, 0, [b]⟩]
def runN (c : UInt8) (r : List UInt8) : Nat := (r.takeWhile (fun x => x == c)).length
theorem runN_le (c : UInt8) (r : List UInt8) : runN c r ≤ r.length := (List.takeWhile_sublist _).length_le
def longB (l : List Prt) : Bool := l.any fun p => decide (100 < p.t.length)
/-- What is read of the rest r, which begins at place i: the parts, the column of an error, the error. -/
def cmpL (r : List UInt8) (i : Nat) (q : Bool) (out : List Prt) : List Prt × Nat × Nat :=
  match r with
  | [] => if q then ([], 0, 4) else if decide (40 < out.length) || longB out then ([], 0, 5) else (out, 0, 0)
  | c :: r =>
    if prn c = false then ([], i + 1, 3)
    else if c = 39 ∧ r.head? = some 39 then cmpL r.tail (i + 2) q (addLit out 39)
    else if c = 39 then cmpL r (i + 1) (!q) out
    else if q = true ∨ isLt c = false then cmpL r (i + 1) q (addLit out c)
    else if (fld c (1 + runN c r)).k = 0 then ([], i + 1, 3)
    else cmpL (r.drop (runN c r)) (i + (1 + runN c r)) q (out ++ [fld c (1 + runN c r)])
termination_by r.length
decreasing_by
  all_goals simp <;> omega
/-- A pattern's parts, the column of an error, the error. -/
def cmpT (s : List UInt8) : List Prt × Nat × Nat := if 200 < s.length then ([], 0, 5) else cmpL s 0 false []
end Go.Proofs.YticckkadmhklmaaGreatDoor
/- Patterns, plainly: facts on adding to a literal; the cells of parts. -/
namespace Go.Proofs.YticckkadmhklmaaGreatDoor
set_option linter.unusedVariables false
set_option linter.unusedSimpArgs false

theorem snoc_cases {α : Type} (l : List α) : l = [] ∨ ∃ r x, l = r ++ [x] := by
  rcases List.eq_nil_or_concat l with h | ⟨r, x, h⟩
  · exact .inl h
  · exact .inr ⟨r, x, by simpa using h⟩
theorem addLit_nil (b : UInt8) : addLit [] b = [⟨1, 0, [b]⟩] := rfl
theorem addLit_snoc (r : List Prt) (p : Prt) (b : UInt8) : addLit (r ++ [p]) b = if p.k = 1 then r ++ [⟨1, p.w, p.t ++ [b]⟩] else r ++ [p] ++ [⟨1, 0, [b]⟩] := by
  unfold addLit
  rw [List.getLast?_concat]
  simp only [List.dropLast_concat]
theorem longB_snoc (r : List Prt) (p : Prt) : longB (r ++ [p]) = (longB r || decide (100 < p.t.length)) := by
  unfold longB; simp
/-- A literal that is too long stays so. -/
theorem long_addLit (l : List Prt) (b : UInt8) (r : List Prt) (p : Prt) (h : addLit l b = r ++ [p]) : longB (addLit l b) = (longB l || decide (100 < p.t.length)) := by
  rw [h, longB_snoc]
  rcases snoc_cases l with rfl | ⟨r', x, rfl⟩
  · rw [addLit_nil] at h
    have e := List.append_inj' (s₁ := []) h rfl
    rw [← e.1]
  · rw [addLit_snoc] at h
    by_cases hk : x.k = 1
    · rw [if_pos hk] at h
      obtain ⟨e1, e2⟩ := List.append_inj' h rfl
      injection e2 with e2
      rw [← e1, ← e2, longB_snoc]
      simp only [List.length_append, List.length_cons, List.length_nil]
      cases longB r'
      · simp; omega
      · simp
    · rw [if_neg hk] at h
      obtain ⟨e1, e2⟩ := List.append_inj' h rfl
      rw [← e1]
theorem addLit_last (l : List Prt) (b : UInt8) : ∃ r p, addLit l b = r ++ [p] ∧ p.k = 1 := by
  rcases snoc_cases l with rfl | ⟨r', x, rfl⟩
  · exact ⟨[], _, rfl, rfl⟩
  · rw [addLit_snoc]
    by_cases hk : x.k = 1
    · rw [if_pos hk]; exact ⟨_, _, rfl, rfl⟩
    · rw [if_neg hk]; exact ⟨_, _, rfl, rfl⟩
theorem addLit_len (l : List Prt) (b : UInt8) : (addLit l b).length ≤ l.length + 1 := by
  rcases snoc_cases l with rfl | ⟨r', x, rfl⟩
  · simp [addLit_nil]
  · rw [addLit_snoc]
    split <;> simp
end Go.Proofs.YticckkadmhklmaaGreatDoor
/- Patterns, plainly: valid lists of parts, as the program and as the reference ask. No program in sight. -/
namespace Go.Proofs.YticckkadmhklmaaGreatDoor
set_option linter.unusedVariables false
set_option linter.unusedSimpArgs false

/-- The full width of whatever kind. -/
def fullZ (k : Int) : Int := if k = 2 then 4 else if k = 3 ∨ k = 6 ∨ k = 9 ∨ k = 10 ∨ k = 11 ∨ k = 12 then 2 else 0
theorem fullZ_nat (k : Nat) : fullZ (k : Int) = (fullN k : Int) := by
  unfold fullZ fullN
  by_cases h : k = 2
  · subst h; rfl
  · have h' : ¬ (k : Int) = 2 := by omega
    rw [if_neg h, if_neg h']
    by_cases q : k = 3 ∨ k = 6 ∨ k = 9 ∨ k = 10 ∨ k = 11 ∨ k = 12
    · rw [if_pos q, if_pos (by omega)]; rfl
    · rw [if_neg q, if_neg (by omega)]; rfl
/-- The program's letters. -/
def letP : List UInt8 := [63, 39, 121, 77, 77, 77, 100, 69, 69, 72, 104, 109, 115, 97, 90, 122]
def lpK (k : Int) : UInt8 := letP.getD k.toNat 0
/-- A part that a pattern can have. -/
def partB (p : Prt) : Bool :=
  if p.k = 1 then decide (p.w = 0) && decide (1 ≤ p.t.length) && decide (p.t.length ≤ 100) && p.t.all prn
  else decide (1 ≤ p.k) && decide (p.k ≤ 15) && p.t.isEmpty && (if 0 < fullZ p.k then decide (1 ≤ p.w) && decide (p.w ≤ fullZ p.k) else decide (p.w = 0))
/-- Behind the part q (none: the first one) all is well. -/
def tailB : Option Prt → List Prt → Bool
  | _, [] => true
  | none, p :: r => partB p && tailB (some p) r
  | some q, p :: r => partB p && !(lpK p.k == lpK q.k) && tailB (some p) r
def validB (l : List Prt) : Bool := decide (l.length ≤ 40) && tailB none l
theorem partB_kind {p : Prt} (h : partB p = true) : 1 ≤ p.k ∧ p.k ≤ 15 := by
  unfold partB at h
  by_cases hk : p.k = 1
  · omega
  · rw [if_neg hk] at h
    simp only [Bool.and_eq_true, decide_eq_true_eq] at h
    exact h.1.1
/-- As the reference asks of a part behind another one. -/
def refB (q : Option Prt) (p : Prt) : Bool :=
  decide (1 ≤ p.k ∧ p.k ≤ 15) &&
  (if p.k = 1 then !(decide (p.w ≠ 0) || decide (p.t.length < 1) || decide (100 < p.t.length) || (match q with | some q => decide (q.k = 1) | none => false)) && p.t.all prn
   else !(!p.t.isEmpty || decide (fullZ p.k = 0 ∧ p.w ≠ 0) || decide (0 < fullZ p.k ∧ (p.w < 1 ∨ fullZ p.k < p.w))) &&
    !(match q with | some q => decide (q.k ≠ 1) && (lpK q.k == lpK p.k) | none => false))
theorem fullZ_nonneg (k : Int) : 0 ≤ fullZ k := by
  unfold fullZ; split <;> (try split) <;> omega
theorem lpK_one : ∀ k : Nat, k < 16 → (lpK (k : Int) = 39 ↔ k = 1) := by decide
theorem lpK_lit {k : Int} (h1 : 1 ≤ k) (h2 : k ≤ 15) : lpK k = 39 ↔ k = 1 := by
  obtain ⟨n, rfl⟩ : ∃ n : Nat, k = n := ⟨k.toNat, by omega⟩
  rw [lpK_one n (by omega)]; omega
theorem refB_none (p : Prt) : refB none p = partB p := by
  unfold refB partB
  by_cases hk : p.k = 1
  · rw [if_pos hk, if_pos hk]
    have e : decide (1 ≤ p.k ∧ p.k ≤ 15) = true := decide_eq_true (by omega)
    rw [e, Bool.eq_iff_iff]
    simp only [Bool.true_and, Bool.and_eq_true, Bool.not_eq_true', Bool.or_eq_false_iff, decide_eq_false_iff_not, decide_eq_true_eq, and_true, Bool.or_false]
    constructor
    · rintro ⟨⟨⟨a, b⟩, c⟩, d⟩
      exact ⟨⟨⟨by omega, by omega⟩, by omega⟩, d⟩
    · rintro ⟨⟨⟨a, b⟩, c⟩, d⟩
      exact ⟨⟨⟨by omega, by omega⟩, by omega⟩, d⟩
  · rw [if_neg hk, if_neg hk]
    have hf := fullZ_nonneg p.k
    rw [Bool.eq_iff_iff]
    simp only [Bool.and_eq_true, Bool.not_eq_true', Bool.or_eq_false_iff, Bool.not_eq_false', decide_eq_false_iff_not, decide_eq_true_eq, Bool.and_true, Bool.not_false]
    by_cases q : 0 < fullZ p.k
    · simp only [if_pos q, Bool.and_eq_true, decide_eq_true_eq]
      constructor
      · rintro ⟨a, ⟨b, c⟩, d⟩
        exact ⟨⟨a, b⟩, by omega, by omega⟩
      · rintro ⟨⟨a, b⟩, c, d⟩
        exact ⟨a, ⟨b, by omega⟩, by omega⟩
    · simp only [if_neg q, decide_eq_true_eq]
      constructor
      · rintro ⟨a, ⟨b, c⟩, d⟩
        exact ⟨⟨a, b⟩, by omega⟩
      · rintro ⟨⟨a, b⟩, c⟩
        exact ⟨a, ⟨b, by omega⟩, by omega⟩
theorem refB_some (q p : Prt) (hq : 1 ≤ q.k ∧ q.k ≤ 15) : refB (some q) p = (partB p && !(lpK p.k == lpK q.k)) := by
  rw [← refB_none]
  by_cases hr : 1 ≤ p.k ∧ p.k ≤ 15
  · have l1 := lpK_lit hr.1 hr.2
    have l2 := lpK_lit hq.1 hq.2
    unfold refB
    rw [decide_eq_true hr]
    by_cases hk : p.k = 1
    · rw [if_pos hk, if_pos hk, hk]
      have e1 : lpK 1 = 39 := by decide
      by_cases hq1 : q.k = 1
      · simp [hq1]
      · have : ¬ lpK q.k = 39 := fun e => hq1 (l2.1 e)
        have e2 : (lpK 1 == lpK q.k) = false := by rw [beq_eq_false_iff_ne, e1]; exact fun e => this e.symm
        rw [e2]
        simp [hq1]
    · rw [if_neg hk, if_neg hk]
      by_cases hq1 : q.k = 1
      · have e1 : lpK q.k = 39 := l2.2 hq1
        have e2 : (lpK p.k == lpK q.k) = false := by rw [beq_eq_false_iff_ne, e1]; exact fun e => hk (l1.1 e)
        rw [e2]
        simp [hq1]
      · have e2 : (lpK q.k == lpK p.k) = (lpK p.k == lpK q.k) := Bool.beq_comm
        simp [hq1, e2]
  · unfold refB
    rw [decide_eq_false hr]
    simp
end Go.Proofs.YticckkadmhklmaaGreatDoor
/- Names, plainly: valid lists of names, as the program and as the reference ask. No program in sight. -/
namespace Go.Proofs.YticckkadmhklmaaGreatDoor
set_option linter.unusedVariables false
set_option linter.unusedSimpArgs false

def nmC (c : UInt8) : Bool := isLt c || decide (c = 32) || decide (c = 46) || decide (c = 45)
/-- A name, of at most M bytes. -/
def nameB (M : Nat) (s : List UInt8) : Bool := decide (1 ≤ s.length) && decide (s.length ≤ M) && isLt (s.headD 0) && s.all nmC
/-- Neither begins with the other. -/
def apt (a b : List UInt8) : Prop := a.isPrefixOf b = false ∧ b.isPrefixOf a = false
def preB (d : List (List UInt8)) (s : List UInt8) : Bool := d.any fun t => t.isPrefixOf s || s.isPrefixOf t
/-- As the program goes through a list. -/
def nmsL (M : Nat) : List (List UInt8) → List (List UInt8) → Bool
  | _, [] => true
  | d, s :: r => nameB M s && !preB d s && nmsL M (d ++ [s]) r
theorem preB_iff (d : List (List UInt8)) (s : List UInt8) : preB d s = false ↔ ∀ t ∈ d, apt t s := by
  unfold preB
  rw [List.any_eq_false]
  constructor
  · intro h t ht
    have := h t ht
    simp only [Bool.or_eq_true, not_or, Bool.not_eq_true] at this
    exact this
  · intro h t ht
    obtain ⟨a, b⟩ := h t ht
    simp [a, b]
theorem nmsL_iff (M : Nat) : ∀ (r d : List (List UInt8)), nmsL M d r = true ↔ (∀ s ∈ r, nameB M s = true) ∧ r.Pairwise apt ∧ ∀ a ∈ d, ∀ b ∈ r, apt a b
  | [], d => by simp [nmsL]
  | s :: r, d => by
    rw [nmsL, Bool.and_eq_true, Bool.and_eq_true, Bool.not_eq_true', preB_iff, nmsL_iff M r]
    constructor
    · rintro ⟨⟨h1, h2⟩, h3, h4, h5⟩
      refine ⟨fun x hx => ?_, List.pairwise_cons.2 ⟨fun b hb => h5 s (by simp) b hb, h4⟩, fun a ha b hb => ?_⟩
      · rcases List.mem_cons.1 hx with rfl | hx
        · exact h1
        · exact h3 x hx
      · rcases List.mem_cons.1 hb with rfl | hb
        · exact h2 a ha
        · exact h5 a (by simp [ha]) b hb
    · rintro ⟨h1, h2, h3⟩
      obtain ⟨h4, h5⟩ := List.pairwise_cons.1 h2
      refine ⟨⟨h1 s (by simp), fun t ht => h3 t ht s (by simp)⟩, fun x hx => h1 x (by simp [hx]), h5, fun a ha b hb => ?_⟩
      rcases List.mem_append.1 ha with ha | ha
      · exact h3 a ha b (by simp [hb])
      · rw [List.mem_singleton.1 ha]; exact h4 b hb
/-- A valid list of names. -/
def nmsB (M : Nat) (l : List (List UInt8)) : Bool := nmsL M [] l
/-- What the reference asks of the name at place i. -/
def nmAt (M : Nat) (l : List (List UInt8)) (i : Nat) : Bool := nameB M (l.getD i []) && (List.range l.length).all fun k => decide (k = i) || !(l.getD i []).isPrefixOf (l.getD k [])
theorem nmsB_ref (M : Nat) (l : List (List UInt8)) : nmsB M l = (List.range l.length).all (nmAt M l) := by
  rw [Bool.eq_iff_iff]
  unfold nmsB
  rw [nmsL_iff, List.all_eq_true, List.pairwise_iff_getElem]
  have hg : ∀ i (h : i < l.length), l.getD i [] = l[i] := fun i h => by simp [List.getD, h]
  constructor
  · rintro ⟨h1, h2, _⟩ i hi
    have hi' : i < l.length := by simpa using hi
    unfold nmAt
    rw [Bool.and_eq_true, List.all_eq_true]
    refine ⟨by rw [hg i hi']; exact h1 _ (List.getElem_mem _), fun k hk => ?_⟩
    have hk' : k < l.length := by simpa using hk
    rw [hg i hi', hg k hk', Bool.or_eq_true, decide_eq_true_eq, Bool.not_eq_true']
    rcases Nat.lt_trichotomy i k with q | q | q
    · exact .inr (h2 i k hi' hk' q).1
    · exact .inl q.symm
    · exact .inr (h2 k i hk' hi' q).2
  · intro h
    have h' : ∀ i (hi : i < l.length), nameB M l[i] = true ∧ ∀ k (hk : k < l.length), k = i ∨ l[i].isPrefixOf l[k] = false := by
      intro i hi
      have := h i (by simpa using hi)
      unfold nmAt at this
      rw [Bool.and_eq_true, List.all_eq_true, hg i hi] at this
      refine ⟨this.1, fun k hk => ?_⟩
      have := this.2 k (by simpa using hk)
      rw [hg k hk, Bool.or_eq_true, decide_eq_true_eq, Bool.not_eq_true'] at this
      exact this
    refine ⟨fun s hs => ?_, fun i j hi hj hij => ⟨?_, ?_⟩, fun a ha => by simp at ha⟩
    · obtain ⟨i, hi, rfl⟩ := List.getElem_of_mem hs
      exact (h' i hi).1
    · rcases (h' i hi).2 j hj with q | q
      · omega
      · exact q
    · rcases (h' j hj).2 i hi with q | q
      · omega
      · exact q
end Go.Proofs.YticckkadmhklmaaGreatDoor
/- Patterns, plainly: reading a text by parts. No program in sight. -/
namespace Go.Proofs.YticckkadmhklmaaGreatDoor
set_option linter.unusedVariables false
set_option linter.unusedSimpArgs false

/-- The five lists of names. -/
structure Nms where
  mo : List (List UInt8)
  sh : List (List UInt8)
  da : List (List UInt8)
  sd : List (List UInt8)
  ha : List (List UInt8)
def nmOk (N : Nms) : Bool := nmsB 30 N.mo && nmsB 30 N.sh && nmsB 30 N.da && nmsB 30 N.sd && nmsB 30 N.ha
def lstK (N : Nms) (k : Int) : List (List UInt8) := if k = 4 then N.sh else if k = 5 then N.mo else if k = 7 then N.sd else if k = 8 then N.da else N.ha
/-- How many digits a text begins with, at most some number. -/
def digN (s : List UInt8) (most : Nat) : Nat := ((s.take most).takeWhile isDg).length
theorem digN_le (s : List UInt8) (most : Nat) : digN s most ≤ most ∧ digN s most ≤ s.length := by
  unfold digN
  have h := (List.takeWhile_sublist (isDg) (l := s.take most)).length_le
  rw [List.length_take] at h
  omega
def colB (s : List UInt8) (i : Nat) : Bool := decide (i + 3 ≤ s.length) && decide (s.getD i 0 = 58) && isDg (s.getD (i + 1) 0) && isDg (s.getD (i + 2) 0)
def tyC (c : UInt8) : Bool := isLt c || isDg c || decide (c = 43) || decide (c = 45)
def tyN (s : List UInt8) : Nat := ((s.take 8).takeWhile tyC).length
def offB (s : List UInt8) : Bool := decide (6 ≤ s.length) && (decide (s.headD 0 = 43) || decide (s.headD 0 = 45)) && decide (digN (s.drop 1) 2 = 2) && colB s 3
/-- The first name with which a text begins: its index. -/
def namI (l : List (List UInt8)) (s : List UInt8) : Nat := l.findIdx fun x => x.isPrefixOf s
/-- How many digits are read for p before q. -/
def mostN (p : Prt) (q : Option Prt) : Nat := if (match q with | some q => decide (0 < fullZ q.k) | none => false) then p.w.toNat else (fullZ p.k).toNat
/-- A part is read: how many bytes, and the value of its field. -/
def rd1 (N : Nms) (p : Prt) (q : Option Prt) (s : List UInt8) : Option (Nat × List (Int × Nat)) :=
  if p.k = 1 then (if p.t.isPrefixOf s then some (p.t.length, []) else none)
  else if p.k = 14 then (if offB s then some (if colB s 6 then 9 else 6, []) else none)
  else if p.k = 15 then (if tyN s = 0 then none else some (tyN s, []))
  else if 0 < fullZ p.k then
    (if (digN s (mostN p q) : Int) < p.w then none else some (digN s (mostN p q), [(p.k, val (s.take (digN s (mostN p q))))]))
  else if namI (lstK N p.k) s < (lstK N p.k).length then some (((lstK N p.k).getD (namI (lstK N p.k) s) []).length, [(p.k, namI (lstK N p.k) s)]) else none
/-- All parts: the place of an error, or the values of the fields in the order in which they were read. -/
def rdL (N : Nms) : List Prt → List UInt8 → Nat → List (Int × Nat) → Nat ⊕ List (Int × Nat)
  | [], s, i, vs => if s.isEmpty then .inr vs else .inl (i + 1)
  | p :: r, s, i, vs => match rd1 N p r.head? s with
    | none => .inl (i + 1)
    | some (n, v) => rdL N r (s.drop n) (i + n) (vs ++ v)
end Go.Proofs.YticckkadmhklmaaGreatDoor
/- Patterns, plainly: the values of fields that were read, as the program and as the reference hold them. No program in sight. -/
namespace Go.Proofs.YticckkadmhklmaaGreatDoor
set_option linter.unusedVariables false
set_option linter.unusedSimpArgs false

/-- Readings of one kind are alike. -/
def Cons (vs : List (Int × Nat)) : Prop := ∀ a ∈ vs, ∀ b ∈ vs, a.1 = b.1 → a.2 = b.2
/-- The reading of a kind: the last one. -/
def gotK (vs : List (Int × Nat)) (k : Int) : Option Nat := ((vs.filter fun x => decide (x.1 = k)).getLast?).map (·.2)
/-- Months and weekdays under one kind each, as the reference holds them. -/
def nrm (x : Int × Nat) : Int × Nat := if x.1 = 4 ∨ x.1 = 5 then (3, x.2 + 1) else if x.1 = 8 then (7, x.2) else x
theorem gotK_mem {vs : List (Int × Nat)} {k : Int} {v : Nat} (h : gotK vs k = some v) : (k, v) ∈ vs := by
  unfold gotK at h
  rw [Option.map_eq_some_iff] at h
  obtain ⟨x, hx, rfl⟩ := h
  have hm := List.mem_of_getLast? hx
  rw [List.mem_filter, decide_eq_true_eq] at hm
  obtain ⟨h1, h2⟩ := hm
  rw [← h2]
  exact h1
theorem gotK_none {vs : List (Int × Nat)} {k : Int} (h : gotK vs k = none) : ∀ v, (k, v) ∉ vs := by
  intro v hv
  unfold gotK at h
  rw [Option.map_eq_none_iff, List.getLast?_eq_none_iff, List.filter_eq_nil_iff] at h
  exact h _ hv (by simp)
theorem gotK_some {vs : List (Int × Nat)} (hc : Cons vs) {k : Int} {v : Nat} (h : (k, v) ∈ vs) : gotK vs k = some v := by
  cases e : gotK vs k with
  | none => exact absurd h (gotK_none e v)
  | some x => exact congrArg some (hc (k, x) (gotK_mem e) (k, v) h rfl)
theorem gotK_snoc (vs : List (Int × Nat)) (k : Int) (v : Nat) (j : Int) : gotK (vs ++ [(k, v)]) j = if j = k then some v else gotK vs j := by
  unfold gotK
  rw [List.filter_append]
  by_cases h : j = k
  · subst h; simp
  · have : ¬ k = j := fun e => h e.symm
    simp [h, this]
/-- One reading more: no clash. -/
theorem cons_snoc (vs : List (Int × Nat)) (k : Int) (v : Nat) : Cons (vs ++ [(k, v)]) ↔ Cons vs ∧ (gotK vs k = none ∨ gotK vs k = some v) := by
  constructor
  · intro h
    refine ⟨fun a ha b hb => h a (by simp [ha]) b (by simp [hb]), ?_⟩
    cases e : gotK vs k with
    | none => exact .inl rfl
    | some x => exact .inr (congrArg some (h (k, x) (by simp [gotK_mem e]) (k, v) (by simp) rfl))
  · rintro ⟨h1, h2⟩ a ha b hb hab
    have key : ∀ c ∈ vs, c.1 = k → c.2 = v := by
      intro c hc hk
      have hm : (k, c.2) ∈ vs := by rw [← hk]; exact hc
      rcases h2 with h2 | h2
      · exact absurd hm (gotK_none h2 _)
      · have := gotK_some h1 hm
        rw [h2] at this
        exact (Option.some.inj this).symm
    simp only [List.mem_append, List.mem_singleton] at ha hb
    rcases ha with ha | rfl <;> rcases hb with hb | rfl
    · exact h1 a ha b hb hab
    · exact key a ha hab
    · exact (key b hb hab.symm).symm
    · rfl
end Go.Proofs.YticckkadmhklmaaGreatDoor
/- Patterns, plainly: months and weekdays under several kinds. No program in sight. -/
namespace Go.Proofs.YticckkadmhklmaaGreatDoor
set_option linter.unusedVariables false
set_option linter.unusedSimpArgs false

/-- As the program compares the values of some kinds. -/
def sameF (f : Int → Option Nat) : Int → Bool → List Int → Int × Bool
  | out, _, [] => (out, true)
  | out, some?, k :: ks => match f k with
    | none => sameF f out some? ks
    | some v => if some? && decide ((v : Int) + (if fullZ k = 0 then 1 else 0) ≠ out) then (0, false) else sameF f ((v : Int) + (if fullZ k = 0 then 1 else 0)) true ks
def sameO (u : Int) (a b c : Option Int) : Int × Bool :=
  match a, b, c with
  | none, none, none => (u, true)
  | some x, none, none => (x, true)
  | none, some x, none => (x, true)
  | none, none, some x => (x, true)
  | some x, some y, none => if y ≠ x then (0, false) else (y, true)
  | some x, none, some y => if y ≠ x then (0, false) else (y, true)
  | none, some x, some y => if y ≠ x then (0, false) else (y, true)
  | some x, some y, some z => if y ≠ x then (0, false) else if z ≠ y then (0, false) else (z, true)
theorem same_month (f : Int → Option Nat) (u : Int) : sameF f u false [3, 4, 5] = sameO u (Option.map (fun v : Nat => (v : Int)) (f 3)) (Option.map (fun v : Nat => (v : Int) + 1) (f 4)) (Option.map (fun v : Nat => (v : Int) + 1) (f 5)) := by
  have e3 : fullZ 3 = 2 := by decide
  have e4 : fullZ 4 = 0 := by decide
  have e5 : fullZ 5 = 0 := by decide
  unfold sameO
  cases h3 : f 3 <;> cases h4 : f 4 <;> cases h5 : f 5 <;> simp [sameF, h3, h4, h5, e3, e4, e5]
theorem same_day (f : Int → Option Nat) (u : Int) : sameF f u false [7, 8] = sameO u (Option.map (fun v : Nat => (v : Int) + 1) (f 7)) (Option.map (fun v : Nat => (v : Int) + 1) (f 8)) none := by
  have e7 : fullZ 7 = 0 := by decide
  have e8 : fullZ 8 = 0 := by decide
  unfold sameO
  cases h7 : f 7 <;> cases h8 : f 8 <;> simp [sameF, h7, h8, e7, e8]
theorem cons_map_iff (vs : List (Int × Nat)) : Cons (vs.map nrm) ↔ ∀ a ∈ vs, ∀ b ∈ vs, (nrm a).1 = (nrm b).1 → (nrm a).2 = (nrm b).2 := by
  unfold Cons
  constructor
  · intro h a ha b hb
    exact h _ (List.mem_map_of_mem ha) _ (List.mem_map_of_mem hb)
  · intro h x hx y hy
    obtain ⟨a, ha, rfl⟩ := List.mem_map.1 hx
    obtain ⟨b, hb, rfl⟩ := List.mem_map.1 hy
    exact h a ha b hb
/-- The kinds that are one field each. -/
def grpK (k : Int) : Int := if k = 4 ∨ k = 5 then 3 else if k = 8 then 7 else k
def addK (k : Int) : Nat := if k = 4 ∨ k = 5 then 1 else 0
theorem nrm_eq (x : Int × Nat) : nrm x = (grpK x.1, x.2 + addK x.1) := by
  unfold nrm grpK addK
  by_cases h : x.1 = 4 ∨ x.1 = 5
  · simp [h]
  · by_cases q : x.1 = 8
    · simp [h, q]
    · simp [h, q]
/-- Without a clash under one kind, the reference's fields agree where the values of kinds of one field do. -/
theorem cons_nrm (vs : List (Int × Nat)) : Cons (vs.map nrm) ↔ Cons vs ∧ ∀ i j v w, gotK vs i = some v → gotK vs j = some w → grpK i = grpK j → v + addK i = w + addK j := by
  rw [cons_map_iff]
  constructor
  · intro h
    refine ⟨fun a ha b hb hab => ?_, fun i j v w hi hj hg => ?_⟩
    · have := h a ha b hb (by rw [nrm_eq, nrm_eq, hab])
      rw [nrm_eq, nrm_eq, hab] at this
      simp only at this
      omega
    · have := h _ (gotK_mem hi) _ (gotK_mem hj) (by rw [nrm_eq, nrm_eq]; exact hg)
      rw [nrm_eq, nrm_eq] at this
      exact this
  · rintro ⟨hc, h⟩ a ha b hb hab
    rw [nrm_eq, nrm_eq] at hab ⊢
    exact h a.1 b.1 a.2 b.2 (gotK_some hc ha) (gotK_some hc hb) hab
theorem sameO_ok (u : Int) (a b c : Option Int) : (sameO u a b c).2 = true ↔ (∀ x y, a = some x → b = some y → x = y) ∧ (∀ x y, a = some x → c = some y → x = y) ∧ ∀ x y, b = some x → c = some y → x = y := by
  unfold sameO
  cases a with
  | none =>
    cases b with
    | none => cases c <;> simp
    | some y =>
      cases c with
      | none => simp
      | some z => by_cases q : z = y <;> simp [q] <;> omega
  | some x =>
    cases b with
    | none =>
      cases c with
      | none => simp
      | some z => by_cases q : z = x <;> simp [q] <;> omega
    | some y =>
      cases c with
      | none => by_cases q : y = x <;> simp [q] <;> omega
      | some z =>
        by_cases q : y = x
        · subst q
          by_cases r : z = y
          · subst r; simp
          · simp [r]; omega
        · simp [q]; omega
theorem grpK_eq (i j : Int) : grpK i = grpK j ↔ i = j ∨ ((i = 3 ∨ i = 4 ∨ i = 5) ∧ (j = 3 ∨ j = 4 ∨ j = 5)) ∨ ((i = 7 ∨ i = 8) ∧ (j = 7 ∨ j = 8)) := by
  unfold grpK
  split <;> split <;> (try split) <;> (try split) <;> omega
/-- The program's two comparisons say just that. -/
theorem same_ok (f : Int → Option Nat) : ((sameF f 1 false [3, 4, 5]).2 = true ∧ (sameF f 0 false [7, 8]).2 = true) ↔ ∀ i j v w, f i = some v → f j = some w → grpK i = grpK j → v + addK i = w + addK j := by
  rw [same_month, same_day, sameO_ok, sameO_ok]
  have d : addK 3 = 0 ∧ addK 4 = 1 ∧ addK 5 = 1 ∧ addK 7 = 0 ∧ addK 8 = 0 := by decide
  obtain ⟨d3, d4, d5, d7, d8⟩ := d
  constructor
  · rintro ⟨⟨m1, m2, m3⟩, ⟨n1, _, _⟩⟩ i j v w hi hj hg
    rcases (grpK_eq i j).1 hg with rfl | ⟨hi', hj'⟩ | ⟨hi', hj'⟩
    · rw [hi] at hj; rw [Option.some.inj hj]
    · rcases hi' with rfl | rfl | rfl <;> rcases hj' with rfl | rfl | rfl
      · rw [hi] at hj; rw [Option.some.inj hj]
      · have := m1 (v : Int) ((w : Int) + 1) (by rw [hi]; rfl) (by rw [hj]; rfl); omega
      · have := m2 (v : Int) ((w : Int) + 1) (by rw [hi]; rfl) (by rw [hj]; rfl); omega
      · have := m1 (w : Int) ((v : Int) + 1) (by rw [hj]; rfl) (by rw [hi]; rfl); omega
      · rw [hi] at hj; rw [Option.some.inj hj]
      · have := m3 ((v : Int) + 1) ((w : Int) + 1) (by rw [hi]; rfl) (by rw [hj]; rfl); omega
      · have := m2 (w : Int) ((v : Int) + 1) (by rw [hj]; rfl) (by rw [hi]; rfl); omega
      · have := m3 ((w : Int) + 1) ((v : Int) + 1) (by rw [hj]; rfl) (by rw [hi]; rfl); omega
      · rw [hi] at hj; rw [Option.some.inj hj]
    · rcases hi' with rfl | rfl <;> rcases hj' with rfl | rfl
      · rw [hi] at hj; rw [Option.some.inj hj]
      · have := n1 ((v : Int) + 1) ((w : Int) + 1) (by rw [hi]; rfl) (by rw [hj]; rfl); omega
      · have := n1 ((w : Int) + 1) ((v : Int) + 1) (by rw [hj]; rfl) (by rw [hi]; rfl); omega
      · rw [hi] at hj; rw [Option.some.inj hj]
  · intro h
    refine ⟨⟨fun x y hx hy => ?_, fun x y hx hy => ?_, fun x y hx hy => ?_⟩, fun x y hx hy => ?_, fun x y hx hy => (by cases hy), fun x y hx hy => (by cases hy)⟩
    · cases hv : f 3 with
      | none => rw [hv] at hx; cases hx
      | some v =>
        cases hw : f 4 with
        | none => rw [hw] at hy; cases hy
        | some w =>
          rw [hv] at hx
          rw [hw] at hy
          have := h 3 4 v w hv hw (by decide)
          have hx : (v : Int) = x := Option.some.inj hx
          have hy : (w : Int) + 1 = y := Option.some.inj hy
          omega
    · cases hv : f 3 with
      | none => rw [hv] at hx; cases hx
      | some v =>
        cases hw : f 5 with
        | none => rw [hw] at hy; cases hy
        | some w =>
          rw [hv] at hx
          rw [hw] at hy
          have := h 3 5 v w hv hw (by decide)
          have hx : (v : Int) = x := Option.some.inj hx
          have hy : (w : Int) + 1 = y := Option.some.inj hy
          omega
    · cases hv : f 4 with
      | none => rw [hv] at hx; cases hx
      | some v =>
        cases hw : f 5 with
        | none => rw [hw] at hy; cases hy
        | some w =>
          rw [hv] at hx
          rw [hw] at hy
          have := h 4 5 v w hv hw (by decide)
          have hx : (v : Int) + 1 = x := Option.some.inj hx
          have hy : (w : Int) + 1 = y := Option.some.inj hy
          omega
    · cases hv : f 7 with
      | none => rw [hv] at hx; cases hx
      | some v =>
        cases hw : f 8 with
        | none => rw [hw] at hy; cases hy
        | some w =>
          rw [hv] at hx
          rw [hw] at hy
          have := h 7 8 v w hv hw (by decide)
          have hx : (v : Int) + 1 = x := Option.some.inj hx
          have hy : (w : Int) + 1 = y := Option.some.inj hy
          omega
end Go.Proofs.YticckkadmhklmaaGreatDoor
/- Patterns, plainly: what loses nothing. No program in sight. -/
namespace Go.Proofs.YticckkadmhklmaaGreatDoor
set_option linter.unusedVariables false
set_option linter.unusedSimpArgs false

def fstB (q : Prt) : UInt8 := if q.k = 1 then q.t.headD 0 else 0
/-- Bad next to each other, as the program asks. -/
def badB (p q : Prt) : Bool :=
  (decide (0 < fullZ p.k) && decide (p.w < fullZ p.k) && (decide (0 < fullZ q.k) || decide (q.k = 15) || isDg (fstB q))) ||
  (decide (p.k = 14) && decide (fstB q = 58)) ||
  (decide (p.k = 15) && (decide (q.k ≠ 1) || isLt (fstB q) || isDg (fstB q) || decide (fstB q = 43) || decide (fstB q = 45)))
/-- .. and as the reference asks. -/
def badR (p q : Prt) : Bool :=
  (decide (p.w < fullZ p.k) && (decide (0 < fullZ q.k) || decide (q.k = 15) || isDg (fstB q))) ||
  (decide (p.k = 14) && decide (fstB q = 58)) ||
  (decide (p.k = 15) && (decide (q.k ≠ 1) || isLt (fstB q) || isDg (fstB q) || decide (fstB q = 43) || decide (fstB q = 45)))
def losL : List Prt → Bool
  | p :: q :: r => !badB p q && losL (q :: r)
  | _ => true
def hasK (l : List Prt) (ks : List Int) : Bool := l.any fun p => ks.contains p.k
def losB (l : List Prt) : Bool := validB l && hasK l [2] && hasK l [3, 4, 5] && hasK l [6] && (hasK l [9] || (hasK l [10] && hasK l [13])) && hasK l [11] && hasK l [12] && losL l
theorem partB_width {p : Prt} (h : partB p = true) : 0 ≤ p.w := by
  unfold partB at h
  by_cases hk : p.k = 1
  · rw [if_pos hk] at h
    simp only [Bool.and_eq_true, decide_eq_true_eq] at h
    omega
  · rw [if_neg hk] at h
    by_cases q : 0 < fullZ p.k
    · rw [if_pos q] at h
      simp only [Bool.and_eq_true, decide_eq_true_eq] at h
      omega
    · rw [if_neg q] at h
      simp only [Bool.and_eq_true, decide_eq_true_eq] at h
      omega
theorem badR_eq {p : Prt} (q : Prt) (h : partB p = true) : badR p q = badB p q := by
  have hw := partB_width h
  unfold badR badB
  by_cases hf : p.w < fullZ p.k
  · rw [decide_eq_true hf, decide_eq_true (show 0 < fullZ p.k by omega)]; simp
  · rw [decide_eq_false hf]; simp
theorem hasK_or (l : List Prt) (a b c : Int) : hasK l [a, b, c] = (hasK l [a] || hasK l [b] || hasK l [c]) := by
  unfold hasK
  rw [Bool.eq_iff_iff]
  simp only [Bool.or_eq_true, List.any_eq_true, List.contains_cons, List.contains_nil, Bool.or_false, beq_iff_eq]
  constructor
  · rintro ⟨x, hx, h⟩
    rcases h with h | h | h
    · exact .inl (.inl ⟨x, hx, h⟩)
    · exact .inl (.inr ⟨x, hx, h⟩)
    · exact .inr ⟨x, hx, h⟩
  · rintro ((⟨x, hx, h⟩ | ⟨x, hx, h⟩) | ⟨x, hx, h⟩)
    · exact ⟨x, hx, .inl h⟩
    · exact ⟨x, hx, .inr (.inl h)⟩
    · exact ⟨x, hx, .inr (.inr h)⟩
/-- All parts of a valid list are parts. -/
theorem tailB_all : ∀ (l : List Prt) (q : Option Prt), tailB q l = true → ∀ p ∈ l, partB p = true
  | [], _, _, p, hp => by simp at hp
  | x :: r, q, h, p, hp => by
    have h' : partB x = true ∧ tailB (some x) r = true := by
      cases q with
      | none => simpa [tailB] using h
      | some q =>
        simp only [tailB, Bool.and_eq_true] at h
        exact ⟨h.1.1, h.2⟩
    rcases List.mem_cons.1 hp with rfl | hp
    · exact h'.1
    · exact tailB_all r (some x) h'.2 p hp
end Go.Proofs.YticckkadmhklmaaGreatDoor
/- Decimal digits, plainly. -/
namespace Go.Proofs.YticckkadmhklmaaGreatDoor

def dg1 (n : Nat) : UInt8 := UInt8.ofNat (48 + n % 10)
/-- The last k decimal digits of n. -/
def padN : Nat → Nat → List UInt8
  | 0, _ => []
  | k + 1, n => padN k (n / 10) ++ [dg1 n]
theorem padN_length (k n : Nat) : (padN k n).length = k := by
  induction k generalizing n with
  | zero => rfl
  | succ k ih => simp [padN, ih]
theorem dg1_toNat (n : Nat) : (dg1 n).toNat = 48 + n % 10 := by
  unfold dg1
  have : n % 10 < 10 := Nat.mod_lt _ (by decide)
  rw [UInt8.toNat_ofNat']; omega
/-- One digit more, in front. -/
theorem padN_cons (k n : Nat) : padN (k + 1) n = dg1 (n / 10 ^ k) :: padN k n := by
  induction k generalizing n with
  | zero => simp [padN]
  | succ k ih =>
    rw [padN, ih (n / 10)]
    show dg1 (n / 10 / 10 ^ k) :: (padN k (n / 10) ++ [dg1 n]) = _
    rw [Nat.div_div_eq_div_mul, Nat.pow_succ, Nat.mul_comm 10]
    rfl
theorem padN_decDigits (n : Nat) : padN (Lib.nDigits n) n = Lib.decDigits n := by
  induction n using Nat.strongRecOn with
  | _ n ih =>
    by_cases h : n < 10
    · rw [Lib.nDigits_small h, Lib.decDigits, dif_pos h]
      simp [padN, dg1, Nat.mod_eq_of_lt h]
    · rw [Lib.nDigits_big h, Lib.decDigits, dif_neg h, padN, ih (n / 10) (by omega)]
      rfl
/-- A decimal text with at least k digits. -/
def itx (n k : Nat) : List UInt8 := padN (max (Lib.nDigits n) k) n
theorem nDigits_le {n k : Nat} (hk : 1 ≤ k) (h : n < 10 ^ k) : Lib.nDigits n ≤ k := by
  induction k generalizing n with
  | zero => omega
  | succ k ih =>
    by_cases h10 : n < 10
    · rw [Lib.nDigits_small h10]; omega
    · rw [Lib.nDigits_big h10]
      rw [Nat.pow_succ] at h
      rcases Nat.eq_zero_or_pos k with rfl | hk0
      · simp at h; omega
      · have := ih (n := n / 10) hk0 (by omega)
        omega
theorem itx_small {n k : Nat} (hk : 1 ≤ k) (h : n < 10 ^ k) : itx n k = padN k n := by
  unfold itx
  rw [Nat.max_eq_right (nDigits_le hk h)]
theorem itx_one (n : Nat) : itx n 1 = Lib.decDigits n := by
  unfold itx
  rw [Nat.max_eq_left (Lib.nDigits_pos n), padN_decDigits]
theorem pow_nDigits (n : Nat) (j : Nat) (hj : j < Lib.nDigits n) (hn : 0 < n) : 0 < n / 10 ^ j := by
  have : 10 ^ j ≤ n := by
    induction j generalizing n with
    | zero => simp; omega
    | succ j ih =>
      by_cases h : n < 10
      · rw [Lib.nDigits_small h] at hj; omega
      · rw [Lib.nDigits_big h] at hj
        have := ih (n / 10) (by omega) (by omega)
        rw [Nat.pow_succ]; omega
  exact Nat.div_pos this (Nat.pow_pos (by decide))
theorem div_nDigits (n : Nat) : n / 10 ^ Lib.nDigits n = 0 := Nat.div_eq_of_lt (Lib.lt_pow_nDigits n)
theorem nDigits_20 (n : Nat) (h : n < 18446744073709551616) : Lib.nDigits n ≤ 20 := nDigits_le (by decide) (by omega)
theorem div_zero_of {n j : Nat} (hn : 0 < n) (h : n / 10 ^ j = 0) : Lib.nDigits n ≤ j := by
  rcases Nat.lt_or_ge j (Lib.nDigits n) with q | q
  · have := pow_nDigits n j q hn; omega
  · exact q

/-- The cells of the array of 24 bytes when the last j digits lie in it. -/
def txC (n j : Nat) : Array Value := (List.replicate (24 - j) (Value.int .u8 0) ++ (padN j n).map fun c => Value.int .u8 c.toNat).toArray
theorem txC_size (n j : Nat) (h : j ≤ 24) : (txC n j).size = 24 := by simp [txC, padN_length]; omega
theorem txC_zero (n : Nat) : txC n 0 = #[.int .u8 0, .int .u8 0, .int .u8 0, .int .u8 0, .int .u8 0, .int .u8 0, .int .u8 0, .int .u8 0, .int .u8 0, .int .u8 0, .int .u8 0, .int .u8 0, .int .u8 0, .int .u8 0, .int .u8 0, .int .u8 0, .int .u8 0, .int .u8 0, .int .u8 0, .int .u8 0, .int .u8 0, .int .u8 0, .int .u8 0, .int .u8 0] := rfl
theorem txC_step (n j : Nat) (h : j < 24) : (txC n j).setIfInBounds (23 - j) (.int .u8 ((48 + n / 10 ^ j % 10 : Nat) : Int)) = txC n (j + 1) := by
  unfold txC
  rw [padN_cons, List.setIfInBounds_toArray]
  congr 1
  rw [show 24 - j = (24 - (j + 1)) + 1 from by omega, List.replicate_succ', List.append_assoc, List.set_append_right _ _ (by simp <;> omega)]
  have e : 23 - j - (List.replicate (24 - (j + 1)) (Value.int .u8 0)).length = 0 := by simp <;> omega
  rw [e]
  simp [dg1_toNat]
theorem txC_step' (n j q : Nat) (h : j < 24) (hq : q = n / 10 ^ j) : (txC n j).setIfInBounds (24 - j - 1) (.int .u8 (48 + (q : Int) % 10)) = txC n (j + 1) := by
  rw [← txC_step n j h, hq, show 24 - j - 1 = 23 - j from by omega]
  congr 2
theorem div_pow_succ (n j q : Nat) (hq : q = n / 10 ^ j) : q / 10 = n / 10 ^ (j + 1) := by
  rw [hq, Nat.div_div_eq_div_mul, Nat.pow_succ]
theorem txC_get (n j i : Nat) (hj : j ≤ 24) (hi : i < 24) : ∃ x : Int, (txC n j)[i]? = some (.int .u8 x) := by
  have hs := txC_size n j hj
  rw [Array.getElem?_eq_getElem (by omega)]
  unfold txC
  simp only [List.getElem_toArray]
  rw [List.getElem_append]
  split
  · exact ⟨0, by simp⟩
  · exact ⟨_, by simp; rfl⟩
theorem txC_at (n j i : Nat) (_ : j ≤ 24) (c : UInt8) (h : (padN j n)[i]? = some c) : (txC n j)[24 - j + i]? = some (.int .u8 c.toNat) := by
  unfold txC
  simp only [List.getElem?_toArray]
  rw [List.getElem?_append_right (by simp)]
  simp [h]
end Go.Proofs.YticckkadmhklmaaGreatDoor
/- Patterns, plainly: writing by parts, and reading what was written. No program in sight. -/
namespace Go.Proofs.YticckkadmhklmaaGreatDoor
set_option linter.unusedVariables false
set_option linter.unusedSimpArgs false

/-- The fields of a local time. -/
structure Fv where
  y : Nat
  mo : Nat
  d : Nat
  h : Nat
  mi : Nat
  s : Nat
  wd : Nat
def Fv.ok (F : Fv) : Prop := 1 ≤ F.y ∧ F.y ≤ 9999 ∧ 1 ≤ F.mo ∧ F.mo ≤ 12 ∧ 1 ≤ F.d ∧ F.d ≤ 31 ∧ F.h ≤ 23 ∧ F.mi ≤ 59 ∧ F.s ≤ 59 ∧ 1 ≤ F.wd ∧ F.wd ≤ 7
/-- The value of a kind. -/
def valK (F : Fv) (k : Int) : Nat :=
  if k = 2 then F.y else if k = 3 then F.mo else if k = 4 ∨ k = 5 then F.mo - 1 else if k = 6 then F.d else if k = 7 ∨ k = 8 then F.wd - 1
  else if k = 9 then F.h else if k = 10 then (F.h + 11) % 12 + 1 else if k = 11 then F.mi else if k = 12 then F.s else F.h / 12
/-- The text of an offset. -/
def offT (o : Int) : List UInt8 :=
  (if o < 0 then 45 else 43) :: (itx (o.natAbs / 3600) 2 ++ 58 :: (itx (o.natAbs / 60 % 60) 2 ++ if o.natAbs % 60 = 0 then [] else 58 :: itx (o.natAbs % 60) 2))
def typB (s : List UInt8) : Bool := decide (1 ≤ s.length) && decide (s.length ≤ 8) && s.all tyC
def fmt1 (N : Nms) (F : Fv) (o : Int) (tn : List UInt8) (p : Prt) : List UInt8 :=
  if p.k = 1 then p.t else if p.k = 14 then offT o else if p.k = 15 then tn
  else if 0 < fullZ p.k then itx (valK F p.k) p.w.toNat else (lstK N p.k).getD (valK F p.k) []
def fmtL (N : Nms) (F : Fv) (o : Int) (tn : List UInt8) (l : List Prt) : List UInt8 := l.flatMap (fmt1 N F o tn)
def Nms.ok (N : Nms) : Prop := N.mo.length = 12 ∧ N.sh.length = 12 ∧ N.da.length = 7 ∧ N.sd.length = 7 ∧ N.ha.length = 2

theorem tw_app {p : UInt8 → Bool} (a b : List UInt8) (ha : a.all p = true) (hb : ∀ c, b.head? = some c → p c = false) : (a ++ b).takeWhile p = a := by
  rw [List.takeWhile_append_of_pos (fun x hx => List.all_eq_true.1 ha x hx)]
  cases b with
  | nil => simp
  | cons c r => rw [List.takeWhile_cons_of_neg (by rw [hb c rfl]; simp), List.append_nil]
theorem head_take (b : List UInt8) (n : Nat) (c : UInt8) (h : (b.take n).head? = some c) : b.head? = some c := by
  cases b with
  | nil => simp at h
  | cons d r =>
    cases n with
    | zero => simp at h
    | succ n => simpa using h
theorem tw_take {p : UInt8 → Bool} (a b : List UInt8) (n : Nat) (ha : a.all p = true) (hn : a.length ≤ n) (hb : a.length = n ∨ ∀ c, b.head? = some c → p c = false) : ((a ++ b).take n).takeWhile p = a := by
  rw [List.take_append, List.take_of_length_le hn]
  rcases hb with hb | hb
  · rw [hb, Nat.sub_self, List.take_zero, List.append_nil]
    have := tw_app a [] ha (by intro c h; simp at h)
    rwa [List.append_nil] at this
  · exact tw_app a _ ha (fun c h => hb c (head_take _ _ _ h))
theorem dg1_dg (n : Nat) : isDg (dg1 n) = true := by
  rw [isDg_iff, dg1_toNat]; omega
theorem padN_all (k n : Nat) : (padN k n).all isDg = true := by
  induction k generalizing n with
  | zero => rfl
  | succ k ih => rw [padN, List.all_append, ih]; simp [dg1_dg]
theorem padN_val (k n : Nat) (h : n < 10 ^ k) : val (padN k n) = n := by
  induction k generalizing n with
  | zero => simp at h; subst h; rfl
  | succ k ih =>
    rw [padN, val_snoc, dg1_toNat, ih (n / 10) (by rw [Nat.pow_succ] at h; omega)]
    omega
theorem itx_all (n k : Nat) : (itx n k).all isDg = true := padN_all _ _
theorem itx_val (n k : Nat) : val (itx n k) = n := by
  unfold itx
  refine padN_val _ _ ?_
  have h1 := Lib.lt_pow_nDigits n
  exact Nat.lt_of_lt_of_le h1 (Nat.pow_le_pow_right (by decide) (Nat.le_max_left _ _))
theorem itx_len (n k : Nat) : (itx n k).length = max (Lib.nDigits n) k := padN_length _ _
theorem itx_len_le {n k m : Nat} (hk : k ≤ m) (hm : 1 ≤ m) (h : n < 10 ^ m) : k ≤ (itx n k).length ∧ (itx n k).length ≤ m ∧ 1 ≤ (itx n k).length := by
  rw [itx_len]
  have := nDigits_le hm h
  have := Lib.nDigits_pos n
  omega
theorem itx_head (n k : Nat) : ∃ c r, itx n k = c :: r ∧ isDg c = true := by
  have h := itx_all n k
  have hl := itx_len n k
  have := Lib.nDigits_pos n
  cases e : itx n k with
  | nil => rw [e] at hl; simp at hl; omega
  | cons c r => rw [e] at h; exact ⟨c, r, rfl, by simp at h; exact h.1⟩
theorem itx_two (n : Nat) (h : n < 100) : ∃ c d, itx n 2 = [c, d] ∧ isDg c = true ∧ isDg d = true := by
  have h1 := itx_all n 2
  have hl := itx_len_le (n := n) (k := 2) (m := 2) (Nat.le_refl _) (by decide) h
  match e : itx n 2 with
  | [] => rw [e] at hl; simp at hl
  | [c] => rw [e] at hl; simp at hl
  | [c, d] => rw [e] at h1; simp at h1; exact ⟨c, d, rfl, h1⟩
  | c :: d :: f :: r => rw [e] at hl; simp at hl
theorem digN_app (a b : List UInt8) (n : Nat) (ha : a.all isDg = true) (hn : a.length ≤ n) (hb : a.length = n ∨ ∀ c, b.head? = some c → isDg c = false) : digN (a ++ b) n = a.length := by
  unfold digN
  rw [tw_take a b n ha hn hb]
theorem tyN_app (a b : List UInt8) (ha : a.all tyC = true) (hn : a.length ≤ 8) (hb : a.length = 8 ∨ ∀ c, b.head? = some c → tyC c = false) : tyN (a ++ b) = a.length := by
  unfold tyN
  rw [tw_take a b 8 ha hn hb]
theorem pre_app (a b : List UInt8) : a.isPrefixOf (a ++ b) = true := by
  rw [List.isPrefixOf_iff_prefix]; exact List.prefix_append _ _
/-- Names of which none begins with another: the one that stands there is found. -/
theorem namI_app (l : List (List UInt8)) (M : Nat) (h : nmsB M l = true) (i : Nat) (hi : i < l.length) (b : List UInt8) : namI l (l[i] ++ b) = i := by
  unfold nmsB at h
  rw [nmsL_iff] at h
  have hp := List.pairwise_iff_getElem.1 h.2.1
  unfold namI
  rw [List.findIdx_eq hi]
  refine ⟨pre_app _ _, fun j hj => ?_⟩
  have hq := hp j i (by omega) hi hj
  cases e : (l[j]'(by omega)).isPrefixOf (l[i] ++ b) with
  | false => rfl
  | true =>
    rw [List.isPrefixOf_iff_prefix] at e
    rcases List.prefix_or_prefix_of_prefix e (List.prefix_append l[i] b) with q | q
    · rw [← List.isPrefixOf_iff_prefix, hq.1] at q; cases q
    · rw [← List.isPrefixOf_iff_prefix, hq.2] at q; cases q
theorem names_len (N : Nms) (hN : N.ok) (F : Fv) (hF : F.ok) (k : Int) (hk : k = 4 ∨ k = 5 ∨ k = 7 ∨ k = 8 ∨ k = 13) : valK F k < (lstK N k).length := by
  obtain ⟨a, b, c, d, e⟩ := hN
  obtain ⟨_, _, f1, f2, _, _, f3, _, _, f4, f5⟩ := hF
  rcases hk with rfl | rfl | rfl | rfl | rfl <;> simp [valK, lstK] <;> omega
theorem names_ok (N : Nms) (h : nmOk N = true) (k : Int) : nmsB 30 (lstK N k) = true := by
  unfold nmOk at h
  simp only [Bool.and_eq_true] at h
  obtain ⟨⟨⟨⟨h1, h2⟩, h3⟩, h4⟩, h5⟩ := h
  unfold lstK
  repeat' split
  all_goals assumption
theorem name_head {M : Nat} {s : List UInt8} (h : nameB M s = true) : ∃ c r, s = c :: r ∧ isLt c = true := by
  unfold nameB at h
  simp only [Bool.and_eq_true, decide_eq_true_eq] at h
  obtain ⟨⟨⟨h1, _⟩, h2⟩, _⟩ := h
  cases s with
  | nil => simp at h1
  | cons c r => exact ⟨c, r, rfl, by simpa using h2⟩
theorem lt_not_dg {c : UInt8} (h : isLt c = true) : isDg c = false ∧ c ≠ 58 := by
  unfold isLt at h
  simp only [Bool.or_eq_true, decide_eq_true_eq] at h
  refine ⟨?_, ?_⟩
  · unfold isDg; rw [decide_eq_false_iff_not]; omega
  · rintro rfl; revert h; decide
theorem dg_not {c : UInt8} (h : isDg c = true) : c ≠ 58 := by
  rintro rfl; revert h; decide
theorem kinds (p : Prt) (h : partB p = true) : p.k = 1 ∨ p.k = 14 ∨ p.k = 15 ∨ 0 < fullZ p.k ∨ (p.k = 4 ∨ p.k = 5 ∨ p.k = 7 ∨ p.k = 8 ∨ p.k = 13) := by
  obtain ⟨h1, h2⟩ := partB_kind h
  unfold fullZ
  by_cases a : p.k = 2
  · rw [if_pos a]; omega
  · rw [if_neg a]
    by_cases b : p.k = 3 ∨ p.k = 6 ∨ p.k = 9 ∨ p.k = 10 ∨ p.k = 11 ∨ p.k = 12
    · rw [if_pos b]; omega
    · omega
theorem num_not {k : Int} (h : 0 < fullZ k) : k ≠ 1 ∧ k ≠ 14 ∧ k ≠ 15 := by
  refine ⟨?_, ?_, ?_⟩ <;> (rintro rfl; revert h; decide)
theorem nam_not {k : Int} (h : k = 4 ∨ k = 5 ∨ k = 7 ∨ k = 8 ∨ k = 13) : k ≠ 1 ∧ k ≠ 14 ∧ k ≠ 15 ∧ ¬ 0 < fullZ k := by
  rcases h with rfl | rfl | rfl | rfl | rfl <;> decide
theorem num_width {p : Prt} (h : partB p = true) (hf : 0 < fullZ p.k) : 1 ≤ p.w ∧ p.w ≤ fullZ p.k := by
  have hn := (num_not hf).1
  unfold partB at h
  rw [if_neg hn, if_pos hf] at h
  simp only [Bool.and_eq_true, decide_eq_true_eq] at h
  exact h.2
theorem lit_head {p : Prt} (h : partB p = true) (hk : p.k = 1) : ∃ c r, p.t = c :: r := by
  unfold partB at h
  rw [if_pos hk] at h
  simp only [Bool.and_eq_true, decide_eq_true_eq] at h
  cases e : p.t with
  | nil => rw [e] at h; simp at h
  | cons c r => exact ⟨c, r, rfl⟩
end Go.Proofs.YticckkadmhklmaaGreatDoor
/- Patterns, plainly: what was written by parts of which none is bad before the next is read back. No program in sight. -/
namespace Go.Proofs.YticckkadmhklmaaGreatDoor
set_option linter.unusedVariables false
set_option linter.unusedSimpArgs false

/-- What reading gives for a part that was written. -/
def valsK (F : Fv) (p : Prt) : List (Int × Nat) := if p.k = 1 ∨ p.k = 14 ∨ p.k = 15 then [] else [(p.k, valK F p.k)]
theorem num_val {F : Fv} (hF : F.ok) {k : Int} (h : 0 < fullZ k) : valK F k < 10 ^ (fullZ k).toNat := by
  obtain ⟨a1, a2, a3, a4, a5, a6, a7, a8, a9, _, _⟩ := hF
  have hk : k = 2 ∨ k = 3 ∨ k = 6 ∨ k = 9 ∨ k = 10 ∨ k = 11 ∨ k = 12 := by
    unfold fullZ at h
    by_cases a : k = 2
    · exact .inl a
    · rw [if_neg a] at h
      by_cases b : k = 3 ∨ k = 6 ∨ k = 9 ∨ k = 10 ∨ k = 11 ∨ k = 12
      · exact .inr b
      · rw [if_neg b] at h; omega
  rcases hk with rfl | rfl | rfl | rfl | rfl | rfl | rfl <;> simp [valK, fullZ] <;> omega
theorem offT_eq (o : Int) (ho : o.natAbs < 93600) : ∃ sg a b c d, (sg = 43 ∨ sg = 45) ∧ isDg a = true ∧ isDg b = true ∧ isDg c = true ∧ isDg d = true ∧
    ((o.natAbs % 60 = 0 ∧ offT o = [sg, a, b, 58, c, d]) ∨ (∃ e f, isDg e = true ∧ isDg f = true ∧ offT o = [sg, a, b, 58, c, d, 58, e, f])) := by
  obtain ⟨a, b, e1, ha, hb⟩ := itx_two (o.natAbs / 3600) (by omega)
  obtain ⟨c, d, e2, hc, hd⟩ := itx_two (o.natAbs / 60 % 60) (by omega)
  obtain ⟨e, f, e3, he, hf⟩ := itx_two (o.natAbs % 60) (by omega)
  refine ⟨if o < 0 then 45 else 43, a, b, c, d, by split <;> simp, ha, hb, hc, hd, ?_⟩
  unfold offT
  rw [e1, e2, e3]
  by_cases h : o.natAbs % 60 = 0
  · left; exact ⟨h, by rw [if_pos h]; rfl⟩
  · right; exact ⟨e, f, he, hf, by rw [if_neg h]; rfl⟩
theorem sg_not {c : UInt8} (h : c = 43 ∨ c = 45) : isDg c = false ∧ c ≠ 58 := by rcases h with rfl | rfl <;> decide
theorem ty_not {c : UInt8} (h : tyC c = true) : c ≠ 58 := by rintro rfl; revert h; decide
theorem typB_parts {s : List UInt8} (h : typB s = true) : 1 ≤ s.length ∧ s.length ≤ 8 ∧ s.all tyC = true := by
  unfold typB at h
  simp only [Bool.and_eq_true, decide_eq_true_eq] at h
  exact ⟨h.1.1, h.1.2, h.2⟩
theorem name_at (N : Nms) (h : nmOk N = true) (k : Int) (i : Nat) (hi : i < (lstK N k).length) : ∃ c r, (lstK N k).getD i [] = c :: r ∧ isLt c = true := by
  have h2 := names_ok N h k
  unfold nmsB at h2
  rw [nmsL_iff] at h2
  have := h2.1 _ (List.getElem_mem hi)
  have e : (lstK N k).getD i [] = (lstK N k)[i] := by simp [List.getD, hi]
  rw [e]
  exact name_head this
theorem fmt_head {N : Nms} {F : Fv} {o : Int} {tn : List UInt8} (hN : N.ok) (hn : nmOk N = true) (hF : F.ok) (ho : o.natAbs < 93600) (ht : typB tn = true) {p : Prt} (hp : partB p = true) :
    ∃ c r, fmt1 N F o tn p = c :: r ∧ (p.k = 1 → c = fstB p) ∧ (p.k ≠ 1 → c ≠ 58) ∧ (p.k ≠ 1 → ¬ 0 < fullZ p.k → p.k ≠ 15 → isDg c = false) := by
  rcases kinds p hp with h | h | h | h | h
  · obtain ⟨c, r, e⟩ := lit_head hp h
    exact ⟨c, r, by unfold fmt1; rw [if_pos h, e], fun _ => by unfold fstB; rw [if_pos h, e]; rfl, fun q => absurd h q, fun q => absurd h q⟩
  · obtain ⟨sg, a, b, c, d, h1, _, _, _, _, h2⟩ := offT_eq o ho
    obtain ⟨n1, n2⟩ := sg_not h1
    have e : fmt1 N F o tn p = offT o := by unfold fmt1; rw [if_neg (by omega), if_pos h]
    rw [e]
    rcases h2 with ⟨_, h2⟩ | ⟨x, y, _, _, h2⟩
    · exact ⟨sg, _, h2, fun q => by omega, fun _ => n2, fun _ _ _ => n1⟩
    · exact ⟨sg, _, h2, fun q => by omega, fun _ => n2, fun _ _ _ => n1⟩
  · obtain ⟨h1, h2, h3⟩ := typB_parts ht
    have e : fmt1 N F o tn p = tn := by unfold fmt1; rw [if_neg (by omega), if_neg (by omega), if_pos h]
    rw [e]
    cases tn with
    | nil => simp at h1
    | cons c r => exact ⟨c, r, rfl, fun q => by omega, fun _ => ty_not (by simp at h3; exact h3.1), fun _ _ q => absurd h q⟩
  · obtain ⟨n1, n2, n3⟩ := num_not h
    obtain ⟨c, r, e, hc⟩ := itx_head (valK F p.k) p.w.toNat
    exact ⟨c, r, by unfold fmt1; rw [if_neg n1, if_neg n2, if_neg n3, if_pos h, e], fun q => absurd q n1, fun _ => dg_not hc, fun _ q => absurd h q⟩
  · obtain ⟨n1, n2, n3, n4⟩ := nam_not h
    obtain ⟨c, r, e, hc⟩ := name_at N hn p.k _ (names_len N hN F hF p.k h)
    obtain ⟨q1, q2⟩ := lt_not_dg hc
    exact ⟨c, r, by unfold fmt1; rw [if_neg n1, if_neg n2, if_neg n3, if_neg n4, e], fun q => absurd q n1, fun _ => q2, fun _ _ _ => q1⟩
theorem rest_head {N : Nms} {F : Fv} {o : Int} {tn : List UInt8} (hN : N.ok) (hn : nmOk N = true) (hF : F.ok) (ho : o.natAbs < 93600) (ht : typB tn = true) {r : List Prt} (hr : ∀ q, r.head? = some q → partB q = true)
    {c : UInt8} (h : (fmtL N F o tn r).head? = some c) : ∃ q, r.head? = some q ∧ (q.k = 1 → c = fstB q) ∧ (q.k ≠ 1 → c ≠ 58) ∧ (q.k ≠ 1 → ¬ 0 < fullZ q.k → q.k ≠ 15 → isDg c = false) := by
  cases r with
  | nil => simp [fmtL] at h
  | cons q r =>
    obtain ⟨x, t, e, h1, h2, h3⟩ := fmt_head hN hn hF ho ht (hr q rfl)
    have e2 : fmtL N F o tn (q :: r) = x :: (t ++ fmtL N F o tn r) := by unfold fmtL; rw [List.flatMap_cons, e]; rfl
    rw [e2] at h
    have : x = c := Option.some.inj h
    subst this
    exact ⟨q, rfl, h1, h2, h3⟩
theorem rd1_fmt {N : Nms} {F : Fv} {o : Int} {tn : List UInt8} (hN : N.ok) (hn : nmOk N = true) (hF : F.ok) (ho : o.natAbs < 93600) (ht : typB tn = true) {p : Prt} (hp : partB p = true) {r : List Prt}
    (hr : ∀ q, r.head? = some q → partB q = true ∧ badB p q = false) :
    rd1 N p r.head? (fmt1 N F o tn p ++ fmtL N F o tn r) = some ((fmt1 N F o tn p).length, valsK F p) := by
  have hh : ∀ c, (fmtL N F o tn r).head? = some c → _ := fun c h => rest_head hN hn hF ho ht (fun q hq => (hr q hq).1) h
  generalize fmtL N F o tn r = b at hh ⊢
  rcases kinds p hp with h | h | h | h | h
  · have e : fmt1 N F o tn p = p.t := by unfold fmt1; rw [if_pos h]
    unfold rd1 valsK
    rw [e, if_pos h, if_pos (pre_app _ _), if_pos (.inl h)]
  · have e : fmt1 N F o tn p = offT o := by unfold fmt1; rw [if_neg (by omega), if_pos h]
    have hb : ∀ c, b.head? = some c → c ≠ 58 := by
      intro c hc
      obtain ⟨q, hq, h1, h2, _⟩ := hh c hc
      have hbad := (hr q hq).2
      unfold badB at hbad
      simp only [Bool.or_eq_false_iff, Bool.and_eq_false_iff, decide_eq_false_iff_not] at hbad
      have h58 : ¬ fstB q = 58 := by
        rcases hbad.1.2 with q1 | q1
        · exact absurd h q1
        · exact q1
      by_cases k1 : q.k = 1
      · rw [h1 k1]; exact h58
      · exact h2 k1
    obtain ⟨sg, a1, a2, a3, a4, h1, d1, d2, d3, d4, h2⟩ := offT_eq o ho
    unfold rd1 valsK
    rw [e, if_neg (by omega), if_pos h, if_pos (show p.k = 1 ∨ p.k = 14 ∨ p.k = 15 from .inr (.inl h))]
    rcases h2 with ⟨_, h2⟩ | ⟨x, y, dx, dy, h2⟩
    · rw [h2]
      have g1 : offB ([sg, a1, a2, 58, a3, a4] ++ b) = true := by
        unfold offB colB digN
        simp [d1, d2, d3, d4, h1]
      have g2 : colB ([sg, a1, a2, 58, a3, a4] ++ b) 6 = false := by
        unfold colB
        cases b with
        | nil => simp
        | cons c t =>
          have := hb c rfl
          simp [this]
      rw [if_pos g1, g2]
      rfl
    · rw [h2]
      have g1 : offB ([sg, a1, a2, 58, a3, a4, 58, x, y] ++ b) = true := by
        unfold offB colB digN
        simp [d1, d2, d3, d4, h1]
      have g2 : colB ([sg, a1, a2, 58, a3, a4, 58, x, y] ++ b) 6 = true := by
        unfold colB
        simp [dx, dy]
      rw [if_pos g1, g2]
      rfl
  · have e : fmt1 N F o tn p = tn := by unfold fmt1; rw [if_neg (by omega), if_neg (by omega), if_pos h]
    obtain ⟨t1, t2, t3⟩ := typB_parts ht
    have hb : ∀ c, b.head? = some c → tyC c = false := by
      intro c hc
      obtain ⟨q, hq, h1, h2, _⟩ := hh c hc
      have hbad := (hr q hq).2
      unfold badB at hbad
      simp only [Bool.or_eq_false_iff, Bool.and_eq_false_iff, decide_eq_false_iff_not] at hbad
      rcases hbad.2 with q1 | q1
      · exact absurd h q1
      · obtain ⟨⟨⟨⟨k1, k2⟩, k3⟩, k4⟩, k5⟩ := q1
        have k1' : q.k = 1 := by simpa using k1
        rw [h1 k1']
        unfold tyC
        simp [k2, k3, k4, k5]
    have g := tyN_app tn b t3 t2 (.inr hb)
    unfold rd1 valsK
    rw [e, if_neg (by omega), if_neg (by omega), if_pos h, g, if_neg (by omega), if_pos (show p.k = 1 ∨ p.k = 14 ∨ p.k = 15 from .inr (.inr h))]
  · obtain ⟨n1, n2, n3⟩ := num_not h
    have e : fmt1 N F o tn p = itx (valK F p.k) p.w.toNat := by unfold fmt1; rw [if_neg n1, if_neg n2, if_neg n3, if_pos h]
    obtain ⟨w1, w2⟩ := num_width hp h
    have hv := num_val hF h
    obtain ⟨l1, l2, l3⟩ := itx_len_le (n := valK F p.k) (k := p.w.toNat) (m := (fullZ p.k).toNat) (by omega) (by omega) hv
    have key : digN (itx (valK F p.k) p.w.toNat ++ b) (mostN p r.head?) = (itx (valK F p.k) p.w.toNat).length := by
      by_cases hw : p.w = fullZ p.k
      · unfold mostN
        rw [hw, ite_self]
        rw [hw] at l1 l2
        exact digN_app _ _ _ (itx_all _ _) l2 (.inl (by omega))
      · have hb : ∀ q, r.head? = some q → ¬ 0 < fullZ q.k ∧ ¬ q.k = 15 ∧ isDg (fstB q) = false := by
          intro q hq
          have hbad := (hr q hq).2
          unfold badB at hbad
          simp only [Bool.or_eq_false_iff, Bool.and_eq_false_iff, decide_eq_false_iff_not] at hbad
          rcases hbad.1.1 with (q1 | q1) | q1
          · exact absurd h q1
          · omega
          · exact ⟨q1.1.1, q1.1.2, q1.2⟩
        have hm : mostN p r.head? = (fullZ p.k).toNat := by
          unfold mostN
          cases hq : r.head? with
          | none => rfl
          | some q => simp [(hb q hq).1]
        rw [hm]
        refine digN_app _ _ _ (itx_all _ _) l2 (.inr fun c hc => ?_)
        obtain ⟨q, hq, h1, h2, h3⟩ := hh c hc
        obtain ⟨b1, b2, b3⟩ := hb q hq
        by_cases k1 : q.k = 1
        · rw [h1 k1]; exact b3
        · exact h3 k1 b1 b2
    unfold rd1 valsK
    rw [e, if_neg n1, if_neg n2, if_neg n3, if_pos h, if_neg (show ¬ (p.k = 1 ∨ p.k = 14 ∨ p.k = 15) by omega)]
    rw [key, if_neg (by omega), List.take_left, itx_val]
  · obtain ⟨n1, n2, n3, n4⟩ := nam_not h
    have hl := names_len N hN F hF p.k h
    have hg : (lstK N p.k).getD (valK F p.k) [] = (lstK N p.k)[valK F p.k] := by simp [List.getD, hl]
    have e : fmt1 N F o tn p = (lstK N p.k)[valK F p.k] := by unfold fmt1; rw [if_neg n1, if_neg n2, if_neg n3, if_neg n4, hg]
    have key := namI_app (lstK N p.k) 30 (names_ok N hn p.k) (valK F p.k) hl b
    unfold rd1 valsK
    rw [e, if_neg n1, if_neg n2, if_neg n3, if_neg n4, key, if_pos hl, if_neg (show ¬ (p.k = 1 ∨ p.k = 14 ∨ p.k = 15) by omega), hg]
/-- All of it is read back. -/
theorem rdL_fmt {N : Nms} {F : Fv} {o : Int} {tn : List UInt8} (hN : N.ok) (hn : nmOk N = true) (hF : F.ok) (ho : o.natAbs < 93600) (ht : typB tn = true) :
    ∀ (l : List Prt) (i : Nat) (vs : List (Int × Nat)), (∀ p ∈ l, partB p = true) → losL l = true → rdL N l (fmtL N F o tn l) i vs = .inr (vs ++ l.flatMap (valsK F))
  | [], i, vs, _, _ => by simp [rdL, fmtL]
  | p :: r, i, vs, hp, hl => by
    have hr : ∀ q, r.head? = some q → partB q = true ∧ badB p q = false := by
      intro q hq
      cases r with
      | nil => simp at hq
      | cons x t =>
        have : x = q := Option.some.inj hq
        subst this
        refine ⟨hp x (by simp), ?_⟩
        rw [losL, Bool.and_eq_true, Bool.not_eq_true'] at hl
        exact hl.1
    have hl2 : losL r = true := by
      cases r with
      | nil => rfl
      | cons x t => rw [losL, Bool.and_eq_true] at hl; exact hl.2
    have e : fmtL N F o tn (p :: r) = fmt1 N F o tn p ++ fmtL N F o tn r := by unfold fmtL; rw [List.flatMap_cons]
    rw [rdL, e, rd1_fmt hN hn hF ho ht (hp p (by simp)) hr]
    simp only
    rw [List.drop_left, rdL_fmt hN hn hF ho ht r _ _ (fun q hq => hp q (by simp [hq])) hl2, List.flatMap_cons, List.append_assoc]
end Go.Proofs.YticckkadmhklmaaGreatDoor
