/- Small lemmas on worlds and results that every walk of this seat uses; nothing of the program is in sight here. -/
import Derived.Test.YtgndogpgfgliaaaGreatDoorRows
import Derived.WalkKit
import Derived.WalkSpells
import Derived.WalkLawsBesides
import Derived.BigQuiet
import Derived.Deep.QuietTactic
import Derived.Deep.RegionHeld3
import Derived.Lib.Hide
import Derived.ProofKit
import Derived.OpenShut
import Derived.Lib.Split
import Derived.Lib.SplitLaws
import Derived.Lib.AtoiAll
import Derived.Lib.ItoaNum
namespace Go.Proofs.YtgndogpgfgliaaaGreatDoor
open Go.RowKit

/-- The world w' has all the blocks of w as they were. -/
def Ext (w w' : World) : Prop := Below w.heap.size w w'
theorem Ext.refl (w : World) : Ext w w := Below.refl _ _
theorem Ext.size {w w' : World} (h : Ext w w') : w.heap.size ≤ w'.heap.size := Below.size h
theorem Ext.trans {a b c : World} (h : Ext a b) (k : Ext b c) : Ext a c := Below.trans h (Below.mono k h.size)
theorem Ext.drewN {a w : World} (h : Ext a w) (n : Nat) : Ext a (w.drewN n) := ⟨h.os, h.tape, h.output, h.size, h.block⟩
theorem Ext.drew {a w : World} (h : Ext a w) : Ext a w.drew := ⟨h.os, h.tape, h.output, h.size, h.block⟩
theorem Ext.alloc {a w : World} (h : Ext a w) (o : Obj) : Ext a (w.alloc o) := Below.alloc h h.size o
theorem Ext.setCell {a w : World} (h : Ext a w) {p : Addr} (hp : a.heap.size ≤ p.block) (u : Value) : Ext a (w.setCell p u) := Below.setCell h hp u
theorem Ext.cells {w w' : World} (h : Ext w w') : ∀ b o, b < w.heap.size → w'.cell? ⟨b, o, none⟩ = w.cell? ⟨b, o, none⟩ := fun b o hb => Below.cell h (p := ⟨b, o, none⟩) hb
theorem Ext.frozens {w w' : World} (h : Ext w w') : ∀ b o, b < w.heap.size → w'.frozen? ⟨b, o, none⟩ = w.frozen? ⟨b, o, none⟩ := fun b o hb => Below.frozen h (p := ⟨b, o, none⟩) hb
theorem Ext.lt {w w' : World} (h : Ext w w') {n : Nat} (hn : n < w.heap.size) : n < w'.heap.size := Nat.lt_of_lt_of_le hn h.size
theorem Ext.of_drewN {w w' : World} (h : ∃ n, w.drewN n = w') : Ext w w' := by
  obtain ⟨n, rfl⟩ := h
  exact (Ext.refl w).drewN n
theorem Ext.drewN_left {w w' : World} {n : Nat} (h : Ext (w.drewN n) w') : Ext w w' := ⟨h.os, h.tape, h.output, h.size, h.block⟩

theorem ret_i {k : IntKind} {a a' : Int} (h : a = a') : Ending.returned (.int k a) = .returned (.int k a') := by rw [h]
theorem ret_b {a a' : Bool} (h : a = a') : Ending.returned (.bool a) = .returned (.bool a') := by rw [h]
theorem ret_s {a a' : ByteArray} (h : a = a') : Ending.returned (.string a) = .returned (.string a') := by rw [h]
theorem ret_i2 {k1 k2 : IntKind} {a b a' b' : Int} (h1 : a = a') (h2 : b = b') : Ending.returned (.tuple #[.int k1 a, .int k2 b]) = .returned (.tuple #[.int k1 a', .int k2 b']) := by rw [h1, h2]
theorem ret_i3 {k1 k2 k3 : IntKind} {a b c a' b' c' : Int} (h1 : a = a') (h2 : b = b') (h3 : c = c') : Ending.returned (.tuple #[.int k1 a, .int k2 b, .int k3 c]) = .returned (.tuple #[.int k1 a', .int k2 b', .int k3 c']) := by rw [h1, h2, h3]

theorem quiet_of {P : Program} {f : FuncId} {args : Array Value} {w : World} {a n : Nat} {v : Value}
    (h : Calls P f args (w.drewN (a + n)) fun e w' => e = .returned v ∧ ∃ m, (w.drewN (a + n)).drewN m = w') :
    Calls P f args (w.drewN (a + n)) fun e w'' => e = .returned v ∧ ∃ m, w'' = w.drewN (a + m) :=
  h.mono fun _ _ ⟨he, m, hm⟩ => ⟨he, n + m, by rw [← hm, World.drewN_drewN, Nat.add_assoc]⟩
theorem quiet_of0 {P : Program} {f : FuncId} {args : Array Value} {w : World} {n : Nat} {v : Value}
    (h : Calls P f args (w.drewN n) fun e w' => e = .returned v ∧ ∃ m, (w.drewN n).drewN m = w') :
    Calls P f args (w.drewN n) fun e w'' => e = .returned v ∧ ∃ m, w'' = w.drewN m :=
  h.mono fun _ _ ⟨he, m, hm⟩ => ⟨he, n + m, by rw [← hm, World.drewN_drewN]⟩

theorem neg_div (n b : Int) (hb : 0 < b) : (-n) / b = if n % b = 0 then -(n / b) else -(n / b) - 1 := by
  have h1 := Int.mul_ediv_add_emod n b
  have h2 := Int.emod_nonneg n (show b ≠ 0 by omega)
  have h3 := Int.emod_lt_of_pos n hb
  have e1 : -(n / b) * b = - (b * (n / b)) := by rw [Int.neg_mul, Int.mul_comm]
  split
  · rename_i h
    rw [Int.ediv_eq_iff_of_pos hb]
    rw [e1]; omega
  · rename_i h
    rw [Int.ediv_eq_iff_of_pos hb, Int.sub_mul, e1]; omega

theorem neg_mod (n b : Int) (hb : 0 < b) : (-n) % b = if n % b = 0 then 0 else b - n % b := by
  have h1 := Int.mul_ediv_add_emod n b
  have h2 := Int.mul_ediv_add_emod (-n) b
  rw [neg_div n b hb] at h2
  split
  · rename_i h
    rw [if_pos h, Int.mul_neg] at h2
    omega
  · rename_i h
    rw [if_neg h, Int.mul_sub, Int.mul_neg] at h2
    omega

theorem div_half (a b : Int) (ha : 0 ≤ a) (hb : 2 ≤ b) : 2 * (a / b) ≤ a := by
  have h1 := Int.mul_ediv_add_emod a b
  have h2 := Int.emod_nonneg a (show b ≠ 0 by omega)
  have h3 := Int.ediv_nonneg (a := a) (b := b) ha (by omega)
  have h4 : 2 * (a / b) ≤ b * (a / b) := Int.mul_le_mul_of_nonneg_right hb h3
  omega
end Go.Proofs.YtgndogpgfgliaaaGreatDoor
/- Opening arguments: integers' bounds. -/
namespace Go.Proofs.YtgndogpgfgliaaaGreatDoor
open Go.ChangeShapes Go.WideShapes Go.ChangeAt Go.RowKit

theorem i64_wf {n : Int} (h : (Lit.int .i64 n).wf = true) : -9223372036854775808 ≤ n ∧ n ≤ 9223372036854775807 := by
  simp only [Lit.wf, Bool.and_eq_true, decide_eq_true_eq] at h
  exact h
theorem u8_wf {n : Int} (h : (Lit.int .u8 n).wf = true) : 0 ≤ n ∧ n ≤ 255 := by
  simp only [Lit.wf, Bool.and_eq_true, decide_eq_true_eq] at h
  exact h
end Go.Proofs.YtgndogpgfgliaaaGreatDoor
/- Small lemmas on strings of bytes; nothing of the program is in sight here. -/
namespace Go.Proofs.YtgndogpgfgliaaaGreatDoor
set_option linter.unusedVariables false
set_option linter.unnecessarySimpa false
set_option linter.unusedSimpArgs false
open Go.RowKit

def isDg (c : UInt8) : Bool := decide (48 ≤ c.toNat ∧ c.toNat ≤ 57)
def val (l : List UInt8) : Nat := l.foldl (fun a c => 10 * a + (c.toNat - 48)) 0
theorem isDg_iff {c : UInt8} : isDg c = true ↔ 48 ≤ c.toNat ∧ c.toNat ≤ 57 := by unfold isDg; simp
theorem val_snoc (l : List UInt8) (c : UInt8) : val (l ++ [c]) = 10 * val l + (c.toNat - 48) := by unfold val; simp
theorem val_take_succ (l : List UInt8) (k : Nat) (h : k < l.length) : val (l.take (k + 1)) = 10 * val (l.take k) + (l[k].toNat - 48) := by
  rw [List.take_succ_eq_append_getElem h, val_snoc]
theorem snoc_ind {P : List UInt8 → Prop} (h0 : P []) (h1 : ∀ l c, P l → P (l ++ [c])) (l : List UInt8) : P l := by
  have H : ∀ r : List UInt8, P r.reverse := by
    intro r
    induction r with
    | nil => exact h0
    | cons c r ih => rw [List.reverse_cons]; exact h1 _ c ih
  have := H l.reverse
  rwa [List.reverse_reverse] at this
theorem val_nil : val [] = 0 := rfl
theorem val_lt (l : List UInt8) (h : ∀ c ∈ l, isDg c = true) : val l < 10 ^ l.length := by
  revert h
  refine snoc_ind (P := fun l => (∀ c ∈ l, isDg c = true) → val l < 10 ^ l.length) ?_ ?_ l
  · intro _; simp [val_nil]
  · intro l c ih h
    have := isDg_iff.1 (h c (by simp))
    have := ih (fun x hx => h x (by simp [hx]))
    rw [List.length_append, List.length_singleton, val_snoc, Nat.pow_succ]; omega
theorem bget (l : List UInt8) (k : Nat) (h : k < l.length) (c : UInt8) (hc : c = l[k]) : (⟨l.toArray⟩ : ByteArray)[k]'(by simpa [ByteArray.size] using h) = c := by
  rw [hc]
  rfl
theorem bdrop (l : List UInt8) (k : Nat) : (⟨l.toArray⟩ : ByteArray).extract k l.length = ⟨(l.drop k).toArray⟩ := by
  apply ByteArray.ext
  simp only [ByteArray.data_extract, List.extract_toArray]
  rw [List.extract_eq_take_drop, List.take_of_length_le (by simp)]
theorem bmid (l : List UInt8) (a b : Nat) : (⟨l.toArray⟩ : ByteArray).extract a b = ⟨((l.drop a).take (b - a)).toArray⟩ := by
  apply ByteArray.ext
  simp only [ByteArray.data_extract, List.extract_toArray]
  try rw [List.extract_eq_take_drop]
theorem snoc_str (l : List UInt8) (c : UInt8) : (⟨l.toArray⟩ : ByteArray) ++ ⟨#[c]⟩ = ⟨(l ++ [c]).toArray⟩ := by
  apply ByteArray.ext
  simp
theorem app_str (a b : List UInt8) : (⟨a.toArray⟩ : ByteArray) ++ ⟨b.toArray⟩ = ⟨(a ++ b).toArray⟩ := by
  apply ByteArray.ext
  simp
theorem u8_beq {c : UInt8} {k : Nat} (hk : k < 256) : (((c.toNat : Nat) : Int) == (k : Int)) = decide (c = UInt8.ofNat k) := by
  rw [Bool.eq_iff_iff, beq_iff_eq, decide_eq_true_eq, ← UInt8.toNat_inj, UInt8.toNat_ofNat']
  omega
theorem ba_mk (s : ByteArray) : s = ⟨(s.data.toList).toArray⟩ := by
  apply ByteArray.ext; simp

/-- strconv.Atoi at a few digits. -/
theorem pu_val (l : List UInt8) : ∀ (acc : Nat), acc < 1000000 → l.length ≤ 9 → (∀ c ∈ l, isDg c = true) → Lib.parseUint10 acc l = .ok (l.foldl (fun a c => 10 * a + (c.toNat - 48)) acc) := by
  suffices H : ∀ (n : Nat) (l : List UInt8) (acc : Nat), l.length ≤ n → n ≤ 9 → acc < 10 ^ (16 - n) → (∀ c ∈ l, isDg c = true) → Lib.parseUint10 acc l = .ok (l.foldl (fun a c => 10 * a + (c.toNat - 48)) acc) by
    intro acc ha hl hd
    exact H 9 l acc hl (by omega) (by have : (10 : Nat) ^ (16 - 9) = 10000000 := rfl; omega) hd
  intro n
  induction n with
  | zero =>
    intro l acc hl _ _ _
    obtain rfl : l = [] := List.length_eq_zero_iff.1 (by omega)
    rfl
  | succ n ih =>
    intro l acc hl hn ha hd
    match l with
    | [] => rfl
    | c :: r =>
      have hc := isDg_iff.1 (hd c (by simp))
      have h16 : (10 : Nat) ^ (16 - (n + 1)) ≤ 10 ^ 15 := Nat.pow_le_pow_right (by omega) (by omega)
      have h15 : (10 : Nat) ^ 15 = 1000000000000000 := rfl
      have e : (10 : Nat) ^ (16 - n) = 10 ^ (16 - (n + 1)) * 10 := by rw [← Nat.pow_succ]; congr 1; omega
      rw [Lib.parseUint10, if_pos hc, if_neg (by omega), if_neg (by omega), ih r _ (by simpa using hl) (by omega) (by omega) (fun x hx => hd x (by simp [hx])), List.foldl_cons, Nat.mul_comm]
theorem atoi_val (l : List UInt8) (h1 : 1 ≤ l.length) (h2 : l.length ≤ 9) (hd : ∀ c ∈ l, isDg c = true) : Lib.atoiAll l = .ok (val l : Int) := by
  match l with
  | c :: r =>
    have hc := isDg_iff.1 (hd c (by simp))
    have hv := val_lt (c :: r) hd
    have h10 : (10 : Nat) ^ (c :: r).length ≤ 10 ^ 9 := Nat.pow_le_pow_right (by omega) h2
    have h9 : (10 : Nat) ^ 9 = 1000000000 := rfl
    unfold Lib.atoiAll
    simp only
    rw [if_neg (by omega)]
    unfold Lib.parseMag
    rw [if_neg (by simp), pu_val (c :: r) 0 (by omega) h2 hd]
    show (if ¬ c.toNat = 45 ∧ 9223372036854775808 ≤ val (c :: r) then _ else _) = _
    rw [if_neg (by omega), if_neg (by omega), if_neg (by omega)]
    rfl
/-- A text cut at each place of a byte. -/
def spl (c : UInt8) : List UInt8 → List (List UInt8)
  | [] => [[]]
  | d :: r => if d = c then [] :: spl c r else match spl c r with
    | [] => [[d]]
    | h :: t => (d :: h) :: t
theorem spl_ne (c : UInt8) (l : List UInt8) : spl c l ≠ [] := by
  cases l with
  | nil => simp [spl]
  | cons d r => unfold spl; split; simp; split <;> simp
theorem spl_hit (c : UInt8) (r : List UInt8) : spl c (c :: r) = [] :: spl c r := by rw [spl, if_pos rfl]
theorem spl_cons (c d : UInt8) (r : List UInt8) (h : d ≠ c) : ∃ x t, spl c r = x :: t ∧ spl c (d :: r) = (d :: x) :: t := by
  cases e : spl c r with
  | nil => exact absurd e (spl_ne c r)
  | cons x t => exact ⟨x, t, rfl, by rw [spl, if_neg h, e]⟩
theorem index1_cons (c d : UInt8) (r : List UInt8) : Lib.index (d :: r) [c] = if d = c then 0 else if Lib.index r [c] = -1 then -1 else Lib.index r [c] + 1 := by
  have e : [c].isPrefixOf (d :: r) = decide (d = c) := by
    simp only [List.isPrefixOf, Bool.and_true]
    rw [Bool.eq_iff_iff, beq_iff_eq, decide_eq_true_eq]
    exact eq_comm
  rw [Lib.index, e]
  by_cases h : d = c
  · simp [h]
  · simp [h]
theorem spl_miss (c : UInt8) : ∀ s : List UInt8, Lib.index s [c] = -1 → spl c s = [s] := by
  intro s
  induction s with
  | nil => intro _; rfl
  | cons d r ih =>
    intro h
    rw [index1_cons] at h
    by_cases hd : d = c
    · rw [if_pos hd] at h; omega
    · rw [if_neg hd] at h
      by_cases hi : Lib.index r [c] = -1
      · rw [spl, if_neg hd, ih hi]
      · rw [if_neg hi] at h
        have := Lib.index_ge r [c]
        omega
theorem spl_at (c : UInt8) : ∀ (s : List UInt8) (i : Nat), Lib.index s [c] = i → spl c s = s.take i :: spl c (s.drop (i + 1)) := by
  intro s
  induction s with
  | nil => intro i h; simp [Lib.index] at h
  | cons d r ih =>
    intro i h
    rw [index1_cons] at h
    by_cases hd : d = c
    · rw [if_pos hd] at h
      obtain rfl : i = 0 := by omega
      rw [hd, spl_hit]; rfl
    · rw [if_neg hd] at h
      by_cases hi : Lib.index r [c] = -1
      · rw [if_pos hi] at h; omega
      · rw [if_neg hi] at h
        have := Lib.index_ge r [c]
        obtain ⟨j, hj⟩ : ∃ j : Nat, Lib.index r [c] = j := ⟨(Lib.index r [c]).toNat, by omega⟩
        obtain rfl : i = j + 1 := by omega
        rw [spl, if_neg hd, ih j hj]
        rfl
theorem splitK_spl (c : UInt8) : ∀ (fuel : Nat) (s : List UInt8) (k : Nat), s.length < fuel → Lib.countFrom [c] fuel s ≤ k → Lib.splitK [c] 0 k s = spl c s := by
  intro fuel
  induction fuel with
  | zero => intro s k h; omega
  | succ fuel ih =>
    intro s k hl hk
    rw [Lib.countFrom] at hk
    by_cases hi : Lib.index s [c] = -1
    · rw [spl_miss c s hi]
      cases k with
      | zero => rfl
      | succ k => rw [Lib.splitK, if_pos (by rw [hi]; rfl)]
    · rw [if_neg (by simpa using hi)] at hk
      have hge := Lib.index_ge s [c]
      obtain ⟨i, hi2⟩ : ∃ i : Nat, Lib.index s [c] = i := ⟨(Lib.index s [c]).toNat, by omega⟩
      have hroom := Lib.index_room s [c] (by omega)
      rw [hi2] at hk hroom
      simp only [List.length_singleton] at hk hroom
      have e : ((i : Int)).toNat = i := by omega
      rw [e] at hk
      cases k with
      | zero => omega
      | succ k =>
        rw [Lib.splitK, if_neg (by simpa using hi), hi2, e, spl_at c s i hi2, List.length_singleton, Nat.add_zero]
        rw [ih (s.drop (i + 1)) k (by rw [List.length_drop]; omega) (by omega)]
/-- What strings.Split gives at a separator of one byte. -/
theorem split_spl (c : UInt8) (s : ByteArray) : (Lib.splitB ⟨#[c]⟩ 0 (Lib.countB s ⟨#[c]⟩) s).map (·.data.toList) = spl c s.data.toList := by
  rw [Lib.splitB_data]
  exact splitK_spl c (s.data.toList.length + 1) s.data.toList _ (by omega) (Nat.le_refl _)
theorem split_vals (c : UInt8) (s : ByteArray) : (Lib.splitB ⟨#[c]⟩ 0 (Lib.countB s ⟨#[c]⟩) s).map Value.string = (spl c s.data.toList).map fun l => Value.string ⟨l.toArray⟩ := by
  rw [← split_spl, List.map_map]
  refine List.map_congr_left ?_
  intro b _
  show Value.string b = Value.string ⟨b.data.toList.toArray⟩
  rw [← ba_mk b]
theorem split_count (c : UInt8) (s : ByteArray) : Lib.countB s ⟨#[c]⟩ + 1 = (spl c s.data.toList).length := by
  have h := congrArg List.length (split_spl c s)
  rw [List.length_map] at h
  rw [← h]
  exact (Lib.splitB_all ⟨#[c]⟩ (Nat.le_refl 1) 0 _ s rfl).symm
end Go.Proofs.YtgndogpgfgliaaaGreatDoor
/- Recurrence rules, plainly: the numbers, lists and words of their text form. No program in sight. -/
namespace Go.Proofs.YtgndogpgfgliaaaGreatDoor
set_option linter.unusedVariables false
set_option linter.unnecessarySimpa false
set_option linter.unusedSimpArgs false
open Go.RowKit

/-- A number's digits: what stands behind a minus sign. -/
def numT (s : List UInt8) : List UInt8 := if s.head? = some 45 then s.tail else s
/-- A NUMBER of at most nine digits, as both read it. -/
def numZB (s : List UInt8) : Bool := decide (numT s ≠ []) && !((numT s).head? == some 48 && (decide (1 < (numT s).length) || (s.head? == some 45))) && (numT s).all isDg && decide (val (numT s) ≤ 999999999)
def numZ (s : List UInt8) : Option Int := if numZB s = true then some (if s.head? = some 45 then -(val (numT s) : Int) else (val (numT s) : Int)) else none
def allO {α : Type} (f : List UInt8 → Option α) : List (List UInt8) → Option (List α)
  | [] => some []
  | x :: r => match f x, allO f r with
    | some a, some l => some (a :: l)
    | _, _ => none
/-- A list of numbers. -/
def numsZ (s : List UInt8) : Option (List Int) := allO numZ (spl 44 s)
def wkW : List (List UInt8) := [[77, 79], [84, 85], [87, 69], [84, 72], [70, 82], [83, 65], [83, 85]]
def frW : List (List UInt8) := [[89, 69, 65, 82, 76, 89], [77, 79, 78, 84, 72, 76, 89], [87, 69, 69, 75, 76, 89], [68, 65, 73, 76, 89], [72, 79, 85, 82, 76, 89]]
/-- A word's place in a list, from 1 on; 0: none. -/
def plW (l : List (List UInt8)) (s : List UInt8) : Nat := if s ∈ l then l.idxOf s + 1 else 0
/-- A weekday with a number. -/
def dayZ (x : List UInt8) : Option (Int × Int) :=
  if x.length < 2 ∨ plW wkW (x.drop (x.length - 2)) = 0 then none
  else if x.length = 2 then some (0, (plW wkW x : Int))
  else match numZ (x.take (x.length - 2)) with
    | some n => if n = 0 then none else some (n, (plW wkW (x.drop (x.length - 2)) : Int))
    | none => none
def daysZ (s : List UInt8) : Option (List (Int × Int)) := allO dayZ (spl 44 s)
theorem allO_none {α : Type} {f : List UInt8 → Option α} : ∀ {l : List (List UInt8)} {i : Nat} (h : i < l.length), f l[i] = none → allO f l = none
  | [], i, h, _ => by cases h
  | x :: r, 0, h, e => by
    have e : f x = none := e
    rw [allO, e]
  | x :: r, i + 1, h, e => by
    have h2 : i < r.length := by simpa using h
    have e : f r[i] = none := e
    rw [allO, allO_none h2 e]
    cases f x <;> rfl
theorem allO_some {α : Type} {f : List UInt8 → Option α} : ∀ {l : List (List UInt8)} {o : List α} (hl : o.length = l.length), (∀ i (h : i < l.length), f l[i] = some (o[i]'(by omega))) → allO f l = some o
  | [], o, hl, _ => by
    have : o = [] := List.length_eq_zero_iff.1 hl
    rw [this, allO]
  | x :: r, [], hl, _ => by cases hl
  | x :: r, a :: o, hl, h => by
    have h0 : f x = some a := h 0 (by simp)
    have h1 : allO f r = some o := allO_some (by simpa using hl) (fun i hi => h (i + 1) (by simpa using hi))
    rw [allO, h0, h1]
theorem allO_len {α : Type} {f : List UInt8 → Option α} : ∀ {l : List (List UInt8)} {o : List α}, allO f l = some o → o.length = l.length ∧ ∀ i (h : i < l.length) (h2 : i < o.length), f l[i] = some o[i]
  | [], o, h => by
    rw [allO] at h
    injection h with h
    subst h
    exact ⟨rfl, fun i h => by cases h⟩
  | x :: r, o, h => by
    rw [allO] at h
    split at h
    · rename_i a l e1 e2
      injection h with h
      subst h
      obtain ⟨k1, k2⟩ := allO_len e2
      refine ⟨by simp [k1], fun i hi h2 => ?_⟩
      cases i with
      | zero => exact e1
      | succ i => exact k2 i (by simpa using hi) (by simpa using h2)
    · cases h
theorem numZ_range {s : List UInt8} {n : Int} (h : numZ s = some n) : -999999999 ≤ n ∧ n ≤ 999999999 := by
  unfold numZ at h
  split at h
  · rename_i hb
    unfold numZB at hb
    simp only [Bool.and_eq_true, decide_eq_true_eq] at hb
    injection h with h
    subst h
    have := hb.2
    split <;> omega
  · cases h
theorem plW_le (l : List (List UInt8)) (s : List UInt8) : plW l s ≤ l.length := by
  unfold plW
  split
  · rename_i h
    have := List.idxOf_lt_length_iff.2 h
    omega
  · omega
/-- A rule: its numbers and lists. -/
structure RecD where
  fr : Int
  iv : Int
  ct : Int
  un : Int
  mo : List Int
  md : List Int
  yd : List Int
  wk : List Int
  da : List (Int × Int)
  ho : List Int
  mi : List Int
  se : List Int
  po : List Int
  ws : Int
def RecD.zero : RecD := ⟨0, 0, 0, 0, [], [], [], [], [], [], [], [], [], 0⟩
/-- The names of the parts. -/
def ptW : List (List UInt8) := [[70, 82, 69, 81], [73, 78, 84, 69, 82, 86, 65, 76], [67, 79, 85, 78, 84], [85, 78, 84, 73, 76], [66, 89, 77, 79, 78, 84, 72], [66, 89, 87, 69, 69, 75, 78, 79], [66, 89, 89, 69, 65, 82, 68, 65, 89], [66, 89, 77, 79, 78, 84, 72, 68, 65, 89], [66, 89, 68, 65, 89], [66, 89, 72, 79, 85, 82], [66, 89, 77, 73, 78, 85, 84, 69], [66, 89, 83, 69, 67, 79, 78, 68], [66, 89, 83, 69, 84, 80, 79, 83], [87, 75, 83, 84]]
/-- A part is read, at its place (untZ: the local time of a text). -/
def partZ (untZ : List UInt8 → Option Int) (k : Nat) (v : List UInt8) (R : RecD) : Option RecD :=
  match k with
  | 0 => if plW frW v = 0 then none else some { R with fr := plW frW v }
  | 1 => (numZ v).map fun n => { R with iv := n }
  | 2 => (numZ v).map fun n => { R with ct := n }
  | 3 => (untZ v).map fun n => { R with un := n }
  | 4 => (numsZ v).map fun l => { R with mo := l }
  | 5 => (numsZ v).map fun l => { R with wk := l }
  | 6 => (numsZ v).map fun l => { R with yd := l }
  | 7 => (numsZ v).map fun l => { R with md := l }
  | 8 => (daysZ v).map fun l => { R with da := l }
  | 9 => (numsZ v).map fun l => { R with ho := l }
  | 10 => (numsZ v).map fun l => { R with mi := l }
  | 11 => (numsZ v).map fun l => { R with se := l }
  | 12 => (numsZ v).map fun l => { R with po := l }
  | _ => if plW wkW v = 0 then none else some { R with ws := plW wkW v }
inductive RPr where
  | er (e : Nat)
  | ok (R : RecD)
/-- Part: its error, or the rule. -/
def prtZ (untZ : List UInt8 → Option Int) (nm v : List UInt8) (R : RecD) : RPr :=
  if plW ptW nm = 0 then .er 7 else match partZ untZ (plW ptW nm - 1) v R with
    | some R' => .ok R'
    | none => .er 3
end Go.Proofs.YtgndogpgfgliaaaGreatDoor
/- Decimal digits, plainly. -/
namespace Go.Proofs.YtgndogpgfgliaaaGreatDoor

def dg1 (n : Nat) : UInt8 := UInt8.ofNat (48 + n % 10)
/-- The last k decimal digits of n. -/
def padN : Nat → Nat → List UInt8
  | 0, _ => []
  | k + 1, n => padN k (n / 10) ++ [dg1 n]
theorem padN_length (k n : Nat) : (padN k n).length = k := by
  induction k generalizing n with
  | zero => rfl
  | succ k ih => simp [padN, ih]
theorem dg1_toNat (n : Nat) : (dg1 n).toNat = 48 + n % 10 := by
  unfold dg1
  have : n % 10 < 10 := Nat.mod_lt _ (by decide)
  rw [UInt8.toNat_ofNat']; omega
/-- One digit more, in front. -/
theorem padN_cons (k n : Nat) : padN (k + 1) n = dg1 (n / 10 ^ k) :: padN k n := by
  induction k generalizing n with
  | zero => simp [padN]
  | succ k ih =>
    rw [padN, ih (n / 10)]
    show dg1 (n / 10 / 10 ^ k) :: (padN k (n / 10) ++ [dg1 n]) = _
    rw [Nat.div_div_eq_div_mul, Nat.pow_succ, Nat.mul_comm 10]
    rfl
theorem padN_decDigits (n : Nat) : padN (Lib.nDigits n) n = Lib.decDigits n := by
  induction n using Nat.strongRecOn with
  | _ n ih =>
    by_cases h : n < 10
    · rw [Lib.nDigits_small h, Lib.decDigits, dif_pos h]
      simp [padN, dg1, Nat.mod_eq_of_lt h]
    · rw [Lib.nDigits_big h, Lib.decDigits, dif_neg h, padN, ih (n / 10) (by omega)]
      rfl
/-- A decimal text with at least k digits. -/
def itx (n k : Nat) : List UInt8 := padN (max (Lib.nDigits n) k) n
theorem nDigits_le {n k : Nat} (hk : 1 ≤ k) (h : n < 10 ^ k) : Lib.nDigits n ≤ k := by
  induction k generalizing n with
  | zero => omega
  | succ k ih =>
    by_cases h10 : n < 10
    · rw [Lib.nDigits_small h10]; omega
    · rw [Lib.nDigits_big h10]
      rw [Nat.pow_succ] at h
      rcases Nat.eq_zero_or_pos k with rfl | hk0
      · simp at h; omega
      · have := ih (n := n / 10) hk0 (by omega)
        omega
theorem itx_small {n k : Nat} (hk : 1 ≤ k) (h : n < 10 ^ k) : itx n k = padN k n := by
  unfold itx
  rw [Nat.max_eq_right (nDigits_le hk h)]
theorem itx_one (n : Nat) : itx n 1 = Lib.decDigits n := by
  unfold itx
  rw [Nat.max_eq_left (Lib.nDigits_pos n), padN_decDigits]
theorem pow_nDigits (n : Nat) (j : Nat) (hj : j < Lib.nDigits n) (hn : 0 < n) : 0 < n / 10 ^ j := by
  have : 10 ^ j ≤ n := by
    induction j generalizing n with
    | zero => simp; omega
    | succ j ih =>
      by_cases h : n < 10
      · rw [Lib.nDigits_small h] at hj; omega
      · rw [Lib.nDigits_big h] at hj
        have := ih (n / 10) (by omega) (by omega)
        rw [Nat.pow_succ]; omega
  exact Nat.div_pos this (Nat.pow_pos (by decide))
theorem div_nDigits (n : Nat) : n / 10 ^ Lib.nDigits n = 0 := Nat.div_eq_of_lt (Lib.lt_pow_nDigits n)
theorem nDigits_20 (n : Nat) (h : n < 18446744073709551616) : Lib.nDigits n ≤ 20 := nDigits_le (by decide) (by omega)
theorem div_zero_of {n j : Nat} (hn : 0 < n) (h : n / 10 ^ j = 0) : Lib.nDigits n ≤ j := by
  rcases Nat.lt_or_ge j (Lib.nDigits n) with q | q
  · have := pow_nDigits n j q hn; omega
  · exact q

/-- The cells of the array of 24 bytes when the last j digits lie in it. -/
def txC (n j : Nat) : Array Value := (List.replicate (24 - j) (Value.int .u8 0) ++ (padN j n).map fun c => Value.int .u8 c.toNat).toArray
theorem txC_size (n j : Nat) (h : j ≤ 24) : (txC n j).size = 24 := by simp [txC, padN_length]; omega
theorem txC_zero (n : Nat) : txC n 0 = #[.int .u8 0, .int .u8 0, .int .u8 0, .int .u8 0, .int .u8 0, .int .u8 0, .int .u8 0, .int .u8 0, .int .u8 0, .int .u8 0, .int .u8 0, .int .u8 0, .int .u8 0, .int .u8 0, .int .u8 0, .int .u8 0, .int .u8 0, .int .u8 0, .int .u8 0, .int .u8 0, .int .u8 0, .int .u8 0, .int .u8 0, .int .u8 0] := rfl
theorem txC_step (n j : Nat) (h : j < 24) : (txC n j).setIfInBounds (23 - j) (.int .u8 ((48 + n / 10 ^ j % 10 : Nat) : Int)) = txC n (j + 1) := by
  unfold txC
  rw [padN_cons, List.setIfInBounds_toArray]
  congr 1
  rw [show 24 - j = (24 - (j + 1)) + 1 from by omega, List.replicate_succ', List.append_assoc, List.set_append_right _ _ (by simp <;> omega)]
  have e : 23 - j - (List.replicate (24 - (j + 1)) (Value.int .u8 0)).length = 0 := by simp <;> omega
  rw [e]
  simp [dg1_toNat]
theorem txC_step' (n j q : Nat) (h : j < 24) (hq : q = n / 10 ^ j) : (txC n j).setIfInBounds (24 - j - 1) (.int .u8 (48 + (q : Int) % 10)) = txC n (j + 1) := by
  rw [← txC_step n j h, hq, show 24 - j - 1 = 23 - j from by omega]
  congr 2
theorem div_pow_succ (n j q : Nat) (hq : q = n / 10 ^ j) : q / 10 = n / 10 ^ (j + 1) := by
  rw [hq, Nat.div_div_eq_div_mul, Nat.pow_succ]
theorem txC_get (n j i : Nat) (hj : j ≤ 24) (hi : i < 24) : ∃ x : Int, (txC n j)[i]? = some (.int .u8 x) := by
  have hs := txC_size n j hj
  rw [Array.getElem?_eq_getElem (by omega)]
  unfold txC
  simp only [List.getElem_toArray]
  rw [List.getElem_append]
  split
  · exact ⟨0, by simp⟩
  · exact ⟨_, by simp; rfl⟩
theorem txC_at (n j i : Nat) (_ : j ≤ 24) (c : UInt8) (h : (padN j n)[i]? = some c) : (txC n j)[24 - j + i]? = some (.int .u8 c.toNat) := by
  unfold txC
  simp only [List.getElem?_toArray]
  rw [List.getElem?_append_right (by simp)]
  simp [h]
end Go.Proofs.YtgndogpgfgliaaaGreatDoor
