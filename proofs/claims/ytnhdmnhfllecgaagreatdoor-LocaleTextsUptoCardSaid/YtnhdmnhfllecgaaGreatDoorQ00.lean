/- Small lemmas on worlds and results that every walk of this seat uses; nothing of the program is in sight here. -/
import Derived.Test.YtnhdmnhfllecgaaGreatDoorRows
import Derived.WalkKit
import Derived.WalkSpells
import Derived.WalkLawsBesides
import Derived.BigQuiet
import Derived.Deep.QuietTactic
import Derived.Deep.RegionHeld3
import Derived.Lib.Hide
import Derived.Lib.Split
import Derived.Lib.SplitLaws
import Derived.Lib.AtoiAll
import Derived.Lib.SlTrimSet
namespace Go.Proofs.YtnhdmnhfllecgaaGreatDoor
open Go.RowKit

/-- The world w' has all the blocks of w as they were. -/
def Ext (w w' : World) : Prop := Below w.heap.size w w'
theorem Ext.refl (w : World) : Ext w w := Below.refl _ _
theorem Ext.size {w w' : World} (h : Ext w w') : w.heap.size ≤ w'.heap.size := Below.size h
theorem Ext.trans {a b c : World} (h : Ext a b) (k : Ext b c) : Ext a c := Below.trans h (Below.mono k h.size)
theorem Ext.drewN {a w : World} (h : Ext a w) (n : Nat) : Ext a (w.drewN n) := ⟨h.os, h.tape, h.output, h.size, h.block⟩
theorem Ext.drew {a w : World} (h : Ext a w) : Ext a w.drew := ⟨h.os, h.tape, h.output, h.size, h.block⟩
theorem Ext.alloc {a w : World} (h : Ext a w) (o : Obj) : Ext a (w.alloc o) := Below.alloc h h.size o
theorem Ext.setCell {a w : World} (h : Ext a w) {p : Addr} (hp : a.heap.size ≤ p.block) (u : Value) : Ext a (w.setCell p u) := Below.setCell h hp u
theorem Ext.cells {w w' : World} (h : Ext w w') : ∀ b o, b < w.heap.size → w'.cell? ⟨b, o, none⟩ = w.cell? ⟨b, o, none⟩ := fun b o hb => Below.cell h (p := ⟨b, o, none⟩) hb
theorem Ext.frozens {w w' : World} (h : Ext w w') : ∀ b o, b < w.heap.size → w'.frozen? ⟨b, o, none⟩ = w.frozen? ⟨b, o, none⟩ := fun b o hb => Below.frozen h (p := ⟨b, o, none⟩) hb
theorem Ext.lt {w w' : World} (h : Ext w w') {n : Nat} (hn : n < w.heap.size) : n < w'.heap.size := Nat.lt_of_lt_of_le hn h.size
theorem Ext.of_drewN {w w' : World} (h : ∃ n, w.drewN n = w') : Ext w w' := by
  obtain ⟨n, rfl⟩ := h
  exact (Ext.refl w).drewN n
theorem Ext.drewN_left {w w' : World} {n : Nat} (h : Ext (w.drewN n) w') : Ext w w' := ⟨h.os, h.tape, h.output, h.size, h.block⟩

theorem ret_i {k : IntKind} {a a' : Int} (h : a = a') : Ending.returned (.int k a) = .returned (.int k a') := by rw [h]
theorem ret_b {a a' : Bool} (h : a = a') : Ending.returned (.bool a) = .returned (.bool a') := by rw [h]
theorem ret_s {a a' : ByteArray} (h : a = a') : Ending.returned (.string a) = .returned (.string a') := by rw [h]
theorem ret_i2 {k1 k2 : IntKind} {a b a' b' : Int} (h1 : a = a') (h2 : b = b') : Ending.returned (.tuple #[.int k1 a, .int k2 b]) = .returned (.tuple #[.int k1 a', .int k2 b']) := by rw [h1, h2]
theorem ret_i3 {k1 k2 k3 : IntKind} {a b c a' b' c' : Int} (h1 : a = a') (h2 : b = b') (h3 : c = c') : Ending.returned (.tuple #[.int k1 a, .int k2 b, .int k3 c]) = .returned (.tuple #[.int k1 a', .int k2 b', .int k3 c']) := by rw [h1, h2, h3]

theorem quiet_of {P : Program} {f : FuncId} {args : Array Value} {w : World} {a n : Nat} {v : Value}
    (h : Calls P f args (w.drewN (a + n)) fun e w' => e = .returned v ∧ ∃ m, (w.drewN (a + n)).drewN m = w') :
    Calls P f args (w.drewN (a + n)) fun e w'' => e = .returned v ∧ ∃ m, w'' = w.drewN (a + m) :=
  h.mono fun _ _ ⟨he, m, hm⟩ => ⟨he, n + m, by rw [← hm, World.drewN_drewN, Nat.add_assoc]⟩
theorem quiet_of0 {P : Program} {f : FuncId} {args : Array Value} {w : World} {n : Nat} {v : Value}
    (h : Calls P f args (w.drewN n) fun e w' => e = .returned v ∧ ∃ m, (w.drewN n).drewN m = w') :
    Calls P f args (w.drewN n) fun e w'' => e = .returned v ∧ ∃ m, w'' = w.drewN m :=
  h.mono fun _ _ ⟨he, m, hm⟩ => ⟨he, n + m, by rw [← hm, World.drewN_drewN]⟩

theorem neg_div (n b : Int) (hb : 0 < b) : (-n) / b = if n % b = 0 then -(n / b) else -(n / b) - 1 := by
  have h1 := Int.mul_ediv_add_emod n b
  have h2 := Int.emod_nonneg n (show b ≠ 0 by omega)
  have h3 := Int.emod_lt_of_pos n hb
  have e1 : -(n / b) * b = - (b * (n / b)) := by rw [Int.neg_mul, Int.mul_comm]
  split
  · rename_i h
    rw [Int.ediv_eq_iff_of_pos hb]
    rw [e1]; omega
  · rename_i h
    rw [Int.ediv_eq_iff_of_pos hb, Int.sub_mul, e1]; omega

theorem neg_mod (n b : Int) (hb : 0 < b) : (-n) % b = if n % b = 0 then 0 else b - n % b := by
  have h1 := Int.mul_ediv_add_emod n b
  have h2 := Int.mul_ediv_add_emod (-n) b
  rw [neg_div n b hb] at h2
  split
  · rename_i h
    rw [if_pos h, Int.mul_neg] at h2
    omega
  · rename_i h
    rw [if_neg h, Int.mul_sub, Int.mul_neg] at h2
    omega

theorem div_half (a b : Int) (ha : 0 ≤ a) (hb : 2 ≤ b) : 2 * (a / b) ≤ a := by
  have h1 := Int.mul_ediv_add_emod a b
  have h2 := Int.emod_nonneg a (show b ≠ 0 by omega)
  have h3 := Int.ediv_nonneg (a := a) (b := b) ha (by omega)
  have h4 : 2 * (a / b) ≤ b * (a / b) := Int.mul_le_mul_of_nonneg_right hb h3
  omega
end Go.Proofs.YtnhdmnhfllecgaaGreatDoor
/- Small lemmas on strings of bytes; nothing of the program is in sight here. -/
namespace Go.Proofs.YtnhdmnhfllecgaaGreatDoor
set_option linter.unusedVariables false
set_option linter.unusedSimpArgs false
open Go.RowKit

def isDg (c : UInt8) : Bool := decide (48 ≤ c.toNat ∧ c.toNat ≤ 57)
def val (l : List UInt8) : Nat := l.foldl (fun a c => 10 * a + (c.toNat - 48)) 0
theorem isDg_iff {c : UInt8} : isDg c = true ↔ 48 ≤ c.toNat ∧ c.toNat ≤ 57 := by unfold isDg; simp
theorem val_snoc (l : List UInt8) (c : UInt8) : val (l ++ [c]) = 10 * val l + (c.toNat - 48) := by unfold val; simp
theorem val_take_succ (l : List UInt8) (k : Nat) (h : k < l.length) : val (l.take (k + 1)) = 10 * val (l.take k) + (l[k].toNat - 48) := by
  rw [List.take_succ_eq_append_getElem h, val_snoc]
theorem snoc_ind {P : List UInt8 → Prop} (h0 : P []) (h1 : ∀ l c, P l → P (l ++ [c])) (l : List UInt8) : P l := by
  have H : ∀ r : List UInt8, P r.reverse := by
    intro r
    induction r with
    | nil => exact h0
    | cons c r ih => rw [List.reverse_cons]; exact h1 _ c ih
  have := H l.reverse
  rwa [List.reverse_reverse] at this
theorem val_nil : val [] = 0 := rfl
theorem val_lt (l : List UInt8) (h : ∀ c ∈ l, isDg c = true) : val l < 10 ^ l.length := by
  revert h
  refine snoc_ind (P := fun l => (∀ c ∈ l, isDg c = true) → val l < 10 ^ l.length) ?_ ?_ l
  · intro _; simp [val_nil]
  · intro l c ih h
    have := isDg_iff.1 (h c (by simp))
    have := ih (fun x hx => h x (by simp [hx]))
    rw [List.length_append, List.length_singleton, val_snoc, Nat.pow_succ]; omega
theorem bget (l : List UInt8) (k : Nat) (h : k < l.length) (c : UInt8) (hc : c = l[k]) : (⟨l.toArray⟩ : ByteArray)[k]'(by simpa [ByteArray.size] using h) = c := by
  rw [hc]
  rfl
theorem bdrop (l : List UInt8) (k : Nat) : (⟨l.toArray⟩ : ByteArray).extract k l.length = ⟨(l.drop k).toArray⟩ := by
  apply ByteArray.ext
  simp only [ByteArray.data_extract, List.extract_toArray]
  rw [List.extract_eq_take_drop, List.take_of_length_le (by simp)]
theorem bmid (l : List UInt8) (a b : Nat) : (⟨l.toArray⟩ : ByteArray).extract a b = ⟨((l.drop a).take (b - a)).toArray⟩ := by
  apply ByteArray.ext
  simp only [ByteArray.data_extract, List.extract_toArray]
  try rw [List.extract_eq_take_drop]
theorem snoc_str (l : List UInt8) (c : UInt8) : (⟨l.toArray⟩ : ByteArray) ++ ⟨#[c]⟩ = ⟨(l ++ [c]).toArray⟩ := by
  apply ByteArray.ext
  simp
theorem app_str (a b : List UInt8) : (⟨a.toArray⟩ : ByteArray) ++ ⟨b.toArray⟩ = ⟨(a ++ b).toArray⟩ := by
  apply ByteArray.ext
  simp
theorem u8_beq {c : UInt8} {k : Nat} (hk : k < 256) : (((c.toNat : Nat) : Int) == (k : Int)) = decide (c = UInt8.ofNat k) := by
  rw [Bool.eq_iff_iff, beq_iff_eq, decide_eq_true_eq, ← UInt8.toNat_inj, UInt8.toNat_ofNat']
  omega
theorem ba_mk (s : ByteArray) : s = ⟨(s.data.toList).toArray⟩ := by
  apply ByteArray.ext; simp

/-- strconv.Atoi at a few digits. -/
theorem pu_val (l : List UInt8) : ∀ (acc : Nat), acc < 1000000 → l.length ≤ 9 → (∀ c ∈ l, isDg c = true) → Lib.parseUint10 acc l = .ok (l.foldl (fun a c => 10 * a + (c.toNat - 48)) acc) := by
  suffices H : ∀ (n : Nat) (l : List UInt8) (acc : Nat), l.length ≤ n → n ≤ 9 → acc < 10 ^ (16 - n) → (∀ c ∈ l, isDg c = true) → Lib.parseUint10 acc l = .ok (l.foldl (fun a c => 10 * a + (c.toNat - 48)) acc) by
    intro acc ha hl hd
    exact H 9 l acc hl (by omega) (by have : (10 : Nat) ^ (16 - 9) = 10000000 := rfl; omega) hd
  intro n
  induction n with
  | zero =>
    intro l acc hl _ _ _
    obtain rfl : l = [] := List.length_eq_zero_iff.1 (by omega)
    rfl
  | succ n ih =>
    intro l acc hl hn ha hd
    match l with
    | [] => rfl
    | c :: r =>
      have hc := isDg_iff.1 (hd c (by simp))
      have h16 : (10 : Nat) ^ (16 - (n + 1)) ≤ 10 ^ 15 := Nat.pow_le_pow_right (by omega) (by omega)
      have h15 : (10 : Nat) ^ 15 = 1000000000000000 := rfl
      have e : (10 : Nat) ^ (16 - n) = 10 ^ (16 - (n + 1)) * 10 := by rw [← Nat.pow_succ]; congr 1; omega
      rw [Lib.parseUint10, if_pos hc, if_neg (by omega), if_neg (by omega), ih r _ (by simpa using hl) (by omega) (by omega) (fun x hx => hd x (by simp [hx])), List.foldl_cons, Nat.mul_comm]
theorem atoi_val (l : List UInt8) (h1 : 1 ≤ l.length) (h2 : l.length ≤ 9) (hd : ∀ c ∈ l, isDg c = true) : Lib.atoiAll l = .ok (val l : Int) := by
  match l with
  | c :: r =>
    have hc := isDg_iff.1 (hd c (by simp))
    have hv := val_lt (c :: r) hd
    have h10 : (10 : Nat) ^ (c :: r).length ≤ 10 ^ 9 := Nat.pow_le_pow_right (by omega) h2
    have h9 : (10 : Nat) ^ 9 = 1000000000 := rfl
    unfold Lib.atoiAll
    simp only
    rw [if_neg (by omega)]
    unfold Lib.parseMag
    rw [if_neg (by simp), pu_val (c :: r) 0 (by omega) h2 hd]
    show (if ¬ c.toNat = 45 ∧ 9223372036854775808 ≤ val (c :: r) then _ else _) = _
    rw [if_neg (by omega), if_neg (by omega), if_neg (by omega)]
    rfl
/-- A text cut at each place of a byte. -/
def spl (c : UInt8) : List UInt8 → List (List UInt8)
  | [] => [[]]
  | d :: r => if d = c then [] :: spl c r else match spl c r with
    | [] => [[d]]
    | h :: t => (d :: h) :: t
theorem spl_ne (c : UInt8) (l : List UInt8) : spl c l ≠ [] := by
  cases l with
  | nil => simp [spl]
  | cons d r => unfold spl; split; simp; split <;> simp
theorem spl_hit (c : UInt8) (r : List UInt8) : spl c (c :: r) = [] :: spl c r := by rw [spl, if_pos rfl]
theorem spl_cons (c d : UInt8) (r : List UInt8) (h : d ≠ c) : ∃ x t, spl c r = x :: t ∧ spl c (d :: r) = (d :: x) :: t := by
  cases e : spl c r with
  | nil => exact absurd e (spl_ne c r)
  | cons x t => exact ⟨x, t, rfl, by rw [spl, if_neg h, e]⟩
theorem index1_cons (c d : UInt8) (r : List UInt8) : Lib.index (d :: r) [c] = if d = c then 0 else if Lib.index r [c] = -1 then -1 else Lib.index r [c] + 1 := by
  have e : [c].isPrefixOf (d :: r) = decide (d = c) := by
    simp only [List.isPrefixOf, Bool.and_true]
    rw [Bool.eq_iff_iff, beq_iff_eq, decide_eq_true_eq]
    exact eq_comm
  rw [Lib.index, e]
  by_cases h : d = c
  · simp [h]
  · simp [h]
theorem spl_miss (c : UInt8) : ∀ s : List UInt8, Lib.index s [c] = -1 → spl c s = [s] := by
  intro s
  induction s with
  | nil => intro _; rfl
  | cons d r ih =>
    intro h
    rw [index1_cons] at h
    by_cases hd : d = c
    · rw [if_pos hd] at h; omega
    · rw [if_neg hd] at h
      by_cases hi : Lib.index r [c] = -1
      · rw [spl, if_neg hd, ih hi]
      · rw [if_neg hi] at h
        have := Lib.index_ge r [c]
        omega
theorem spl_at (c : UInt8) : ∀ (s : List UInt8) (i : Nat), Lib.index s [c] = i → spl c s = s.take i :: spl c (s.drop (i + 1)) := by
  intro s
  induction s with
  | nil => intro i h; simp [Lib.index] at h
  | cons d r ih =>
    intro i h
    rw [index1_cons] at h
    by_cases hd : d = c
    · rw [if_pos hd] at h
      obtain rfl : i = 0 := by omega
      rw [hd, spl_hit]; rfl
    · rw [if_neg hd] at h
      by_cases hi : Lib.index r [c] = -1
      · rw [if_pos hi] at h; omega
      · rw [if_neg hi] at h
        have := Lib.index_ge r [c]
        obtain ⟨j, hj⟩ : ∃ j : Nat, Lib.index r [c] = j := ⟨(Lib.index r [c]).toNat, by omega⟩
        obtain rfl : i = j + 1 := by omega
        rw [spl, if_neg hd, ih j hj]
        rfl
theorem splitK_spl (c : UInt8) : ∀ (fuel : Nat) (s : List UInt8) (k : Nat), s.length < fuel → Lib.countFrom [c] fuel s ≤ k → Lib.splitK [c] 0 k s = spl c s := by
  intro fuel
  induction fuel with
  | zero => intro s k h; omega
  | succ fuel ih =>
    intro s k hl hk
    rw [Lib.countFrom] at hk
    by_cases hi : Lib.index s [c] = -1
    · rw [spl_miss c s hi]
      cases k with
      | zero => rfl
      | succ k => rw [Lib.splitK, if_pos (by rw [hi]; rfl)]
    · rw [if_neg (by simpa using hi)] at hk
      have hge := Lib.index_ge s [c]
      obtain ⟨i, hi2⟩ : ∃ i : Nat, Lib.index s [c] = i := ⟨(Lib.index s [c]).toNat, by omega⟩
      have hroom := Lib.index_room s [c] (by omega)
      rw [hi2] at hk hroom
      simp only [List.length_singleton] at hk hroom
      have e : ((i : Int)).toNat = i := by omega
      rw [e] at hk
      cases k with
      | zero => omega
      | succ k =>
        rw [Lib.splitK, if_neg (by simpa using hi), hi2, e, spl_at c s i hi2, List.length_singleton, Nat.add_zero]
        rw [ih (s.drop (i + 1)) k (by rw [List.length_drop]; omega) (by omega)]
/-- What strings.Split gives at a separator of one byte. -/
theorem split_spl (c : UInt8) (s : ByteArray) : (Lib.splitB ⟨#[c]⟩ 0 (Lib.countB s ⟨#[c]⟩) s).map (·.data.toList) = spl c s.data.toList := by
  rw [Lib.splitB_data]
  exact splitK_spl c (s.data.toList.length + 1) s.data.toList _ (by omega) (Nat.le_refl _)
theorem split_vals (c : UInt8) (s : ByteArray) : (Lib.splitB ⟨#[c]⟩ 0 (Lib.countB s ⟨#[c]⟩) s).map Value.string = (spl c s.data.toList).map fun l => Value.string ⟨l.toArray⟩ := by
  rw [← split_spl, List.map_map]
  refine List.map_congr_left ?_
  intro b _
  show Value.string b = Value.string ⟨b.data.toList.toArray⟩
  rw [← ba_mk b]
theorem split_count (c : UInt8) (s : ByteArray) : Lib.countB s ⟨#[c]⟩ + 1 = (spl c s.data.toList).length := by
  have h := congrArg List.length (split_spl c s)
  rw [List.length_map] at h
  rw [← h]
  exact (Lib.splitB_all ⟨#[c]⟩ (Nat.le_refl 1) 0 _ s rfl).symm
end Go.Proofs.YtnhdmnhfllecgaaGreatDoor
/- Rules for numbers, plainly: as the program reads them, and what they say. No program in sight. -/
namespace Go.Proofs.YtnhdmnhfllecgaaGreatDoor
set_option linter.unusedVariables false
set_option linter.unusedSimpArgs false

def wN : List UInt8 := [110]
def wMod : List UInt8 := [109, 111, 100]
def wIs : List UInt8 := [105, 115]
def wNot : List UInt8 := [110, 111, 116]
def wOr : List UInt8 := [111, 114]
def wAnd : List UInt8 := [97, 110, 100]
/-- A NUMBER. -/
def numB (s : List UInt8) : Bool := decide (1 ≤ s.length) && decide (s.length ≤ 9) && !(s.head? == some 48 && decide (1 < s.length)) && s.all isDg
def numN (s : List UInt8) : Nat := if numB s then val s else 0
/-- The next word and what follows. -/
def hd1 (ws : List (List UInt8)) : List UInt8 := ws.headD []
def tl1 (ws : List (List UInt8)) : List (List UInt8) := ws.tail
/-- An item: its two numbers. -/
def itLo (s : List UInt8) : Nat := numN (Lib.cut s [46, 46]).1
def itHi (s : List UInt8) : Nat := if (Lib.cut s [46, 46]).2.2 then numN (Lib.cut s [46, 46]).2.1 else itLo s
def itB (s : List UInt8) : Bool := numB (Lib.cut s [46, 46]).1 && (!(Lib.cut s [46, 46]).2.2 || numB (Lib.cut s [46, 46]).2.1)
def inIt (n : Nat) (s : List UInt8) : Bool := decide (itLo s ≤ n ∧ n ≤ itHi s)
/-- A list of items. -/
def inList (n : Nat) (w : List UInt8) : Bool := (spl 44 w).any (inIt n)
def listB (w : List UInt8) : Bool := (spl 44 w).all itB
/-- What is tested: the number, what is left, whether it is well formed. -/
def whN (n : Nat) (ws : List (List UInt8)) : Nat :=
  if (tl1 ws).head? = some wMod then (if numN (hd1 (tl1 (tl1 ws))) = 0 then 0 else n % numN (hd1 (tl1 (tl1 ws)))) else n
def whR (ws : List (List UInt8)) : List (List UInt8) := if (tl1 ws).head? = some wMod then tl1 (tl1 (tl1 ws)) else tl1 ws
def whB (ws : List (List UInt8)) : Bool := decide (hd1 ws = wN) && (decide ((tl1 ws).head? ≠ some wMod) || (numB (hd1 (tl1 (tl1 ws))) && decide (numN (hd1 (tl1 (tl1 ws))) ≠ 0)))
/-- A test. -/
def teH (n : Nat) (ws : List (List UInt8)) : Bool := inList (whN n ws) (hd1 (tl1 (whR ws))) == decide (hd1 (whR ws) = wIs)
def teR (ws : List (List UInt8)) : List (List UInt8) := tl1 (tl1 (whR ws))
def teB (ws : List (List UInt8)) : Bool := whB ws && decide (hd1 (whR ws) = wIs ∨ hd1 (whR ws) = wNot) && listB (hd1 (tl1 (whR ws)))
theorem teR_len (ws : List (List UInt8)) : (teR ws).length ≤ ws.length := by
  unfold teR whR tl1
  split <;> simp <;> omega
/-- The tests of a group behind the first one. -/
def grL (n : Nat) (h : Bool) (ws : List (List UInt8)) (b : Bool) : Bool × List (List UInt8) × Bool :=
  match _e : ws with
  | [] => (h, [], b)
  | w :: r => if w = wAnd then grL n (teH n r && h) (teR r) (b && teB r) else (h, w :: r, b)
termination_by ws.length
decreasing_by
  have := teR_len r
  simp; omega
def grp (n : Nat) (ws : List (List UInt8)) (b : Bool) : Bool × List (List UInt8) × Bool := grL n (teH n ws) (teR ws) (b && teB ws)
theorem grL_len (n : Nat) (h : Bool) (ws : List (List UInt8)) (b : Bool) : (grL n h ws b).2.1.length ≤ ws.length := by
  induction hn : ws.length using Nat.strongRecOn generalizing h ws b with
  | ind k ih =>
    unfold grL
    split
    · simp
    · rename_i w r
      split
      · have := teR_len r
        have := ih (teR r).length (by simp at hn; omega) (teH n r && h) (teR r) (b && teB r) rfl
        simp at hn; omega
      · simp at hn ⊢; omega
theorem grp_len (n : Nat) (ws : List (List UInt8)) (b : Bool) : (grp n ws b).2.1.length ≤ ws.length := by
  unfold grp
  have := grL_len n (teH n ws) (teR ws) (b && teB ws)
  have := teR_len ws
  omega
/-- The groups behind the first one. -/
def ruL (n : Nat) (h : Bool) (ws : List (List UInt8)) (b : Bool) : Bool × List (List UInt8) × Bool :=
  match _e : ws with
  | [] => (h, [], b)
  | w :: r => if w = wOr then ruL n ((grp n r b).1 || h) (grp n r b).2.1 (grp n r b).2.2 else (h, w :: r, b)
termination_by ws.length
decreasing_by
  have := grp_len n r b
  simp; omega
/-- A rule: whether it holds, whether it is one. -/
def rul (n : Nat) (ws : List (List UInt8)) : Bool × Bool :=
  let g := grp n ws true
  let q := ruL n g.1 g.2.1 g.2.2
  (q.1, q.2.2 && q.2.1.isEmpty)
end Go.Proofs.YtnhdmnhfllecgaaGreatDoor
/- Rules for numbers, plainly: the reference's way of reading them is the program's. -/
namespace Go.Proofs.YtnhdmnhfllecgaaGreatDoor
set_option linter.unusedVariables false
set_option linter.unusedSimpArgs false

theorem grL_nil (n : Nat) (h b : Bool) : grL n h [] b = (h, [], b) := by rw [grL.eq_def]
theorem grL_and (n : Nat) (h b : Bool) (r : List (List UInt8)) : grL n h (wAnd :: r) b = grL n (teH n r && h) (teR r) (b && teB r) := by rw [grL.eq_def]; simp
theorem grL_no (n : Nat) (h b : Bool) (w : List UInt8) (r : List (List UInt8)) (hw : w ≠ wAnd) : grL n h (w :: r) b = (h, w :: r, b) := by rw [grL.eq_def]; simp [hw]
theorem ruL_nil (n : Nat) (h b : Bool) : ruL n h [] b = (h, [], b) := by rw [ruL.eq_def]
theorem ruL_or (n : Nat) (h b : Bool) (r : List (List UInt8)) : ruL n h (wOr :: r) b = ruL n ((grp n r b).1 || h) (grp n r b).2.1 (grp n r b).2.2 := by rw [ruL.eq_def]; simp
theorem ruL_no (n : Nat) (h b : Bool) (w : List UInt8) (r : List (List UInt8)) (hw : w ≠ wOr) : ruL n h (w :: r) b = (h, w :: r, b) := by rw [ruL.eq_def]; simp [hw]
theorem or_and : wOr ≠ wAnd := by decide
/-- What is not a rule stays none. -/
theorem grL_false (n : Nat) (k : Nat) : ∀ (h : Bool) (ws : List (List UInt8)), ws.length ≤ k → (grL n h ws false).2.2 = false := by
  induction k with
  | zero =>
    intro h ws hk
    obtain rfl : ws = [] := List.length_eq_zero_iff.1 (by omega)
    rw [grL_nil]
  | succ k ih =>
    intro h ws hk
    cases ws with
    | nil => rw [grL_nil]
    | cons w r =>
      by_cases hw : w = wAnd
      · rw [hw, grL_and, Bool.false_and]
        have := teR_len r
        exact ih _ _ (by simp at hk; omega)
      · rw [grL_no _ _ _ _ _ hw]
theorem grp_false (n : Nat) (ws : List (List UInt8)) : (grp n ws false).2.2 = false := by
  unfold grp
  rw [Bool.false_and]
  exact grL_false n _ _ _ (Nat.le_refl _)
theorem ruL_false (n : Nat) (k : Nat) : ∀ (h : Bool) (ws : List (List UInt8)), ws.length ≤ k → (ruL n h ws false).2.2 = false := by
  induction k with
  | zero =>
    intro h ws hk
    obtain rfl : ws = [] := List.length_eq_zero_iff.1 (by omega)
    rw [ruL_nil]
  | succ k ih =>
    intro h ws hk
    cases ws with
    | nil => rw [ruL_nil]
    | cons w r =>
      by_cases hw : w = wOr
      · rw [hw, ruL_or, grp_false]
        have := grp_len n r false
        exact ih _ _ (by simp at hk; omega)
      · rw [ruL_no _ _ _ _ _ hw]
/-- As the reference reads a rule. -/
def rfL (n : Nat) (any all : Bool) (ws : List (List UInt8)) : Bool × Bool :=
  if teB ws = false then (false, false) else
  match _e : teR ws with
  | [] => (true, any || (all && teH n ws))
  | w :: r => if w = wOr then rfL n (any || (all && teH n ws)) true r else if w = wAnd then rfL n any (all && teH n ws) r else (false, false)
termination_by ws.length
decreasing_by
  all_goals
    have h1 := congrArg List.length _e
    have h2 := teR_len ws
    simp at h1; omega
def fin2 (q : Bool × List (List UInt8) × Bool) : Bool × Bool := if q.2.2 && q.2.1.isEmpty then (true, q.1) else (false, false)
theorem fin2_false (h : Bool) (ws : List (List UInt8)) (n : Nat) : fin2 (ruL n h ws false) = (false, false) := by
  unfold fin2
  rw [ruL_false n _ _ _ (Nat.le_refl _)]
  rfl
theorem rfL_eq (n : Nat) (k : Nat) : ∀ (any all : Bool) (ws : List (List UInt8)), ws.length ≤ k →
    rfL n any all ws = fin2 (ruL n ((grL n (teH n ws && all) (teR ws) (teB ws)).1 || any) (grL n (teH n ws && all) (teR ws) (teB ws)).2.1 (grL n (teH n ws && all) (teR ws) (teB ws)).2.2) := by
  induction k with
  | zero =>
    intro any all ws hk
    obtain rfl : ws = [] := List.length_eq_zero_iff.1 (by omega)
    have e : teB [] = false := by decide
    rw [rfL.eq_def, if_pos e, e, grL_false n _ _ _ (Nat.le_refl _), fin2_false]
  | succ k ih =>
    intro any all ws hk
    rw [rfL.eq_def]
    cases hb : teB ws with
    | false =>
      rw [if_pos rfl, grL_false n _ _ _ (Nat.le_refl _), fin2_false]
    | true =>
      rw [if_neg (by simp)]
      have hl := teR_len ws
      split
      · rename_i e
        rw [e, grL_nil, ruL_nil]
        simp [fin2, Bool.and_comm, Bool.or_comm]
      · rename_i w r e
        rw [e] at hl
        simp only [List.length_cons] at hl
        rw [e]
        by_cases h1 : w = wOr
        · rw [if_pos h1, h1, grL_no _ _ _ _ _ or_and, ruL_or, ih _ _ r (by omega)]
          unfold grp
          simp only [Bool.and_true, Bool.true_and]
          rw [Bool.and_comm (teH n ws) all, Bool.or_comm (all && teH n ws) any]
        · rw [if_neg h1]
          by_cases h2 : w = wAnd
          · rw [if_pos h2, h2, grL_and, ih _ _ r (by omega), Bool.true_and, Bool.and_comm all (teH n ws)]
          · rw [if_neg h2, grL_no _ _ _ _ _ h2, ruL_no _ _ _ _ _ h1]
            simp [fin2]
/-- The reference's rule is the program's. -/
theorem rfL_rul (n : Nat) (ws : List (List UInt8)) : rfL n false true ws = if (rul n ws).2 then (true, (rul n ws).1) else (false, false) := by
  rw [rfL_eq n _ _ _ ws (Nat.le_refl _)]
  unfold rul grp fin2
  simp only [Bool.and_true, Bool.or_false, Bool.true_and]
/-- Whether it is a rule does not depend on the number. -/
theorem grL_ind (n m : Nat) (k : Nat) : ∀ (h h' b : Bool) (ws : List (List UInt8)), ws.length ≤ k → (grL n h ws b).2 = (grL m h' ws b).2 := by
  induction k with
  | zero =>
    intro h h' b ws hk
    obtain rfl : ws = [] := List.length_eq_zero_iff.1 (by omega)
    rw [grL_nil, grL_nil]
  | succ k ih =>
    intro h h' b ws hk
    cases ws with
    | nil => rw [grL_nil, grL_nil]
    | cons w r =>
      by_cases hw : w = wAnd
      · rw [hw, grL_and, grL_and]
        have := teR_len r
        exact ih _ _ _ _ (by simp at hk; omega)
      · rw [grL_no _ _ _ _ _ hw, grL_no _ _ _ _ _ hw]
theorem grp_ind (n m : Nat) (b : Bool) (ws : List (List UInt8)) : (grp n ws b).2 = (grp m ws b).2 := grL_ind n m _ _ _ _ _ (Nat.le_refl _)
theorem ruL_ind (n m : Nat) (k : Nat) : ∀ (h h' b : Bool) (ws : List (List UInt8)), ws.length ≤ k → (ruL n h ws b).2 = (ruL m h' ws b).2 := by
  induction k with
  | zero =>
    intro h h' b ws hk
    obtain rfl : ws = [] := List.length_eq_zero_iff.1 (by omega)
    rw [ruL_nil, ruL_nil]
  | succ k ih =>
    intro h h' b ws hk
    cases ws with
    | nil => rw [ruL_nil, ruL_nil]
    | cons w r =>
      by_cases hw : w = wOr
      · rw [hw, ruL_or, ruL_or, grp_ind n m]
        have := grp_len m r b
        exact ih _ _ _ _ (by simp at hk; omega)
      · rw [ruL_no _ _ _ _ _ hw, ruL_no _ _ _ _ _ hw]
theorem rul_ind (n m : Nat) (ws : List (List UInt8)) : (rul n ws).2 = (rul m ws).2 := by
  unfold rul
  simp only
  rw [grp_ind n m, ruL_ind n m _ _ (grp m ws true).1 _ _ (Nat.le_refl _)]
end Go.Proofs.YtnhdmnhfllecgaaGreatDoor
/- Patterns, plainly: the parts of a pattern. No program in sight. -/
namespace Go.Proofs.YtnhdmnhfllecgaaGreatDoor
set_option linter.unusedVariables false
set_option linter.unusedSimpArgs false

/-- A part: its kind, its width, its text. -/
structure Prt where
  k : Int
  w : Int
  t : List UInt8
deriving DecidableEq
def isLt (c : UInt8) : Bool := decide (97 ≤ c.toNat ∧ c.toNat ≤ 122) || decide (65 ≤ c.toNat ∧ c.toNat ≤ 90)
def prn (c : UInt8) : Bool := decide (32 ≤ c.toNat ∧ c.toNat ≤ 126)
/-- The full width of a kind. -/
def fullN (k : Nat) : Nat := if k = 2 then 4 else if k = 3 ∨ k = 6 ∨ k = 9 ∨ k = 10 ∨ k = 11 ∨ k = 12 then 2 else 0
/-- The kind of a letter that stands for a number. -/
def numK (c : UInt8) : Nat := if c = 121 then 2 else if c = 77 then 3 else if c = 100 then 6 else if c = 72 then 9 else if c = 104 then 10 else if c = 109 then 11 else if c = 115 then 12 else 0
/-- The kind of a run of a letter that stands for a name. -/
def namK (c : UInt8) (n : Nat) : Nat :=
  if c = 77 ∧ n = 3 then 4 else if c = 77 ∧ n = 4 then 5 else if c = 69 ∧ n = 3 then 7 else if c = 69 ∧ n = 4 then 8 else if c = 97 ∧ n = 1 then 13 else if c = 90 ∧ n = 1 then 14 else if c = 122 ∧ n = 1 then 15 else 0
/-- The part of a run of a letter; kind 0: none. -/
def fld (c : UInt8) (n : Nat) : Prt := if numK c ≠ 0 ∧ n ≤ fullN (numK c) then ⟨(numK c : Int), (n : Int), []⟩ else ⟨(namK c n : Int), 0, []⟩
def lastLit (l : List Prt) : Bool := match l.getLast? with | some p => decide (p.k = 1) | none => false
/-- A byte more of a literal. -/
def addLit (l : List Prt) (b : UInt8) : List Prt := match l.getLast? with
  | some p => if p.k = 1 then l.dropLast ++ [⟨1, p.w, p.t ++ [b]⟩] else l ++ [⟨1, 0, [b]⟩]
  | none => l ++ [⟨1, 0, [b]⟩]
def runN (c : UInt8) (r : List UInt8) : Nat := (r.takeWhile (fun x => x == c)).length
theorem runN_le (c : UInt8) (r : List UInt8) : runN c r ≤ r.length := (List.takeWhile_sublist _).length_le
def longB (l : List Prt) : Bool := l.any fun p => decide (100 < p.t.length)
/-- What is read of the rest r, which begins at place i: the parts, the column of an error, the error. -/
def cmpL (r : List UInt8) (i : Nat) (q : Bool) (out : List Prt) : List Prt × Nat × Nat :=
  match r with
  | [] => if q then ([], 0, 4) else if decide (40 < out.length) || longB out then ([], 0, 5) else (out, 0, 0)
  | c :: r =>
    if prn c = false then ([], i + 1, 3)
    else if c = 39 ∧ r.head? = some 39 then cmpL r.tail (i + 2) q (addLit out 39)
    else if c = 39 then cmpL r (i + 1) (!q) out
    else if q = true ∨ isLt c = false then cmpL r (i + 1) q (addLit out c)
    else if (fld c (1 + runN c r)).k = 0 then ([], i + 1, 3)
    else cmpL (r.drop (runN c r)) (i + (1 + runN c r)) q (out ++ [fld c (1 + runN c r)])
termination_by r.length
decreasing_by
  all_goals simp <;> omega
/-- A pattern's parts, the column of an error, the error. -/
def cmpT (s : List UInt8) : List Prt × Nat × Nat := if 200 < s.length then ([], 0, 5) else cmpL s 0 false []
end Go.Proofs.YtnhdmnhfllecgaaGreatDoor
/- Patterns, plainly: facts on adding to a literal; the cells of parts. -/
namespace Go.Proofs.YtnhdmnhfllecgaaGreatDoor
set_option linter.unusedVariables false
set_option linter.unusedSimpArgs false

theorem snoc_cases {α : Type} (l : List α) : l = [] ∨ ∃ r x, l = r ++ [x] := by
  rcases List.eq_nil_or_concat l with h | ⟨r, x, h⟩
  · exact .inl h
  · exact .inr ⟨r, x, by simpa using h⟩
theorem addLit_nil (b : UInt8) : addLit [] b = [⟨1, 0, [b]⟩] := rfl
theorem addLit_snoc (r : List Prt) (p : Prt) (b : UInt8) : addLit (r ++ [p]) b = if p.k = 1 then r ++ [⟨1, p.w, p.t ++ [b]⟩] else r ++ [p] ++ [⟨1, 0, [b]⟩] := by
  unfold addLit
  rw [List.getLast?_concat]
  simp only [List.dropLast_concat]
theorem longB_snoc (r : List Prt) (p : Prt) : longB (r ++ [p]) = (longB r || decide (100 < p.t.length)) := by
  unfold longB; simp
/-- A literal that is too long stays so. -/
theorem long_addLit (l : List Prt) (b : UInt8) (r : List Prt) (p : Prt) (h : addLit l b = r ++ [p]) : longB (addLit l b) = (longB l || decide (100 < p.t.length)) := by
  rw [h, longB_snoc]
  rcases snoc_cases l with rfl | ⟨r', x, rfl⟩
  · rw [addLit_nil] at h
    have e := List.append_inj' (s₁ := []) h rfl
    rw [← e.1]
  · rw [addLit_snoc] at h
    by_cases hk : x.k = 1
    · rw [if_pos hk] at h
      obtain ⟨e1, e2⟩ := List.append_inj' h rfl
      injection e2 with e2
      rw [← e1, ← e2, longB_snoc]
      simp only [List.length_append, List.length_cons, List.length_nil]
      cases longB r'
      · simp; omega
      · simp
    · rw [if_neg hk] at h
      obtain ⟨e1, e2⟩ := List.append_inj' h rfl
      rw [← e1]
theorem addLit_last (l : List Prt) (b : UInt8) : ∃ r p, addLit l b = r ++ [p] ∧ p.k = 1 := by
  rcases snoc_cases l with rfl | ⟨r', x, rfl⟩
  · exact ⟨[], _, rfl, rfl⟩
  · rw [addLit_snoc]
    by_cases hk : x.k = 1
    · rw [if_pos hk]; exact ⟨_, _, rfl, rfl⟩
    · rw [if_neg hk]; exact ⟨_, _, rfl, rfl⟩
theorem addLit_len (l : List Prt) (b : UInt8) : (addLit l b).length ≤ l.length + 1 := by
  rcases snoc_cases l with rfl | ⟨r', x, rfl⟩
  · simp [addLit_nil]
  · rw [addLit_snoc]
    split <;> simp
end Go.Proofs.YtnhdmnhfllecgaaGreatDoor
