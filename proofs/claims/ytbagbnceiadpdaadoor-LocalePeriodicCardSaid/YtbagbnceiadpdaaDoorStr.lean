/- Small lemmas on strings of bytes; nothing of the program is in sight here. -/
import Derived.Test.YtbagbnceiadpdaaDoorBase
import Derived.Lib.Split
import Derived.Lib.SplitLaws
import Derived.Lib.AtoiAll
namespace Go.Proofs.YtbagbnceiadpdaaDoor
set_option linter.unusedVariables false
set_option linter.unusedSimpArgs false
open Go.RowKit

def isDg (c : UInt8) : Bool := decide (48 ≤ c.toNat ∧ c.toNat ≤ 57)
def val (l : List UInt8) : Nat := l.foldl (fun a c => 10 * a + (c.toNat - 48)) 0
theorem isDg_iff {c : UInt8} : isDg c = true ↔ 48 ≤ c.toNat ∧ c.toNat ≤ 57 := by unfold isDg; simp
theorem val_snoc (l : List UInt8) (c : UInt8) : val (l ++ [c]) = 10 * val l + (c.toNat - 48) := by unfold val; simp
theorem val_take_succ (l : List UInt8) (k : Nat) (h : k < l.length) : val (l.take (k + 1)) = 10 * val (l.take k) + (l[k].toNat - 48) := by
  rw [List.take_succ_eq_append_getElem h, val_snoc]
theorem snoc_ind {P : List UInt8 → Prop} (h0 : P []) (h1 : ∀ l c, P l → P (l ++ [c])) (l : List UInt8) : P l := by
  have H : ∀ r : List UInt8, P r.reverse := by
    intro r
    induction r with
    | nil => exact h0
    | cons c r ih => rw [List.reverse_cons]; exact h1 _ c ih
  have := H l.reverse
  rwa [List.reverse_reverse] at this
theorem val_nil : val [] = 0 := rfl
theorem val_lt (l : List UInt8) (h : ∀ c ∈ l, isDg c = true) : val l < 10 ^ l.length := by
  revert h
  refine snoc_ind (P := fun l => (∀ c ∈ l, isDg c = true) → val l < 10 ^ l.length) ?_ ?_ l
  · intro _; simp [val_nil]
  · intro l c ih h
    have := isDg_iff.1 (h c (by simp))
    have := ih (fun x hx => h x (by simp [hx]))
    rw [List.length_append, List.length_singleton, val_snoc, Nat.pow_succ]; omega
theorem bget (l : List UInt8) (k : Nat) (h : k < l.length) (c : UInt8) (hc : c = l[k]) : (⟨l.toArray⟩ : ByteArray)[k]'(by simpa [ByteArray.size] using h) = c := by
  rw [hc]
  rfl
theorem bdrop (l : List UInt8) (k : Nat) : (⟨l.toArray⟩ : ByteArray).extract k l.length = ⟨(l.drop k).toArray⟩ := by
  apply ByteArray.ext
  simp only [ByteArray.data_extract, List.extract_toArray]
  rw [List.extract_eq_take_drop, List.take_of_length_le (by simp)]
theorem bmid (l : List UInt8) (a b : Nat) : (⟨l.toArray⟩ : ByteArray).extract a b = ⟨((l.drop a).take (b - a)).toArray⟩ := by
  apply ByteArray.ext
  simp only [ByteArray.data_extract, List.extract_toArray]
  try rw [List.extract_eq_take_drop]
theorem snoc_str (l : List UInt8) (c : UInt8) : (⟨l.toArray⟩ : ByteArray) ++ ⟨#[c]⟩ = ⟨(l ++ [c]).toArray⟩ := by
  apply ByteArray.ext
  simp
theorem app_str (a b : List UInt8) : (⟨a.toArray⟩ : ByteArray) ++ ⟨b.toArray⟩ = ⟨(a ++ b).toArray⟩ := by
  apply ByteArray.ext
  simp
theorem u8_beq {c : UInt8} {k : Nat} (hk : k < 256) : (((c.toNat : Nat) : Int) == (k : Int)) = decide (c = UInt8.ofNat k) := by
  rw [Bool.eq_iff_iff, beq_iff_eq, decide_eq_true_eq, ← UInt8.toNat_inj, UInt8.toNat_ofNat']
  omega
theorem ba_mk (s : ByteArray) : s = ⟨(s.data.toList).toArray⟩ := by
  apply ByteArray.ext; simp

/-- strconv.Atoi at a few digits. -/
theorem pu_val (l : List UInt8) : ∀ (acc : Nat), acc < 1000000 → l.length ≤ 9 → (∀ c ∈ l, isDg c = true) → Lib.parseUint10 acc l = .ok (l.foldl (fun a c => 10 * a + (c.toNat - 48)) acc) := by
  suffices H : ∀ (n : Nat) (l : List UInt8) (acc : Nat), l.length ≤ n → n ≤ 9 → acc < 10 ^ (16 - n) → (∀ c ∈ l, isDg c = true) → Lib.parseUint10 acc l = .ok (l.foldl (fun a c => 10 * a + (c.toNat - 48)) acc) by
    intro acc ha hl hd
    exact H 9 l acc hl (by omega) (by have : (10 : Nat) ^ (16 - 9) = 10000000 := rfl; omega) hd
  intro n
  induction n with
  | zero =>
    intro l acc hl _ _ _
    obtain rfl : l = [] := List.length_eq_zero_iff.1 (by omega)
    rfl
  | succ n ih =>
    intro l acc hl hn ha hd
    match l with
    | [] => rfl
    | c :: r =>
      have hc := isDg_iff.1 (hd c (by simp))
      have h16 : (10 : Nat) ^ (16 - (n + 1)) ≤ 10 ^ 15 := Nat.pow_le_pow_right (by omega) (by omega)
      have h15 : (10 : Nat) ^ 15 = 1000000000000000 := rfl
      have e : (10 : Nat) ^ (16 - n) = 10 ^ (16 - (n + 1)) * 10 := by rw [← Nat.pow_succ]; congr 1; omega
      rw [Lib.parseUint10, if_pos hc, if_neg (by omega), if_neg (by omega), ih r _ (by simpa using hl) (by omega) (by omega) (fun x hx => hd x (by simp [hx])), List.foldl_cons, Nat.mul_comm]
theorem atoi_val (l : List UInt8) (h1 : 1 ≤ l.length) (h2 : l.length ≤ 9) (hd : ∀ c ∈ l, isDg c = true) : Lib.atoiAll l = .ok (val l : Int) := by
  match l with
  | c :: r =>
    have hc := isDg_iff.1 (hd c (by simp))
    have hv := val_lt (c :: r) hd
    have h10 : (10 : Nat) ^ (c :: r).length ≤ 10 ^ 9 := Nat.pow_le_pow_right (by omega) h2
    have h9 : (10 : Nat) ^ 9 = 1000000000 := rfl
    unfold Lib.atoiAll
    simp only
    rw [if_neg (by omega)]
    unfold Lib.parseMag
    rw [if_neg (by simp), pu_val (c :: r) 0 (by omega) h2 hd]
    show (if ¬ c.toNat = 45 ∧ 9223372036854775808 ≤ val (c :: r) then _ else _) = _
    rw [if_neg (by omega), if_neg (by omega), if_neg (by omega)]
    rfl
/-- A text cut at each place of a byte. -/
def spl (c : UInt8) : List UInt8 → List (List UInt8)
  | [] => [[]]
  | d :: r => if d = c then [] :: spl c r else match spl c r with
    | [] => [[d]]
    | h :: t => (d :: h) :: t
theorem spl_ne (c : UInt8) (l : List UInt8) : spl c l ≠ [] := by
  cases l with
  | nil => simp [spl]
  | cons d r => unfold spl; split; simp; split <;> simp
theorem spl_hit (c : UInt8) (r : List UInt8) : spl c (c :: r) = [] :: spl c r := by rw [spl, if_pos rfl]
theorem spl_cons (c d : UInt8) (r : List UInt8) (h : d ≠ c) : ∃ x t, spl c r = x :: t ∧ spl c (d :: r) = (d :: x) :: t := by
  cases e : spl c r with
  | nil => exact absurd e (spl_ne c r)
  | cons x t => exact ⟨x, t, rfl, by rw [spl, if_neg h, e]⟩
theorem index1_cons (c d : UInt8) (r : List UInt8) : Lib.index (d :: r) [c] = if d = c then 0 else if Lib.index r [c] = -1 then -1 else Lib.index r [c] + 1 := by
  have e : [c].isPrefixOf (d :: r) = decide (d = c) := by
    simp only [List.isPrefixOf, Bool.and_true]
    rw [Bool.eq_iff_iff, beq_iff_eq, decide_eq_true_eq]
    exact eq_comm
  rw [Lib.index, e]
  by_cases h : d = c
  · simp [h]
  · simp [h]
theorem spl_miss (c : UInt8) : ∀ s : List UInt8, Lib.index s [c] = -1 → spl c s = [s] := by
  intro s
  induction s with
  | nil => intro _; rfl
  | cons d r ih =>
    intro h
    rw [index1_cons] at h
    by_cases hd : d = c
    · rw [if_pos hd] at h; omega
    · rw [if_neg hd] at h
      by_cases hi : Lib.index r [c] = -1
      · rw [spl, if_neg hd, ih hi]
      · rw [if_neg hi] at h
        have := Lib.index_ge r [c]
        omega
theorem spl_at (c : UInt8) : ∀ (s : List UInt8) (i : Nat), Lib.index s [c] = i → spl c s = s.take i :: spl c (s.drop (i + 1)) := by
  intro s
  induction s with
  | nil => intro i h; simp [Lib.index] at h
  | cons d r ih =>
    intro i h
    rw [index1_cons] at h
    by_cases hd : d = c
    · rw [if_pos hd] at h
      obtain rfl : i = 0 := by omega
      rw [hd, spl_hit]; rfl
    · rw [if_neg hd] at h
      by_cases hi : Lib.index r [c] = -1
      · rw [if_pos hi] at h; omega
      · rw [if_neg hi] at h
        have := Lib.index_ge r [c]
        obtain ⟨j, hj⟩ : ∃ j : Nat, Lib.index r [c] = j := ⟨(Lib.index r [c]).toNat, by omega⟩
        obtain rfl : i = j + 1 := by omega
        rw [spl, if_neg hd, ih j hj]
        rfl
theorem splitK_spl (c : UInt8) : ∀ (fuel : Nat) (s : List UInt8) (k : Nat), s.length < fuel → Lib.countFrom [c] fuel s ≤ k → Lib.splitK [c] 0 k s = spl c s := by
  intro fuel
  induction fuel with
  | zero => intro s k h; omega
  | succ fuel ih =>
    intro s k hl hk
    rw [Lib.countFrom] at hk
    by_cases hi : Lib.index s [c] = -1
    · rw [spl_miss c s hi]
      cases k with
      | zero => rfl
      | succ k => rw [Lib.splitK, if_pos (by rw [hi]; rfl)]
    · rw [if_neg (by simpa using hi)] at hk
      have hge := Lib.index_ge s [c]
      obtain ⟨i, hi2⟩ : ∃ i : Nat, Lib.index s [c] = i := ⟨(Lib.index s [c]).toNat, by omega⟩
      have hroom := Lib.index_room s [c] (by omega)
      rw [hi2] at hk hroom
      simp only [List.length_singleton] at hk hroom
      have e : ((i : Int)).toNat = i := by omega
      rw [e] at hk
      cases k with
      | zero => omega
      | succ k =>
        rw [Lib.splitK, if_neg (by simpa using hi), hi2, e, spl_at c s i hi2, List.length_singleton, Nat.add_zero]
        rw [ih (s.drop (i + 1)) k (by rw [List.length_drop]; omega) (by omega)]
/-- What strings.Split gives at a separator of one byte. -/
theorem split_spl (c : UInt8) (s : ByteArray) : (Lib.splitB ⟨#[c]⟩ 0 (Lib.countB s ⟨#[c]⟩) s).map (·.data.toList) = spl c s.data.toList := by
  rw [Lib.splitB_data]
  exact splitK_spl c (s.data.toList.length + 1) s.data.toList _ (by omega) (Nat.le_refl _)
theorem split_vals (c : UInt8) (s : ByteArray) : (Lib.splitB ⟨#[c]⟩ 0 (Lib.countB s ⟨#[c]⟩) s).map Value.string = (spl c s.data.toList).map fun l => Value.string ⟨l.toArray⟩ := by
  rw [← split_spl, List.map_map]
  refine List.map_congr_left ?_
  intro b _
  show Value.string b = Value.string ⟨b.data.toList.toArray⟩
  rw [← ba_mk b]
theorem split_count (c : UInt8) (s : ByteArray) : Lib.countB s ⟨#[c]⟩ + 1 = (spl c s.data.toList).length := by
  have h := congrArg List.length (split_spl c s)
  rw [List.length_map] at h
  rw [← h]
  exact (Lib.splitB_all ⟨#[c]⟩ (Nat.le_refl 1) 0 _ s rfl).symm
end Go.Proofs.YtbagbnceiadpdaaDoor
