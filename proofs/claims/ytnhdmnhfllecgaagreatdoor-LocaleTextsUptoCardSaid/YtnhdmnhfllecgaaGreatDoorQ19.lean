/- Patterns, plainly: the part of a run of a letter, as the reference looks for it. -/
import Derived.Test.YtnhdmnhfllecgaaGreatDoorQ00
import Derived.Test.YtnhdmnhfllecgaaGreatDoorQ06
import Derived.Test.YtnhdmnhfllecgaaGreatDoorQ05
import Derived.Test.YtnhdmnhfllecgaaGreatDoorQ14
namespace Go.Proofs.YtnhdmnhfllecgaaGreatDoor
set_option linter.unusedVariables false
set_option linter.unusedSimpArgs false

/-- The reference's letters. -/
def letR : List UInt8 := [63, 63, 121, 77, 77, 77, 100, 69, 69, 72, 104, 109, 115, 97, 90, 122]
def letK (k : Nat) : UInt8 := letR.getD k 0
def wantN (k : Nat) : Nat := if k = 4 ∨ k = 7 then 3 else if k = 5 ∨ k = 8 then 4 else 1
def rfG (c : UInt8) (n : Nat) : List Nat → Prt
  | [] => ⟨0, 0, []⟩
  | k :: r => if letK k ≠ c then rfG c n r else if fullN k ≠ 0 then (if n ≤ fullN k then ⟨(k : Int), (n : Int), []⟩ else rfG c n r) else if n = wantN k then ⟨(k : Int), 0, []⟩ else rfG c n r
/-- From kind k on. -/
def rfK (c : UInt8) (n k : Nat) : Prt := rfG c n (List.range' k (16 - k))
theorem rfK_end (c : UInt8) (n : Nat) : rfK c n 16 = ⟨0, 0, []⟩ := rfl
theorem rfK_step (c : UInt8) (n k : Nat) (h : k < 16) : rfK c n k = if letK k ≠ c then rfK c n (k + 1) else if fullN k ≠ 0 then (if n ≤ fullN k then ⟨(k : Int), (n : Int), []⟩ else rfK c n (k + 1)) else if n = wantN k then ⟨(k : Int), 0, []⟩ else rfK c n (k + 1) := by
  unfold rfK
  rw [show 16 - k = (16 - (k + 1)) + 1 by omega, List.range'_succ]
  rfl
theorem rfG_all (c : UInt8) (n : Nat) : rfG c n [2, 3, 4, 5, 6, 7, 8, 9, 10, 11, 12, 13, 14, 15] = fld c n := by
  have d : letK 2 = 121 ∧ letK 3 = 77 ∧ letK 4 = 77 ∧ letK 5 = 77 ∧ letK 6 = 100 ∧ letK 7 = 69 ∧ letK 8 = 69 ∧ letK 9 = 72 ∧ letK 10 = 104 ∧ letK 11 = 109 ∧ letK 12 = 115 ∧ letK 13 = 97 ∧ letK 14 = 90 ∧ letK 15 = 122 := by decide
  obtain ⟨d2, d3, d4, d5, d6, d7, d8, d9, d10, d11, d12, d13, d14, d15⟩ := d
  simp only [rfG, d2, d3, d4, d5, d6, d7, d8, d9, d10, d11, d12, d13, d14, d15]
  by_cases h1 : c = 121
  · subst h1; by_cases q : n ≤ 4 <;> simp [fld, numK, namK, fullN, wantN, q]
  by_cases h2 : c = 77
  · subst h2
    by_cases q : n ≤ 2
    · simp [fld, numK, namK, fullN, wantN, q]
    · by_cases q3 : n = 3
      · subst q3; simp [fld, numK, namK, fullN, wantN]
      · by_cases q4 : n = 4
        · subst q4; simp [fld, numK, namK, fullN, wantN]
        · simp [fld, numK, namK, fullN, wantN, q, q3, q4]
  by_cases h3 : c = 100
  · subst h3; by_cases q : n ≤ 2 <;> simp [fld, numK, namK, fullN, wantN, q]
  by_cases h4 : c = 69
  · subst h4
    by_cases q3 : n = 3
    · subst q3; simp [fld, numK, namK, fullN, wantN]
    · by_cases q4 : n = 4
      · subst q4; simp [fld, numK, namK, fullN, wantN]
      · simp [fld, numK, namK, fullN, wantN, q3, q4]
  by_cases h5 : c = 72
  · subst h5; by_cases q : n ≤ 2 <;> simp [fld, numK, namK, fullN, wantN, q]
  by_cases h6 : c = 104
  · subst h6; by_cases q : n ≤ 2 <;> simp [fld, numK, namK, fullN, wantN, q]
  by_cases h7 : c = 109
  · subst h7; by_cases q : n ≤ 2 <;> simp [fld, numK, namK, fullN, wantN, q]
  by_cases h8 : c = 115
  · subst h8; by_cases q : n ≤ 2 <;> simp [fld, numK, namK, fullN, wantN, q]
  by_cases h9 : c = 97
  · subst h9; by_cases q : n = 1 <;> simp [fld, numK, namK, fullN, wantN, q]
  by_cases h10 : c = 90
  · subst h10; by_cases q : n = 1 <;> simp [fld, numK, namK, fullN, wantN, q]
  by_cases h11 : c = 122
  · subst h11; by_cases q : n = 1 <;> simp [fld, numK, namK, fullN, wantN, q]
  have f : ∀ x : UInt8, c ≠ x → (x ≠ c) = True := fun x h => eq_true (Ne.symm h)
  simp [fld, numK, namK, h1, h2, h3, h4, h5, h6, h7, h8, h9, h10, h11, Ne.symm h1, Ne.symm h2, Ne.symm h3, Ne.symm h4, Ne.symm h5, Ne.symm h6, Ne.symm h7, Ne.symm h8, Ne.symm h9, Ne.symm h10, Ne.symm h11]
theorem rfK_fld (c : UInt8) (n : Nat) : rfK c n 2 = fld c n := rfG_all c n
end Go.Proofs.YtnhdmnhfllecgaaGreatDoor
/- The reference's small functions: letters, digits, full widths. -/
namespace Go.Proofs.YtnhdmnhfllecgaaGreatDoor
set_option linter.unusedVariables false
set_option linter.unusedSimpArgs false
open Go.RowKit

theorem rLt_c (c : UInt8) (b : Bool) (w : World) (h : isLt c = b) : Calls Tryz.prog 84 #[.int .u8 (c.toNat : Int)] w fun e w' => e = .returned (.bool b) ∧ w = w' := by
  subst h
  have hc : c.toNat < 256 := c.toNat_lt
  go_enter Tryz.func84, Tryz.ntmps84
  go_wp2
  all_goals
    go_ret
    refine ⟨?_, rfl⟩
    refine congrArg (fun b => Ending.returned (Value.bool b)) ?_
    unfold isLt
    rw [Bool.eq_iff_iff]
    simp
    omega
theorem rFul_c (k : Int) (F : Int) (w : World) (h : fullZ k = F) : Calls Tryz.prog 111 #[.int .i64 k] w fun e w' => e = .returned (.int .i64 F) ∧ w = w' := by
  subst h
  go_enter Tryz.func111, Tryz.ntmps111
  go_wp2
  all_goals
    go_ret
    refine ⟨?_, rfl⟩
    refine congrArg (fun b => Ending.returned (Value.int .i64 b)) ?_
    unfold fullZ
    simp_all
theorem rLet_c (k : Nat) (hk : k < 16) (w : World) : Calls Tryz.prog 110 #[.int .i64 (k : Int)] w fun e w' => e = .returned (.int .u8 ((letK k).toNat : Int)) ∧ w = w' := by
  have hl := bget letR k (by simpa [letR] using hk) (letK k) (by unfold letK; simp [List.getD]; rw [List.getElem?_eq_getElem (by simpa [letR] using hk)]; rfl)
  replace hl : (⟨#[63, 63, 121, 77, 77, 77, 100, 69, 69, 72, 104, 109, 115, 97, 90, 122]⟩ : ByteArray)[k]'(by show k < 16; exact hk) = letK k := hl
  have hz : (⟨#[63, 63, 121, 77, 77, 77, 100, 69, 69, 72, 104, 109, 115, 97, 90, 122]⟩ : ByteArray).size = 16 := rfl
  go_enter Tryz.func110, Tryz.ntmps110
  go_wp2
  go_ret
  exact ⟨rfl, rfl⟩
end Go.Proofs.YtnhdmnhfllecgaaGreatDoor
/- The reference's starts and digits. -/
namespace Go.Proofs.YtnhdmnhfllecgaaGreatDoor
set_option linter.unusedVariables false
set_option linter.unusedSimpArgs false
open Go.RowKit

theorem ext_ba (s : List UInt8) (n : Nat) : (⟨s.toArray⟩ : ByteArray).extract 0 n = ⟨(s.take n).toArray⟩ := by
  apply ByteArray.ext
  simp
theorem pre_take (s t : List UInt8) (h : t.length ≤ s.length) : (s.take t.length == t) = t.isPrefixOf s := by
  rw [Bool.eq_iff_iff, beq_iff_eq, List.isPrefixOf_iff_prefix, List.prefix_iff_eq_take]
  exact ⟨Eq.symm, Eq.symm⟩
theorem digN_at (s : List UInt8) : ∀ (m j : Nat), j ≤ digN s m → (j < digN s m → j < m ∧ ∃ h : j < s.length, isDg s[j] = true) ∧ (j = digN s m → j = m ∨ j = s.length ∨ ∃ h : j < s.length, isDg s[j] = false) := by
  induction s with
  | nil => intro m j hj; unfold digN at *; simp at *; omega
  | cons c r ih =>
    intro m j hj
    cases m with
    | zero => unfold digN at *; simp at *; omega
    | succ m =>
      by_cases hc : isDg c = true
      · have e : digN (c :: r) (m + 1) = digN r m + 1 := by unfold digN; simp [hc]
        rw [e] at hj ⊢
        cases j with
        | zero => exact ⟨fun _ => ⟨by omega, by simp, by simpa using hc⟩, fun q => by omega⟩
        | succ j =>
          obtain ⟨h1, h2⟩ := ih m j (by omega)
          refine ⟨fun q => ?_, fun q => ?_⟩
          · obtain ⟨a, b, c⟩ := h1 (by omega)
            exact ⟨by omega, by simp; omega, by simpa using c⟩
          · rcases h2 (by omega) with a | a | ⟨a, b⟩
            · exact .inl (by omega)
            · exact .inr (.inl (by simp; omega))
            · exact .inr (.inr ⟨by simp; omega, by simpa using b⟩)
      · have hc : isDg c = false := by simpa using hc
        have e : digN (c :: r) (m + 1) = 0 := by unfold digN; simp [hc]
        rw [e] at hj ⊢
        obtain rfl : j = 0 := by omega
        exact ⟨fun q => by omega, fun _ => .inr (.inr ⟨by simp, by simpa using hc⟩)⟩
end Go.Proofs.YtnhdmnhfllecgaaGreatDoor
/- The reference's names. -/
namespace Go.Proofs.YtnhdmnhfllecgaaGreatDoor
set_option linter.unusedVariables false
set_option linter.unusedSimpArgs false
open Go.RowKit

theorem nms_no (l : List (List UInt8)) (j : Nat) (hj : j < l.length) (h : nmAt 30 l j = false) : nmsB 30 l = false := by
  rw [nmsB_ref, List.all_eq_false]
  exact ⟨j, by simpa using hj, by simp [h]⟩
theorem nms_yes (l : List (List UInt8)) (h : ∀ i, i < l.length → nmAt 30 l i = true) : nmsB 30 l = true := by
  rw [nmsB_ref, List.all_eq_true]
  exact fun i hi => h i (by simpa using hi)
theorem nmAt_eq (l : List (List UInt8)) (j : Nat) (hj : j < l.length) : nmAt 30 l j = (nameB 30 l[j] && (List.range l.length).all fun k => decide (k = j) || !l[j].isPrefixOf (l.getD k [])) := by
  unfold nmAt
  simp [List.getD, hj]
theorem nmAt_bad (l : List (List UInt8)) (j : Nat) (hj : j < l.length) (h : nameB 30 l[j] = false) : nmAt 30 l j = false := by
  rw [nmAt_eq l j hj, h]; rfl
theorem nmAt_pre (l : List (List UInt8)) (j k : Nat) (hj : j < l.length) (hk : k < l.length) (hne : ¬ k = j) (h : l[j].isPrefixOf l[k] = true) : nmAt 30 l j = false := by
  rw [nmAt_eq l j hj, Bool.and_eq_false_iff]
  right
  rw [List.all_eq_false]
  exact ⟨k, by simpa using hk, by simp [List.getD, hk, hne, h]⟩
theorem nmAt_yes (l : List (List UInt8)) (j : Nat) (hj : j < l.length) (h : nameB 30 l[j] = true) (h2 : ∀ k (hk : k < l.length), k = j ∨ l[j].isPrefixOf l[k] = false) : nmAt 30 l j = true := by
  rw [nmAt_eq l j hj, h, Bool.true_and, List.all_eq_true]
  intro k hk
  have hk : k < l.length := by simpa using hk
  rcases h2 k hk with q | q
  · simp [q]
  · simp [List.getD, hk, q]
theorem nameB_eq (s : List UInt8) (h1 : 1 ≤ s.length) (h2 : s.length ≤ 30) : nameB 30 s = (isLt s[0] && s.all nmC) := by
  unfold nameB; rw [decide_eq_true h1, decide_eq_true h2]
  have : s.headD 0 = s[0] := by cases s with | nil => simp at h1 | cons c r => rfl
  rw [this]; rfl
theorem nmC_cases (c : UInt8) : (isLt c = true ∧ nmC c = true) ∨ (isLt c = false ∧ ((c.toNat = 32 ∧ nmC c = true) ∨ (c.toNat = 46 ∧ nmC c = true) ∨ (c.toNat = 45 ∧ nmC c = true) ∨ (¬ c.toNat = 32 ∧ ¬ c.toNat = 46 ∧ ¬ c.toNat = 45 ∧ nmC c = false))) := by
  have e : ∀ n : Nat, n < 256 → (c.toNat = n ↔ c = UInt8.ofNat n) := by
    intro n hn
    constructor
    · intro h; rw [← h]; simp
    · intro h; rw [h]; simp; omega
  have e1 := e 32 (by decide)
  have e2 := e 46 (by decide)
  have e3 := e 45 (by decide)
  have q1 : UInt8.ofNat 32 = 32 := rfl
  have q2 : UInt8.ofNat 46 = 46 := rfl
  have q3 : UInt8.ofNat 45 = 45 := rfl
  rw [q1] at e1; rw [q2] at e2; rw [q3] at e3
  unfold nmC
  rcases Bool.eq_false_or_eq_true (isLt c) with h | h
  · left; simp [h]
  · right
    refine ⟨h, ?_⟩
    by_cases a : c = 32
    · left; exact ⟨e1.2 a, by simp [a]⟩
    by_cases b : c = 46
    · right; left; exact ⟨e2.2 b, by simp [b]⟩
    by_cases d : c = 45
    · right; right; left; exact ⟨e3.2 d, by simp [d]⟩
    right; right; right
    exact ⟨fun q => a (e1.1 q), fun q => b (e2.1 q), fun q => d (e3.1 q), by simp [h, a, b, d]⟩
set_option maxRecDepth 100000 in
set_option maxHeartbeats 1000000 in
theorem rnames_c (l : List (List UInt8)) (B off : Nat) (b : Bool) (w : World) (h : RdS l B off w) (hn : l.length ≤ 1000) (hl : ∀ s ∈ l, s.length ≤ 2000000) (hb : nmsB 30 l = b) :
    Calls Tryz.prog 88 #[.slice (some ⟨B, off, none⟩) l.length l.length] w fun e w' => e = .returned (.bool b) ∧ w = w' := by
  have Hb := Lib.hid hb
  have Hl := Lib.hid hl
  have HR := Lib.hid h.2
  have hB := h.1
  clear hb hl h
  go_enter Tryz.func88, Tryz.ntmps88
  go_wp2_with fail
  go_loop [3] (fun i => ∃ j : Nat, j ≤ l.length ∧ i = .int .i64 (j : Int) ∧ Hid (∀ i, i < j → nmAt 30 l i = true)) (fun i => l.length - (intOf i).toNat)
  case atStart => exact ⟨0, Nat.zero_le _, rfl, fun i q => absurd q (Nat.not_lt_zero i)⟩
  case round =>
    obtain ⟨j, hj, rfl, Hall⟩ := hrel
    by_cases hlt : j < l.length
    · have c0 := HR.out j hlt
      have hls := Hl.out l[j] (List.getElem_mem _)
      have HNO : Hid (nameB 30 l[j] = false → b = false) := fun q => by rw [← Hb.out]; exact nms_no l j hlt (nmAt_bad l j hlt q)
      have HPR : Hid (∀ k (hk : k < l.length), ¬ k = j → l[j].isPrefixOf l[k] = true → b = false) := fun k hk hne q => by rw [← Hb.out]; exact nms_no l j hlt (nmAt_pre l j k hlt hk hne q)
      have HOK : Hid (nameB 30 l[j] = true → (∀ k (hk : k < l.length), k = j ∨ l[j].isPrefixOf l[k] = false) → ∀ i, i < j + 1 → nmAt 30 l i = true) := fun q1 q2 i hi => by
        by_cases hij : i < j
        · exact Hall.out i hij
        · obtain rfl : i = j := by omega
          exact nmAt_yes l i hlt q1 q2
      obtain ⟨s, hs⟩ : ∃ s, s = l[j] := ⟨_, rfl⟩
      rw [← hs] at c0 hls HNO HPR HOK
      clear hs
      by_cases h1 : 1 ≤ s.length
      · by_cases h2 : s.length ≤ 30
        · have b0 := bget s 0 (by omega) _ rfl
          have HT := Lib.hid (nameB_eq s h1 h2)
          obtain ⟨c, hc⟩ : ∃ c, c = s[0] := ⟨_, rfl⟩
          rw [← hc] at b0 HT
          clear hc
          have d1 : ¬ (s.length : Int) < 1 := by omega
          have d2 : ¬ (30 : Int) < (s.length : Int) := by omega
          rcases Bool.eq_false_or_eq_true (isLt c) with h0 | h0
          · have H0 := Lib.hid h0
            have HT2 : Hid (nameB 30 s = s.all nmC) := by rw [Hid, HT.out, h0]; rfl
            clear h0 HT
            go_wp2_with (first
              | (go_at_call 84; (with_reducible refine (rLt_c c true _ H0.out).mono ?_); rintro e w1 ⟨rfl, rfl⟩))
            go_loop [5] (fun i => ∃ q : Nat, q ≤ s.length ∧ i = .int .i64 (q : Int) ∧ Hid ((s.take q).all nmC = true)) (fun i => s.length - (intOf i).toNat)
            case atStart => exact ⟨0, Nat.zero_le _, rfl, rfl⟩
            case round =>
              obtain ⟨q, hq, rfl, Hq⟩ := hrel
              clear b0
              by_cases hql : q < s.length
              · have hb9 := bget s q hql s[q] rfl
                have Hs := Lib.hid (all_succP s nmC q hql)
                have hql' : (q : Int) < (s.length : Int) := by omega
                have HN2 : Hid (nmC s[q] = false → b = false) := fun hp => HNO.out (by
                  rw [HT2.out, List.all_eq_false]
                  exact ⟨s[q], List.getElem_mem _, by simp [hp]⟩)
                obtain ⟨x, hx⟩ : ∃ x, x = s[q] := ⟨_, rfl⟩
                rw [← hx] at hb9 Hs HN2
                clear hx
                rcases nmC_cases x with ⟨a1, a2⟩ | ⟨a1, ⟨a3, a2⟩ | ⟨a3, a2⟩ | ⟨a3, a2⟩ | ⟨a3, a4, a5, a2⟩⟩
                · have A1 := Lib.hid a1
                  have Hn : Hid ((s.take (q + 1)).all nmC = true) := by rw [Hid, Hs.out, Hq.out, a2]; rfl
                  clear a1 a2
                  go_wp2_with (first
                    | (go_at_call 84; (with_reducible refine (rLt_c x true _ A1.out).mono ?_); rintro e w1 ⟨rfl, rfl⟩))
                  go_round
                  case rel => exact ⟨q + 1, by omega, by go_num, Hn⟩
                  case measure => simp [intOf]; omega
                · have t1 : ((x.toNat : Int) != 32) = false := by rw [a3]; rfl
                  clear a3
                  have A1 := Lib.hid a1
                  have Hn : Hid ((s.take (q + 1)).all nmC = true) := by rw [Hid, Hs.out, Hq.out, a2]; rfl
                  clear a1 a2
                  go_wp2_with (first
                    | (go_at_call 84; (with_reducible refine (rLt_c x false _ A1.out).mono ?_); rintro e w1 ⟨rfl, rfl⟩))
                  go_round
                  case rel => exact ⟨q + 1, by omega, by go_num, Hn⟩
                  case measure => simp [intOf]; omega
                · have t1 : ((x.toNat : Int) != 32) = true := by rw [a3]; rfl
                  have t2 : ((x.toNat : Int) != 46) = false := by rw [a3]; rfl
                  clear a3
                  have A1 := Lib.hid a1
                  have Hn : Hid ((s.take (q + 1)).all nmC = true) := by rw [Hid, Hs.out, Hq.out, a2]; rfl
                  clear a1 a2
                  go_wp2_with (first
                    | (go_at_call 84; (with_reducible refine (rLt_c x false _ A1.out).mono ?_); rintro e w1 ⟨rfl, rfl⟩))
                  go_round
                  case rel => exact ⟨q + 1, by omega, by go_num, Hn⟩
                  case measure => simp [intOf]; omega
                · have t1 : ((x.toNat : Int) != 32) = true := by rw [a3]; rfl
                  have t2 : ((x.toNat : Int) != 46) = true := by rw [a3]; rfl
                  have t3 : ((x.toNat : Int) != 45) = false := by rw [a3]; rfl
                  clear a3
                  have A1 := Lib.hid a1
                  have Hn : Hid ((s.take (q + 1)).all nmC = true) := by rw [Hid, Hs.out, Hq.out, a2]; rfl
                  clear a1 a2
                  go_wp2_with (first
                    | (go_at_call 84; (with_reducible refine (rLt_c x false _ A1.out).mono ?_); rintro e w1 ⟨rfl, rfl⟩))
                  go_round
                  case rel => exact ⟨q + 1, by omega, by go_num, Hn⟩
                  case measure => simp [intOf]; omega
                · have t1 : ((x.toNat : Int) != 32) = true := by rw [bne_iff_ne]; omega
                  have t2 : ((x.toNat : Int) != 46) = true := by rw [bne_iff_ne]; omega
                  have t3 : ((x.toNat : Int) != 45) = true := by rw [bne_iff_ne]; omega
                  have A1 := Lib.hid a1
                  have HN := Lib.hid (HN2.out a2)
                  clear a1 a2 a3 a4 a5
                  go_wp2_with (first
                    | (go_at_call 84; (with_reducible refine (rLt_c x false _ A1.out).mono ?_); rintro e w1 ⟨rfl, rfl⟩))
                  go_ret
                  exact ⟨by rw [HN.out]; rfl, rfl⟩
              · obtain rfl : q = s.length := by omega
                have HG : Hid (nameB 30 s = true) := by rw [Hid, HT2.out]; have := Hq.out; rwa [List.take_length] at this
                clear hql hq
                go_wp2_with fail
                go_loop [6] (fun i => ∃ k : Nat, k ≤ l.length ∧ i = .int .i64 (k : Int) ∧ Hid (∀ q (hq : q < l.length), q < k → q = j ∨ s.isPrefixOf l[q] = false)) (fun i => l.length - (intOf i).toNat)
                case atStart => exact ⟨0, Nat.zero_le _, rfl, fun q hq hk => absurd hk (Nat.not_lt_zero q)⟩
                case round =>
                  obtain ⟨k, hk, rfl, Hk⟩ := hrel
                  by_cases hkl : k < l.length
                  · have k0 := HR.out k hkl
                    have hkt := Hl.out l[k] (List.getElem_mem _)
                    have HNX : Hid (k = j ∨ s.isPrefixOf l[k] = false → ∀ q (hq : q < l.length), q < k + 1 → q = j ∨ s.isPrefixOf l[q] = false) := fun h q hq hqk => by
                      by_cases hqq : q < k
                      · exact Hk.out q hq hqq
                      · obtain rfl : q = k := by omega
                        exact h
                    have HP2 := Lib.hid (HPR.out k hkl)
                    obtain ⟨t, ht⟩ : ∃ t, t = l[k] := ⟨_, rfl⟩
                    rw [← ht] at k0 hkt HNX HP2
                    clear ht
                    have hkl' : (k : Int) < (l.length : Int) := by omega
                    by_cases hkj : k = j
                    · have HY := Lib.hid (HNX.out (.inl hkj))
                      have e1 : ((k : Int) != (j : Int)) = false := by rw [hkj]; simp
                      clear hkj
                      go_wp2_with fail
                      go_round
                      case rel => exact ⟨k + 1, by omega, by go_num, HY.out⟩
                      case measure => simp [intOf]; omega
                    · have e1 : ((k : Int) != (j : Int)) = true := by rw [bne_iff_ne]; omega
                      by_cases hle : s.length ≤ t.length
                      · have e2 : (s.length : Int) ≤ (t.length : Int) := by omega
                        have ee : (((⟨t.toArray⟩ : ByteArray).extract 0 s.length).toList == s) = s.isPrefixOf t := by
                          rw [← pre_take t s hle, ext_ba]
                          have : (⟨(List.take s.length t).toArray⟩ : ByteArray).toList = List.take s.length t := by simp
                          rw [this]
                        rcases Bool.eq_false_or_eq_true (s.isPrefixOf t) with hp | hp
                        · have HN := Lib.hid (HP2.out hkj hp)
                          rw [hp] at ee
                          clear hkj hp hle
                          go_wp2_with fail
                          go_ret
                          exact ⟨by rw [HN.out]; rfl, rfl⟩
                        · have HY := Lib.hid (HNX.out (.inr hp))
                          rw [hp] at ee
                          clear hkj hp
                          go_wp2_with fail
                          go_round
                          case rel => exact ⟨k + 1, by omega, by go_num, HY.out⟩
                          case measure => simp [intOf]; omega
                      · have e2 : ¬ (s.length : Int) ≤ (t.length : Int) := by omega
                        have HY := Lib.hid (HNX.out (.inr (by
                          cases e : s.isPrefixOf t with
                          | false => rfl
                          | true => exact absurd ((List.isPrefixOf_iff_prefix.1 e).length_le) hle)))
                        clear hkj hle
                        go_wp2_with fail
                        go_round
                        case rel => exact ⟨k + 1, by omega, by go_num, HY.out⟩
                        case measure => simp [intOf]; omega
                  · obtain rfl : k = l.length := by omega
                    have HY := Lib.hid (HOK.out HG.out (fun k hk => Hk.out k hk hk))
                    go_wp2_with fail
                    go_round
                    case rel => exact ⟨j + 1, by omega, by go_num, HY.out⟩
                    case measure => simp [intOf]; omega
          · have H0 := Lib.hid h0
            have HN := Lib.hid (HNO.out (by rw [HT.out, h0]; rfl))
            clear h0 HT
            go_wp2_with (first
              | (go_at_call 84; (with_reducible refine (rLt_c c false _ H0.out).mono ?_); rintro e w1 ⟨rfl, rfl⟩))
            go_ret
            exact ⟨by rw [HN.out]; rfl, rfl⟩
        · have HN := Lib.hid (HNO.out (by unfold nameB; rw [decide_eq_false h2]; simp))
          have d1 : ¬ (s.length : Int) < 1 := by omega
          have d2 : (30 : Int) < (s.length : Int) := by omega
          clear h1 h2
          go_wp2_with fail
          go_ret
          exact ⟨by rw [HN.out]; rfl, rfl⟩
      · have HN := Lib.hid (HNO.out (by unfold nameB; rw [decide_eq_false h1]; simp))
        have d1 : (s.length : Int) < 1 := by omega
        clear h1
        go_wp2_with fail
        go_ret
        exact ⟨by rw [HN.out]; rfl, rfl⟩
    · obtain rfl : j = l.length := by omega
      have HV : Hid (b = true) := by rw [Hid, ← Hb.out]; exact nms_yes l Hall.out
      go_wp2_with fail
      go_ret
      exact ⟨by rw [HV.out]; rfl, rfl⟩
end Go.Proofs.YtnhdmnhfllecgaaGreatDoor
