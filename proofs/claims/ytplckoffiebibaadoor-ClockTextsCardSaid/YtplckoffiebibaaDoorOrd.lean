/- The texts of moments are ordered as the moments; plainly. -/
import Derived.Test.YtplckoffiebibaaDoorTxt4
namespace Go.Proofs.YtplckoffiebibaaDoor
set_option linter.unusedVariables false
set_option linter.unusedSimpArgs false

theorem bl_irrefl : ∀ a : List UInt8, Op.bytesLess a a = false
  | [] => rfl
  | c :: r => by simp [Op.bytesLess, bl_irrefl r]
theorem bl_app : ∀ (a c b d : List UInt8), a.length = c.length → Op.bytesLess (a ++ b) (c ++ d) = (Op.bytesLess a c || (a == c && Op.bytesLess b d))
  | [], [], b, d, _ => by simp [Op.bytesLess]
  | [], _ :: _, _, _, h => by simp at h
  | _ :: _, [], _, _, h => by simp at h
  | x :: a, y :: c, b, d, h => by
    have ih := bl_app a c b d (by simpa using h)
    simp only [List.cons_append, Op.bytesLess, ih, List.cons_beq_cons]
    cases x == y <;> simp [Bool.or_assoc]
theorem bl_cons (c : UInt8) (s t : List UInt8) : Op.bytesLess (c :: s) (c :: t) = Op.bytesLess s t := by simp [Op.bytesLess]
theorem dg1_lt {n m : Nat} : (dg1 n < dg1 m) ↔ n % 10 < m % 10 := by
  rw [UInt8.lt_iff_toNat_lt, dg1_toNat, dg1_toNat]; omega
theorem dg1_eq {n m : Nat} : (dg1 n = dg1 m) ↔ n % 10 = m % 10 := by
  rw [← UInt8.toNat_inj, dg1_toNat, dg1_toNat]; omega
theorem padN_inj (k : Nat) : ∀ n m : Nat, n < 10 ^ k → m < 10 ^ k → (padN k n = padN k m ↔ n = m) := by
  induction k with
  | zero => intro n m h1 h2; simp at h1 h2; simp [padN]; omega
  | succ k ih =>
    intro n m h1 h2
    rw [Nat.pow_succ] at h1 h2
    constructor
    · intro h
      unfold padN at h
      obtain ⟨h3, h4⟩ := List.append_inj h (by simp [padN_length])
      have := (ih (n / 10) (m / 10) (by omega) (by omega)).1 h3
      have := dg1_eq.1 (by simpa using h4)
      omega
    · rintro rfl; rfl
theorem padN_less (k : Nat) : ∀ n m : Nat, n < 10 ^ k → m < 10 ^ k → (Op.bytesLess (padN k n) (padN k m) = true ↔ n < m) := by
  induction k with
  | zero => intro n m h1 h2; simp at h1 h2; simp [padN, Op.bytesLess]; omega
  | succ k ih =>
    intro n m h1 h2
    rw [Nat.pow_succ] at h1 h2
    have i1 := ih (n / 10) (m / 10) (by omega) (by omega)
    have i2 := padN_inj k (n / 10) (m / 10) (by omega) (by omega)
    unfold padN
    rw [bl_app _ _ _ _ (by simp [padN_length])]
    simp only [Bool.or_eq_true, Bool.and_eq_true, i1, beq_iff_eq, i2]
    have : Op.bytesLess [dg1 n] [dg1 m] = true ↔ n % 10 < m % 10 := by
      simp [Op.bytesLess, dg1_lt]
    rw [this]; omega
/-- One number and what follows. -/
theorem bl_pad (k n m : Nat) (s t : List UInt8) (h1 : n < 10 ^ k) (h2 : m < 10 ^ k) : Op.bytesLess (padN k n ++ s) (padN k m ++ t) = true ↔ n < m ∨ n = m ∧ Op.bytesLess s t = true := by
  rw [bl_app _ _ _ _ (by simp [padN_length])]
  simp only [Bool.or_eq_true, Bool.and_eq_true, padN_less k n m h1 h2, beq_iff_eq, padN_inj k n m h1 h2]
theorem mtx_assoc (y m d h mi s : Int) : mtx y m d h mi s = padN 4 y.toNat ++ (45 :: (padN 2 m.toNat ++ (45 :: (padN 2 d.toNat ++ (84 :: (padN 2 h.toNat ++ (58 :: (padN 2 mi.toNat ++ (58 :: (padN 2 s.toNat ++ [])))))))))) := by
  simp [mtx, dtx]
theorem dn_lex {y m d y' m' d' : Int} (h : vldB y m d = true) (h' : vldB y' m' d' = true) (e : y < y' ∨ y = y' ∧ (m < m' ∨ m = m' ∧ d < d')) : dn y m d < dn y' m' d' := by
  obtain ⟨a, b, c, f, g, _, i⟩ := vld_parts h
  obtain ⟨a', b', c', f', g', _, i'⟩ := vld_parts h'
  have p := dn_in h
  have p' := dn_in h'
  rcases e with e | ⟨rfl, e | ⟨rfl, e⟩⟩
  · have := yd_mono (y + 1) y' (by omega); omega
  · have := cum_mono y (m + 1) m' (by omega) (by omega) (by omega) a b; omega
  · unfold dn; omega
theorem mtx_less {y m d h mi s y' m' d' h' mi' s' : Int} (v : vldB y m d = true) (v' : vldB y' m' d' = true) (t : tmB h mi s = true) (t' : tmB h' mi' s' = true) :
    Op.bytesLess (mtx y m d h mi s) (mtx y' m' d' h' mi' s') = decide (inst y m d h mi s < inst y' m' d' h' mi' s') := by
  obtain ⟨a1, a2, a3, a4, a5, a6, _⟩ := vld_parts v
  obtain ⟨b1, b2, b3, b4, b5, b6, _⟩ := vld_parts v'
  obtain ⟨c1, c2, c3, c4, c5, c6⟩ := tm_iff.1 t
  obtain ⟨d1, d2, d3, d4, d5, d6⟩ := tm_iff.1 t'
  have l1 : y < y' ∨ y = y' ∧ (m < m' ∨ m = m' ∧ d < d') → dn y m d < dn y' m' d' := dn_lex v v'
  have l2 : y' < y ∨ y' = y ∧ (m' < m ∨ m' = m ∧ d' < d) → dn y' m' d' < dn y m d := dn_lex v' v
  have l3 : y = y' → m = m' → d = d' → dn y m d = dn y' m' d' := by rintro rfl rfl rfl; rfl
  rw [Bool.eq_iff_iff, decide_eq_true_eq, mtx_assoc, mtx_assoc]
  rw [bl_pad 4 _ _ _ _ (by omega) (by omega), bl_cons, bl_pad 2 _ _ _ _ (by omega) (by omega), bl_cons, bl_pad 2 _ _ _ _ (by omega) (by omega), bl_cons, bl_pad 2 _ _ _ _ (by omega) (by omega), bl_cons,
    bl_pad 2 _ _ _ _ (by omega) (by omega), bl_cons, bl_pad 2 _ _ _ _ (by omega) (by omega), bl_irrefl]
  unfold inst secs
  simp only [Bool.false_eq_true, and_false, or_false]
  rcases (show (y < y' ∨ y = y' ∧ (m < m' ∨ m = m' ∧ d < d')) ∨ (y' < y ∨ y' = y ∧ (m' < m ∨ m' = m ∧ d' < d)) ∨ (y = y' ∧ m = m' ∧ d = d') by omega) with q | q | ⟨q1, q2, q3⟩
  · have := l1 q; clear l1 l2 l3; omega
  · have := l2 q; clear l1 l2 l3; omega
  · have := l3 q1 q2 q3; clear l1 l2 l3; omega
theorem mtx_eq {y m d h mi s y' m' d' h' mi' s' : Int} (v : vldB y m d = true) (v' : vldB y' m' d' = true) (t : tmB h mi s = true) (t' : tmB h' mi' s' = true) (e : mtx y m d h mi s = mtx y' m' d' h' mi' s') :
    inst y m d h mi s = inst y' m' d' h' mi' s' := by
  have h1 := mtx_less v v' t t'
  have h2 := mtx_less v' v t' t
  rw [e, bl_irrefl] at h1
  rw [e, bl_irrefl] at h2
  have h1 := of_decide_eq_false h1.symm
  have h2 := of_decide_eq_false h2.symm
  omega
theorem mtx_count (y m d h mi s : Int) : (mtx y m d h mi s).count 58 = 2 := by
  have hp : ∀ k n, (padN k n).count 58 = 0 := by
    intro k
    induction k with
    | zero => intro n; rfl
    | succ k ih =>
      intro n
      unfold padN
      rw [List.count_append, ih]
      have : ¬ (dg1 n == 58) = true := by
        rw [beq_iff_eq]
        intro q
        have := congrArg UInt8.toNat q
        rw [dg1_toNat] at this
        have h58 : (58 : UInt8).toNat = 58 := rfl
        omega
      simp [List.count_cons, this]
  rw [mtx_assoc]
  simp [List.count_append, List.count_cons, hp]
end Go.Proofs.YtplckoffiebibaaDoor
