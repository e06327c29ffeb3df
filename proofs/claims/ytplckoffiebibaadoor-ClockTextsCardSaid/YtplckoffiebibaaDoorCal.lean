/- The calendar's plain arithmetic: leap years, lengths of months, the number of a day; no program in sight. -/
import Derived.Test.YtplckoffiebibaaDoorBase
namespace Go.Proofs.YtplckoffiebibaaDoor

def yrB (y : Int) : Bool := decide (1 ≤ y ∧ y ≤ 9999)
def lpB (y : Int) : Bool := decide (y % 4 = 0 ∧ (y % 100 ≠ 0 ∨ y % 400 = 0))
def lp (y : Int) : Int := if lpB y then 1 else 0
def mlen (y m : Int) : Int :=
  if 1 ≤ y ∧ y ≤ 9999 ∧ 1 ≤ m ∧ m ≤ 12 then (if m = 2 then 28 + lp y else if m = 4 ∨ m = 6 ∨ m = 9 ∨ m = 11 then 30 else 31) else 0
def vldB (y m d : Int) : Bool := decide (1 ≤ d ∧ d ≤ mlen y m)
def cum (y m : Int) : Int :=
  if m ≤ 1 then 0 else if m = 2 then 31 else if m = 3 then 59 + lp y else if m = 4 then 90 + lp y else if m = 5 then 120 + lp y else if m = 6 then 151 + lp y
  else if m = 7 then 181 + lp y else if m = 8 then 212 + lp y else if m = 9 then 243 + lp y else if m = 10 then 273 + lp y else if m = 11 then 304 + lp y
  else if m = 12 then 334 + lp y else 365 + lp y
def yd (y : Int) : Int := -719162 + 365 * (y - 1) + (y - 1) / 4 - (y - 1) / 100 + (y - 1) / 400
/-- The number of the day of a date. -/
def dn (y m d : Int) : Int := yd y + cum y m + d - 1
/-- What the program's function 'count' computes. -/
def cnt (y m d : Int) : Int :=
  if m ≤ 2 then 365 * (y - 1) + (y - 1) / 4 - (y - 1) / 100 + (y - 1) / 400 + (153 * (m + 12 - 3) + 2) / 5 + d - 307 + -719162
  else 365 * y + y / 4 - y / 100 + y / 400 + (153 * (m - 3) + 2) / 5 + d - 307 + -719162

theorem lp_01 (y : Int) : 0 ≤ lp y ∧ lp y ≤ 1 := by unfold lp; split <;> omega
theorem lp_eq (y : Int) : lp y = y / 4 - (y - 1) / 4 - (y / 100 - (y - 1) / 100) + (y / 400 - (y - 1) / 400) := by
  unfold lp lpB
  split <;> rename_i h <;> simp at h <;> omega
theorem m12 {m : Int} (h1 : 1 ≤ m) (h2 : m ≤ 12) : m = 1 ∨ m = 2 ∨ m = 3 ∨ m = 4 ∨ m = 5 ∨ m = 6 ∨ m = 7 ∨ m = 8 ∨ m = 9 ∨ m = 10 ∨ m = 11 ∨ m = 12 := by omega
theorem cnt_eq (y m d : Int) (h1 : 1 ≤ m) (h2 : m ≤ 12) : cnt y m d = dn y m d := by
  have h := lp_eq y
  rcases m12 h1 h2 with rfl | rfl | rfl | rfl | rfl | rfl | rfl | rfl | rfl | rfl | rfl | rfl <;>
    simp [cnt, dn, yd, cum] <;> omega
theorem cum_succ (y m : Int) (hy : 1 ≤ y) (hy2 : y ≤ 9999) (h1 : 1 ≤ m) (h2 : m ≤ 12) : cum y (m + 1) = cum y m + mlen y m := by
  rcases m12 h1 h2 with rfl | rfl | rfl | rfl | rfl | rfl | rfl | rfl | rfl | rfl | rfl | rfl <;>
    simp [cum, mlen, hy, hy2] <;> omega
theorem cum13 (y : Int) : cum y 13 = 365 + lp y := by simp [cum]
theorem cum1 (y : Int) : cum y 1 = 0 := by simp [cum]
theorem yd_succ (y : Int) : yd (y + 1) = yd y + 365 + lp y := by
  have h := lp_eq y
  unfold yd
  rw [show y + 1 - 1 = y from by omega]
  omega
theorem yd_bd (y : Int) (h1 : 1 ≤ y) (h2 : y ≤ 10000) : -719162 ≤ yd y ∧ yd y ≤ 2932897 := by unfold yd; omega
theorem mlen_bd (y m : Int) : 0 ≤ mlen y m ∧ mlen y m ≤ 31 := by
  have h := lp_01 y
  unfold mlen
  split
  · split
    · omega
    · split <;> omega
  · omega
theorem mlen_pos (y m : Int) (hy : 1 ≤ y) (hy2 : y ≤ 9999) (h1 : 1 ≤ m) (h2 : m ≤ 12) : 28 ≤ mlen y m := by
  have h := lp_01 y
  unfold mlen
  rw [if_pos ⟨hy, hy2, h1, h2⟩]
  split
  · omega
  · split <;> omega
theorem mlen_zero (y m : Int) (h : ¬ (1 ≤ y ∧ y ≤ 9999 ∧ 1 ≤ m ∧ m ≤ 12)) : mlen y m = 0 := by unfold mlen; rw [if_neg h]
theorem cum_bd (y m : Int) (h1 : 1 ≤ m) (h2 : m ≤ 13) : 0 ≤ cum y m ∧ cum y m ≤ 365 + lp y := by
  have h := lp_01 y
  have : m = 1 ∨ m = 2 ∨ m = 3 ∨ m = 4 ∨ m = 5 ∨ m = 6 ∨ m = 7 ∨ m = 8 ∨ m = 9 ∨ m = 10 ∨ m = 11 ∨ m = 12 ∨ m = 13 := by omega
  rcases this with rfl | rfl | rfl | rfl | rfl | rfl | rfl | rfl | rfl | rfl | rfl | rfl | rfl <;> simp [cum] <;> omega

theorem vld_iff {y m d : Int} : vldB y m d = true ↔ 1 ≤ d ∧ d ≤ mlen y m := by unfold vldB; simp
theorem vld_parts {y m d : Int} (h : vldB y m d = true) : 1 ≤ y ∧ y ≤ 9999 ∧ 1 ≤ m ∧ m ≤ 12 ∧ 1 ≤ d ∧ d ≤ 31 ∧ d ≤ mlen y m := by
  have h := vld_iff.1 h
  have h2 := mlen_bd y m
  by_cases c : 1 ≤ y ∧ y ≤ 9999 ∧ 1 ≤ m ∧ m ≤ 12
  · exact ⟨c.1, c.2.1, c.2.2.1, c.2.2.2, h.1, by omega, h.2⟩
  · rw [mlen_zero y m c] at h; omega

theorem cum_mono (y a b : Int) (h1 : 1 ≤ a) (h2 : a ≤ b) (h3 : b ≤ 13) (hy : 1 ≤ y) (hy2 : y ≤ 9999) : cum y a ≤ cum y b := by
  obtain ⟨n, hn⟩ : ∃ n : Nat, b = a + n := ⟨(b - a).toNat, by omega⟩
  subst hn
  induction n with
  | zero => simp
  | succ n ih =>
    have := ih (by omega) (by omega)
    have h := cum_succ y (a + n) hy hy2 (by omega) (by omega)
    have := mlen_bd y (a + n)
    rw [show a + ((n + 1 : Nat) : Int) = a + (n : Int) + 1 from by omega, h]
    omega
theorem yd_mono (a b : Int) (h : a ≤ b) : yd a ≤ yd b := by
  obtain ⟨n, hn⟩ : ∃ n : Nat, b = a + n := ⟨(b - a).toNat, by omega⟩
  subst hn
  induction n with
  | zero => simp
  | succ n ih =>
    have := ih (by omega)
    have h := yd_succ (a + n)
    have := lp_01 (a + n)
    rw [show a + ((n + 1 : Nat) : Int) = a + (n : Int) + 1 from by omega, h]
    omega
theorem yd_lt (a b : Int) (h : a < b) : yd a + 365 + lp a ≤ yd b := by
  have := yd_mono (a + 1) b (by omega)
  rw [yd_succ] at this
  exact this
/-- A date lies in its year, and in its month. -/
theorem dn_in {y m d : Int} (h : vldB y m d = true) : yd y + cum y m ≤ dn y m d ∧ dn y m d < yd y + cum y (m + 1) ∧ dn y m d < yd (y + 1) ∧ yd y ≤ dn y m d := by
  obtain ⟨a, b, c, e, f, _, g⟩ := vld_parts h
  have h1 := cum_succ y m a b c e
  have h2 := cum_mono y (m + 1) 13 (by omega) (by omega) (by omega) a b
  have h3 := cum_bd y m c (by omega)
  rw [cum13] at h2
  have h4 := yd_succ y
  unfold dn
  omega
theorem dn_bd {y m d : Int} (h : vldB y m d = true) : -719162 ≤ dn y m d ∧ dn y m d < 2932897 := by
  obtain ⟨a, b, c, e, f, _, g⟩ := vld_parts h
  have h1 := dn_in h
  have h2 := yd_bd y a (by omega)
  have h3 := yd_bd (y + 1) (by omega) (by omega)
  omega
theorem dn_inj {y m d y' m' d' : Int} (h : vldB y m d = true) (h' : vldB y' m' d' = true) (e : dn y m d = dn y' m' d') : y = y' ∧ m = m' ∧ d = d' := by
  obtain ⟨a, b, c, f, g, _, i⟩ := vld_parts h
  obtain ⟨a', b', c', f', g', _, i'⟩ := vld_parts h'
  have p := dn_in h
  have p' := dn_in h'
  have ey : y = y' := by
    rcases Int.lt_trichotomy y y' with q | q | q
    · have := yd_mono (y + 1) y' (by omega); omega
    · exact q
    · have := yd_mono (y' + 1) y (by omega); omega
  subst ey
  have em : m = m' := by
    rcases Int.lt_trichotomy m m' with q | q | q
    · have := cum_mono y (m + 1) m' (by omega) (by omega) (by omega) a b; omega
    · exact q
    · have := cum_mono y (m' + 1) m (by omega) (by omega) (by omega) a b; omega
  subst em
  refine ⟨rfl, rfl, ?_⟩
  unfold dn at e
  omega
/-- The date y m d is the one of the day n. -/
def IsDate (n y m d : Int) : Prop := vldB y m d = true ∧ dn y m d = n
theorem IsDate.inj {n y m d y' m' d' : Int} (h : IsDate n y m d) (h' : IsDate n y' m' d') : y = y' ∧ m = m' ∧ d = d' :=
  dn_inj h.1 h'.1 (h.2.trans h'.2.symm)
theorem IsDate.of {n y m : Int} (hy : 1 ≤ y) (hy2 : y ≤ 9999) (hm : 1 ≤ m) (hm2 : m ≤ 12) (h1 : yd y + cum y m ≤ n) (h2 : n < yd y + cum y (m + 1)) :
    IsDate n y m (n - (yd y + cum y m) + 1) := by
  have := cum_succ y m hy hy2 hm hm2
  refine ⟨vld_iff.2 ⟨by omega, by omega⟩, by unfold dn; omega⟩
end Go.Proofs.YtplckoffiebibaaDoor
