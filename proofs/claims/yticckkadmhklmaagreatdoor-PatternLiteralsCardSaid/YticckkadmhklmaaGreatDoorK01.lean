/- The walks of package integer and of its reference. -/
import Derived.Test.YticckkadmhklmaaGreatDoorK00
namespace Go.Proofs.YticckkadmhklmaaGreatDoor
open Go.RowKit

theorem Div_nn (a b : Int) (w : World) (hb : 0 < b) (hb2 : b ≤ 9223372036854775807) (ha : 0 ≤ a) (ha2 : a ≤ 9223372036854775807) :
    Calls Tryz.prog 112 #[.int .i64 a, .int .i64 b] w fun e w' => e = .returned (.tuple #[.int .i64 (a / b), .int .i64 (a % b), .int .i64 0]) ∧ ∃ n, w.drewN n = w' := by
  have h0 : (b == 0) = false := by simp; omega
  have h1 : (a == -9223372036854775808) = false := by simp; omega
  have q1 := Int.emod_nonneg a (show b ≠ 0 by omega)
  have h3 : decide (b < 0) = false := by simp; omega
  have h4 : decide (a % b < 0) = false := by simp; omega
  go_enter Tryz.func112, Tryz.ntmps112
  go_wp2
  go_quiet (fail)
  go_wp2
  all_goals
    go_ret3
    exact ⟨ret_i3 (by rfl) (by first | rfl | omega) (by rfl), _, rfl⟩
set_option maxHeartbeats 400000 in
theorem Div_neg (a b : Int) (w : World) (hb : 0 < b) (hb2 : b ≤ 9223372036854775807) (ha : 0 < a) (ha2 : a ≤ 9223372036854775808) :
    Calls Tryz.prog 112 #[.int .i64 (-a), .int .i64 b] w fun e w' => e = .returned (.tuple #[.int .i64 (-a / b), .int .i64 (-a % b), .int .i64 0]) ∧ ∃ n, w.drewN n = w' := by
  have h0 : (b == 0) = false := by simp; omega
  have h1 : (b == -1) = false := by simp; omega
  have h3 : decide (b < 0) = false := by simp; omega
  have q1 := Int.emod_nonneg a (show b ≠ 0 by omega)
  have q2 := Int.emod_lt_of_pos a hb
  have q3 := Int.ediv_nonneg (a := a) (b := b) (by omega) (by omega)
  have q4 : a / b ≤ 9223372036854775808 := by have := Int.ediv_le_self b (show 0 ≤ a by omega); omega
  have hq : a.tdiv b = a / b := Int.tdiv_eq_ediv_of_nonneg (by omega)
  have H1 := Lib.hid (neg_div a b hb)
  have H2 := Lib.hid (neg_mod a b hb)
  by_cases hm : a % b = 0
  · have h5 : (-(a % b) != 0) = false := by simp [hm]
    have Hm := Lib.hid hm
    clear hm
    by_cases h1 : (-a == -9223372036854775808) = true
    all_goals
      go_enter Tryz.func112, Tryz.ntmps112
      go_wp2
      go_quiet (fail)
      go_wp2
      go_ret3
      exact ⟨ret_i3 (by rw [H1.out, if_pos Hm.out]) (by rw [H2.out, if_pos Hm.out, Hm.out]; rfl) (by rfl), _, rfl⟩
  · have h5 : (-(a % b) != 0) = true := by simp [hm]
    have h6 : decide (0 < a % b) = true := by simp; omega
    have q5 : 2 * (a / b) ≤ a := div_half a b (by omega) (by omega)
    have Hm := Lib.hid hm
    clear hm
    by_cases h1 : (-a == -9223372036854775808) = true
    all_goals
      go_enter Tryz.func112, Tryz.ntmps112
      go_wp2
      go_quiet (fail)
      go_wp2
      go_ret3
      exact ⟨ret_i3 (by rw [H1.out, if_neg Hm.out]) (by rw [H2.out, if_neg Hm.out]; omega) (by rfl), _, rfl⟩
theorem Div_c (a b : Int) (w : World) (hb : 0 < b) (hb2 : b ≤ 9223372036854775807) (ha : -9223372036854775808 ≤ a) (ha2 : a ≤ 9223372036854775807) :
    Calls Tryz.prog 112 #[.int .i64 a, .int .i64 b] w fun e w' => e = .returned (.tuple #[.int .i64 (a / b), .int .i64 (a % b), .int .i64 0]) ∧ ∃ n, w.drewN n = w' := by
  by_cases h : 0 ≤ a
  · exact Div_nn a b w hb hb2 h ha2
  · have e : a = -(-a) := by omega
    rw [e]
    exact Div_neg (-a) b w hb hb2 (by omega) (by omega)
theorem Mod_c (a b : Int) (w : World) (hb : 0 < b) (hb2 : b ≤ 9223372036854775807) (ha : -9223372036854775808 ≤ a) (ha2 : a ≤ 9223372036854775807) :
    Calls Tryz.prog 114 #[.int .i64 a, .int .i64 b] w fun e w' => e = .returned (.int .i64 (a % b)) ∧ ∃ n, w.drewN n = w' := by
  go_enter Tryz.func114, Tryz.ntmps114
  go_wp2_with (go_at_call 112; refine (Div_c _ _ _ hb hb2 ha ha2).mono ?_; rintro e w' ⟨rfl, nq, rfl⟩)
  go_ret
  exact ⟨rfl, _, rfl⟩
end Go.Proofs.YticckkadmhklmaaGreatDoor
/- The calendar's plain arithmetic: leap years, lengths of months, the number of a day; no program in sight. -/
namespace Go.Proofs.YticckkadmhklmaaGreatDoor

def yrB (y : Int) : Bool := decide (1 ≤ y ∧ y ≤ 9999)
def lpB (y : Int) : Bool := decide (y % 4 = 0 ∧ (y % 100 ≠ 0 ∨ y % 400 = 0))
def lp (y : Int) : Int := if lpB y then 1 else 0
def mlen (y m : Int) : Int :=
  if 1 ≤ y ∧ y ≤ 9999 ∧ 1 ≤ m ∧ m ≤ 12 then (if m = 2 then 28 + lp y else if m = 4 ∨ m = 6 ∨ m = 9 ∨ m = 11 then 30 else 31) else 0
def vldB (y m d : Int) : Bool := decide (1 ≤ d ∧ d ≤ mlen y m)
def cum (y m : Int) : Int :=
  if m ≤ 1 then 0 else if m = 2 then 31 else if m = 3 then 59 + lp y else if m = 4 then 90 + lp y else if m = 5 then 120 + lp y else if m = 6 then 151 + lp y
  else if m = 7 then 181 + lp y else if m = 8 then 212 + lp y else if m = 9 then 243 + lp y else if m = 10 then 273 + lp y else if m = 11 then 304 + lp y
  else if m = 12 then 334 + lp y else 365 + lp y
def yd (y : Int) : Int := -719162 + 365 * (y - 1) + (y - 1) / 4 - (y - 1) / 100 + (y - 1) / 400
/-- The number of the day of a date. -/
def dn (y m d : Int) : Int := yd y + cum y m + d - 1
/-- What the program's function 'count' computes. -/
def cnt (y m d : Int) : Int :=
  if m ≤ 2 then 365 * (y - 1) + (y - 1) / 4 - (y - 1) / 100 + (y - 1) / 400 + (153 * (m + 12 - 3) + 2) / 5 + d - 307 + -719162
  else 365 * y + y / 4 - y / 100 + y / 400 + (153 * (m - 3) + 2) / 5 + d - 307 + -719162

theorem lp_01 (y : Int) : 0 ≤ lp y ∧ lp y ≤ 1 := by unfold lp; split <;> omega
theorem lp_eq (y : Int) : lp y = y / 4 - (y - 1) / 4 - (y / 100 - (y - 1) / 100) + (y / 400 - (y - 1) / 400) := by
  unfold lp lpB
  split <;> rename_i h <;> simp at h <;> omega
theorem m12 {m : Int} (h1 : 1 ≤ m) (h2 : m ≤ 12) : m = 1 ∨ m = 2 ∨ m = 3 ∨ m = 4 ∨ m = 5 ∨ m = 6 ∨ m = 7 ∨ m = 8 ∨ m = 9 ∨ m = 10 ∨ m = 11 ∨ m = 12 := by omega
theorem cnt_eq (y m d : Int) (h1 : 1 ≤ m) (h2 : m ≤ 12) : cnt y m d = dn y m d := by
  have h := lp_eq y
  rcases m12 h1 h2 with rfl | rfl | rfl | rfl | rfl | rfl | rfl | rfl | rfl | rfl | rfl | rfl <;>
    simp [cnt, dn, yd, cum] <;> omega
theorem cum_succ (y m : Int) (hy : 1 ≤ y) (hy2 : y ≤ 9999) (h1 : 1 ≤ m) (h2 : m ≤ 12) : cum y (m + 1) = cum y m + mlen y m := by
  rcases m12 h1 h2 with rfl | rfl | rfl | rfl | rfl | rfl | rfl | rfl | rfl | rfl | rfl | rfl <;>
    simp [cum, mlen, hy, hy2] <;> omega
theorem cum13 (y : Int) : cum y 13 = 365 + lp y := by simp [cum]
theorem cum1 (y : Int) : cum y 1 = 0 := by simp [cum]
theorem yd_succ (y : Int) : yd (y + 1) = yd y + 365 + lp y := by
  have h := lp_eq y
  unfold yd
  rw [show y + 1 - 1 = y from by omega]
  omega
theorem yd_bd (y : Int) (h1 : 1 ≤ y) (h2 : y ≤ 10000) : -719162 ≤ yd y ∧ yd y ≤ 2932897 := by unfold yd; omega
theorem mlen_bd (y m : Int) : 0 ≤ mlen y m ∧ mlen y m ≤ 31 := by
  have h := lp_01 y
  unfold mlen
  split
  · split
    · omega
    · split <;> omega
  · omega
theorem mlen_pos (y m : Int) (hy : 1 ≤ y) (hy2 : y ≤ 9999) (h1 : 1 ≤ m) (h2 : m ≤ 12) : 28 ≤ mlen y m := by
  have h := lp_01 y
  unfold mlen
  rw [if_pos ⟨hy, hy2, h1, h2⟩]
  split
  · omega
  · split <;> omega
theorem mlen_zero (y m : Int) (h : ¬ (1 ≤ y ∧ y ≤ 9999 ∧ 1 ≤ m ∧ m ≤ 12)) : mlen y m = 0 := by unfold mlen; rw [if_neg h]
theorem cum_bd (y m : Int) (h1 : 1 ≤ m) (h2 : m ≤ 13) : 0 ≤ cum y m ∧ cum y m ≤ 365 + lp y := by
  have h := lp_01 y
  have : m = 1 ∨ m = 2 ∨ m = 3 ∨ m = 4 ∨ m = 5 ∨ m = 6 ∨ m = 7 ∨ m = 8 ∨ m = 9 ∨ m = 10 ∨ m = 11 ∨ m = 12 ∨ m = 13 := by omega
  rcases this with rfl | rfl | rfl | rfl | rfl | rfl | rfl | rfl | rfl | rfl | rfl | rfl | rfl <;> simp [cum] <;> omega

theorem vld_iff {y m d : Int} : vldB y m d = true ↔ 1 ≤ d ∧ d ≤ mlen y m := by unfold vldB; simp
theorem vld_parts {y m d : Int} (h : vldB y m d = true) : 1 ≤ y ∧ y ≤ 9999 ∧ 1 ≤ m ∧ m ≤ 12 ∧ 1 ≤ d ∧ d ≤ 31 ∧ d ≤ mlen y m := by
  have h := vld_iff.1 h
  have h2 := mlen_bd y m
  by_cases c : 1 ≤ y ∧ y ≤ 9999 ∧ 1 ≤ m ∧ m ≤ 12
  · exact ⟨c.1, c.2.1, c.2.2.1, c.2.2.2, h.1, by omega, h.2⟩
  · rw [mlen_zero y m c] at h; omega

theorem cum_mono (y a b : Int) (h1 : 1 ≤ a) (h2 : a ≤ b) (h3 : b ≤ 13) (hy : 1 ≤ y) (hy2 : y ≤ 9999) : cum y a ≤ cum y b := by
  obtain ⟨n, hn⟩ : ∃ n : Nat, b = a + n := ⟨(b - a).toNat, by omega⟩
  subst hn
  induction n with
  | zero => simp
  | succ n ih =>
    have := ih (by omega) (by omega)
    have h := cum_succ y (a + n) hy hy2 (by omega) (by omega)
    have := mlen_bd y (a + n)
    rw [show a + ((n + 1 : Nat) : Int) = a + (n : Int) + 1 from by omega, h]
    omega
theorem yd_mono (a b : Int) (h : a ≤ b) : yd a ≤ yd b := by
  obtain ⟨n, hn⟩ : ∃ n : Nat, b = a + n := ⟨(b - a).toNat, by omega⟩
  subst hn
  induction n with
  | zero => simp
  | succ n ih =>
    have := ih (by omega)
    have h := yd_succ (a + n)
    have := lp_01 (a + n)
    rw [show a + ((n + 1 : Nat) : Int) = a + (n : Int) + 1 from by omega, h]
    omega
theorem yd_lt (a b : Int) (h : a < b) : yd a + 365 + lp a ≤ yd b := by
  have := yd_mono (a + 1) b (by omega)
  rw [yd_succ] at this
  exact this
/-- A date lies in its year, and in its month. -/
theorem dn_in {y m d : Int} (h : vldB y m d = true) : yd y + cum y m ≤ dn y m d ∧ dn y m d < yd y + cum y (m + 1) ∧ dn y m d < yd (y + 1) ∧ yd y ≤ dn y m d := by
  obtain ⟨a, b, c, e, f, _, g⟩ := vld_parts h
  have h1 := cum_succ y m a b c e
  have h2 := cum_mono y (m + 1) 13 (by omega) (by omega) (by omega) a b
  have h3 := cum_bd y m c (by omega)
  rw [cum13] at h2
  have h4 := yd_succ y
  unfold dn
  omega
theorem dn_bd {y m d : Int} (h : vldB y m d = true) : -719162 ≤ dn y m d ∧ dn y m d < 2932897 := by
  obtain ⟨a, b, c, e, f, _, g⟩ := vld_parts h
  have h1 := dn_in h
  have h2 := yd_bd y a (by omega)
  have h3 := yd_bd (y + 1) (by omega) (by omega)
  omega
theorem dn_inj {y m d y' m' d' : Int} (h : vldB y m d = true) (h' : vldB y' m' d' = true) (e : dn y m d = dn y' m' d') : y = y' ∧ m = m' ∧ d = d' := by
  obtain ⟨a, b, c, f, g, _, i⟩ := vld_parts h
  obtain ⟨a', b', c', f', g', _, i'⟩ := vld_parts h'
  have p := dn_in h
  have p' := dn_in h'
  have ey : y = y' := by
    rcases Int.lt_trichotomy y y' with q | q | q
    · have := yd_mono (y + 1) y' (by omega); omega
    · exact q
    · have := yd_mono (y' + 1) y (by omega); omega
  subst ey
  have em : m = m' := by
    rcases Int.lt_trichotomy m m' with q | q | q
    · have := cum_mono y (m + 1) m' (by omega) (by omega) (by omega) a b; omega
    · exact q
    · have := cum_mono y (m' + 1) m (by omega) (by omega) (by omega) a b; omega
  subst em
  refine ⟨rfl, rfl, ?_⟩
  unfold dn at e
  omega
/-- The date y m d is the one of the day n. -/
def IsDate (n y m d : Int) : Prop := vldB y m d = true ∧ dn y m d = n
theorem IsDate.inj {n y m d y' m' d' : Int} (h : IsDate n y m d) (h' : IsDate n y' m' d') : y = y' ∧ m = m' ∧ d = d' :=
  dn_inj h.1 h'.1 (h.2.trans h'.2.symm)
theorem IsDate.of {n y m : Int} (hy : 1 ≤ y) (hy2 : y ≤ 9999) (hm : 1 ≤ m) (hm2 : m ≤ 12) (h1 : yd y + cum y m ≤ n) (h2 : n < yd y + cum y (m + 1)) :
    IsDate n y m (n - (yd y + cum y m) + 1) := by
  have := cum_succ y m hy hy2 hm hm2
  refine ⟨vld_iff.2 ⟨by omega, by omega⟩, by unfold dn; omega⟩
end Go.Proofs.YticckkadmhklmaaGreatDoor
/- The walks of package civil and of its reference, as far as this seat reaches them. -/
namespace Go.Proofs.YticckkadmhklmaaGreatDoor
open Go.RowKit

theorem yr_yes {y : Int} (h1 : 1 ≤ y) (h2 : y ≤ 9999) : yrB y = true := by unfold yrB; simp; omega
theorem yr_no {y : Int} (h : ¬ (1 ≤ y ∧ y ≤ 9999)) : yrB y = false := by unfold yrB; simp; omega

set_option maxHeartbeats 400000 in
theorem year_c (y : Int) (w : World) : Calls Tryz.prog 128 #[.int .i64 y] w fun e w' => e = .returned (.bool (yrB y)) ∧ w = w' := by
  unfold yrB
  by_cases h1 : 1 ≤ y
  · have d1 : decide (1 ≤ y) = true := by simp; omega
    by_cases h2 : y ≤ 9999
    all_goals
      go_enter Tryz.func128, Tryz.ntmps128
      go_wp2
      go_ret
      exact ⟨ret_b (by simp [h1, h2]), rfl⟩
  · have d1 : decide (1 ≤ y) = false := by simp; omega
    go_enter Tryz.func128, Tryz.ntmps128
    go_wp2
    go_ret
    exact ⟨ret_b (by simp), rfl⟩

theorem leap4 (y : Int) : lpB y = ((y % 4 == 0) && ((y % 100 != 0) || (y % 400 == 0))) := by
  unfold lpB
  rw [Bool.eq_iff_iff]
  simp

set_option maxHeartbeats 400000 in
theorem leap_c (y : Int) (w : World) (h1 : 1 ≤ y) (h2 : y ≤ 9999) : Calls Tryz.prog 129 #[.int .i64 y] w fun e w' => e = .returned (.bool (lpB y)) ∧ w = w' := by
  rw [leap4]
  have hy := yr_yes h1 h2
  rcases Bool.eq_false_or_eq_true (y % 4 == 0) with a4 | a4 <;> rcases Bool.eq_false_or_eq_true (y % 100 != 0) with a1 | a1 <;> rcases Bool.eq_false_or_eq_true (y % 400 == 0) with a0 | a0
  all_goals
    rw [a4, a1, a0]
    go_enter Tryz.func129, Tryz.ntmps129
    go_wp2_with (go_at_call 128; refine (year_c _ _).mono ?_; rintro e w' ⟨rfl, rfl⟩)
    go_ret
    exact ⟨rfl, rfl⟩
theorem mi_0 (w : World) : (Instr.index 170 (.agg #[.int .i64 31, .int .i64 28, .int .i64 31, .int .i64 30, .int .i64 31, .int .i64 30, .int .i64 31, .int .i64 31, .int .i64 30, .int .i64 31, .int .i64 30, .int .i64 31]) (.int .i64 0)).run Tryz.prog w = .ok (.int .i64 31) w := by kernel_rfl
theorem mi_1 (w : World) : (Instr.index 170 (.agg #[.int .i64 31, .int .i64 28, .int .i64 31, .int .i64 30, .int .i64 31, .int .i64 30, .int .i64 31, .int .i64 31, .int .i64 30, .int .i64 31, .int .i64 30, .int .i64 31]) (.int .i64 1)).run Tryz.prog w = .ok (.int .i64 28) w := by kernel_rfl
theorem mi_2 (w : World) : (Instr.index 170 (.agg #[.int .i64 31, .int .i64 28, .int .i64 31, .int .i64 30, .int .i64 31, .int .i64 30, .int .i64 31, .int .i64 31, .int .i64 30, .int .i64 31, .int .i64 30, .int .i64 31]) (.int .i64 2)).run Tryz.prog w = .ok (.int .i64 31) w := by kernel_rfl
theorem mi_3 (w : World) : (Instr.index 170 (.agg #[.int .i64 31, .int .i64 28, .int .i64 31, .int .i64 30, .int .i64 31, .int .i64 30, .int .i64 31, .int .i64 31, .int .i64 30, .int .i64 31, .int .i64 30, .int .i64 31]) (.int .i64 3)).run Tryz.prog w = .ok (.int .i64 30) w := by kernel_rfl
theorem mi_4 (w : World) : (Instr.index 170 (.agg #[.int .i64 31, .int .i64 28, .int .i64 31, .int .i64 30, .int .i64 31, .int .i64 30, .int .i64 31, .int .i64 31, .int .i64 30, .int .i64 31, .int .i64 30, .int .i64 31]) (.int .i64 4)).run Tryz.prog w = .ok (.int .i64 31) w := by kernel_rfl
theorem mi_5 (w : World) : (Instr.index 170 (.agg #[.int .i64 31, .int .i64 28, .int .i64 31, .int .i64 30, .int .i64 31, .int .i64 30, .int .i64 31, .int .i64 31, .int .i64 30, .int .i64 31, .int .i64 30, .int .i64 31]) (.int .i64 5)).run Tryz.prog w = .ok (.int .i64 30) w := by kernel_rfl
theorem mi_6 (w : World) : (Instr.index 170 (.agg #[.int .i64 31, .int .i64 28, .int .i64 31, .int .i64 30, .int .i64 31, .int .i64 30, .int .i64 31, .int .i64 31, .int .i64 30, .int .i64 31, .int .i64 30, .int .i64 31]) (.int .i64 6)).run Tryz.prog w = .ok (.int .i64 31) w := by kernel_rfl
theorem mi_7 (w : World) : (Instr.index 170 (.agg #[.int .i64 31, .int .i64 28, .int .i64 31, .int .i64 30, .int .i64 31, .int .i64 30, .int .i64 31, .int .i64 31, .int .i64 30, .int .i64 31, .int .i64 30, .int .i64 31]) (.int .i64 7)).run Tryz.prog w = .ok (.int .i64 31) w := by kernel_rfl
theorem mi_8 (w : World) : (Instr.index 170 (.agg #[.int .i64 31, .int .i64 28, .int .i64 31, .int .i64 30, .int .i64 31, .int .i64 30, .int .i64 31, .int .i64 31, .int .i64 30, .int .i64 31, .int .i64 30, .int .i64 31]) (.int .i64 8)).run Tryz.prog w = .ok (.int .i64 30) w := by kernel_rfl
theorem mi_9 (w : World) : (Instr.index 170 (.agg #[.int .i64 31, .int .i64 28, .int .i64 31, .int .i64 30, .int .i64 31, .int .i64 30, .int .i64 31, .int .i64 31, .int .i64 30, .int .i64 31, .int .i64 30, .int .i64 31]) (.int .i64 9)).run Tryz.prog w = .ok (.int .i64 31) w := by kernel_rfl
theorem mi_10 (w : World) : (Instr.index 170 (.agg #[.int .i64 31, .int .i64 28, .int .i64 31, .int .i64 30, .int .i64 31, .int .i64 30, .int .i64 31, .int .i64 31, .int .i64 30, .int .i64 31, .int .i64 30, .int .i64 31]) (.int .i64 10)).run Tryz.prog w = .ok (.int .i64 30) w := by kernel_rfl
theorem mi_11 (w : World) : (Instr.index 170 (.agg #[.int .i64 31, .int .i64 28, .int .i64 31, .int .i64 30, .int .i64 31, .int .i64 30, .int .i64 31, .int .i64 31, .int .i64 30, .int .i64 31, .int .i64 30, .int .i64 31]) (.int .i64 11)).run Tryz.prog w = .ok (.int .i64 31) w := by kernel_rfl

set_option maxRecDepth 100000 in
set_option maxHeartbeats 1000000 in
theorem length_c (y m : Int) (w : World) : Calls Tryz.prog 127 #[.int .i64 y, .int .i64 m] w fun e w' => e = .returned (.int .i64 (mlen y m)) ∧ w = w' := by
  by_cases hy : 1 ≤ y ∧ y ≤ 9999
  · obtain ⟨h1, h2⟩ := hy
    have hyr := yr_yes h1 h2
    by_cases hm : 1 ≤ m ∧ m ≤ 12
    · obtain ⟨g1, g2⟩ := hm
      rcases m12 g1 g2 with rfl | rfl | rfl | rfl | rfl | rfl | rfl | rfl | rfl | rfl | rfl | rfl
      case inr.inl =>
        rcases Bool.eq_false_or_eq_true (lpB y) with hl | hl
        · have Hl : Hid (mlen y 2 = 29) := by simp [Hid, mlen, lp, hl, h1, h2]
          go_enter Tryz.func127, Tryz.ntmps127
          go_wp2_with (first | (go_at_call 128; refine (year_c _ _).mono ?_; rintro e w' ⟨rfl, rfl⟩) | (go_at_call 129; refine (leap_c _ _ h1 h2).mono ?_; rintro e w' ⟨rfl, rfl⟩))
          go_ret
          exact ⟨ret_i Hl.out.symm, rfl⟩
        · have Hl : Hid (mlen y 2 = 28) := by simp [Hid, mlen, lp, hl, h1, h2]
          have i1 := mi_1
          go_enter Tryz.func127, Tryz.ntmps127
          go_wp2_with (first | (go_at_call 128; refine (year_c _ _).mono ?_; rintro e w' ⟨rfl, rfl⟩) | (go_at_call 129; refine (leap_c _ _ h1 h2).mono ?_; rintro e w' ⟨rfl, rfl⟩))
          go_ret
          exact ⟨ret_i Hl.out.symm, rfl⟩
      all_goals
        have i0 := mi_0; have i1 := mi_1; have i2 := mi_2; have i3 := mi_3; have i4 := mi_4; have i5 := mi_5; have i6 := mi_6; have i7 := mi_7; have i8 := mi_8; have i9 := mi_9; have i10 := mi_10; have i11 := mi_11
        go_enter Tryz.func127, Tryz.ntmps127
        go_wp2_with (go_at_call 128; refine (year_c _ _).mono ?_; rintro e w' ⟨rfl, rfl⟩)
        go_ret
        exact ⟨ret_i (by simp [mlen, h1, h2]), rfl⟩
    · have Hz := Lib.hid (mlen_zero y m (by omega))
      by_cases g1 : m < 1
      · have d1 : decide (m < 1) = true := by simp; omega
        go_enter Tryz.func127, Tryz.ntmps127
        go_wp2_with (go_at_call 128; refine (year_c _ _).mono ?_; rintro e w' ⟨rfl, rfl⟩)
        go_ret
        exact ⟨ret_i Hz.out.symm, rfl⟩
      · have d1 : decide (m < 1) = false := by simp; omega
        have d2 : decide (12 < m) = true := by simp; omega
        go_enter Tryz.func127, Tryz.ntmps127
        go_wp2_with (go_at_call 128; refine (year_c _ _).mono ?_; rintro e w' ⟨rfl, rfl⟩)
        go_ret
        exact ⟨ret_i Hz.out.symm, rfl⟩
  · have Hz := Lib.hid (mlen_zero y m (by omega))
    have hyr := yr_no hy
    clear hy
    go_enter Tryz.func127, Tryz.ntmps127
    go_wp2_with (go_at_call 128; refine (year_c _ _).mono ?_; rintro e w' ⟨rfl, rfl⟩)
    go_ret
    exact ⟨ret_i Hz.out.symm, rfl⟩
end Go.Proofs.YticckkadmhklmaaGreatDoor
/- The walks of package civil and of its reference, as far as this seat reaches them: validity and the number of a date's day. -/
namespace Go.Proofs.YticckkadmhklmaaGreatDoor
open Go.RowKit

theorem vld_no1 {y m d : Int} (h : ¬ 1 ≤ d) : vldB y m d = false := by unfold vldB; simp; omega
theorem vld_eq {y m d : Int} (h : 1 ≤ d) : vldB y m d = decide (d ≤ mlen y m) := by
  unfold vldB
  rw [Bool.eq_iff_iff]; simp; omega

set_option maxHeartbeats 400000 in
theorem valid_c (y m d : Int) (w : World) : Calls Tryz.prog 124 #[.agg #[.int .i64 y, .int .i64 m, .int .i64 d]] w fun e w' => e = .returned (.bool (vldB y m d)) ∧ Ext w w' := by
  by_cases h : 1 ≤ d
  · rw [vld_eq h]
    go_enter Tryz.func124, Tryz.ntmps124
    go_wp2
    go_quiet ((go_at_call 127; exact quiet_of0 ((length_c _ _ _).mono fun _ _ ⟨a, b⟩ => ⟨a, 0, b⟩)))
    go_wp2
    go_ret
    exact ⟨rfl, ((Ext.refl w).alloc _).drewN _⟩
  · rw [vld_no1 h]
    have hd : decide (1 ≤ d) = false := by simp; omega
    go_enter Tryz.func124, Tryz.ntmps124
    go_wp2
    go_quiet (fail)
    go_wp2
    go_ret
    exact ⟨rfl, ((Ext.refl w).alloc _).drewN _⟩
set_option maxHeartbeats 400000 in
theorem count_c (y m d : Int) (w : World) (h1 : 1 ≤ y) (h2 : y ≤ 10000) (g1 : 1 ≤ m) (g2 : m ≤ 12) (k1 : 1 ≤ d) (k2 : d ≤ 31) :
    Calls Tryz.prog 123 #[.int .i64 y, .int .i64 m, .int .i64 d] w fun e w' => e = .returned (.int .i64 (dn y m d)) ∧ w = w' := by
  rw [← cnt_eq y m d g1 g2]
  by_cases hm : m ≤ 2
  · have Hc : Hid (cnt y m d = _) := Lib.hid (if_pos hm)
    go_enter Tryz.func123, Tryz.ntmps123
    go_wp2
    go_ret
    exact ⟨ret_i (by rw [Hc.out]), rfl⟩
  · have Hc : Hid (cnt y m d = _) := Lib.hid (if_neg hm)
    go_enter Tryz.func123, Tryz.ntmps123
    go_wp2
    go_ret
    exact ⟨ret_i (by rw [Hc.out]), rfl⟩

def insB (n : Int) : Bool := decide (-719162 ≤ n ∧ n < 2932897)
set_option maxHeartbeats 400000 in
theorem inside_c (n : Int) (w : World) : Calls Tryz.prog 113 #[.int .i64 n] w fun e w' => e = .returned (.bool (insB n)) ∧ w = w' := by
  unfold insB
  by_cases h1 : -719162 ≤ n
  · have d1 : decide (-719162 ≤ n) = true := by simp; omega
    by_cases h2 : n < 2932897
    all_goals
      go_enter Tryz.func113, Tryz.ntmps113
      go_wp2
      go_ret
      exact ⟨ret_b (by simp [h1, h2]), rfl⟩
  · have d1 : decide (-719162 ≤ n) = false := by simp; omega
    go_enter Tryz.func113, Tryz.ntmps113
    go_wp2
    go_ret
    exact ⟨ret_b (by simp), rfl⟩
end Go.Proofs.YticckkadmhklmaaGreatDoor
/- The walks of package civil and of its reference: a date's day, and a day's date. -/
namespace Go.Proofs.YticckkadmhklmaaGreatDoor
open Go.RowKit

set_option maxHeartbeats 400000 in
theorem day_yes (y m d : Int) (w : World) (hv : vldB y m d = true) : Calls Tryz.prog 116 #[.agg #[.int .i64 y, .int .i64 m, .int .i64 d]] w fun e w' => e = .returned (.tuple #[.int .i64 (dn y m d), .int .i64 0]) ∧ Ext w w' := by
  obtain ⟨a, b, c, f, g, i, _⟩ := vld_parts hv
  go_enter Tryz.func116, Tryz.ntmps116
  go_wp2_with (first
    | (go_at_call 124; refine (valid_c _ _ _ _).mono ?_; rintro e w1 ⟨rfl, hE⟩; have hc := hE.cells)
    | (go_at_call 123; refine (count_c _ _ _ _ a (by omega) c f g i).mono ?_; rintro e w2 ⟨rfl, rfl⟩))
  go_ret2
  exact ⟨rfl, ((Ext.refl w).alloc _).trans hE⟩
set_option maxHeartbeats 400000 in
theorem day_no (y m d : Int) (w : World) (hv : vldB y m d = false) : Calls Tryz.prog 116 #[.agg #[.int .i64 y, .int .i64 m, .int .i64 d]] w fun e w' => e = .returned (.tuple #[.int .i64 0, .int .i64 1]) ∧ Ext w w' := by
  go_enter Tryz.func116, Tryz.ntmps116
  go_wp2_with (go_at_call 124; refine (valid_c _ _ _ _).mono ?_; rintro e w1 ⟨rfl, hE⟩)
  go_ret2
  exact ⟨rfl, ((Ext.refl w).alloc _).trans hE⟩

theorem guess (n : Int) (h1 : -719162 ≤ n) (h2 : n < 2932897) : yd ((n + 719162) / 366 + 1) ≤ n := by unfold yd; omega

set_option maxHeartbeats 400000 in
theorem date_no (n : Int) (w : World) (h : insB n = false) :
    Calls Tryz.prog 110 #[.int .i64 n] w fun e w' => e = .returned (.tuple #[.agg #[.int .i64 0, .int .i64 0, .int .i64 0], .int .i64 2]) ∧ Ext w w' := by
  go_enter Tryz.func110, Tryz.ntmps110
  go_wp2_with (go_at_call 113; refine (inside_c _ _).mono ?_; rintro e w1 ⟨rfl, rfl⟩)
  exact bodyPost_ret (v := .tuple #[.agg #[.int .i64 0, .int .i64 0, .int .i64 0], .int .i64 2]) (by simp [results, Tryz.results110, go_sem]) rfl ⟨rfl, ((Ext.refl w).alloc _)⟩

set_option maxHeartbeats 1000000 in
theorem date_yes (n : Int) (w : World) (h : insB n = true) :
    Calls Tryz.prog 110 #[.int .i64 n] w fun e w' => ∃ y m d : Int, e = .returned (.tuple #[.agg #[.int .i64 y, .int .i64 m, .int .i64 d], .int .i64 0]) ∧ IsDate n y m d ∧ Ext w w' := by
  have hn : -719162 ≤ n ∧ n < 2932897 := by simpa [insB] using h
  obtain ⟨n1, n2⟩ := hn
  have g0 := Lib.hid (guess n n1 n2)
  have hdiv : (n + 719162) / 366 ≤ 9998 := by omega
  have hdiv0 : 0 ≤ (n + 719162) / 366 := by omega
  go_enter Tryz.func110, Tryz.ntmps110
  go_wp2_with (go_at_call 113; refine (inside_c _ _).mono ?_; rintro e w1 ⟨rfl, rfl⟩)
  go_loop [4] (fun t => ∃ y : Int, 1 ≤ y ∧ y ≤ 9999 ∧ yd y ≤ n ∧ t = .int .i64 y) (fun t => (9999 - intOf t).toNat)
  case atStart => exact ⟨_, by omega, by omega, g0.out, rfl⟩
  case round =>
    obtain ⟨y, hy1, hy2, hy3, rfl⟩ := hrel
    have hb := yd_bd (y + 1) (by omega) (by omega)
    have Hf : Hid (∀ z, dn z 1 1 = yd z) := by intro z; unfold dn; rw [cum1]; omega
    by_cases hc : y < 9999 ∧ yd (y + 1) ≤ n
    · obtain ⟨hlt, hd⟩ := hc
      go_wp2_with (go_at_call 123; refine (count_c _ _ _ _ (by omega) (by omega) (by omega) (by omega) (by omega) (by omega)).mono ?_; rintro e w' ⟨rfl, rfl⟩; rw [Hf.out])
      go_round
      case rel => exact ⟨y + 1, by omega, by omega, hd, rfl⟩
      case measure => simp [intOf]; omega
    · have hz : n < yd (y + 1) := by
        by_cases e : y = 9999
        · subst e; have : yd (9999 + 1) = 2932897 := by decide
          omega
        · omega
      have hs := yd_succ y
      have hl := lp_01 y
      have Hs := Lib.hid hs
      clear hc hs
      by_cases hlt : y < 9999
      all_goals
        go_wp2_with (go_at_call 123; refine (count_c _ _ _ _ (by omega) (by omega) (by omega) (by omega) (by omega) (by omega)).mono ?_; rintro e w' ⟨rfl, rfl⟩; rw [Hf.out])
        go_loop [5] (fun k => ∃ m : Int, 1 ≤ m ∧ m ≤ 12 ∧ k = .int .i64 m ∧ yd y + cum y m ≤ n) (fun k => (12 - intOf k).toNat)
        case atStart => exact ⟨1, by omega, by omega, rfl, by rw [cum1]; omega⟩
        case round =>
          obtain ⟨m, hm1, hm2, rfl, hr⟩ := hrel
          have Hg : Hid (∀ z, dn y z 1 = yd y + cum y z) := by intro z; unfold dn; omega
          have cb := cum_bd y m hm1 (by omega)
          have yb := yd_bd y (by omega) (by omega)
          by_cases hc : m < 12 ∧ yd y + cum y (m + 1) ≤ n
          · obtain ⟨hm, hd⟩ := hc
            go_wp2_with (go_at_call 123; refine (count_c _ _ _ _ (by omega) (by omega) (by omega) (by omega) (by omega) (by omega)).mono ?_; rintro e w' ⟨rfl, rfl⟩; rw [Hg.out])
            go_round
            case rel => exact ⟨m + 1, by omega, by omega, rfl, hd⟩
            case measure => simp [intOf]; omega
          · have hv : n < yd y + cum y (m + 1) := by
              by_cases e : m = 12
              · subst e; have := cum13 y; have := Hs.out; rw [show (12 : Int) + 1 = 13 from rfl]; omega
              · omega
            have Hr := Lib.hid (IsDate.of hy1 hy2 hm1 hm2 hr hv)
            clear hc
            by_cases hm : m < 12
            all_goals
              go_wp2_with (go_at_call 123; refine (count_c _ _ _ _ (by omega) (by omega) (by omega) (by omega) (by omega) (by omega)).mono ?_; rintro e w' ⟨rfl, rfl⟩; rw [Hg.out])
              exact bodyPost_ret (v := .tuple #[.agg #[.int .i64 y, .int .i64 m, .int .i64 (n - (yd y + cum y m) + 1)], .int .i64 0]) (by simp [results, Tryz.results110, go_sem]) rfl ⟨y, m, _, rfl, Hr.out, ((Ext.refl w).alloc _)⟩
end Go.Proofs.YticckkadmhklmaaGreatDoor
/- The walk of the reference's Date. -/
namespace Go.Proofs.YticckkadmhklmaaGreatDoor
open Go.RowKit

end Go.Proofs.YticckkadmhklmaaGreatDoor
