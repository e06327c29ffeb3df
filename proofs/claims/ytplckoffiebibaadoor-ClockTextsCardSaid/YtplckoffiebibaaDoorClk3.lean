/- The walks of package clock and of its reference: moments out of range; the reference's moment; rounding. -/
import Derived.Test.YtplckoffiebibaaDoorClk2
namespace Go.Proofs.YtplckoffiebibaaDoor
open Go.RowKit

def mom0 : Value := .agg #[.int .i64 0, .int .i64 0, .int .i64 0, .int .i64 0, .int .i64 0, .int .i64 0]
set_option maxHeartbeats 400000 in
theorem moment_no (t : Int) (w : World) (h : insT t = false) :
    Calls Tryd.prog 26 #[.int .i64 t] w fun e w' => e = .returned (.tuple #[mom0, .int .i64 2]) ∧ Ext w w' := by
  go_enter Tryd.func26, Tryd.ntmps26
  go_wp2_with (first
    | (go_at_call 21; refine (split_no _ _ h).mono ?_; rintro e w1 ⟨rfl, nq, rfl⟩))
  refine bodyPost_ret (v := .tuple #[mom0, .int .i64 2]) ?_ rfl ⟨rfl, ?_⟩
  · simp [results, Tryd.results26, go_sem, mom0]
  · (repeat (with_reducible (first | assumption | exact Ext.refl _ | refine Ext.alloc ?_ _ | refine Ext.setCell ?_ (by simp) _ | refine Ext.setCell ?_ (by simp; omega) _ | refine Ext.drewN ?_ _ | refine Ext.drew ?_)))

set_option maxHeartbeats 1000000 in
theorem rmoment_yes (t : Int) (w : World) (h : insT t = true) :
    Calls Tryd.prog 28 #[.int .i64 t] w fun e w' => ∃ y m d : Int, e = .returned (momv t y m d) ∧ IsDate (t / 86400) y m d ∧ Ext w w' := by
  go_enter Tryd.func28, Tryd.ntmps28
  go_wp2_with (first
    | (go_at_call 23; refine (rsplit_yes _ _ h).mono ?_; rintro e w1 ⟨rfl, nq, rfl⟩)
    | (go_at_call 49; refine (rdate_yes _ _ (split_ins h)).mono ?_; rintro e w2 ⟨y, m, d, rfl, hD, hE⟩; have hc := hE.cells; have hf := hE.frozens; have hz : w.heap.size < w2.heap.size := (by have := hE.size; simp at this; omega)))
  go_region_with (first
    | (go_at_call 18; refine (rtime_yes _ _ (split_sd t)).mono ?_; rintro e w3 ⟨rfl, hE2⟩; have hc2 := hE2.cells; have hf2 := hE2.frozens; have hz2 : w2.heap.size < w3.heap.size := (by have := hE2.size; simp at this; omega); have hz3 : w.heap.size < w3.heap.size := (by omega)))
  all_goals
    go_wp2
    have c0 : ∀ o, w3.cell? ⟨w.heap.size, o, none⟩ = (#[.int .i64 0, .int .i64 0, .int .i64 0, .int .i64 0, .int .i64 0, .int .i64 0] : Array Value)[o]? := by
      intro o
      rw [hc2 _ _ (by simp; omega)]
      first
        | rw [World.cell?_alloc_lt _ _ _ hz, hc _ _ (by simp)]
        | (show ((w2.alloc _).drew).cell? _ = _
           show (w2.alloc _).cell? _ = _
           rw [World.cell?_alloc_lt _ _ _ hz, hc _ _ (by simp)])
      exact World.cell?_alloc_new _ _ _ _
    refine bodyPost_ret (v := momv t y m d) ?_ rfl ⟨y, m, d, rfl, hD, ?_⟩
    · simp [results, Tryd.results28, go_sem, momv, c0]
    · iterate 6 refine Ext.setCell ?_ (by simp) _
      exact (((Ext.refl w).alloc _).drewN _).trans (hE.trans ((((Ext.refl _).alloc _).drew).trans hE2))

set_option maxHeartbeats 400000 in
theorem line_c (n : Int) (w : World) : Calls Tryd.prog 33 #[.int .i64 n] w fun e w' => e = .returned (.bool (decide (-4398046511104 ≤ n ∧ n ≤ 4398046511104))) ∧ w = w' := by
  by_cases a : -4398046511104 ≤ n
  · by_cases b : n ≤ 4398046511104
    all_goals
      go_enter Tryd.func33, Tryd.ntmps33
      go_wp2
      go_ret
      exact ⟨ret_b (by simp [a, b]), rfl⟩
  · have d : decide (-4398046511104 ≤ n) = false := by simp; omega
    go_enter Tryd.func33, Tryd.ntmps33
    go_wp2
    go_ret
    exact ⟨ret_b (by simp <;> omega), rfl⟩

/-- The rounded number. -/
def rnd (n u k : Int) : Int := if n % u > 0 ∧ (k = 2 ∨ k = 3 ∧ 2 * (n % u) ≥ u) then n - n % u + u else n - n % u
def lineB (n : Int) : Bool := decide (-4398046511104 ≤ n ∧ n ≤ 4398046511104)
def argB (u k : Int) : Bool := decide (1 ≤ u ∧ u ≤ 4398046511104 ∧ 1 ≤ k ∧ k ≤ 3)
def rndE (n u k : Int) : Int := if argB u k = false then 1 else if lineB n = false ∨ lineB (rnd n u k) = false then 2 else 0
def rndV (n u k : Int) : Int := if rndE n u k = 0 then rnd n u k else 0
set_option maxHeartbeats 1000000 in
theorem round_c (n u k : Int) (w : World) : Calls Tryd.prog 38 #[.int .i64 n, .int .i64 u, .int .i64 k] w fun e w' => e = .returned (.tuple #[.int .i64 (rndV n u k), .int .i64 (rndE n u k)]) ∧ ∃ q, w.drewN q = w' := by
  by_cases ha : 1 ≤ u ∧ u ≤ 4398046511104 ∧ 1 ≤ k ∧ k ≤ 3
  · obtain ⟨a1, a2, a3, a4⟩ := ha
    by_cases hl : -4398046511104 ≤ n ∧ n ≤ 4398046511104
    · obtain ⟨l1, l2⟩ := hl
      have q1 := Int.emod_nonneg n (show u ≠ 0 by omega)
      have q2 := Int.emod_lt_of_pos n (show 0 < u by omega)
      have hk : k = 1 ∨ k = 2 ∨ k = 3 := by omega
      have Ha : Hid (argB u k = true) := by unfold argB Hid; simp; omega
      have Hl : Hid (lineB n = true) := by unfold lineB Hid; simp; omega
      by_cases h0 : 0 < n % u
      · rcases hk with rfl | rfl | rfl
        · go_enter Tryd.func38, Tryd.ntmps38
          go_wp2_with (first
            | (go_at_call 63; refine (Mod_c _ _ _ (by omega) (by omega) (by omega) (by omega)).mono ?_; rintro e w' ⟨rfl, nq, rfl⟩))
          all_goals
            go_ret2
            refine ⟨?_, _, rfl⟩
            unfold rndV rndE
            rw [Ha.out, Hl.out]
            unfold lineB rnd
            refine ret_i2 ?_ ?_ <;> simp <;> (repeat' split) <;> omega
        · go_enter Tryd.func38, Tryd.ntmps38
          go_wp2_with (first
            | (go_at_call 63; refine (Mod_c _ _ _ (by omega) (by omega) (by omega) (by omega)).mono ?_; rintro e w' ⟨rfl, nq, rfl⟩))
          all_goals
            go_ret2
            refine ⟨?_, _, rfl⟩
            unfold rndV rndE
            rw [Ha.out, Hl.out]
            unfold lineB rnd
            refine ret_i2 ?_ ?_ <;> simp <;> (repeat' split) <;> omega
        · by_cases h2 : u ≤ 2 * (n % u)
          · go_enter Tryd.func38, Tryd.ntmps38
            go_wp2_with (first
              | (go_at_call 63; refine (Mod_c _ _ _ (by omega) (by omega) (by omega) (by omega)).mono ?_; rintro e w' ⟨rfl, nq, rfl⟩))
            all_goals
              go_ret2
              refine ⟨?_, _, rfl⟩
              unfold rndV rndE
              rw [Ha.out, Hl.out]
              unfold lineB rnd
              refine ret_i2 ?_ ?_ <;> simp <;> (repeat' split) <;> omega
          · go_enter Tryd.func38, Tryd.ntmps38
            go_wp2_with (first
              | (go_at_call 63; refine (Mod_c _ _ _ (by omega) (by omega) (by omega) (by omega)).mono ?_; rintro e w' ⟨rfl, nq, rfl⟩))
            all_goals
              go_ret2
              refine ⟨?_, _, rfl⟩
              unfold rndV rndE
              rw [Ha.out, Hl.out]
              unfold lineB rnd
              refine ret_i2 ?_ ?_ <;> simp <;> (repeat' split) <;> omega
      · go_enter Tryd.func38, Tryd.ntmps38
        go_wp2_with (first
          | (go_at_call 63; refine (Mod_c _ _ _ (by omega) (by omega) (by omega) (by omega)).mono ?_; rintro e w' ⟨rfl, nq, rfl⟩))
        all_goals
          go_ret2
          refine ⟨?_, _, rfl⟩
          unfold rndV rndE
          rw [Ha.out, Hl.out]
          unfold lineB rnd
          refine ret_i2 ?_ ?_ <;> simp <;> (repeat' split) <;> omega
    · have Hl : Hid (lineB n = false) := by unfold lineB Hid; simp; omega
      have Ha : Hid (argB u k = true) := by unfold argB Hid; simp; omega
      by_cases h : 4398046511104 < n
      all_goals
        go_enter Tryd.func38, Tryd.ntmps38
        go_wp2
        go_ret2
        exact ⟨ret_i2 (by simp [rndV, rndE, Ha.out, Hl.out]) (by simp [rndE, Ha.out, Hl.out]), 0, rfl⟩
  · have Ha : Hid (argB u k = false) := by unfold argB Hid; simp; omega
    by_cases b1 : u < 1
    · go_enter Tryd.func38, Tryd.ntmps38
      go_wp2
      go_ret2
      exact ⟨ret_i2 (by simp [rndV, rndE, Ha.out]) (by simp [rndE, Ha.out]), 0, rfl⟩
    · by_cases b2 : 4398046511104 < u
      · go_enter Tryd.func38, Tryd.ntmps38
        go_wp2
        go_ret2
        exact ⟨ret_i2 (by simp [rndV, rndE, Ha.out]) (by simp [rndE, Ha.out]), 0, rfl⟩
      · by_cases b3 : k < 1
        · go_enter Tryd.func38, Tryd.ntmps38
          go_wp2
          go_ret2
          exact ⟨ret_i2 (by simp [rndV, rndE, Ha.out]) (by simp [rndE, Ha.out]), 0, rfl⟩
        · have b4 : 3 < k := by omega
          go_enter Tryd.func38, Tryd.ntmps38
          go_wp2
          go_ret2
          exact ⟨ret_i2 (by simp [rndV, rndE, Ha.out]) (by simp [rndE, Ha.out]), 0, rfl⟩

theorem mul_div_mod (n u : Int) : u * (n / u) = n - n % u := by
  have := Int.mul_ediv_add_emod n u
  omega
theorem lineB_c (n : Int) (w : World) : Calls Tryd.prog 33 #[.int .i64 n] w fun e w' => e = .returned (.bool (lineB n)) ∧ w = w' := line_c n w

set_option maxHeartbeats 2000000 in
theorem rround_c (n u k : Int) (w : World) : Calls Tryd.prog 39 #[.int .i64 n, .int .i64 u, .int .i64 k] w fun e w' => e = .returned (.tuple #[.int .i64 (rndV n u k), .int .i64 (rndE n u k)]) ∧ ∃ q, w.drewN q = w' := by
  by_cases ha : 1 ≤ u ∧ u ≤ 4398046511104 ∧ 1 ≤ k ∧ k ≤ 3
  · obtain ⟨a1, a2, a3, a4⟩ := ha
    have Ha : Hid (argB u k = true) := by unfold argB Hid; simp; omega
    rcases Bool.eq_false_or_eq_true (lineB n) with hl | hl
    · obtain ⟨l1, l2⟩ : -4398046511104 ≤ n ∧ n ≤ 4398046511104 := by simpa [lineB] using hl
      have q1 := Int.emod_nonneg n (show u ≠ 0 by omega)
      have q2 := Int.emod_lt_of_pos n (show 0 < u by omega)
      have hk : k = 1 ∨ k = 2 ∨ k = 3 := by omega
      have Hm := Lib.hid (mul_div_mod n u)
      have hm1 : -8796093022208 ≤ u * (n / u) := by rw [Hm.out]; omega
      have hm2 : u * (n / u) ≤ 8796093022208 := by rw [Hm.out]; omega
      by_cases h0 : n % u = 0
      · have t1 : (n != u * (n / u)) = false := by rw [Hm.out, h0]; simp
        have Hr : Hid (∀ j, rnd n u j = n - n % u) := by intro j; unfold rnd; rw [if_neg (by omega)]
        have t2 : ¬ u ≤ 2 * (n - u * (n / u)) := by rw [Hm.out]; omega
        have H0 := Lib.hid h0
        clear h0
        rcases hk with rfl | rfl | rfl
        all_goals
          rcases Bool.eq_false_or_eq_true (lineB (u * (n / u))) with hz | hz
          all_goals go_enter Tryd.func39, Tryd.ntmps39
                    go_wp2_with (first
                      | (go_at_call 46; refine (RFloor_c _ _ _ (by omega) (by omega) (by omega) (by omega)).mono ?_; rintro e w' ⟨rfl, nq, rfl⟩)
                      | (go_at_call 33; refine (lineB_c _ _).mono ?_; rintro e w' ⟨rfl, rfl⟩))
                    go_ret2
                    refine ⟨?_, _, rfl⟩
                    unfold rndV rndE
                    rw [Ha.out, hl]
                    simp only [Hr.out, Hm.out] at hz ⊢
                    simp [hz]
      · have t1 : (n != u * (n / u)) = true := by rw [Hm.out]; simp; omega
        rcases hk with rfl | rfl | rfl
        · have Hr : Hid (∀ j, j = 1 → rnd n u j = n - n % u) := by intro j hj; unfold rnd; rw [if_neg (by omega)]
          rcases Bool.eq_false_or_eq_true (lineB (u * (n / u))) with hz | hz
          all_goals go_enter Tryd.func39, Tryd.ntmps39
                    go_wp2_with (first
                      | (go_at_call 46; refine (RFloor_c _ _ _ (by omega) (by omega) (by omega) (by omega)).mono ?_; rintro e w' ⟨rfl, nq, rfl⟩)
                      | (go_at_call 33; refine (lineB_c _ _).mono ?_; rintro e w' ⟨rfl, rfl⟩))
                    go_ret2
                    refine ⟨?_, _, rfl⟩
                    unfold rndV rndE
                    rw [Ha.out, hl]
                    simp only [Hr.out, Hm.out] at hz ⊢
                    simp [hz]
        · have Hr : Hid (∀ j, j = 2 → rnd n u j = n - n % u + u) := by intro j hj; unfold rnd; rw [if_pos (by omega)]
          rcases Bool.eq_false_or_eq_true (lineB (u * (n / u) + u)) with hz | hz
          all_goals go_enter Tryd.func39, Tryd.ntmps39
                    go_wp2_with (first
                      | (go_at_call 46; refine (RFloor_c _ _ _ (by omega) (by omega) (by omega) (by omega)).mono ?_; rintro e w' ⟨rfl, nq, rfl⟩)
                      | (go_at_call 33; refine (lineB_c _ _).mono ?_; rintro e w' ⟨rfl, rfl⟩))
                    go_ret2
                    refine ⟨?_, _, rfl⟩
                    unfold rndV rndE
                    rw [Ha.out, hl]
                    simp only [Hr.out, Hm.out] at hz ⊢
                    simp [hz]
        · by_cases h2 : u ≤ 2 * (n - u * (n / u))
          · have Hr : Hid (∀ j, j = 3 → rnd n u j = n - n % u + u) := by intro j hj; rw [Hm.out] at h2; unfold rnd; rw [if_pos (by omega)]
            rcases Bool.eq_false_or_eq_true (lineB (u * (n / u) + u)) with hz | hz
            all_goals go_enter Tryd.func39, Tryd.ntmps39
                      go_wp2_with (first
                        | (go_at_call 46; refine (RFloor_c _ _ _ (by omega) (by omega) (by omega) (by omega)).mono ?_; rintro e w' ⟨rfl, nq, rfl⟩)
                        | (go_at_call 33; refine (lineB_c _ _).mono ?_; rintro e w' ⟨rfl, rfl⟩))
                      go_ret2
                      refine ⟨?_, _, rfl⟩
                      unfold rndV rndE
                      rw [Ha.out, hl]
                      simp only [Hr.out, Hm.out] at hz ⊢
                      simp [hz]
          · have Hr : Hid (∀ j, j = 3 → rnd n u j = n - n % u) := by intro j hj; rw [Hm.out] at h2; unfold rnd; rw [if_neg (by omega)]
            rcases Bool.eq_false_or_eq_true (lineB (u * (n / u))) with hz | hz
            all_goals go_enter Tryd.func39, Tryd.ntmps39
                      go_wp2_with (first
                        | (go_at_call 46; refine (RFloor_c _ _ _ (by omega) (by omega) (by omega) (by omega)).mono ?_; rintro e w' ⟨rfl, nq, rfl⟩)
                        | (go_at_call 33; refine (lineB_c _ _).mono ?_; rintro e w' ⟨rfl, rfl⟩))
                      go_ret2
                      refine ⟨?_, _, rfl⟩
                      unfold rndV rndE
                      rw [Ha.out, hl]
                      simp only [Hr.out, Hm.out] at hz ⊢
                      simp [hz]
    · go_enter Tryd.func39, Tryd.ntmps39
      go_wp2_with (go_at_call 33; refine (lineB_c _ _).mono ?_; rintro e w' ⟨rfl, rfl⟩)
      go_ret2
      exact ⟨ret_i2 (by simp [rndV, rndE, Ha.out, hl]) (by simp [rndE, Ha.out, hl]), 0, rfl⟩
  · have Ha : Hid (argB u k = false) := by unfold argB Hid; simp; omega
    by_cases b1 : u < 1
    · go_enter Tryd.func39, Tryd.ntmps39
      go_wp2_with fail
      go_ret2
      exact ⟨ret_i2 (by simp [rndV, rndE, Ha.out]) (by simp [rndE, Ha.out]), 0, rfl⟩
    · by_cases b2 : 4398046511104 < u
      · go_enter Tryd.func39, Tryd.ntmps39
        go_wp2_with fail
        go_ret2
        exact ⟨ret_i2 (by simp [rndV, rndE, Ha.out]) (by simp [rndE, Ha.out]), 0, rfl⟩
      · by_cases b3 : k < 1
        · go_enter Tryd.func39, Tryd.ntmps39
          go_wp2_with fail
          go_ret2
          exact ⟨ret_i2 (by simp [rndV, rndE, Ha.out]) (by simp [rndE, Ha.out]), 0, rfl⟩
        · have b4 : 3 < k := by omega
          go_enter Tryd.func39, Tryd.ntmps39
          go_wp2_with fail
          go_ret2
          exact ⟨ret_i2 (by simp [rndV, rndE, Ha.out]) (by simp [rndE, Ha.out]), 0, rfl⟩
end Go.Proofs.YtplckoffiebibaaDoor
