/- The walks of package clock and of its reference: moments out of range; the reference's moment; rounding. -/
import Derived.Test.YtgndogpgfgliaaaGreatDoorQ05
namespace Go.Proofs.YtgndogpgfgliaaaGreatDoor
open Go.RowKit

def mom0 : Value := .agg #[.int .i64 0, .int .i64 0, .int .i64 0, .int .i64 0, .int .i64 0, .int .i64 0]
set_option maxHeartbeats 400000 in
theorem moment_no (t : Int) (w : World) (h : insT t = false) :
    Calls Tryz.prog 106 #[.int .i64 t] w fun e w' => e = .returned (.tuple #[mom0, .int .i64 2]) ∧ Ext w w' := by
  go_enter Tryz.func106, Tryz.ntmps106
  go_wp2_with (first
    | (go_at_call 146; refine (split_no _ _ h).mono ?_; rintro e w1 ⟨rfl, nq, rfl⟩))
  refine bodyPost_ret (v := .tuple #[mom0, .int .i64 2]) ?_ rfl ⟨rfl, ?_⟩
  · simp [results, Tryz.results106, go_sem, mom0]
  · (repeat (with_reducible (first | assumption | exact Ext.refl _ | refine Ext.alloc ?_ _ | refine Ext.setCell ?_ (by simp) _ | refine Ext.setCell ?_ (by simp; omega) _ | refine Ext.drewN ?_ _ | refine Ext.drew ?_)))

set_option maxHeartbeats 1000000 in
theorem rmoment_yes (t : Int) (w : World) (h : insT t = true) :
    Calls Tryz.prog 100 #[.int .i64 t] w fun e w' => ∃ y m d : Int, e = .returned (momv t y m d) ∧ IsDate (t / 86400) y m d ∧ Ext w w' := by
  go_enter Tryz.func100, Tryz.ntmps100
  go_wp2_with (first
    | (go_at_call 142; refine (rsplit_yes _ _ h).mono ?_; rintro e w1 ⟨rfl, nq, rfl⟩)
    | (go_at_call 143; refine (rdate_yes _ _ (split_ins h)).mono ?_; rintro e w2 ⟨y, m, d, rfl, hD, hE⟩; have hc := hE.cells; have hf := hE.frozens; have hz : w.heap.size < w2.heap.size := (by have := hE.size; simp at this; omega)))
  go_region_with (first
    | (go_at_call 144; refine (rtime_yes _ _ (split_sd t)).mono ?_; rintro e w3 ⟨rfl, hE2⟩; have hc2 := hE2.cells; have hf2 := hE2.frozens; have hz2 : w2.heap.size < w3.heap.size := (by have := hE2.size; simp at this; omega); have hz3 : w.heap.size < w3.heap.size := (by omega)))
  all_goals
    go_wp2
    have c0 : ∀ o, w3.cell? ⟨w.heap.size, o, none⟩ = (#[.int .i64 0, .int .i64 0, .int .i64 0, .int .i64 0, .int .i64 0, .int .i64 0] : Array Value)[o]? := by
      intro o
      rw [hc2 _ _ (by simp; omega)]
      first
        | rw [World.cell?_alloc_lt _ _ _ hz, hc _ _ (by simp)]
        | (show ((w2.alloc _).drew).cell? _ = _
           show (w2.alloc _).cell? _ = _
           rw [World.cell?_alloc_lt _ _ _ hz, hc _ _ (by simp)])
      exact World.cell?_alloc_new _ _ _ _
    refine bodyPost_ret (v := momv t y m d) ?_ rfl ⟨y, m, d, rfl, hD, ?_⟩
    · simp [results, Tryz.results100, go_sem, momv, c0]
    · iterate 6 refine Ext.setCell ?_ (by simp) _
      exact (((Ext.refl w).alloc _).drewN _).trans (hE.trans ((((Ext.refl _).alloc _).drew).trans hE2))

/-- The rounded number. -/
def rnd (n u k : Int) : Int := if n % u > 0 ∧ (k = 2 ∨ k = 3 ∧ 2 * (n % u) ≥ u) then n - n % u + u else n - n % u
def lineB (n : Int) : Bool := decide (-4398046511104 ≤ n ∧ n ≤ 4398046511104)
def argB (u k : Int) : Bool := decide (1 ≤ u ∧ u ≤ 4398046511104 ∧ 1 ≤ k ∧ k ≤ 3)
def rndE (n u k : Int) : Int := if argB u k = false then 1 else if lineB n = false ∨ lineB (rnd n u k) = false then 2 else 0
def rndV (n u k : Int) : Int := if rndE n u k = 0 then rnd n u k else 0
theorem mul_div_mod (n u : Int) : u * (n / u) = n - n % u := by
  have := Int.mul_ediv_add_emod n u
  omega
end Go.Proofs.YtgndogpgfgliaaaGreatDoor
