/- The walks of package clock and of its reference: moments; rounding. -/
import Derived.Test.YtplckoffiebibaaDoorClk
namespace Go.Proofs.YtplckoffiebibaaDoor
open Go.RowKit

/-- The instant of a moment. -/
def inst (y m d h mi s : Int) : Int := 86400 * dn y m d + secs h mi s
theorem secs_bd {h m s : Int} (q : tmB h m s = true) : 0 ≤ secs h m s ∧ secs h m s < 86400 := by
  have := tm_iff.1 q
  unfold secs; omega
theorem sd_of_tm {h m s : Int} (q : tmB h m s = true) : sdB (secs h m s) = true := sd_iff.2 (secs_bd q)
theorem ins_of_vld {y m d : Int} (h : vldB y m d = true) : insB (dn y m d) = true := ins_iff.2 (dn_bd h)
theorem ret_ai {v : Value} {k : IntKind} {a a' : Int} (h : a = a') : Ending.returned (.tuple #[v, .int k a]) = .returned (.tuple #[v, .int k a']) := by rw [h]

set_option maxHeartbeats 400000 in
theorem of_yes (y m d h mi s : Int) (w : World) (hv : vldB y m d = true) (ht : tmB h mi s = true) :
    Calls Tryd.prog 24 #[.agg #[.int .i64 y, .int .i64 m, .int .i64 d, .int .i64 h, .int .i64 mi, .int .i64 s]] w fun e w' => e = .returned (.tuple #[.int .i64 (inst y m d h mi s), .int .i64 0]) ∧ Ext w w' := by
  go_enter Tryd.func24, Tryd.ntmps24
  go_wp2_with (first
    | (go_at_call 29; refine (day_yes _ _ _ _ hv).mono ?_; rintro e w1 ⟨rfl, hE⟩; have hc := hE.cells; have hz := hE.size)
    | (go_at_call 14; refine (seconds_yes _ _ _ _ ht).mono ?_; rintro e w2 ⟨rfl, hE2⟩)
    | (go_at_call 19; refine (at_yes _ _ _ (ins_of_vld hv) (sd_of_tm ht)).mono ?_; rintro e w3 ⟨rfl, rfl⟩))
  go_ret2
  exact ⟨rfl, (((Ext.refl w).alloc _).trans hE).trans hE2⟩
set_option maxHeartbeats 400000 in
theorem of_no (y m d h mi s : Int) (w : World) (hv : ¬ (vldB y m d = true ∧ tmB h mi s = true)) :
    Calls Tryd.prog 24 #[.agg #[.int .i64 y, .int .i64 m, .int .i64 d, .int .i64 h, .int .i64 mi, .int .i64 s]] w fun e w' => e = .returned (.tuple #[.int .i64 0, .int .i64 1]) ∧ Ext w w' := by
  rcases Bool.eq_false_or_eq_true (vldB y m d) with h1 | h1
  · have ht : tmB h mi s = false := by simpa [h1] using hv
    clear hv
    go_enter Tryd.func24, Tryd.ntmps24
    go_wp2_with (first
      | (go_at_call 29; refine (day_yes _ _ _ _ h1).mono ?_; rintro e w1 ⟨rfl, hE⟩; have hc := hE.cells; have hz := hE.size)
      | (go_at_call 14; refine (seconds_no _ _ _ _ ht).mono ?_; rintro e w2 ⟨rfl, hE2⟩))
    go_ret2
    exact ⟨rfl, (((Ext.refl w).alloc _).trans hE).trans hE2⟩
  · clear hv
    rcases Bool.eq_false_or_eq_true (tmB h mi s) with ht | ht
    · go_enter Tryd.func24, Tryd.ntmps24
      go_wp2_with (first
        | (go_at_call 29; refine (day_no _ _ _ _ h1).mono ?_; rintro e w1 ⟨rfl, hE⟩; have hc := hE.cells; have hz := hE.size)
        | (go_at_call 14; refine (seconds_yes _ _ _ _ ht).mono ?_; rintro e w2 ⟨rfl, hE2⟩))
      go_ret2
      exact ⟨rfl, (((Ext.refl w).alloc _).trans hE).trans hE2⟩
    · go_enter Tryd.func24, Tryd.ntmps24
      go_wp2_with (first
        | (go_at_call 29; refine (day_no _ _ _ _ h1).mono ?_; rintro e w1 ⟨rfl, hE⟩; have hc := hE.cells; have hz := hE.size)
        | (go_at_call 14; refine (seconds_no _ _ _ _ ht).mono ?_; rintro e w2 ⟨rfl, hE2⟩))
      go_ret2
      exact ⟨rfl, (((Ext.refl w).alloc _).trans hE).trans hE2⟩

set_option maxHeartbeats 400000 in
theorem rof_yes (y m d h mi s : Int) (w : World) (hv : vldB y m d = true) (ht : tmB h mi s = true) :
    Calls Tryd.prog 27 #[.agg #[.int .i64 y, .int .i64 m, .int .i64 d, .int .i64 h, .int .i64 mi, .int .i64 s]] w fun e w' => e = .returned (.int .i64 (inst y m d h mi s)) ∧ Ext w w' := by
  have q1 := secs_bd ht
  have q2 := dn_bd hv
  obtain ⟨q3, q4⟩ := q1
  obtain ⟨q5, q6⟩ := q2
  unfold inst
  go_enter Tryd.func27, Tryd.ntmps27
  go_wp2_with (first
    | (go_at_call 48; refine (rday_yes _ _ _ _ hv).mono ?_; rintro e w1 ⟨rfl, hE⟩; have hc := hE.cells; have hz := hE.size)
    | (go_at_call 17; refine (rseconds_yes _ _ _ _ ht).mono ?_; rintro e w2 ⟨rfl, hE2⟩))
  go_ret
  exact ⟨rfl, (((Ext.refl w).alloc _).trans hE).trans hE2⟩

set_option maxHeartbeats 400000 in
theorem rvalidm_yes (y m d h mi s : Int) (w : World) (hv : vldB y m d = true) (ht : tmB h mi s = true) :
    Calls Tryd.prog 25 #[.agg #[.int .i64 y, .int .i64 m, .int .i64 d, .int .i64 h, .int .i64 mi, .int .i64 s]] w fun e w' => e = .returned (.bool true) ∧ Ext w w' := by
  go_enter Tryd.func25, Tryd.ntmps25
  go_wp2_with (first
    | (go_at_call 47; refine (rvalid_c _ _ _ _).mono ?_; rintro e w1 ⟨rfl, hE⟩; have hc := hE.cells; have hz := hE.size)
    | (go_at_call 15; refine (validtime_yes _ _ _ _ ht).mono ?_; rintro e w2 ⟨rfl, hE2⟩))
  go_ret
  exact ⟨rfl, (((Ext.refl w).alloc _).trans hE).trans hE2⟩
set_option maxHeartbeats 400000 in
theorem rvalidm_no (y m d h mi s : Int) (w : World) (hv : ¬ (vldB y m d = true ∧ tmB h mi s = true)) :
    Calls Tryd.prog 25 #[.agg #[.int .i64 y, .int .i64 m, .int .i64 d, .int .i64 h, .int .i64 mi, .int .i64 s]] w fun e w' => e = .returned (.bool false) ∧ Ext w w' := by
  rcases Bool.eq_false_or_eq_true (vldB y m d) with h1 | h1
  · have ht : tmB h mi s = false := by simpa [h1] using hv
    clear hv
    go_enter Tryd.func25, Tryd.ntmps25
    go_wp2_with (first
      | (go_at_call 47; refine (rvalid_c _ _ _ _).mono ?_; rintro e w1 ⟨rfl, hE⟩; have hc := hE.cells; have hz := hE.size)
      | (go_at_call 15; refine (validtime_no _ _ _ _ ht).mono ?_; rintro e w2 ⟨rfl, hE2⟩))
    go_ret
    exact ⟨rfl, (((Ext.refl w).alloc _).trans hE).trans hE2⟩
  · clear hv
    go_enter Tryd.func25, Tryd.ntmps25
    go_wp2_with (first
      | (go_at_call 47; refine (rvalid_c _ _ _ _).mono ?_; rintro e w1 ⟨rfl, hE⟩; have hc := hE.cells; have hz := hE.size))
    go_ret
    exact ⟨rfl, (((Ext.refl w).alloc _).trans hE)⟩

theorem split_sd (t : Int) : sdB (t % 86400) = true := sd_iff.2 (by omega)
theorem split_ins {t : Int} (h : insT t = true) : insB (t / 86400) = true := by
  have := insT_iff.1 h
  exact ins_iff.2 (by omega)
/-- What the functions of the name Moment give for an instant t. -/
def momv (t y m d : Int) : Value := .agg #[.int .i64 y, .int .i64 m, .int .i64 d, .int .i64 (t % 86400 / 3600), .int .i64 (t % 86400 / 60 % 60), .int .i64 (t % 86400 % 60)]

set_option maxHeartbeats 1000000 in
theorem moment_yes (t : Int) (w : World) (h : insT t = true) :
    Calls Tryd.prog 26 #[.int .i64 t] w fun e w' => ∃ y m d : Int, e = .returned (.tuple #[momv t y m d, .int .i64 0]) ∧ IsDate (t / 86400) y m d ∧ Ext w w' := by
  go_enter Tryd.func26, Tryd.ntmps26
  go_wp2_with (first
    | (go_at_call 21; refine (split_yes _ _ h).mono ?_; rintro e w1 ⟨rfl, nq, rfl⟩)
    | (go_at_call 30; refine (date_yes _ _ (split_ins h)).mono ?_; rintro e w2 ⟨y, m, d, rfl, hD, hE⟩; have hc := hE.cells; have hf := hE.frozens; have hz : w.heap.size < w2.heap.size := (by have := hE.size; simp at this; omega))
    | (go_at_call 16; refine (time_yes _ _ (split_sd t)).mono ?_; rintro e w3 ⟨rfl, hE2⟩; have hc2 := hE2.cells; have hf2 := hE2.frozens; have hz2 : w2.heap.size < w3.heap.size := (by have := hE2.size; simp at this; omega); have hz3 : w.heap.size < w3.heap.size := (by omega)))
  have c0 : ∀ o, w3.cell? ⟨w.heap.size, o, none⟩ = (#[.int .i64 0, .int .i64 0, .int .i64 0, .int .i64 0, .int .i64 0, .int .i64 0] : Array Value)[o]? := by
    intro o
    rw [hc2 _ _ (by simp; omega), World.cell?_alloc_lt _ _ _ hz, hc _ _ (by simp)]
    exact World.cell?_alloc_new _ _ _ _
  refine bodyPost_ret (v := .tuple #[momv t y m d, .int .i64 0]) ?_ rfl ⟨y, m, d, rfl, hD, ?_⟩
  · simp [results, Tryd.results26, go_sem, momv, c0, hz3]
  · refine Ext.alloc ?_ _
    iterate 6 refine Ext.setCell ?_ (by simp) _
    exact (((Ext.refl w).alloc _).drewN _).trans (hE.trans (((Ext.refl _).alloc _).trans hE2))
end Go.Proofs.YtplckoffiebibaaDoor
