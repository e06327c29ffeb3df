/- The walks of clock.Text and of its reference. -/
import Derived.Test.YtplckoffiebibaaDoorTxt3
namespace Go.Proofs.YtplckoffiebibaaDoor
open Go.RowKit

/-- The text of a moment. -/
def mtx (y m d h mi s : Int) : List UInt8 := dtx y m d ++ [84] ++ padN 2 h.toNat ++ [58] ++ padN 2 mi.toNat ++ [58] ++ padN 2 s.toNat
theorem dtx_length (y m d : Int) : (dtx y m d).length = 10 := by simp [dtx, padN_length]
theorem mtx_length (y m d h mi s : Int) : (mtx y m d h mi s).length = 19 := by simp [mtx, dtx_length, padN_length]

theorem twocl_c (n : Int) (w : World) (h0 : 0 ≤ n) (h : n ≤ 99) :
    Calls Tryd.prog 64 #[.int .i64 n] w fun e w' => e = .returned (.string ⟨(padN 2 n.toNat).toArray⟩) ∧ Ext w w' := by
  go_enter Tryd.func64, Tryd.ntmps64
  go_wp2_with (go_at_call 65; refine (text_2 n _ h0 h).mono ?_; rintro e w2 ⟨rfl, hE2⟩)
  go_ret
  exact ⟨rfl, hE2⟩

set_option maxRecDepth 100000 in
set_option maxHeartbeats 1000000 in
theorem mtext_yes (y m d h mi s : Int) (w : World) (hv : vldB y m d = true) (ht : tmB h mi s = true) :
    Calls Tryd.prog 40 #[.agg #[.int .i64 y, .int .i64 m, .int .i64 d, .int .i64 h, .int .i64 mi, .int .i64 s]] w fun e w' => e = .returned (.string ⟨(mtx y m d h mi s).toArray⟩) ∧ Ext w w' := by
  obtain ⟨a, b, c, f, g, i⟩ := tm_iff.1 ht
  have L1 := dtx_length y m d
  have L2 := padN_length 2 h.toNat
  have L3 := padN_length 2 mi.toNat
  have L4 := padN_length 2 s.toNat
  go_enter Tryd.func40, Tryd.ntmps40
  go_wp2_with (first
    | (go_at_call 24; refine (of_yes _ _ _ _ _ _ _ hv ht).mono ?_; rintro e w1 ⟨rfl, hE⟩))
  have hz : w.heap.size < w1.heap.size := by have := hE.size; simp at this; omega
  have hc0 : w1.cell? ⟨w.heap.size, 0, none⟩ = some (.int .i64 y) := by rw [hE.cells _ _ (by simp)]; simp
  have hc1 : w1.cell? ⟨w.heap.size, 1, none⟩ = some (.int .i64 m) := by rw [hE.cells _ _ (by simp)]; simp
  have hc2 : w1.cell? ⟨w.heap.size, 2, none⟩ = some (.int .i64 d) := by rw [hE.cells _ _ (by simp)]; simp
  have hc3 : w1.cell? ⟨w.heap.size, 3, none⟩ = some (.int .i64 h) := by rw [hE.cells _ _ (by simp)]; simp
  have hc4 : w1.cell? ⟨w.heap.size, 4, none⟩ = some (.int .i64 mi) := by rw [hE.cells _ _ (by simp)]; simp
  have hc5 : w1.cell? ⟨w.heap.size, 5, none⟩ = some (.int .i64 s) := by rw [hE.cells _ _ (by simp)]; simp
  generalize hbk : w.heap.size = B at hz hc0 hc1 hc2 hc3 hc4 hc5 ⊢
  have Hbk := Lib.hid hbk
  clear hbk
  go_wp2_with fail
  go_region_held3 (fun w' => w'.cell? ⟨B, 0, none⟩ = some (.int .i64 y) ∧ w'.cell? ⟨B, 1, none⟩ = some (.int .i64 m) ∧ w'.cell? ⟨B, 2, none⟩ = some (.int .i64 d) ∧ w'.cell? ⟨B, 3, none⟩ = some (.int .i64 h) ∧ w'.cell? ⟨B, 4, none⟩ = some (.int .i64 mi) ∧ w'.cell? ⟨B, 5, none⟩ = some (.int .i64 s) ∧ B < w'.heap.size) (first | go_keep | exact S2.out | exact S3.out | exact S4.out | exact S5.out)
    (first
      | (go_at_call 66; (with_reducible refine (ctext_yes _ _ _ _ hv).mono ?_); rintro e w2 ⟨rfl, hE2⟩; have S2 := Lib.hid (ext6 hE2 ⟨hc0, hc1, hc2, hc3, hc4, hc5, hz⟩))
      | (go_at_call 64; (with_reducible refine (twocl_c h _ (by omega) (by omega)).mono ?_); rintro e w3 ⟨rfl, hE3⟩; have S3 := Lib.hid (ext6 hE3 S2.out))
      | (go_at_call 64; (with_reducible refine (twocl_c mi _ (by omega) (by omega)).mono ?_); rintro e w4 ⟨rfl, hE4⟩; have S4 := Lib.hid (ext6 hE4 S3.out))
      | (go_at_call 64; (with_reducible refine (twocl_c s _ (by omega) (by omega)).mono ?_); rintro e w5 ⟨rfl, hE5⟩; have S5 := Lib.hid (ext6 hE5 S4.out)))
  all_goals
    go_wp2
    go_ret
    refine ⟨ret_s (by apply ByteArray.ext; simp [mtx]), ?_⟩
    exact ((((Ext.refl w).alloc _).trans hE).drew).trans (hE2.trans (hE3.trans (hE4.trans hE5)))
set_option maxHeartbeats 400000 in
theorem mtext_no (y m d h mi s : Int) (w : World) (hv : ¬ (vldB y m d = true ∧ tmB h mi s = true)) :
    Calls Tryd.prog 40 #[.agg #[.int .i64 y, .int .i64 m, .int .i64 d, .int .i64 h, .int .i64 mi, .int .i64 s]] w fun e w' => e = .returned (.string ⟨#[]⟩) ∧ Ext w w' := by
  have Hv := Lib.hid hv
  clear hv
  go_enter Tryd.func40, Tryd.ntmps40
  go_wp2_with (first
    | (go_at_call 24; refine (of_no _ _ _ _ _ _ _ Hv.out).mono ?_; rintro e w1 ⟨rfl, hE⟩))
  go_ret
  exact ⟨rfl, ((Ext.refl w).alloc _).trans hE⟩

set_option maxRecDepth 100000 in
set_option maxHeartbeats 1000000 in
theorem rmtext_yes (y m d h mi s : Int) (w : World) (hv : vldB y m d = true) (ht : tmB h mi s = true) :
    Calls Tryd.prog 43 #[.agg #[.int .i64 y, .int .i64 m, .int .i64 d, .int .i64 h, .int .i64 mi, .int .i64 s]] w fun e w' => e = .returned (.string ⟨(mtx y m d h mi s).toArray⟩) ∧ Ext w w' := by
  obtain ⟨a, b, c, f, g, i⟩ := tm_iff.1 ht
  have L1 := dtx_length y m d
  have L2 := padN_length 2 h.toNat
  have L3 := padN_length 2 mi.toNat
  have L4 := padN_length 2 s.toNat
  go_enter Tryd.func43, Tryd.ntmps43
  go_wp2_with fail
  obtain ⟨w1, hw1⟩ : ∃ w1, w1 = w.alloc (.cells #[.int .i64 y, .int .i64 m, .int .i64 d, .int .i64 h, .int .i64 mi, .int .i64 s] 44) := ⟨_, rfl⟩
  have hE : Ext w w1 := by rw [hw1]; exact (Ext.refl w).alloc _
  have hz : w.heap.size < w1.heap.size := by rw [hw1]; simp
  have hc0 : w1.cell? ⟨w.heap.size, 0, none⟩ = some (.int .i64 y) := by rw [hw1]; simp
  have hc1 : w1.cell? ⟨w.heap.size, 1, none⟩ = some (.int .i64 m) := by rw [hw1]; simp
  have hc2 : w1.cell? ⟨w.heap.size, 2, none⟩ = some (.int .i64 d) := by rw [hw1]; simp
  have hc3 : w1.cell? ⟨w.heap.size, 3, none⟩ = some (.int .i64 h) := by rw [hw1]; simp
  have hc4 : w1.cell? ⟨w.heap.size, 4, none⟩ = some (.int .i64 mi) := by rw [hw1]; simp
  have hc5 : w1.cell? ⟨w.heap.size, 5, none⟩ = some (.int .i64 s) := by rw [hw1]; simp
  rw [← hw1]
  clear hw1
  generalize hbk : w.heap.size = B at hz hc0 hc1 hc2 hc3 hc4 hc5 ⊢
  have Hbk := Lib.hid hbk
  clear hbk
  go_region_held3 (fun w' => w'.cell? ⟨B, 0, none⟩ = some (.int .i64 y) ∧ w'.cell? ⟨B, 1, none⟩ = some (.int .i64 m) ∧ w'.cell? ⟨B, 2, none⟩ = some (.int .i64 d) ∧ w'.cell? ⟨B, 3, none⟩ = some (.int .i64 h) ∧ w'.cell? ⟨B, 4, none⟩ = some (.int .i64 mi) ∧ w'.cell? ⟨B, 5, none⟩ = some (.int .i64 s) ∧ B < w'.heap.size) (first | go_keep | exact S2.out | exact S3.out | exact S4.out | exact S5.out)
    (first
      | (go_at_call 72; (with_reducible refine (rctext_yes _ _ _ _ hv).mono ?_); rintro e w2 ⟨rfl, hE2⟩; have S2 := Lib.hid (ext6 hE2 ⟨hc0, hc1, hc2, hc3, hc4, hc5, hz⟩))
      | (go_at_call 73; (with_reducible refine (two_c h _ (by omega) (by omega)).mono ?_); rintro e w3 ⟨rfl, hE3⟩; have S3 := Lib.hid (ext6 hE3 S2.out))
      | (go_at_call 73; (with_reducible refine (two_c mi _ (by omega) (by omega)).mono ?_); rintro e w4 ⟨rfl, hE4⟩; have S4 := Lib.hid (ext6 hE4 S3.out))
      | (go_at_call 73; (with_reducible refine (two_c s _ (by omega) (by omega)).mono ?_); rintro e w5 ⟨rfl, hE5⟩; have S5 := Lib.hid (ext6 hE5 S4.out)))
  all_goals
    go_wp2
    go_ret
    refine ⟨ret_s (by apply ByteArray.ext; simp [mtx]), ?_⟩
    exact (hE.drew).trans (hE2.trans (hE3.trans (hE4.trans hE5)))
end Go.Proofs.YtplckoffiebibaaDoor
