/- The walks of the reference's texts. -/
import Derived.Test.YtplckoffiebibaaDoorTxt2
namespace Go.Proofs.YtplckoffiebibaaDoor
open Go.RowKit

theorem enc_ascii (n : Int) (h0 : 0 ≤ n) (h : n < 128) : Utf8.encode n = ⟨#[UInt8.ofNat n.toNat]⟩ := by
  unfold Utf8.encode
  have hv : Utf8.valid n = true := by unfold Utf8.valid; simp; omega
  have h2 : n.toNat < 0x80 := by omega
  simp [hv, h2]
theorem dgI (q : Nat) : UInt8.ofNat (48 + (q : Int) % 10).toNat = dg1 q := by
  unfold dg1
  congr 1

theorem str_cons (c : UInt8) (l : List UInt8) : (⟨#[c]⟩ : ByteArray) ++ ⟨l.toArray⟩ = ⟨(c :: l).toArray⟩ := by
  apply ByteArray.ext
  simp
set_option maxHeartbeats 1000000 in
theorem digits_c (N K : Nat) (w : World) (hN : N < 10000000000) (hK : K ≤ 20) :
    Calls Tryd.prog 89 #[.int .i64 (N : Int), .int .i64 (K : Int)] w fun e w' => e = .returned (.string ⟨(padN K N).toArray⟩) ∧ Ext w w' := by
  go_enter Tryd.func89, Tryd.ntmps89
  go_wp2_with fail
  go_loop [0, 5, 6] (fun n s i => ∃ j q : Nat, j ≤ K ∧ i = .int .i64 (j : Int) ∧ n = .int .i64 (q : Int) ∧ Hid (q = N / 10 ^ j) ∧ s = .string ⟨(padN j N).toArray⟩) (fun _ _ i => K - (intOf i).toNat)
  case atStart => exact ⟨0, N, by omega, rfl, rfl, by simp [Hid], rfl⟩
  case round =>
    obtain ⟨j, q, hj, rfl, rfl, Hq, rfl⟩ := hrel
    have hq : q ≤ N := by rw [Hq.out]; exact Nat.div_le_self _ _
    have hl := padN_length j N
    by_cases hlt : j < K
    · have he : Utf8.encode (48 + (q : Int) % 10) = ⟨#[dg1 q]⟩ := by rw [enc_ascii (48 + (q : Int) % 10) (by omega) (by omega), dgI]
      go_wp2
      go_round
      case rel => exact ⟨j + 1, q / 10, by omega, by go_num, by congr 1, div_pow_succ N j q Hq.out, (by rw [str_cons, padN_cons, ← Hq.out] : Value.string (⟨#[dg1 q]⟩ ++ ⟨(padN j N).toArray⟩) = Value.string ⟨(padN (j + 1) N).toArray⟩)⟩
      case measure => simp [intOf]; omega
    · obtain rfl : j = K := by omega
      go_wp2
      go_ret
      exact ⟨rfl, Ext.refl _⟩
theorem digits_4 (n : Int) (w : World) (h0 : 0 ≤ n) (h : n ≤ 9999) :
    Calls Tryd.prog 89 #[.int .i64 n, .int .i64 4] w fun e w' => e = .returned (.string ⟨(padN 4 n.toNat).toArray⟩) ∧ Ext w w' := by
  obtain ⟨N, rfl⟩ := Int.eq_ofNat_of_zero_le h0
  exact digits_c N 4 w (by omega) (by omega)
theorem digits_2 (n : Int) (w : World) (h0 : 0 ≤ n) (h : n ≤ 99) :
    Calls Tryd.prog 89 #[.int .i64 n, .int .i64 2] w fun e w' => e = .returned (.string ⟨(padN 2 n.toNat).toArray⟩) ∧ Ext w w' := by
  obtain ⟨N, rfl⟩ := Int.eq_ofNat_of_zero_le h0
  exact digits_c N 2 w (by omega) (by omega)
set_option maxRecDepth 100000 in
set_option maxHeartbeats 1000000 in
theorem rctext_yes (y m d : Int) (w : World) (hv : vldB y m d = true) : Calls Tryd.prog 72 #[.agg #[.int .i64 y, .int .i64 m, .int .i64 d]] w fun e w' => e = .returned (.string ⟨(dtx y m d).toArray⟩) ∧ Ext w w' := by
  obtain ⟨a, b, c, f, g, i, _⟩ := vld_parts hv
  have L1 := padN_length 4 y.toNat
  have L2 := padN_length 2 m.toNat
  have L3 := padN_length 2 d.toNat
  go_enter Tryd.func72, Tryd.ntmps72
  go_wp2_with (first
    | (go_at_call 47; refine (rvalid_c _ _ _ _).mono ?_; rintro e w1 ⟨rfl, hE⟩))
  have hz : w.heap.size < w1.heap.size := by have := hE.size; simp at this; omega
  have hc0 : w1.cell? ⟨w.heap.size, 0, none⟩ = some (.int .i64 y) := by rw [hE.cells _ _ (by simp)]; simp
  have hc1 : w1.cell? ⟨w.heap.size, 1, none⟩ = some (.int .i64 m) := by rw [hE.cells _ _ (by simp)]; simp
  have hc2 : w1.cell? ⟨w.heap.size, 2, none⟩ = some (.int .i64 d) := by rw [hE.cells _ _ (by simp)]; simp
  generalize hbk : w.heap.size = B at hz hc0 hc1 hc2 ⊢
  have Hbk := Lib.hid hbk
  clear hbk
  go_wp2_with fail
  go_region_held3 (fun w' => w'.cell? ⟨B, 0, none⟩ = some (.int .i64 y) ∧ w'.cell? ⟨B, 1, none⟩ = some (.int .i64 m) ∧ w'.cell? ⟨B, 2, none⟩ = some (.int .i64 d) ∧ B < w'.heap.size) (first | go_keep | exact S2.out | exact S3.out | exact S4.out)
    (first
      | (go_at_call 89; (with_reducible refine (digits_4 y _ (by omega) (by omega)).mono ?_); rintro e w2 ⟨rfl, hE2⟩; have S2 := Lib.hid (ext3 hE2 ⟨hc0, hc1, hc2, hz⟩))
      | (go_at_call 89; (with_reducible refine (digits_2 m _ (by omega) (by omega)).mono ?_); rintro e w3 ⟨rfl, hE3⟩; have S3 := Lib.hid (ext3 hE3 S2.out))
      | (go_at_call 89; (with_reducible refine (digits_2 d _ (by omega) (by omega)).mono ?_); rintro e w4 ⟨rfl, hE4⟩; have S4 := Lib.hid (ext3 hE4 S3.out)))
  all_goals
    go_wp2
    go_ret
    refine ⟨ret_s (by apply ByteArray.ext; simp [dtx]), ?_⟩
    exact ((((Ext.refl w).alloc _).trans hE).drew).trans (hE2.trans (hE3.trans hE4))

theorem padN_two (n : Nat) (_ : n ≤ 99) : padN 2 n = [dg1 (n / 10), dg1 n] := by simp [padN]
set_option maxHeartbeats 1000000 in
theorem two_c (n : Int) (w : World) (h0 : 0 ≤ n) (h : n ≤ 99) :
    Calls Tryd.prog 73 #[.int .i64 n] w fun e w' => e = .returned (.string ⟨(padN 2 n.toNat).toArray⟩) ∧ Ext w w' := by
  obtain ⟨N, rfl⟩ := Int.eq_ofNat_of_zero_le h0
  have hcv : (convert 59 9 (.slice (some ⟨w.heap.size, 0, none⟩) 2 2)).run Tryd.prog (w.alloc (.cells #[.int .u8 (48 + (N : Int) / 10 % 10), .int .u8 (48 + (N : Int) % 10)] 5)) = .ok (.string ⟨(padN 2 N).toArray⟩) (w.alloc (.cells #[.int .u8 (48 + (N : Int) / 10 % 10), .int .u8 (48 + (N : Int) % 10)] 5)) := by
    have hh := run_convert_bytes_back (P := Tryd.prog) (w.alloc (.cells #[.int .u8 (48 + (N : Int) / 10 % 10), .int .u8 (48 + (N : Int) % 10)] 5)) 59 9 5 ⟨w.heap.size, 0, none⟩ 2 (padN 2 N) Tryd.underlying59 Tryd.underlying5 Tryd.underlying9 (by
      intro j hj
      rw [padN_length] at hj
      rw [show (⟨w.heap.size, 0, none⟩ : Addr).add j = ⟨w.heap.size, j, none⟩ from by unfold Addr.add; split <;> simp_all, World.cell?_alloc_new]
      rcases (show j = 0 ∨ j = 1 by omega) with rfl | rfl
      · simp [padN, dg1_toNat]
      · simp [padN, dg1_toNat])
    rw [padN_length] at hh
    exact hh
  go_enter Tryd.func73, Tryd.ntmps73
  go_wp2
  go_ret
  exact ⟨rfl, (Ext.refl w).alloc _⟩
end Go.Proofs.YtplckoffiebibaaDoor
