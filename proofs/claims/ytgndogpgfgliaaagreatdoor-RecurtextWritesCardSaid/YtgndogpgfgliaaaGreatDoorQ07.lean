/- The walks of civil.Text and of its reference. -/
import Derived.Test.YtgndogpgfgliaaaGreatDoorQ05
import Derived.Test.YtgndogpgfgliaaaGreatDoorQ06
import Derived.Test.YtgndogpgfgliaaaGreatDoorQ00
import Derived.Lib.AtoiAll
namespace Go.Proofs.YtgndogpgfgliaaaGreatDoor
open Go.RowKit

theorem ext3 {W W' : World} {B : Nat} {v0 v1 v2 : Value} (hE : Ext W W') (h : W.cell? ⟨B, 0, none⟩ = some v0 ∧ W.cell? ⟨B, 1, none⟩ = some v1 ∧ W.cell? ⟨B, 2, none⟩ = some v2 ∧ B < W.heap.size) :
    W'.cell? ⟨B, 0, none⟩ = some v0 ∧ W'.cell? ⟨B, 1, none⟩ = some v1 ∧ W'.cell? ⟨B, 2, none⟩ = some v2 ∧ B < W'.heap.size :=
  ⟨(hE.cells _ _ h.2.2.2).trans h.1, (hE.cells _ _ h.2.2.2).trans h.2.1, (hE.cells _ _ h.2.2.2).trans h.2.2.1, Nat.lt_of_lt_of_le h.2.2.2 hE.size⟩
theorem ext6 {W W' : World} {B : Nat} {v0 v1 v2 v3 v4 v5 : Value} (hE : Ext W W') (h : W.cell? ⟨B, 0, none⟩ = some v0 ∧ W.cell? ⟨B, 1, none⟩ = some v1 ∧ W.cell? ⟨B, 2, none⟩ = some v2 ∧ W.cell? ⟨B, 3, none⟩ = some v3 ∧ W.cell? ⟨B, 4, none⟩ = some v4 ∧ W.cell? ⟨B, 5, none⟩ = some v5 ∧ B < W.heap.size) :
    W'.cell? ⟨B, 0, none⟩ = some v0 ∧ W'.cell? ⟨B, 1, none⟩ = some v1 ∧ W'.cell? ⟨B, 2, none⟩ = some v2 ∧ W'.cell? ⟨B, 3, none⟩ = some v3 ∧ W'.cell? ⟨B, 4, none⟩ = some v4 ∧ W'.cell? ⟨B, 5, none⟩ = some v5 ∧ B < W'.heap.size := by
  obtain ⟨h0, h1, h2, h3, h4, h5, hb⟩ := h
  exact ⟨(hE.cells _ _ hb).trans h0, (hE.cells _ _ hb).trans h1, (hE.cells _ _ hb).trans h2, (hE.cells _ _ hb).trans h3, (hE.cells _ _ hb).trans h4, (hE.cells _ _ hb).trans h5, Nat.lt_of_lt_of_le hb hE.size⟩
theorem str_app (a b : List UInt8) : (⟨a.toArray⟩ : ByteArray) ++ ⟨b.toArray⟩ = ⟨(a ++ b).toArray⟩ := by
  apply ByteArray.ext
  simp
/-- The text of a date. -/
def dtx (y m d : Int) : List UInt8 := padN 4 y.toNat ++ [45] ++ padN 2 m.toNat ++ [45] ++ padN 2 d.toNat
theorem itxI_pad (n : Int) (k : Nat) (hk : 1 ≤ k) (h0 : 0 ≤ n) (h : n < 10 ^ k) : itxI n k = padN k n.toNat := by
  unfold itxI
  rw [if_neg (by omega), show n.natAbs = n.toNat from by omega]
  exact itx_small hk (by
    have : ((n.toNat : Nat) : Int) < ((10 ^ k : Nat) : Int) := by
      rw [Int.toNat_of_nonneg h0]; simpa using h
    exact Int.ofNat_lt.1 this)
theorem text_pad (n : Int) (k : Nat) (w : World) (hk : 1 ≤ k) (hk2 : k ≤ 4) (h0 : 0 ≤ n) (h : n < 10 ^ k) :
    Calls Tryz.prog 101 #[.int .i64 n, .int .i64 (k : Int)] w fun e w' => e = .returned (.string ⟨(padN k n.toNat).toArray⟩) ∧ Ext w w' := by
  have hb : n < 10000 := by
    have : (10 : Int) ^ k ≤ 10 ^ 4 := by
      rcases (show k = 1 ∨ k = 2 ∨ k = 3 ∨ k = 4 by omega) with rfl | rfl | rfl | rfl <;> decide
    have : (10 : Int) ^ 4 = 10000 := by decide
    omega
  have := text_c n (k : Int) w (by omega) (by omega) (by omega) (by omega)
  rw [Int.toNat_natCast, itxI_pad n k hk h0 h] at this
  exact this

theorem text_4 (n : Int) (w : World) (h0 : 0 ≤ n) (h : n ≤ 9999) :
    Calls Tryz.prog 101 #[.int .i64 n, .int .i64 4] w fun e w' => e = .returned (.string ⟨(padN 4 n.toNat).toArray⟩) ∧ Ext w w' :=
  text_pad n 4 w (by omega) (by omega) h0 (by simp; omega)
theorem text_2 (n : Int) (w : World) (h0 : 0 ≤ n) (h : n ≤ 99) :
    Calls Tryz.prog 101 #[.int .i64 n, .int .i64 2] w fun e w' => e = .returned (.string ⟨(padN 2 n.toNat).toArray⟩) ∧ Ext w w' :=
  text_pad n 2 w (by omega) (by omega) h0 (by simp; omega)

set_option maxRecDepth 100000 in
set_option maxHeartbeats 1000000 in
theorem ctext_yes (y m d : Int) (w : World) (hv : vldB y m d = true) : Calls Tryz.prog 150 #[.agg #[.int .i64 y, .int .i64 m, .int .i64 d]] w fun e w' => e = .returned (.string ⟨(dtx y m d).toArray⟩) ∧ Ext w w' := by
  obtain ⟨a, b, c, f, g, i, _⟩ := vld_parts hv
  have L1 := padN_length 4 y.toNat
  have L2 := padN_length 2 m.toNat
  have L3 := padN_length 2 d.toNat
  go_enter Tryz.func150, Tryz.ntmps150
  go_wp2_with (first
    | (go_at_call 172; refine (valid_c _ _ _ _).mono ?_; rintro e w1 ⟨rfl, hE⟩))
  have hz : w.heap.size < w1.heap.size := by have := hE.size; simp at this; omega
  have hc0 : w1.cell? ⟨w.heap.size, 0, none⟩ = some (.int .i64 y) := by rw [hE.cells _ _ (by simp)]; simp
  have hc1 : w1.cell? ⟨w.heap.size, 1, none⟩ = some (.int .i64 m) := by rw [hE.cells _ _ (by simp)]; simp
  have hc2 : w1.cell? ⟨w.heap.size, 2, none⟩ = some (.int .i64 d) := by rw [hE.cells _ _ (by simp)]; simp
  generalize hbk : w.heap.size = B at hz hc0 hc1 hc2 ⊢
  have Hbk := Lib.hid hbk
  clear hbk
  go_wp2_with fail
  go_region_held3 (fun w' => w'.cell? ⟨B, 0, none⟩ = some (.int .i64 y) ∧ w'.cell? ⟨B, 1, none⟩ = some (.int .i64 m) ∧ w'.cell? ⟨B, 2, none⟩ = some (.int .i64 d) ∧ B < w'.heap.size) (first | go_keep | exact S2.out | exact S3.out | exact S4.out)
    (first
      | (go_at_call 101; (with_reducible refine (text_4 y _ (by omega) (by omega)).mono ?_); rintro e w2 ⟨rfl, hE2⟩; have S2 := Lib.hid (ext3 hE2 ⟨hc0, hc1, hc2, hz⟩))
      | (go_at_call 101; (with_reducible refine (text_2 m _ (by omega) (by omega)).mono ?_); rintro e w3 ⟨rfl, hE3⟩; have S3 := Lib.hid (ext3 hE3 S2.out))
      | (go_at_call 101; (with_reducible refine (text_2 d _ (by omega) (by omega)).mono ?_); rintro e w4 ⟨rfl, hE4⟩; have S4 := Lib.hid (ext3 hE4 S3.out)))
  all_goals
    go_wp2
    go_ret
    refine ⟨ret_s (by apply ByteArray.ext; simp [dtx]), ?_⟩
    exact ((((Ext.refl w).alloc _).trans hE).drew).trans (hE2.trans (hE3.trans hE4))
theorem ctext_no (y m d : Int) (w : World) (hv : vldB y m d = false) : Calls Tryz.prog 150 #[.agg #[.int .i64 y, .int .i64 m, .int .i64 d]] w fun e w' => e = .returned (.string ⟨#[]⟩) ∧ Ext w w' := by
  go_enter Tryz.func150, Tryz.ntmps150
  go_wp2_with (first
    | (go_at_call 172; refine (valid_c _ _ _ _).mono ?_; rintro e w1 ⟨rfl, hE⟩))
  go_ret
  exact ⟨rfl, ((Ext.refl w).alloc _).trans hE⟩
end Go.Proofs.YtgndogpgfgliaaaGreatDoor
/- The walks of the reference's texts. -/
namespace Go.Proofs.YtgndogpgfgliaaaGreatDoor
open Go.RowKit

theorem enc_ascii (n : Int) (h0 : 0 ≤ n) (h : n < 128) : Utf8.encode n = ⟨#[UInt8.ofNat n.toNat]⟩ := by
  unfold Utf8.encode
  have hv : Utf8.valid n = true := by unfold Utf8.valid; simp; omega
  have h2 : n.toNat < 0x80 := by omega
  simp [hv, h2]
theorem dgI (q : Nat) : UInt8.ofNat (48 + (q : Int) % 10).toNat = dg1 q := by
  unfold dg1
  congr 1

theorem str_cons (c : UInt8) (l : List UInt8) : (⟨#[c]⟩ : ByteArray) ++ ⟨l.toArray⟩ = ⟨(c :: l).toArray⟩ := by
  apply ByteArray.ext
  simp
set_option maxHeartbeats 1000000 in
theorem digits_c (N K : Nat) (w : World) (hN : N < 10000000000) (hK : K ≤ 20) :
    Calls Tryz.prog 174 #[.int .i64 (N : Int), .int .i64 (K : Int)] w fun e w' => e = .returned (.string ⟨(padN K N).toArray⟩) ∧ Ext w w' := by
  go_enter Tryz.func174, Tryz.ntmps174
  go_wp2_with fail
  go_loop [0, 5, 6] (fun n s i => ∃ j q : Nat, j ≤ K ∧ i = .int .i64 (j : Int) ∧ n = .int .i64 (q : Int) ∧ Hid (q = N / 10 ^ j) ∧ s = .string ⟨(padN j N).toArray⟩) (fun _ _ i => K - (intOf i).toNat)
  case atStart => exact ⟨0, N, by omega, rfl, rfl, by simp [Hid], rfl⟩
  case round =>
    obtain ⟨j, q, hj, rfl, rfl, Hq, rfl⟩ := hrel
    have hq : q ≤ N := by rw [Hq.out]; exact Nat.div_le_self _ _
    have hl := padN_length j N
    by_cases hlt : j < K
    · have he : Utf8.encode (48 + (q : Int) % 10) = ⟨#[dg1 q]⟩ := by rw [enc_ascii (48 + (q : Int) % 10) (by omega) (by omega), dgI]
      go_wp2
      go_round
      case rel => exact ⟨j + 1, q / 10, by omega, by go_num, by congr 1, div_pow_succ N j q Hq.out, (by rw [str_cons, padN_cons, ← Hq.out] : Value.string (⟨#[dg1 q]⟩ ++ ⟨(padN j N).toArray⟩) = Value.string ⟨(padN (j + 1) N).toArray⟩)⟩
      case measure => simp [intOf]; omega
    · obtain rfl : j = K := by omega
      go_wp2
      go_ret
      exact ⟨rfl, Ext.refl _⟩
theorem digits_4 (n : Int) (w : World) (h0 : 0 ≤ n) (h : n ≤ 9999) :
    Calls Tryz.prog 174 #[.int .i64 n, .int .i64 4] w fun e w' => e = .returned (.string ⟨(padN 4 n.toNat).toArray⟩) ∧ Ext w w' := by
  obtain ⟨N, rfl⟩ := Int.eq_ofNat_of_zero_le h0
  exact digits_c N 4 w (by omega) (by omega)
theorem digits_2 (n : Int) (w : World) (h0 : 0 ≤ n) (h : n ≤ 99) :
    Calls Tryz.prog 174 #[.int .i64 n, .int .i64 2] w fun e w' => e = .returned (.string ⟨(padN 2 n.toNat).toArray⟩) ∧ Ext w w' := by
  obtain ⟨N, rfl⟩ := Int.eq_ofNat_of_zero_le h0
  exact digits_c N 2 w (by omega) (by omega)
set_option maxRecDepth 100000 in
set_option maxHeartbeats 1000000 in
theorem rctext_yes (y m d : Int) (w : World) (hv : vldB y m d = true) : Calls Tryz.prog 140 #[.agg #[.int .i64 y, .int .i64 m, .int .i64 d]] w fun e w' => e = .returned (.string ⟨(dtx y m d).toArray⟩) ∧ Ext w w' := by
  obtain ⟨a, b, c, f, g, i, _⟩ := vld_parts hv
  have L1 := padN_length 4 y.toNat
  have L2 := padN_length 2 m.toNat
  have L3 := padN_length 2 d.toNat
  go_enter Tryz.func140, Tryz.ntmps140
  go_wp2_with (first
    | (go_at_call 154; refine (rvalid_c _ _ _ _).mono ?_; rintro e w1 ⟨rfl, hE⟩))
  have hz : w.heap.size < w1.heap.size := by have := hE.size; simp at this; omega
  have hc0 : w1.cell? ⟨w.heap.size, 0, none⟩ = some (.int .i64 y) := by rw [hE.cells _ _ (by simp)]; simp
  have hc1 : w1.cell? ⟨w.heap.size, 1, none⟩ = some (.int .i64 m) := by rw [hE.cells _ _ (by simp)]; simp
  have hc2 : w1.cell? ⟨w.heap.size, 2, none⟩ = some (.int .i64 d) := by rw [hE.cells _ _ (by simp)]; simp
  generalize hbk : w.heap.size = B at hz hc0 hc1 hc2 ⊢
  have Hbk := Lib.hid hbk
  clear hbk
  go_wp2_with fail
  go_region_held3 (fun w' => w'.cell? ⟨B, 0, none⟩ = some (.int .i64 y) ∧ w'.cell? ⟨B, 1, none⟩ = some (.int .i64 m) ∧ w'.cell? ⟨B, 2, none⟩ = some (.int .i64 d) ∧ B < w'.heap.size) (first | go_keep | exact S2.out | exact S3.out | exact S4.out)
    (first
      | (go_at_call 174; (with_reducible refine (digits_4 y _ (by omega) (by omega)).mono ?_); rintro e w2 ⟨rfl, hE2⟩; have S2 := Lib.hid (ext3 hE2 ⟨hc0, hc1, hc2, hz⟩))
      | (go_at_call 174; (with_reducible refine (digits_2 m _ (by omega) (by omega)).mono ?_); rintro e w3 ⟨rfl, hE3⟩; have S3 := Lib.hid (ext3 hE3 S2.out))
      | (go_at_call 174; (with_reducible refine (digits_2 d _ (by omega) (by omega)).mono ?_); rintro e w4 ⟨rfl, hE4⟩; have S4 := Lib.hid (ext3 hE4 S3.out)))
  all_goals
    go_wp2
    go_ret
    refine ⟨ret_s (by apply ByteArray.ext; simp [dtx]), ?_⟩
    exact ((((Ext.refl w).alloc _).trans hE).drew).trans (hE2.trans (hE3.trans hE4))

theorem padN_two (n : Nat) (_ : n ≤ 99) : padN 2 n = [dg1 (n / 10), dg1 n] := by simp [padN]
set_option maxHeartbeats 1000000 in
theorem two_c (n : Int) (w : World) (h0 : 0 ≤ n) (h : n ≤ 99) :
    Calls Tryz.prog 141 #[.int .i64 n] w fun e w' => e = .returned (.string ⟨(padN 2 n.toNat).toArray⟩) ∧ Ext w w' := by
  obtain ⟨N, rfl⟩ := Int.eq_ofNat_of_zero_le h0
  have hcv : (convert 108 9 (.slice (some ⟨w.heap.size, 0, none⟩) 2 2)).run Tryz.prog (w.alloc (.cells #[.int .u8 (48 + (N : Int) / 10 % 10), .int .u8 (48 + (N : Int) % 10)] 5)) = .ok (.string ⟨(padN 2 N).toArray⟩) (w.alloc (.cells #[.int .u8 (48 + (N : Int) / 10 % 10), .int .u8 (48 + (N : Int) % 10)] 5)) := by
    have hh := run_convert_bytes_back (P := Tryz.prog) (w.alloc (.cells #[.int .u8 (48 + (N : Int) / 10 % 10), .int .u8 (48 + (N : Int) % 10)] 5)) 108 9 5 ⟨w.heap.size, 0, none⟩ 2 (padN 2 N) Tryz.underlying108 Tryz.underlying5 Tryz.underlying9 (by
      intro j hj
      rw [padN_length] at hj
      rw [show (⟨w.heap.size, 0, none⟩ : Addr).add j = ⟨w.heap.size, j, none⟩ from by unfold Addr.add; split <;> simp_all, World.cell?_alloc_new]
      rcases (show j = 0 ∨ j = 1 by omega) with rfl | rfl
      · simp [padN, dg1_toNat]
      · simp [padN, dg1_toNat])
    rw [padN_length] at hh
    exact hh
  go_enter Tryz.func141, Tryz.ntmps141
  go_wp2
  go_ret
  exact ⟨rfl, (Ext.refl w).alloc _⟩
end Go.Proofs.YtgndogpgfgliaaaGreatDoor
/- The walks of clock.Text and of its reference. -/
namespace Go.Proofs.YtgndogpgfgliaaaGreatDoor
open Go.RowKit

/-- The text of a moment. -/
def mtx (y m d h mi s : Int) : List UInt8 := dtx y m d ++ [84] ++ padN 2 h.toNat ++ [58] ++ padN 2 mi.toNat ++ [58] ++ padN 2 s.toNat
theorem dtx_length (y m d : Int) : (dtx y m d).length = 10 := by simp [dtx, padN_length]
theorem mtx_length (y m d h mi s : Int) : (mtx y m d h mi s).length = 19 := by simp [mtx, dtx_length, padN_length]

theorem twocl_c (n : Int) (w : World) (h0 : 0 ≤ n) (h : n ≤ 99) :
    Calls Tryz.prog 149 #[.int .i64 n] w fun e w' => e = .returned (.string ⟨(padN 2 n.toNat).toArray⟩) ∧ Ext w w' := by
  go_enter Tryz.func149, Tryz.ntmps149
  go_wp2_with (go_at_call 101; refine (text_2 n _ h0 h).mono ?_; rintro e w2 ⟨rfl, hE2⟩)
  go_ret
  exact ⟨rfl, hE2⟩

set_option maxRecDepth 100000 in
set_option maxHeartbeats 1000000 in
theorem mtext_yes (y m d h mi s : Int) (w : World) (hv : vldB y m d = true) (ht : tmB h mi s = true) :
    Calls Tryz.prog 107 #[.agg #[.int .i64 y, .int .i64 m, .int .i64 d, .int .i64 h, .int .i64 mi, .int .i64 s]] w fun e w' => e = .returned (.string ⟨(mtx y m d h mi s).toArray⟩) ∧ Ext w w' := by
  obtain ⟨a, b, c, f, g, i⟩ := tm_iff.1 ht
  have L1 := dtx_length y m d
  have L2 := padN_length 2 h.toNat
  have L3 := padN_length 2 mi.toNat
  have L4 := padN_length 2 s.toNat
  go_enter Tryz.func107, Tryz.ntmps107
  go_wp2_with (first
    | (go_at_call 85; refine (of_yes _ _ _ _ _ _ _ hv ht).mono ?_; rintro e w1 ⟨rfl, hE⟩))
  have hz : w.heap.size < w1.heap.size := by have := hE.size; simp at this; omega
  have hc0 : w1.cell? ⟨w.heap.size, 0, none⟩ = some (.int .i64 y) := by rw [hE.cells _ _ (by simp)]; simp
  have hc1 : w1.cell? ⟨w.heap.size, 1, none⟩ = some (.int .i64 m) := by rw [hE.cells _ _ (by simp)]; simp
  have hc2 : w1.cell? ⟨w.heap.size, 2, none⟩ = some (.int .i64 d) := by rw [hE.cells _ _ (by simp)]; simp
  have hc3 : w1.cell? ⟨w.heap.size, 3, none⟩ = some (.int .i64 h) := by rw [hE.cells _ _ (by simp)]; simp
  have hc4 : w1.cell? ⟨w.heap.size, 4, none⟩ = some (.int .i64 mi) := by rw [hE.cells _ _ (by simp)]; simp
  have hc5 : w1.cell? ⟨w.heap.size, 5, none⟩ = some (.int .i64 s) := by rw [hE.cells _ _ (by simp)]; simp
  generalize hbk : w.heap.size = B at hz hc0 hc1 hc2 hc3 hc4 hc5 ⊢
  have Hbk := Lib.hid hbk
  clear hbk
  go_wp2_with fail
  go_region_held3 (fun w' => w'.cell? ⟨B, 0, none⟩ = some (.int .i64 y) ∧ w'.cell? ⟨B, 1, none⟩ = some (.int .i64 m) ∧ w'.cell? ⟨B, 2, none⟩ = some (.int .i64 d) ∧ w'.cell? ⟨B, 3, none⟩ = some (.int .i64 h) ∧ w'.cell? ⟨B, 4, none⟩ = some (.int .i64 mi) ∧ w'.cell? ⟨B, 5, none⟩ = some (.int .i64 s) ∧ B < w'.heap.size) (first | go_keep | exact S2.out | exact S3.out | exact S4.out | exact S5.out)
    (first
      | (go_at_call 150; (with_reducible refine (ctext_yes _ _ _ _ hv).mono ?_); rintro e w2 ⟨rfl, hE2⟩; have S2 := Lib.hid (ext6 hE2 ⟨hc0, hc1, hc2, hc3, hc4, hc5, hz⟩))
      | (go_at_call 149; (with_reducible refine (twocl_c h _ (by omega) (by omega)).mono ?_); rintro e w3 ⟨rfl, hE3⟩; have S3 := Lib.hid (ext6 hE3 S2.out))
      | (go_at_call 149; (with_reducible refine (twocl_c mi _ (by omega) (by omega)).mono ?_); rintro e w4 ⟨rfl, hE4⟩; have S4 := Lib.hid (ext6 hE4 S3.out))
      | (go_at_call 149; (with_reducible refine (twocl_c s _ (by omega) (by omega)).mono ?_); rintro e w5 ⟨rfl, hE5⟩; have S5 := Lib.hid (ext6 hE5 S4.out)))
  all_goals
    go_wp2
    go_ret
    refine ⟨ret_s (by apply ByteArray.ext; simp [mtx]), ?_⟩
    exact ((((Ext.refl w).alloc _).trans hE).drew).trans (hE2.trans (hE3.trans (hE4.trans hE5)))
set_option maxHeartbeats 400000 in
theorem mtext_no (y m d h mi s : Int) (w : World) (hv : ¬ (vldB y m d = true ∧ tmB h mi s = true)) :
    Calls Tryz.prog 107 #[.agg #[.int .i64 y, .int .i64 m, .int .i64 d, .int .i64 h, .int .i64 mi, .int .i64 s]] w fun e w' => e = .returned (.string ⟨#[]⟩) ∧ Ext w w' := by
  have Hv := Lib.hid hv
  clear hv
  go_enter Tryz.func107, Tryz.ntmps107
  go_wp2_with (first
    | (go_at_call 85; refine (of_no _ _ _ _ _ _ _ Hv.out).mono ?_; rintro e w1 ⟨rfl, hE⟩))
  go_ret
  exact ⟨rfl, ((Ext.refl w).alloc _).trans hE⟩

set_option maxRecDepth 100000 in
set_option maxHeartbeats 1000000 in
theorem rmtext_yes (y m d h mi s : Int) (w : World) (hv : vldB y m d = true) (ht : tmB h mi s = true) :
    Calls Tryz.prog 99 #[.agg #[.int .i64 y, .int .i64 m, .int .i64 d, .int .i64 h, .int .i64 mi, .int .i64 s]] w fun e w' => e = .returned (.string ⟨(mtx y m d h mi s).toArray⟩) ∧ Ext w w' := by
  obtain ⟨a, b, c, f, g, i⟩ := tm_iff.1 ht
  have L1 := dtx_length y m d
  have L2 := padN_length 2 h.toNat
  have L3 := padN_length 2 mi.toNat
  have L4 := padN_length 2 s.toNat
  go_enter Tryz.func99, Tryz.ntmps99
  go_wp2_with fail
  obtain ⟨w1, hw1⟩ : ∃ w1, w1 = w.alloc (.cells #[.int .i64 y, .int .i64 m, .int .i64 d, .int .i64 h, .int .i64 mi, .int .i64 s] 98) := ⟨_, rfl⟩
  have hE : Ext w w1 := by rw [hw1]; exact (Ext.refl w).alloc _
  have hz : w.heap.size < w1.heap.size := by rw [hw1]; simp
  have hc0 : w1.cell? ⟨w.heap.size, 0, none⟩ = some (.int .i64 y) := by rw [hw1]; simp
  have hc1 : w1.cell? ⟨w.heap.size, 1, none⟩ = some (.int .i64 m) := by rw [hw1]; simp
  have hc2 : w1.cell? ⟨w.heap.size, 2, none⟩ = some (.int .i64 d) := by rw [hw1]; simp
  have hc3 : w1.cell? ⟨w.heap.size, 3, none⟩ = some (.int .i64 h) := by rw [hw1]; simp
  have hc4 : w1.cell? ⟨w.heap.size, 4, none⟩ = some (.int .i64 mi) := by rw [hw1]; simp
  have hc5 : w1.cell? ⟨w.heap.size, 5, none⟩ = some (.int .i64 s) := by rw [hw1]; simp
  rw [← hw1]
  clear hw1
  generalize hbk : w.heap.size = B at hz hc0 hc1 hc2 hc3 hc4 hc5 ⊢
  have Hbk := Lib.hid hbk
  clear hbk
  go_region_held3 (fun w' => w'.cell? ⟨B, 0, none⟩ = some (.int .i64 y) ∧ w'.cell? ⟨B, 1, none⟩ = some (.int .i64 m) ∧ w'.cell? ⟨B, 2, none⟩ = some (.int .i64 d) ∧ w'.cell? ⟨B, 3, none⟩ = some (.int .i64 h) ∧ w'.cell? ⟨B, 4, none⟩ = some (.int .i64 mi) ∧ w'.cell? ⟨B, 5, none⟩ = some (.int .i64 s) ∧ B < w'.heap.size) (first | go_keep | exact S2.out | exact S3.out | exact S4.out | exact S5.out)
    (first
      | (go_at_call 140; (with_reducible refine (rctext_yes _ _ _ _ hv).mono ?_); rintro e w2 ⟨rfl, hE2⟩; have S2 := Lib.hid (ext6 hE2 ⟨hc0, hc1, hc2, hc3, hc4, hc5, hz⟩))
      | (go_at_call 141; (with_reducible refine (two_c h _ (by omega) (by omega)).mono ?_); rintro e w3 ⟨rfl, hE3⟩; have S3 := Lib.hid (ext6 hE3 S2.out))
      | (go_at_call 141; (with_reducible refine (two_c mi _ (by omega) (by omega)).mono ?_); rintro e w4 ⟨rfl, hE4⟩; have S4 := Lib.hid (ext6 hE4 S3.out))
      | (go_at_call 141; (with_reducible refine (two_c s _ (by omega) (by omega)).mono ?_); rintro e w5 ⟨rfl, hE5⟩; have S5 := Lib.hid (ext6 hE5 S4.out)))
  all_goals
    go_wp2
    go_ret
    refine ⟨ret_s (by apply ByteArray.ext; simp [mtx]), ?_⟩
    exact (hE.drew).trans (hE2.trans (hE3.trans (hE4.trans hE5)))
end Go.Proofs.YtgndogpgfgliaaaGreatDoor
/- The texts of moments are ordered as the moments; plainly. -/
namespace Go.Proofs.YtgndogpgfgliaaaGreatDoor
set_option linter.unusedVariables false
set_option linter.unnecessarySimpa false
set_option linter.unusedSimpArgs false

theorem bl_irrefl : ∀ a : List UInt8, Op.bytesLess a a = false
  | [] => rfl
  | c :: r => by simp [Op.bytesLess, bl_irrefl r]
theorem bl_app : ∀ (a c b d : List UInt8), a.length = c.length → Op.bytesLess (a ++ b) (c ++ d) = (Op.bytesLess a c || (a == c && Op.bytesLess b d))
  | [], [], b, d, _ => by simp [Op.bytesLess]
  | [], _ :: _, _, _, h => by simp at h
  | _ :: _, [], _, _, h => by simp at h
  | x :: a, y :: c, b, d, h => by
    have ih := bl_app a c b d (by simpa using h)
    simp only [List.cons_append, Op.bytesLess, ih, List.cons_beq_cons]
    cases x == y <;> simp [Bool.or_assoc]
theorem bl_cons (c : UInt8) (s t : List UInt8) : Op.bytesLess (c :: s) (c :: t) = Op.bytesLess s t := by simp [Op.bytesLess]
theorem dg1_lt {n m : Nat} : (dg1 n < dg1 m) ↔ n % 10 < m % 10 := by
  rw [UInt8.lt_iff_toNat_lt, dg1_toNat, dg1_toNat]; omega
theorem dg1_eq {n m : Nat} : (dg1 n = dg1 m) ↔ n % 10 = m % 10 := by
  rw [← UInt8.toNat_inj, dg1_toNat, dg1_toNat]; omega
theorem padN_inj (k : Nat) : ∀ n m : Nat, n < 10 ^ k → m < 10 ^ k → (padN k n = padN k m ↔ n = m) := by
  induction k with
  | zero => intro n m h1 h2; simp at h1 h2; simp [padN]; omega
  | succ k ih =>
    intro n m h1 h2
    rw [Nat.pow_succ] at h1 h2
    constructor
    · intro h
      unfold padN at h
      obtain ⟨h3, h4⟩ := List.append_inj h (by simp [padN_length])
      have := (ih (n / 10) (m / 10) (by omega) (by omega)).1 h3
      have := dg1_eq.1 (by simpa using h4)
      omega
    · rintro rfl; rfl
theorem padN_less (k : Nat) : ∀ n m : Nat, n < 10 ^ k → m < 10 ^ k → (Op.bytesLess (padN k n) (padN k m) = true ↔ n < m) := by
  induction k with
  | zero => intro n m h1 h2; simp at h1 h2; simp [padN, Op.bytesLess]; omega
  | succ k ih =>
    intro n m h1 h2
    rw [Nat.pow_succ] at h1 h2
    have i1 := ih (n / 10) (m / 10) (by omega) (by omega)
    have i2 := padN_inj k (n / 10) (m / 10) (by omega) (by omega)
    unfold padN
    rw [bl_app _ _ _ _ (by simp [padN_length])]
    simp only [Bool.or_eq_true, Bool.and_eq_true, i1, beq_iff_eq, i2]
    have : Op.bytesLess [dg1 n] [dg1 m] = true ↔ n % 10 < m % 10 := by
      simp [Op.bytesLess, dg1_lt]
    rw [this]; omega
/-- One number and what follows. -/
theorem bl_pad (k n m : Nat) (s t : List UInt8) (h1 : n < 10 ^ k) (h2 : m < 10 ^ k) : Op.bytesLess (padN k n ++ s) (padN k m ++ t) = true ↔ n < m ∨ n = m ∧ Op.bytesLess s t = true := by
  rw [bl_app _ _ _ _ (by simp [padN_length])]
  simp only [Bool.or_eq_true, Bool.and_eq_true, padN_less k n m h1 h2, beq_iff_eq, padN_inj k n m h1 h2]
theorem mtx_assoc (y m d h mi s : Int) : mtx y m d h mi s = padN 4 y.toNat ++ (45 :: (padN 2 m.toNat ++ (45 :: (padN 2 d.toNat ++ (84 :: (padN 2 h.toNat ++ (58 :: (padN 2 mi.toNat ++ (58 :: (padN 2 s.toNat ++ [])))))))))) := by
  simp [mtx, dtx]
theorem dn_lex {y m d y' m' d' : Int} (h : vldB y m d = true) (h' : vldB y' m' d' = true) (e : y < y' ∨ y = y' ∧ (m < m' ∨ m = m' ∧ d < d')) : dn y m d < dn y' m' d' := by
  obtain ⟨a, b, c, f, g, _, i⟩ := vld_parts h
  obtain ⟨a', b', c', f', g', _, i'⟩ := vld_parts h'
  have p := dn_in h
  have p' := dn_in h'
  rcases e with e | ⟨rfl, e | ⟨rfl, e⟩⟩
  · have := yd_mono (y + 1) y' (by omega); omega
  · have := cum_mono y (m + 1) m' (by omega) (by omega) (by omega) a b; omega
  · unfold dn; omega
theorem mtx_less {y m d h mi s y' m' d' h' mi' s' : Int} (v : vldB y m d = true) (v' : vldB y' m' d' = true) (t : tmB h mi s = true) (t' : tmB h' mi' s' = true) :
    Op.bytesLess (mtx y m d h mi s) (mtx y' m' d' h' mi' s') = decide (inst y m d h mi s < inst y' m' d' h' mi' s') := by
  obtain ⟨a1, a2, a3, a4, a5, a6, _⟩ := vld_parts v
  obtain ⟨b1, b2, b3, b4, b5, b6, _⟩ := vld_parts v'
  obtain ⟨c1, c2, c3, c4, c5, c6⟩ := tm_iff.1 t
  obtain ⟨d1, d2, d3, d4, d5, d6⟩ := tm_iff.1 t'
  have l1 : y < y' ∨ y = y' ∧ (m < m' ∨ m = m' ∧ d < d') → dn y m d < dn y' m' d' := dn_lex v v'
  have l2 : y' < y ∨ y' = y ∧ (m' < m ∨ m' = m ∧ d' < d) → dn y' m' d' < dn y m d := dn_lex v' v
  have l3 : y = y' → m = m' → d = d' → dn y m d = dn y' m' d' := by rintro rfl rfl rfl; rfl
  rw [Bool.eq_iff_iff, decide_eq_true_eq, mtx_assoc, mtx_assoc]
  rw [bl_pad 4 _ _ _ _ (by omega) (by omega), bl_cons, bl_pad 2 _ _ _ _ (by omega) (by omega), bl_cons, bl_pad 2 _ _ _ _ (by omega) (by omega), bl_cons, bl_pad 2 _ _ _ _ (by omega) (by omega), bl_cons,
    bl_pad 2 _ _ _ _ (by omega) (by omega), bl_cons, bl_pad 2 _ _ _ _ (by omega) (by omega), bl_irrefl]
  unfold inst secs
  simp only [Bool.false_eq_true, and_false, or_false]
  rcases (show (y < y' ∨ y = y' ∧ (m < m' ∨ m = m' ∧ d < d')) ∨ (y' < y ∨ y' = y ∧ (m' < m ∨ m' = m ∧ d' < d)) ∨ (y = y' ∧ m = m' ∧ d = d') by omega) with q | q | ⟨q1, q2, q3⟩
  · have := l1 q; clear l1 l2 l3; omega
  · have := l2 q; clear l1 l2 l3; omega
  · have := l3 q1 q2 q3; clear l1 l2 l3; omega
theorem mtx_eq {y m d h mi s y' m' d' h' mi' s' : Int} (v : vldB y m d = true) (v' : vldB y' m' d' = true) (t : tmB h mi s = true) (t' : tmB h' mi' s' = true) (e : mtx y m d h mi s = mtx y' m' d' h' mi' s') :
    inst y m d h mi s = inst y' m' d' h' mi' s' := by
  have h1 := mtx_less v v' t t'
  have h2 := mtx_less v' v t' t
  rw [e, bl_irrefl] at h1
  rw [e, bl_irrefl] at h2
  have h1 := of_decide_eq_false h1.symm
  have h2 := of_decide_eq_false h2.symm
  omega
theorem mtx_count (y m d h mi s : Int) : (mtx y m d h mi s).count 58 = 2 := by
  have hp : ∀ k n, (padN k n).count 58 = 0 := by
    intro k
    induction k with
    | zero => intro n; rfl
    | succ k ih =>
      intro n
      unfold padN
      rw [List.count_append, ih]
      have : ¬ (dg1 n == 58) = true := by
        rw [beq_iff_eq]
        intro q
        have := congrArg UInt8.toNat q
        rw [dg1_toNat] at this
        have h58 : (58 : UInt8).toNat = 58 := rfl
        omega
      simp [List.count_cons, this]
  rw [mtx_assoc]
  simp [List.count_append, List.count_cons, hp]
end Go.Proofs.YtgndogpgfgliaaaGreatDoor
/- The form of the text of a moment, plainly. -/
namespace Go.Proofs.YtgndogpgfgliaaaGreatDoor
set_option linter.unusedVariables false
set_option linter.unnecessarySimpa false
set_option linter.unusedSimpArgs false

/-- What stands at a place of the form. -/
def fmC (i : Nat) : UInt8 := if i = 4 ∨ i = 7 then 45 else if i = 10 then 84 else if i = 13 ∨ i = 16 then 58 else 48
def okAt (i : Nat) (c : UInt8) : Bool := if i = 4 ∨ i = 7 then c == 45 else if i = 10 then c == 84 else if i = 13 ∨ i = 16 then c == 58 else isDg c
def formL (l : List UInt8) : Prop := l.length = 19 ∧ ∀ i (h : i < l.length), okAt i l[i] = true
theorem dg1_val {c : UInt8} (n : Nat) (h : isDg c = true) : dg1 (10 * n + (c.toNat - 48)) = c := by
  have := isDg_iff.1 h
  rw [← UInt8.toNat_inj, dg1_toNat]; omega
/-- Digits are the text of their value. -/
theorem padN_val (l : List UInt8) (h : ∀ c ∈ l, isDg c = true) : padN l.length (val l) = l := by
  revert h
  refine snoc_ind (P := fun l => (∀ c ∈ l, isDg c = true) → padN l.length (val l) = l) ?_ ?_ l
  · intro _; rfl
  · intro l c ih h
    have ih := ih (fun x hx => h x (by simp [hx]))
    have hc := h c (by simp)
    have := isDg_iff.1 hc
    rw [List.length_append, List.length_singleton, padN, val_snoc, dg1_val _ hc]
    rw [show (10 * val l + (c.toNat - 48)) / 10 = val l from by omega, ih]
theorem val_padN (k n : Nat) (h : n < 10 ^ k) : val (padN k n) = n := by
  induction k generalizing n with
  | zero => simp at h; subst h; rfl
  | succ k ih =>
    rw [Nat.pow_succ] at h
    rw [padN, val_snoc, ih (n / 10) (by omega), dg1_toNat]; omega
theorem padN_dg (k n : Nat) : ∀ c ∈ padN k n, isDg c = true := by
  induction k generalizing n with
  | zero => intro c hc; cases hc
  | succ k ih =>
    intro c hc
    rcases List.mem_append.1 hc with h | h
    · exact ih _ c h
    · obtain rfl : c = dg1 n := by simpa using h
      rw [isDg_iff, dg1_toNat]; omega
theorem pow4 : (10 : Nat) ^ 4 = 10000 := rfl
theorem pow2 : (10 : Nat) ^ 2 = 100 := rfl
set_option maxRecDepth 100000 in
/-- A text of the form is the text of some six numbers. -/
theorem form_mtx {l : List UInt8} (h : formL l) : ∃ y m d hh mi s : Nat, y < 10000 ∧ m < 100 ∧ d < 100 ∧ hh < 100 ∧ mi < 100 ∧ s < 100 ∧ l = mtx y m d hh mi s := by
  obtain ⟨hl, ho⟩ := h
  match l, hl, ho with
  | [c0, c1, c2, c3, c4, c5, c6, c7, c8, c9, c10, c11, c12, c13, c14, c15, c16, c17, c18], _, ho =>
    have o0 : isDg c0 = true := ho 0 (by simp)
    have o1 : isDg c1 = true := ho 1 (by simp)
    have o2 : isDg c2 = true := ho 2 (by simp)
    have o3 : isDg c3 = true := ho 3 (by simp)
    have o4 : (c4 == 45) = true := ho 4 (by simp)
    have o5 : isDg c5 = true := ho 5 (by simp)
    have o6 : isDg c6 = true := ho 6 (by simp)
    have o7 : (c7 == 45) = true := ho 7 (by simp)
    have o8 : isDg c8 = true := ho 8 (by simp)
    have o9 : isDg c9 = true := ho 9 (by simp)
    have o10 : (c10 == 84) = true := ho 10 (by simp)
    have o11 : isDg c11 = true := ho 11 (by simp)
    have o12 : isDg c12 = true := ho 12 (by simp)
    have o13 : (c13 == 58) = true := ho 13 (by simp)
    have o14 : isDg c14 = true := ho 14 (by simp)
    have o15 : isDg c15 = true := ho 15 (by simp)
    have o16 : (c16 == 58) = true := ho 16 (by simp)
    have o17 : isDg c17 = true := ho 17 (by simp)
    have o18 : isDg c18 = true := ho 18 (by simp)
    simp only [beq_iff_eq] at o4 o7 o10 o13 o16
    have p : ∀ a b : UInt8, isDg a = true → isDg b = true → padN 2 (val [a, b]) = [a, b] ∧ val [a, b] < 100 := fun a b ha hb =>
      ⟨padN_val [a, b] (by intro c hc; simp at hc; rcases hc with rfl | rfl <;> assumption), val_lt [a, b] (by intro c hc; simp at hc; rcases hc with rfl | rfl <;> assumption)⟩
    have q : padN 4 (val [c0, c1, c2, c3]) = [c0, c1, c2, c3] ∧ val [c0, c1, c2, c3] < 10000 :=
      ⟨padN_val [c0, c1, c2, c3] (by intro c hc; simp at hc; rcases hc with rfl | rfl | rfl | rfl <;> assumption), val_lt [c0, c1, c2, c3] (by intro c hc; simp at hc; rcases hc with rfl | rfl | rfl | rfl <;> assumption)⟩
    refine ⟨_, _, _, _, _, _, q.2, (p c5 c6 o5 o6).2, (p c8 c9 o8 o9).2, (p c11 c12 o11 o12).2, (p c14 c15 o14 o15).2, (p c17 c18 o17 o18).2, ?_⟩
    rw [mtx_assoc]
    simp only [Int.toNat_natCast]
    rw [q.1, (p c5 c6 o5 o6).1, (p c8 c9 o8 o9).1, (p c11 c12 o11 o12).1, (p c14 c15 o14 o15).1, (p c17 c18 o17 o18).1, o4, o7, o10, o13, o16]
    rfl
theorem okAt_dg {k : Nat} {c : UInt8} (h : fmC k = 48) : okAt k c = isDg c := by
  unfold fmC at h
  unfold okAt
  split at h
  · exact absurd h (by decide)
  · rename_i h1
    rw [if_neg h1]
    split at h
    · exact absurd h (by decide)
    · rename_i h2
      rw [if_neg h2]
      split at h
      · exact absurd h (by decide)
      · rename_i h3
        rw [if_neg h3]
theorem okAt_sep {k : Nat} {c : UInt8} (h : fmC k ≠ 48) : okAt k c = (c == fmC k) := by
  unfold fmC at h ⊢
  unfold okAt
  split
  · rfl
  · rename_i h1
    rw [if_neg h1] at h
    split
    · rfl
    · rename_i h2
      rw [if_neg h2] at h
      split
      · rfl
      · rename_i h3
        rw [if_neg h3] at h
        exact absurd rfl h
theorem fmC_cases (k : Nat) : fmC k = 48 ∨ fmC k = 45 ∨ fmC k = 84 ∨ fmC k = 58 := by
  unfold fmC
  repeat' split
  all_goals simp
/-- Where a text of 19 bytes first departs from the form. -/
theorem first_bad {l : List UInt8} (hl : l.length = 19) (h : ¬ formL l) : ∃ p, ∃ hp : p < l.length, okAt p l[p] = false ∧ ∀ i (hi : i < l.length), i < p → okAt i l[i] = true := by
  have H : ∀ n, n ≤ l.length → (∀ i (hi : i < l.length), i < n → okAt i l[i] = true) ∨ ∃ p, ∃ hp : p < l.length, okAt p l[p] = false ∧ ∀ i (hi : i < l.length), i < p → okAt i l[i] = true := by
    intro n
    induction n with
    | zero => intro _; exact .inl (fun i _ h => absurd h (by omega))
    | succ n ih =>
      intro hn
      rcases ih (by omega) with q | q
      · rcases Bool.eq_false_or_eq_true (okAt n (l[n]'(by omega))) with e | e
        · left
          intro i hi h
          by_cases hin : i = n
          · subst hin; exact e
          · exact q i hi (by omega)
        · exact .inr ⟨n, by omega, e, q⟩
      · exact .inr q
  rcases H l.length (Nat.le_refl _) with q | q
  · exact absurd ⟨hl, fun i hi => q i hi hi⟩ h
  · exact q
theorem padN_4 (n : Nat) : padN 4 n = [dg1 (n / 10 / 10 / 10), dg1 (n / 10 / 10), dg1 (n / 10), dg1 n] := rfl
theorem padN_2 (n : Nat) : padN 2 n = [dg1 (n / 10), dg1 n] := rfl
theorem dg1_isDg (n : Nat) : isDg (dg1 n) = true := by rw [isDg_iff, dg1_toNat]; omega
theorem mtx_list (y m d h mi s : Int) : mtx y m d h mi s = [dg1 (y.toNat / 10 / 10 / 10), dg1 (y.toNat / 10 / 10), dg1 (y.toNat / 10), dg1 y.toNat, 45, dg1 (m.toNat / 10), dg1 m.toNat, 45, dg1 (d.toNat / 10), dg1 d.toNat, 84, dg1 (h.toNat / 10), dg1 h.toNat, 58, dg1 (mi.toNat / 10), dg1 mi.toNat, 58, dg1 (s.toNat / 10), dg1 s.toNat] := by
  rw [mtx_assoc, padN_4, padN_2, padN_2, padN_2, padN_2, padN_2]; rfl
set_option maxRecDepth 100000 in
theorem mtx_form (y m d h mi s : Int) : formL (mtx y m d h mi s) := by
  refine ⟨mtx_length _ _ _ _ _ _, ?_⟩
  rw [mtx_list]
  intro i hi
  have hi : i < 19 := hi
  rcases (show i = 0 ∨ i = 1 ∨ i = 2 ∨ i = 3 ∨ i = 4 ∨ i = 5 ∨ i = 6 ∨ i = 7 ∨ i = 8 ∨ i = 9 ∨ i = 10 ∨ i = 11 ∨ i = 12 ∨ i = 13 ∨ i = 14 ∨ i = 15 ∨ i = 16 ∨ i = 17 ∨ i = 18 by omega) with rfl | rfl | rfl | rfl | rfl | rfl | rfl | rfl | rfl | rfl | rfl | rfl | rfl | rfl | rfl | rfl | rfl | rfl | rfl
  all_goals first
    | exact dg1_isDg _
    | rfl
theorem mtx_s0 (y m d h mi s : Int) : ((mtx y m d h mi s).drop 0).take (4 - 0) = padN 4 y.toNat := by rw [mtx_list]; rfl
theorem mtx_s1 (y m d h mi s : Int) : ((mtx y m d h mi s).drop 5).take (7 - 5) = padN 2 m.toNat := by rw [mtx_list]; rfl
theorem mtx_s2 (y m d h mi s : Int) : ((mtx y m d h mi s).drop 8).take (10 - 8) = padN 2 d.toNat := by rw [mtx_list]; rfl
theorem mtx_s3 (y m d h mi s : Int) : ((mtx y m d h mi s).drop 11).take (13 - 11) = padN 2 h.toNat := by rw [mtx_list]; rfl
theorem mtx_s4 (y m d h mi s : Int) : ((mtx y m d h mi s).drop 14).take (16 - 14) = padN 2 mi.toNat := by rw [mtx_list]; rfl
theorem mtx_s5 (y m d h mi s : Int) : ((mtx y m d h mi s).drop 17).take (19 - 17) = padN 2 s.toNat := by rw [mtx_list]; rfl
end Go.Proofs.YtgndogpgfgliaaaGreatDoor
