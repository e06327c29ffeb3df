/- Patterns: the walk of reader.read: numbers. -/
import Derived.Test.YticckkadmhklmaaGreatDoorK10
import Derived.Laws.IdiomStrings
namespace Go.Proofs.YticckkadmhklmaaGreatDoor
set_option linter.unusedVariables false
set_option linter.unusedSimpArgs false
open Go.RowKit Go.Maps

theorem btake (l : List UInt8) (k : Nat) : (⟨l.toArray⟩ : ByteArray).extract 0 k = ⟨(l.take k).toArray⟩ := by
  rw [bmid]; simp
theorem conv_bytes (R : List UInt8) (W : World) : ∃ g cap W1, (convert 9 105 (.string ⟨R.toArray⟩)).run Tryz.prog W = .ok (.slice (some ⟨g, 0, none⟩) R.length cap) W1 ∧ Ext W W1 ∧ ∀ j (h : j < R.length), W1.cell? ⟨g, j, none⟩ = some (.int .u8 (R[j].toNat : Int)) := by
  refine ⟨_, _, _, run_bytes_of_string W 9 105 5 ⟨R.toArray⟩ Tryz.underlying9 Tryz.underlying105 Tryz.underlying5, (Ext.refl W).drew.alloc _, fun j h => ?_⟩
  have h2 := bytesRow_at ⟨R.toArray⟩ (grownCap W (ByteArray.mk R.toArray).size 0 5) j (by simpa using h)
  show (W.drew.alloc (.cells _ _ _)).cell? ⟨W.drew.heap.size, j, none⟩ = _
  rw [World.cell?_alloc_mark, h2]
  simp
theorem mostN_eq (p q : Prt) (q0 : Option Prt) (hq : (q0 = none ∧ q.k = 0) ∨ q0 = some q) : mostN p q0 = if 0 < fullZ q.k then p.w.toNat else (fullZ p.k).toNat := by
  unfold mostN
  rcases hq with ⟨rfl, e⟩ | rfl
  · rw [e]; rfl
  · by_cases h : 0 < fullZ q.k <;> simp [h]
theorem rd1_num (N : Nms) (p : Prt) (q0 : Option Prt) (s : List UInt8) (hk : 0 < fullZ p.k) : rd1 N p q0 s = if (digN s (mostN p q0) : Int) < p.w then none else some (digN s (mostN p q0), [(p.k, val (s.take (digN s (mostN p q0))))]) := by
  obtain ⟨n1, n2, n3⟩ := num_not hk
  unfold rd1
  rw [if_neg n1, if_neg n2, if_neg n3, if_pos hk]
theorem digN_all (s : List UInt8) (m : Nat) : ∀ c ∈ s.take (digN s m), isDg c = true := by
  intro c hc
  have e : s.take (digN s m) = (s.take m).takeWhile isDg := by
    unfold digN
    have h1 := List.takeWhile_prefix (p := isDg) (l := s.take m)
    have h2 := h1.trans (List.take_prefix m s)
    exact (List.prefix_iff_eq_take.1 h2).symm
  rw [e] at hc
  exact List.all_eq_true.1 List.all_takeWhile c hc
set_option maxRecDepth 100000 in
set_option maxHeartbeats 4000000 in
theorem read_num (N : Nms) (hN : N.ok) (B b : Nat) (q0 : Option Prt) (q : Prt) (s t : List UInt8) (vs : List (Int × Nat)) (k wd : Int) (hk : 0 < fullZ k) (hw1 : 1 ≤ wd) (hw2 : wd ≤ fullZ k) (hq : (q0 = none ∧ q.k = 0) ∨ q0 = some q) (w : World) (h : Rdr N B b s vs w) (hs : s.length ≤ 100000) (hvn : vs.length ≤ 1000) :
    Calls Tryz.prog 64 #[.pointer (some ⟨B, 0, none⟩), .agg #[.int .i64 k, .int .i64 wd, .string ⟨t.toArray⟩], pv q] w (RdPost N B b ⟨k, wd, t⟩ q0 s vs w) := by
  obtain ⟨c, D, n, hM, hD, hnn, hcl⟩ := h
  have hmost := mostN_eq ⟨k, wd, t⟩ q q0 hq
  have HR := Lib.hid (rd1_num N ⟨k, wd, t⟩ q0 s hk)
  obtain ⟨qk, qw, qt⟩ := q
  simp only at hmost
  have hE0 : Ext w ((w.alloc (.cells #[.int .i64 k, .int .i64 wd, .string ⟨t.toArray⟩] 38)).alloc (.cells #[.int .i64 qk, .int .i64 qw, .string ⟨qt.toArray⟩] 38)) := ((Ext.refl w).alloc _).alloc _
  have hM0 := hM.ext hE0
  have c40 := hM0.rest
  have f40 := hM0.free
  have ltB := hM0.lt
  have HM := Lib.hid hM
  have HD := Lib.hid hD
  have HC := Lib.hid hcl
  have HN := Lib.hid hN
  have yk : ((w.alloc (.cells #[.int .i64 k, .int .i64 wd, .string ⟨t.toArray⟩] 38)).alloc (.cells #[.int .i64 qk, .int .i64 qw, .string ⟨qt.toArray⟩] 38)).cell? ⟨w.heap.size, 0, none⟩ = some (.int .i64 k) := by
    rw [World.cell?_alloc_lt _ _ _ (by simp), World.cell?_alloc_new]; rfl
  have yw : ((w.alloc (.cells #[.int .i64 k, .int .i64 wd, .string ⟨t.toArray⟩] 38)).alloc (.cells #[.int .i64 qk, .int .i64 qw, .string ⟨qt.toArray⟩] 38)).cell? ⟨w.heap.size, 1, none⟩ = some (.int .i64 wd) := by
    rw [World.cell?_alloc_lt _ _ _ (by simp), World.cell?_alloc_new]; rfl
  have yq : ((w.alloc (.cells #[.int .i64 k, .int .i64 wd, .string ⟨t.toArray⟩] 38)).alloc (.cells #[.int .i64 qk, .int .i64 qw, .string ⟨qt.toArray⟩] 38)).cell? ⟨w.heap.size + 1, 0, none⟩ = some (.int .i64 qk) := by
    simp
  have yz : w.heap.size < ((w.alloc (.cells #[.int .i64 k, .int .i64 wd, .string ⟨t.toArray⟩] 38)).alloc (.cells #[.int .i64 qk, .int .i64 qw, .string ⟨qt.toArray⟩] 38)).heap.size := by simp; omega
  show Calls _ _ #[_, _, .agg #[.int .i64 qk, .int .i64 qw, .string ⟨qt.toArray⟩]] w _
  obtain ⟨n1, n2, n3⟩ := num_not hk
  have n4 : k ≠ 4 ∧ k ≠ 5 ∧ k ≠ 7 ∧ k ≠ 8 ∧ k ≠ 13 := by
    refine ⟨?_, ?_, ?_, ?_, ?_⟩ <;> (rintro rfl; revert hk; decide)
  obtain ⟨m1, m2, m3, m4, m5⟩ := n4
  have hz : fullZ k ≤ 4 := by unfold fullZ; split <;> (try split) <;> omega
  have hk15 : 1 ≤ k ∧ k ≤ 15 := by
    unfold fullZ at hk
    split at hk
    · omega
    · split at hk
      · omega
      · omega
  have hdg := digN_le s (mostN ⟨k, wd, t⟩ q0)
  have hda := digN_all s (mostN ⟨k, wd, t⟩ q0)
  obtain ⟨M, hMM⟩ : ∃ M, mostN ⟨k, wd, t⟩ q0 = M := ⟨_, rfl⟩
  rw [hMM] at hmost HR hdg hda
  have b1 : (k == 1) = false := by simpa using n1
  have b2 : (k == 14) = false := by simpa using n2
  have b3 : (k == 15) = false := by simpa using n3
  have b4 : (k == 4) = false := by simpa using m1
  have b5 : (k == 5) = false := by simpa using m2
  have b6 : (k == 7) = false := by simpa using m3
  have b7 : (k == 8) = false := by simpa using m4
  have b8 : (k == 13) = false := by simpa using m5
  have HFk := Lib.hid (fun w => full_c k w)
  have HFq := Lib.hid (fun w => full_c qk w)
  have HGn := fullZ_nonneg qk
  obtain ⟨F, hF⟩ : ∃ F, F = fullZ k := ⟨_, rfl⟩
  obtain ⟨G, hG⟩ : ∃ G, G = fullZ qk := ⟨_, rfl⟩
  rw [← hF] at hmost HFk hw2 hk hz
  rw [← hG] at hmost HFq HGn
  obtain ⟨hk1, hk2⟩ := hk15
  clear hM hD hcl hN hM0 n1 n2 n3 m1 m2 m3 m4 m5 hMM hF hG hq
  have hM4 : M ≤ 4 := by
    by_cases hg : 0 < G
    · rw [if_pos hg] at hmost; omega
    · rw [if_neg hg] at hmost; omega
  obtain ⟨m, hm⟩ : ∃ m, digN s M = m := ⟨_, rfl⟩
  have Hm := Lib.hid hm
  rw [hm] at HR hdg hda
  obtain ⟨hd1, hd2⟩ := hdg
  obtain ⟨Rr, hRr⟩ : ∃ Rr, Rr = s.take m := ⟨_, rfl⟩
  have hRl : Rr.length = m := by rw [hRr, List.length_take]; omega
  have hbt := btake s m
  have hbd := bdrop s m
  rw [← hRr] at hda hbt HR
  have Hda := Lib.hid hda
  clear hRr hda hm
  subst hRl
  by_cases hg : 0 < G
  · rw [if_pos hg] at hmost
    have hmo : (M : Int) = wd := by omega
    clear hmost
    by_cases hlw : (Rr.length : Int) < wd
    · have HRj : Hid (rd1 N ⟨k, wd, t⟩ q0 s = none) := by rw [Hid, HR.out, if_pos hlw]
      go_enter Tryz.func64, Tryz.ntmps64
      go_upto_region 38 with fail
      generalize (w.alloc (.cells #[.int .i64 k, .int .i64 wd, .string ⟨t.toArray⟩] 38)).alloc (.cells #[.int .i64 qk, .int .i64 qw, .string ⟨qt.toArray⟩] 38) = W at hE0 c40 f40 ltB yk yw yq yz ⊢
      go_wp2_with (first
        | (go_at_call 44; (with_reducible refine (HFk.out _).mono ?_); rintro e w1 ⟨rfl, rfl⟩)
        | (go_at_call 44; (with_reducible refine (HFq.out _).mono ?_); rintro e w1 ⟨rfl, rfl⟩)
        | (go_at_call 91; (with_reducible rw [← hmo]); (with_reducible refine (digits_l s M _ _ (by omega) (by omega) Hm.out).mono ?_); rintro e w1 ⟨rfl, rfl⟩))
      go_ret
      exact rd_no HRj.out (Frm.of_ext hE0)
    · have HRj : Hid (rd1 N ⟨k, wd, t⟩ q0 s = some (Rr.length, [(k, val Rr)])) := by rw [Hid, HR.out, if_neg hlw]
      go_enter Tryz.func64, Tryz.ntmps64
      go_upto_region 38 with fail
      generalize (w.alloc (.cells #[.int .i64 k, .int .i64 wd, .string ⟨t.toArray⟩] 38)).alloc (.cells #[.int .i64 qk, .int .i64 qw, .string ⟨qt.toArray⟩] 38) = W at hE0 c40 f40 ltB yk yw yq yz ⊢
      obtain ⟨g, cap, W1, hcv, hE1, hcell⟩ := conv_bytes Rr W
      have HCell := Lib.hid hcell
      clear hcell
      obtain ⟨T, hT⟩ : ∃ T, w.heap.size = T := ⟨_, rfl⟩
      rw [hT] at yk yw yq yz ⊢
      go_wp2_with (first
        | (go_at_call 44; (with_reducible refine (HFk.out _).mono ?_); rintro e w1 ⟨rfl, rfl⟩)
        | (go_at_call 44; (with_reducible refine (HFq.out _).mono ?_); rintro e w1 ⟨rfl, rfl⟩)
        | (go_at_call 91; (with_reducible rw [← hmo]); (with_reducible refine (digits_l s M _ _ (by omega) (by omega) Hm.out).mono ?_); rintro e w1 ⟨rfl, rfl⟩))
      go_loop [18, 180] (fun x i => ∃ j : Nat, j ≤ Rr.length ∧ i = .int .i64 (j : Int) ∧ x = .int .i64 (val (Rr.take j) : Int)) (fun _ i => Rr.length - (intOf i).toNat)
      case atStart => exact ⟨0, Nat.zero_le _, rfl, rfl⟩
      case round =>
        obtain ⟨j, hj, rfl, rfl⟩ := hrel
        have hvj : val (Rr.take j) < 10 ^ (Rr.take j).length := val_lt _ (fun c hc => Hda.out c (List.take_subset _ _ hc))
        have hvb : val (Rr.take j) < 10000 := Nat.lt_of_lt_of_le hvj (Nat.pow_le_pow_right (by decide : 10 > 0) (show (Rr.take j).length ≤ 4 by rw [List.length_take]; omega))
        by_cases hlt : j < Rr.length
        · have hcj := HCell.out j hlt
          have hdc := isDg_iff.1 (Hda.out Rr[j] (List.getElem_mem _))
          have hsc := val_take_succ Rr j hlt
          obtain ⟨ch, hch⟩ : ∃ ch, ch = Rr[j] := ⟨_, rfl⟩
          rw [← hch] at hcj hdc hsc
          have Hsc := Lib.hid hsc
          obtain ⟨X, hX⟩ : ∃ X, X = val (Rr.take j) := ⟨_, rfl⟩
          rw [← hX] at hvb Hsc ⊢
          obtain ⟨hc1, hc2⟩ := hdc
          clear hch hsc hvj hX
          go_wp2_with fail
          go_round
          case rel => exact ⟨j + 1, by omega, by go_num, by rw [Hsc.out]; go_num⟩
          case measure => simp [intOf]; omega
        · obtain rfl : j = Rr.length := by omega
          rw [List.take_length] at hvb ⊢
          have c41 := (hE1.cells _ _ ltB).trans c40
          have f41 := fun o => (hE1.frozens _ o ltB).trans (f40 o)
          have yk1 := (hE1.cells _ _ yz).trans yk
          have hE01 := hE0.trans hE1
          have hM6 := HM.out.ext hE01
          have hM7 := hM6.set HN.out (s' := s.drop Rr.length) (c' := c) 40 (.string ⟨(s.drop Rr.length).toArray⟩) (.inl ⟨rfl, rfl, rfl⟩)
          have HR7 : Hid (Rdr N B b (s.drop Rr.length) vs (W1.setCell ⟨B, 40, none⟩ (.string ⟨(s.drop Rr.length).toArray⟩))) := ⟨c, D, n, hM7, HD.out, hnn, HC.out⟩
          have HF7 : Hid (Frm (RdS2 B b) w (W1.setCell ⟨B, 40, none⟩ (.string ⟨(s.drop Rr.length).toArray⟩))) := Frm.put40 hE01 40 _
          obtain ⟨X, hX⟩ : ∃ X, X = s.drop Rr.length := ⟨_, rfl⟩
          obtain ⟨V, hV⟩ : ∃ V, V = val Rr := ⟨_, rfl⟩
          rw [← hX] at HR7 HF7 hbd
          rw [← hV] at hvb HRj ⊢
          have HXX := Lib.hid hX
          clear hvj hX hV hM6 hM7 hlt hcv yk yw yq c40 f40
          go_wp2_with (first
            | (go_at_call 93; (with_reducible refine (set_c N HN.out B b X vs k V _ HR7.out hk1 hk2 (by omega) hvn).mono ?_); rintro e w9 ⟨rfl, hR9, hF9⟩; have HR9 := Lib.hid hR9; have HF9 := Lib.hid hF9; clear hR9 hF9))
          go_ret
          exact rd_yes HRj.out (HF7.out.trans HF9.out) (by rw [← HXX.out]; exact HR9.out)
  · rw [if_neg hg] at hmost
    have hmo : (M : Int) = F := by omega
    clear hmost
    by_cases hlw : (Rr.length : Int) < wd
    · have HRj : Hid (rd1 N ⟨k, wd, t⟩ q0 s = none) := by rw [Hid, HR.out, if_pos hlw]
      go_enter Tryz.func64, Tryz.ntmps64
      go_upto_region 38 with fail
      generalize (w.alloc (.cells #[.int .i64 k, .int .i64 wd, .string ⟨t.toArray⟩] 38)).alloc (.cells #[.int .i64 qk, .int .i64 qw, .string ⟨qt.toArray⟩] 38) = W at hE0 c40 f40 ltB yk yw yq yz ⊢
      go_wp2_with (first
        | (go_at_call 44; (with_reducible refine (HFk.out _).mono ?_); rintro e w1 ⟨rfl, rfl⟩)
        | (go_at_call 44; (with_reducible refine (HFq.out _).mono ?_); rintro e w1 ⟨rfl, rfl⟩)
        | (go_at_call 91; (with_reducible rw [← hmo]); (with_reducible refine (digits_l s M _ _ (by omega) (by omega) Hm.out).mono ?_); rintro e w1 ⟨rfl, rfl⟩))
      go_ret
      exact rd_no HRj.out (Frm.of_ext hE0)
    · have HRj : Hid (rd1 N ⟨k, wd, t⟩ q0 s = some (Rr.length, [(k, val Rr)])) := by rw [Hid, HR.out, if_neg hlw]
      go_enter Tryz.func64, Tryz.ntmps64
      go_upto_region 38 with fail
      generalize (w.alloc (.cells #[.int .i64 k, .int .i64 wd, .string ⟨t.toArray⟩] 38)).alloc (.cells #[.int .i64 qk, .int .i64 qw, .string ⟨qt.toArray⟩] 38) = W at hE0 c40 f40 ltB yk yw yq yz ⊢
      obtain ⟨g, cap, W1, hcv, hE1, hcell⟩ := conv_bytes Rr W
      have HCell := Lib.hid hcell
      clear hcell
      obtain ⟨T, hT⟩ : ∃ T, w.heap.size = T := ⟨_, rfl⟩
      rw [hT] at yk yw yq yz ⊢
      go_wp2_with (first
        | (go_at_call 44; (with_reducible refine (HFk.out _).mono ?_); rintro e w1 ⟨rfl, rfl⟩)
        | (go_at_call 44; (with_reducible refine (HFq.out _).mono ?_); rintro e w1 ⟨rfl, rfl⟩)
        | (go_at_call 91; (with_reducible rw [← hmo]); (with_reducible refine (digits_l s M _ _ (by omega) (by omega) Hm.out).mono ?_); rintro e w1 ⟨rfl, rfl⟩))
      go_loop [18, 180] (fun x i => ∃ j : Nat, j ≤ Rr.length ∧ i = .int .i64 (j : Int) ∧ x = .int .i64 (val (Rr.take j) : Int)) (fun _ i => Rr.length - (intOf i).toNat)
      case atStart => exact ⟨0, Nat.zero_le _, rfl, rfl⟩
      case round =>
        obtain ⟨j, hj, rfl, rfl⟩ := hrel
        have hvj : val (Rr.take j) < 10 ^ (Rr.take j).length := val_lt _ (fun c hc => Hda.out c (List.take_subset _ _ hc))
        have hvb : val (Rr.take j) < 10000 := Nat.lt_of_lt_of_le hvj (Nat.pow_le_pow_right (by decide : 10 > 0) (show (Rr.take j).length ≤ 4 by rw [List.length_take]; omega))
        by_cases hlt : j < Rr.length
        · have hcj := HCell.out j hlt
          have hdc := isDg_iff.1 (Hda.out Rr[j] (List.getElem_mem _))
          have hsc := val_take_succ Rr j hlt
          obtain ⟨ch, hch⟩ : ∃ ch, ch = Rr[j] := ⟨_, rfl⟩
          rw [← hch] at hcj hdc hsc
          have Hsc := Lib.hid hsc
          obtain ⟨X, hX⟩ : ∃ X, X = val (Rr.take j) := ⟨_, rfl⟩
          rw [← hX] at hvb Hsc ⊢
          obtain ⟨hc1, hc2⟩ := hdc
          clear hch hsc hvj hX
          go_wp2_with fail
          go_round
          case rel => exact ⟨j + 1, by omega, by go_num, by rw [Hsc.out]; go_num⟩
          case measure => simp [intOf]; omega
        · obtain rfl : j = Rr.length := by omega
          rw [List.take_length] at hvb ⊢
          have c41 := (hE1.cells _ _ ltB).trans c40
          have f41 := fun o => (hE1.frozens _ o ltB).trans (f40 o)
          have yk1 := (hE1.cells _ _ yz).trans yk
          have hE01 := hE0.trans hE1
          have hM6 := HM.out.ext hE01
          have hM7 := hM6.set HN.out (s' := s.drop Rr.length) (c' := c) 40 (.string ⟨(s.drop Rr.length).toArray⟩) (.inl ⟨rfl, rfl, rfl⟩)
          have HR7 : Hid (Rdr N B b (s.drop Rr.length) vs (W1.setCell ⟨B, 40, none⟩ (.string ⟨(s.drop Rr.length).toArray⟩))) := ⟨c, D, n, hM7, HD.out, hnn, HC.out⟩
          have HF7 : Hid (Frm (RdS2 B b) w (W1.setCell ⟨B, 40, none⟩ (.string ⟨(s.drop Rr.length).toArray⟩))) := Frm.put40 hE01 40 _
          obtain ⟨X, hX⟩ : ∃ X, X = s.drop Rr.length := ⟨_, rfl⟩
          obtain ⟨V, hV⟩ : ∃ V, V = val Rr := ⟨_, rfl⟩
          rw [← hX] at HR7 HF7 hbd
          rw [← hV] at hvb HRj ⊢
          have HXX := Lib.hid hX
          clear hvj hX hV hM6 hM7 hlt hcv yk yw yq c40 f40
          go_wp2_with (first
            | (go_at_call 93; (with_reducible refine (set_c N HN.out B b X vs k V _ HR7.out hk1 hk2 (by omega) hvn).mono ?_); rintro e w9 ⟨rfl, hR9, hF9⟩; have HR9 := Lib.hid hR9; have HF9 := Lib.hid hF9; clear hR9 hF9))
          go_ret
          exact rd_yes HRj.out (HF7.out.trans HF9.out) (by rw [← HXX.out]; exact HR9.out)
end Go.Proofs.YticckkadmhklmaaGreatDoor
