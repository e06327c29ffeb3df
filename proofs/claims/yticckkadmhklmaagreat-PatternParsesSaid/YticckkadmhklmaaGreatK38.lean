/- The walk of the reference's read: numbers. -/
import Derived.Test.YticckkadmhklmaaGreatK37
import Derived.Test.YticckkadmhklmaaGreatK16
import Derived.Test.YticckkadmhklmaaGreatK33
import Derived.Test.YticckkadmhklmaaGreatK15
import Derived.Test.YticckkadmhklmaaGreatK02
import Derived.Test.YticckkadmhklmaaGreatK34
import Derived.Test.YticckkadmhklmaaGreatK19
import Derived.Test.YticckkadmhklmaaGreatK35
namespace Go.Proofs.YticckkadmhklmaaGreat
set_option linter.unusedVariables false
set_option linter.unusedSimpArgs false
open Go.RowKit

theorem rdigits_z (s : List UInt8) (z : Int) (M n : Nat) (w : World) (hz : (M : Int) = z) (hM : M ≤ 4) (h : digN s M = n) (hs : s.length ≤ 100000) : Calls Tryz.prog 78 #[.string ⟨s.toArray⟩, .int .i64 z] w fun e w' => e = .returned (.int .i64 (n : Int)) ∧ w = w' := by
  subst hz
  exact rdigits_c s M n w h (by omega) (by omega)
theorem val_take (s : List UInt8) (q : Nat) (h : q < s.length) : val (s.take (q + 1)) = 10 * val (s.take q) + (s[q].toNat - 48) := by
  rw [List.take_succ_eq_append_getElem h, val_snoc]
theorem digN_prefix {s : List UInt8} {M m : Nat} (h : digN s M = m) (q : Nat) (hq : q < m) : ∃ h : q < s.length, 48 ≤ s[q].toNat ∧ s[q].toNat ≤ 57 := by
  have hl := digN_le s M
  rw [h] at hl
  have h2 := digN_all s M
  rw [h] at h2
  refine ⟨by omega, ?_⟩
  have := h2 s[q] (by
    rw [List.mem_iff_getElem?]
    exact ⟨q, by rw [List.getElem?_take_of_lt hq]; exact List.getElem?_eq_getElem (by omega)⟩)
  rw [isDg_iff] at this
  exact this
theorem val_bound {s : List UInt8} {M m : Nat} (h : digN s M = m) (hM : M ≤ 4) (q : Nat) (hq : q ≤ m) : val (s.take q) ≤ 10000 := by
  have hl := digN_le s M
  rw [h] at hl
  have hv := val_lt (s.take q) (fun c hc => by
    obtain ⟨i, hi, rfl⟩ := List.getElem_of_mem hc
    have hi2 : i < q := by rw [List.length_take] at hi; omega
    obtain ⟨h1, h2⟩ := digN_prefix h i (by omega)
    rw [List.getElem_take, isDg_iff]
    exact h2)
  have : (10 : Nat) ^ (s.take q).length ≤ 10 ^ 4 := Nat.pow_le_pow_right (by decide) (by rw [List.length_take]; omega)
  omega
set_option maxRecDepth 100000 in
set_option maxHeartbeats 2000000 in
theorem rread_num (N : Nms) (hN : N.ok) (l : List Prt) (j : Nat) (hj : j < l.length) (k wd : Int) (t : List UInt8) (he : l[j] = ⟨k, wd, t⟩) (hk : 0 < fullZ k) (hw1 : 1 ≤ wd) (hw2 : wd ≤ fullZ k) (ao : Option Addr) (cap : Nat) (s : List UInt8) (w : World) (h : PtV ao cap l w) (hs : s.length ≤ 100000) :
    Calls Tryz.prog 36 #[.slice ao l.length cap, .int .i64 (j : Int), .agg (sv N.all).toArray, .string ⟨s.toArray⟩] w (RrP (rd1 N ⟨k, wd, t⟩ l[j + 1]? s) w) := by
  have HR0 := rd1_num N ⟨k, wd, t⟩ l[j + 1]? s hk
  obtain ⟨n1, n2, n3⟩ := num_not hk
  have b1 : (k == 1) = false := by simpa using n1
  have b2 : (k == 14) = false := by simpa using n2
  have b3 : (k == 15) = false := by simpa using n3
  obtain ⟨f, hf⟩ : ∃ f, fullZ k = f := ⟨_, rfl⟩
  have Hf := Lib.hid hf
  have hz : f ≤ 4 := by rw [← hf]; unfold fullZ; split <;> (try split) <;> omega
  have HMO : Hid (mostN ⟨k, wd, t⟩ l[j + 1]? = if (match l[j + 1]? with | some q => decide (0 < fullZ q.k) | none => false) then wd.toNat else f.toNat) := by
    unfold Hid mostN; rw [hf]; rfl
  obtain ⟨M, hM⟩ : ∃ M, mostN ⟨k, wd, t⟩ l[j + 1]? = M := ⟨_, rfl⟩
  obtain ⟨m, hm⟩ : ∃ m, digN s M = m := ⟨_, rfl⟩
  rw [hM] at HMO HR0
  rw [hm] at HR0
  have HR := Lib.hid HR0
  have Hm := Lib.hid hm
  rw [hf] at hk hw2
  clear hM HR0 n1 n2 n3 hf hm
  obtain ⟨R, off, rfl, hR, hc⟩ := h.2.2 (by rintro rfl; simp at hj)
  obtain ⟨c0, c1, c2⟩ := hc j hj
  rw [he] at c0 c1 c2
  simp only at c0 c1 c2
  have hlen := h.1
  have hcap := h.2.1
  unfold maxLen at hcap
  have hE1 : Ext w (w.alloc (.cells (sv N.all).toArray 27)) := (Ext.refl w).alloc _
  replace c0 := (hE1.cells R _ hR).trans c0
  replace c1 := (hE1.cells R _ hR).trans c1
  replace c2 := (hE1.cells R _ hR).trans c2
  have hRN : (w.alloc (.cells (sv N.all).toArray 27)).rangeAt w.heap.size 0 (sv N.all) := by
    intro j v hv
    rw [Nat.zero_add, World.cell?_alloc_new]
    simpa using hv
  have hzN : w.heap.size < (w.alloc (.cells (sv N.all).toArray 27)).heap.size := by simp
  have hI := names_size hN
  have HC := Lib.hid hc
  have HPV := Lib.hid h
  have HNN := Lib.hid hN
  clear hc h he hN
  go_enter Tryz.func36, Tryz.ntmps36
  go_upto_region 1 with fail
  generalize w.alloc (.cells (sv N.all).toArray 27) = W1 at hE1 c0 c1 c2 hRN hzN ⊢
  generalize w.heap.size = BN at hRN hzN ⊢
  have HE1 := Lib.hid hE1
  replace hE1 : Ext w (W1.alloc (.cells #[.int .i64 k, .int .i64 wd, .string ⟨t.toArray⟩] 51)) := hE1.alloc _
  have hkf : (0 : Int) < f := hk
  by_cases hnx : j + 1 < l.length
  · obtain ⟨d0, -, -⟩ := HC.out (j + 1) hnx
    have hRW : R < W1.heap.size := Nat.lt_of_lt_of_le hR (HE1.out.size)
    replace d0 := (HE1.out.cells R _ hR).trans d0
    have eo : off + 3 * (j + 1) = off + (j + 1) * 3 := by omega
    have hnx2 : (j : Int) + 1 < (l.length : Int) := by omega
    obtain ⟨g, hg⟩ : ∃ g, fullZ l[j + 1].k = g := ⟨_, rfl⟩
    have Hg := Lib.hid hg
    rw [List.getElem?_eq_getElem hnx] at HMO
    simp only [hg] at HMO
    obtain ⟨qk, hqk⟩ : ∃ qk, l[j + 1].k = qk := ⟨_, rfl⟩
    rw [hqk] at d0 Hg
    have hgn : 0 ≤ g := by rw [← hg]; exact fullZ_nonneg _
    clear hg hqk hnx
    by_cases hg0 : 0 < g
    · have hM1 : (M : Int) = wd := by rw [HMO.out, decide_eq_true hg0]; simp; omega
      have hM4 : M ≤ 4 := by omega
      clear HMO
      go_upto_region 20 with (first
        | (go_at_call 31; (with_reducible refine (rFul_c k f _ Hf.out).mono ?_); rintro e w4 ⟨rfl, rfl⟩)
        | (go_at_call 31; (with_reducible refine (rFul_c qk g _ Hg.out).mono ?_); rintro e w4 ⟨rfl, rfl⟩)
        | (go_at_call 78; (with_reducible refine (rdigits_z s wd M m _ hM1 hM4 Hm.out hs).mono ?_); rintro e w4 ⟨rfl, rfl⟩))
      have y1 : (W1.alloc (.cells #[.int .i64 k, .int .i64 wd, .string ⟨t.toArray⟩] 51)).cell? ⟨W1.heap.size, 1, none⟩ = some (.int .i64 wd) := by rw [World.cell?_alloc_new]; rfl
      generalize W1.alloc (.cells #[.int .i64 k, .int .i64 wd, .string ⟨t.toArray⟩] 51) = W at hE1 y1 ⊢
      generalize W1.heap.size = DP at y1 ⊢
      go_wp2_with fail
      go_loop [15, 16] (fun v i => ∃ q : Nat, q ≤ m ∧ i = .int .i64 (q : Int) ∧ v = .int .i64 ((val (s.take q) : Nat) : Int)) (fun _ i => m - (intOf i).toNat)
      case atStart => exact ⟨0, Nat.zero_le _, rfl, rfl⟩
      case round =>
        obtain ⟨q, hq, rfl, rfl⟩ := hrel
        have hvb := val_bound Hm.out hM4 q hq
        by_cases hlt : q < m
        · obtain ⟨hql, d1, d2⟩ := digN_prefix Hm.out q hlt
          have hb := bget s q hql _ rfl
          have HV := Lib.hid (val_take s q hql)
          have hql2 : (q : Int) < (s.length : Int) := by omega
          obtain ⟨c, hc⟩ : ∃ c, c = s[q] := ⟨_, rfl⟩
          obtain ⟨V, hV⟩ : ∃ V, val (s.take q) = V := ⟨_, rfl⟩
          rw [← hc] at hb HV d1 d2
          rw [hV] at HV hvb ⊢
          clear hc hV
          go_wp2_with fail
          go_round
          case rel => exact ⟨q + 1, by omega, by go_num, by rw [HV.out]; go_num⟩
          case measure => simp [intOf]; omega
        · obtain rfl : q = m := by omega
          obtain ⟨V, hV⟩ : ∃ V, val (s.take q) = V := ⟨_, rfl⟩
          rw [hV] at HR hvb ⊢
          clear hV
          by_cases hmw : wd ≤ (q : Int)
          · have HR2 : Hid (rd1 N ⟨k, wd, t⟩ l[j + 1]? s = some (q, [(k, V)])) := by rw [Hid, HR.out, if_neg (by show ¬ (q : Int) < wd; omega)]
            go_upto_region 25 with fail
            go_quiet (fail)
            go_wp2_with fail
            go_ret3
            exact .yes HR2.out rfl rfl (by (repeat (with_reducible (first | assumption | exact Ext.refl _ | refine Ext.alloc ?_ _ | refine Ext.drewN ?_ _ | refine Ext.drew ?_))))
          · have HR2 : Hid (rd1 N ⟨k, wd, t⟩ l[j + 1]? s = none) := by rw [Hid, HR.out, if_pos (by show (q : Int) < wd; omega)]
            go_upto_region 25 with fail
            go_quiet (fail)
            go_wp2_with fail
            go_ret3
            exact .no q V HR2.out rfl (by (repeat (with_reducible (first | assumption | exact Ext.refl _ | refine Ext.alloc ?_ _ | refine Ext.drewN ?_ _ | refine Ext.drew ?_))))
    · have hM1 : (M : Int) = f := by rw [HMO.out, decide_eq_false hg0]; simp; omega
      have hM4 : M ≤ 4 := by omega
      clear HMO
      go_upto_region 20 with (first
        | (go_at_call 31; (with_reducible refine (rFul_c k f _ Hf.out).mono ?_); rintro e w4 ⟨rfl, rfl⟩)
        | (go_at_call 31; (with_reducible refine (rFul_c qk g _ Hg.out).mono ?_); rintro e w4 ⟨rfl, rfl⟩)
        | (go_at_call 78; (with_reducible refine (rdigits_z s f M m _ hM1 hM4 Hm.out hs).mono ?_); rintro e w4 ⟨rfl, rfl⟩))
      have y1 : (W1.alloc (.cells #[.int .i64 k, .int .i64 wd, .string ⟨t.toArray⟩] 51)).cell? ⟨W1.heap.size, 1, none⟩ = some (.int .i64 wd) := by rw [World.cell?_alloc_new]; rfl
      generalize W1.alloc (.cells #[.int .i64 k, .int .i64 wd, .string ⟨t.toArray⟩] 51) = W at hE1 y1 ⊢
      generalize W1.heap.size = DP at y1 ⊢
      go_wp2_with fail
      go_loop [15, 16] (fun v i => ∃ q : Nat, q ≤ m ∧ i = .int .i64 (q : Int) ∧ v = .int .i64 ((val (s.take q) : Nat) : Int)) (fun _ i => m - (intOf i).toNat)
      case atStart => exact ⟨0, Nat.zero_le _, rfl, rfl⟩
      case round =>
        obtain ⟨q, hq, rfl, rfl⟩ := hrel
        have hvb := val_bound Hm.out hM4 q hq
        by_cases hlt : q < m
        · obtain ⟨hql, d1, d2⟩ := digN_prefix Hm.out q hlt
          have hb := bget s q hql _ rfl
          have HV := Lib.hid (val_take s q hql)
          have hql2 : (q : Int) < (s.length : Int) := by omega
          obtain ⟨c, hc⟩ : ∃ c, c = s[q] := ⟨_, rfl⟩
          obtain ⟨V, hV⟩ : ∃ V, val (s.take q) = V := ⟨_, rfl⟩
          rw [← hc] at hb HV d1 d2
          rw [hV] at HV hvb ⊢
          clear hc hV
          go_wp2_with fail
          go_round
          case rel => exact ⟨q + 1, by omega, by go_num, by rw [HV.out]; go_num⟩
          case measure => simp [intOf]; omega
        · obtain rfl : q = m := by omega
          obtain ⟨V, hV⟩ : ∃ V, val (s.take q) = V := ⟨_, rfl⟩
          rw [hV] at HR hvb ⊢
          clear hV
          by_cases hmw : wd ≤ (q : Int)
          · have HR2 : Hid (rd1 N ⟨k, wd, t⟩ l[j + 1]? s = some (q, [(k, V)])) := by rw [Hid, HR.out, if_neg (by show ¬ (q : Int) < wd; omega)]
            go_upto_region 25 with fail
            go_quiet (fail)
            go_wp2_with fail
            go_ret3
            exact .yes HR2.out rfl rfl (by (repeat (with_reducible (first | assumption | exact Ext.refl _ | refine Ext.alloc ?_ _ | refine Ext.drewN ?_ _ | refine Ext.drew ?_))))
          · have HR2 : Hid (rd1 N ⟨k, wd, t⟩ l[j + 1]? s = none) := by rw [Hid, HR.out, if_pos (by show (q : Int) < wd; omega)]
            go_upto_region 25 with fail
            go_quiet (fail)
            go_wp2_with fail
            go_ret3
            exact .no q V HR2.out rfl (by (repeat (with_reducible (first | assumption | exact Ext.refl _ | refine Ext.alloc ?_ _ | refine Ext.drewN ?_ _ | refine Ext.drew ?_))))
  · have hnx2 : ¬ (j : Int) + 1 < (l.length : Int) := by omega
    rw [List.getElem?_eq_none (by omega)] at HMO
    have hM1 : (M : Int) = f := by rw [HMO.out]; simp; omega
    have hM4 : M ≤ 4 := by omega
    clear HMO hnx
    go_upto_region 20 with (first
      | (go_at_call 31; (with_reducible refine (rFul_c k f _ Hf.out).mono ?_); rintro e w4 ⟨rfl, rfl⟩)
      | fail
      | (go_at_call 78; (with_reducible refine (rdigits_z s f M m _ hM1 hM4 Hm.out hs).mono ?_); rintro e w4 ⟨rfl, rfl⟩))
    have y1 : (W1.alloc (.cells #[.int .i64 k, .int .i64 wd, .string ⟨t.toArray⟩] 51)).cell? ⟨W1.heap.size, 1, none⟩ = some (.int .i64 wd) := by rw [World.cell?_alloc_new]; rfl
    generalize W1.alloc (.cells #[.int .i64 k, .int .i64 wd, .string ⟨t.toArray⟩] 51) = W at hE1 y1 ⊢
    generalize W1.heap.size = DP at y1 ⊢
    go_wp2_with fail
    go_loop [15, 16] (fun v i => ∃ q : Nat, q ≤ m ∧ i = .int .i64 (q : Int) ∧ v = .int .i64 ((val (s.take q) : Nat) : Int)) (fun _ i => m - (intOf i).toNat)
    case atStart => exact ⟨0, Nat.zero_le _, rfl, rfl⟩
    case round =>
      obtain ⟨q, hq, rfl, rfl⟩ := hrel
      have hvb := val_bound Hm.out hM4 q hq
      by_cases hlt : q < m
      · obtain ⟨hql, d1, d2⟩ := digN_prefix Hm.out q hlt
        have hb := bget s q hql _ rfl
        have HV := Lib.hid (val_take s q hql)
        have hql2 : (q : Int) < (s.length : Int) := by omega
        obtain ⟨c, hc⟩ : ∃ c, c = s[q] := ⟨_, rfl⟩
        obtain ⟨V, hV⟩ : ∃ V, val (s.take q) = V := ⟨_, rfl⟩
        rw [← hc] at hb HV d1 d2
        rw [hV] at HV hvb ⊢
        clear hc hV
        go_wp2_with fail
        go_round
        case rel => exact ⟨q + 1, by omega, by go_num, by rw [HV.out]; go_num⟩
        case measure => simp [intOf]; omega
      · obtain rfl : q = m := by omega
        obtain ⟨V, hV⟩ : ∃ V, val (s.take q) = V := ⟨_, rfl⟩
        rw [hV] at HR hvb ⊢
        clear hV
        by_cases hmw : wd ≤ (q : Int)
        · have HR2 : Hid (rd1 N ⟨k, wd, t⟩ l[j + 1]? s = some (q, [(k, V)])) := by rw [Hid, HR.out, if_neg (by show ¬ (q : Int) < wd; omega)]
          go_upto_region 25 with fail
          go_quiet (fail)
          go_wp2_with fail
          go_ret3
          exact .yes HR2.out rfl rfl (by (repeat (with_reducible (first | assumption | exact Ext.refl _ | refine Ext.alloc ?_ _ | refine Ext.drewN ?_ _ | refine Ext.drew ?_))))
        · have HR2 : Hid (rd1 N ⟨k, wd, t⟩ l[j + 1]? s = none) := by rw [Hid, HR.out, if_pos (by show (q : Int) < wd; omega)]
          go_upto_region 25 with fail
          go_quiet (fail)
          go_wp2_with fail
          go_ret3
          exact .no q V HR2.out rfl (by (repeat (with_reducible (first | assumption | exact Ext.refl _ | refine Ext.alloc ?_ _ | refine Ext.drewN ?_ _ | refine Ext.drew ?_))))
end Go.Proofs.YticckkadmhklmaaGreat
/- The walk of the reference's read: names; and whole. -/
namespace Go.Proofs.YticckkadmhklmaaGreat
set_option linter.unusedVariables false
set_option linter.unusedSimpArgs false
open Go.RowKit

set_option maxRecDepth 100000 in
set_option maxHeartbeats 2000000 in
theorem rread_nam (N : Nms) (hN : N.ok) (hNl : ∀ s ∈ N.all, s.length ≤ 100000) (l : List Prt) (j : Nat) (hj : j < l.length) (k wd : Int) (t : List UInt8) (he : l[j] = ⟨k, wd, t⟩) (hk : k = 4 ∨ k = 5 ∨ k = 7 ∨ k = 8 ∨ k = 13) (q0 : Option Prt) (ao : Option Addr) (cap : Nat) (s : List UInt8) (w : World) (h : PtV ao cap l w) (hs : s.length ≤ 100000) :
    Calls Tryz.prog 36 #[.slice ao l.length cap, .int .i64 (j : Int), .agg (sv N.all).toArray, .string ⟨s.toArray⟩] w (RrP (rd1 N ⟨k, wd, t⟩ q0 s) w) := by
  have HR := Lib.hid (rd1_nam N k wd t s q0 hk)
  obtain ⟨n1, n2, n3, n4⟩ := nam_not hk
  have b1 : (k == 1) = false := by simpa using n1
  have b2 : (k == 14) = false := by simpa using n2
  have b3 : (k == 15) = false := by simpa using n3
  have Hf : Hid (fullZ k = 0) := by have := fullZ_nonneg k; unfold Hid; omega
  have HNM : Hid (∀ (B' j : Nat) (W : World) (hj : j < (lstK N k).length), RdS N.all B' 0 W → W.cell? ⟨B', offK k + j, none⟩ = some (.string ⟨(lstK N k)[j].toArray⟩)) := fun B' j W hj h => (names_at hN h hk).2 j hj
  have HLn : Hid (∀ x ∈ lstK N k, x.length ≤ 100000) := fun x hx => hNl x (lstK_sub N k x hx)
  have HLR := Lib.hid (rList_c N k · hN)
  have hw12 := lstK_len hN k
  obtain ⟨ws, hws⟩ : ∃ ws, ws = lstK N k := ⟨_, rfl⟩
  obtain ⟨O, hO⟩ : ∃ O, O = offK k := ⟨_, rfl⟩
  have HLS : Hid (∀ x W, LsL N k x W → ∃ B, x = .slice (some ⟨B, O, none⟩) ws.length ws.length ∧ RdS N.all B 0 W) := fun x W q => by rw [hws, hO]; exact q
  rw [← hws] at HR HLn hw12
  rw [← hws, ← hO] at HNM
  clear hws hO n1 n2 n3 n4 hk hNl
  obtain ⟨R, off, rfl, hR, hc⟩ := h.2.2 (by rintro rfl; simp at hj)
  obtain ⟨c0, c1, c2⟩ := hc j hj
  rw [he] at c0 c1 c2
  simp only at c0 c1 c2
  have hlen := h.1
  have hcap := h.2.1
  unfold maxLen at hcap
  have hE1 : Ext w (w.alloc (.cells (sv N.all).toArray 27)) := (Ext.refl w).alloc _
  replace c0 := (hE1.cells R _ hR).trans c0
  replace c1 := (hE1.cells R _ hR).trans c1
  replace c2 := (hE1.cells R _ hR).trans c2
  have hRN : (w.alloc (.cells (sv N.all).toArray 27)).rangeAt w.heap.size 0 (sv N.all) := by
    intro j v hv
    rw [Nat.zero_add, World.cell?_alloc_new]
    simpa using hv
  have hzN : w.heap.size < (w.alloc (.cells (sv N.all).toArray 27)).heap.size := by simp
  have hI := names_size hN
  have HC := Lib.hid hc
  have HPV := Lib.hid h
  have HNN := Lib.hid hN
  clear hc h he hN
  go_enter Tryz.func36, Tryz.ntmps36
  go_upto_region 1 with fail
  generalize w.alloc (.cells (sv N.all).toArray 27) = W1 at hE1 c0 c1 c2 hRN hzN ⊢
  generalize w.heap.size = BN at hRN hzN ⊢
  have HE1 := Lib.hid hE1
  replace hE1 : Ext w (W1.alloc (.cells #[.int .i64 k, .int .i64 wd, .string ⟨t.toArray⟩] 51)) := hE1.alloc _
  go_upto_region 27 with (first
    | (go_at_call 31; (with_reducible refine (rFul_c k 0 _ Hf.out).mono ?_); rintro e w4 ⟨rfl, rfl⟩)
    | (refine wpList_load_midg (by rfl) 27 _ rfl BN 0 rfl (sv N.all) _ (rangeAt_ext hRN hzN ((Ext.refl W1).alloc _)) Tryz.underlying27 rfl hI ?_)
    | (go_at_call 33; (with_reducible refine (HLR.out _).mono ?_); rintro e w5 ⟨x, rfl, hX, hE5⟩; obtain ⟨B5, rfl, hRd⟩ := HLS.out x w5 hX; clear hX))
  have hEw := hE1.trans hE5
  have HRd := Lib.hid hRd
  clear hE1 hE5 hRd c0 c1 c2 hRN hzN HLR HLS
  generalize W1.heap.size = DP at *
  go_wp2_with fail
  go_loop [18] (fun i => ∃ q : Nat, q ≤ ws.length ∧ i = .int .i64 (q : Int) ∧ Hid (∀ i (hi : i < ws.length), i < q → ws[i].isPrefixOf s = false)) (fun i => ws.length - (intOf i).toNat)
  case atStart => exact ⟨0, Nat.zero_le _, rfl, fun i _ q => absurd q (Nat.not_lt_zero i)⟩
  case round =>
    obtain ⟨q, hq, rfl, Hq⟩ := hrel
    by_cases hlt : q < ws.length
    · have hcell := HNM.out B5 q w5 hlt HRd.out
      have hxl := HLn.out ws[q] (List.getElem_mem _)
      have HA : Hid (ws[q].isPrefixOf s = true → namI ws s = q) := fun e => namI_at hlt Hq.out e
      have HGD : Hid (ws.getD q [] = ws[q]) := by rw [Hid]; simp [List.getD, hlt]
      have hlt2 : (q : Int) < (ws.length : Int) := by omega
      have HS : Hid (ws[q].isPrefixOf s = false → ∀ i (hi : i < ws.length), i < q + 1 → ws[i].isPrefixOf s = false) := fun e i hi hi2 => by
        by_cases hiq : i = q
        · subst hiq; exact e
        · exact Hq.out i hi (by omega)
      obtain ⟨x, hx⟩ : ∃ x, ws[q] = x := ⟨_, rfl⟩
      rw [hx] at hcell hxl HA HGD HS
      have HX := Lib.hid hx
      clear hx
      rcases Bool.eq_false_or_eq_true (x.isPrefixOf s) with hp | hp
      · have Hp := Lib.hid hp
        have HR2 : Hid (rd1 N ⟨k, wd, t⟩ q0 s = some (x.length, [(k, q)])) := by rw [Hid, HR.out, HA.out hp, if_pos hlt, HGD.out]
        clear hp
        go_wp2_with (first
          | (go_at_call 75; (with_reducible refine (starts_l s x true _ Hp.out hs).mono ?_); rintro e w6 ⟨rfl, rfl⟩))
        go_ret3
        exact .yes HR2.out rfl rfl hEw
      · have Hp := Lib.hid hp
        have HN2 := Lib.hid (HS.out hp)
        clear hp
        go_wp2_with (first
          | (go_at_call 75; (with_reducible refine (starts_l s x false _ Hp.out hs).mono ?_); rintro e w6 ⟨rfl, rfl⟩))
        go_round
        case rel => exact ⟨q + 1, by omega, by go_num, HN2.out⟩
        case measure => simp [intOf]; omega
    · obtain rfl : q = ws.length := by omega
      have HR2 : Hid (rd1 N ⟨k, wd, t⟩ q0 s = none) := by rw [Hid, HR.out, namI_no Hq.out, if_neg (by omega)]
      go_wp2_with fail
      go_ret3
      exact .no 0 0 HR2.out rfl hEw
/-- The reference's read. -/
theorem rread_c (N : Nms) (hN : N.ok) (hNl : ∀ s ∈ N.all, s.length ≤ 100000) (l : List Prt) (j : Nat) (hj : j < l.length) (hp : partB l[j] = true) (ao : Option Addr) (cap : Nat) (s : List UInt8) (w : World) (h : PtV ao cap l w) (hs : s.length ≤ 100000) :
    Calls Tryz.prog 36 #[.slice ao l.length cap, .int .i64 (j : Int), .agg (sv N.all).toArray, .string ⟨s.toArray⟩] w (RrP (rd1 N l[j] l[j + 1]? s) w) := by
  have hk := kinds l[j] hp
  obtain ⟨p, he⟩ : ∃ p, l[j] = p := ⟨_, rfl⟩
  rw [he] at hk hp ⊢
  obtain ⟨k, wd, t⟩ := p
  simp only at hk
  rcases hk with hk | hk | hk | hk | hk
  · subst hk
    have ht : t.length ≤ 100000 := by
      unfold partB at hp
      rw [if_pos rfl] at hp
      simp only [Bool.and_eq_true, decide_eq_true_eq] at hp
      omega
    exact rread_lit N hN l j hj wd t he _ ao cap s w h hs ht
  · subst hk
    exact rread_off N hN l j hj wd t he _ ao cap s w h hs
  · subst hk
    exact rread_typ N hN l j hj wd t he _ ao cap s w h hs
  · obtain ⟨w1, w2⟩ := num_width hp hk
    exact rread_num N hN l j hj k wd t he hk w1 w2 ao cap s w h hs
  · exact rread_nam N hN hNl l j hj k wd t he hk _ ao cap s w h hs
end Go.Proofs.YticckkadmhklmaaGreat
/- Patterns, plainly: the local time of the values that were read, as the reference finds it. No program in sight. -/
namespace Go.Proofs.YticckkadmhklmaaGreat
set_option linter.unusedVariables false
set_option linter.unusedSimpArgs false

theorem gotK_iff {vs : List (Int × Nat)} (hc : Cons vs) (k : Int) (v : Nat) : gotK vs k = some v ↔ (k, v) ∈ vs := ⟨gotK_mem, gotK_some hc⟩
/-- The reference's reading of a field, by the program's readings of kinds. -/
theorem got_nrm {vs : List (Int × Nat)} (h : Cons (vs.map nrm)) (i : Int) (v : Nat) : gotK (vs.map nrm) i = some v ↔ ∃ j w, gotK vs j = some w ∧ grpK j = i ∧ w + addK j = v := by
  have hc := ((cons_nrm vs).1 h).1
  rw [gotK_iff h, List.mem_map]
  constructor
  · rintro ⟨a, ha, e⟩
    rw [nrm_eq] at e
    injection e with e1 e2
    exact ⟨a.1, a.2, (gotK_iff hc _ _).2 ha, e1, e2⟩
  · rintro ⟨j, w, h1, h2, h3⟩
    exact ⟨(j, w), (gotK_iff hc _ _).1 h1, by rw [nrm_eq, ← h2, ← h3]⟩
theorem got_same {vs : List (Int × Nat)} (h : Cons (vs.map nrm)) (i : Int) (hi : i ≠ 3 ∧ i ≠ 4 ∧ i ≠ 5 ∧ i ≠ 7 ∧ i ≠ 8) : gotK (vs.map nrm) i = gotK vs i := by
  have g : ∀ j, grpK j = i → j = i ∧ addK j = 0 := by
    intro j hj
    unfold grpK at hj
    unfold addK
    split at hj
    · omega
    · split at hj
      · omega
      · rename_i q1 q2
        rw [if_neg q1]; exact ⟨hj, rfl⟩
  have gi : grpK i = i ∧ addK i = 0 := by
    unfold grpK addK
    rw [if_neg (by omega), if_neg (by omega), if_neg (by omega)]; exact ⟨rfl, rfl⟩
  cases e : gotK vs i with
  | some w => rw [got_nrm h]; exact ⟨i, w, e, gi.1, by rw [gi.2]; omega⟩
  | none =>
    cases e2 : gotK (vs.map nrm) i with
    | none => rfl
    | some v =>
      obtain ⟨j, w, h1, h2, h3⟩ := (got_nrm h i v).1 e2
      obtain ⟨rfl, _⟩ := g j h2
      rw [e] at h1; cases h1
theorem sameO_val {u : Int} {a b c : Option Int} (h : (sameO u a b c).2 = true) : (∀ x, a = some x ∨ b = some x ∨ c = some x → (sameO u a b c).1 = x) ∧ (a = none → b = none → c = none → (sameO u a b c).1 = u) := by
  unfold sameO at *
  cases a <;> cases b <;> cases c <;> simp at * <;> (repeat' split at h) <;> (try split) <;> (try split) <;> simp at * <;> omega
/-- The reference's answer for its fields. -/
def refH (g : Int → Option Nat) : Nat := match g 9 with
  | some h => h
  | none => match g 10 with | some t => t % 12 + 12 * (g 13).getD 0 | none => 0
def refC (g : Int → Option Nat) (c : Bool) : Bool :=
  (c || (match g 10 with | some t => decide (t < 1) || decide (12 < t) | none => false)) || (match g 9 with
    | some h => (match g 10 with | some t => decide (h % 12 ≠ t % 12) | none => false) || (match g 13 with | some x => decide (h / 12 ≠ x) | none => false)
    | none => false)
def refM (g : Int → Option Nat) (c : Bool) : Int × Bool :=
  let y : Int := ((g 2).getD 1970 : Nat)
  let mo : Int := ((g 3).getD 1 : Nat)
  let d : Int := ((g 6).getD 1 : Nat)
  let h : Int := (refH g : Nat)
  let mi : Int := ((g 11).getD 0 : Nat)
  let s : Int := ((g 12).getD 0 : Nat)
  if refC g c = true then (0, false)
  else if vldB y mo d = true ∧ tmB h mi s = true then (match g 7 with
    | some x => if (x : Int) ≠ wdZ (dn y mo d) - 1 then (0, false) else (inst y mo d h mi s, true)
    | none => (inst y mo d h mi s, true))
  else (0, false)
theorem hour_ref (f : Int → Option Nat) : (refC f false = false ↔ (hourP f).2 = true) ∧ ((hourP f).2 = true → (hourP f).1 = refH f) := by
  unfold refC refH hourP
  cases f 10 with
  | none =>
    cases f 9 with
    | none => simp
    | some h =>
      cases f 13 with
      | none => simp
      | some x => simp; omega
  | some t =>
    by_cases q : t < 1 ∨ 12 < t
    · have q' : t = 0 ∨ 12 < t := by omega
      cases f 9 <;> cases f 13 <;> simp [q'] <;> omega
    · have q' : ¬ (t = 0 ∨ 12 < t) := by omega
      cases f 9 with
      | none => simp [q']; omega
      | some h =>
        cases f 13 with
        | none => simp [q']; omega
        | some x => simp [q']; omega
theorem month_ref {vs : List (Int × Nat)} (h : Cons (vs.map nrm)) (hs : (sameF (gotK vs) 1 false [3, 4, 5]).2 = true) : (sameF (gotK vs) 1 false [3, 4, 5]).1 = (((gotK (vs.map nrm) 3).getD 1 : Nat) : Int) := by
  rw [same_month] at hs ⊢
  obtain ⟨h1, h2⟩ := sameO_val hs
  cases e : gotK (vs.map nrm) 3 with
  | some v =>
    obtain ⟨j, w, q1, q2, q3⟩ := (got_nrm h 3 v).1 e
    have hj : j = 3 ∨ j = 4 ∨ j = 5 := by
      unfold grpK at q2
      split at q2
      · omega
      · split at q2 <;> omega
    have d : addK 3 = 0 ∧ addK 4 = 1 ∧ addK 5 = 1 := by decide
    obtain ⟨d3, d4, d5⟩ := d
    show _ = (v : Int)
    rcases hj with rfl | rfl | rfl
    · exact h1 _ (.inl (by rw [q1]; simp; omega))
    · exact h1 _ (.inr (.inl (by rw [q1]; simp; omega)))
    · exact h1 _ (.inr (.inr (by rw [q1]; simp; omega)))
  | none =>
    have hno : ∀ j, grpK j = 3 → gotK vs j = none := by
      intro j hj
      cases e2 : gotK vs j with
      | none => rfl
      | some w =>
        have := (got_nrm h 3 (w + addK j)).2 ⟨j, w, e2, hj, rfl⟩
        rw [e] at this; cases this
    exact h2 (by rw [hno 3 (by decide)]; rfl) (by rw [hno 4 (by decide)]; rfl) (by rw [hno 5 (by decide)]; rfl)
theorem day_ref {vs : List (Int × Nat)} (h : Cons (vs.map nrm)) (hs : (sameF (gotK vs) 0 false [7, 8]).2 = true) : (sameF (gotK vs) 0 false [7, 8]).1 = (match gotK (vs.map nrm) 7 with | some x => (x : Int) + 1 | none => 0) := by
  rw [same_day] at hs ⊢
  obtain ⟨h1, h2⟩ := sameO_val hs
  cases e : gotK (vs.map nrm) 7 with
  | some v =>
    obtain ⟨j, w, q1, q2, q3⟩ := (got_nrm h 7 v).1 e
    have hj : j = 7 ∨ j = 8 := by
      unfold grpK at q2
      split at q2
      · omega
      · split at q2 <;> omega
    have d : addK 7 = 0 ∧ addK 8 = 0 := by decide
    obtain ⟨d3, d4⟩ := d
    show _ = (v : Int) + 1
    rcases hj with rfl | rfl
    · exact h1 _ (.inl (by rw [q1]; simp; omega))
    · exact h1 _ (.inr (.inl (by rw [q1]; simp; omega)))
  | none =>
    have hno : ∀ j, grpK j = 7 → gotK vs j = none := by
      intro j hj
      cases e2 : gotK vs j with
      | none => rfl
      | some w =>
        have := (got_nrm h 7 (w + addK j)).2 ⟨j, w, e2, hj, rfl⟩
        rw [e] at this; cases this
    exact h2 (by rw [hno 7 (by decide)]; rfl) (by rw [hno 8 (by decide)]; rfl) rfl
theorem wdZ_pos (n : Int) : 1 ≤ wdZ n := by unfold wdZ; omega
/-- The program's time is the reference's. -/
theorem momP_ref (vs : List (Int × Nat)) (c : Bool) (hc : c = false ↔ Cons (vs.map nrm)) :
    refM (gotK (vs.map nrm)) c = if (momP (gotK vs) (clB vs)).2 = true then ((momP (gotK vs) (clB vs)).1, true) else (0, false) := by
  by_cases h : Cons (vs.map nrm)
  · obtain rfl := hc.2 h
    obtain ⟨h1, h2⟩ := (cons_nrm vs).1 h
    have hcl := (clB_iff vs).2 h1
    obtain ⟨s1, s2⟩ := (same_ok (gotK vs)).2 h2
    have m1 := month_ref h s1
    have m2 := day_ref h s2
    have g2 := got_same h 2 (by decide)
    have g6 := got_same h 6 (by decide)
    have g9 := got_same h 9 (by decide)
    have g10 := got_same h 10 (by decide)
    have g11 := got_same h 11 (by decide)
    have g12 := got_same h 12 (by decide)
    have g13 := got_same h 13 (by decide)
    obtain ⟨k1, k2⟩ := hour_ref (gotK vs)
    have eH : refH (gotK (vs.map nrm)) = refH (gotK vs) := by unfold refH; rw [g9, g10, g13]
    have eC : refC (gotK (vs.map nrm)) false = refC (gotK vs) false := by unfold refC; rw [g9, g10, g13]
    unfold refM momP
    simp only [eH, eC, g2, g6, g11, g12, hcl, s1, s2, m1, m2]
    cases hq : (hourP (gotK vs)).2 with
    | false =>
      have : refC (gotK vs) false = true := by
        cases e : refC (gotK vs) false with
        | true => rfl
        | false => rw [k1.1 e] at hq; cases hq
      simp [this]
    | true =>
      rw [k1.2 hq, k2 hq]
      simp only [Bool.false_eq_true, if_false, or_self, reduceCtorEq]
      generalize ((gotK vs 2).getD 1970 : Nat) = y
      generalize ((gotK (vs.map nrm) 3).getD 1 : Nat) = mo
      generalize ((gotK vs 6).getD 1 : Nat) = d
      by_cases hv : vldB (y : Int) (mo : Int) (d : Int) = true ∧ tmB (refH (gotK vs) : Nat) ((gotK vs 11).getD 0 : Nat) ((gotK vs 12).getD 0 : Nat) = true
      · rw [if_pos hv, if_pos hv]
        have hp := wdZ_pos (dn (y : Int) (mo : Int) (d : Int))
        cases gotK (vs.map nrm) 7 with
        | none => simp
        | some x =>
          generalize wdZ (dn (y : Int) (mo : Int) (d : Int)) = W at hp ⊢
          by_cases hx : (x : Int) = W - 1
          · obtain rfl : W = (x : Int) + 1 := by omega
            simp
          · have h1 : ¬ W = (x : Int) + 1 := by omega
            have h0 : ¬ (x : Int) + 1 = 0 := by omega
            simp [hx, h1, h0]
      · rw [if_neg hv, if_neg hv]
        simp
  · have ct : c = true := by
      cases c with
      | true => rfl
      | false => exact absurd (hc.1 rfl) h
    have hp : (momP (gotK vs) (clB vs)).2 = false := by
      unfold momP
      rw [if_pos]
      by_cases h1 : Cons vs
      · have h2 : ¬ ((sameF (gotK vs) 1 false [3, 4, 5]).2 = true ∧ (sameF (gotK vs) 0 false [7, 8]).2 = true) := fun q => h ((cons_nrm vs).2 ⟨h1, (same_ok _).1 q⟩)
        rcases Bool.eq_false_or_eq_true (sameF (gotK vs) 1 false [3, 4, 5]).2 with q1 | q1
        · rcases Bool.eq_false_or_eq_true (sameF (gotK vs) 0 false [7, 8]).2 with q2 | q2
          · exact absurd ⟨q1, q2⟩ h2
          · exact .inr (.inr (.inl q2))
        · exact .inr (.inl q1)
      · have : clB vs = true := by
          cases e : clB vs with
          | true => rfl
          | false => exact absurd ((clB_iff vs).1 e) h1
        exact .inl this
    have hr : refC (gotK (vs.map nrm)) c = true := by unfold refC; rw [ct]; simp
    rw [hp]
    unfold refM
    simp [hr]
end Go.Proofs.YticckkadmhklmaaGreat
/- The reference's Parse: its two rows of values. -/
namespace Go.Proofs.YticckkadmhklmaaGreat
set_option linter.unusedVariables false
set_option linter.unusedSimpArgs false
open Go.RowKit

theorem infoI : (Tryz.prog.info? 3).map (fun i => (i.zero, i.size, i.bytes)) = some (some (.int .i64 0), 1, 8) := by kernel_rfl
theorem infoB : (Tryz.prog.info? 4).map (fun i => (i.zero, i.size, i.bytes)) = some (some (.bool false), 1, 1) := by kernel_rfl
theorem made_int : madeCells (Value.int .i64 0).cells (Int.toNat 16 * 1) = #[.int .i64 0, .int .i64 0, .int .i64 0, .int .i64 0, .int .i64 0, .int .i64 0, .int .i64 0, .int .i64 0, .int .i64 0, .int .i64 0, .int .i64 0, .int .i64 0, .int .i64 0, .int .i64 0, .int .i64 0, .int .i64 0] := by kernel_rfl
theorem made_bool : madeCells (Value.bool false).cells (Int.toNat 16 * 1) = #[.bool false, .bool false, .bool false, .bool false, .bool false, .bool false, .bool false, .bool false, .bool false, .bool false, .bool false, .bool false, .bool false, .bool false, .bool false, .bool false] := by kernel_rfl
theorem mk_int (w : World) : (Instr.makeSlice 72 (.int .i64 16) (.int .i64 16)).run Tryz.prog w = .ok (.slice (some ⟨w.heap.size, 0, none⟩) 16 16) (w.alloc (.cells #[.int .i64 0, .int .i64 0, .int .i64 0, .int .i64 0, .int .i64 0, .int .i64 0, .int .i64 0, .int .i64 0, .int .i64 0, .int .i64 0, .int .i64 0, .int .i64 0, .int .i64 0, .int .i64 0, .int .i64 0, .int .i64 0] 3)) := by
  obtain ⟨i0, hi, h0, h1, h2⟩ := info_parts infoI
  have q := run_makeSlice (P := Tryz.prog) (w := w) 72 3 i0 (.int .i64 0) Tryz.underlying72 hi h0 .i64 .i64 16 16 (by decide) (by decide) (by rw [h1]; decide) (by rw [h2]; decide) (by decide)
  rw [h1, made_int] at q
  exact q
theorem mk_bool (w : World) : (Instr.makeSlice 73 (.int .i64 16) (.int .i64 16)).run Tryz.prog w = .ok (.slice (some ⟨w.heap.size, 0, none⟩) 16 16) (w.alloc (.cells #[.bool false, .bool false, .bool false, .bool false, .bool false, .bool false, .bool false, .bool false, .bool false, .bool false, .bool false, .bool false, .bool false, .bool false, .bool false, .bool false] 4)) := by
  obtain ⟨i0, hi, h0, h1, h2⟩ := info_parts infoB
  have q := run_makeSlice (P := Tryz.prog) (w := w) 73 4 i0 (.bool false) Tryz.underlying73 hi h0 .i64 .i64 16 16 (by decide) (by decide) (by rw [h1]; decide) (by rw [h2]; decide) (by decide)
  rw [h1, made_bool] at q
  exact q
/-- The two rows of the reference's Parse: the values of fields, and which fields were read. -/
structure VsV (us : List (Int × Nat)) (B1 B2 : Nat) (w : World) : Prop where
  lt1 : B1 < w.heap.size
  lt2 : B2 < w.heap.size
  v : ∀ k : Nat, k < 16 → w.cell? ⟨B1, k, none⟩ = some (.int .i64 (((gotK us (k : Int)).getD 0 : Nat) : Int))
  s : ∀ k : Nat, k < 16 → w.cell? ⟨B2, k, none⟩ = some (.bool (gotK us (k : Int)).isSome)
  f1 : ∀ o, w.frozen? ⟨B1, o, none⟩ = false
  f2 : ∀ o, w.frozen? ⟨B2, o, none⟩ = false
theorem VsV.ext {us : List (Int × Nat)} {B1 B2 : Nat} {w w' : World} (h : VsV us B1 B2 w) (hE : Ext w w') : VsV us B1 B2 w' :=
  ⟨hE.lt h.lt1, hE.lt h.lt2, fun k hk => (hE.cells _ _ h.lt1).trans (h.v k hk), fun k hk => (hE.cells _ _ h.lt2).trans (h.s k hk), fun o => (hE.frozens _ o h.lt1).trans (h.f1 o), fun o => (hE.frozens _ o h.lt2).trans (h.f2 o)⟩
theorem VsV.far {us : List (Int × Nat)} {B1 B2 : Nat} {w : World} (h : VsV us B1 B2 w) (p : Addr) (u : Value) (h1 : p.block ≠ B1) (h2 : p.block ≠ B2) : VsV us B1 B2 (w.setCell p u) :=
  ⟨by simpa [World.setCell] using h.lt1, by simpa [World.setCell] using h.lt2, fun k hk => (World.cell?_setCell_far _ _ _ _ h1).trans (h.v k hk), fun k hk => (World.cell?_setCell_far _ _ _ _ h2).trans (h.s k hk), fun o => by rw [World.frozen?_setCell]; exact h.f1 o, fun o => by rw [World.frozen?_setCell]; exact h.f2 o⟩
theorem VsV.put {us : List (Int × Nat)} {B1 B2 : Nat} {w : World} (h : VsV us B1 B2 w) (hne : B1 ≠ B2) (K V : Nat) (hK : K < 16) : VsV (us ++ [((K : Int), V)]) B1 B2 ((w.setCell ⟨B2, K, none⟩ (.bool true)).setCell ⟨B1, K, none⟩ (.int .i64 (V : Int))) := by
  refine ⟨by simpa [World.setCell] using h.lt1, by simpa [World.setCell] using h.lt2, fun k hk => ?_, fun k hk => ?_, fun o => ?_, fun o => ?_⟩
  · rw [gotK_snoc]
    by_cases e : k = K
    · subst e
      rw [if_pos rfl, World.cell?_setCell_same _ _ _ (u := .int .i64 (((gotK us (k : Int)).getD 0 : Nat) : Int))]
      · rfl
      · rw [World.cell?_setCell_far _ _ _ _ (by exact fun q => hne q.symm)]
        exact h.v k hk
    · rw [if_neg (by omega), World.cell?_setCell_other _ _ _ _ (by intro q; injection q with _ q; exact e q.symm), World.cell?_setCell_far _ _ _ _ (by exact fun q => hne q.symm)]
      exact h.v k hk
  · rw [gotK_snoc, World.cell?_setCell_far _ _ _ _ (by exact hne)]
    by_cases e : k = K
    · subst e
      rw [if_pos rfl, World.cell?_setCell_same _ _ _ (h.s k hk)]
      rfl
    · rw [if_neg (by omega), World.cell?_setCell_other _ _ _ _ (by intro q; injection q with _ q; exact e q.symm)]
      exact h.s k hk
  · rw [World.frozen?_setCell, World.frozen?_setCell]; exact h.f1 o
  · rw [World.frozen?_setCell, World.frozen?_setCell]; exact h.f2 o
theorem VsV.init (w : World) : VsV [] w.heap.size (w.heap.size + 1) ((w.alloc (.cells #[.int .i64 0, .int .i64 0, .int .i64 0, .int .i64 0, .int .i64 0, .int .i64 0, .int .i64 0, .int .i64 0, .int .i64 0, .int .i64 0, .int .i64 0, .int .i64 0, .int .i64 0, .int .i64 0, .int .i64 0, .int .i64 0] 3)).alloc (.cells #[.bool false, .bool false, .bool false, .bool false, .bool false, .bool false, .bool false, .bool false, .bool false, .bool false, .bool false, .bool false, .bool false, .bool false, .bool false, .bool false] 4)) := by
  refine ⟨by simp; omega, by simp, fun k hk => ?_, fun k hk => ?_, fun o => by simp, fun o => by simp⟩
  · rw [World.cell?_alloc_lt _ _ _ (by simp), World.cell?_alloc_new]
    have : k = 0 ∨ k = 1 ∨ k = 2 ∨ k = 3 ∨ k = 4 ∨ k = 5 ∨ k = 6 ∨ k = 7 ∨ k = 8 ∨ k = 9 ∨ k = 10 ∨ k = 11 ∨ k = 12 ∨ k = 13 ∨ k = 14 ∨ k = 15 := by omega
    rcases this with rfl | rfl | rfl | rfl | rfl | rfl | rfl | rfl | rfl | rfl | rfl | rfl | rfl | rfl | rfl | rfl <;> rfl
  · have e : w.heap.size + 1 = (w.alloc (.cells #[.int .i64 0, .int .i64 0, .int .i64 0, .int .i64 0, .int .i64 0, .int .i64 0, .int .i64 0, .int .i64 0, .int .i64 0, .int .i64 0, .int .i64 0, .int .i64 0, .int .i64 0, .int .i64 0, .int .i64 0, .int .i64 0] 3)).heap.size := by simp
    rw [e, World.cell?_alloc_new]
    have : k = 0 ∨ k = 1 ∨ k = 2 ∨ k = 3 ∨ k = 4 ∨ k = 5 ∨ k = 6 ∨ k = 7 ∨ k = 8 ∨ k = 9 ∨ k = 10 ∨ k = 11 ∨ k = 12 ∨ k = 13 ∨ k = 14 ∨ k = 15 := by omega
    rcases this with rfl | rfl | rfl | rfl | rfl | rfl | rfl | rfl | rfl | rfl | rfl | rfl | rfl | rfl | rfl | rfl <;> rfl
/-- One reading more, as the reference tells of a clash. -/
theorem clash_snoc {us : List (Int × Nat)} {c : Bool} (hc : c = false ↔ Cons us) (K : Int) (V : Nat) : (c || ((gotK us K).isSome && decide ((gotK us K).getD 0 ≠ V))) = false ↔ Cons (us ++ [(K, V)]) := by
  rw [cons_snoc, ← hc, Bool.or_eq_false_iff, Bool.and_eq_false_iff]
  cases gotK us K with
  | none => simp
  | some x => simp
theorem rread_n (N : Nms) (hN : N.ok) (hNl : ∀ s ∈ N.all, s.length ≤ 100000) (l : List Prt) (j : Nat) (hj : j < l.length) (p : Prt) (q0 : Option Prt) (he : l[j] = p) (hq : l[j + 1]? = q0) (hp : partB p = true) (ao : Option Addr) (cap : Nat) (s : List UInt8) (e : rd1 N p q0 s = none) (w : World) (h : PtV ao cap l w) (hs : s.length ≤ 100000) :
    Calls Tryz.prog 36 #[.slice ao l.length cap, .int .i64 (j : Int), .agg (sv N.all).toArray, .string ⟨s.toArray⟩] w fun e w' => ∃ x, e = .returned x ∧ (∃ n v : Nat, x = .tuple #[.int .i64 (n : Int), .int .i64 (v : Int), .bool false]) ∧ Ext w w' := by
  subst he hq
  refine (rread_c N hN hNl l j hj hp ao cap s w h hs).mono ?_
  rintro x w' ⟨n, v, h1, h2, h3⟩
  rw [e] at h1
  exact ⟨_, h1, ⟨n, v, rfl⟩, h3⟩
theorem rread_y (N : Nms) (hN : N.ok) (hNl : ∀ s ∈ N.all, s.length ≤ 100000) (l : List Prt) (j : Nat) (hj : j < l.length) (p : Prt) (q0 : Option Prt) (he : l[j] = p) (hq : l[j + 1]? = q0) (hp : partB p = true) (ao : Option Addr) (cap : Nat) (s : List UInt8) (n v : Nat) (vs : List (Int × Nat)) (e : rd1 N p q0 s = some (n, vs)) (hv : v = ((vs.head?).map (·.2)).getD 0) (w : World) (h : PtV ao cap l w) (hs : s.length ≤ 100000) :
    Calls Tryz.prog 36 #[.slice ao l.length cap, .int .i64 (j : Int), .agg (sv N.all).toArray, .string ⟨s.toArray⟩] w fun e w' => ∃ x, e = .returned x ∧ x = .tuple #[.int .i64 (n : Int), .int .i64 (v : Int), .bool true] ∧ Ext w w' := by
  subst he hq
  refine (rread_c N hN hNl l j hj hp ao cap s w h hs).mono ?_
  rintro x w' ⟨n2, v2, h1, h2, h3⟩
  obtain ⟨e1, e2⟩ := h2 n vs e
  rw [e] at h1
  subst e1
  exact ⟨_, h1, by rw [hv, e2]; rfl, h3⟩
end Go.Proofs.YticckkadmhklmaaGreat
/- The reference's Parse: the moment's block, and the plain answer in parts. -/
namespace Go.Proofs.YticckkadmhklmaaGreat
set_option linter.unusedVariables false
set_option linter.unusedSimpArgs false
open Go.RowKit

/-- The moment's six cells, beside the rows of values and the place. -/
structure PrS (us : List (Int × Nat)) (B1 B2 D P0 : Nat) (cs : List Int) (w : World) : Prop where
  vs : VsV us B1 B2 w
  c : ∀ o, o < 6 → w.cell? ⟨D, o, none⟩ = some (.int .i64 (cs.getD o 0))
  fz : ∀ o, w.frozen? ⟨D, o, none⟩ = false
  lt : D < w.heap.size
  p0 : w.cell? ⟨P0, 0, none⟩ = some (.int .i64 0)
  p1 : w.cell? ⟨P0, 1, none⟩ = some (.int .i64 0)
  pf : ∀ o, w.frozen? ⟨P0, o, none⟩ = false
  pl : P0 < w.heap.size
theorem PrS.ext {us : List (Int × Nat)} {B1 B2 D P0 : Nat} {cs : List Int} {w w' : World} (h : PrS us B1 B2 D P0 cs w) (hE : Ext w w') : PrS us B1 B2 D P0 cs w' :=
  ⟨h.vs.ext hE, fun o ho => (hE.cells _ _ h.lt).trans (h.c o ho), fun o => (hE.frozens _ o h.lt).trans (h.fz o), hE.lt h.lt, (hE.cells _ _ h.pl).trans h.p0, (hE.cells _ _ h.pl).trans h.p1, fun o => (hE.frozens _ o h.pl).trans (h.pf o), hE.lt h.pl⟩
theorem PrS.set {us : List (Int × Nat)} {B1 B2 D P0 : Nat} {cs : List Int} {w : World} (h : PrS us B1 B2 D P0 cs w) (hl : cs.length = 6) (h1 : B1 < D) (h2 : B2 < D) (hP : P0 < D) (o : Nat) (ho : o < 6) (v : Int) : PrS us B1 B2 D P0 (cs.set o v) (w.setCell ⟨D, o, none⟩ (.int .i64 v)) := by
  refine ⟨h.vs.far _ _ (by show D ≠ B1; omega) (by show D ≠ B2; omega), fun i hi => ?_, fun i => by rw [World.frozen?_setCell]; exact h.fz i, by simpa [World.setCell] using h.lt, (World.cell?_setCell_far _ _ _ _ (by show D ≠ P0; omega)).trans h.p0, (World.cell?_setCell_far _ _ _ _ (by show D ≠ P0; omega)).trans h.p1, fun i => by rw [World.frozen?_setCell]; exact h.pf i, by simpa [World.setCell] using h.pl⟩
  by_cases e : i = o
  · subst e
    rw [World.cell?_setCell_same _ _ _ (h.c i hi)]
    simp [List.getD, hl, hi]
  · rw [World.cell?_setCell_other _ _ _ _ (by intro q; injection q with _ q; exact e q.symm), h.c i hi]
    simp [List.getD, List.getElem?_set_ne (show o ≠ i from fun q => e q.symm)]
def cl10 (g10 : Option Nat) : Bool := match g10 with | some t => decide (t < 1) || decide (12 < t) | none => false
def h10 (g10 g13 : Option Nat) : Nat := match g10 with | some t => t % 12 + 12 * g13.getD 0 | none => 0
def cl13 (a : Nat) (g : Option Nat) : Bool := match g with | some x => decide (a ≠ x) | none => false
def cl9 (g9 g10 g13 : Option Nat) : Bool := match g9 with
  | some h => (match g10 with | some t => decide (h % 12 ≠ t % 12) | none => false) || cl13 (h / 12) g13
  | none => false
def h9 (g9 g10 g13 : Option Nat) : Nat := match g9 with | some h => h | none => h10 g10 g13
def ans7 (g7 : Option Nat) (W X : Int) : Int × Bool := match g7 with
  | some x => if (x : Int) ≠ W - 1 then (0, false) else (X, true)
  | none => (X, true)
/-- The reference's answer, in the order of its text. -/
def ansG (g2 g3 g6 g7 g9 g10 g11 g12 g13 : Option Nat) (c : Bool) : Int × Bool :=
  if ((c || cl10 g10) || cl9 g9 g10 g13) = true then (0, false)
  else if vldB (g2.getD 1970 : Nat) (g3.getD 1 : Nat) (g6.getD 1 : Nat) = true ∧ tmB (h9 g9 g10 g13 : Nat) (g11.getD 0 : Nat) (g12.getD 0 : Nat) = true then
    ans7 g7 (wdZ (dn (g2.getD 1970 : Nat) (g3.getD 1 : Nat) (g6.getD 1 : Nat))) (inst (g2.getD 1970 : Nat) (g3.getD 1 : Nat) (g6.getD 1 : Nat) (h9 g9 g10 g13 : Nat) (g11.getD 0 : Nat) (g12.getD 0 : Nat))
  else (0, false)
theorem ansR_eq (g : Int → Option Nat) (c : Bool) : refM g c = ansG (g 2) (g 3) (g 6) (g 7) (g 9) (g 10) (g 11) (g 12) (g 13) c := rfl
def ansR (g : Int → Option Nat) (c : Bool) : Int × Bool := ansG (g 2) (g 3) (g 6) (g 7) (g 9) (g 10) (g 11) (g 12) (g 13) c
theorem prs_ref {vs : List (Int × Nat)} {c : Bool} (hc : c = false ↔ Cons (vs.map nrm)) {R : Int × Nat × Int}
    (h : R = if (momP (gotK vs) (clB vs)).2 = true then ((momP (gotK vs) (clB vs)).1, 0, 0) else (0, 0, 1)) :
    R = if (ansR (gotK (vs.map nrm)) c).2 = true then ((ansR (gotK (vs.map nrm)) c).1, 0, 0) else (0, 0, 1) := by
  have q := momP_ref vs c hc
  have q : ansR (gotK (vs.map nrm)) c = _ := q
  rw [h, q]
  by_cases e : (momP (gotK vs) (clB vs)).2 = true
  · rw [if_pos e, if_pos e]; rfl
  · rw [if_neg e, if_neg e]; rfl
theorem got_bd {vs : List (Int × Nat)} (h : ∀ x ∈ vs, x.2 ≤ 100000) (k : Int) (x : Nat) (e : gotK (vs.map nrm) k = some x) : x ≤ 100001 := by
  have := gotK_mem e
  obtain ⟨a, ha, q⟩ := List.mem_map.1 this
  have hb := h a ha
  rw [nrm_eq] at q
  injection q with _ q
  have : addK a.1 ≤ 1 := by unfold addK; split <;> omega
  omega
theorem rweekday_s (n : Int) (w : World) (h1 : -719162 ≤ n) (h2 : n < 2932897) (x : Int) (hx : wdZ n = x) : Calls Tryz.prog 39 #[.int .i64 n] w fun e w' => e = .returned (.int .i64 x) ∧ w = w' := by
  subst hx
  go_enter Tryz.func39, Tryz.ntmps39
  go_wp2_with fail
  go_ret
  exact ⟨congrArg (fun b => Ending.returned (Value.int .i64 b)) (by unfold wdZ; omega), rfl⟩
end Go.Proofs.YticckkadmhklmaaGreat
