/- The walk of the reference's read: literals and names of types. -/
import Derived.Test.YticckkadmhklmaaGreatK14
import Derived.Test.YticckkadmhklmaaGreatK33
import Derived.Test.YticckkadmhklmaaGreatK10
import Derived.Deep.Cut
import Derived.BigQuiet
namespace Go.Proofs.YticckkadmhklmaaGreat
set_option linter.unusedVariables false
set_option linter.unusedSimpArgs false
open Go.RowKit

/-- What the reference's read gives back. -/
def RrP (r : Option (Nat × List (Int × Nat))) (w : World) (e : Ending) (w' : World) : Prop :=
  ∃ n v : Nat, e = .returned (.tuple #[.int .i64 (n : Int), .int .i64 (v : Int), .bool r.isSome]) ∧ (∀ m vs, r = some (m, vs) → n = m ∧ v = ((vs.head?).map (·.2)).getD 0) ∧ Ext w w'
theorem RrP.no {r : Option (Nat × List (Int × Nat))} {w w' : World} {e : Ending} (n v : Nat) (hr : r = none) (h : e = .returned (.tuple #[.int .i64 (n : Int), .int .i64 (v : Int), .bool false])) (hE : Ext w w') : RrP r w e w' := by
  subst hr
  exact ⟨n, v, h, fun _ _ q => by (cases q), hE⟩
theorem RrP.yes {r : Option (Nat × List (Int × Nat))} {w w' : World} {e : Ending} {n : Nat} {vs : List (Int × Nat)} {v : Nat} (hr : r = some (n, vs)) (hv : v = ((vs.head?).map (·.2)).getD 0) (h : e = .returned (.tuple #[.int .i64 (n : Int), .int .i64 (v : Int), .bool true])) (hE : Ext w w') : RrP r w e w' := by
  subst hr
  refine ⟨n, v, h, fun m us q => ?_, hE⟩
  injection q with q
  injection q with q1 q2
  subst q1 q2
  exact ⟨rfl, hv⟩
theorem starts_l (s t : List UInt8) (b : Bool) (w : World) (h : t.isPrefixOf s = b) (hs : s.length ≤ 100000) : Calls Tryz.prog 75 #[.string ⟨s.toArray⟩, .string ⟨t.toArray⟩] w fun e w' => e = .returned (.bool b) ∧ w = w' :=
  starts_c s t b w h (by omega)
set_option maxRecDepth 100000 in
set_option maxHeartbeats 1000000 in
theorem rread_lit (N : Nms) (hN : N.ok) (l : List Prt) (j : Nat) (hj : j < l.length) (wd : Int) (t : List UInt8) (he : l[j] = ⟨1, wd, t⟩) (q0 : Option Prt) (ao : Option Addr) (cap : Nat) (s : List UInt8) (w : World) (h : PtV ao cap l w) (hs : s.length ≤ 100000) (ht : t.length ≤ 100000) :
    Calls Tryz.prog 36 #[.slice ao l.length cap, .int .i64 (j : Int), .agg (sv N.all).toArray, .string ⟨s.toArray⟩] w (RrP (rd1 N ⟨1, wd, t⟩ q0 s) w) := by
  have HR : Hid (rd1 N ⟨1, wd, t⟩ q0 s = if t.isPrefixOf s then some (t.length, []) else none) := rfl
  obtain ⟨b, hb⟩ : ∃ b, t.isPrefixOf s = b := ⟨_, rfl⟩
  have Hb := Lib.hid hb
  rw [hb] at HR
  clear hb
  obtain ⟨R, off, rfl, hR, hc⟩ := h.2.2 (by rintro rfl; simp at hj)
  obtain ⟨c0, c1, c2⟩ := hc j hj
  rw [he] at c0 c1 c2
  simp only at c0 c1 c2
  have hlen := h.1
  have hcap := h.2.1
  unfold maxLen at hcap
  have hE1 : Ext w (w.alloc (.cells (sv N.all).toArray 27)) := (Ext.refl w).alloc _
  replace c0 := (hE1.cells R _ hR).trans c0
  replace c1 := (hE1.cells R _ hR).trans c1
  replace c2 := (hE1.cells R _ hR).trans c2
  have hRN : (w.alloc (.cells (sv N.all).toArray 27)).rangeAt w.heap.size 0 (sv N.all) := by
    intro j v hv
    rw [Nat.zero_add, World.cell?_alloc_new]
    simpa using hv
  have hzN : w.heap.size < (w.alloc (.cells (sv N.all).toArray 27)).heap.size := by simp
  have hI := names_size hN
  have HC := Lib.hid hc
  have HPV := Lib.hid h
  have HNN := Lib.hid hN
  clear hc h he hN
  go_enter Tryz.func36, Tryz.ntmps36
  go_upto_region 1 with fail
  generalize w.alloc (.cells (sv N.all).toArray 27) = W1 at hE1 c0 c1 c2 hRN hzN ⊢
  generalize w.heap.size = BN at hRN hzN ⊢
  have HE1 := Lib.hid hE1
  replace hE1 : Ext w (W1.alloc (.cells #[.int .i64 1, .int .i64 wd, .string ⟨t.toArray⟩] 51)) := hE1.alloc _
  go_upto_region 3 with fail
  go_quiet ((go_at_call 75; (with_reducible refine Calls.quiet_of_same ((starts_l s t b _ Hb.out hs).mono fun _ _ q => ⟨q.1, q.2.symm⟩))))
  go_wp2_with fail
  go_ret3
  cases b with
  | false => exact .no t.length 0 HR.out rfl (by (repeat (with_reducible (first | assumption | exact Ext.refl _ | refine Ext.alloc ?_ _ | refine Ext.drewN ?_ _ | refine Ext.drew ?_))))
  | true => exact .yes HR.out rfl rfl (by (repeat (with_reducible (first | assumption | exact Ext.refl _ | refine Ext.alloc ?_ _ | refine Ext.drewN ?_ _ | refine Ext.drew ?_))))
set_option maxRecDepth 100000 in
set_option maxHeartbeats 2000000 in
theorem rread_typ (N : Nms) (hN : N.ok) (l : List Prt) (j : Nat) (hj : j < l.length) (wd : Int) (t : List UInt8) (he : l[j] = ⟨15, wd, t⟩) (q0 : Option Prt) (ao : Option Addr) (cap : Nat) (s : List UInt8) (w : World) (h : PtV ao cap l w) (hs : s.length ≤ 100000) :
    Calls Tryz.prog 36 #[.slice ao l.length cap, .int .i64 (j : Int), .agg (sv N.all).toArray, .string ⟨s.toArray⟩] w (RrP (rd1 N ⟨15, wd, t⟩ q0 s) w) := by
  have HR : Hid (rd1 N ⟨15, wd, t⟩ q0 s = if tyN s = 0 then none else some (tyN s, [])) := rfl
  obtain ⟨R, off, rfl, hR, hc⟩ := h.2.2 (by rintro rfl; simp at hj)
  obtain ⟨c0, c1, c2⟩ := hc j hj
  rw [he] at c0 c1 c2
  simp only at c0 c1 c2
  have hlen := h.1
  have hcap := h.2.1
  unfold maxLen at hcap
  have hE1 : Ext w (w.alloc (.cells (sv N.all).toArray 27)) := (Ext.refl w).alloc _
  replace c0 := (hE1.cells R _ hR).trans c0
  replace c1 := (hE1.cells R _ hR).trans c1
  replace c2 := (hE1.cells R _ hR).trans c2
  have hRN : (w.alloc (.cells (sv N.all).toArray 27)).rangeAt w.heap.size 0 (sv N.all) := by
    intro j v hv
    rw [Nat.zero_add, World.cell?_alloc_new]
    simpa using hv
  have hzN : w.heap.size < (w.alloc (.cells (sv N.all).toArray 27)).heap.size := by simp
  have hI := names_size hN
  have HC := Lib.hid hc
  have HPV := Lib.hid h
  have HNN := Lib.hid hN
  clear hc h he hN
  go_enter Tryz.func36, Tryz.ntmps36
  go_upto_region 1 with fail
  generalize w.alloc (.cells (sv N.all).toArray 27) = W1 at hE1 c0 c1 c2 hRN hzN ⊢
  generalize w.heap.size = BN at hRN hzN ⊢
  have HE1 := Lib.hid hE1
  replace hE1 : Ext w (W1.alloc (.cells #[.int .i64 15, .int .i64 wd, .string ⟨t.toArray⟩] 51)) := hE1.alloc _
  go_upto_region 5 with fail
  generalize W1.alloc (.cells #[.int .i64 15, .int .i64 wd, .string ⟨t.toArray⟩] 51) = W at hE1 ⊢
  go_wp2_with fail
  go_loop [12] (fun i => ∃ k : Nat, i = .int .i64 (k : Int) ∧ k ≤ s.length ∧ k ≤ 8 ∧ Hid (∀ j, j < k → ∃ c, (s.take 8)[j]? = some c ∧ tyC c = true)) (fun i => s.length - (intOf i).toNat)
  case atStart => exact ⟨0, rfl, by omega, by omega, fun j hj => absurd hj (Nat.not_lt_zero j)⟩
  case round =>
    obtain ⟨k, rfl, hk, hkn, Hall⟩ := hrel
    by_cases hln : k < 8
    · by_cases hlt : k < s.length
      · have hb := bget s k hlt _ rfl
        have e1 : (s.take 8)[k]? = some s[k] := by rw [List.getElem?_take_of_lt hln]; exact List.getElem?_eq_getElem hlt
        obtain ⟨ch, hc⟩ : ∃ ch, ch = s[k] := ⟨_, rfl⟩
        rw [← hc] at hb e1
        clear hc
        have Hn : Hid (tyC ch = true → ∀ j, j < k + 1 → ∃ c, (s.take 8)[j]? = some c ∧ tyC c = true) := by
          intro hd j hj
          by_cases e : j = k
          · rw [e]; exact ⟨ch, e1, hd⟩
          · exact Hall.out j (by omega)
        have HE : Hid (tyC ch = false → tyN s = k) := fun hd => twl_eq _ k Hall.out (fun c' h' => by rw [e1] at h'; rw [← Option.some.inj h']; exact hd)
        have HT : Hid (tyC ch = (isLt ch || isDg ch || decide (ch = 43) || decide (ch = 45))) := rfl
        clear e1
        rcases Bool.eq_false_or_eq_true (isLt ch) with g1 | g1
        · have HN := Lib.hid (Hn.out (by rw [HT.out, g1]; rfl))
          have G1 := Lib.hid g1
          clear g1
          go_wp2_with (first
            | (go_at_call 76; (with_reducible refine (rLt_c ch true _ G1.out).mono ?_); rintro e w1 ⟨rfl, rfl⟩)
            | (go_at_call 77; (with_reducible refine (rDg_c ch true _ G2.out).mono ?_); rintro e w1 ⟨rfl, rfl⟩))
          go_round
          case rel => exact ⟨k + 1, by go_num, by omega, by omega, HN.out⟩
          case measure => simp [intOf]; omega
        · rcases Bool.eq_false_or_eq_true (isDg ch) with g2 | g2
          · have HN := Lib.hid (Hn.out (by rw [HT.out, g1, g2]; rfl))
            have G1 := Lib.hid g1
            have G2 := Lib.hid g2
            clear g1 g2
            go_wp2_with (first
              | (go_at_call 76; (with_reducible refine (rLt_c ch false _ G1.out).mono ?_); rintro e w1 ⟨rfl, rfl⟩)
              | (go_at_call 77; (with_reducible refine (rDg_c ch true _ G2.out).mono ?_); rintro e w1 ⟨rfl, rfl⟩))
            go_round
            case rel => exact ⟨k + 1, by go_num, by omega, by omega, HN.out⟩
            case measure => simp [intOf]; omega
          · by_cases g3 : ch = 43
            · have HN := Lib.hid (Hn.out (by rw [HT.out, g3]; rfl))
              have G1 := Lib.hid g1
              have G2 := Lib.hid g2
              have e3 : ((ch.toNat : Int) == 43) = true := by rw [g3]; rfl
              clear g1 g2 g3
              go_wp2_with (first
                | (go_at_call 76; (with_reducible refine (rLt_c ch false _ G1.out).mono ?_); rintro e w1 ⟨rfl, rfl⟩)
                | (go_at_call 77; (with_reducible refine (rDg_c ch false _ G2.out).mono ?_); rintro e w1 ⟨rfl, rfl⟩))
              go_round
              case rel => exact ⟨k + 1, by go_num, by omega, by omega, HN.out⟩
              case measure => simp [intOf]; omega
            · have e3 : ((ch.toNat : Int) == 43) = false := by
                have : ¬ ch.toNat = 43 := u8_ne (by decide) g3
                rw [beq_eq_false_iff_ne]; omega
              by_cases g4 : ch = 45
              · have HN := Lib.hid (Hn.out (by rw [HT.out, g4]; rfl))
                have G1 := Lib.hid g1
                have G2 := Lib.hid g2
                have e4 : ((ch.toNat : Int) == 45) = true := by rw [g4]; rfl
                clear g1 g2 g3 g4
                go_wp2_with (first
                  | (go_at_call 76; (with_reducible refine (rLt_c ch false _ G1.out).mono ?_); rintro e w1 ⟨rfl, rfl⟩)
                  | (go_at_call 77; (with_reducible refine (rDg_c ch false _ G2.out).mono ?_); rintro e w1 ⟨rfl, rfl⟩))
                go_round
                case rel => exact ⟨k + 1, by go_num, by omega, by omega, HN.out⟩
                case measure => simp [intOf]; omega
              · have e4 : ((ch.toNat : Int) == 45) = false := by
                  have : ¬ ch.toNat = 45 := u8_ne (by decide) g4
                  rw [beq_eq_false_iff_ne]; omega
                have HEE := Lib.hid (HE.out (by rw [HT.out, g1, g2, decide_eq_false g3, decide_eq_false g4]; rfl))
                have G1 := Lib.hid g1
                have G2 := Lib.hid g2
                clear g1 g2 g3 g4
                by_cases hk0 : k = 0
                · subst hk0
                  go_wp2_with (first
                    | (go_at_call 76; (with_reducible refine (rLt_c ch false _ G1.out).mono ?_); rintro e w1 ⟨rfl, rfl⟩)
                    | (go_at_call 77; (with_reducible refine (rDg_c ch false _ G2.out).mono ?_); rintro e w1 ⟨rfl, rfl⟩))
                  go_ret3
                  exact .no 0 0 (by rw [HR.out, HEE.out]; rfl) rfl (by (repeat (with_reducible (first | assumption | exact Ext.refl _ | refine Ext.alloc ?_ _ | refine Ext.drewN ?_ _ | refine Ext.drew ?_))))
                · have hk1 : 0 < k := by omega
                  have HR2 : Hid (rd1 N ⟨15, wd, t⟩ q0 s = some (k, [])) := by rw [Hid, HR.out, HEE.out, if_neg hk0]
                  clear hk0
                  go_wp2_with (first
                    | (go_at_call 76; (with_reducible refine (rLt_c ch false _ G1.out).mono ?_); rintro e w1 ⟨rfl, rfl⟩)
                    | (go_at_call 77; (with_reducible refine (rDg_c ch false _ G2.out).mono ?_); rintro e w1 ⟨rfl, rfl⟩))
                  go_ret3
                  exact .yes HR2.out rfl rfl (by (repeat (with_reducible (first | assumption | exact Ext.refl _ | refine Ext.alloc ?_ _ | refine Ext.drewN ?_ _ | refine Ext.drew ?_))))
      · obtain rfl : k = s.length := by omega
        have HE : Hid (tyN s = s.length) := twl_eq _ _ Hall.out (fun c' h' => by rw [List.getElem?_eq_none (by rw [List.length_take]; omega)] at h'; cases h')
        by_cases hk0 : s.length = 0
        · have HR2 : Hid (rd1 N ⟨15, wd, t⟩ q0 s = none) := by rw [Hid, HR.out, HE.out, if_pos hk0]
          have hz : (s.length : Int) = 0 := by omega
          go_wp2_with fail
          go_ret3
          exact .no s.length 0 HR2.out (by first | rfl | (rw [hk0]; rfl)) (by (repeat (with_reducible (first | assumption | exact Ext.refl _ | refine Ext.alloc ?_ _ | refine Ext.drewN ?_ _ | refine Ext.drew ?_))))
        · have HR2 : Hid (rd1 N ⟨15, wd, t⟩ q0 s = some (s.length, [])) := by rw [Hid, HR.out, HE.out, if_neg hk0]
          have h1k : 0 < s.length := by omega
          clear hk0
          go_wp2_with fail
          go_ret3
          exact .yes HR2.out rfl rfl (by (repeat (with_reducible (first | assumption | exact Ext.refl _ | refine Ext.alloc ?_ _ | refine Ext.drewN ?_ _ | refine Ext.drew ?_))))
    · obtain rfl : k = 8 := by omega
      have HE : Hid (tyN s = 8) := twl_eq _ 8 Hall.out (fun c' h' => by rw [List.getElem?_eq_none (by rw [List.length_take]; omega)] at h'; cases h')
      have HR2 : Hid (rd1 N ⟨15, wd, t⟩ q0 s = some (8, [])) := by rw [Hid, HR.out, HE.out]; rfl
      go_wp2_with fail
      go_ret3
      exact .yes HR2.out rfl rfl (by (repeat (with_reducible (first | assumption | exact Ext.refl _ | refine Ext.alloc ?_ _ | refine Ext.drewN ?_ _ | refine Ext.drew ?_))))
end Go.Proofs.YticckkadmhklmaaGreat
/- The walk of the reference's read: offsets. -/
namespace Go.Proofs.YticckkadmhklmaaGreat
set_option linter.unusedVariables false
set_option linter.unusedSimpArgs false
open Go.RowKit

theorem dig2 (r : List UInt8) : digN r 2 = 2 ↔ isDg (r.getD 0 0) = true ∧ isDg (r.getD 1 0) = true := by
  have h0 : isDg 0 = false := by decide
  cases r with
  | nil => simp [digN, h0]
  | cons a r =>
    cases r with
    | nil =>
      cases h : isDg a <;> simp [digN, h0, h]
    | cons b r =>
      cases h : isDg a <;> cases h2 : isDg b <;> simp [digN, h, h2]
theorem col_eq (s : List UInt8) (i : Nat) : colB s i = (decide (s.getD i 0 = 58) && decide (digN (s.drop (i + 1)) 2 = 2)) := by
  have h0 : isDg 0 = false := by decide
  have e1 : (s.drop (i + 1)).getD 0 0 = s.getD (i + 1) 0 := by simp [List.getD_eq_getElem?_getD]
  have e2 : (s.drop (i + 1)).getD 1 0 = s.getD (i + 2) 0 := by simp [List.getD_eq_getElem?_getD]
  rw [Bool.eq_iff_iff]
  unfold colB
  simp only [Bool.and_eq_true, decide_eq_true_eq]
  rw [dig2, e1, e2]
  constructor
  · rintro ⟨⟨⟨a, b⟩, c⟩, d⟩
    exact ⟨b, c, d⟩
  · rintro ⟨b, c, d⟩
    refine ⟨⟨⟨?_, b⟩, c⟩, d⟩
    rcases Nat.lt_or_ge (i + 2) s.length with q | q
    · omega
    · rw [List.getD_eq_getElem?_getD, List.getElem?_eq_none (by omega)] at d
      simp [h0] at d
theorem rdigits_2 (s : List UInt8) (n : Nat) (w : World) (h : digN s 2 = n) (hs : s.length ≤ 100000) : Calls Tryz.prog 78 #[.string ⟨s.toArray⟩, .int .i64 2] w fun e w' => e = .returned (.int .i64 (n : Int)) ∧ w = w' :=
  rdigits_c s 2 n w h (by omega) (by omega)
theorem getD_at (s : List UInt8) (i : Nat) (h : i < s.length) : s.getD i 0 = s[i] := by
  rw [List.getD_eq_getElem?_getD, List.getElem?_eq_getElem h]; rfl
set_option maxRecDepth 100000 in
set_option maxHeartbeats 2000000 in
theorem rread_off (N : Nms) (hN : N.ok) (l : List Prt) (j : Nat) (hj : j < l.length) (wd : Int) (t : List UInt8) (he : l[j] = ⟨14, wd, t⟩) (q0 : Option Prt) (ao : Option Addr) (cap : Nat) (s : List UInt8) (w : World) (h : PtV ao cap l w) (hs : s.length ≤ 100000) :
    Calls Tryz.prog 36 #[.slice ao l.length cap, .int .i64 (j : Int), .agg (sv N.all).toArray, .string ⟨s.toArray⟩] w (RrP (rd1 N ⟨14, wd, t⟩ q0 s) w) := by
  have HR : Hid (rd1 N ⟨14, wd, t⟩ q0 s = if offB s then some (if colB s 6 then 9 else 6, []) else none) := rfl
  obtain ⟨R, off, rfl, hR, hc⟩ := h.2.2 (by rintro rfl; simp at hj)
  obtain ⟨c0, c1, c2⟩ := hc j hj
  rw [he] at c0 c1 c2
  simp only at c0 c1 c2
  have hlen := h.1
  have hcap := h.2.1
  unfold maxLen at hcap
  have hE1 : Ext w (w.alloc (.cells (sv N.all).toArray 27)) := (Ext.refl w).alloc _
  replace c0 := (hE1.cells R _ hR).trans c0
  replace c1 := (hE1.cells R _ hR).trans c1
  replace c2 := (hE1.cells R _ hR).trans c2
  have hRN : (w.alloc (.cells (sv N.all).toArray 27)).rangeAt w.heap.size 0 (sv N.all) := by
    intro j v hv
    rw [Nat.zero_add, World.cell?_alloc_new]
    simpa using hv
  have hzN : w.heap.size < (w.alloc (.cells (sv N.all).toArray 27)).heap.size := by simp
  have hI := names_size hN
  have HC := Lib.hid hc
  have HPV := Lib.hid h
  have HNN := Lib.hid hN
  clear hc h he hN
  go_enter Tryz.func36, Tryz.ntmps36
  go_upto_region 1 with fail
  generalize w.alloc (.cells (sv N.all).toArray 27) = W1 at hE1 c0 c1 c2 hRN hzN ⊢
  generalize w.heap.size = BN at hRN hzN ⊢
  have HE1 := Lib.hid hE1
  replace hE1 : Ext w (W1.alloc (.cells #[.int .i64 14, .int .i64 wd, .string ⟨t.toArray⟩] 51)) := hE1.alloc _
  go_upto_region 10 with fail
  by_cases h6 : 6 ≤ s.length
  · have b0 := bget s 0 (by omega) _ rfl
    have b3 := bget s 3 (by omega) _ rfl
    have e0 : s.headD 0 = s[0] := by cases s with | nil => simp at h6 | cons c r => rfl
    have e3 := getD_at s 3 (by omega)
    have hd1 := bdrop s 1
    have hd4 := bdrop s 4
    have hd7 := bdrop s 7
    have hl1 : (s.drop 1).length ≤ 100000 := by rw [List.length_drop]; omega
    have hl4 : (s.drop 4).length ≤ 100000 := by rw [List.length_drop]; omega
    have hl7 : (s.drop 7).length ≤ 100000 := by rw [List.length_drop]; omega
    have HO1 : Hid (offB s = (decide (6 ≤ s.length) && (decide (s.headD 0 = 43) || decide (s.headD 0 = 45)) && decide (digN (s.drop 1) 2 = 2) && colB s 3)) := rfl
    have HC3 : Hid (colB s 3 = (decide (s.getD 3 0 = 58) && decide (digN (s.drop 4) 2 = 2))) := col_eq s 3
    have HC6 : Hid (colB s 6 = (decide (s.getD 6 0 = 58) && decide (digN (s.drop 7) 2 = 2))) := col_eq s 6
    have HG6 := Lib.hid (getD_at s 6)
    have HB6 := Lib.hid (bget s 6)
    have hc69 : Hid (colB s 6 = true → 9 ≤ s.length) := fun q => by
      unfold colB at q
      simp only [Bool.and_eq_true, decide_eq_true_eq] at q
      omega
    rw [e0] at HO1
    rw [e3] at HC3
    obtain ⟨c0, hc0⟩ : ∃ c0, c0 = s[0] := ⟨_, rfl⟩
    obtain ⟨c3, hc3⟩ : ∃ c3, c3 = s[3] := ⟨_, rfl⟩
    obtain ⟨r1, hr1⟩ : ∃ r, r = s.drop 1 := ⟨_, rfl⟩
    obtain ⟨r4, hr4⟩ : ∃ r, r = s.drop 4 := ⟨_, rfl⟩
    obtain ⟨r7, hr7⟩ : ∃ r, r = s.drop 7 := ⟨_, rfl⟩
    rw [← hc0] at b0 HO1
    rw [← hc3] at b3 HC3
    rw [← hr1] at hd1 hl1 HO1
    rw [← hr4] at hd4 hl4 HC3
    rw [← hr7] at hd7 hl7 HC6
    obtain ⟨m1, hm1⟩ : ∃ m, digN r1 2 = m := ⟨_, rfl⟩
    obtain ⟨m4, hm4⟩ : ∃ m, digN r4 2 = m := ⟨_, rfl⟩
    obtain ⟨m7, hm7⟩ : ∃ m, digN r7 2 = m := ⟨_, rfl⟩
    have D1 := Lib.hid hm1
    have D4 := Lib.hid hm4
    have D7 := Lib.hid hm7
    have k1 := (digN_le r1 2).1
    have k4 := (digN_le r4 2).1
    have k7 := (digN_le r7 2).1
    rw [hm1] at HO1 k1
    rw [hm4] at HC3 k4
    rw [hm7] at HC6 k7
    have HO : Hid (offB s = ((decide (c0 = 43) || decide (c0 = 45)) && decide (m1 = 2) && (decide (c3 = 58) && decide (m4 = 2)))) := by
      rw [Hid, HO1.out, HC3.out, decide_eq_true h6, Bool.true_and]
    have h6' : ¬ (s.length : Int) < 6 := by omega
    clear e0 e3 hc0 hc3 hr1 hr4 hr7 HO1 HC3 hm1 hm4 hm7
    by_cases hc : c0 = 43 ∨ c0 = 45
    · have HO2 : Hid (offB s = (decide (m1 = 2) && (decide (c3 = 58) && decide (m4 = 2)))) := by
        rw [Hid, HO.out]; rcases hc with rfl | rfl <;> simp
      have hc2 : ((c0.toNat : Int) != 43) = false ∨ (((c0.toNat : Int) != 43) = true ∧ ((c0.toNat : Int) != 45) = false) := by
        rcases hc with rfl | rfl
        · exact .inl rfl
        · exact .inr ⟨rfl, rfl⟩
      clear HO hc
      by_cases g1 : m1 = 2
      · by_cases g3 : c3 = 58
        · by_cases g4 : m4 = 2
          · have HO3 : Hid (offB s = true) := by rw [Hid, HO2.out, decide_eq_true g1, decide_eq_true g3, decide_eq_true g4]; rfl
            have f1 : ¬ (m1 : Int) < 2 := by omega
            have f4 : ¬ (m4 : Int) < 2 := by omega
            have f3 : ((c3.toNat : Int) != 58) = false := by rw [g3]; rfl
            clear HO2 g1 g3 g4
            by_cases h9 : 9 ≤ s.length
            · have h9' : (9 : Int) ≤ (s.length : Int) := by omega
              have b6 := HB6.out (by omega) _ rfl
              have e6 := HG6.out (by omega)
              rw [e6] at HC6
              obtain ⟨c6, hc6⟩ : ∃ c6, c6 = s[6] := ⟨_, rfl⟩
              rw [← hc6] at b6 HC6
              clear hc6 e6
              by_cases g6 : c6 = 58
              · have f6 : ((c6.toNat : Int) == 58) = true := by rw [g6]; rfl
                by_cases g7 : m7 = 2
                · have HR2 : Hid (rd1 N ⟨14, wd, t⟩ q0 s = some (9, [])) := by
                    rw [Hid, HR.out, HO3.out, HC6.out, decide_eq_true g6, decide_eq_true g7]; rfl
                  have f7 : ((m7 : Int) == 2) = true := by rw [beq_iff_eq]; omega
                  clear HC6 HO3 g6 HR hc69
                  rcases hc2 with t1 | ⟨t1, t2⟩
                  · go_wp2_with (first
                      | (go_at_call 78; (with_reducible refine (rdigits_2 r1 m1 _ D1.out hl1).mono ?_); rintro e w1 ⟨rfl, rfl⟩)
                      | (go_at_call 78; (with_reducible refine (rdigits_2 r4 m4 _ D4.out hl4).mono ?_); rintro e w1 ⟨rfl, rfl⟩)
                      | (go_at_call 78; (with_reducible refine (rdigits_2 r7 m7 _ D7.out hl7).mono ?_); rintro e w1 ⟨rfl, rfl⟩))
                    go_ret3
                    exact .yes HR2.out rfl rfl (by (repeat (with_reducible (first | assumption | exact Ext.refl _ | refine Ext.alloc ?_ _ | refine Ext.drewN ?_ _ | refine Ext.drew ?_))))
                  · go_wp2_with (first
                      | (go_at_call 78; (with_reducible refine (rdigits_2 r1 m1 _ D1.out hl1).mono ?_); rintro e w1 ⟨rfl, rfl⟩)
                      | (go_at_call 78; (with_reducible refine (rdigits_2 r4 m4 _ D4.out hl4).mono ?_); rintro e w1 ⟨rfl, rfl⟩)
                      | (go_at_call 78; (with_reducible refine (rdigits_2 r7 m7 _ D7.out hl7).mono ?_); rintro e w1 ⟨rfl, rfl⟩))
                    go_ret3
                    exact .yes HR2.out rfl rfl (by (repeat (with_reducible (first | assumption | exact Ext.refl _ | refine Ext.alloc ?_ _ | refine Ext.drewN ?_ _ | refine Ext.drew ?_))))
                · have HR2 : Hid (rd1 N ⟨14, wd, t⟩ q0 s = some (6, [])) := by
                    rw [Hid, HR.out, HO3.out, HC6.out, decide_eq_true g6, decide_eq_false g7]; rfl
                  have f7 : ((m7 : Int) == 2) = false := by rw [beq_eq_false_iff_ne]; omega
                  clear HC6 HO3 g6 g7 HR hc69
                  rcases hc2 with t1 | ⟨t1, t2⟩
                  · go_wp2_with (first
                      | (go_at_call 78; (with_reducible refine (rdigits_2 r1 m1 _ D1.out hl1).mono ?_); rintro e w1 ⟨rfl, rfl⟩)
                      | (go_at_call 78; (with_reducible refine (rdigits_2 r4 m4 _ D4.out hl4).mono ?_); rintro e w1 ⟨rfl, rfl⟩)
                      | (go_at_call 78; (with_reducible refine (rdigits_2 r7 m7 _ D7.out hl7).mono ?_); rintro e w1 ⟨rfl, rfl⟩))
                    go_ret3
                    exact .yes HR2.out rfl rfl (by (repeat (with_reducible (first | assumption | exact Ext.refl _ | refine Ext.alloc ?_ _ | refine Ext.drewN ?_ _ | refine Ext.drew ?_))))
                  · go_wp2_with (first
                      | (go_at_call 78; (with_reducible refine (rdigits_2 r1 m1 _ D1.out hl1).mono ?_); rintro e w1 ⟨rfl, rfl⟩)
                      | (go_at_call 78; (with_reducible refine (rdigits_2 r4 m4 _ D4.out hl4).mono ?_); rintro e w1 ⟨rfl, rfl⟩)
                      | (go_at_call 78; (with_reducible refine (rdigits_2 r7 m7 _ D7.out hl7).mono ?_); rintro e w1 ⟨rfl, rfl⟩))
                    go_ret3
                    exact .yes HR2.out rfl rfl (by (repeat (with_reducible (first | assumption | exact Ext.refl _ | refine Ext.alloc ?_ _ | refine Ext.drewN ?_ _ | refine Ext.drew ?_))))
              · have HR2 : Hid (rd1 N ⟨14, wd, t⟩ q0 s = some (6, [])) := by
                  rw [Hid, HR.out, HO3.out, HC6.out, decide_eq_false g6]; rfl
                have g6' : ¬ c6.toNat = 58 := u8_ne (by decide) g6
                have f6 : ((c6.toNat : Int) == 58) = false := by rw [beq_eq_false_iff_ne]; omega
                clear HC6 HO3 g6 g6' HR hc69
                rcases hc2 with t1 | ⟨t1, t2⟩
                · go_wp2_with (first
                    | (go_at_call 78; (with_reducible refine (rdigits_2 r1 m1 _ D1.out hl1).mono ?_); rintro e w1 ⟨rfl, rfl⟩)
                    | (go_at_call 78; (with_reducible refine (rdigits_2 r4 m4 _ D4.out hl4).mono ?_); rintro e w1 ⟨rfl, rfl⟩)
                    | (go_at_call 78; (with_reducible refine (rdigits_2 r7 m7 _ D7.out hl7).mono ?_); rintro e w1 ⟨rfl, rfl⟩))
                  go_ret3
                  exact .yes HR2.out rfl rfl (by (repeat (with_reducible (first | assumption | exact Ext.refl _ | refine Ext.alloc ?_ _ | refine Ext.drewN ?_ _ | refine Ext.drew ?_))))
                · go_wp2_with (first
                    | (go_at_call 78; (with_reducible refine (rdigits_2 r1 m1 _ D1.out hl1).mono ?_); rintro e w1 ⟨rfl, rfl⟩)
                    | (go_at_call 78; (with_reducible refine (rdigits_2 r4 m4 _ D4.out hl4).mono ?_); rintro e w1 ⟨rfl, rfl⟩)
                    | (go_at_call 78; (with_reducible refine (rdigits_2 r7 m7 _ D7.out hl7).mono ?_); rintro e w1 ⟨rfl, rfl⟩))
                  go_ret3
                  exact .yes HR2.out rfl rfl (by (repeat (with_reducible (first | assumption | exact Ext.refl _ | refine Ext.alloc ?_ _ | refine Ext.drewN ?_ _ | refine Ext.drew ?_))))
            · have h9' : ¬ (9 : Int) ≤ (s.length : Int) := by omega
              have HR2 : Hid (rd1 N ⟨14, wd, t⟩ q0 s = some (6, [])) := by
                have : colB s 6 = false := by
                  cases q : colB s 6 with
                  | false => rfl
                  | true => exact absurd (hc69.out q) h9
                rw [Hid, HR.out, HO3.out, this]; rfl
              clear HC6 HO3 h9 HR hc69
              rcases hc2 with t1 | ⟨t1, t2⟩
              · go_wp2_with (first
                  | (go_at_call 78; (with_reducible refine (rdigits_2 r1 m1 _ D1.out hl1).mono ?_); rintro e w1 ⟨rfl, rfl⟩)
                  | (go_at_call 78; (with_reducible refine (rdigits_2 r4 m4 _ D4.out hl4).mono ?_); rintro e w1 ⟨rfl, rfl⟩)
                  | (go_at_call 78; (with_reducible refine (rdigits_2 r7 m7 _ D7.out hl7).mono ?_); rintro e w1 ⟨rfl, rfl⟩))
                go_ret3
                exact .yes HR2.out rfl rfl (by (repeat (with_reducible (first | assumption | exact Ext.refl _ | refine Ext.alloc ?_ _ | refine Ext.drewN ?_ _ | refine Ext.drew ?_))))
              · go_wp2_with (first
                  | (go_at_call 78; (with_reducible refine (rdigits_2 r1 m1 _ D1.out hl1).mono ?_); rintro e w1 ⟨rfl, rfl⟩)
                  | (go_at_call 78; (with_reducible refine (rdigits_2 r4 m4 _ D4.out hl4).mono ?_); rintro e w1 ⟨rfl, rfl⟩)
                  | (go_at_call 78; (with_reducible refine (rdigits_2 r7 m7 _ D7.out hl7).mono ?_); rintro e w1 ⟨rfl, rfl⟩))
                go_ret3
                exact .yes HR2.out rfl rfl (by (repeat (with_reducible (first | assumption | exact Ext.refl _ | refine Ext.alloc ?_ _ | refine Ext.drewN ?_ _ | refine Ext.drew ?_))))
          · have HR2 : Hid (rd1 N ⟨14, wd, t⟩ q0 s = none) := by
              rw [Hid, HR.out, HO2.out, decide_eq_false g4]; simp
            have f1 : ¬ (m1 : Int) < 2 := by omega
            have f4 : (m4 : Int) < 2 := by omega
            have f3 : ((c3.toNat : Int) != 58) = false := by rw [g3]; rfl
            clear HO2 g1 g3 g4 HR
            rcases hc2 with t1 | ⟨t1, t2⟩
            · go_wp2_with (first
                | (go_at_call 78; (with_reducible refine (rdigits_2 r1 m1 _ D1.out hl1).mono ?_); rintro e w1 ⟨rfl, rfl⟩)
                | (go_at_call 78; (with_reducible refine (rdigits_2 r4 m4 _ D4.out hl4).mono ?_); rintro e w1 ⟨rfl, rfl⟩)
                | (go_at_call 78; (with_reducible refine (rdigits_2 r7 m7 _ D7.out hl7).mono ?_); rintro e w1 ⟨rfl, rfl⟩))
              go_ret3
              exact .no 0 0 HR2.out rfl (by (repeat (with_reducible (first | assumption | exact Ext.refl _ | refine Ext.alloc ?_ _ | refine Ext.drewN ?_ _ | refine Ext.drew ?_))))
            · go_wp2_with (first
                | (go_at_call 78; (with_reducible refine (rdigits_2 r1 m1 _ D1.out hl1).mono ?_); rintro e w1 ⟨rfl, rfl⟩)
                | (go_at_call 78; (with_reducible refine (rdigits_2 r4 m4 _ D4.out hl4).mono ?_); rintro e w1 ⟨rfl, rfl⟩)
                | (go_at_call 78; (with_reducible refine (rdigits_2 r7 m7 _ D7.out hl7).mono ?_); rintro e w1 ⟨rfl, rfl⟩))
              go_ret3
              exact .no 0 0 HR2.out rfl (by (repeat (with_reducible (first | assumption | exact Ext.refl _ | refine Ext.alloc ?_ _ | refine Ext.drewN ?_ _ | refine Ext.drew ?_))))
        · have HR2 : Hid (rd1 N ⟨14, wd, t⟩ q0 s = none) := by
            rw [Hid, HR.out, HO2.out, decide_eq_false g3]; simp
          have f1 : ¬ (m1 : Int) < 2 := by omega
          have g3' : ¬ c3.toNat = 58 := u8_ne (by decide) g3
          have f3 : ((c3.toNat : Int) != 58) = true := by rw [bne_iff_ne]; omega
          clear HO2 g1 g3 g3' HR
          rcases hc2 with t1 | ⟨t1, t2⟩
          · go_wp2_with (first
              | (go_at_call 78; (with_reducible refine (rdigits_2 r1 m1 _ D1.out hl1).mono ?_); rintro e w1 ⟨rfl, rfl⟩)
              | (go_at_call 78; (with_reducible refine (rdigits_2 r4 m4 _ D4.out hl4).mono ?_); rintro e w1 ⟨rfl, rfl⟩)
              | (go_at_call 78; (with_reducible refine (rdigits_2 r7 m7 _ D7.out hl7).mono ?_); rintro e w1 ⟨rfl, rfl⟩))
            go_ret3
            exact .no 0 0 HR2.out rfl (by (repeat (with_reducible (first | assumption | exact Ext.refl _ | refine Ext.alloc ?_ _ | refine Ext.drewN ?_ _ | refine Ext.drew ?_))))
          · go_wp2_with (first
              | (go_at_call 78; (with_reducible refine (rdigits_2 r1 m1 _ D1.out hl1).mono ?_); rintro e w1 ⟨rfl, rfl⟩)
              | (go_at_call 78; (with_reducible refine (rdigits_2 r4 m4 _ D4.out hl4).mono ?_); rintro e w1 ⟨rfl, rfl⟩)
              | (go_at_call 78; (with_reducible refine (rdigits_2 r7 m7 _ D7.out hl7).mono ?_); rintro e w1 ⟨rfl, rfl⟩))
            go_ret3
            exact .no 0 0 HR2.out rfl (by (repeat (with_reducible (first | assumption | exact Ext.refl _ | refine Ext.alloc ?_ _ | refine Ext.drewN ?_ _ | refine Ext.drew ?_))))
      · have HR2 : Hid (rd1 N ⟨14, wd, t⟩ q0 s = none) := by
          rw [Hid, HR.out, HO2.out, decide_eq_false g1]; simp
        have f1 : (m1 : Int) < 2 := by omega
        clear HO2 g1 HR
        rcases hc2 with t1 | ⟨t1, t2⟩
        · go_wp2_with (first
            | (go_at_call 78; (with_reducible refine (rdigits_2 r1 m1 _ D1.out hl1).mono ?_); rintro e w1 ⟨rfl, rfl⟩)
            | (go_at_call 78; (with_reducible refine (rdigits_2 r4 m4 _ D4.out hl4).mono ?_); rintro e w1 ⟨rfl, rfl⟩)
            | (go_at_call 78; (with_reducible refine (rdigits_2 r7 m7 _ D7.out hl7).mono ?_); rintro e w1 ⟨rfl, rfl⟩))
          go_ret3
          exact .no 0 0 HR2.out rfl (by (repeat (with_reducible (first | assumption | exact Ext.refl _ | refine Ext.alloc ?_ _ | refine Ext.drewN ?_ _ | refine Ext.drew ?_))))
        · go_wp2_with (first
            | (go_at_call 78; (with_reducible refine (rdigits_2 r1 m1 _ D1.out hl1).mono ?_); rintro e w1 ⟨rfl, rfl⟩)
            | (go_at_call 78; (with_reducible refine (rdigits_2 r4 m4 _ D4.out hl4).mono ?_); rintro e w1 ⟨rfl, rfl⟩)
            | (go_at_call 78; (with_reducible refine (rdigits_2 r7 m7 _ D7.out hl7).mono ?_); rintro e w1 ⟨rfl, rfl⟩))
          go_ret3
          exact .no 0 0 HR2.out rfl (by (repeat (with_reducible (first | assumption | exact Ext.refl _ | refine Ext.alloc ?_ _ | refine Ext.drewN ?_ _ | refine Ext.drew ?_))))
    · have n1 : ¬ c0 = 43 := fun e => hc (.inl e)
      have n2 : ¬ c0 = 45 := fun e => hc (.inr e)
      have HR2 : Hid (rd1 N ⟨14, wd, t⟩ q0 s = none) := by rw [Hid, HR.out, HO.out, decide_eq_false n1, decide_eq_false n2]; rfl
      have e1 : ¬ c0.toNat = 43 := u8_ne (by decide) n1
      have e2 : ¬ c0.toNat = 45 := u8_ne (by decide) n2
      have t1 : ((c0.toNat : Int) != 43) = true := by rw [bne_iff_ne]; omega
      have t2 : ((c0.toNat : Int) != 45) = true := by rw [bne_iff_ne]; omega
      clear hc n1 n2 HO e1 e2 HR
      go_wp2_with (first
        | (go_at_call 78; (with_reducible refine (rdigits_2 r1 m1 _ D1.out hl1).mono ?_); rintro e w1 ⟨rfl, rfl⟩)
        | (go_at_call 78; (with_reducible refine (rdigits_2 r4 m4 _ D4.out hl4).mono ?_); rintro e w1 ⟨rfl, rfl⟩)
        | (go_at_call 78; (with_reducible refine (rdigits_2 r7 m7 _ D7.out hl7).mono ?_); rintro e w1 ⟨rfl, rfl⟩))
      go_ret3
      exact .no 0 0 HR2.out rfl (by (repeat (with_reducible (first | assumption | exact Ext.refl _ | refine Ext.alloc ?_ _ | refine Ext.drewN ?_ _ | refine Ext.drew ?_))))
  · have HR2 : Hid (rd1 N ⟨14, wd, t⟩ q0 s = none) := by
      rw [Hid, HR.out]; unfold offB; rw [decide_eq_false h6]; rfl
    have h6' : (s.length : Int) < 6 := by omega
    clear h6 HR
    go_wp2_with fail
    go_ret3
    exact .no 0 0 HR2.out rfl (by (repeat (with_reducible (first | assumption | exact Ext.refl _ | refine Ext.alloc ?_ _ | refine Ext.drewN ?_ _ | refine Ext.drew ?_))))
end Go.Proofs.YticckkadmhklmaaGreat
