/- Recurrence rules: the walk of times. -/
import Derived.Test.YtgndogpgfgliaaaGreatDoorQ18
import Derived.Deep.CutRange
namespace Go.Proofs.YtgndogpgfgliaaaGreatDoor
set_option linter.unusedVariables false
set_option linter.unnecessarySimpa false
set_option linter.unusedSimpArgs false
open Go.RowKit Go.Sort Go.Lib

theorem nd_le (zs : List Int) : ndZ zs ≤ zs.length := by
  have h1 := cmp_len zs
  have h2 := Lib.compact_length_le (srt zs)
  have h3 := srt_len zs
  unfold srt at h2 h3
  omega
theorem cnt_le (zs : List Int) (d : Nat) (hd : d ≤ 24) (h : zs.length ≤ 60) : cntZ zs d ≤ 60 := by
  have := nd_le zs
  unfold cntZ
  split <;> omega
/-- A slice of n numbers. -/
def SlN (x : Value) (n : Nat) (w : World) : Prop := ∃ ao cap ys, x = .slice ao n cap ∧ ys.length = n ∧ IsV ao cap ys w
theorem SlN.ext {x : Value} {n : Nat} {w w' : World} (h : SlN x n w) (hE : Ext w w') : SlN x n w' := by
  obtain ⟨ao, cap, ys, a, b, c⟩ := h
  exact ⟨ao, cap, ys, a, b, c.ext hE⟩
/-- A slice of n numbers that the call itself makes. -/
def OwN (x : Value) (n base : Nat) (w : World) : Prop := ∃ ao cv zs, x = .slice ao n cv ∧ zs.length = n ∧ w.ownsRow base 3 1 (.slice ao n cv) n (iv zs)
theorem mul_up (j H M : Nat) (hj : j + 1 ≤ H) : j * M + M ≤ H * M := by
  have := Nat.mul_le_mul_right M hj
  rwa [Nat.succ_mul] at this
set_option maxRecDepth 100000 in
set_option maxHeartbeats 4000000 in
theorem utimes_c (r : Rec) (w : World) (hV : RcV r w) (h1 : r.D.ho.length ≤ 60) (h2 : r.D.mi.length ≤ 60) (h3 : r.D.se.length ≤ 60) (hf : 1 ≤ r.D.fr ∧ r.D.fr ≤ 5) :
    Calls Tryz.prog 68 #[.agg r.vals.toArray, .int .i64 0] w fun e w' => (∃ ao cap, e = .returned (.slice ao (tmsV r.D) cap)) ∧ Ext w w' := by
  have hE0 : Ext w (w.alloc (.cells r.vals.toArray 25)) := (Ext.refl w).alloc _
  have HE0 := Lib.hid hE0
  have hB := RcB.new r w 25
  have c9 := hB.at_ (j := 9) (v := .slice (r.a 5) r.D.ho.length (r.c 5)) rfl
  have c10 := hB.at_ (j := 10) (v := .slice (r.a 6) r.D.mi.length (r.c 6)) rfl
  have c11 := hB.at_ (j := 11) (v := .slice (r.a 7) r.D.se.length (r.c 7)) rfl
  have c0 := hB.at_ (j := 0) (v := .int .i64 r.D.fr) rfl
  have hBl := hB.1
  have HM : Hid (∀ w', Calls Tryz.prog 118 #[.int .i64 0, .int .i64 86400] w' fun e w'' => e = .returned (.int .i64 0) ∧ Ext w' w'') := fun w' => by
    refine (Mod_c 0 86400 w' (by decide) (by decide) (by decide) (by decide)).mono ?_
    rintro e w'' ⟨rfl, n, rfl⟩
    exact ⟨rfl, (Ext.refl _).drewN n⟩
  have hVe := hV.ext hE0
  have hT : ∀ (W : World), Ext (w.alloc (.cells r.vals.toArray 25)) W → ∀ x, (Calls Tryz.prog 119 #[.slice (r.a 5) r.D.ho.length (r.c 5), .int .i64 x] W fun e w' => (∃ v, e = .returned v ∧ SlN v (cntZ r.D.ho 1) w') ∧ Ext W w') ∧ (Calls Tryz.prog 119 #[.slice (r.a 6) r.D.mi.length (r.c 6), .int .i64 x] W fun e w' => (∃ v, e = .returned v ∧ SlN v (cntZ r.D.mi 1) w') ∧ Ext W w') ∧ (Calls Tryz.prog 119 #[.slice (r.a 7) r.D.se.length (r.c 7), .int .i64 x] W fun e w' => (∃ v, e = .returned v ∧ SlN v (cntZ r.D.se 1) w') ∧ Ext W w') := fun W hE x => by
    refine ⟨?_, ?_, ?_⟩
    · refine (tpart_c r.D.ho _ _ x W (hVe.ho.ext hE) (by omega)).mono ?_
      rintro e w' ⟨⟨ao, cap, ys, rfl, hy, hv⟩, hE2⟩
      exact ⟨⟨_, rfl, ao, cap, ys, by rw [hy], hy, hv⟩, hE2⟩
    · refine (tpart_c r.D.mi _ _ x W (hVe.mi.ext hE) (by omega)).mono ?_
      rintro e w' ⟨⟨ao, cap, ys, rfl, hy, hv⟩, hE2⟩
      exact ⟨⟨_, rfl, ao, cap, ys, by rw [hy], hy, hv⟩, hE2⟩
    · refine (tpart_c r.D.se _ _ x W (hVe.se.ext hE) (by omega)).mono ?_
      rintro e w' ⟨⟨ao, cap, ys, rfl, hy, hv⟩, hE2⟩
      exact ⟨⟨_, rfl, ao, cap, ys, by rw [hy], hy, hv⟩, hE2⟩
  have HT1 : Hid (∀ (W : World), Ext (w.alloc (.cells r.vals.toArray 25)) W → ∀ x, Calls Tryz.prog 119 #[.slice (r.a 5) r.D.ho.length (r.c 5), .int .i64 x] W fun e w' => (∃ v, e = .returned v ∧ SlN v (cntZ r.D.ho 1) w') ∧ Ext W w') := fun W h x => (hT W h x).1
  have HT2 : Hid (∀ (W : World), Ext (w.alloc (.cells r.vals.toArray 25)) W → ∀ x, Calls Tryz.prog 119 #[.slice (r.a 6) r.D.mi.length (r.c 6), .int .i64 x] W fun e w' => (∃ v, e = .returned v ∧ SlN v (cntZ r.D.mi 1) w') ∧ Ext W w') := fun W h x => (hT W h x).2.1
  have HT3 : Hid (∀ (W : World), Ext (w.alloc (.cells r.vals.toArray 25)) W → ∀ x, Calls Tryz.prog 119 #[.slice (r.a 7) r.D.se.length (r.c 7), .int .i64 x] W fun e w' => (∃ v, e = .returned v ∧ SlN v (cntZ r.D.se 1) w') ∧ Ext W w') := fun W h x => (hT W h x).2.2
  have hH60 : cntZ r.D.ho (if r.D.fr = 5 then 24 else 1) ≤ 60 := cnt_le _ _ (by split <;> omega) h1
  have hM60 : cntZ r.D.mi 1 ≤ 60 := cnt_le _ _ (by omega) h2
  have hS60 : cntZ r.D.se 1 ≤ 60 := cnt_le _ _ (by omega) h3
  have hHo1 : Hid (¬ (r.D.ho = [] ∧ r.D.fr = 5) → cntZ r.D.ho 1 = cntZ r.D.ho (if r.D.fr = 5 then 24 else 1)) := fun q => by
    unfold cntZ
    by_cases a : r.D.ho = []
    · rw [if_pos a, if_pos a, if_neg (fun b => q ⟨a, b⟩)]
    · rw [if_neg a, if_neg a]
  have hHo2 : Hid (r.D.ho = [] ∧ r.D.fr = 5 → cntZ r.D.ho (if r.D.fr = 5 then 24 else 1) = 24) := fun q => by
    unfold cntZ
    rw [if_pos q.1, if_pos q.2]
  unfold tmsV
  obtain ⟨H, hH⟩ : ∃ H, H = cntZ r.D.ho (if r.D.fr = 5 then 24 else 1) := ⟨_, rfl⟩
  obtain ⟨M, hM⟩ : ∃ M, M = cntZ r.D.mi 1 := ⟨_, rfl⟩
  obtain ⟨S, hS⟩ : ∃ S, S = cntZ r.D.se 1 := ⟨_, rfl⟩
  rw [← hH] at hHo1 hHo2 hH60 ⊢
  rw [← hM] at HT2 hM60 ⊢
  rw [← hS] at HT3 hS60 ⊢
  have hMS : M * S ≤ 60 * 60 := Nat.mul_le_mul hM60 hS60
  obtain ⟨i0, hif, hz0, hz1, hz2⟩ := info_parts infoIv
  have Hi := Lib.hid hif
  have Hz0 := Lib.hid hz0
  have Hz1 := Lib.hid hz1
  have Hz2 := Lib.hid hz2
  have hfl : r.D.ho.length = 0 ↔ r.D.ho = [] := List.length_eq_zero_iff
  have Hfl := Lib.hid hfl
  obtain ⟨fr, hfr⟩ : ∃ fr, fr = r.D.fr := ⟨_, rfl⟩
  obtain ⟨hol, hhol⟩ : ∃ n, n = r.D.ho.length := ⟨_, rfl⟩
  rw [← hfr] at hHo1 hHo2 c0
  rw [← hhol] at Hfl c9 HT1
  clear hif hz0 hz1 hz2 hB hV hVe hT hH hM hS hE0 hfl hf hhol hfr h1 h2 h3
  go_enter Tryz.func68, Tryz.ntmps68
  go_upto_region 1 with fail
  generalize w.alloc (.cells r.vals.toArray 25) = W0 at *
  generalize w.heap.size = B at *
  go_upto_region 3 with (go_at_call 118; (with_reducible refine (HM.out _).mono ?_); rintro e w1 ⟨rfl, hE1⟩; have d9 := (hE1.cells B 9 hBl).trans c9)
  have HE1 := Lib.hid hE1
  go_upto_region 4 with (go_at_call 119; (with_reducible refine (HT1.out w1 HE1.out _).mono ?_); rintro e w2 ⟨⟨v, rfl, hv⟩, hE2⟩)
  have hE12 := HE1.out.trans hE2
  have e9 := (hE12.cells B 9 hBl).trans c9
  have e0 := (hE12.cells B 0 hBl).trans c0
  have hB2 := hE12.lt hBl
  have Hv := Lib.hid hv
  have HE12 := Lib.hid hE12
  clear hv hE12 hE2 hE1 d9
  obtain ⟨bd, hbd⟩ : ∃ bd : Bool, bd = decide (r.D.ho = [] ∧ fr = 5) := ⟨_, rfl⟩
  go_cut [34] from 26 to 34 (fun x wx => x = .bool bd ∧ wx = w2)
  case first =>
    by_cases q1 : r.D.ho = []
    · have t1 : ((hol : Int) == 0) = true := by rw [beq_iff_eq]; have := Hfl.out.2 q1; omega
      by_cases q2 : fr = 5
      · have t2 : (fr == 5) = true := by rw [beq_iff_eq]; exact q2
        have hd : bd = true := by rw [hbd]; exact decide_eq_true ⟨q1, q2⟩
        clear q1 q2
        go_wp2_with fail
        go_meet
        exact ⟨by rw [hd], rfl⟩
      · have t2 : (fr == 5) = false := by rw [beq_eq_false_iff_ne]; exact q2
        have hd : bd = false := by rw [hbd]; exact decide_eq_false (fun h => q2 h.2)
        clear q1 q2
        go_wp2_with fail
        go_meet
        exact ⟨by rw [hd], rfl⟩
    · have t1 : ((hol : Int) == 0) = false := by rw [beq_eq_false_iff_ne]; intro h; exact q1 (Hfl.out.1 (by omega))
      have hd : bd = false := by rw [hbd]; exact decide_eq_false (fun h => q1 h.1)
      clear q1
      go_wp2_with fail
      go_meet
      exact ⟨by rw [hd], rfl⟩
  case rest =>
    obtain ⟨rfl, rfl⟩ := hcut
    generalize wc = w2 at *
    go_upto_if 34 with fail
    go_cut [7] from 35 to 42 (fun x wx => SlN x H wx ∧ Ext W0 wx)
    case first =>
      cases bd with
      | false =>
        have hq := hHo1.out (of_decide_eq_false hbd.symm)
        go_wp2_with fail
        go_meet
        exact ⟨by rw [← hq]; exact Hv.out, HE12.out⟩
      | true =>
        have hq := hHo2.out (of_decide_eq_true hbd.symm)
        subst hq
        clear hbd
        go_wp2_with fail
        go_loopw [7, 35] (fun x i wr => ∃ j : Nat, j ≤ 24 ∧ OwN x j w2.heap.size wr ∧ i = .int .i64 (j : Int) ∧ Ext w2 wr) (fun _ i _ => 24 - (intOf i).toNat)
        case atStart => exact ⟨0, by omega, ⟨none, 0, [], rfl, rfl, World.ownsRow_nil _ _ _ _⟩, rfl, Ext.refl _⟩
        case round =>
          obtain ⟨j, hj, ⟨ao, cv, zs, rfl, hzl, hown⟩, rfl, hE⟩ := hrel
          by_cases hlt : j < 24
          · go_wp2_with (at_builtin; refine wpList_append_own _ rfl _ _ 22 rfl w2.heap.size 3 i0 (.int .i64 0) 1 8 Tryz.underlying22 Hi.out Hz0.out Hz1.out Hz2.out rfl (by decide) _ _ _ rfl (hown.alloc _) ⟨wr.heap.size, 0, none⟩ 1 1 [.int .i64 (j : Int)] rfl rfl (cell_one_new _ _ _) (fun x hx => by simp at hx; subst hx; rfl) (by unfold maxLen; omega) (by omega) (by have := hE.size; simp; omega) ?_; intro v' w3 hown' hgrow3 hnil3)
            have hExt := ext_grown (v := .slice ao j cv) (hE.alloc _) (hown.alloc _) hgrow3
            obtain ⟨ao2, cv2, rfl⟩ := own_slice hown'
            go_roundw
            case rel => exact ⟨j + 1, by omega, ⟨ao2, cv2, zs ++ [(j : Int)], rfl, by rw [List.length_append, hzl]; rfl, by rw [iv_app]; exact hown'⟩, by go_num, hExt⟩
            case measure => simp [intOf]; omega
          · obtain rfl : j = 24 := by omega
            go_wp2_with fail
            go_meet
            exact ⟨⟨ao, cv, zs, rfl, hzl, IsV.of_own hown hzl.symm⟩, HE12.out.trans hE⟩
    case rest =>
      obtain ⟨hx7, hE3⟩ := hcut
      generalize wc = w3 at *
      obtain ⟨ao7, cap7, ys7, rfl, hy7, hv7⟩ := hx7
      have f10 := (hE3.cells B 10 hBl).trans c10
      have f11 := (hE3.cells B 11 hBl).trans c11
      have hB3 := hE3.lt hBl
      have Hv7 := Lib.hid hv7
      have HE3 := Lib.hid hE3
      clear hv7 e9 e0 hbd hE3
      go_upto_region 11 with fail
      go_cut [9, 10] from 43 to 55 (fun x y wx => SlN x M wx ∧ SlN y S wx ∧ Ext w3 wx)
      case first =>
        go_region_with (first
          | (go_at_call 119; (with_reducible refine (HT2.out _ (HE3.out.trans (show Ext w3 _ from (by (repeat (with_reducible (first | assumption | exact Ext.refl _ | refine Ext.alloc ?_ _ | refine Ext.drewN ?_ _ | refine Ext.drew ?_)))))) _).mono ?_); rintro e w4 ⟨⟨x, rfl, hx⟩, hE4⟩; have hY4 := Ext.trans (show Ext w3 _ from (by (repeat (with_reducible (first | assumption | exact Ext.refl _ | refine Ext.alloc ?_ _ | refine Ext.drewN ?_ _ | refine Ext.drew ?_))))) hE4; have g11 := (hY4.cells B 11 hB3).trans f11; have hB4 := hY4.lt hB3)
          | (go_at_call 119; (with_reducible refine (HT3.out _ (HE3.out.trans (show Ext w3 _ from (by (repeat (with_reducible (first | assumption | exact Ext.refl _ | refine Ext.alloc ?_ _ | refine Ext.drewN ?_ _ | refine Ext.drew ?_)))))) _).mono ?_); rintro e w5 ⟨⟨y, rfl, hy⟩, hE5⟩; have hY5 := Ext.trans (show Ext w3 _ from (by (repeat (with_reducible (first | assumption | exact Ext.refl _ | refine Ext.alloc ?_ _ | refine Ext.drewN ?_ _ | refine Ext.drew ?_))))) hE5; have g10 := (hY5.cells B 10 hB3).trans f10; have hB5 := hY5.lt hB3))
        all_goals
          go_wp2_with fail
          go_meet
          exact ⟨hx.ext (by (repeat (with_reducible (first | assumption | exact Ext.refl _ | refine Ext.alloc ?_ _ | refine Ext.drewN ?_ _ | refine Ext.drew ?_)))), hy.ext (by (repeat (with_reducible (first | assumption | exact Ext.refl _ | refine Ext.alloc ?_ _ | refine Ext.drewN ?_ _ | refine Ext.drew ?_)))), (by (repeat (with_reducible (first | assumption | exact Ext.refl _ | refine Ext.alloc ?_ _ | refine Ext.drewN ?_ _ | refine Ext.drew ?_))))⟩
      case rest =>
        obtain ⟨hx9, hy10, hE4⟩ := hcut
        generalize wc = w4 at *
        obtain ⟨ao9, cap9, ys9, rfl, hl9, hv9⟩ := hx9
        obtain ⟨ao10, cap10, ys10, rfl, hl10, hv10⟩ := hy10
        have HV7 := Lib.hid (Hv7.out.ext hE4)
        have HV9 := Lib.hid hv9
        have HV10 := Lib.hid hv10
        have HY7 := Lib.hid hy7
        have HY9 := Lib.hid hl9
        have HY10 := Lib.hid hl10
        have HE4 := Lib.hid (HE3.out.trans hE4)
        have HMS := Lib.hid hMS
        clear hv9 hv10 hE4 f10 f11 hy7 hl9 hl10 hMS HT1 HT2 HT3 hHo1 hHo2 Hv7 Hv c0 c9 c10 c11 Hfl HM
        go_wp2_with fail
        go_loopw [11, 58] (fun o i wr => ∃ j : Nat, j ≤ H ∧ OwN o (j * (M * S)) w4.heap.size wr ∧ i = .int .i64 (j : Int) ∧ Ext w4 wr) (fun _ i _ => H - (intOf i).toNat)
        case atStart => exact ⟨0, by omega, ⟨none, 0, [], by rw [Nat.zero_mul], by rw [Nat.zero_mul]; rfl, by rw [Nat.zero_mul]; exact World.ownsRow_nil _ _ _ _⟩, rfl, Ext.refl _⟩
        case round =>
          obtain ⟨j, hj, hO, rfl, hE⟩ := hrel
          have HO := Lib.hid hO
          have HEj := Lib.hid hE
          by_cases hlt : j < H
          · obtain ⟨R, off, hao, hR⟩ := HV7.out.2.2 (by intro e; rw [e] at HY7; have := HY7.out; simp at this; omega)
            subst hao
            have hRr := hR.ext hE
            have hRz := hRr.1
            have x0 := hRr.2 j (by rw [HY7.out]; exact hlt)
            obtain ⟨hh, hhe⟩ : ∃ hh, hh = ys7[j]'(by rw [HY7.out]; exact hlt) := ⟨_, rfl⟩
            rw [← hhe] at x0
            clear hhe hR hRr hO hE
            go_wp2_with fail
            generalize wr = wu at *
            go_loopw [11, 64] (fun o i wr => ∃ k : Nat, k ≤ M ∧ OwN o (j * (M * S) + k * S) w4.heap.size wr ∧ i = .int .i64 (k : Int) ∧ Ext w4 wr) (fun _ i _ => M - (intOf i).toNat)
            case atStart => exact ⟨0, by omega, by rw [Nat.zero_mul, Nat.add_zero]; exact HO.out, rfl, HEj.out⟩
            case round =>
              obtain ⟨k, hk, hO2, rfl, hE2⟩ := hrel
              have HO2 := Lib.hid hO2
              have HEk := Lib.hid hE2
              by_cases hlt2 : k < M
              · obtain ⟨R2, off2, hao2, hR2⟩ := HV9.out.2.2 (by intro e; rw [e] at HY9; have := HY9.out; simp at this; omega)
                subst hao2
                have hRr := hR2.ext hE2
                have hRz2 := hRr.1
                have x1 := hRr.2 k (by rw [HY9.out]; exact hlt2)
                obtain ⟨mm, hme⟩ : ∃ mm, mm = ys9[k]'(by rw [HY9.out]; exact hlt2) := ⟨_, rfl⟩
                rw [← hme] at x1
                clear hme hR2 hRr hO2 hE2 x0 hRz
                go_wp2_with fail
                generalize wr = wv at *
                go_loopw [11, 70] (fun o i wr => ∃ l : Nat, l ≤ S ∧ OwN o (j * (M * S) + k * S + l) w4.heap.size wr ∧ i = .int .i64 (l : Int) ∧ Ext w4 wr) (fun _ i _ => S - (intOf i).toNat)
                case atStart => exact ⟨0, by omega, HO2.out, rfl, HEk.out⟩
                case round =>
                  obtain ⟨l, hl, ⟨ao, cv, zs, rfl, hzl, hown⟩, rfl, hE3⟩ := hrel
                  by_cases hlt3 : l < S
                  · obtain ⟨R3, off3, hao3, hR3⟩ := HV10.out.2.2 (by intro e; rw [e] at HY10; have := HY10.out; simp at this; omega)
                    subst hao3
                    have hRr := hR3.ext hE3
                    have hRz3 := hRr.1
                    have x2 := hRr.2 l (by rw [HY10.out]; exact hlt3)
                    obtain ⟨sx, hse⟩ : ∃ sx, sx = ys10[l]'(by rw [HY10.out]; exact hlt3) := ⟨_, rfl⟩
                    rw [← hse] at x2
                    have hbd : j * (M * S) + k * S + l ≤ 300000 := by
                      have a1 := mul_up j H (M * S) hlt
                      have a2 := mul_up k M S hlt2
                      have a3 := Nat.mul_le_mul hH60 HMS.out
                      omega
                    obtain ⟨N, hN⟩ : ∃ N, N = j * (M * S) + k * S + l := ⟨_, rfl⟩
                    rw [← hN] at hzl hown hbd ⊢
                    have HN : Hid (j * (M * S) + k * S + (l + 1) = N + 1) := by rw [Hid, hN]; omega
                    clear hse hR3 hRr hN x1 hRz2
                    go_wp2_with (at_builtin; refine wpList_append_own _ rfl _ _ 22 rfl w4.heap.size 3 i0 (.int .i64 0) 1 8 Tryz.underlying22 Hi.out Hz0.out Hz1.out Hz2.out rfl (by decide) _ _ _ rfl (hown.alloc _) ⟨wr.heap.size, 0, none⟩ 1 1 [.int .i64 _] rfl rfl (cell_one_new _ _ _) (fun x hx => by simp at hx; subst hx; rfl) (by unfold maxLen; omega) (by omega) (by have := hE3.size; simp; omega) ?_; intro v' w5 hown' hgrow3 hnil3)
                    have hExt := ext_grown (v := .slice ao N cv) (hE3.alloc _) (hown.alloc _) hgrow3
                    obtain ⟨ao2, cv2, rfl⟩ := own_slice hown'
                    go_roundw
                    case rel => exact ⟨l + 1, by omega, ⟨ao2, cv2, zs ++ [_], by rw [HN.out], by rw [List.length_append, hzl, HN.out]; rfl, by rw [HN.out, iv_app]; exact hown'⟩, by go_num, hExt⟩
                    case measure => simp [intOf]; omega
                  · obtain rfl : l = S := by omega
                    have HOe : Hid (OwN (.slice ao (j * (M * l) + k * l + l) cv) (j * (M * l) + (k + 1) * l) w4.heap.size wr) := by
                      rw [Hid, Nat.succ_mul, ← Nat.add_assoc]
                      exact ⟨ao, cv, zs, rfl, hzl, hown⟩
                    clear hown hzl
                    go_wp2_with fail
                    go_roundw
                    case rel => exact ⟨k + 1, by omega, HOe.out, by go_num, hE3⟩
                    case measure => simp [intOf]; omega
              · obtain rfl : k = M := by omega
                have HOe : Hid (∀ x, OwN x (j * (k * S) + k * S) w4.heap.size wr → OwN x ((j + 1) * (k * S)) w4.heap.size wr) := fun x h => by
                  rw [Nat.succ_mul]; exact h
                go_wp2_with fail
                go_roundw
                case rel => exact ⟨j + 1, by omega, HOe.out _ hO2, by go_num, hE2⟩
                case measure => simp [intOf]; omega
          · obtain rfl : j = H := by omega
            obtain ⟨ao, cv, zs, rfl, hzl, hown⟩ := hO
            clear hown hzl HO
            go_wp2_with fail
            go_ret
            exact ⟨⟨ao, cv, by rw [← Nat.mul_assoc]; rfl⟩, HE0.out.trans (HE4.out.trans hE)⟩
end Go.Proofs.YtgndogpgfgliaaaGreatDoor
