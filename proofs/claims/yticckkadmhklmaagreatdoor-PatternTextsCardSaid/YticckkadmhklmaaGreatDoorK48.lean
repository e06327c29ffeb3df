/- The walk of the reference's Lossless. -/
import Derived.Test.YticckkadmhklmaaGreatDoorK35
import Derived.Test.YticckkadmhklmaaGreatDoorK20
import Derived.RegionTactic
import Derived.BigRegion
import Derived.Deep.Cut
namespace Go.Proofs.YticckkadmhklmaaGreatDoor
set_option linter.unusedVariables false
set_option linter.unusedSimpArgs false
open Go.RowKit

theorem has_one (k : Int) (p : Prt) : ([k] : List Int).contains p.k = (p.k == k) := by
  rw [Bool.eq_iff_iff]; simp
/-- Two parts, each in a block of its own. -/
def LoP (a b : Value) (pk pw : Int) (pt : List UInt8) (qk qw : Int) (qt : List UInt8) (w w' : World) : Prop :=
  ∃ A B, a = .pointer (some ⟨A, 0, none⟩) ∧ b = .pointer (some ⟨B, 0, none⟩) ∧ w'.cell? ⟨A, 0, none⟩ = some (.int .i64 pk) ∧ w'.cell? ⟨A, 1, none⟩ = some (.int .i64 pw) ∧
    w'.cell? ⟨B, 0, none⟩ = some (.int .i64 qk) ∧ w'.cell? ⟨B, 2, none⟩ = some (.string ⟨qt.toArray⟩) ∧ B < w'.heap.size ∧ Ext w w'
theorem lop_a (pk pw : Int) (pt : List UInt8) (qk qw : Int) (qt : List UInt8) (w : World) : LoP (.pointer (some ⟨w.heap.size, 0, none⟩)) (.pointer (some ⟨w.heap.size + 1, 0, none⟩)) pk pw pt qk qw qt w
    ((w.alloc (.cells #[.int .i64 pk, .int .i64 pw, .string ⟨pt.toArray⟩] 38)).alloc (.cells #[.int .i64 qk, .int .i64 qw, .string ⟨qt.toArray⟩] 38)).drew := by
  refine ⟨_, _, rfl, rfl, ?_, ?_, ?_, ?_, ?_, (((Ext.refl w).alloc _).alloc _).drew⟩
  · rw [World.cell?_drew, World.cell?_alloc_lt _ _ _ (by simp), World.cell?_alloc_new]; rfl
  · rw [World.cell?_drew, World.cell?_alloc_lt _ _ _ (by simp), World.cell?_alloc_new]; rfl
  · simp
  · simp
  · simp
theorem lop_b (pk pw : Int) (pt : List UInt8) (qk qw : Int) (qt : List UInt8) (w : World) : LoP (.pointer (some ⟨w.heap.size + 1, 0, none⟩)) (.pointer (some ⟨w.heap.size, 0, none⟩)) pk pw pt qk qw qt w
    ((w.alloc (.cells #[.int .i64 qk, .int .i64 qw, .string ⟨qt.toArray⟩] 38)).alloc (.cells #[.int .i64 pk, .int .i64 pw, .string ⟨pt.toArray⟩] 38)).drew := by
  refine ⟨_, _, rfl, rfl, ?_, ?_, ?_, ?_, ?_, (((Ext.refl w).alloc _).alloc _).drew⟩
  · simp
  · simp
  · rw [World.cell?_drew, World.cell?_alloc_lt _ _ _ (by simp), World.cell?_alloc_new]; rfl
  · rw [World.cell?_drew, World.cell?_alloc_lt _ _ _ (by simp), World.cell?_alloc_new]; rfl
  · simp; omega
theorem rfull_q (k F : Int) (w : World) (n : Nat) (h : fullZ k = F) : Calls Tryz.prog 35 #[.int .i64 k] (w.drewN n) fun e w' => e = .returned (.int .i64 F) ∧ w' = w.drewN n :=
  (rFul_c k F _ h).mono fun _ _ q => ⟨q.1, q.2.symm⟩
theorem rDg_y (x : Int) (c : UInt8) (b : Bool) (w : World) (hx : x = (c.toNat : Int)) (h : isDg c = b) : Calls Tryz.prog 47 #[.int .u8 x] w fun e w' => e = .returned (.bool b) ∧ w = w' := by
  rw [hx]; exact rDg_c c b w h
theorem rLt_z (x : Int) (c : UInt8) (b : Bool) (w : World) (hx : x = (c.toNat : Int)) (h : isLt c = b) : Calls Tryz.prog 34 #[.int .u8 x] w fun e w' => e = .returned (.bool b) ∧ w = w' := by
  rw [hx]; exact rLt_c c b w h
theorem rDg_z (x : Int) (c : UInt8) (b : Bool) (w : World) (n : Nat) (hx : x = (c.toNat : Int)) (h : isDg c = b) : Calls Tryz.prog 47 #[.int .u8 x] (w.drewN n) fun e w' => e = .returned (.bool b) ∧ w' = w.drewN n :=
  (rDg_y x c b _ hx h).mono fun _ _ q => ⟨q.1, q.2.symm⟩
set_option maxRecDepth 100000 in
theorem rhas_c (l : List Prt) (ao : Option Addr) (cap : Nat) (k : Int) (b : Bool) (w : World) (h : PtV ao cap l w) (hb : hasK l [k] = b) :
    Calls Tryz.prog 46 #[.slice ao l.length cap, .int .i64 k] w fun e w' => e = .returned (.bool b) ∧ w = w' := by
  have hlen := h.1
  have hcap := h.2.1
  unfold maxLen at hcap
  have HP := Lib.hid h.2.2
  have HB : Hid (l.any (fun p => [k].contains p.k) = b) := hb
  clear h hb
  go_enter Tryz.func46, Tryz.ntmps46
  go_wp2_with fail
  go_loop [5] (fun i => ∃ j : Nat, j ≤ l.length ∧ i = .int .i64 (j : Int) ∧ Hid ((l.take j).any (fun p => [k].contains p.k) = false)) (fun i => l.length - (intOf i).toNat)
  case atStart => exact ⟨0, Nat.zero_le _, rfl, rfl⟩
  case round =>
    obtain ⟨j, hj, rfl, Hall⟩ := hrel
    by_cases hlt : j < l.length
    · obtain ⟨R, off, rfl, hR0, hc⟩ := HP.out (by rintro rfl; simp at hlt)
      obtain ⟨c0, c1, c2⟩ := hc j hlt
      have Hs : Hid ((l.take (j + 1)).any (fun p => [k].contains p.k) = ((l.take j).any (fun p => [k].contains p.k) || (l[j].k == k))) := by
        rw [Hid, List.take_succ_eq_append_getElem hlt, List.any_append, List.any_cons, List.any_nil, Bool.or_false, has_one]
      have HV : Hid ((l[j].k == k) = true → b = true) := fun q => by
        rw [← HB.out, List.any_eq_true]; exact ⟨l[j], List.getElem_mem _, by rw [has_one]; exact q⟩
      obtain ⟨p, hp⟩ : ∃ p, p = l[j] := ⟨_, rfl⟩
      rw [← hp] at c0 c1 c2 Hs HV
      clear hp hc c1 c2
      rcases Bool.eq_false_or_eq_true (p.k == k) with hq | hq
      · have HT := Lib.hid (HV.out hq)
        go_wp2_with fail
        go_ret
        exact ⟨by rw [HT.out]; rfl, rfl⟩
      · have Hn : Hid ((l.take (j + 1)).any (fun p => [k].contains p.k) = false) := by rw [Hid, Hs.out, Hall.out, hq]; rfl
        go_wp2_with fail
        go_round
        case rel => exact ⟨j + 1, by omega, by go_num, Hn⟩
        case measure => simp [intOf]; omega
    · obtain rfl : j = l.length := by omega
      have HV : Hid (b = false) := by rw [Hid, ← HB.out]; have := Hall.out; rwa [List.take_length] at this
      go_wp2_with fail
      go_ret
      exact ⟨by rw [HV.out]; rfl, rfl⟩
set_option maxRecDepth 100000 in
set_option maxHeartbeats 2000000 in
theorem rloss_yes (l : List Prt) (ao : Option Addr) (cap : Nat) (w : World) (h : PtV ao cap l w) (hl : ∀ p ∈ l, p.t.length ≤ 4000)
    (a1 : validB l = true) (a2 : hasK l [2] = true) (a3 : hasK l [3, 4, 5] = true) (a4 : hasK l [6] = true) (a5 : (hasK l [9] || (hasK l [10] && hasK l [13])) = true) (a8 : hasK l [11] = true) (a9 : hasK l [12] = true) :
    Calls Tryz.prog 16 #[.slice ao l.length cap] w fun e w' => e = .returned (.bool (losL l)) ∧ Ext w w' := by
  have hlen := h.1
  have hcap := h.2.1
  unfold maxLen at hcap
  have Hl := Lib.hid hl
  have HPt := Lib.hid h
  have HP : Hid (∀ p ∈ l, partB p = true) := by
    have := a1
    unfold validB at this
    simp only [Bool.and_eq_true, decide_eq_true_eq] at this
    exact tailB_all l none this.2
  have h40 : l.length ≤ 40 := by
    have := a1
    unfold validB at this
    simp only [Bool.and_eq_true, decide_eq_true_eq] at this
    exact this.1
  obtain ⟨h3, e3⟩ : ∃ v, hasK l [3] = v := ⟨_, rfl⟩
  obtain ⟨h4, e4⟩ : ∃ v, hasK l [4] = v := ⟨_, rfl⟩
  obtain ⟨h5, e5⟩ : ∃ v, hasK l [5] = v := ⟨_, rfl⟩
  obtain ⟨h9, e9⟩ : ∃ v, hasK l [9] = v := ⟨_, rfl⟩
  obtain ⟨h10, e10⟩ : ∃ v, hasK l [10] = v := ⟨_, rfl⟩
  obtain ⟨h13, e13⟩ : ∃ v, hasK l [13] = v := ⟨_, rfl⟩
  rw [hasK_or, e3, e4, e5] at a3
  rw [e9, e10, e13] at a5
  have A1 := Lib.hid a1
  have A2 := Lib.hid a2
  have A6 := Lib.hid a4
  have A11 := Lib.hid a8
  have A12 := Lib.hid a9
  have E3 := Lib.hid e3
  have E4 := Lib.hid e4
  have E5 := Lib.hid e5
  have E9 := Lib.hid e9
  have E10 := Lib.hid e10
  have E13 := Lib.hid e13
  have K3 := Lib.hid a3
  have K5 := Lib.hid a5
  clear hl h a1 a2 a3 a4 a5 a8 a9 e3 e4 e5 e9 e10 e13
  go_enter Tryz.func16, Tryz.ntmps16
  go_upto_region 3 with (first
    | (go_at_call 10; (with_reducible refine (rvalid_lit l true ao cap _ HPt.out Hl.out A1.out).mono ?_); rintro e w1 ⟨rfl, hE1⟩; have HEz := Lib.hid hE1; have HPw := Lib.hid (HPt.out.ext hE1); clear hE1)
    | (go_at_call 46; (with_reducible refine (rhas_c l ao cap 2 true _ HPw.out A2.out).mono ?_); rintro e wn ⟨rfl, rfl⟩)
    | (go_at_call 46; (with_reducible refine (rhas_c l ao cap 6 true _ HPw.out A6.out).mono ?_); rintro e wn ⟨rfl, rfl⟩)
    | (go_at_call 46; (with_reducible refine (rhas_c l ao cap 11 true _ HPw.out A11.out).mono ?_); rintro e wn ⟨rfl, rfl⟩)
    | (go_at_call 46; (with_reducible refine (rhas_c l ao cap 12 true _ HPw.out A12.out).mono ?_); rintro e wn ⟨rfl, rfl⟩))
  go_cut [56] from 30 to 57 (fun c wx => c = .bool false ∧ wx = w1)
  case first =>
    have K3 := K3.out
    have K5 := K5.out
    cases h3 <;> cases h4 <;> cases h5 <;> (first | (exfalso; revert K3; decide) | skip) <;> cases h9 <;> cases h10 <;> cases h13 <;> (first | (exfalso; revert K5; decide) | skip)
    all_goals
      clear K3 K5
      go_wp2_with (first
        | (go_at_call 46; (with_reducible refine (rhas_c l ao cap 3 _ _ HPw.out E3.out).mono ?_); rintro e wn ⟨rfl, rfl⟩)
        | (go_at_call 46; (with_reducible refine (rhas_c l ao cap 4 _ _ HPw.out E4.out).mono ?_); rintro e wn ⟨rfl, rfl⟩)
        | (go_at_call 46; (with_reducible refine (rhas_c l ao cap 5 _ _ HPw.out E5.out).mono ?_); rintro e wn ⟨rfl, rfl⟩)
        | (go_at_call 46; (with_reducible refine (rhas_c l ao cap 9 _ _ HPw.out E9.out).mono ?_); rintro e wn ⟨rfl, rfl⟩)
        | (go_at_call 46; (with_reducible refine (rhas_c l ao cap 10 _ _ HPw.out E10.out).mono ?_); rintro e wn ⟨rfl, rfl⟩)
        | (go_at_call 46; (with_reducible refine (rhas_c l ao cap 13 _ _ HPw.out E13.out).mono ?_); rintro e wn ⟨rfl, rfl⟩))
      go_meet
      case rel => exact ⟨rfl, rfl⟩
  obtain ⟨rfl, rfl⟩ := hcut
  have HPz := Lib.hid HPw.out.2.2
  clear HPt HPw K3 K5
  generalize wc = Wz at *
  go_wp2_with fail
  go_loopw [3] (fun i wr => ∃ j : Nat, j ≤ l.length ∧ i = .int .i64 (j : Int) ∧ Hid (losL l = losL (l.drop j)) ∧ Ext Wz wr) (fun i _ => l.length - (intOf i).toNat)
  case atStart => exact ⟨0, Nat.zero_le _, rfl, rfl, Ext.refl _⟩
  case round =>
    obtain ⟨j, hj, rfl, HI, hE⟩ := hrel
    have HEr := Lib.hid (HEz.out.trans hE)
    by_cases hnx : j + 1 < l.length
    · have hlt : j < l.length := by omega
      obtain ⟨R, off, rfl, hRl, hRc⟩ := HPz.out (by rintro rfl; simp at hlt)
      have HRc := Lib.hid hRc
      have hRr := hE.lt hRl
      obtain ⟨g0, g1, g2⟩ := hRc j hlt
      replace g0 := (hE.cells _ _ hRl).trans g0
      replace g1 := (hE.cells _ _ hRl).trans g1
      replace g2 := (hE.cells _ _ hRl).trans g2
      clear hRc
      obtain ⟨n0, n1, n2⟩ := HRc.out (j + 1) hnx
      replace n0 := (hE.cells _ _ hRl).trans n0
      replace n1 := (hE.cells _ _ hRl).trans n1
      replace n2 := (hE.cells _ _ hRl).trans n2
      have hp := HP.out l[j] (List.getElem_mem _)
      have hq := HP.out l[j + 1] (List.getElem_mem _)
      have HS : Hid (losL l = (!badB l[j] l[j + 1] && losL (l.drop (j + 1)))) := by rw [Hid, HI.out]; exact losL_at l j hnx
      obtain ⟨p, hpp⟩ : ∃ p, p = l[j] := ⟨_, rfl⟩
      obtain ⟨q, hqq⟩ : ∃ q, q = l[j + 1] := ⟨_, rfl⟩
      rw [← hpp] at g0 g1 g2 hp HS
      rw [← hqq] at n0 n1 n2 hq HS
      clear hpp hqq
      obtain ⟨pk, pw, pt⟩ := p
      obtain ⟨qk, qw, qt⟩ := q
      simp only at g0 g1 g2 n0 n1 n2
      have tnx : (((j : Int) + 1) == (l.length : Int)) = false := by rw [beq_eq_false_iff_ne]; omega
      have hnx' : (j : Int) + 1 < (l.length : Int) := by omega
      have hfp : 0 < fullZ pk → pk ≠ 14 ∧ pk ≠ 15 := fun h => ⟨(num_not h).2.1, (num_not h).2.2⟩
      have hGn := fullZ_nonneg qk
      have hFn := fullZ_nonneg pk
      have HY : Hid (badB ⟨pk, pw, pt⟩ ⟨qk, qw, qt⟩ = true → losL l = false) := fun h => by rw [HS.out, h]; rfl
      have HN : Hid (badB ⟨pk, pw, pt⟩ ⟨qk, qw, qt⟩ = false → losL l = losL (l.drop (j + 1))) := fun h => by rw [HS.out, h]; rfl
      have HBd : Hid (badB ⟨pk, pw, pt⟩ ⟨qk, qw, qt⟩ = ((decide (0 < fullZ pk) && decide (pw < fullZ pk) && (decide (0 < fullZ qk) || decide (qk = 15) || isDg (fstB ⟨qk, qw, qt⟩))) ||
        (decide (pk = 14) && decide (fstB ⟨qk, qw, qt⟩ = 58)) || (decide (pk = 15) && (decide (qk ≠ 1) || isLt (fstB ⟨qk, qw, qt⟩) || isDg (fstB ⟨qk, qw, qt⟩) || decide (fstB ⟨qk, qw, qt⟩ = 43) || decide (fstB ⟨qk, qw, qt⟩ = 45))))) := rfl
      have hpw0 := partB_width hp
      simp only at hpw0
      clear HS hp
      obtain ⟨F, hF⟩ : ∃ F, fullZ pk = F := ⟨_, rfl⟩
      obtain ⟨G, hG⟩ : ∃ G, fullZ qk = G := ⟨_, rfl⟩
      have HF := Lib.hid hF
      have HG := Lib.hid hG
      rw [hF] at HBd hfp hFn
      rw [hG] at HBd hGn
      by_cases hq1 : qk = 1
      · subst hq1
        have hG0 : G = 0 := by rw [← hG]; rfl
        obtain ⟨c, r, hqt⟩ := lit_head hq rfl
        simp only at hqt
        have hfs : fstB ⟨1, qw, qt⟩ = c := by unfold fstB; rw [if_pos rfl]; simp only [hqt]; rfl
        have hlq : 0 < qt.length := by rw [hqt]; simp
        have b0 := bget qt 0 hlq c (by simp [hqt])
        have hlq' : (0 : Int) < (qt.length : Int) := by omega
        rw [hfs] at HBd
        clear hqt hfs hq hF hG
        subst hG0
        by_cases hA : 0 < F
        · obtain ⟨k1, k2⟩ := hfp hA
          have t14 : (pk == 14) = false := by simpa using k1
          have t15 : (pk == 15) = false := by simpa using k2
          by_cases hB : pw < F
          · rcases Bool.eq_false_or_eq_true (isDg c) with hd | hd
            · have HD := Lib.hid hd
              have HV := Lib.hid (HY.out (by rw [HBd.out, hd]; simp [hA, hB]))
              clear hd k1 k2 hfp
              go_upto_region 8 with fail
              go_cut [4, 5] from 64 to 73 (fun a b wx => LoP a b pk pw pt 1 qw qt wr wx)
              case first =>
                go_region
                all_goals
                  go_wp2_with fail
                  go_meet
                  case rel => first | exact lop_a _ _ _ _ _ _ _ | exact lop_b _ _ _ _ _ _ _
              obtain ⟨A, B, rfl, rfl, y0, y1, y2, y5, hlb, hEp⟩ := hcut
              clear g0 g1 g2 n0 n1 n2
              go_upto_region 12 with fail
              (first | (have hq2 : decide (pw < F) = false := decide_eq_false (by omega)) | (have hq2 : decide (pw < 0) = false := decide_eq_false (by omega)) | (have hq2 : decide (pw < F) = true := decide_eq_true (by omega)) | skip)
              go_quiet ((first
                | (go_at_call 35; (with_reducible refine Calls.quiet_of_same (rfull_q pk _ _ _ HF.out)))
                | (go_at_call 35; (with_reducible refine Calls.quiet_of_same (rfull_q 1 _ _ _ HG.out)))
                | (go_at_call 47; (refine Calls.quiet_of_same (rDg_z (c.toNat : Int) _ _ _ _ (by rfl) HD.out)))))
              go_wp2_with (first
                | (go_at_call 34; (refine (rLt_z (c.toNat : Int) _ _ _ (by rfl) HL.out).mono ?_); rintro e w1 ⟨rfl, rfl⟩)
                | (go_at_call 47; (refine (rDg_y (c.toNat : Int) _ _ _ (by rfl) HD.out).mono ?_); rintro e w1 ⟨rfl, rfl⟩))
              go_ret
              exact ⟨by rw [HV.out]; rfl, HEr.out.trans (hEp.drewN _)⟩
            · have HD := Lib.hid hd
              have HV := Lib.hid (HN.out (by rw [HBd.out, hd]; simp [k1, k2]))
              clear hd k1 k2 hfp
              go_upto_region 8 with fail
              go_cut [4, 5] from 64 to 73 (fun a b wx => LoP a b pk pw pt 1 qw qt wr wx)
              case first =>
                go_region
                all_goals
                  go_wp2_with fail
                  go_meet
                  case rel => first | exact lop_a _ _ _ _ _ _ _ | exact lop_b _ _ _ _ _ _ _
              obtain ⟨A, B, rfl, rfl, y0, y1, y2, y5, hlb, hEp⟩ := hcut
              clear g0 g1 g2 n0 n1 n2
              go_upto_region 12 with fail
              (first | (have hq2 : decide (pw < F) = false := decide_eq_false (by omega)) | (have hq2 : decide (pw < 0) = false := decide_eq_false (by omega)) | (have hq2 : decide (pw < F) = true := decide_eq_true (by omega)) | skip)
              go_quiet ((first
                | (go_at_call 35; (with_reducible refine Calls.quiet_of_same (rfull_q pk _ _ _ HF.out)))
                | (go_at_call 35; (with_reducible refine Calls.quiet_of_same (rfull_q 1 _ _ _ HG.out)))
                | (go_at_call 47; (refine Calls.quiet_of_same (rDg_z (c.toNat : Int) _ _ _ _ (by rfl) HD.out)))))
              go_wp2_with (first
                | (go_at_call 34; (refine (rLt_z (c.toNat : Int) _ _ _ (by rfl) HL.out).mono ?_); rintro e w1 ⟨rfl, rfl⟩)
                | (go_at_call 47; (refine (rDg_y (c.toNat : Int) _ _ _ (by rfl) HD.out).mono ?_); rintro e w1 ⟨rfl, rfl⟩))
              go_roundw
              case rel => exact ⟨j + 1, by omega, by go_num, HV, hE.trans (hEp.drewN _)⟩
              case measure => simp [intOf]; omega
          · have HV := Lib.hid (HN.out (by rw [HBd.out]; simp [hB, k1, k2]))
            have HD : Hid (isDg c = isDg c) := rfl
            clear k1 k2 hfp
            go_upto_region 8 with fail
            go_cut [4, 5] from 64 to 73 (fun a b wx => LoP a b pk pw pt 1 qw qt wr wx)
            case first =>
              go_region
              all_goals
                go_wp2_with fail
                go_meet
                case rel => first | exact lop_a _ _ _ _ _ _ _ | exact lop_b _ _ _ _ _ _ _
            obtain ⟨A, B, rfl, rfl, y0, y1, y2, y5, hlb, hEp⟩ := hcut
            clear g0 g1 g2 n0 n1 n2
            go_upto_region 12 with fail
            (first | (have hq2 : decide (pw < F) = false := decide_eq_false (by omega)) | (have hq2 : decide (pw < 0) = false := decide_eq_false (by omega)) | (have hq2 : decide (pw < F) = true := decide_eq_true (by omega)) | skip)
            go_quiet ((first
              | (go_at_call 35; (with_reducible refine Calls.quiet_of_same (rfull_q pk _ _ _ HF.out)))
              | (go_at_call 35; (with_reducible refine Calls.quiet_of_same (rfull_q 1 _ _ _ HG.out)))
              | (go_at_call 47; (refine Calls.quiet_of_same (rDg_z (c.toNat : Int) _ _ _ _ (by rfl) HD.out)))))
            go_wp2_with (first
              | (go_at_call 34; (refine (rLt_z (c.toNat : Int) _ _ _ (by rfl) HL.out).mono ?_); rintro e w1 ⟨rfl, rfl⟩)
              | (go_at_call 47; (refine (rDg_y (c.toNat : Int) _ _ _ (by rfl) HD.out).mono ?_); rintro e w1 ⟨rfl, rfl⟩))
            go_roundw
            case rel => exact ⟨j + 1, by omega, by go_num, HV, hE.trans (hEp.drewN _)⟩
            case measure => simp [intOf]; omega
        · have hF0 : F = 0 := by omega
          subst hF0
          clear hfp hA
          by_cases k1 : pk = 14
          · have t14 : (pk == 14) = true := by simpa using k1
            have t15 : (pk == 15) = false := by rw [k1]; rfl
            have HD : Hid (isDg c = isDg c) := rfl
            by_cases hc : c = 58
            · have HV := Lib.hid (HY.out (by rw [HBd.out]; simp [k1, hc]))
              have e58 : ((c.toNat : Int) == 58) = true := by rw [hc]; rfl
              clear k1 hc
              go_upto_region 8 with fail
              go_cut [4, 5] from 64 to 73 (fun a b wx => LoP a b pk pw pt 1 qw qt wr wx)
              case first =>
                go_region
                all_goals
                  go_wp2_with fail
                  go_meet
                  case rel => first | exact lop_a _ _ _ _ _ _ _ | exact lop_b _ _ _ _ _ _ _
              obtain ⟨A, B, rfl, rfl, y0, y1, y2, y5, hlb, hEp⟩ := hcut
              clear g0 g1 g2 n0 n1 n2
              go_upto_region 12 with fail
              (first | (have hq2 : decide (pw < F) = false := decide_eq_false (by omega)) | (have hq2 : decide (pw < 0) = false := decide_eq_false (by omega)) | (have hq2 : decide (pw < F) = true := decide_eq_true (by omega)) | skip)
              go_quiet ((first
                | (go_at_call 35; (with_reducible refine Calls.quiet_of_same (rfull_q pk _ _ _ HF.out)))
                | (go_at_call 35; (with_reducible refine Calls.quiet_of_same (rfull_q 1 _ _ _ HG.out)))
                | (go_at_call 47; (refine Calls.quiet_of_same (rDg_z (c.toNat : Int) _ _ _ _ (by rfl) HD.out)))))
              go_wp2_with (first
                | (go_at_call 34; (refine (rLt_z (c.toNat : Int) _ _ _ (by rfl) HL.out).mono ?_); rintro e w1 ⟨rfl, rfl⟩)
                | (go_at_call 47; (refine (rDg_y (c.toNat : Int) _ _ _ (by rfl) HD.out).mono ?_); rintro e w1 ⟨rfl, rfl⟩))
              go_ret
              exact ⟨by rw [HV.out]; rfl, HEr.out.trans (hEp.drewN _)⟩
            · have HV := Lib.hid (HN.out (by rw [HBd.out]; simp [k1, hc]))
              have e1 : ¬ c.toNat = 58 := u8_ne (by decide) hc
              have e58 : ((c.toNat : Int) == 58) = false := by rw [beq_eq_false_iff_ne]; omega
              clear k1 hc e1
              go_upto_region 8 with fail
              go_cut [4, 5] from 64 to 73 (fun a b wx => LoP a b pk pw pt 1 qw qt wr wx)
              case first =>
                go_region
                all_goals
                  go_wp2_with fail
                  go_meet
                  case rel => first | exact lop_a _ _ _ _ _ _ _ | exact lop_b _ _ _ _ _ _ _
              obtain ⟨A, B, rfl, rfl, y0, y1, y2, y5, hlb, hEp⟩ := hcut
              clear g0 g1 g2 n0 n1 n2
              go_upto_region 12 with fail
              (first | (have hq2 : decide (pw < F) = false := decide_eq_false (by omega)) | (have hq2 : decide (pw < 0) = false := decide_eq_false (by omega)) | (have hq2 : decide (pw < F) = true := decide_eq_true (by omega)) | skip)
              go_quiet ((first
                | (go_at_call 35; (with_reducible refine Calls.quiet_of_same (rfull_q pk _ _ _ HF.out)))
                | (go_at_call 35; (with_reducible refine Calls.quiet_of_same (rfull_q 1 _ _ _ HG.out)))
                | (go_at_call 47; (refine Calls.quiet_of_same (rDg_z (c.toNat : Int) _ _ _ _ (by rfl) HD.out)))))
              go_wp2_with (first
                | (go_at_call 34; (refine (rLt_z (c.toNat : Int) _ _ _ (by rfl) HL.out).mono ?_); rintro e w1 ⟨rfl, rfl⟩)
                | (go_at_call 47; (refine (rDg_y (c.toNat : Int) _ _ _ (by rfl) HD.out).mono ?_); rintro e w1 ⟨rfl, rfl⟩))
              go_roundw
              case rel => exact ⟨j + 1, by omega, by go_num, HV, hE.trans (hEp.drewN _)⟩
              case measure => simp [intOf]; omega
          · have t14 : (pk == 14) = false := by simpa using k1
            by_cases k2 : pk = 15
            · have t15 : (pk == 15) = true := by simpa using k2
              rcases Bool.eq_false_or_eq_true (isLt c) with hL | hL
              · have HL := Lib.hid hL
                have HD : Hid (isDg c = isDg c) := rfl
                have HV := Lib.hid (HY.out (by rw [HBd.out, hL]; simp [k2]))
                clear hL k1 k2
                go_upto_region 8 with fail
                go_cut [4, 5] from 64 to 73 (fun a b wx => LoP a b pk pw pt 1 qw qt wr wx)
                case first =>
                  go_region
                  all_goals
                    go_wp2_with fail
                    go_meet
                    case rel => first | exact lop_a _ _ _ _ _ _ _ | exact lop_b _ _ _ _ _ _ _
                obtain ⟨A, B, rfl, rfl, y0, y1, y2, y5, hlb, hEp⟩ := hcut
                clear g0 g1 g2 n0 n1 n2
                go_upto_region 12 with fail
                (first | (have hq2 : decide (pw < F) = false := decide_eq_false (by omega)) | (have hq2 : decide (pw < 0) = false := decide_eq_false (by omega)) | (have hq2 : decide (pw < F) = true := decide_eq_true (by omega)) | skip)
                go_quiet ((first
                  | (go_at_call 35; (with_reducible refine Calls.quiet_of_same (rfull_q pk _ _ _ HF.out)))
                  | (go_at_call 35; (with_reducible refine Calls.quiet_of_same (rfull_q 1 _ _ _ HG.out)))
                  | (go_at_call 47; (refine Calls.quiet_of_same (rDg_z (c.toNat : Int) _ _ _ _ (by rfl) HD.out)))))
                go_wp2_with (first
                  | (go_at_call 34; (refine (rLt_z (c.toNat : Int) _ _ _ (by rfl) HL.out).mono ?_); rintro e w1 ⟨rfl, rfl⟩)
                  | (go_at_call 47; (refine (rDg_y (c.toNat : Int) _ _ _ (by rfl) HD.out).mono ?_); rintro e w1 ⟨rfl, rfl⟩))
                go_ret
                exact ⟨by rw [HV.out]; rfl, HEr.out.trans (hEp.drewN _)⟩
              · have HL := Lib.hid hL
                rcases Bool.eq_false_or_eq_true (isDg c) with hd | hd
                · have HD := Lib.hid hd
                  have HV := Lib.hid (HY.out (by rw [HBd.out, hd]; simp [k2]))
                  clear hL hd k1 k2
                  go_upto_region 8 with fail
                  go_cut [4, 5] from 64 to 73 (fun a b wx => LoP a b pk pw pt 1 qw qt wr wx)
                  case first =>
                    go_region
                    all_goals
                      go_wp2_with fail
                      go_meet
                      case rel => first | exact lop_a _ _ _ _ _ _ _ | exact lop_b _ _ _ _ _ _ _
                  obtain ⟨A, B, rfl, rfl, y0, y1, y2, y5, hlb, hEp⟩ := hcut
                  clear g0 g1 g2 n0 n1 n2
                  go_upto_region 12 with fail
                  (first | (have hq2 : decide (pw < F) = false := decide_eq_false (by omega)) | (have hq2 : decide (pw < 0) = false := decide_eq_false (by omega)) | (have hq2 : decide (pw < F) = true := decide_eq_true (by omega)) | skip)
                  go_quiet ((first
                    | (go_at_call 35; (with_reducible refine Calls.quiet_of_same (rfull_q pk _ _ _ HF.out)))
                    | (go_at_call 35; (with_reducible refine Calls.quiet_of_same (rfull_q 1 _ _ _ HG.out)))
                    | (go_at_call 47; (refine Calls.quiet_of_same (rDg_z (c.toNat : Int) _ _ _ _ (by rfl) HD.out)))))
                  go_wp2_with (first
                    | (go_at_call 34; (refine (rLt_z (c.toNat : Int) _ _ _ (by rfl) HL.out).mono ?_); rintro e w1 ⟨rfl, rfl⟩)
                    | (go_at_call 47; (refine (rDg_y (c.toNat : Int) _ _ _ (by rfl) HD.out).mono ?_); rintro e w1 ⟨rfl, rfl⟩))
                  go_ret
                  exact ⟨by rw [HV.out]; rfl, HEr.out.trans (hEp.drewN _)⟩
                · have HD := Lib.hid hd
                  by_cases c43 : c = 43
                  · have HV := Lib.hid (HY.out (by rw [HBd.out]; simp [k2, c43]))
                    have e43 : ((c.toNat : Int) == 43) = true := by rw [c43]; rfl
                    clear hL hd k1 k2 c43
                    go_upto_region 8 with fail
                    go_cut [4, 5] from 64 to 73 (fun a b wx => LoP a b pk pw pt 1 qw qt wr wx)
                    case first =>
                      go_region
                      all_goals
                        go_wp2_with fail
                        go_meet
                        case rel => first | exact lop_a _ _ _ _ _ _ _ | exact lop_b _ _ _ _ _ _ _
                    obtain ⟨A, B, rfl, rfl, y0, y1, y2, y5, hlb, hEp⟩ := hcut
                    clear g0 g1 g2 n0 n1 n2
                    go_upto_region 12 with fail
                    (first | (have hq2 : decide (pw < F) = false := decide_eq_false (by omega)) | (have hq2 : decide (pw < 0) = false := decide_eq_false (by omega)) | (have hq2 : decide (pw < F) = true := decide_eq_true (by omega)) | skip)
                    go_quiet ((first
                      | (go_at_call 35; (with_reducible refine Calls.quiet_of_same (rfull_q pk _ _ _ HF.out)))
                      | (go_at_call 35; (with_reducible refine Calls.quiet_of_same (rfull_q 1 _ _ _ HG.out)))
                      | (go_at_call 47; (refine Calls.quiet_of_same (rDg_z (c.toNat : Int) _ _ _ _ (by rfl) HD.out)))))
                    go_wp2_with (first
                      | (go_at_call 34; (refine (rLt_z (c.toNat : Int) _ _ _ (by rfl) HL.out).mono ?_); rintro e w1 ⟨rfl, rfl⟩)
                      | (go_at_call 47; (refine (rDg_y (c.toNat : Int) _ _ _ (by rfl) HD.out).mono ?_); rintro e w1 ⟨rfl, rfl⟩))
                    go_ret
                    exact ⟨by rw [HV.out]; rfl, HEr.out.trans (hEp.drewN _)⟩
                  · have e1 : ¬ c.toNat = 43 := u8_ne (by decide) c43
                    have e43 : ((c.toNat : Int) == 43) = false := by rw [beq_eq_false_iff_ne]; omega
                    by_cases c45 : c = 45
                    · have HV := Lib.hid (HY.out (by rw [HBd.out]; simp [k2, c45]))
                      have e45 : ((c.toNat : Int) == 45) = true := by rw [c45]; rfl
                      clear hL hd k1 k2 c43 c45 e1
                      go_upto_region 8 with fail
                      go_cut [4, 5] from 64 to 73 (fun a b wx => LoP a b pk pw pt 1 qw qt wr wx)
                      case first =>
                        go_region
                        all_goals
                          go_wp2_with fail
                          go_meet
                          case rel => first | exact lop_a _ _ _ _ _ _ _ | exact lop_b _ _ _ _ _ _ _
                      obtain ⟨A, B, rfl, rfl, y0, y1, y2, y5, hlb, hEp⟩ := hcut
                      clear g0 g1 g2 n0 n1 n2
                      go_upto_region 12 with fail
                      (first | (have hq2 : decide (pw < F) = false := decide_eq_false (by omega)) | (have hq2 : decide (pw < 0) = false := decide_eq_false (by omega)) | (have hq2 : decide (pw < F) = true := decide_eq_true (by omega)) | skip)
                      go_quiet ((first
                        | (go_at_call 35; (with_reducible refine Calls.quiet_of_same (rfull_q pk _ _ _ HF.out)))
                        | (go_at_call 35; (with_reducible refine Calls.quiet_of_same (rfull_q 1 _ _ _ HG.out)))
                        | (go_at_call 47; (refine Calls.quiet_of_same (rDg_z (c.toNat : Int) _ _ _ _ (by rfl) HD.out)))))
                      go_wp2_with (first
                        | (go_at_call 34; (refine (rLt_z (c.toNat : Int) _ _ _ (by rfl) HL.out).mono ?_); rintro e w1 ⟨rfl, rfl⟩)
                        | (go_at_call 47; (refine (rDg_y (c.toNat : Int) _ _ _ (by rfl) HD.out).mono ?_); rintro e w1 ⟨rfl, rfl⟩))
                      go_ret
                      exact ⟨by rw [HV.out]; rfl, HEr.out.trans (hEp.drewN _)⟩
                    · have HV := Lib.hid (HN.out (by rw [HBd.out, hL, hd]; simp [k1, c43, c45]))
                      have e2 : ¬ c.toNat = 45 := u8_ne (by decide) c45
                      have e45 : ((c.toNat : Int) == 45) = false := by rw [beq_eq_false_iff_ne]; omega
                      clear hL hd k1 k2 c43 c45 e1 e2
                      go_upto_region 8 with fail
                      go_cut [4, 5] from 64 to 73 (fun a b wx => LoP a b pk pw pt 1 qw qt wr wx)
                      case first =>
                        go_region
                        all_goals
                          go_wp2_with fail
                          go_meet
                          case rel => first | exact lop_a _ _ _ _ _ _ _ | exact lop_b _ _ _ _ _ _ _
                      obtain ⟨A, B, rfl, rfl, y0, y1, y2, y5, hlb, hEp⟩ := hcut
                      clear g0 g1 g2 n0 n1 n2
                      go_upto_region 12 with fail
                      (first | (have hq2 : decide (pw < F) = false := decide_eq_false (by omega)) | (have hq2 : decide (pw < 0) = false := decide_eq_false (by omega)) | (have hq2 : decide (pw < F) = true := decide_eq_true (by omega)) | skip)
                      go_quiet ((first
                        | (go_at_call 35; (with_reducible refine Calls.quiet_of_same (rfull_q pk _ _ _ HF.out)))
                        | (go_at_call 35; (with_reducible refine Calls.quiet_of_same (rfull_q 1 _ _ _ HG.out)))
                        | (go_at_call 47; (refine Calls.quiet_of_same (rDg_z (c.toNat : Int) _ _ _ _ (by rfl) HD.out)))))
                      go_wp2_with (first
                        | (go_at_call 34; (refine (rLt_z (c.toNat : Int) _ _ _ (by rfl) HL.out).mono ?_); rintro e w1 ⟨rfl, rfl⟩)
                        | (go_at_call 47; (refine (rDg_y (c.toNat : Int) _ _ _ (by rfl) HD.out).mono ?_); rintro e w1 ⟨rfl, rfl⟩))
                      go_roundw
                      case rel => exact ⟨j + 1, by omega, by go_num, HV, hE.trans (hEp.drewN _)⟩
                      case measure => simp [intOf]; omega
            · have t15 : (pk == 15) = false := by simpa using k2
              have HD : Hid (isDg c = isDg c) := rfl
              have HV := Lib.hid (HN.out (by rw [HBd.out]; simp [k1, k2]))
              clear k1 k2
              go_upto_region 8 with fail
              go_cut [4, 5] from 64 to 73 (fun a b wx => LoP a b pk pw pt 1 qw qt wr wx)
              case first =>
                go_region
                all_goals
                  go_wp2_with fail
                  go_meet
                  case rel => first | exact lop_a _ _ _ _ _ _ _ | exact lop_b _ _ _ _ _ _ _
              obtain ⟨A, B, rfl, rfl, y0, y1, y2, y5, hlb, hEp⟩ := hcut
              clear g0 g1 g2 n0 n1 n2
              go_upto_region 12 with fail
              (first | (have hq2 : decide (pw < F) = false := decide_eq_false (by omega)) | (have hq2 : decide (pw < 0) = false := decide_eq_false (by omega)) | (have hq2 : decide (pw < F) = true := decide_eq_true (by omega)) | skip)
              go_quiet ((first
                | (go_at_call 35; (with_reducible refine Calls.quiet_of_same (rfull_q pk _ _ _ HF.out)))
                | (go_at_call 35; (with_reducible refine Calls.quiet_of_same (rfull_q 1 _ _ _ HG.out)))
                | (go_at_call 47; (refine Calls.quiet_of_same (rDg_z (c.toNat : Int) _ _ _ _ (by rfl) HD.out)))))
              go_wp2_with (first
                | (go_at_call 34; (refine (rLt_z (c.toNat : Int) _ _ _ (by rfl) HL.out).mono ?_); rintro e w1 ⟨rfl, rfl⟩)
                | (go_at_call 47; (refine (rDg_y (c.toNat : Int) _ _ _ (by rfl) HD.out).mono ?_); rintro e w1 ⟨rfl, rfl⟩))
              go_roundw
              case rel => exact ⟨j + 1, by omega, by go_num, HV, hE.trans (hEp.drewN _)⟩
              case measure => simp [intOf]; omega
      · have hfs : fstB ⟨qk, qw, qt⟩ = 0 := by unfold fstB; rw [if_neg hq1]
        rw [hfs] at HBd
        have tq1 : (qk == 1) = false := by simpa using hq1
        have tq2 : (qk != 1) = true := by simpa using hq1
        have HD : Hid (isDg (0 : UInt8) = false) := (by decide : isDg (0 : UInt8) = false)
        have HL : Hid (isLt (0 : UInt8) = false) := (by decide : isLt (0 : UInt8) = false)
        clear hfs hq hF hG
        by_cases hA : 0 < F
        · obtain ⟨k1, k2⟩ := hfp hA
          have t14 : (pk == 14) = false := by simpa using k1
          have t15 : (pk == 15) = false := by simpa using k2
          by_cases hB : pw < F
          · by_cases hC : 0 < G
            · have HV := Lib.hid (HY.out (by rw [HBd.out]; simp [hA, hB, hC]))
              clear k1 k2 hfp hq1
              go_upto_region 8 with fail
              go_cut [4, 5] from 64 to 73 (fun a b wx => LoP a b pk pw pt qk qw qt wr wx)
              case first =>
                go_region
                all_goals
                  go_wp2_with fail
                  go_meet
                  case rel => first | exact lop_a _ _ _ _ _ _ _ | exact lop_b _ _ _ _ _ _ _
              obtain ⟨A, B, rfl, rfl, y0, y1, y2, y5, hlb, hEp⟩ := hcut
              clear g0 g1 g2 n0 n1 n2
              go_upto_region 12 with fail
              (first | (have hq2 : decide (pw < F) = false := decide_eq_false (by omega)) | (have hq2 : decide (pw < 0) = false := decide_eq_false (by omega)) | (have hq2 : decide (pw < F) = true := decide_eq_true (by omega)) | skip)
              go_quiet ((first
                | (go_at_call 35; (with_reducible refine Calls.quiet_of_same (rfull_q pk _ _ _ HF.out)))
                | (go_at_call 35; (with_reducible refine Calls.quiet_of_same (rfull_q qk _ _ _ HG.out)))
                | (go_at_call 47; (refine Calls.quiet_of_same (rDg_z 0 _ _ _ _ (by rfl) HD.out)))))
              go_wp2_with (first
                | (go_at_call 34; (refine (rLt_z 0 _ _ _ (by rfl) HL.out).mono ?_); rintro e w1 ⟨rfl, rfl⟩)
                | (go_at_call 47; (refine (rDg_y 0 _ _ _ (by rfl) HD.out).mono ?_); rintro e w1 ⟨rfl, rfl⟩))
              go_ret
              exact ⟨by rw [HV.out]; rfl, HEr.out.trans (hEp.drewN _)⟩
            · have hG0 : G = 0 := by omega
              subst hG0
              by_cases hD' : qk = 15
              · have HV := Lib.hid (HY.out (by rw [HBd.out]; simp [hA, hB, hD']))
                have tq5 : (qk == 15) = true := by simpa using hD'
                clear k1 k2 hfp hq1 hD' hC
                go_upto_region 8 with fail
                go_cut [4, 5] from 64 to 73 (fun a b wx => LoP a b pk pw pt qk qw qt wr wx)
                case first =>
                  go_region
                  all_goals
                    go_wp2_with fail
                    go_meet
                    case rel => first | exact lop_a _ _ _ _ _ _ _ | exact lop_b _ _ _ _ _ _ _
                obtain ⟨A, B, rfl, rfl, y0, y1, y2, y5, hlb, hEp⟩ := hcut
                clear g0 g1 g2 n0 n1 n2
                go_upto_region 12 with fail
                (first | (have hq2 : decide (pw < F) = false := decide_eq_false (by omega)) | (have hq2 : decide (pw < 0) = false := decide_eq_false (by omega)) | (have hq2 : decide (pw < F) = true := decide_eq_true (by omega)) | skip)
                go_quiet ((first
                  | (go_at_call 35; (with_reducible refine Calls.quiet_of_same (rfull_q pk _ _ _ HF.out)))
                  | (go_at_call 35; (with_reducible refine Calls.quiet_of_same (rfull_q qk _ _ _ HG.out)))
                  | (go_at_call 47; (refine Calls.quiet_of_same (rDg_z 0 _ _ _ _ (by rfl) HD.out)))))
                go_wp2_with (first
                  | (go_at_call 34; (refine (rLt_z 0 _ _ _ (by rfl) HL.out).mono ?_); rintro e w1 ⟨rfl, rfl⟩)
                  | (go_at_call 47; (refine (rDg_y 0 _ _ _ (by rfl) HD.out).mono ?_); rintro e w1 ⟨rfl, rfl⟩))
                go_ret
                exact ⟨by rw [HV.out]; rfl, HEr.out.trans (hEp.drewN _)⟩
              · have HV := Lib.hid (HN.out (by rw [HBd.out, HD.out]; simp [k1, k2, hD']))
                have tq5 : (qk == 15) = false := by simpa using hD'
                clear k1 k2 hfp hq1 hD' hC
                go_upto_region 8 with fail
                go_cut [4, 5] from 64 to 73 (fun a b wx => LoP a b pk pw pt qk qw qt wr wx)
                case first =>
                  go_region
                  all_goals
                    go_wp2_with fail
                    go_meet
                    case rel => first | exact lop_a _ _ _ _ _ _ _ | exact lop_b _ _ _ _ _ _ _
                obtain ⟨A, B, rfl, rfl, y0, y1, y2, y5, hlb, hEp⟩ := hcut
                clear g0 g1 g2 n0 n1 n2
                go_upto_region 12 with fail
                (first | (have hq2 : decide (pw < F) = false := decide_eq_false (by omega)) | (have hq2 : decide (pw < 0) = false := decide_eq_false (by omega)) | (have hq2 : decide (pw < F) = true := decide_eq_true (by omega)) | skip)
                go_quiet ((first
                  | (go_at_call 35; (with_reducible refine Calls.quiet_of_same (rfull_q pk _ _ _ HF.out)))
                  | (go_at_call 35; (with_reducible refine Calls.quiet_of_same (rfull_q qk _ _ _ HG.out)))
                  | (go_at_call 47; (refine Calls.quiet_of_same (rDg_z 0 _ _ _ _ (by rfl) HD.out)))))
                go_wp2_with (first
                  | (go_at_call 34; (refine (rLt_z 0 _ _ _ (by rfl) HL.out).mono ?_); rintro e w1 ⟨rfl, rfl⟩)
                  | (go_at_call 47; (refine (rDg_y 0 _ _ _ (by rfl) HD.out).mono ?_); rintro e w1 ⟨rfl, rfl⟩))
                go_roundw
                case rel => exact ⟨j + 1, by omega, by go_num, HV, hE.trans (hEp.drewN _)⟩
                case measure => simp [intOf]; omega
          · have HV := Lib.hid (HN.out (by rw [HBd.out]; simp [hB, k1, k2]))
            clear k1 k2 hfp hq1
            go_upto_region 8 with fail
            go_cut [4, 5] from 64 to 73 (fun a b wx => LoP a b pk pw pt qk qw qt wr wx)
            case first =>
              go_region
              all_goals
                go_wp2_with fail
                go_meet
                case rel => first | exact lop_a _ _ _ _ _ _ _ | exact lop_b _ _ _ _ _ _ _
            obtain ⟨A, B, rfl, rfl, y0, y1, y2, y5, hlb, hEp⟩ := hcut
            clear g0 g1 g2 n0 n1 n2
            go_upto_region 12 with fail
            (first | (have hq2 : decide (pw < F) = false := decide_eq_false (by omega)) | (have hq2 : decide (pw < 0) = false := decide_eq_false (by omega)) | (have hq2 : decide (pw < F) = true := decide_eq_true (by omega)) | skip)
            go_quiet ((first
              | (go_at_call 35; (with_reducible refine Calls.quiet_of_same (rfull_q pk _ _ _ HF.out)))
              | (go_at_call 35; (with_reducible refine Calls.quiet_of_same (rfull_q qk _ _ _ HG.out)))
              | (go_at_call 47; (refine Calls.quiet_of_same (rDg_z 0 _ _ _ _ (by rfl) HD.out)))))
            go_wp2_with (first
              | (go_at_call 34; (refine (rLt_z 0 _ _ _ (by rfl) HL.out).mono ?_); rintro e w1 ⟨rfl, rfl⟩)
              | (go_at_call 47; (refine (rDg_y 0 _ _ _ (by rfl) HD.out).mono ?_); rintro e w1 ⟨rfl, rfl⟩))
            go_roundw
            case rel => exact ⟨j + 1, by omega, by go_num, HV, hE.trans (hEp.drewN _)⟩
            case measure => simp [intOf]; omega
        · have hF0 : F = 0 := by omega
          subst hF0
          clear hfp hA
          by_cases k2 : pk = 15
          · have t14 : (pk == 14) = false := by rw [k2]; rfl
            have t15 : (pk == 15) = true := by simpa using k2
            have HV := Lib.hid (HY.out (by rw [HBd.out]; simp [k2, hq1]))
            clear k2 hq1
            go_upto_region 8 with fail
            go_cut [4, 5] from 64 to 73 (fun a b wx => LoP a b pk pw pt qk qw qt wr wx)
            case first =>
              go_region
              all_goals
                go_wp2_with fail
                go_meet
                case rel => first | exact lop_a _ _ _ _ _ _ _ | exact lop_b _ _ _ _ _ _ _
            obtain ⟨A, B, rfl, rfl, y0, y1, y2, y5, hlb, hEp⟩ := hcut
            clear g0 g1 g2 n0 n1 n2
            go_upto_region 12 with fail
            (first | (have hq2 : decide (pw < F) = false := decide_eq_false (by omega)) | (have hq2 : decide (pw < 0) = false := decide_eq_false (by omega)) | (have hq2 : decide (pw < F) = true := decide_eq_true (by omega)) | skip)
            go_quiet ((first
              | (go_at_call 35; (with_reducible refine Calls.quiet_of_same (rfull_q pk _ _ _ HF.out)))
              | (go_at_call 35; (with_reducible refine Calls.quiet_of_same (rfull_q qk _ _ _ HG.out)))
              | (go_at_call 47; (refine Calls.quiet_of_same (rDg_z 0 _ _ _ _ (by rfl) HD.out)))))
            go_wp2_with (first
              | (go_at_call 34; (refine (rLt_z 0 _ _ _ (by rfl) HL.out).mono ?_); rintro e w1 ⟨rfl, rfl⟩)
              | (go_at_call 47; (refine (rDg_y 0 _ _ _ (by rfl) HD.out).mono ?_); rintro e w1 ⟨rfl, rfl⟩))
            go_ret
            exact ⟨by rw [HV.out]; rfl, HEr.out.trans (hEp.drewN _)⟩
          · have t15 : (pk == 15) = false := by simpa using k2
            have HV := Lib.hid (HN.out (by rw [HBd.out]; simp [k2]))
            by_cases k1 : pk = 14
            · have t14 : (pk == 14) = true := by simpa using k1
              clear k1 k2 hq1
              go_upto_region 8 with fail
              go_cut [4, 5] from 64 to 73 (fun a b wx => LoP a b pk pw pt qk qw qt wr wx)
              case first =>
                go_region
                all_goals
                  go_wp2_with fail
                  go_meet
                  case rel => first | exact lop_a _ _ _ _ _ _ _ | exact lop_b _ _ _ _ _ _ _
              obtain ⟨A, B, rfl, rfl, y0, y1, y2, y5, hlb, hEp⟩ := hcut
              clear g0 g1 g2 n0 n1 n2
              go_upto_region 12 with fail
              (first | (have hq2 : decide (pw < F) = false := decide_eq_false (by omega)) | (have hq2 : decide (pw < 0) = false := decide_eq_false (by omega)) | (have hq2 : decide (pw < F) = true := decide_eq_true (by omega)) | skip)
              go_quiet ((first
                | (go_at_call 35; (with_reducible refine Calls.quiet_of_same (rfull_q pk _ _ _ HF.out)))
                | (go_at_call 35; (with_reducible refine Calls.quiet_of_same (rfull_q qk _ _ _ HG.out)))
                | (go_at_call 47; (refine Calls.quiet_of_same (rDg_z 0 _ _ _ _ (by rfl) HD.out)))))
              go_wp2_with (first
                | (go_at_call 34; (refine (rLt_z 0 _ _ _ (by rfl) HL.out).mono ?_); rintro e w1 ⟨rfl, rfl⟩)
                | (go_at_call 47; (refine (rDg_y 0 _ _ _ (by rfl) HD.out).mono ?_); rintro e w1 ⟨rfl, rfl⟩))
              go_roundw
              case rel => exact ⟨j + 1, by omega, by go_num, HV, hE.trans (hEp.drewN _)⟩
              case measure => simp [intOf]; omega
            · have t14 : (pk == 14) = false := by simpa using k1
              clear k1 k2 hq1
              go_upto_region 8 with fail
              go_cut [4, 5] from 64 to 73 (fun a b wx => LoP a b pk pw pt qk qw qt wr wx)
              case first =>
                go_region
                all_goals
                  go_wp2_with fail
                  go_meet
                  case rel => first | exact lop_a _ _ _ _ _ _ _ | exact lop_b _ _ _ _ _ _ _
              obtain ⟨A, B, rfl, rfl, y0, y1, y2, y5, hlb, hEp⟩ := hcut
              clear g0 g1 g2 n0 n1 n2
              go_upto_region 12 with fail
              (first | (have hq2 : decide (pw < F) = false := decide_eq_false (by omega)) | (have hq2 : decide (pw < 0) = false := decide_eq_false (by omega)) | (have hq2 : decide (pw < F) = true := decide_eq_true (by omega)) | skip)
              go_quiet ((first
                | (go_at_call 35; (with_reducible refine Calls.quiet_of_same (rfull_q pk _ _ _ HF.out)))
                | (go_at_call 35; (with_reducible refine Calls.quiet_of_same (rfull_q qk _ _ _ HG.out)))
                | (go_at_call 47; (refine Calls.quiet_of_same (rDg_z 0 _ _ _ _ (by rfl) HD.out)))))
              go_wp2_with (first
                | (go_at_call 34; (refine (rLt_z 0 _ _ _ (by rfl) HL.out).mono ?_); rintro e w1 ⟨rfl, rfl⟩)
                | (go_at_call 47; (refine (rDg_y 0 _ _ _ (by rfl) HD.out).mono ?_); rintro e w1 ⟨rfl, rfl⟩))
              go_roundw
              case rel => exact ⟨j + 1, by omega, by go_num, HV, hE.trans (hEp.drewN _)⟩
              case measure => simp [intOf]; omega
    · have HV : Hid (losL l = true) := by rw [Hid, HI.out]; exact losL_end l j (by omega)
      have hnx2 : ¬ (j : Int) + 1 < (l.length : Int) := by omega
      clear hnx
      go_wp2_with fail
      go_ret
      exact ⟨by rw [HV.out]; rfl, HEr.out⟩
end Go.Proofs.YticckkadmhklmaaGreatDoor
