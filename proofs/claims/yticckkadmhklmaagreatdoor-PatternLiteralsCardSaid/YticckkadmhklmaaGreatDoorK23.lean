/- Patterns: the walk of Lossless: what stands side by side, with an hour of twelve. -/
import Derived.Test.YticckkadmhklmaaGreatDoorK20
namespace Go.Proofs.YticckkadmhklmaaGreatDoor
set_option linter.unusedVariables false
set_option linter.unusedSimpArgs false
open Go.RowKit

set_option maxRecDepth 100000 in
set_option maxHeartbeats 1500000 in
theorem loss_y10 (l : List Prt) (ao : Option Addr) (cap : Nat) (w : World) (h : PtV ao cap l w) (hl : ∀ p ∈ l, p.t.length ≤ 4000)
    (a1 : validB l = true) (a2 : hasK l [2] = true) (a3 : hasK l [3, 4, 5] = true) (a4 : hasK l [6] = true) (a5 : hasK l [9] = false) (a6 : hasK l [10] = true) (a7 : hasK l [13] = true) (a8 : hasK l [11] = true) (a9 : hasK l [12] = true) :
    Calls Tryz.prog 15 #[.slice ao l.length cap] w fun e w' => e = .returned (.bool (losL l)) ∧ Ext w w' := by
  have hEW : Ext w (w.alloc (.cells #[.slice ao l.length cap] 22)) := (Ext.refl w).alloc _
  have hT : (w.alloc (.cells #[.slice ao l.length cap] 22)).cell? ⟨w.heap.size, 0, none⟩ = some (.slice ao l.length cap) := by rw [World.cell?_alloc_new]; rfl
  have hTl : w.heap.size < (w.alloc (.cells #[.slice ao l.length cap] 22)).heap.size := by simp
  have Hl := Lib.hid hl
  have HPt := Lib.hid h
  have HP : Hid (∀ p ∈ l, partB p = true) := by
    have := a1
    unfold validB at this
    simp only [Bool.and_eq_true, decide_eq_true_eq] at this
    exact tailB_all l none this.2
  have hlen := h.1
  have hcap := h.2.1
  unfold maxLen at hcap
  have A1 := Lib.hid a1
  have A2 := Lib.hid a2
  have A3 := Lib.hid a3
  have A4 := Lib.hid a4
  have A5 := Lib.hid a5
  have A6 := Lib.hid a6
  have A7 := Lib.hid a7
  have A8 := Lib.hid a8
  have A9 := Lib.hid a9
  clear hl h a1 a2 a3 a4 a5 a6 a7 a8 a9
  go_enter Tryz.func15, Tryz.ntmps15
  go_upto_region 2 with fail
  generalize w.alloc (.cells #[.slice ao l.length cap] 22) = W0 at hEW hT hTl ⊢
  generalize w.heap.size = T at hT hTl ⊢
  have hEc := Ext.refl W0
  go_upto_region 4 with (first
    | (go_at_call 29; (with_reducible refine (valid_lit l _ ao cap _ (HPt.out.ext hEW) Hl.out A1.out).mono ?_); rintro e w1 ⟨rfl, hE1⟩; have hEc := Ext.trans ‹Ext W0 _› hE1; have hTc := (Ext.cells ‹Ext W0 _› _ 0 hTl).trans hT; clear hE1)
    | (go_at_call 41; (with_reducible refine (has1 l ao cap T 2 _ _ (HPt.out.ext (hEW.trans ‹Ext W0 _›)) ((Ext.cells ‹Ext W0 _› _ _ hTl).trans hT) (Ext.lt ‹Ext W0 _› hTl) A2.out).mono ?_); rintro e wn ⟨rfl, hE1⟩; have hEc := Ext.trans ‹Ext W0 _› hE1; clear hE1)
    | (go_at_call 41; (with_reducible refine (has3 l ao cap T 3 4 5 _ _ (HPt.out.ext (hEW.trans ‹Ext W0 _›)) ((Ext.cells ‹Ext W0 _› _ _ hTl).trans hT) (Ext.lt ‹Ext W0 _› hTl) A3.out).mono ?_); rintro e wn ⟨rfl, hE1⟩; have hEc := Ext.trans ‹Ext W0 _› hE1; clear hE1)
    | (go_at_call 41; (with_reducible refine (has1 l ao cap T 6 _ _ (HPt.out.ext (hEW.trans ‹Ext W0 _›)) ((Ext.cells ‹Ext W0 _› _ _ hTl).trans hT) (Ext.lt ‹Ext W0 _› hTl) A4.out).mono ?_); rintro e wn ⟨rfl, hE1⟩; have hEc := Ext.trans ‹Ext W0 _› hE1; clear hE1)
    | (go_at_call 41; (with_reducible refine (has1 l ao cap T 9 _ _ (HPt.out.ext (hEW.trans ‹Ext W0 _›)) ((Ext.cells ‹Ext W0 _› _ _ hTl).trans hT) (Ext.lt ‹Ext W0 _› hTl) A5.out).mono ?_); rintro e wn ⟨rfl, hE1⟩; have hEc := Ext.trans ‹Ext W0 _› hE1; clear hE1)
    | (go_at_call 41; (with_reducible refine (has1 l ao cap T 10 _ _ (HPt.out.ext (hEW.trans ‹Ext W0 _›)) ((Ext.cells ‹Ext W0 _› _ _ hTl).trans hT) (Ext.lt ‹Ext W0 _› hTl) A6.out).mono ?_); rintro e wn ⟨rfl, hE1⟩; have hEc := Ext.trans ‹Ext W0 _› hE1; clear hE1)
    | (go_at_call 41; (with_reducible refine (has1 l ao cap T 13 _ _ (HPt.out.ext (hEW.trans ‹Ext W0 _›)) ((Ext.cells ‹Ext W0 _› _ _ hTl).trans hT) (Ext.lt ‹Ext W0 _› hTl) A7.out).mono ?_); rintro e wn ⟨rfl, hE1⟩; have hEc := Ext.trans ‹Ext W0 _› hE1; clear hE1)
    | (go_at_call 41; (with_reducible refine (has1 l ao cap T 11 _ _ (HPt.out.ext (hEW.trans ‹Ext W0 _›)) ((Ext.cells ‹Ext W0 _› _ _ hTl).trans hT) (Ext.lt ‹Ext W0 _› hTl) A8.out).mono ?_); rintro e wn ⟨rfl, hE1⟩; have hEc := Ext.trans ‹Ext W0 _› hE1; clear hE1)
    | (go_at_call 41; (with_reducible refine (has1 l ao cap T 12 _ _ (HPt.out.ext (hEW.trans ‹Ext W0 _›)) ((Ext.cells ‹Ext W0 _› _ _ hTl).trans hT) (Ext.lt ‹Ext W0 _› hTl) A9.out).mono ?_); rintro e wn ⟨rfl, hE1⟩; have hEc := Ext.trans ‹Ext W0 _› hE1; clear hE1)
    | go_in)
  have hEz := ‹Ext W0 wn›
  have HEz := Lib.hid (hEW.trans hEz)
  have HPz := Lib.hid (HPt.out.ext (hEW.trans hEz)).2.2
  have hTz := (hEz.cells _ 0 hTl).trans hT
  have hTlz := hEz.lt hTl
  clear hT hTl hEW hEz
  generalize wn = Wz at *
  go_wp2_with fail
  go_loopw [61] (fun i wr => ∃ j : Nat, j ≤ l.length ∧ i = .int .i64 (j : Int) ∧ Hid (losL l = losL (l.drop j)) ∧ Ext Wz wr) (fun i _ => l.length - (intOf i).toNat)
  case atStart => exact ⟨0, Nat.zero_le _, rfl, rfl, Ext.refl _⟩
  case round =>
    obtain ⟨j, hj, rfl, HI, hE⟩ := hrel
    have hTr := (hE.cells _ 0 hTlz).trans hTz
    have hTlr := hE.lt hTlz
    have HEr := Lib.hid (HEz.out.trans hE)
    by_cases hlt : j < l.length
    · obtain ⟨R, off, rfl, hRl, hRc⟩ := HPz.out (by rintro rfl; simp at hlt)
      have HRc := Lib.hid hRc
      have hRr := hE.lt hRl
      obtain ⟨g0, g1, g2⟩ := hRc j hlt
      replace g0 := (hE.cells _ _ hRl).trans g0
      replace g1 := (hE.cells _ _ hRl).trans g1
      replace g2 := (hE.cells _ _ hRl).trans g2
      clear hRc
      by_cases hnx : j + 1 < l.length
      · obtain ⟨n0, n1, n2⟩ := HRc.out (j + 1) hnx
        replace n0 := (hE.cells _ _ hRl).trans n0
        replace n1 := (hE.cells _ _ hRl).trans n1
        replace n2 := (hE.cells _ _ hRl).trans n2
        have hp := HP.out l[j] (List.getElem_mem _)
        have hq := HP.out l[j + 1] (List.getElem_mem _)
        have HS : Hid (losL l = (!badB l[j] l[j + 1] && losL (l.drop (j + 1)))) := by rw [Hid, HI.out]; exact losL_at l j hnx
        obtain ⟨p, hpp⟩ : ∃ p, p = l[j] := ⟨_, rfl⟩
        obtain ⟨q, hqq⟩ : ∃ q, q = l[j + 1] := ⟨_, rfl⟩
        rw [← hpp] at g0 g1 g2 hp HS
        rw [← hqq] at n0 n1 n2 hq HS
        clear hpp hqq
        obtain ⟨pk, pw, pt⟩ := p
        obtain ⟨qk, qw, qt⟩ := q
        simp only at g0 g1 g2 n0 n1 n2
        have tnx : (((j : Int) + 1) == (l.length : Int)) = false := by rw [beq_eq_false_iff_ne]; omega
        have hnx' : (j : Int) + 1 < (l.length : Int) := by omega
        have hfp : 0 < fullZ pk → pk ≠ 14 ∧ pk ≠ 15 := fun h => ⟨(num_not h).2.1, (num_not h).2.2⟩
        have hGn := fullZ_nonneg qk
        have hFn := fullZ_nonneg pk
        have HY : Hid (badB ⟨pk, pw, pt⟩ ⟨qk, qw, qt⟩ = true → losL l = false) := fun h => by rw [HS.out, h]; rfl
        have HN : Hid (badB ⟨pk, pw, pt⟩ ⟨qk, qw, qt⟩ = false → losL l = losL (l.drop (j + 1))) := fun h => by rw [HS.out, h]; rfl
        have HBd : Hid (badB ⟨pk, pw, pt⟩ ⟨qk, qw, qt⟩ = ((decide (0 < fullZ pk) && decide (pw < fullZ pk) && (decide (0 < fullZ qk) || decide (qk = 15) || isDg (fstB ⟨qk, qw, qt⟩))) ||
          (decide (pk = 14) && decide (fstB ⟨qk, qw, qt⟩ = 58)) || (decide (pk = 15) && (decide (qk ≠ 1) || isLt (fstB ⟨qk, qw, qt⟩) || isDg (fstB ⟨qk, qw, qt⟩) || decide (fstB ⟨qk, qw, qt⟩ = 43) || decide (fstB ⟨qk, qw, qt⟩ = 45))))) := rfl
        clear HS hp
        obtain ⟨F, hF⟩ : ∃ F, fullZ pk = F := ⟨_, rfl⟩
        obtain ⟨G, hG⟩ : ∃ G, fullZ qk = G := ⟨_, rfl⟩
        have HF := Lib.hid hF
        have HG := Lib.hid hG
        rw [hF] at HBd hfp hFn
        rw [hG] at HBd hGn
        by_cases hq1 : qk = 1
        · subst hq1
          have hG0 : G = 0 := by rw [← hG]; rfl
          obtain ⟨c, r, hqt⟩ := lit_head hq rfl
          simp only at hqt
          have hfs : fstB ⟨1, qw, qt⟩ = c := by unfold fstB; rw [if_pos rfl]; simp only [hqt]; rfl
          have hlq : 0 < qt.length := by rw [hqt]; simp
          have b0 := bget qt 0 hlq c (by simp [hqt])
          have hlq' : (0 : Int) < (qt.length : Int) := by omega
          rw [hfs] at HBd
          clear hqt hfs hq hF hG
          subst hG0
          by_cases hA : 0 < F
          · obtain ⟨k1, k2⟩ := hfp hA
            have t14 : (pk == 14) = false := by simpa using k1
            have t15 : (pk == 15) = false := by simpa using k2
            by_cases hB : pw < F
            · rcases Bool.eq_false_or_eq_true (isDg c) with hd | hd
              · have HD := Lib.hid hd
                have HV := Lib.hid (HY.out (by rw [HBd.out, hd]; simp [hA, hB]))
                clear hd k1 k2 hfp
                go_upto_region 12 with fail
                have hEp : Ext wr ((wr.alloc (.cells #[.int .i64 pk, .int .i64 pw, .string ⟨pt.toArray⟩] 38)).alloc (.cells #[.int .i64 1, .int .i64 qw, .string ⟨qt.toArray⟩] 38)) := ((Ext.refl wr).alloc _).alloc _
                have y0 : ((wr.alloc (.cells #[.int .i64 pk, .int .i64 pw, .string ⟨pt.toArray⟩] 38)).alloc (.cells #[.int .i64 1, .int .i64 qw, .string ⟨qt.toArray⟩] 38)).cell? ⟨wr.heap.size, 0, none⟩ = some (.int .i64 pk) := by
                  rw [World.cell?_alloc_lt _ _ _ (by simp), World.cell?_alloc_new]; rfl
                have y1 : ((wr.alloc (.cells #[.int .i64 pk, .int .i64 pw, .string ⟨pt.toArray⟩] 38)).alloc (.cells #[.int .i64 1, .int .i64 qw, .string ⟨qt.toArray⟩] 38)).cell? ⟨wr.heap.size, 1, none⟩ = some (.int .i64 pw) := by
                  rw [World.cell?_alloc_lt _ _ _ (by simp), World.cell?_alloc_new]; rfl
                have y2 : ((wr.alloc (.cells #[.int .i64 pk, .int .i64 pw, .string ⟨pt.toArray⟩] 38)).alloc (.cells #[.int .i64 1, .int .i64 qw, .string ⟨qt.toArray⟩] 38)).cell? ⟨wr.heap.size + 1, 0, none⟩ = some (.int .i64 1) := by
                  simp
                generalize (wr.alloc (.cells #[.int .i64 pk, .int .i64 pw, .string ⟨pt.toArray⟩] 38)).alloc (.cells #[.int .i64 1, .int .i64 qw, .string ⟨qt.toArray⟩] 38) = V at hEp y0 y1 y2 ⊢
                generalize wr.heap.size = Z at y0 y1 y2 ⊢
                clear g0 g1 g2 n0 n1 n2
                go_quiet ((first
                  | (go_at_call 44; (with_reducible refine Calls.quiet_of_same (full_q pk _ _ _ HF.out)))
                  | (go_at_call 44; (with_reducible refine Calls.quiet_of_same (full_q 1 _ _ _ HG.out)))
                  | (go_at_call 45; (refine Calls.quiet_of_same (isDg_z (c.toNat : Int) _ _ _ _ (by rfl) HD.out)))))
                go_wp2_with (first
                  | (go_at_call 30; (refine (isLt_z (c.toNat : Int) _ _ _ (by rfl) HL.out).mono ?_); rintro e w1 ⟨rfl, rfl⟩)
                  | (go_at_call 45; (refine (isDg_y (c.toNat : Int) _ _ _ (by rfl) HD.out).mono ?_); rintro e w1 ⟨rfl, rfl⟩))
                go_ret
                exact ⟨by rw [HV.out]; rfl, HEr.out.trans (hEp.drewN _)⟩
              · have HD := Lib.hid hd
                have HV := Lib.hid (HN.out (by rw [HBd.out, hd]; simp [k1, k2]))
                clear hd k1 k2 hfp
                go_upto_region 12 with fail
                have hEp : Ext wr ((wr.alloc (.cells #[.int .i64 pk, .int .i64 pw, .string ⟨pt.toArray⟩] 38)).alloc (.cells #[.int .i64 1, .int .i64 qw, .string ⟨qt.toArray⟩] 38)) := ((Ext.refl wr).alloc _).alloc _
                have y0 : ((wr.alloc (.cells #[.int .i64 pk, .int .i64 pw, .string ⟨pt.toArray⟩] 38)).alloc (.cells #[.int .i64 1, .int .i64 qw, .string ⟨qt.toArray⟩] 38)).cell? ⟨wr.heap.size, 0, none⟩ = some (.int .i64 pk) := by
                  rw [World.cell?_alloc_lt _ _ _ (by simp), World.cell?_alloc_new]; rfl
                have y1 : ((wr.alloc (.cells #[.int .i64 pk, .int .i64 pw, .string ⟨pt.toArray⟩] 38)).alloc (.cells #[.int .i64 1, .int .i64 qw, .string ⟨qt.toArray⟩] 38)).cell? ⟨wr.heap.size, 1, none⟩ = some (.int .i64 pw) := by
                  rw [World.cell?_alloc_lt _ _ _ (by simp), World.cell?_alloc_new]; rfl
                have y2 : ((wr.alloc (.cells #[.int .i64 pk, .int .i64 pw, .string ⟨pt.toArray⟩] 38)).alloc (.cells #[.int .i64 1, .int .i64 qw, .string ⟨qt.toArray⟩] 38)).cell? ⟨wr.heap.size + 1, 0, none⟩ = some (.int .i64 1) := by
                  simp
                generalize (wr.alloc (.cells #[.int .i64 pk, .int .i64 pw, .string ⟨pt.toArray⟩] 38)).alloc (.cells #[.int .i64 1, .int .i64 qw, .string ⟨qt.toArray⟩] 38) = V at hEp y0 y1 y2 ⊢
                generalize wr.heap.size = Z at y0 y1 y2 ⊢
                clear g0 g1 g2 n0 n1 n2
                go_quiet ((first
                  | (go_at_call 44; (with_reducible refine Calls.quiet_of_same (full_q pk _ _ _ HF.out)))
                  | (go_at_call 44; (with_reducible refine Calls.quiet_of_same (full_q 1 _ _ _ HG.out)))
                  | (go_at_call 45; (refine Calls.quiet_of_same (isDg_z (c.toNat : Int) _ _ _ _ (by rfl) HD.out)))))
                go_wp2_with (first
                  | (go_at_call 30; (refine (isLt_z (c.toNat : Int) _ _ _ (by rfl) HL.out).mono ?_); rintro e w1 ⟨rfl, rfl⟩)
                  | (go_at_call 45; (refine (isDg_y (c.toNat : Int) _ _ _ (by rfl) HD.out).mono ?_); rintro e w1 ⟨rfl, rfl⟩))
                go_roundw
                case rel => exact ⟨j + 1, by omega, by go_num, HV, hE.trans (hEp.drewN _)⟩
                case measure => simp [intOf]; omega
            · have HV := Lib.hid (HN.out (by rw [HBd.out]; simp [hB, k1, k2]))
              have HD : Hid (isDg c = isDg c) := rfl
              clear k1 k2 hfp
              go_upto_region 12 with fail
              have hEp : Ext wr ((wr.alloc (.cells #[.int .i64 pk, .int .i64 pw, .string ⟨pt.toArray⟩] 38)).alloc (.cells #[.int .i64 1, .int .i64 qw, .string ⟨qt.toArray⟩] 38)) := ((Ext.refl wr).alloc _).alloc _
              have y0 : ((wr.alloc (.cells #[.int .i64 pk, .int .i64 pw, .string ⟨pt.toArray⟩] 38)).alloc (.cells #[.int .i64 1, .int .i64 qw, .string ⟨qt.toArray⟩] 38)).cell? ⟨wr.heap.size, 0, none⟩ = some (.int .i64 pk) := by
                rw [World.cell?_alloc_lt _ _ _ (by simp), World.cell?_alloc_new]; rfl
              have y1 : ((wr.alloc (.cells #[.int .i64 pk, .int .i64 pw, .string ⟨pt.toArray⟩] 38)).alloc (.cells #[.int .i64 1, .int .i64 qw, .string ⟨qt.toArray⟩] 38)).cell? ⟨wr.heap.size, 1, none⟩ = some (.int .i64 pw) := by
                rw [World.cell?_alloc_lt _ _ _ (by simp), World.cell?_alloc_new]; rfl
              have y2 : ((wr.alloc (.cells #[.int .i64 pk, .int .i64 pw, .string ⟨pt.toArray⟩] 38)).alloc (.cells #[.int .i64 1, .int .i64 qw, .string ⟨qt.toArray⟩] 38)).cell? ⟨wr.heap.size + 1, 0, none⟩ = some (.int .i64 1) := by
                simp
              generalize (wr.alloc (.cells #[.int .i64 pk, .int .i64 pw, .string ⟨pt.toArray⟩] 38)).alloc (.cells #[.int .i64 1, .int .i64 qw, .string ⟨qt.toArray⟩] 38) = V at hEp y0 y1 y2 ⊢
              generalize wr.heap.size = Z at y0 y1 y2 ⊢
              clear g0 g1 g2 n0 n1 n2
              go_quiet ((first
                | (go_at_call 44; (with_reducible refine Calls.quiet_of_same (full_q pk _ _ _ HF.out)))
                | (go_at_call 44; (with_reducible refine Calls.quiet_of_same (full_q 1 _ _ _ HG.out)))
                | (go_at_call 45; (refine Calls.quiet_of_same (isDg_z (c.toNat : Int) _ _ _ _ (by rfl) HD.out)))))
              go_wp2_with (first
                | (go_at_call 30; (refine (isLt_z (c.toNat : Int) _ _ _ (by rfl) HL.out).mono ?_); rintro e w1 ⟨rfl, rfl⟩)
                | (go_at_call 45; (refine (isDg_y (c.toNat : Int) _ _ _ (by rfl) HD.out).mono ?_); rintro e w1 ⟨rfl, rfl⟩))
              go_roundw
              case rel => exact ⟨j + 1, by omega, by go_num, HV, hE.trans (hEp.drewN _)⟩
              case measure => simp [intOf]; omega
          · have hF0 : F = 0 := by omega
            subst hF0
            clear hfp hA
            by_cases k1 : pk = 14
            · have t14 : (pk == 14) = true := by simpa using k1
              have t15 : (pk == 15) = false := by rw [k1]; rfl
              have HD : Hid (isDg c = isDg c) := rfl
              by_cases hc : c = 58
              · have HV := Lib.hid (HY.out (by rw [HBd.out]; simp [k1, hc]))
                have e58 : ((c.toNat : Int) == 58) = true := by rw [hc]; rfl
                clear k1 hc
                go_upto_region 12 with fail
                have hEp : Ext wr ((wr.alloc (.cells #[.int .i64 pk, .int .i64 pw, .string ⟨pt.toArray⟩] 38)).alloc (.cells #[.int .i64 1, .int .i64 qw, .string ⟨qt.toArray⟩] 38)) := ((Ext.refl wr).alloc _).alloc _
                have y0 : ((wr.alloc (.cells #[.int .i64 pk, .int .i64 pw, .string ⟨pt.toArray⟩] 38)).alloc (.cells #[.int .i64 1, .int .i64 qw, .string ⟨qt.toArray⟩] 38)).cell? ⟨wr.heap.size, 0, none⟩ = some (.int .i64 pk) := by
                  rw [World.cell?_alloc_lt _ _ _ (by simp), World.cell?_alloc_new]; rfl
                have y1 : ((wr.alloc (.cells #[.int .i64 pk, .int .i64 pw, .string ⟨pt.toArray⟩] 38)).alloc (.cells #[.int .i64 1, .int .i64 qw, .string ⟨qt.toArray⟩] 38)).cell? ⟨wr.heap.size, 1, none⟩ = some (.int .i64 pw) := by
                  rw [World.cell?_alloc_lt _ _ _ (by simp), World.cell?_alloc_new]; rfl
                have y2 : ((wr.alloc (.cells #[.int .i64 pk, .int .i64 pw, .string ⟨pt.toArray⟩] 38)).alloc (.cells #[.int .i64 1, .int .i64 qw, .string ⟨qt.toArray⟩] 38)).cell? ⟨wr.heap.size + 1, 0, none⟩ = some (.int .i64 1) := by
                  simp
                generalize (wr.alloc (.cells #[.int .i64 pk, .int .i64 pw, .string ⟨pt.toArray⟩] 38)).alloc (.cells #[.int .i64 1, .int .i64 qw, .string ⟨qt.toArray⟩] 38) = V at hEp y0 y1 y2 ⊢
                generalize wr.heap.size = Z at y0 y1 y2 ⊢
                clear g0 g1 g2 n0 n1 n2
                go_quiet ((first
                  | (go_at_call 44; (with_reducible refine Calls.quiet_of_same (full_q pk _ _ _ HF.out)))
                  | (go_at_call 44; (with_reducible refine Calls.quiet_of_same (full_q 1 _ _ _ HG.out)))
                  | (go_at_call 45; (refine Calls.quiet_of_same (isDg_z (c.toNat : Int) _ _ _ _ (by rfl) HD.out)))))
                go_wp2_with (first
                  | (go_at_call 30; (refine (isLt_z (c.toNat : Int) _ _ _ (by rfl) HL.out).mono ?_); rintro e w1 ⟨rfl, rfl⟩)
                  | (go_at_call 45; (refine (isDg_y (c.toNat : Int) _ _ _ (by rfl) HD.out).mono ?_); rintro e w1 ⟨rfl, rfl⟩))
                go_ret
                exact ⟨by rw [HV.out]; rfl, HEr.out.trans (hEp.drewN _)⟩
              · have HV := Lib.hid (HN.out (by rw [HBd.out]; simp [k1, hc]))
                have e1 : ¬ c.toNat = 58 := u8_ne (by decide) hc
                have e58 : ((c.toNat : Int) == 58) = false := by rw [beq_eq_false_iff_ne]; omega
                clear k1 hc e1
                go_upto_region 12 with fail
                have hEp : Ext wr ((wr.alloc (.cells #[.int .i64 pk, .int .i64 pw, .string ⟨pt.toArray⟩] 38)).alloc (.cells #[.int .i64 1, .int .i64 qw, .string ⟨qt.toArray⟩] 38)) := ((Ext.refl wr).alloc _).alloc _
                have y0 : ((wr.alloc (.cells #[.int .i64 pk, .int .i64 pw, .string ⟨pt.toArray⟩] 38)).alloc (.cells #[.int .i64 1, .int .i64 qw, .string ⟨qt.toArray⟩] 38)).cell? ⟨wr.heap.size, 0, none⟩ = some (.int .i64 pk) := by
                  rw [World.cell?_alloc_lt _ _ _ (by simp), World.cell?_alloc_new]; rfl
                have y1 : ((wr.alloc (.cells #[.int .i64 pk, .int .i64 pw, .string ⟨pt.toArray⟩] 38)).alloc (.cells #[.int .i64 1, .int .i64 qw, .string ⟨qt.toArray⟩] 38)).cell? ⟨wr.heap.size, 1, none⟩ = some (.int .i64 pw) := by
                  rw [World.cell?_alloc_lt _ _ _ (by simp), World.cell?_alloc_new]; rfl
                have y2 : ((wr.alloc (.cells #[.int .i64 pk, .int .i64 pw, .string ⟨pt.toArray⟩] 38)).alloc (.cells #[.int .i64 1, .int .i64 qw, .string ⟨qt.toArray⟩] 38)).cell? ⟨wr.heap.size + 1, 0, none⟩ = some (.int .i64 1) := by
                  simp
                generalize (wr.alloc (.cells #[.int .i64 pk, .int .i64 pw, .string ⟨pt.toArray⟩] 38)).alloc (.cells #[.int .i64 1, .int .i64 qw, .string ⟨qt.toArray⟩] 38) = V at hEp y0 y1 y2 ⊢
                generalize wr.heap.size = Z at y0 y1 y2 ⊢
                clear g0 g1 g2 n0 n1 n2
                go_quiet ((first
                  | (go_at_call 44; (with_reducible refine Calls.quiet_of_same (full_q pk _ _ _ HF.out)))
                  | (go_at_call 44; (with_reducible refine Calls.quiet_of_same (full_q 1 _ _ _ HG.out)))
                  | (go_at_call 45; (refine Calls.quiet_of_same (isDg_z (c.toNat : Int) _ _ _ _ (by rfl) HD.out)))))
                go_wp2_with (first
                  | (go_at_call 30; (refine (isLt_z (c.toNat : Int) _ _ _ (by rfl) HL.out).mono ?_); rintro e w1 ⟨rfl, rfl⟩)
                  | (go_at_call 45; (refine (isDg_y (c.toNat : Int) _ _ _ (by rfl) HD.out).mono ?_); rintro e w1 ⟨rfl, rfl⟩))
                go_roundw
                case rel => exact ⟨j + 1, by omega, by go_num, HV, hE.trans (hEp.drewN _)⟩
                case measure => simp [intOf]; omega
            · have t14 : (pk == 14) = false := by simpa using k1
              by_cases k2 : pk = 15
              · have t15 : (pk == 15) = true := by simpa using k2
                rcases Bool.eq_false_or_eq_true (isLt c) with hL | hL
                · have HL := Lib.hid hL
                  have HD : Hid (isDg c = isDg c) := rfl
                  have HV := Lib.hid (HY.out (by rw [HBd.out, hL]; simp [k2]))
                  clear hL k1 k2
                  go_upto_region 12 with fail
                  have hEp : Ext wr ((wr.alloc (.cells #[.int .i64 pk, .int .i64 pw, .string ⟨pt.toArray⟩] 38)).alloc (.cells #[.int .i64 1, .int .i64 qw, .string ⟨qt.toArray⟩] 38)) := ((Ext.refl wr).alloc _).alloc _
                  have y0 : ((wr.alloc (.cells #[.int .i64 pk, .int .i64 pw, .string ⟨pt.toArray⟩] 38)).alloc (.cells #[.int .i64 1, .int .i64 qw, .string ⟨qt.toArray⟩] 38)).cell? ⟨wr.heap.size, 0, none⟩ = some (.int .i64 pk) := by
                    rw [World.cell?_alloc_lt _ _ _ (by simp), World.cell?_alloc_new]; rfl
                  have y1 : ((wr.alloc (.cells #[.int .i64 pk, .int .i64 pw, .string ⟨pt.toArray⟩] 38)).alloc (.cells #[.int .i64 1, .int .i64 qw, .string ⟨qt.toArray⟩] 38)).cell? ⟨wr.heap.size, 1, none⟩ = some (.int .i64 pw) := by
                    rw [World.cell?_alloc_lt _ _ _ (by simp), World.cell?_alloc_new]; rfl
                  have y2 : ((wr.alloc (.cells #[.int .i64 pk, .int .i64 pw, .string ⟨pt.toArray⟩] 38)).alloc (.cells #[.int .i64 1, .int .i64 qw, .string ⟨qt.toArray⟩] 38)).cell? ⟨wr.heap.size + 1, 0, none⟩ = some (.int .i64 1) := by
                    simp
                  generalize (wr.alloc (.cells #[.int .i64 pk, .int .i64 pw, .string ⟨pt.toArray⟩] 38)).alloc (.cells #[.int .i64 1, .int .i64 qw, .string ⟨qt.toArray⟩] 38) = V at hEp y0 y1 y2 ⊢
                  generalize wr.heap.size = Z at y0 y1 y2 ⊢
                  clear g0 g1 g2 n0 n1 n2
                  go_quiet ((first
                    | (go_at_call 44; (with_reducible refine Calls.quiet_of_same (full_q pk _ _ _ HF.out)))
                    | (go_at_call 44; (with_reducible refine Calls.quiet_of_same (full_q 1 _ _ _ HG.out)))
                    | (go_at_call 45; (refine Calls.quiet_of_same (isDg_z (c.toNat : Int) _ _ _ _ (by rfl) HD.out)))))
                  go_wp2_with (first
                    | (go_at_call 30; (refine (isLt_z (c.toNat : Int) _ _ _ (by rfl) HL.out).mono ?_); rintro e w1 ⟨rfl, rfl⟩)
                    | (go_at_call 45; (refine (isDg_y (c.toNat : Int) _ _ _ (by rfl) HD.out).mono ?_); rintro e w1 ⟨rfl, rfl⟩))
                  go_ret
                  exact ⟨by rw [HV.out]; rfl, HEr.out.trans (hEp.drewN _)⟩
                · have HL := Lib.hid hL
                  rcases Bool.eq_false_or_eq_true (isDg c) with hd | hd
                  · have HD := Lib.hid hd
                    have HV := Lib.hid (HY.out (by rw [HBd.out, hd]; simp [k2]))
                    clear hL hd k1 k2
                    go_upto_region 12 with fail
                    have hEp : Ext wr ((wr.alloc (.cells #[.int .i64 pk, .int .i64 pw, .string ⟨pt.toArray⟩] 38)).alloc (.cells #[.int .i64 1, .int .i64 qw, .string ⟨qt.toArray⟩] 38)) := ((Ext.refl wr).alloc _).alloc _
                    have y0 : ((wr.alloc (.cells #[.int .i64 pk, .int .i64 pw, .string ⟨pt.toArray⟩] 38)).alloc (.cells #[.int .i64 1, .int .i64 qw, .string ⟨qt.toArray⟩] 38)).cell? ⟨wr.heap.size, 0, none⟩ = some (.int .i64 pk) := by
                      rw [World.cell?_alloc_lt _ _ _ (by simp), World.cell?_alloc_new]; rfl
                    have y1 : ((wr.alloc (.cells #[.int .i64 pk, .int .i64 pw, .string ⟨pt.toArray⟩] 38)).alloc (.cells #[.int .i64 1, .int .i64 qw, .string ⟨qt.toArray⟩] 38)).cell? ⟨wr.heap.size, 1, none⟩ = some (.int .i64 pw) := by
                      rw [World.cell?_alloc_lt _ _ _ (by simp), World.cell?_alloc_new]; rfl
                    have y2 : ((wr.alloc (.cells #[.int .i64 pk, .int .i64 pw, .string ⟨pt.toArray⟩] 38)).alloc (.cells #[.int .i64 1, .int .i64 qw, .string ⟨qt.toArray⟩] 38)).cell? ⟨wr.heap.size + 1, 0, none⟩ = some (.int .i64 1) := by
                      simp
                    generalize (wr.alloc (.cells #[.int .i64 pk, .int .i64 pw, .string ⟨pt.toArray⟩] 38)).alloc (.cells #[.int .i64 1, .int .i64 qw, .string ⟨qt.toArray⟩] 38) = V at hEp y0 y1 y2 ⊢
                    generalize wr.heap.size = Z at y0 y1 y2 ⊢
                    clear g0 g1 g2 n0 n1 n2
                    go_quiet ((first
                      | (go_at_call 44; (with_reducible refine Calls.quiet_of_same (full_q pk _ _ _ HF.out)))
                      | (go_at_call 44; (with_reducible refine Calls.quiet_of_same (full_q 1 _ _ _ HG.out)))
                      | (go_at_call 45; (refine Calls.quiet_of_same (isDg_z (c.toNat : Int) _ _ _ _ (by rfl) HD.out)))))
                    go_wp2_with (first
                      | (go_at_call 30; (refine (isLt_z (c.toNat : Int) _ _ _ (by rfl) HL.out).mono ?_); rintro e w1 ⟨rfl, rfl⟩)
                      | (go_at_call 45; (refine (isDg_y (c.toNat : Int) _ _ _ (by rfl) HD.out).mono ?_); rintro e w1 ⟨rfl, rfl⟩))
                    go_ret
                    exact ⟨by rw [HV.out]; rfl, HEr.out.trans (hEp.drewN _)⟩
                  · have HD := Lib.hid hd
                    by_cases c43 : c = 43
                    · have HV := Lib.hid (HY.out (by rw [HBd.out]; simp [k2, c43]))
                      have e43 : ((c.toNat : Int) == 43) = true := by rw [c43]; rfl
                      clear hL hd k1 k2 c43
                      go_upto_region 12 with fail
                      have hEp : Ext wr ((wr.alloc (.cells #[.int .i64 pk, .int .i64 pw, .string ⟨pt.toArray⟩] 38)).alloc (.cells #[.int .i64 1, .int .i64 qw, .string ⟨qt.toArray⟩] 38)) := ((Ext.refl wr).alloc _).alloc _
                      have y0 : ((wr.alloc (.cells #[.int .i64 pk, .int .i64 pw, .string ⟨pt.toArray⟩] 38)).alloc (.cells #[.int .i64 1, .int .i64 qw, .string ⟨qt.toArray⟩] 38)).cell? ⟨wr.heap.size, 0, none⟩ = some (.int .i64 pk) := by
                        rw [World.cell?_alloc_lt _ _ _ (by simp), World.cell?_alloc_new]; rfl
                      have y1 : ((wr.alloc (.cells #[.int .i64 pk, .int .i64 pw, .string ⟨pt.toArray⟩] 38)).alloc (.cells #[.int .i64 1, .int .i64 qw, .string ⟨qt.toArray⟩] 38)).cell? ⟨wr.heap.size, 1, none⟩ = some (.int .i64 pw) := by
                        rw [World.cell?_alloc_lt _ _ _ (by simp), World.cell?_alloc_new]; rfl
                      have y2 : ((wr.alloc (.cells #[.int .i64 pk, .int .i64 pw, .string ⟨pt.toArray⟩] 38)).alloc (.cells #[.int .i64 1, .int .i64 qw, .string ⟨qt.toArray⟩] 38)).cell? ⟨wr.heap.size + 1, 0, none⟩ = some (.int .i64 1) := by
                        simp
                      generalize (wr.alloc (.cells #[.int .i64 pk, .int .i64 pw, .string ⟨pt.toArray⟩] 38)).alloc (.cells #[.int .i64 1, .int .i64 qw, .string ⟨qt.toArray⟩] 38) = V at hEp y0 y1 y2 ⊢
                      generalize wr.heap.size = Z at y0 y1 y2 ⊢
                      clear g0 g1 g2 n0 n1 n2
                      go_quiet ((first
                        | (go_at_call 44; (with_reducible refine Calls.quiet_of_same (full_q pk _ _ _ HF.out)))
                        | (go_at_call 44; (with_reducible refine Calls.quiet_of_same (full_q 1 _ _ _ HG.out)))
                        | (go_at_call 45; (refine Calls.quiet_of_same (isDg_z (c.toNat : Int) _ _ _ _ (by rfl) HD.out)))))
                      go_wp2_with (first
                        | (go_at_call 30; (refine (isLt_z (c.toNat : Int) _ _ _ (by rfl) HL.out).mono ?_); rintro e w1 ⟨rfl, rfl⟩)
                        | (go_at_call 45; (refine (isDg_y (c.toNat : Int) _ _ _ (by rfl) HD.out).mono ?_); rintro e w1 ⟨rfl, rfl⟩))
                      go_ret
                      exact ⟨by rw [HV.out]; rfl, HEr.out.trans (hEp.drewN _)⟩
                    · have e1 : ¬ c.toNat = 43 := u8_ne (by decide) c43
                      have e43 : ((c.toNat : Int) == 43) = false := by rw [beq_eq_false_iff_ne]; omega
                      by_cases c45 : c = 45
                      · have HV := Lib.hid (HY.out (by rw [HBd.out]; simp [k2, c45]))
                        have e45 : ((c.toNat : Int) == 45) = true := by rw [c45]; rfl
                        clear hL hd k1 k2 c43 c45 e1
                        go_upto_region 12 with fail
                        have hEp : Ext wr ((wr.alloc (.cells #[.int .i64 pk, .int .i64 pw, .string ⟨pt.toArray⟩] 38)).alloc (.cells #[.int .i64 1, .int .i64 qw, .string ⟨qt.toArray⟩] 38)) := ((Ext.refl wr).alloc _).alloc _
                        have y0 : ((wr.alloc (.cells #[.int .i64 pk, .int .i64 pw, .string ⟨pt.toArray⟩] 38)).alloc (.cells #[.int .i64 1, .int .i64 qw, .string ⟨qt.toArray⟩] 38)).cell? ⟨wr.heap.size, 0, none⟩ = some (.int .i64 pk) := by
                          rw [World.cell?_alloc_lt _ _ _ (by simp), World.cell?_alloc_new]; rfl
                        have y1 : ((wr.alloc (.cells #[.int .i64 pk, .int .i64 pw, .string ⟨pt.toArray⟩] 38)).alloc (.cells #[.int .i64 1, .int .i64 qw, .string ⟨qt.toArray⟩] 38)).cell? ⟨wr.heap.size, 1, none⟩ = some (.int .i64 pw) := by
                          rw [World.cell?_alloc_lt _ _ _ (by simp), World.cell?_alloc_new]; rfl
                        have y2 : ((wr.alloc (.cells #[.int .i64 pk, .int .i64 pw, .string ⟨pt.toArray⟩] 38)).alloc (.cells #[.int .i64 1, .int .i64 qw, .string ⟨qt.toArray⟩] 38)).cell? ⟨wr.heap.size + 1, 0, none⟩ = some (.int .i64 1) := by
                          simp
                        generalize (wr.alloc (.cells #[.int .i64 pk, .int .i64 pw, .string ⟨pt.toArray⟩] 38)).alloc (.cells #[.int .i64 1, .int .i64 qw, .string ⟨qt.toArray⟩] 38) = V at hEp y0 y1 y2 ⊢
                        generalize wr.heap.size = Z at y0 y1 y2 ⊢
                        clear g0 g1 g2 n0 n1 n2
                        go_quiet ((first
                          | (go_at_call 44; (with_reducible refine Calls.quiet_of_same (full_q pk _ _ _ HF.out)))
                          | (go_at_call 44; (with_reducible refine Calls.quiet_of_same (full_q 1 _ _ _ HG.out)))
                          | (go_at_call 45; (refine Calls.quiet_of_same (isDg_z (c.toNat : Int) _ _ _ _ (by rfl) HD.out)))))
                        go_wp2_with (first
                          | (go_at_call 30; (refine (isLt_z (c.toNat : Int) _ _ _ (by rfl) HL.out).mono ?_); rintro e w1 ⟨rfl, rfl⟩)
                          | (go_at_call 45; (refine (isDg_y (c.toNat : Int) _ _ _ (by rfl) HD.out).mono ?_); rintro e w1 ⟨rfl, rfl⟩))
                        go_ret
                        exact ⟨by rw [HV.out]; rfl, HEr.out.trans (hEp.drewN _)⟩
                      · have HV := Lib.hid (HN.out (by rw [HBd.out, hL, hd]; simp [k1, c43, c45]))
                        have e2 : ¬ c.toNat = 45 := u8_ne (by decide) c45
                        have e45 : ((c.toNat : Int) == 45) = false := by rw [beq_eq_false_iff_ne]; omega
                        clear hL hd k1 k2 c43 c45 e1 e2
                        go_upto_region 12 with fail
                        have hEp : Ext wr ((wr.alloc (.cells #[.int .i64 pk, .int .i64 pw, .string ⟨pt.toArray⟩] 38)).alloc (.cells #[.int .i64 1, .int .i64 qw, .string ⟨qt.toArray⟩] 38)) := ((Ext.refl wr).alloc _).alloc _
                        have y0 : ((wr.alloc (.cells #[.int .i64 pk, .int .i64 pw, .string ⟨pt.toArray⟩] 38)).alloc (.cells #[.int .i64 1, .int .i64 qw, .string ⟨qt.toArray⟩] 38)).cell? ⟨wr.heap.size, 0, none⟩ = some (.int .i64 pk) := by
                          rw [World.cell?_alloc_lt _ _ _ (by simp), World.cell?_alloc_new]; rfl
                        have y1 : ((wr.alloc (.cells #[.int .i64 pk, .int .i64 pw, .string ⟨pt.toArray⟩] 38)).alloc (.cells #[.int .i64 1, .int .i64 qw, .string ⟨qt.toArray⟩] 38)).cell? ⟨wr.heap.size, 1, none⟩ = some (.int .i64 pw) := by
                          rw [World.cell?_alloc_lt _ _ _ (by simp), World.cell?_alloc_new]; rfl
                        have y2 : ((wr.alloc (.cells #[.int .i64 pk, .int .i64 pw, .string ⟨pt.toArray⟩] 38)).alloc (.cells #[.int .i64 1, .int .i64 qw, .string ⟨qt.toArray⟩] 38)).cell? ⟨wr.heap.size + 1, 0, none⟩ = some (.int .i64 1) := by
                          simp
                        generalize (wr.alloc (.cells #[.int .i64 pk, .int .i64 pw, .string ⟨pt.toArray⟩] 38)).alloc (.cells #[.int .i64 1, .int .i64 qw, .string ⟨qt.toArray⟩] 38) = V at hEp y0 y1 y2 ⊢
                        generalize wr.heap.size = Z at y0 y1 y2 ⊢
                        clear g0 g1 g2 n0 n1 n2
                        go_quiet ((first
                          | (go_at_call 44; (with_reducible refine Calls.quiet_of_same (full_q pk _ _ _ HF.out)))
                          | (go_at_call 44; (with_reducible refine Calls.quiet_of_same (full_q 1 _ _ _ HG.out)))
                          | (go_at_call 45; (refine Calls.quiet_of_same (isDg_z (c.toNat : Int) _ _ _ _ (by rfl) HD.out)))))
                        go_wp2_with (first
                          | (go_at_call 30; (refine (isLt_z (c.toNat : Int) _ _ _ (by rfl) HL.out).mono ?_); rintro e w1 ⟨rfl, rfl⟩)
                          | (go_at_call 45; (refine (isDg_y (c.toNat : Int) _ _ _ (by rfl) HD.out).mono ?_); rintro e w1 ⟨rfl, rfl⟩))
                        go_roundw
                        case rel => exact ⟨j + 1, by omega, by go_num, HV, hE.trans (hEp.drewN _)⟩
                        case measure => simp [intOf]; omega
              · have t15 : (pk == 15) = false := by simpa using k2
                have HD : Hid (isDg c = isDg c) := rfl
                have HV := Lib.hid (HN.out (by rw [HBd.out]; simp [k1, k2]))
                clear k1 k2
                go_upto_region 12 with fail
                have hEp : Ext wr ((wr.alloc (.cells #[.int .i64 pk, .int .i64 pw, .string ⟨pt.toArray⟩] 38)).alloc (.cells #[.int .i64 1, .int .i64 qw, .string ⟨qt.toArray⟩] 38)) := ((Ext.refl wr).alloc _).alloc _
                have y0 : ((wr.alloc (.cells #[.int .i64 pk, .int .i64 pw, .string ⟨pt.toArray⟩] 38)).alloc (.cells #[.int .i64 1, .int .i64 qw, .string ⟨qt.toArray⟩] 38)).cell? ⟨wr.heap.size, 0, none⟩ = some (.int .i64 pk) := by
                  rw [World.cell?_alloc_lt _ _ _ (by simp), World.cell?_alloc_new]; rfl
                have y1 : ((wr.alloc (.cells #[.int .i64 pk, .int .i64 pw, .string ⟨pt.toArray⟩] 38)).alloc (.cells #[.int .i64 1, .int .i64 qw, .string ⟨qt.toArray⟩] 38)).cell? ⟨wr.heap.size, 1, none⟩ = some (.int .i64 pw) := by
                  rw [World.cell?_alloc_lt _ _ _ (by simp), World.cell?_alloc_new]; rfl
                have y2 : ((wr.alloc (.cells #[.int .i64 pk, .int .i64 pw, .string ⟨pt.toArray⟩] 38)).alloc (.cells #[.int .i64 1, .int .i64 qw, .string ⟨qt.toArray⟩] 38)).cell? ⟨wr.heap.size + 1, 0, none⟩ = some (.int .i64 1) := by
                  simp
                generalize (wr.alloc (.cells #[.int .i64 pk, .int .i64 pw, .string ⟨pt.toArray⟩] 38)).alloc (.cells #[.int .i64 1, .int .i64 qw, .string ⟨qt.toArray⟩] 38) = V at hEp y0 y1 y2 ⊢
                generalize wr.heap.size = Z at y0 y1 y2 ⊢
                clear g0 g1 g2 n0 n1 n2
                go_quiet ((first
                  | (go_at_call 44; (with_reducible refine Calls.quiet_of_same (full_q pk _ _ _ HF.out)))
                  | (go_at_call 44; (with_reducible refine Calls.quiet_of_same (full_q 1 _ _ _ HG.out)))
                  | (go_at_call 45; (refine Calls.quiet_of_same (isDg_z (c.toNat : Int) _ _ _ _ (by rfl) HD.out)))))
                go_wp2_with (first
                  | (go_at_call 30; (refine (isLt_z (c.toNat : Int) _ _ _ (by rfl) HL.out).mono ?_); rintro e w1 ⟨rfl, rfl⟩)
                  | (go_at_call 45; (refine (isDg_y (c.toNat : Int) _ _ _ (by rfl) HD.out).mono ?_); rintro e w1 ⟨rfl, rfl⟩))
                go_roundw
                case rel => exact ⟨j + 1, by omega, by go_num, HV, hE.trans (hEp.drewN _)⟩
                case measure => simp [intOf]; omega
        · have hfs : fstB ⟨qk, qw, qt⟩ = 0 := by unfold fstB; rw [if_neg hq1]
          rw [hfs] at HBd
          have tq1 : (qk == 1) = false := by simpa using hq1
          have tq2 : (qk != 1) = true := by simpa using hq1
          have HD : Hid (isDg (0 : UInt8) = false) := (by decide : isDg (0 : UInt8) = false)
          have HL : Hid (isLt (0 : UInt8) = false) := (by decide : isLt (0 : UInt8) = false)
          clear hfs hq hF hG
          by_cases hA : 0 < F
          · obtain ⟨k1, k2⟩ := hfp hA
            have t14 : (pk == 14) = false := by simpa using k1
            have t15 : (pk == 15) = false := by simpa using k2
            by_cases hB : pw < F
            · by_cases hC : 0 < G
              · have HV := Lib.hid (HY.out (by rw [HBd.out]; simp [hA, hB, hC]))
                clear k1 k2 hfp hq1
                go_upto_region 12 with fail
                have hEp : Ext wr ((wr.alloc (.cells #[.int .i64 pk, .int .i64 pw, .string ⟨pt.toArray⟩] 38)).alloc (.cells #[.int .i64 qk, .int .i64 qw, .string ⟨qt.toArray⟩] 38)) := ((Ext.refl wr).alloc _).alloc _
                have y0 : ((wr.alloc (.cells #[.int .i64 pk, .int .i64 pw, .string ⟨pt.toArray⟩] 38)).alloc (.cells #[.int .i64 qk, .int .i64 qw, .string ⟨qt.toArray⟩] 38)).cell? ⟨wr.heap.size, 0, none⟩ = some (.int .i64 pk) := by
                  rw [World.cell?_alloc_lt _ _ _ (by simp), World.cell?_alloc_new]; rfl
                have y1 : ((wr.alloc (.cells #[.int .i64 pk, .int .i64 pw, .string ⟨pt.toArray⟩] 38)).alloc (.cells #[.int .i64 qk, .int .i64 qw, .string ⟨qt.toArray⟩] 38)).cell? ⟨wr.heap.size, 1, none⟩ = some (.int .i64 pw) := by
                  rw [World.cell?_alloc_lt _ _ _ (by simp), World.cell?_alloc_new]; rfl
                have y2 : ((wr.alloc (.cells #[.int .i64 pk, .int .i64 pw, .string ⟨pt.toArray⟩] 38)).alloc (.cells #[.int .i64 qk, .int .i64 qw, .string ⟨qt.toArray⟩] 38)).cell? ⟨wr.heap.size + 1, 0, none⟩ = some (.int .i64 qk) := by
                  simp
                generalize (wr.alloc (.cells #[.int .i64 pk, .int .i64 pw, .string ⟨pt.toArray⟩] 38)).alloc (.cells #[.int .i64 qk, .int .i64 qw, .string ⟨qt.toArray⟩] 38) = V at hEp y0 y1 y2 ⊢
                generalize wr.heap.size = Z at y0 y1 y2 ⊢
                clear g0 g1 g2 n0 n1 n2
                go_quiet ((first
                  | (go_at_call 44; (with_reducible refine Calls.quiet_of_same (full_q pk _ _ _ HF.out)))
                  | (go_at_call 44; (with_reducible refine Calls.quiet_of_same (full_q qk _ _ _ HG.out)))
                  | (go_at_call 45; (refine Calls.quiet_of_same (isDg_z 0 _ _ _ _ (by rfl) HD.out)))))
                go_wp2_with (first
                  | (go_at_call 30; (refine (isLt_z 0 _ _ _ (by rfl) HL.out).mono ?_); rintro e w1 ⟨rfl, rfl⟩)
                  | (go_at_call 45; (refine (isDg_y 0 _ _ _ (by rfl) HD.out).mono ?_); rintro e w1 ⟨rfl, rfl⟩))
                go_ret
                exact ⟨by rw [HV.out]; rfl, HEr.out.trans (hEp.drewN _)⟩
              · have hG0 : G = 0 := by omega
                subst hG0
                by_cases hD' : qk = 15
                · have HV := Lib.hid (HY.out (by rw [HBd.out]; simp [hA, hB, hD']))
                  have tq5 : (qk == 15) = true := by simpa using hD'
                  clear k1 k2 hfp hq1 hD' hC
                  go_upto_region 12 with fail
                  have hEp : Ext wr ((wr.alloc (.cells #[.int .i64 pk, .int .i64 pw, .string ⟨pt.toArray⟩] 38)).alloc (.cells #[.int .i64 qk, .int .i64 qw, .string ⟨qt.toArray⟩] 38)) := ((Ext.refl wr).alloc _).alloc _
                  have y0 : ((wr.alloc (.cells #[.int .i64 pk, .int .i64 pw, .string ⟨pt.toArray⟩] 38)).alloc (.cells #[.int .i64 qk, .int .i64 qw, .string ⟨qt.toArray⟩] 38)).cell? ⟨wr.heap.size, 0, none⟩ = some (.int .i64 pk) := by
                    rw [World.cell?_alloc_lt _ _ _ (by simp), World.cell?_alloc_new]; rfl
                  have y1 : ((wr.alloc (.cells #[.int .i64 pk, .int .i64 pw, .string ⟨pt.toArray⟩] 38)).alloc (.cells #[.int .i64 qk, .int .i64 qw, .string ⟨qt.toArray⟩] 38)).cell? ⟨wr.heap.size, 1, none⟩ = some (.int .i64 pw) := by
                    rw [World.cell?_alloc_lt _ _ _ (by simp), World.cell?_alloc_new]; rfl
                  have y2 : ((wr.alloc (.cells #[.int .i64 pk, .int .i64 pw, .string ⟨pt.toArray⟩] 38)).alloc (.cells #[.int .i64 qk, .int .i64 qw, .string ⟨qt.toArray⟩] 38)).cell? ⟨wr.heap.size + 1, 0, none⟩ = some (.int .i64 qk) := by
                    simp
                  generalize (wr.alloc (.cells #[.int .i64 pk, .int .i64 pw, .string ⟨pt.toArray⟩] 38)).alloc (.cells #[.int .i64 qk, .int .i64 qw, .string ⟨qt.toArray⟩] 38) = V at hEp y0 y1 y2 ⊢
                  generalize wr.heap.size = Z at y0 y1 y2 ⊢
                  clear g0 g1 g2 n0 n1 n2
                  go_quiet ((first
                    | (go_at_call 44; (with_reducible refine Calls.quiet_of_same (full_q pk _ _ _ HF.out)))
                    | (go_at_call 44; (with_reducible refine Calls.quiet_of_same (full_q qk _ _ _ HG.out)))
                    | (go_at_call 45; (refine Calls.quiet_of_same (isDg_z 0 _ _ _ _ (by rfl) HD.out)))))
                  go_wp2_with (first
                    | (go_at_call 30; (refine (isLt_z 0 _ _ _ (by rfl) HL.out).mono ?_); rintro e w1 ⟨rfl, rfl⟩)
                    | (go_at_call 45; (refine (isDg_y 0 _ _ _ (by rfl) HD.out).mono ?_); rintro e w1 ⟨rfl, rfl⟩))
                  go_ret
                  exact ⟨by rw [HV.out]; rfl, HEr.out.trans (hEp.drewN _)⟩
                · have HV := Lib.hid (HN.out (by rw [HBd.out, HD.out]; simp [k1, k2, hD']))
                  have tq5 : (qk == 15) = false := by simpa using hD'
                  clear k1 k2 hfp hq1 hD' hC
                  go_upto_region 12 with fail
                  have hEp : Ext wr ((wr.alloc (.cells #[.int .i64 pk, .int .i64 pw, .string ⟨pt.toArray⟩] 38)).alloc (.cells #[.int .i64 qk, .int .i64 qw, .string ⟨qt.toArray⟩] 38)) := ((Ext.refl wr).alloc _).alloc _
                  have y0 : ((wr.alloc (.cells #[.int .i64 pk, .int .i64 pw, .string ⟨pt.toArray⟩] 38)).alloc (.cells #[.int .i64 qk, .int .i64 qw, .string ⟨qt.toArray⟩] 38)).cell? ⟨wr.heap.size, 0, none⟩ = some (.int .i64 pk) := by
                    rw [World.cell?_alloc_lt _ _ _ (by simp), World.cell?_alloc_new]; rfl
                  have y1 : ((wr.alloc (.cells #[.int .i64 pk, .int .i64 pw, .string ⟨pt.toArray⟩] 38)).alloc (.cells #[.int .i64 qk, .int .i64 qw, .string ⟨qt.toArray⟩] 38)).cell? ⟨wr.heap.size, 1, none⟩ = some (.int .i64 pw) := by
                    rw [World.cell?_alloc_lt _ _ _ (by simp), World.cell?_alloc_new]; rfl
                  have y2 : ((wr.alloc (.cells #[.int .i64 pk, .int .i64 pw, .string ⟨pt.toArray⟩] 38)).alloc (.cells #[.int .i64 qk, .int .i64 qw, .string ⟨qt.toArray⟩] 38)).cell? ⟨wr.heap.size + 1, 0, none⟩ = some (.int .i64 qk) := by
                    simp
                  generalize (wr.alloc (.cells #[.int .i64 pk, .int .i64 pw, .string ⟨pt.toArray⟩] 38)).alloc (.cells #[.int .i64 qk, .int .i64 qw, .string ⟨qt.toArray⟩] 38) = V at hEp y0 y1 y2 ⊢
                  generalize wr.heap.size = Z at y0 y1 y2 ⊢
                  clear g0 g1 g2 n0 n1 n2
                  go_quiet ((first
                    | (go_at_call 44; (with_reducible refine Calls.quiet_of_same (full_q pk _ _ _ HF.out)))
                    | (go_at_call 44; (with_reducible refine Calls.quiet_of_same (full_q qk _ _ _ HG.out)))
                    | (go_at_call 45; (refine Calls.quiet_of_same (isDg_z 0 _ _ _ _ (by rfl) HD.out)))))
                  go_wp2_with (first
                    | (go_at_call 30; (refine (isLt_z 0 _ _ _ (by rfl) HL.out).mono ?_); rintro e w1 ⟨rfl, rfl⟩)
                    | (go_at_call 45; (refine (isDg_y 0 _ _ _ (by rfl) HD.out).mono ?_); rintro e w1 ⟨rfl, rfl⟩))
                  go_roundw
                  case rel => exact ⟨j + 1, by omega, by go_num, HV, hE.trans (hEp.drewN _)⟩
                  case measure => simp [intOf]; omega
            · have HV := Lib.hid (HN.out (by rw [HBd.out]; simp [hB, k1, k2]))
              clear k1 k2 hfp hq1
              go_upto_region 12 with fail
              have hEp : Ext wr ((wr.alloc (.cells #[.int .i64 pk, .int .i64 pw, .string ⟨pt.toArray⟩] 38)).alloc (.cells #[.int .i64 qk, .int .i64 qw, .string ⟨qt.toArray⟩] 38)) := ((Ext.refl wr).alloc _).alloc _
              have y0 : ((wr.alloc (.cells #[.int .i64 pk, .int .i64 pw, .string ⟨pt.toArray⟩] 38)).alloc (.cells #[.int .i64 qk, .int .i64 qw, .string ⟨qt.toArray⟩] 38)).cell? ⟨wr.heap.size, 0, none⟩ = some (.int .i64 pk) := by
                rw [World.cell?_alloc_lt _ _ _ (by simp), World.cell?_alloc_new]; rfl
              have y1 : ((wr.alloc (.cells #[.int .i64 pk, .int .i64 pw, .string ⟨pt.toArray⟩] 38)).alloc (.cells #[.int .i64 qk, .int .i64 qw, .string ⟨qt.toArray⟩] 38)).cell? ⟨wr.heap.size, 1, none⟩ = some (.int .i64 pw) := by
                rw [World.cell?_alloc_lt _ _ _ (by simp), World.cell?_alloc_new]; rfl
              have y2 : ((wr.alloc (.cells #[.int .i64 pk, .int .i64 pw, .string ⟨pt.toArray⟩] 38)).alloc (.cells #[.int .i64 qk, .int .i64 qw, .string ⟨qt.toArray⟩] 38)).cell? ⟨wr.heap.size + 1, 0, none⟩ = some (.int .i64 qk) := by
                simp
              generalize (wr.alloc (.cells #[.int .i64 pk, .int .i64 pw, .string ⟨pt.toArray⟩] 38)).alloc (.cells #[.int .i64 qk, .int .i64 qw, .string ⟨qt.toArray⟩] 38) = V at hEp y0 y1 y2 ⊢
              generalize wr.heap.size = Z at y0 y1 y2 ⊢
              clear g0 g1 g2 n0 n1 n2
              go_quiet ((first
                | (go_at_call 44; (with_reducible refine Calls.quiet_of_same (full_q pk _ _ _ HF.out)))
                | (go_at_call 44; (with_reducible refine Calls.quiet_of_same (full_q qk _ _ _ HG.out)))
                | (go_at_call 45; (refine Calls.quiet_of_same (isDg_z 0 _ _ _ _ (by rfl) HD.out)))))
              go_wp2_with (first
                | (go_at_call 30; (refine (isLt_z 0 _ _ _ (by rfl) HL.out).mono ?_); rintro e w1 ⟨rfl, rfl⟩)
                | (go_at_call 45; (refine (isDg_y 0 _ _ _ (by rfl) HD.out).mono ?_); rintro e w1 ⟨rfl, rfl⟩))
              go_roundw
              case rel => exact ⟨j + 1, by omega, by go_num, HV, hE.trans (hEp.drewN _)⟩
              case measure => simp [intOf]; omega
          · have hF0 : F = 0 := by omega
            subst hF0
            clear hfp hA
            by_cases k2 : pk = 15
            · have t14 : (pk == 14) = false := by rw [k2]; rfl
              have t15 : (pk == 15) = true := by simpa using k2
              have HV := Lib.hid (HY.out (by rw [HBd.out]; simp [k2, hq1]))
              clear k2 hq1
              go_upto_region 12 with fail
              have hEp : Ext wr ((wr.alloc (.cells #[.int .i64 pk, .int .i64 pw, .string ⟨pt.toArray⟩] 38)).alloc (.cells #[.int .i64 qk, .int .i64 qw, .string ⟨qt.toArray⟩] 38)) := ((Ext.refl wr).alloc _).alloc _
              have y0 : ((wr.alloc (.cells #[.int .i64 pk, .int .i64 pw, .string ⟨pt.toArray⟩] 38)).alloc (.cells #[.int .i64 qk, .int .i64 qw, .string ⟨qt.toArray⟩] 38)).cell? ⟨wr.heap.size, 0, none⟩ = some (.int .i64 pk) := by
                rw [World.cell?_alloc_lt _ _ _ (by simp), World.cell?_alloc_new]; rfl
              have y1 : ((wr.alloc (.cells #[.int .i64 pk, .int .i64 pw, .string ⟨pt.toArray⟩] 38)).alloc (.cells #[.int .i64 qk, .int .i64 qw, .string ⟨qt.toArray⟩] 38)).cell? ⟨wr.heap.size, 1, none⟩ = some (.int .i64 pw) := by
                rw [World.cell?_alloc_lt _ _ _ (by simp), World.cell?_alloc_new]; rfl
              have y2 : ((wr.alloc (.cells #[.int .i64 pk, .int .i64 pw, .string ⟨pt.toArray⟩] 38)).alloc (.cells #[.int .i64 qk, .int .i64 qw, .string ⟨qt.toArray⟩] 38)).cell? ⟨wr.heap.size + 1, 0, none⟩ = some (.int .i64 qk) := by
                simp
              generalize (wr.alloc (.cells #[.int .i64 pk, .int .i64 pw, .string ⟨pt.toArray⟩] 38)).alloc (.cells #[.int .i64 qk, .int .i64 qw, .string ⟨qt.toArray⟩] 38) = V at hEp y0 y1 y2 ⊢
              generalize wr.heap.size = Z at y0 y1 y2 ⊢
              clear g0 g1 g2 n0 n1 n2
              go_quiet ((first
                | (go_at_call 44; (with_reducible refine Calls.quiet_of_same (full_q pk _ _ _ HF.out)))
                | (go_at_call 44; (with_reducible refine Calls.quiet_of_same (full_q qk _ _ _ HG.out)))
                | (go_at_call 45; (refine Calls.quiet_of_same (isDg_z 0 _ _ _ _ (by rfl) HD.out)))))
              go_wp2_with (first
                | (go_at_call 30; (refine (isLt_z 0 _ _ _ (by rfl) HL.out).mono ?_); rintro e w1 ⟨rfl, rfl⟩)
                | (go_at_call 45; (refine (isDg_y 0 _ _ _ (by rfl) HD.out).mono ?_); rintro e w1 ⟨rfl, rfl⟩))
              go_ret
              exact ⟨by rw [HV.out]; rfl, HEr.out.trans (hEp.drewN _)⟩
            · have t15 : (pk == 15) = false := by simpa using k2
              have HV := Lib.hid (HN.out (by rw [HBd.out]; simp [k2]))
              by_cases k1 : pk = 14
              · have t14 : (pk == 14) = true := by simpa using k1
                clear k1 k2 hq1
                go_upto_region 12 with fail
                have hEp : Ext wr ((wr.alloc (.cells #[.int .i64 pk, .int .i64 pw, .string ⟨pt.toArray⟩] 38)).alloc (.cells #[.int .i64 qk, .int .i64 qw, .string ⟨qt.toArray⟩] 38)) := ((Ext.refl wr).alloc _).alloc _
                have y0 : ((wr.alloc (.cells #[.int .i64 pk, .int .i64 pw, .string ⟨pt.toArray⟩] 38)).alloc (.cells #[.int .i64 qk, .int .i64 qw, .string ⟨qt.toArray⟩] 38)).cell? ⟨wr.heap.size, 0, none⟩ = some (.int .i64 pk) := by
                  rw [World.cell?_alloc_lt _ _ _ (by simp), World.cell?_alloc_new]; rfl
                have y1 : ((wr.alloc (.cells #[.int .i64 pk, .int .i64 pw, .string ⟨pt.toArray⟩] 38)).alloc (.cells #[.int .i64 qk, .int .i64 qw, .string ⟨qt.toArray⟩] 38)).cell? ⟨wr.heap.size, 1, none⟩ = some (.int .i64 pw) := by
                  rw [World.cell?_alloc_lt _ _ _ (by simp), World.cell?_alloc_new]; rfl
                have y2 : ((wr.alloc (.cells #[.int .i64 pk, .int .i64 pw, .string ⟨pt.toArray⟩] 38)).alloc (.cells #[.int .i64 qk, .int .i64 qw, .string ⟨qt.toArray⟩] 38)).cell? ⟨wr.heap.size + 1, 0, none⟩ = some (.int .i64 qk) := by
                  simp
                generalize (wr.alloc (.cells #[.int .i64 pk, .int .i64 pw, .string ⟨pt.toArray⟩] 38)).alloc (.cells #[.int .i64 qk, .int .i64 qw, .string ⟨qt.toArray⟩] 38) = V at hEp y0 y1 y2 ⊢
                generalize wr.heap.size = Z at y0 y1 y2 ⊢
                clear g0 g1 g2 n0 n1 n2
                go_quiet ((first
                  | (go_at_call 44; (with_reducible refine Calls.quiet_of_same (full_q pk _ _ _ HF.out)))
                  | (go_at_call 44; (with_reducible refine Calls.quiet_of_same (full_q qk _ _ _ HG.out)))
                  | (go_at_call 45; (refine Calls.quiet_of_same (isDg_z 0 _ _ _ _ (by rfl) HD.out)))))
                go_wp2_with (first
                  | (go_at_call 30; (refine (isLt_z 0 _ _ _ (by rfl) HL.out).mono ?_); rintro e w1 ⟨rfl, rfl⟩)
                  | (go_at_call 45; (refine (isDg_y 0 _ _ _ (by rfl) HD.out).mono ?_); rintro e w1 ⟨rfl, rfl⟩))
                go_roundw
                case rel => exact ⟨j + 1, by omega, by go_num, HV, hE.trans (hEp.drewN _)⟩
                case measure => simp [intOf]; omega
              · have t14 : (pk == 14) = false := by simpa using k1
                clear k1 k2 hq1
                go_upto_region 12 with fail
                have hEp : Ext wr ((wr.alloc (.cells #[.int .i64 pk, .int .i64 pw, .string ⟨pt.toArray⟩] 38)).alloc (.cells #[.int .i64 qk, .int .i64 qw, .string ⟨qt.toArray⟩] 38)) := ((Ext.refl wr).alloc _).alloc _
                have y0 : ((wr.alloc (.cells #[.int .i64 pk, .int .i64 pw, .string ⟨pt.toArray⟩] 38)).alloc (.cells #[.int .i64 qk, .int .i64 qw, .string ⟨qt.toArray⟩] 38)).cell? ⟨wr.heap.size, 0, none⟩ = some (.int .i64 pk) := by
                  rw [World.cell?_alloc_lt _ _ _ (by simp), World.cell?_alloc_new]; rfl
                have y1 : ((wr.alloc (.cells #[.int .i64 pk, .int .i64 pw, .string ⟨pt.toArray⟩] 38)).alloc (.cells #[.int .i64 qk, .int .i64 qw, .string ⟨qt.toArray⟩] 38)).cell? ⟨wr.heap.size, 1, none⟩ = some (.int .i64 pw) := by
                  rw [World.cell?_alloc_lt _ _ _ (by simp), World.cell?_alloc_new]; rfl
                have y2 : ((wr.alloc (.cells #[.int .i64 pk, .int .i64 pw, .string ⟨pt.toArray⟩] 38)).alloc (.cells #[.int .i64 qk, .int .i64 qw, .string ⟨qt.toArray⟩] 38)).cell? ⟨wr.heap.size + 1, 0, none⟩ = some (.int .i64 qk) := by
                  simp
                generalize (wr.alloc (.cells #[.int .i64 pk, .int .i64 pw, .string ⟨pt.toArray⟩] 38)).alloc (.cells #[.int .i64 qk, .int .i64 qw, .string ⟨qt.toArray⟩] 38) = V at hEp y0 y1 y2 ⊢
                generalize wr.heap.size = Z at y0 y1 y2 ⊢
                clear g0 g1 g2 n0 n1 n2
                go_quiet ((first
                  | (go_at_call 44; (with_reducible refine Calls.quiet_of_same (full_q pk _ _ _ HF.out)))
                  | (go_at_call 44; (with_reducible refine Calls.quiet_of_same (full_q qk _ _ _ HG.out)))
                  | (go_at_call 45; (refine Calls.quiet_of_same (isDg_z 0 _ _ _ _ (by rfl) HD.out)))))
                go_wp2_with (first
                  | (go_at_call 30; (refine (isLt_z 0 _ _ _ (by rfl) HL.out).mono ?_); rintro e w1 ⟨rfl, rfl⟩)
                  | (go_at_call 45; (refine (isDg_y 0 _ _ _ (by rfl) HD.out).mono ?_); rintro e w1 ⟨rfl, rfl⟩))
                go_roundw
                case rel => exact ⟨j + 1, by omega, by go_num, HV, hE.trans (hEp.drewN _)⟩
                case measure => simp [intOf]; omega
      · have HV : Hid (losL l = true) := by rw [Hid, HI.out]; exact losL_end l j (by omega)
        have tnx : (((j : Int) + 1) == (l.length : Int)) = true := by rw [beq_iff_eq]; omega
        clear hnx
        obtain ⟨p, hpp⟩ : ∃ p, p = l[j] := ⟨_, rfl⟩
        rw [← hpp] at g0 g1 g2
        clear hpp
        obtain ⟨pk, pw, pt⟩ := p
        simp only at g0 g1 g2
        go_wp2_with fail
        go_ret
        exact ⟨by rw [HV.out]; rfl, HEr.out.trans ((Ext.refl _).alloc _)⟩
    · obtain rfl : j = l.length := by omega
      have HV : Hid (losL l = true) := by rw [Hid, HI.out]; exact losL_end l _ (by omega)
      clear hlt
      go_wp2_with fail
      go_ret
      exact ⟨by rw [HV.out]; rfl, HEr.out⟩
end Go.Proofs.YticckkadmhklmaaGreatDoor
