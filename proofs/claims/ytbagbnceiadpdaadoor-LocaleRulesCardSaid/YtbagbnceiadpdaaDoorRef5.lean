/- The walk of the reference's test: with mod. -/
import Derived.Test.YtbagbnceiadpdaaDoorRef4
namespace Go.Proofs.YtbagbnceiadpdaaDoor
set_option linter.unusedVariables false
set_option linter.unusedSimpArgs false
open Go.RowKit

theorem whB_mod {ws : List (List UInt8)} (h : (tl1 ws).head? = some wMod) (x : List UInt8) (hx : hd1 (ws.drop 2) = x) : whB ws = (decide (hd1 ws = wN) && (numB x && decide (numN x ≠ 0))) := by
  unfold whB
  have e : tl1 (tl1 ws) = ws.drop 2 := by
    show tl1 (tl1 (ws.drop 0)) = _
    rw [tl_drop, tl_drop]
  rw [e, hx, h]
  simp
theorem teB_wh {ws : List (List UInt8)} (h : whB ws = false) : teB ws = false := by unfold teB; rw [h]; rfl
set_option maxRecDepth 100000 in
set_option maxHeartbeats 4000000 in
theorem rtest_2 (N R off cap : Nat) (ws : List (List UInt8)) (w : World) (hr : RdS ws R off w) (hcap : ws.length ≤ cap) (hcm : cap ≤ maxLen) (hl : ∀ x ∈ ws, x.length ≤ 4000) (hN : (N : Int) ≤ 4611686018427387904)
    (h0 : hd1 ws = wN) (hmo : (tl1 ws).head? = some wMod) (hp : 1 < ws.length) :
    Calls Tryd.prog 30 #[.slice (some ⟨R, off, none⟩) ws.length cap, .int .i64 (N : Int)] w fun e w' => e = .returned (rtV N ws) ∧ Ext w w' := by
  unfold maxLen at hcm
  have HR := Lib.hid (whR_mod hmo)
  have Hr := Lib.hid hr
  have Hl := Lib.hid hl
  have hp0 : 0 < ws.length := by omega
  have c0 := hr.2 0 hp0
  rw [Nat.add_zero, show ws[0] = wN from by rw [← hd_drop ws 0 hp0]; exact h0] at c0
  replace c0 : w.cell? ⟨R, off, none⟩ = some (.string ⟨#[110]⟩) := c0
  have c1 := hr.2 1 hp
  rw [show ws[1] = wMod from by
    rw [show tl1 ws = ws.drop 1 from tl_drop ws 0, List.head?_drop, List.getElem?_eq_getElem hp] at hmo
    exact Option.some.inj hmo] at c1
  replace c1 : w.cell? ⟨R, off + 1, none⟩ = some (.string ⟨#[109, 111, 100]⟩) := c1
  have hR := hr.1
  have hnil : ¬ ws = [] := by intro e; rw [e] at hp; simp at hp
  have dn0 : ((ws.length : Int) == 0) = false := by rw [beq_eq_false_iff_ne]; omega
  clear hr hl
  by_cases hs : 2 < ws.length
  · have d2 : decide (2 < (ws.length : Int)) = true := by simp; omega
    have hx2l := Hl.out ws[2] (List.getElem_mem _)
    have c2 := Hr.out.2 2 hs
    have HWB := Lib.hid (whB_mod hmo ws[2] (hd_drop ws 2 hs))
    have HN0 : Hid (whN N ws = if numN ws[2] = 0 then 0 else N % numN ws[2]) := by
      unfold Hid whN
      rw [if_pos hmo]
      have e : tl1 (tl1 ws) = ws.drop 2 := by
        show tl1 (tl1 (ws.drop 0)) = _
        rw [tl_drop, tl_drop]
      rw [e, hd_drop ws 2 hs]
    have HK : Hid (teK ws = 3 + 2) := by unfold Hid teK; rw [if_pos hmo]
    obtain ⟨x2, hx2⟩ : ∃ x2, x2 = ws[2] := ⟨_, rfl⟩
    rw [← hx2] at hx2l c2 HWB HN0
    have Hh0 := Lib.hid h0
    clear hx2 hmo h0
    rcases Bool.eq_false_or_eq_true (numB x2) with hb | hb
    · have Hx2 := Lib.hid hb
      clear hb
      by_cases hz : numN x2 = 0
      · have t1 : ((numN x2 : Int) == 0) = true := by rw [beq_iff_eq]; omega
        have HV := Lib.hid (rtV_no (N := N) (teB_wh (by rw [HWB.out, Hx2.out]; simp [hz])))
        clear hz
        go_enter Tryd.func30, Tryd.ntmps30
        go_wp2_with (go_at_call 45; (with_reducible refine (rnum_c x2 _ hx2l).mono ?_); (with_reducible rw [Hx2.out]); rintro e w1 ⟨rfl, rfl⟩)
        go_ret3
        exact ⟨by rw [HV.out]; rfl, Ext.refl _⟩
      · have t6 : ((numN x2 : Int) == 0) = false := by rw [beq_eq_false_iff_ne]; omega
        have HB : Hid (whB ws = true) := by rw [Hid, HWB.out, Hx2.out, Hh0.out]; simp [hz]
        obtain ⟨N1, hN1⟩ : ∃ N1, N1 = N % numN x2 := ⟨_, rfl⟩
        have HN : Hid (whN N ws = N1) := by rw [Hid, HN0.out, if_neg hz, hN1]
        have hmod : (N : Int) % (numN x2 : Int) = (N1 : Int) := by rw [hN1]; simp
        have hpos : 1 ≤ (numN x2 : Int) := by omega
        have hN1b : N1 ≤ N := by rw [hN1]; exact Nat.mod_le _ _
        clear hz hN1
        by_cases h5 : ws.length < 5
        · have HV := Lib.hid (rtV_no (N := N) (teB_short HR.out h5))
          have d3 : (ws.length : Int) < 5 := by omega
          go_enter Tryd.func30, Tryd.ntmps30
          go_wp2_with (go_at_call 45; (with_reducible refine (rnum_c x2 _ hx2l).mono ?_); (with_reducible rw [Hx2.out]); rintro e w1 ⟨rfl, rfl⟩)
          go_ret3
          exact ⟨by rw [HV.out]; rfl, Ext.refl _⟩
        · have d3 : ¬ (ws.length : Int) < 5 := by omega
          have hk1 : 3 < ws.length := by omega
          have hk2 : 3 + 1 < ws.length := by omega
          have e1 := Hr.out.2 3 hk1
          have e2 := Hr.out.2 (3 + 1) hk2
          have Hop := Lib.hid (fun h1 h2 => rtV_no (N := N) (teB_op HR.out hk1 h1 h2))
          have Hli := Lib.hid (fun h1 => rtV_no (N := N) (teB_list HR.out hk2 h1))
          have Hye := Lib.hid (fun h0 h1 => rtV_yes (N := N) (teB_yes HR.out HB.out hk2 h0 h1))
          have HH := Lib.hid (teH_eq HR.out HN.out hk2)
          have hl2 : ws[3 + 1].length ≤ 4000 := Hl.out _ (List.getElem_mem _)
          obtain ⟨op, hop⟩ : ∃ op, op = ws[3] := ⟨_, rfl⟩
          obtain ⟨li, hli⟩ : ∃ li, li = ws[3 + 1] := ⟨_, rfl⟩
          rw [← hop] at e1 Hop Hye HH
          rw [← hli] at e2 Hli Hye HH hl2
          have Hop2 := Lib.hid hop
          clear hop hli
          skip
          by_cases g1 : op = wIs
          · have t2 : (op == [105, 115]) = true := by rw [g1]; rfl
            have t3 : (op != [105, 115]) = false := by rw [g1]; rfl
            have Hye2 := Lib.hid (fun h1 => Hye.out (.inl g1) h1)
            have HH2 : Hid (teH N ws = (inList N1 li == true)) := by rw [Hid, HH.out, g1]; rfl
            have Hg1 := Lib.hid g1
            clear g1
            go_enter Tryd.func30, Tryd.ntmps30
            go_wp2_with (first
              | (go_at_call 45; (with_reducible refine (rnum_c x2 _ hx2l).mono ?_); (with_reducible rw [Hx2.out]); rintro e w1 ⟨rfl, rfl⟩)
              | (go_at_call 29; (with_reducible refine (rsplit_44 li _ (by omega)).mono ?_); rintro e w2 ⟨R2, cap2, rfl, hp1, hp2, hp3, hp4, hE2⟩))
            have e1w := (hE2.cells _ _ hR).trans e1
            have Hp3 := Lib.hid hp3
            have hPl := spl_len 44 li
            have Hin : Hid (inList N1 li = (spl 44 li).any (inIt N1)) := rfl
            have Hal : Hid (listB li = (spl 44 li).all itB) := rfl
            clear hp3 c0 e1 e2
            try clear c1 c2
            unfold maxLen at hp2
            generalize spl 44 li = P at hp1 Hp3 hPl Hin Hal ⊢
            have HPl := Lib.hid hPl
            clear hPl
            go_loop [10, 12] (fun iv i => ∃ j : Nat, j ≤ P.length ∧ i = .int .i64 (j : Int) ∧ iv = .bool ((P.take j).any (inIt N1)) ∧ Hid ((P.take j).all itB = true)) (fun _ i => P.length - (intOf i).toNat)
            case atStart => exact ⟨0, Nat.zero_le _, rfl, rfl, rfl⟩
            case round =>
              obtain ⟨j, hj, rfl, rfl, Hbo⟩ := hrel
              by_cases hlt : j < P.length
              · have hsj := HPl.out P[j] (List.getElem_mem _)
                have hce := Hp3.out.2 j hlt
                rw [Nat.zero_add] at hce
                have Hany := Lib.hid (any_succ P (inIt N1) j hlt)
                have Hall := Lib.hid (all_succ P itB j hlt)
                have Hmem : Hid (P[j] ∈ P) := List.getElem_mem _
                have HI : Hid (∀ s, inIt N1 s = decide (itLo s ≤ N1 ∧ N1 ≤ itHi s)) := fun s => rfl
                obtain ⟨s, hs⟩ : ∃ s, s = P[j] := ⟨_, rfl⟩
                rw [← hs] at hsj hce Hany Hall Hmem
                clear hs
                rcases Bool.eq_false_or_eq_true (itB s) with hb | hb
                · have Hb := Lib.hid hb
                  clear hb
                  generalize hfo : (P.take j).any (inIt N1) = fo at Hany ⊢
                  clear hfo
                  by_cases hlo : itLo s ≤ N1
                  · have d9 : decide ((itLo s : Int) ≤ (N1 : Int)) = true := by simp; omega
                    cases fo
                    all_goals (go_wp2_with (go_at_call 46; (with_reducible refine (item_c s _ (by omega)).mono ?_); (with_reducible rw [Hb.out]); rintro e w3 ⟨rfl, rfl⟩)
                               go_round
                               case rel => exact ⟨j + 1, by omega, by go_num, congrArg Value.bool (by rw [Hany.out, HI.out]; simp <;> omega), by rw [Hid, Hall.out, Hbo.out, Hb.out]; rfl⟩
                               case measure => simp [intOf]; omega)
                  · have d9 : decide ((itLo s : Int) ≤ (N1 : Int)) = false := by simp; omega
                    cases fo
                    all_goals (go_wp2_with (go_at_call 46; (with_reducible refine (item_c s _ (by omega)).mono ?_); (with_reducible rw [Hb.out]); rintro e w3 ⟨rfl, rfl⟩)
                               go_round
                               case rel => exact ⟨j + 1, by omega, by go_num, congrArg Value.bool (by rw [Hany.out, HI.out]; simp <;> omega), by rw [Hid, Hall.out, Hbo.out, Hb.out]; rfl⟩
                               case measure => simp [intOf]; omega)
                · have HL : Hid (listB li = false) := by
                    rw [Hid, Hal.out, ← Bool.not_eq_true]
                    intro q
                    rw [List.all_eq_true.1 q s Hmem.out] at hb
                    cases hb
                  have HV := Lib.hid (Hli.out HL.out)
                  have Hb := Lib.hid hb
                  clear hb
                  go_wp2_with (go_at_call 46; (with_reducible refine (item_c s _ (by omega)).mono ?_); (with_reducible rw [Hb.out]); rintro e w3 ⟨rfl, rfl⟩)
                  go_ret3
                  exact ⟨by rw [HV.out]; rfl, hE2⟩
              · obtain rfl : j = P.length := by omega
                have HL : Hid (listB li = true) := by rw [Hid, Hal.out]; have := Hbo.out; rw [List.take_length] at this; exact this
                have HV := Lib.hid (Hye2.out HL.out)
                rw [List.take_length]
                generalize hfo : P.any (inIt N1) = fo at Hin ⊢
                clear hfo
                cases fo
                all_goals
                  go_wp2
                  go_quiet (fail)
                  go_wp2
                  go_ret3
                  exact ⟨by rw [HV.out, HK.out, HH2.out, Hin.out]; rfl, hE2.drewN _⟩
          · have t2 : (op == [105, 115]) = false := beq_eq_false_iff_ne.2 g1
            have t3 : (op != [105, 115]) = true := bne_iff_ne.2 g1
            by_cases g2 : op = wNot
            · have t4 : (op == [110, 111, 116]) = true := by rw [g2]; rfl
              have t5 : (op != [110, 111, 116]) = false := by rw [g2]; rfl
              have Hye2 := Lib.hid (fun h1 => Hye.out (.inr g2) h1)
              have HH2 : Hid (teH N ws = (inList N1 li == false)) := by rw [Hid, HH.out]; simp [g1]
              have Hg1 := Lib.hid g1
              clear g1 g2
              go_enter Tryd.func30, Tryd.ntmps30
              go_wp2_with (first
                | (go_at_call 45; (with_reducible refine (rnum_c x2 _ hx2l).mono ?_); (with_reducible rw [Hx2.out]); rintro e w1 ⟨rfl, rfl⟩)
                | (go_at_call 29; (with_reducible refine (rsplit_44 li _ (by omega)).mono ?_); rintro e w2 ⟨R2, cap2, rfl, hp1, hp2, hp3, hp4, hE2⟩))
              have e1w := (hE2.cells _ _ hR).trans e1
              have Hp3 := Lib.hid hp3
              have hPl := spl_len 44 li
              have Hin : Hid (inList N1 li = (spl 44 li).any (inIt N1)) := rfl
              have Hal : Hid (listB li = (spl 44 li).all itB) := rfl
              clear hp3 c0 e1 e2
              try clear c1 c2
              unfold maxLen at hp2
              generalize spl 44 li = P at hp1 Hp3 hPl Hin Hal ⊢
              have HPl := Lib.hid hPl
              clear hPl
              go_loop [10, 12] (fun iv i => ∃ j : Nat, j ≤ P.length ∧ i = .int .i64 (j : Int) ∧ iv = .bool ((P.take j).any (inIt N1)) ∧ Hid ((P.take j).all itB = true)) (fun _ i => P.length - (intOf i).toNat)
              case atStart => exact ⟨0, Nat.zero_le _, rfl, rfl, rfl⟩
              case round =>
                obtain ⟨j, hj, rfl, rfl, Hbo⟩ := hrel
                by_cases hlt : j < P.length
                · have hsj := HPl.out P[j] (List.getElem_mem _)
                  have hce := Hp3.out.2 j hlt
                  rw [Nat.zero_add] at hce
                  have Hany := Lib.hid (any_succ P (inIt N1) j hlt)
                  have Hall := Lib.hid (all_succ P itB j hlt)
                  have Hmem : Hid (P[j] ∈ P) := List.getElem_mem _
                  have HI : Hid (∀ s, inIt N1 s = decide (itLo s ≤ N1 ∧ N1 ≤ itHi s)) := fun s => rfl
                  obtain ⟨s, hs⟩ : ∃ s, s = P[j] := ⟨_, rfl⟩
                  rw [← hs] at hsj hce Hany Hall Hmem
                  clear hs
                  rcases Bool.eq_false_or_eq_true (itB s) with hb | hb
                  · have Hb := Lib.hid hb
                    clear hb
                    generalize hfo : (P.take j).any (inIt N1) = fo at Hany ⊢
                    clear hfo
                    by_cases hlo : itLo s ≤ N1
                    · have d9 : decide ((itLo s : Int) ≤ (N1 : Int)) = true := by simp; omega
                      cases fo
                      all_goals (go_wp2_with (go_at_call 46; (with_reducible refine (item_c s _ (by omega)).mono ?_); (with_reducible rw [Hb.out]); rintro e w3 ⟨rfl, rfl⟩)
                                 go_round
                                 case rel => exact ⟨j + 1, by omega, by go_num, congrArg Value.bool (by rw [Hany.out, HI.out]; simp <;> omega), by rw [Hid, Hall.out, Hbo.out, Hb.out]; rfl⟩
                                 case measure => simp [intOf]; omega)
                    · have d9 : decide ((itLo s : Int) ≤ (N1 : Int)) = false := by simp; omega
                      cases fo
                      all_goals (go_wp2_with (go_at_call 46; (with_reducible refine (item_c s _ (by omega)).mono ?_); (with_reducible rw [Hb.out]); rintro e w3 ⟨rfl, rfl⟩)
                                 go_round
                                 case rel => exact ⟨j + 1, by omega, by go_num, congrArg Value.bool (by rw [Hany.out, HI.out]; simp <;> omega), by rw [Hid, Hall.out, Hbo.out, Hb.out]; rfl⟩
                                 case measure => simp [intOf]; omega)
                  · have HL : Hid (listB li = false) := by
                      rw [Hid, Hal.out, ← Bool.not_eq_true]
                      intro q
                      rw [List.all_eq_true.1 q s Hmem.out] at hb
                      cases hb
                    have HV := Lib.hid (Hli.out HL.out)
                    have Hb := Lib.hid hb
                    clear hb
                    go_wp2_with (go_at_call 46; (with_reducible refine (item_c s _ (by omega)).mono ?_); (with_reducible rw [Hb.out]); rintro e w3 ⟨rfl, rfl⟩)
                    go_ret3
                    exact ⟨by rw [HV.out]; rfl, hE2⟩
                · obtain rfl : j = P.length := by omega
                  have HL : Hid (listB li = true) := by rw [Hid, Hal.out]; have := Hbo.out; rw [List.take_length] at this; exact this
                  have HV := Lib.hid (Hye2.out HL.out)
                  rw [List.take_length]
                  generalize hfo : P.any (inIt N1) = fo at Hin ⊢
                  clear hfo
                  cases fo
                  all_goals
                    go_wp2
                    go_quiet (fail)
                    go_wp2
                    go_ret3
                    exact ⟨by rw [HV.out, HK.out, HH2.out, Hin.out]; rfl, hE2.drewN _⟩
            · have t4 : (op == [110, 111, 116]) = false := beq_eq_false_iff_ne.2 g2
              have t5 : (op != [110, 111, 116]) = true := bne_iff_ne.2 g2
              have HV := Lib.hid (Hop.out g1 g2)
              clear g1 g2
              go_enter Tryd.func30, Tryd.ntmps30
              go_wp2_with (first
                | (go_at_call 45; (with_reducible refine (rnum_c x2 _ hx2l).mono ?_); (with_reducible rw [Hx2.out]); rintro e w1 ⟨rfl, rfl⟩)
                | (go_at_call 29; (with_reducible refine (rsplit_44 li _ (by omega)).mono ?_); rintro e w2 ⟨R2, cap2, rfl, hp1, hp2, hp3, hp4, hE2⟩))
              go_ret3
              exact ⟨by rw [HV.out]; rfl, Ext.refl _⟩
    · have Hx2 := Lib.hid hb
      have HV := Lib.hid (rtV_no (N := N) (teB_wh (by rw [HWB.out, hb]; simp)))
      clear hb
      go_enter Tryd.func30, Tryd.ntmps30
      go_wp2_with (go_at_call 45; (with_reducible refine (rnum_c x2 _ hx2l).mono ?_); (with_reducible rw [Hx2.out]); rintro e w1 ⟨rfl, rfl⟩)
      go_ret3
      exact ⟨by rw [HV.out]; rfl, Ext.refl _⟩
  · have d2 : decide (2 < (ws.length : Int)) = false := by simp; omega
    have HV := Lib.hid (rtV_no (N := N) (teB_wh (by rw [whB_mod hmo [] (hd_none ws 2 (by omega)), show numB [] = false from by decide]; simp)))
    have d3 : (ws.length : Int) < 3 := by omega
    clear hmo h0
    go_enter Tryd.func30, Tryd.ntmps30
    go_wp2
    go_ret3
    exact ⟨by rw [HV.out]; rfl, Ext.refl _⟩
set_option maxRecDepth 100000 in
theorem rtest_c (N R off cap : Nat) (ws : List (List UInt8)) (w : World) (hr : RdS ws R off w) (hcap : ws.length ≤ cap) (hcm : cap ≤ maxLen) (hl : ∀ x ∈ ws, x.length ≤ 4000) (hN : (N : Int) ≤ 4611686018427387904) :
    Calls Tryd.prog 30 #[.slice (some ⟨R, off, none⟩) ws.length cap, .int .i64 (N : Int)] w fun e w' => e = .returned (rtV N ws) ∧ Ext w w' := by
  by_cases h0 : hd1 ws = wN
  · have hp : 0 < ws.length := by
      rcases Nat.eq_zero_or_pos ws.length with q | q
      · rw [List.length_eq_zero_iff.1 q] at h0; cases h0
      · exact q
    by_cases hmo : (tl1 ws).head? = some wMod
    · refine rtest_2 N R off cap ws w hr hcap hcm hl hN h0 hmo ?_
      rcases Nat.lt_or_ge 1 ws.length with q | q
      · exact q
      · rw [show tl1 ws = ws.drop 1 from tl_drop ws 0, List.drop_eq_nil_of_le q] at hmo; cases hmo
    · exact rtest_1 N R off cap ws w hr hcap hcm hl hN h0 hmo hp
  · have HV := Lib.hid (rtV_no (N := N) (teB_hd h0))
    unfold maxLen at hcm
    by_cases hn : ws = []
    · subst hn
      clear hr hl h0
      go_enter Tryd.func30, Tryd.ntmps30
      go_wp2
      go_ret3
      exact ⟨by rw [HV.out]; rfl, Ext.refl _⟩
    · have hp : 0 < ws.length := List.length_pos_iff.2 hn
      have c0 := hr.2 0 hp
      rw [Nat.add_zero] at c0
      have hR := hr.1
      have dn0 : ((ws.length : Int) == 0) = false := by rw [beq_eq_false_iff_ne]; omega
      have hx : ws[0] ≠ wN := by rw [← hd_drop ws 0 hp]; exact h0
      obtain ⟨x, hx0⟩ : ∃ x, x = ws[0] := ⟨_, rfl⟩
      rw [← hx0] at c0 hx
      have t1 : (x == [110]) = false := beq_eq_false_iff_ne.2 hx
      have t2 : (x != [110]) = true := bne_iff_ne.2 hx
      clear hr hl h0 hx hx0
      go_enter Tryd.func30, Tryd.ntmps30
      go_wp2
      go_ret3
      exact ⟨by rw [HV.out]; rfl, Ext.refl _⟩
end Go.Proofs.YtbagbnceiadpdaaDoor
