/- The walk of the reference's test. -/
import Derived.Test.YtbagbnceiadpdaaDoorRef3
import Derived.Test.YtbagbnceiadpdaaDoorRul2
namespace Go.Proofs.YtbagbnceiadpdaaDoor
set_option linter.unusedVariables false
set_option linter.unusedSimpArgs false
open Go.RowKit

def teK (ws : List (List UInt8)) : Nat := if (tl1 ws).head? = some wMod then 5 else 3
def rtV (N : Nat) (ws : List (List UInt8)) : Value := if teB ws then .tuple #[.int .i64 (teK ws : Nat), .bool (teH N ws), .bool true] else .tuple #[.int .i64 0, .bool false, .bool false]
theorem tl_drop (ws : List (List UInt8)) (k : Nat) : tl1 (ws.drop k) = ws.drop (k + 1) := by unfold tl1; rw [List.tail_drop]
theorem hd_drop (ws : List (List UInt8)) (k : Nat) (h : k < ws.length) : hd1 (ws.drop k) = ws[k] := by
  unfold hd1
  rw [List.drop_eq_getElem_cons h]; rfl
theorem hd_none (ws : List (List UInt8)) (k : Nat) (h : ws.length ≤ k) : hd1 (ws.drop k) = [] := by
  unfold hd1
  rw [List.drop_eq_nil_of_le h]; rfl
theorem whR_mod {ws : List (List UInt8)} (h : (tl1 ws).head? = some wMod) : whR ws = ws.drop 3 := by
  unfold whR
  rw [if_pos h]
  show tl1 (tl1 (tl1 (ws.drop 0))) = _
  rw [tl_drop, tl_drop, tl_drop]
theorem whR_no {ws : List (List UInt8)} (h : (tl1 ws).head? ≠ some wMod) : whR ws = ws.drop 1 := by
  unfold whR
  rw [if_neg h]
  show tl1 (ws.drop 0) = _
  rw [tl_drop]
theorem listB_nil : listB [] = false := by decide
theorem teB_short {ws : List (List UInt8)} {k : Nat} (h : whR ws = ws.drop k) (hl : ws.length < k + 2) : teB ws = false := by
  unfold teB
  rw [h, tl_drop, hd_none ws (k + 1) (by omega), listB_nil, Bool.and_false]
theorem teB_op {ws : List (List UInt8)} {k : Nat} (h : whR ws = ws.drop k) (hl : k < ws.length) (h1 : ws[k] ≠ wIs) (h2 : ws[k] ≠ wNot) : teB ws = false := by
  unfold teB
  rw [h, hd_drop ws k hl]
  simp [h1, h2]
theorem teB_list {ws : List (List UInt8)} {k : Nat} (h : whR ws = ws.drop k) (hl : k + 1 < ws.length) (h1 : listB ws[k + 1] = false) : teB ws = false := by
  unfold teB
  rw [h, tl_drop, hd_drop ws (k + 1) hl, h1, Bool.and_false]
theorem teB_yes {ws : List (List UInt8)} {k : Nat} (h : whR ws = ws.drop k) (hb : whB ws = true) (hl : k + 1 < ws.length) (h0 : ws[k] = wIs ∨ ws[k] = wNot) (h1 : listB ws[k + 1] = true) : teB ws = true := by
  unfold teB
  rw [h, tl_drop, hd_drop ws (k + 1) hl, h1, hb, hd_drop ws k (by omega)]
  simpa using h0
theorem teH_eq {ws : List (List UInt8)} {k N M : Nat} (h : whR ws = ws.drop k) (hn : whN N ws = M) (hl : k + 1 < ws.length) : teH N ws = (inList M ws[k + 1] == decide (ws[k] = wIs)) := by
  unfold teH
  rw [h, tl_drop, hd_drop ws (k + 1) hl, hd_drop ws k (by omega), hn]
theorem rtV_no {N : Nat} {ws : List (List UInt8)} (h : teB ws = false) : rtV N ws = .tuple #[.int .i64 0, .bool false, .bool false] := by unfold rtV; rw [h]; rfl
theorem rtV_yes {N : Nat} {ws : List (List UInt8)} (h : teB ws = true) : rtV N ws = .tuple #[.int .i64 (teK ws : Nat), .bool (teH N ws), .bool true] := by unfold rtV; rw [h]; rfl
theorem teB_hd {ws : List (List UInt8)} (h : hd1 ws ≠ wN) : teB ws = false := by unfold teB whB; simp [h]
theorem rsplit_44 (s : List UInt8) (w : World) (hs : s.length ≤ 100000) : Calls Tryd.prog 29 #[.string ⟨s.toArray⟩, .int .u8 44] w (SplR (spl 44 s) w) := rsplit_c s 44 w hs
theorem rsplit_32 (s : List UInt8) (w : World) (hs : s.length ≤ 100000) : Calls Tryd.prog 29 #[.string ⟨s.toArray⟩, .int .u8 32] w (SplR (spl 32 s) w) := rsplit_c s 32 w hs
set_option maxRecDepth 100000 in
set_option maxHeartbeats 4000000 in
theorem rtest_1 (N R off cap : Nat) (ws : List (List UInt8)) (w : World) (hr : RdS ws R off w) (hcap : ws.length ≤ cap) (hcm : cap ≤ maxLen) (hl : ∀ x ∈ ws, x.length ≤ 4000) (hN : (N : Int) ≤ 4611686018427387904)
    (h0 : hd1 ws = wN) (hmo : (tl1 ws).head? ≠ some wMod) (hp : 0 < ws.length) :
    Calls Tryd.prog 30 #[.slice (some ⟨R, off, none⟩) ws.length cap, .int .i64 (N : Int)] w fun e w' => e = .returned (rtV N ws) ∧ Ext w w' := by
  unfold maxLen at hcm
  have HR := Lib.hid (whR_no hmo)
  have HN : Hid (whN N ws = N) := by unfold Hid whN; rw [if_neg hmo]
  have HB : Hid (whB ws = true) := by unfold Hid whB; simp [h0, hmo]
  have HK : Hid (teK ws = 3) := by unfold Hid teK; rw [if_neg hmo]
  have Hr := Lib.hid hr
  have Hl := Lib.hid hl
  have c0 := hr.2 0 hp
  rw [Nat.add_zero, show ws[0] = wN from by rw [← hd_drop ws 0 hp]; exact h0] at c0
  replace c0 : w.cell? ⟨R, off, none⟩ = some (.string ⟨#[110]⟩) := c0
  have hR := hr.1
  have hnil : ¬ ws = [] := by intro e; rw [e] at hp; simp at hp
  have dn0 : ((ws.length : Int) == 0) = false := by rw [beq_eq_false_iff_ne]; omega
  clear hr hl h0
  by_cases hs : 2 < ws.length
  · have Hx1 : Hid (ws[1] ≠ wMod) := by
      intro e
      apply hmo
      rw [show tl1 ws = ws.drop 1 from tl_drop ws 0, List.head?_drop, List.getElem?_eq_getElem (by omega), e]
    clear hmo
    have d2 : decide (2 < (ws.length : Int)) = true := by simp; omega
    have hk1 : 1 < ws.length := by omega
    have hk2 : 1 + 1 < ws.length := by omega
    have e1 := Hr.out.2 1 hk1
    have e2 := Hr.out.2 (1 + 1) hk2
    have Hop := Lib.hid (fun h1 h2 => rtV_no (N := N) (teB_op HR.out hk1 h1 h2))
    have Hli := Lib.hid (fun h1 => rtV_no (N := N) (teB_list HR.out hk2 h1))
    have Hye := Lib.hid (fun h0 h1 => rtV_yes (N := N) (teB_yes HR.out HB.out hk2 h0 h1))
    have HH := Lib.hid (teH_eq HR.out HN.out hk2)
    have hl2 : ws[1 + 1].length ≤ 4000 := Hl.out _ (List.getElem_mem _)
    obtain ⟨op, hop⟩ : ∃ op, op = ws[1] := ⟨_, rfl⟩
    obtain ⟨li, hli⟩ : ∃ li, li = ws[1 + 1] := ⟨_, rfl⟩
    rw [← hop] at e1 Hop Hye HH
    rw [← hli] at e2 Hli Hye HH hl2
    have Hop2 := Lib.hid hop
    clear hop hli
    have t1 : (op == [109, 111, 100]) = false := by rw [beq_eq_false_iff_ne]; intro e; exact Hx1.out (Hop2.out.symm.trans e)
    by_cases g1 : op = wIs
    · have t2 : (op == [105, 115]) = true := by rw [g1]; rfl
      have t3 : (op != [105, 115]) = false := by rw [g1]; rfl
      have Hye2 := Lib.hid (fun h1 => Hye.out (.inl g1) h1)
      have HH2 : Hid (teH N ws = (inList N li == true)) := by rw [Hid, HH.out, g1]; rfl
      have Hg1 := Lib.hid g1
      clear g1
      go_enter Tryd.func30, Tryd.ntmps30
      go_wp2_with (first
        | (go_at_call 45; (with_reducible refine (rnum_c x2 _ hx2l).mono ?_); (with_reducible rw [Hx2.out]); rintro e w1 ⟨rfl, rfl⟩)
        | (go_at_call 29; (with_reducible refine (rsplit_44 li _ (by omega)).mono ?_); rintro e w2 ⟨R2, cap2, rfl, hp1, hp2, hp3, hp4, hE2⟩))
      have e1w := (hE2.cells _ _ hR).trans e1
      have Hp3 := Lib.hid hp3
      have hPl := spl_len 44 li
      have Hin : Hid (inList N li = (spl 44 li).any (inIt N)) := rfl
      have Hal : Hid (listB li = (spl 44 li).all itB) := rfl
      clear hp3 c0 e1 e2
      try clear c1 c2
      unfold maxLen at hp2
      generalize spl 44 li = P at hp1 Hp3 hPl Hin Hal ⊢
      have HPl := Lib.hid hPl
      clear hPl
      go_loop [10, 12] (fun iv i => ∃ j : Nat, j ≤ P.length ∧ i = .int .i64 (j : Int) ∧ iv = .bool ((P.take j).any (inIt N)) ∧ Hid ((P.take j).all itB = true)) (fun _ i => P.length - (intOf i).toNat)
      case atStart => exact ⟨0, Nat.zero_le _, rfl, rfl, rfl⟩
      case round =>
        obtain ⟨j, hj, rfl, rfl, Hbo⟩ := hrel
        by_cases hlt : j < P.length
        · have hsj := HPl.out P[j] (List.getElem_mem _)
          have hce := Hp3.out.2 j hlt
          rw [Nat.zero_add] at hce
          have Hany := Lib.hid (any_succ P (inIt N) j hlt)
          have Hall := Lib.hid (all_succ P itB j hlt)
          have Hmem : Hid (P[j] ∈ P) := List.getElem_mem _
          have HI : Hid (∀ s, inIt N s = decide (itLo s ≤ N ∧ N ≤ itHi s)) := fun s => rfl
          obtain ⟨s, hs⟩ : ∃ s, s = P[j] := ⟨_, rfl⟩
          rw [← hs] at hsj hce Hany Hall Hmem
          clear hs
          rcases Bool.eq_false_or_eq_true (itB s) with hb | hb
          · have Hb := Lib.hid hb
            clear hb
            generalize hfo : (P.take j).any (inIt N) = fo at Hany ⊢
            clear hfo
            by_cases hlo : itLo s ≤ N
            · have d9 : decide ((itLo s : Int) ≤ (N : Int)) = true := by simp; omega
              cases fo
              all_goals (go_wp2_with (go_at_call 46; (with_reducible refine (item_c s _ (by omega)).mono ?_); (with_reducible rw [Hb.out]); rintro e w3 ⟨rfl, rfl⟩)
                         go_round
                         case rel => exact ⟨j + 1, by omega, by go_num, congrArg Value.bool (by rw [Hany.out, HI.out]; simp <;> omega), by rw [Hid, Hall.out, Hbo.out, Hb.out]; rfl⟩
                         case measure => simp [intOf]; omega)
            · have d9 : decide ((itLo s : Int) ≤ (N : Int)) = false := by simp; omega
              cases fo
              all_goals (go_wp2_with (go_at_call 46; (with_reducible refine (item_c s _ (by omega)).mono ?_); (with_reducible rw [Hb.out]); rintro e w3 ⟨rfl, rfl⟩)
                         go_round
                         case rel => exact ⟨j + 1, by omega, by go_num, congrArg Value.bool (by rw [Hany.out, HI.out]; simp <;> omega), by rw [Hid, Hall.out, Hbo.out, Hb.out]; rfl⟩
                         case measure => simp [intOf]; omega)
          · have HL : Hid (listB li = false) := by
              rw [Hid, Hal.out, ← Bool.not_eq_true]
              intro q
              rw [List.all_eq_true.1 q s Hmem.out] at hb
              cases hb
            have HV := Lib.hid (Hli.out HL.out)
            have Hb := Lib.hid hb
            clear hb
            go_wp2_with (go_at_call 46; (with_reducible refine (item_c s _ (by omega)).mono ?_); (with_reducible rw [Hb.out]); rintro e w3 ⟨rfl, rfl⟩)
            go_ret3
            exact ⟨by rw [HV.out]; rfl, hE2⟩
        · obtain rfl : j = P.length := by omega
          have HL : Hid (listB li = true) := by rw [Hid, Hal.out]; have := Hbo.out; rw [List.take_length] at this; exact this
          have HV := Lib.hid (Hye2.out HL.out)
          rw [List.take_length]
          generalize hfo : P.any (inIt N) = fo at Hin ⊢
          clear hfo
          cases fo
          all_goals
            go_wp2
            go_quiet (fail)
            go_wp2
            go_ret3
            exact ⟨by rw [HV.out, HK.out, HH2.out, Hin.out]; rfl, hE2.drewN _⟩
    · have t2 : (op == [105, 115]) = false := beq_eq_false_iff_ne.2 g1
      have t3 : (op != [105, 115]) = true := bne_iff_ne.2 g1
      by_cases g2 : op = wNot
      · have t4 : (op == [110, 111, 116]) = true := by rw [g2]; rfl
        have t5 : (op != [110, 111, 116]) = false := by rw [g2]; rfl
        have Hye2 := Lib.hid (fun h1 => Hye.out (.inr g2) h1)
        have HH2 : Hid (teH N ws = (inList N li == false)) := by rw [Hid, HH.out]; simp [g1]
        have Hg1 := Lib.hid g1
        clear g1 g2
        go_enter Tryd.func30, Tryd.ntmps30
        go_wp2_with (first
          | (go_at_call 45; (with_reducible refine (rnum_c x2 _ hx2l).mono ?_); (with_reducible rw [Hx2.out]); rintro e w1 ⟨rfl, rfl⟩)
          | (go_at_call 29; (with_reducible refine (rsplit_44 li _ (by omega)).mono ?_); rintro e w2 ⟨R2, cap2, rfl, hp1, hp2, hp3, hp4, hE2⟩))
        have e1w := (hE2.cells _ _ hR).trans e1
        have Hp3 := Lib.hid hp3
        have hPl := spl_len 44 li
        have Hin : Hid (inList N li = (spl 44 li).any (inIt N)) := rfl
        have Hal : Hid (listB li = (spl 44 li).all itB) := rfl
        clear hp3 c0 e1 e2
        try clear c1 c2
        unfold maxLen at hp2
        generalize spl 44 li = P at hp1 Hp3 hPl Hin Hal ⊢
        have HPl := Lib.hid hPl
        clear hPl
        go_loop [10, 12] (fun iv i => ∃ j : Nat, j ≤ P.length ∧ i = .int .i64 (j : Int) ∧ iv = .bool ((P.take j).any (inIt N)) ∧ Hid ((P.take j).all itB = true)) (fun _ i => P.length - (intOf i).toNat)
        case atStart => exact ⟨0, Nat.zero_le _, rfl, rfl, rfl⟩
        case round =>
          obtain ⟨j, hj, rfl, rfl, Hbo⟩ := hrel
          by_cases hlt : j < P.length
          · have hsj := HPl.out P[j] (List.getElem_mem _)
            have hce := Hp3.out.2 j hlt
            rw [Nat.zero_add] at hce
            have Hany := Lib.hid (any_succ P (inIt N) j hlt)
            have Hall := Lib.hid (all_succ P itB j hlt)
            have Hmem : Hid (P[j] ∈ P) := List.getElem_mem _
            have HI : Hid (∀ s, inIt N s = decide (itLo s ≤ N ∧ N ≤ itHi s)) := fun s => rfl
            obtain ⟨s, hs⟩ : ∃ s, s = P[j] := ⟨_, rfl⟩
            rw [← hs] at hsj hce Hany Hall Hmem
            clear hs
            rcases Bool.eq_false_or_eq_true (itB s) with hb | hb
            · have Hb := Lib.hid hb
              clear hb
              generalize hfo : (P.take j).any (inIt N) = fo at Hany ⊢
              clear hfo
              by_cases hlo : itLo s ≤ N
              · have d9 : decide ((itLo s : Int) ≤ (N : Int)) = true := by simp; omega
                cases fo
                all_goals (go_wp2_with (go_at_call 46; (with_reducible refine (item_c s _ (by omega)).mono ?_); (with_reducible rw [Hb.out]); rintro e w3 ⟨rfl, rfl⟩)
                           go_round
                           case rel => exact ⟨j + 1, by omega, by go_num, congrArg Value.bool (by rw [Hany.out, HI.out]; simp <;> omega), by rw [Hid, Hall.out, Hbo.out, Hb.out]; rfl⟩
                           case measure => simp [intOf]; omega)
              · have d9 : decide ((itLo s : Int) ≤ (N : Int)) = false := by simp; omega
                cases fo
                all_goals (go_wp2_with (go_at_call 46; (with_reducible refine (item_c s _ (by omega)).mono ?_); (with_reducible rw [Hb.out]); rintro e w3 ⟨rfl, rfl⟩)
                           go_round
                           case rel => exact ⟨j + 1, by omega, by go_num, congrArg Value.bool (by rw [Hany.out, HI.out]; simp <;> omega), by rw [Hid, Hall.out, Hbo.out, Hb.out]; rfl⟩
                           case measure => simp [intOf]; omega)
            · have HL : Hid (listB li = false) := by
                rw [Hid, Hal.out, ← Bool.not_eq_true]
                intro q
                rw [List.all_eq_true.1 q s Hmem.out] at hb
                cases hb
              have HV := Lib.hid (Hli.out HL.out)
              have Hb := Lib.hid hb
              clear hb
              go_wp2_with (go_at_call 46; (with_reducible refine (item_c s _ (by omega)).mono ?_); (with_reducible rw [Hb.out]); rintro e w3 ⟨rfl, rfl⟩)
              go_ret3
              exact ⟨by rw [HV.out]; rfl, hE2⟩
          · obtain rfl : j = P.length := by omega
            have HL : Hid (listB li = true) := by rw [Hid, Hal.out]; have := Hbo.out; rw [List.take_length] at this; exact this
            have HV := Lib.hid (Hye2.out HL.out)
            rw [List.take_length]
            generalize hfo : P.any (inIt N) = fo at Hin ⊢
            clear hfo
            cases fo
            all_goals
              go_wp2
              go_quiet (fail)
              go_wp2
              go_ret3
              exact ⟨by rw [HV.out, HK.out, HH2.out, Hin.out]; rfl, hE2.drewN _⟩
      · have t4 : (op == [110, 111, 116]) = false := beq_eq_false_iff_ne.2 g2
        have t5 : (op != [110, 111, 116]) = true := bne_iff_ne.2 g2
        have HV := Lib.hid (Hop.out g1 g2)
        clear g1 g2
        go_enter Tryd.func30, Tryd.ntmps30
        go_wp2_with (first
          | (go_at_call 45; (with_reducible refine (rnum_c x2 _ hx2l).mono ?_); (with_reducible rw [Hx2.out]); rintro e w1 ⟨rfl, rfl⟩)
          | (go_at_call 29; (with_reducible refine (rsplit_44 li _ (by omega)).mono ?_); rintro e w2 ⟨R2, cap2, rfl, hp1, hp2, hp3, hp4, hE2⟩))
        go_ret3
        exact ⟨by rw [HV.out]; rfl, Ext.refl _⟩
  · have d2 : decide (2 < (ws.length : Int)) = false := by simp; omega
    have HV := Lib.hid (rtV_no (N := N) (teB_short HR.out (by omega)))
    have d3 : (ws.length : Int) < 3 := by omega
    clear hmo
    go_enter Tryd.func30, Tryd.ntmps30
    go_wp2
    go_ret3
    exact ⟨by rw [HV.out]; rfl, Ext.refl _⟩
end Go.Proofs.YtbagbnceiadpdaaDoor
