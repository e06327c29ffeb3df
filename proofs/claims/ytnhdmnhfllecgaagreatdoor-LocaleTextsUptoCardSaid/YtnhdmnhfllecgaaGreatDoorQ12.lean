/- The walks of the reference's Rule and Holds. -/
import Derived.Test.YtnhdmnhfllecgaaGreatDoorQ11
namespace Go.Proofs.YtnhdmnhfllecgaaGreatDoor
set_option linter.unusedVariables false
set_option linter.unusedSimpArgs false
open Go.RowKit

theorem teK_le {ws : List (List UInt8)} (h : teB ws = true) : teK ws ≤ ws.length ∧ teR ws = ws.drop (teK ws) ∧ 1 ≤ teK ws := by
  by_cases hmo : (tl1 ws).head? = some wMod
  · have hR := whR_mod hmo
    have hK : teK ws = 5 := by unfold teK; rw [if_pos hmo]
    refine ⟨?_, ?_, by omega⟩
    · rcases Nat.lt_or_ge ws.length 5 with q | q
      · rw [teB_short hR q] at h; cases h
      · omega
    · unfold teR
      rw [hR, tl_drop, tl_drop, hK]
  · have hR := whR_no hmo
    have hK : teK ws = 3 := by unfold teK; rw [if_neg hmo]
    refine ⟨?_, ?_, by omega⟩
    · rcases Nat.lt_or_ge ws.length 3 with q | q
      · rw [teB_short hR q] at h; cases h
      · omega
    · unfold teR
      rw [hR, tl_drop, tl_drop, hK]
theorem rfL_no {n : Nat} {any all : Bool} {ws : List (List UInt8)} (h : teB ws = false) : rfL n any all ws = (false, false) := by rw [rfL.eq_def, if_pos h]
theorem rfL_nil {n : Nat} {any all : Bool} {ws : List (List UInt8)} (h : teB ws = true) (h2 : teR ws = []) : rfL n any all ws = (true, any || (all && teH n ws)) := by
  rw [rfL.eq_def, if_neg (by rw [h]; simp)]
  split
  · rfl
  · rename_i e; rw [h2] at e; cases e
theorem rfL_cons {n : Nat} {any all : Bool} {ws : List (List UInt8)} {x : List UInt8} {r : List (List UInt8)} (h : teB ws = true) (h2 : teR ws = x :: r) :
    rfL n any all ws = if x = wOr then rfL n (any || (all && teH n ws)) true r else if x = wAnd then rfL n any (all && teH n ws) r else (false, false) := by
  rw [rfL.eq_def, if_neg (by rw [h]; simp)]
  split
  · rename_i e; rw [h2] at e; cases e
  · rename_i w r' e
    rw [h2] at e
    injection e with e1 e2
    subst e1 e2
    rfl
theorem rtest_L (N R off cap L : Nat) (ws : List (List UInt8)) (w : World) (hr : RdS ws R off w) (hL : L = ws.length) (hcap : L ≤ cap) (hcm : cap ≤ maxLen) (hl : ∀ x ∈ ws, x.length ≤ 7000) (hN : (N : Int) ≤ 4611686018427387904) :
    Calls Tryz.prog 112 #[.slice (some ⟨R, off, none⟩) L cap, .int .i64 (N : Int)] w fun e w' => e = .returned (rtV N ws) ∧ Ext w w' := by
  subst hL
  exact rtest_c N R off cap ws w hr hcap hcm hl hN
set_option maxRecDepth 100000 in
set_option maxHeartbeats 4000000 in
theorem rRule_in (s : List UInt8) (N : Nat) (w : World) (hs : s.length ≤ 200) (hN : (N : Int) ≤ 4611686018427387904) :
    Calls Tryz.prog 89 #[.string ⟨s.toArray⟩, .int .i64 (N : Int)] w fun e w' => e = .returned (.tuple #[.bool (rfL N false true (spl 32 s)).1, .bool (rfL N false true (spl 32 s)).2]) ∧ Ext w w' := by
  have hPl := spl_len 32 s
  have hsh : Hid (∀ x ∈ spl 32 s, x.length ≤ 7000) := fun x hx => by have := hPl x hx; omega
  have hPc := spl_count 32 s
  have d0 : decide (200 < (s.length : Int)) = false := by simp; omega
  clear hPl
  obtain ⟨T, hT⟩ : ∃ T, T = rfL N false true (spl 32 s) := ⟨_, rfl⟩
  rw [← hT]
  have HT := Lib.hid hT.symm
  clear hT
  go_enter Tryz.func89, Tryz.ntmps89
  go_wp2_with (go_at_call 51; (with_reducible refine (rsplit_32 s _ (by omega)).mono ?_); rintro e w2 ⟨R, cap, rfl, hp1, hp2, hp3, hp4, hE2⟩)
  have Hp3 := Lib.hid hp3
  unfold maxLen at hp2
  clear hp3
  generalize spl 32 s = P at hsh hPc hp1 Hp3 HT ⊢
  go_loopw [6, 7, 8] (fun sl an al wr => ∃ (ws : List (List UInt8)) (off cap : Nat) (a b : Bool), sl = .slice (some ⟨R, off, none⟩) ws.length cap ∧ an = .bool a ∧ al = .bool b ∧ ws.length ≤ cap ∧ cap ≤ 9223372036854775807 ∧ Hid (RdS ws R off wr) ∧ Hid (∀ x ∈ ws, x.length ≤ 7000) ∧ Hid (rfL N a b ws = T) ∧ Ext w wr) (fun sl _ _ _ => match sl with | .slice _ l _ => l | _ => 0)
  case atStart => exact ⟨P, 0, cap, false, true, rfl, rfl, rfl, hp1, by omega, Hp3, hsh, HT, hE2⟩
  case round =>
    obtain ⟨ws, off, cap, a, b, rfl, rfl, rfl, hcap, hcm, Hr, Hl, HTr, hE⟩ := hrel
    clear hsh hPc hp1 Hp3 HT hE2
    rcases Bool.eq_false_or_eq_true (teB ws) with hb | hb
    · obtain ⟨hk1, hk2, hk3⟩ := teK_le hb
      have HV := Lib.hid (rtV_yes (N := N) hb)
      obtain ⟨K, hK⟩ : ∃ K, K = teK ws := ⟨_, rfl⟩
      rw [← hK] at hk1 hk2 hk3 HV
      obtain ⟨th, hth⟩ : ∃ th, th = teH N ws := ⟨_, rfl⟩
      rw [← hth] at HV
      clear hK
      cases hrest : teR ws with
      | nil =>
        have hKl : K = ws.length := by
          rw [hrest] at hk2
          have := congrArg List.length hk2
          rw [List.length_drop] at this
          simp at this; omega
        have HF : Hid (T = (true, a || (b && th))) := by rw [Hid, ← HTr.out, rfL_nil hb hrest, hth]
        have Hb := Lib.hid hb
        clear hk2 hrest hth hb
        by_cases hc : K = cap
        all_goals
          cases a <;> cases b
          all_goals
            go_wp2_with (go_at_call 112; (with_reducible refine (rtest_c N R off cap ws _ Hr.out hcap (by unfold maxLen; omega) Hl.out hN).mono ?_); (with_reducible rw [HV.out]); rintro e w3 ⟨rfl, hE3⟩)
            go_ret2
            exact ⟨by rw [HF.out]; rfl, hE.trans hE3⟩
      | cons x r =>
        rw [hrest] at hk2
        have hlen : ws.length = K + (r.length + 1) := by
          have := congrArg List.length hk2
          rw [List.length_drop, List.length_cons] at this
          omega
        have HF : Hid (T = if x = wOr then rfL N (a || (b && th)) true r else if x = wAnd then rfL N a (b && th) r else (false, false)) := by rw [Hid, ← HTr.out, rfL_cons hb hrest, hth]
        have Hd : Hid (RdS (x :: r) R (off + K) wr) := by
          have := Hr.out.drop K
          rw [← hk2] at this
          exact this
        have hR := Hr.out.1
        have cx := Hd.out.2 0 (by simp)
        rw [Nat.add_zero, List.getElem_cons_zero] at cx
        have Hd2 : Hid (RdS r R (off + K + 1) wr) := Hd.out.drop 1
        have Hl2 : Hid (∀ y ∈ r, y.length ≤ 7000) := by
          intro y hy
          refine Hl.out y ?_
          have : y ∈ ws.drop K := by rw [← hk2]; simp [hy]
          exact List.mem_of_mem_drop this
        obtain ⟨c3, hc3⟩ : ∃ c3, cap = K + (c3 + 1) := ⟨cap - K - 1, by omega⟩
        subst hc3
        have Hca : Hid (∀ L, L = ws.length → L ≤ K + (c3 + 1)) := by intro L hL; omega
        have hrc : r.length ≤ c3 := by omega
        obtain ⟨L, hL⟩ : ∃ L, L = ws.length := ⟨_, rfl⟩
        rw [← hL]
        have HL := Lib.hid hL
        have HLe : L = K + (r.length + 1) := by omega
        clear hk1 hk2 hlen hcap hrest hth hb hL Hd
        subst HLe
        by_cases g1 : x = wOr
        · have t1 : (x == [111, 114]) = true := by rw [g1]; rfl
          have HF2 : Hid (rfL N (a || (b && th)) true r = T) := by rw [Hid, HF.out, if_pos g1]
          clear g1
          by_cases hz : c3 = 0
          · obtain rfl : r = [] := List.length_eq_zero_iff.1 (by omega)
            subst hz
            replace HL : Hid (K + 1 = ws.length) := HL.out
            cases a <;> cases b
            all_goals
              go_wp2_with (go_at_call 112; (with_reducible refine (rtest_L N R off _ _ ws _ Hr.out HL.out (by omega) (by unfold maxLen; omega) Hl.out hN).mono ?_); (with_reducible rw [HV.out]); rintro e w3 ⟨rfl, hE3⟩; have cx3 := (hE3.cells _ _ hR).trans cx)
              go_roundw
              case rel => exact ⟨_, _, _, _, _, rfl, rfl, rfl, by omega, by omega, RdS.ext (by first | exact Hd2.out | exact ⟨hR, fun i hi => absurd hi (by simp)⟩) hE3, Hl2.out, (by rw [Hid]; simpa using HF2.out), hE.trans hE3⟩
              case measure => simp <;> omega
          · cases a <;> cases b
            all_goals
              go_wp2_with (go_at_call 112; (with_reducible refine (rtest_L N R off _ _ ws _ Hr.out HL.out (by omega) (by unfold maxLen; omega) Hl.out hN).mono ?_); (with_reducible rw [HV.out]); rintro e w3 ⟨rfl, hE3⟩; have cx3 := (hE3.cells _ _ hR).trans cx)
              go_roundw
              case rel => exact ⟨_, _, _, _, _, rfl, rfl, rfl, by omega, by omega, RdS.ext (by first | exact Hd2.out | exact ⟨hR, fun i hi => absurd hi (by simp)⟩) hE3, Hl2.out, (by rw [Hid]; simpa using HF2.out), hE.trans hE3⟩
              case measure => simp <;> omega
        · have t1 : (x == [111, 114]) = false := beq_eq_false_iff_ne.2 g1
          by_cases g2 : x = wAnd
          · have t2 : (x == [97, 110, 100]) = true := by rw [g2]; rfl
            have t3 : (x != [97, 110, 100]) = false := by rw [g2]; rfl
            have HF2 : Hid (rfL N a (b && th) r = T) := by rw [Hid, HF.out, if_neg g1, if_pos g2]
            clear g1 g2
            by_cases hz : c3 = 0
            · obtain rfl : r = [] := List.length_eq_zero_iff.1 (by omega)
              subst hz
              replace HL : Hid (K + 1 = ws.length) := HL.out
              cases a <;> cases b
              all_goals
                go_wp2_with (go_at_call 112; (with_reducible refine (rtest_L N R off _ _ ws _ Hr.out HL.out (by omega) (by unfold maxLen; omega) Hl.out hN).mono ?_); (with_reducible rw [HV.out]); rintro e w3 ⟨rfl, hE3⟩; have cx3 := (hE3.cells _ _ hR).trans cx)
                go_roundw
                case rel => exact ⟨_, _, _, _, _, rfl, rfl, rfl, by omega, by omega, RdS.ext (by first | exact Hd2.out | exact ⟨hR, fun i hi => absurd hi (by simp)⟩) hE3, Hl2.out, (by rw [Hid]; simpa using HF2.out), hE.trans hE3⟩
                case measure => simp <;> omega
            · cases a <;> cases b
              all_goals
                go_wp2_with (go_at_call 112; (with_reducible refine (rtest_L N R off _ _ ws _ Hr.out HL.out (by omega) (by unfold maxLen; omega) Hl.out hN).mono ?_); (with_reducible rw [HV.out]); rintro e w3 ⟨rfl, hE3⟩; have cx3 := (hE3.cells _ _ hR).trans cx)
                go_roundw
                case rel => exact ⟨_, _, _, _, _, rfl, rfl, rfl, by omega, by omega, RdS.ext (by first | exact Hd2.out | exact ⟨hR, fun i hi => absurd hi (by simp)⟩) hE3, Hl2.out, (by rw [Hid]; simpa using HF2.out), hE.trans hE3⟩
                case measure => simp <;> omega
          · have t2 : (x == [97, 110, 100]) = false := beq_eq_false_iff_ne.2 g2
            have t3 : (x != [97, 110, 100]) = true := bne_iff_ne.2 g2
            have HF2 : Hid (T = (false, false)) := by rw [Hid, HF.out, if_neg g1, if_neg g2]
            clear g1 g2
            cases b
            all_goals
              go_wp2_with (go_at_call 112; (with_reducible refine (rtest_L N R off _ _ ws _ Hr.out HL.out (by omega) (by unfold maxLen; omega) Hl.out hN).mono ?_); (with_reducible rw [HV.out]); rintro e w3 ⟨rfl, hE3⟩; have cx3 := (hE3.cells _ _ hR).trans cx)
              go_ret2
              exact ⟨by rw [HF2.out]; rfl, hE.trans hE3⟩
    · have HF : Hid (T = (false, false)) := by rw [Hid, ← HTr.out, rfL_no hb]
      have HV := Lib.hid (rtV_no (N := N) hb)
      clear hb
      go_wp2_with (go_at_call 112; (with_reducible refine (rtest_c N R off cap ws _ Hr.out hcap (by unfold maxLen; omega) Hl.out hN).mono ?_); (with_reducible rw [HV.out]); rintro e w3 ⟨rfl, hE3⟩)
      go_ret2
      exact ⟨by rw [HF.out]; rfl, hE.trans hE3⟩
end Go.Proofs.YtnhdmnhfllecgaaGreatDoor
/- The walks of the reference's Rule and Holds, whole. -/
namespace Go.Proofs.YtnhdmnhfllecgaaGreatDoor
set_option linter.unusedVariables false
set_option linter.unusedSimpArgs false
open Go.RowKit

theorem rRule_c (s : List UInt8) (N : Nat) (w : World) (hs : s.length ≤ 7000) (hN : (N : Int) ≤ 4611686018427387904) :
    Calls Tryz.prog 89 #[.string ⟨s.toArray⟩, .int .i64 (N : Int)] w fun e w' => e = .returned (.tuple #[.bool (okR s), .bool (okR s && (rul N (wds s)).1)]) ∧ Ext w w' := by
  by_cases h : s.length ≤ 200
  · have e1 : okR s = (rul N (wds s)).2 := by unfold okR; rw [rul_ind 0 N]; simp [h]
    rw [e1]
    have q := rRule_in s N w h hN
    have e2 : rfL N false true (spl 32 s) = ((rul N (wds s)).2, (rul N (wds s)).2 && (rul N (wds s)).1) := by
      rw [rfL_rul]
      show (if (rul N (wds s)).2 = true then (true, (rul N (wds s)).1) else (false, false)) = _
      cases (rul N (wds s)).2 <;> rfl
    rw [e2] at q
    exact q
  · have e1 : okR s = false := by unfold okR; simp; omega
    have d0 : decide (200 < (s.length : Int)) = true := by simp; omega
    have He := Lib.hid e1
    clear e1 h
    go_enter Tryz.func89, Tryz.ntmps89
    go_wp2
    go_ret2
    exact ⟨by rw [He.out]; rfl, Ext.refl _⟩
theorem rRule_0 (s : List UInt8) (w : World) (hs : s.length ≤ 7000) :
    Calls Tryz.prog 89 #[.string ⟨s.toArray⟩, .int .i64 0] w fun e w' => e = .returned (.tuple #[.bool (okR s), .bool (okR s && (rul 0 (wds s)).1)]) ∧ Ext w w' := rRule_c s 0 w hs (by omega)
end Go.Proofs.YtnhdmnhfllecgaaGreatDoor
