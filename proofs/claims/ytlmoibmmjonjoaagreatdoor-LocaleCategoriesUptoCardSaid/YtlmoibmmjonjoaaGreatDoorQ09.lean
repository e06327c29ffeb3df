/- The walks of the reference's Rule and Holds. -/
import Derived.Test.YtlmoibmmjonjoaaGreatDoorQ08
import Derived.Test.YtlmoibmmjonjoaaGreatDoorQ03
import Derived.Test.YtlmoibmmjonjoaaGreatDoorQ07
namespace Go.Proofs.YtlmoibmmjonjoaaGreatDoor
set_option linter.unusedVariables false
set_option linter.unusedSimpArgs false
open Go.RowKit

theorem teK_le {ws : List (List UInt8)} (h : teB ws = true) : teK ws ≤ ws.length ∧ teR ws = ws.drop (teK ws) ∧ 1 ≤ teK ws := by
  by_cases hmo : (tl1 ws).head? = some wMod
  · have hR := whR_mod hmo
    have hK : teK ws = 5 := by unfold teK; rw [if_pos hmo]
    refine ⟨?_, ?_, by omega⟩
    · rcases Nat.lt_or_ge ws.length 5 with q | q
      · rw [teB_short hR q] at h; cases h
      · omega
    · unfold teR
      rw [hR, tl_drop, tl_drop, hK]
  · have hR := whR_no hmo
    have hK : teK ws = 3 := by unfold teK; rw [if_neg hmo]
    refine ⟨?_, ?_, by omega⟩
    · rcases Nat.lt_or_ge ws.length 3 with q | q
      · rw [teB_short hR q] at h; cases h
      · omega
    · unfold teR
      rw [hR, tl_drop, tl_drop, hK]
theorem rfL_no {n : Nat} {any all : Bool} {ws : List (List UInt8)} (h : teB ws = false) : rfL n any all ws = (false, false) := by rw [rfL.eq_def, if_pos h]
theorem rfL_nil {n : Nat} {any all : Bool} {ws : List (List UInt8)} (h : teB ws = true) (h2 : teR ws = []) : rfL n any all ws = (true, any || (all && teH n ws)) := by
  rw [rfL.eq_def, if_neg (by rw [h]; simp)]
  split
  · rfl
  · rename_i e; rw [h2] at e; cases e
theorem rfL_cons {n : Nat} {any all : Bool} {ws : List (List UInt8)} {x : List UInt8} {r : List (List UInt8)} (h : teB ws = true) (h2 : teR ws = x :: r) :
    rfL n any all ws = if x = wOr then rfL n (any || (all && teH n ws)) true r else if x = wAnd then rfL n any (all && teH n ws) r else (false, false) := by
  rw [rfL.eq_def, if_neg (by rw [h]; simp)]
  split
  · rename_i e; rw [h2] at e; cases e
  · rename_i w r' e
    rw [h2] at e
    injection e with e1 e2
    subst e1 e2
    rfl
theorem rtest_L (N R off cap L : Nat) (ws : List (List UInt8)) (w : World) (hr : RdS ws R off w) (hL : L = ws.length) (hcap : L ≤ cap) (hcm : cap ≤ maxLen) (hl : ∀ x ∈ ws, x.length ≤ 4000) (hN : (N : Int) ≤ 4611686018427387904) :
    Calls Tryz.prog 108 #[.slice (some ⟨R, off, none⟩) L cap, .int .i64 (N : Int)] w fun e w' => e = .returned (rtV N ws) ∧ Ext w w' := by
  subst hL
  exact rtest_c N R off cap ws w hr hcap hcm hl hN
set_option maxRecDepth 100000 in
set_option maxHeartbeats 4000000 in
theorem rRule_in (s : List UInt8) (N : Nat) (w : World) (hs : s.length ≤ 200) (hN : (N : Int) ≤ 4611686018427387904) :
    Calls Tryz.prog 66 #[.string ⟨s.toArray⟩, .int .i64 (N : Int)] w fun e w' => e = .returned (.tuple #[.bool (rfL N false true (spl 32 s)).1, .bool (rfL N false true (spl 32 s)).2]) ∧ Ext w w' := by
  have hPl := spl_len 32 s
  have hsh : Hid (∀ x ∈ spl 32 s, x.length ≤ 4000) := fun x hx => by have := hPl x hx; omega
  have hPc := spl_count 32 s
  have d0 : decide (200 < (s.length : Int)) = false := by simp; omega
  clear hPl
  obtain ⟨T, hT⟩ : ∃ T, T = rfL N false true (spl 32 s) := ⟨_, rfl⟩
  rw [← hT]
  have HT := Lib.hid hT.symm
  clear hT
  go_enter Tryz.func66, Tryz.ntmps66
  go_wp2_with (go_at_call 107; (with_reducible refine (rsplit_32 s _ (by omega)).mono ?_); rintro e w2 ⟨R, cap, rfl, hp1, hp2, hp3, hp4, hE2⟩)
  have Hp3 := Lib.hid hp3
  unfold maxLen at hp2
  clear hp3
  generalize spl 32 s = P at hsh hPc hp1 Hp3 HT ⊢
  go_loopw [6, 7, 8] (fun sl an al wr => ∃ (ws : List (List UInt8)) (off cap : Nat) (a b : Bool), sl = .slice (some ⟨R, off, none⟩) ws.length cap ∧ an = .bool a ∧ al = .bool b ∧ ws.length ≤ cap ∧ cap ≤ 9223372036854775807 ∧ Hid (RdS ws R off wr) ∧ Hid (∀ x ∈ ws, x.length ≤ 4000) ∧ Hid (rfL N a b ws = T) ∧ Ext w wr) (fun sl _ _ _ => match sl with | .slice _ l _ => l | _ => 0)
  case atStart => exact ⟨P, 0, cap, false, true, rfl, rfl, rfl, hp1, by omega, Hp3, hsh, HT, hE2⟩
  case round =>
    obtain ⟨ws, off, cap, a, b, rfl, rfl, rfl, hcap, hcm, Hr, Hl, HTr, hE⟩ := hrel
    clear hsh hPc hp1 Hp3 HT hE2
    rcases Bool.eq_false_or_eq_true (teB ws) with hb | hb
    · obtain ⟨hk1, hk2, hk3⟩ := teK_le hb
      have HV := Lib.hid (rtV_yes (N := N) hb)
      obtain ⟨K, hK⟩ : ∃ K, K = teK ws := ⟨_, rfl⟩
      rw [← hK] at hk1 hk2 hk3 HV
      obtain ⟨th, hth⟩ : ∃ th, th = teH N ws := ⟨_, rfl⟩
      rw [← hth] at HV
      clear hK
      cases hrest : teR ws with
      | nil =>
        have hKl : K = ws.length := by
          rw [hrest] at hk2
          have := congrArg List.length hk2
          rw [List.length_drop] at this
          simp at this; omega
        have HF : Hid (T = (true, a || (b && th))) := by rw [Hid, ← HTr.out, rfL_nil hb hrest, hth]
        have Hb := Lib.hid hb
        clear hk2 hrest hth hb
        by_cases hc : K = cap
        all_goals
          cases a <;> cases b
          all_goals
            go_wp2_with (go_at_call 108; (with_reducible refine (rtest_c N R off cap ws _ Hr.out hcap (by unfold maxLen; omega) Hl.out hN).mono ?_); (with_reducible rw [HV.out]); rintro e w3 ⟨rfl, hE3⟩)
            go_ret2
            exact ⟨by rw [HF.out]; rfl, hE.trans hE3⟩
      | cons x r =>
        rw [hrest] at hk2
        have hlen : ws.length = K + (r.length + 1) := by
          have := congrArg List.length hk2
          rw [List.length_drop, List.length_cons] at this
          omega
        have HF : Hid (T = if x = wOr then rfL N (a || (b && th)) true r else if x = wAnd then rfL N a (b && th) r else (false, false)) := by rw [Hid, ← HTr.out, rfL_cons hb hrest, hth]
        have Hd : Hid (RdS (x :: r) R (off + K) wr) := by
          have := Hr.out.drop K
          rw [← hk2] at this
          exact this
        have hR := Hr.out.1
        have cx := Hd.out.2 0 (by simp)
        rw [Nat.add_zero, List.getElem_cons_zero] at cx
        have Hd2 : Hid (RdS r R (off + K + 1) wr) := Hd.out.drop 1
        have Hl2 : Hid (∀ y ∈ r, y.length ≤ 4000) := by
          intro y hy
          refine Hl.out y ?_
          have : y ∈ ws.drop K := by rw [← hk2]; simp [hy]
          exact List.mem_of_mem_drop this
        obtain ⟨c3, hc3⟩ : ∃ c3, cap = K + (c3 + 1) := ⟨cap - K - 1, by omega⟩
        subst hc3
        have Hca : Hid (∀ L, L = ws.length → L ≤ K + (c3 + 1)) := by intro L hL; omega
        have hrc : r.length ≤ c3 := by omega
        obtain ⟨L, hL⟩ : ∃ L, L = ws.length := ⟨_, rfl⟩
        rw [← hL]
        have HL := Lib.hid hL
        have HLe : L = K + (r.length + 1) := by omega
        clear hk1 hk2 hlen hcap hrest hth hb hL Hd
        subst HLe
        by_cases g1 : x = wOr
        · have t1 : (x == [111, 114]) = true := by rw [g1]; rfl
          have HF2 : Hid (rfL N (a || (b && th)) true r = T) := by rw [Hid, HF.out, if_pos g1]
          clear g1
          by_cases hz : c3 = 0
          · obtain rfl : r = [] := List.length_eq_zero_iff.1 (by omega)
            subst hz
            replace HL : Hid (K + 1 = ws.length) := HL.out
            cases a <;> cases b
            all_goals
              go_wp2_with (go_at_call 108; (with_reducible refine (rtest_L N R off _ _ ws _ Hr.out HL.out (by omega) (by unfold maxLen; omega) Hl.out hN).mono ?_); (with_reducible rw [HV.out]); rintro e w3 ⟨rfl, hE3⟩; have cx3 := (hE3.cells _ _ hR).trans cx)
              go_roundw
              case rel => exact ⟨_, _, _, _, _, rfl, rfl, rfl, by omega, by omega, RdS.ext (by first | exact Hd2.out | exact ⟨hR, fun i hi => absurd hi (by simp)⟩) hE3, Hl2.out, (by rw [Hid]; simpa using HF2.out), hE.trans hE3⟩
              case measure => simp <;> omega
          · cases a <;> cases b
            all_goals
              go_wp2_with (go_at_call 108; (with_reducible refine (rtest_L N R off _ _ ws _ Hr.out HL.out (by omega) (by unfold maxLen; omega) Hl.out hN).mono ?_); (with_reducible rw [HV.out]); rintro e w3 ⟨rfl, hE3⟩; have cx3 := (hE3.cells _ _ hR).trans cx)
              go_roundw
              case rel => exact ⟨_, _, _, _, _, rfl, rfl, rfl, by omega, by omega, RdS.ext (by first | exact Hd2.out | exact ⟨hR, fun i hi => absurd hi (by simp)⟩) hE3, Hl2.out, (by rw [Hid]; simpa using HF2.out), hE.trans hE3⟩
              case measure => simp <;> omega
        · have t1 : (x == [111, 114]) = false := beq_eq_false_iff_ne.2 g1
          by_cases g2 : x = wAnd
          · have t2 : (x == [97, 110, 100]) = true := by rw [g2]; rfl
            have t3 : (x != [97, 110, 100]) = false := by rw [g2]; rfl
            have HF2 : Hid (rfL N a (b && th) r = T) := by rw [Hid, HF.out, if_neg g1, if_pos g2]
            clear g1 g2
            by_cases hz : c3 = 0
            · obtain rfl : r = [] := List.length_eq_zero_iff.1 (by omega)
              subst hz
              replace HL : Hid (K + 1 = ws.length) := HL.out
              cases a <;> cases b
              all_goals
                go_wp2_with (go_at_call 108; (with_reducible refine (rtest_L N R off _ _ ws _ Hr.out HL.out (by omega) (by unfold maxLen; omega) Hl.out hN).mono ?_); (with_reducible rw [HV.out]); rintro e w3 ⟨rfl, hE3⟩; have cx3 := (hE3.cells _ _ hR).trans cx)
                go_roundw
                case rel => exact ⟨_, _, _, _, _, rfl, rfl, rfl, by omega, by omega, RdS.ext (by first | exact Hd2.out | exact ⟨hR, fun i hi => absurd hi (by simp)⟩) hE3, Hl2.out, (by rw [Hid]; simpa using HF2.out), hE.trans hE3⟩
                case measure => simp <;> omega
            · cases a <;> cases b
              all_goals
                go_wp2_with (go_at_call 108; (with_reducible refine (rtest_L N R off _ _ ws _ Hr.out HL.out (by omega) (by unfold maxLen; omega) Hl.out hN).mono ?_); (with_reducible rw [HV.out]); rintro e w3 ⟨rfl, hE3⟩; have cx3 := (hE3.cells _ _ hR).trans cx)
                go_roundw
                case rel => exact ⟨_, _, _, _, _, rfl, rfl, rfl, by omega, by omega, RdS.ext (by first | exact Hd2.out | exact ⟨hR, fun i hi => absurd hi (by simp)⟩) hE3, Hl2.out, (by rw [Hid]; simpa using HF2.out), hE.trans hE3⟩
                case measure => simp <;> omega
          · have t2 : (x == [97, 110, 100]) = false := beq_eq_false_iff_ne.2 g2
            have t3 : (x != [97, 110, 100]) = true := bne_iff_ne.2 g2
            have HF2 : Hid (T = (false, false)) := by rw [Hid, HF.out, if_neg g1, if_neg g2]
            clear g1 g2
            cases b
            all_goals
              go_wp2_with (go_at_call 108; (with_reducible refine (rtest_L N R off _ _ ws _ Hr.out HL.out (by omega) (by unfold maxLen; omega) Hl.out hN).mono ?_); (with_reducible rw [HV.out]); rintro e w3 ⟨rfl, hE3⟩; have cx3 := (hE3.cells _ _ hR).trans cx)
              go_ret2
              exact ⟨by rw [HF2.out]; rfl, hE.trans hE3⟩
    · have HF : Hid (T = (false, false)) := by rw [Hid, ← HTr.out, rfL_no hb]
      have HV := Lib.hid (rtV_no (N := N) hb)
      clear hb
      go_wp2_with (go_at_call 108; (with_reducible refine (rtest_c N R off cap ws _ Hr.out hcap (by unfold maxLen; omega) Hl.out hN).mono ?_); (with_reducible rw [HV.out]); rintro e w3 ⟨rfl, hE3⟩)
      go_ret2
      exact ⟨by rw [HF.out]; rfl, hE.trans hE3⟩
end Go.Proofs.YtlmoibmmjonjoaaGreatDoor
/- The walks of the reference's Rule and Holds, whole. -/
namespace Go.Proofs.YtlmoibmmjonjoaaGreatDoor
set_option linter.unusedVariables false
set_option linter.unusedSimpArgs false
open Go.RowKit

theorem rRule_c (s : List UInt8) (N : Nat) (w : World) (hs : s.length ≤ 4000) (hN : (N : Int) ≤ 4611686018427387904) :
    Calls Tryz.prog 66 #[.string ⟨s.toArray⟩, .int .i64 (N : Int)] w fun e w' => e = .returned (.tuple #[.bool (okR s), .bool (okR s && (rul N (wds s)).1)]) ∧ Ext w w' := by
  by_cases h : s.length ≤ 200
  · have e1 : okR s = (rul N (wds s)).2 := by unfold okR; rw [rul_ind 0 N]; simp [h]
    rw [e1]
    have q := rRule_in s N w h hN
    have e2 : rfL N false true (spl 32 s) = ((rul N (wds s)).2, (rul N (wds s)).2 && (rul N (wds s)).1) := by
      rw [rfL_rul]
      show (if (rul N (wds s)).2 = true then (true, (rul N (wds s)).1) else (false, false)) = _
      cases (rul N (wds s)).2 <;> rfl
    rw [e2] at q
    exact q
  · have e1 : okR s = false := by unfold okR; simp; omega
    have d0 : decide (200 < (s.length : Int)) = true := by simp; omega
    have He := Lib.hid e1
    clear e1 h
    go_enter Tryz.func66, Tryz.ntmps66
    go_wp2
    go_ret2
    exact ⟨by rw [He.out]; rfl, Ext.refl _⟩
theorem rRule_0 (s : List UInt8) (w : World) (hs : s.length ≤ 4000) :
    Calls Tryz.prog 66 #[.string ⟨s.toArray⟩, .int .i64 0] w fun e w' => e = .returned (.tuple #[.bool (okR s), .bool (okR s && (rul 0 (wds s)).1)]) ∧ Ext w w' := rRule_c s 0 w hs (by omega)
theorem abs_c (n : Int) (w : World) (h1 : -4611686018427387904 ≤ n) (h2 : n ≤ 4611686018427387904) :
    Calls Tryz.prog 31 #[.int .i64 n] w fun e w' => e = .returned (.int .i64 (n.natAbs : Nat)) ∧ w = w' := by
  have Hz : Hid (((n.natAbs : Nat) : Int) = if -n < n then n else -n) := by unfold Hid; split <;> omega
  by_cases h : -n < n
  all_goals
    go_enter Tryz.func31, Tryz.ntmps31
    go_wp2
    go_ret
    exact ⟨ret_i (by rw [Hz.out]; first | (split <;> omega) | (simp [h] <;> omega)), rfl⟩
end Go.Proofs.YtlmoibmmjonjoaaGreatDoor
/- Locales: the walks of rules and ruled. -/
namespace Go.Proofs.YtlmoibmmjonjoaaGreatDoor
set_option linter.unusedVariables false
set_option linter.unusedSimpArgs false
open Go.RowKit

theorem okR_nil : okR [] = false := by kernel_rfl
theorem isRule_l (s : List UInt8) (b : Bool) (w : World) (hm : Lm w) (hs : s.length ≤ 4000) (h : okR s = b) : Calls Tryz.prog 44 #[.string ⟨s.toArray⟩] w fun e w' => e = .returned (.bool b) ∧ Ext w w' := by
  rw [← h]; exact isRule_c s w hm hs
theorem rRule_l (s : List UInt8) (b : Bool) (w : World) (hs : s.length ≤ 4000) (h : okR s = b) : Calls Tryz.prog 66 #[.string ⟨s.toArray⟩, .int .i64 0] w fun e w' => ∃ v : Bool, e = .returned (.tuple #[.bool b, .bool v]) ∧ Ext w w' := by
  rw [← h]; exact (rRule_0 s w hs).mono fun _ _ ⟨a, b⟩ => ⟨_, a, b⟩
set_option maxRecDepth 100000 in
set_option maxHeartbeats 1000000 in
theorem rules_w (l : List Plu) (ao : Option Addr) (cap : Nat) (b : Bool) (w : World) (h : PlV ao cap l w) (hl : shP l) (hm : Lm w) (hb : rulB wordB l = b) :
    Calls Tryz.prog 36 #[.slice ao l.length cap, .func (.func 37) #[] #[]] w fun e w' => e = .returned (.bool b) ∧ Ext w w' := by
  have hlen := h.1
  have hcap := h.2.1
  unfold maxLen at hcap
  have HP := Lib.hid h.2.2
  have Hl := Lib.hid hl
  have Hm := Lib.hid hm
  clear h hl hm
  by_cases h1 : 1 ≤ l.length
  · by_cases h2 : l.length ≤ 8
    · have HB := Lib.hid hb
      clear hb
      go_enter Tryz.func36, Tryz.ntmps36
      go_wp2_with fail
      go_loopw [18] (fun i wr => ∃ j : Nat, j ≤ l.length ∧ i = .int .i64 (j : Int) ∧ Hid (∀ i, i < j → rdAt l i) ∧ Hid (∀ i (h : i < l.length), i < j → wordB l[i].c = true) ∧ Ext w wr) (fun i _ => l.length - (intOf i).toNat)
      case atStart => exact ⟨0, Nat.zero_le _, rfl, fun i hi => absurd hi (Nat.not_lt_zero i), fun i _ hi => absurd hi (Nat.not_lt_zero i), Ext.refl _⟩
      case round =>
        obtain ⟨j, hj, rfl, Hall, Hg, hE⟩ := hrel
        by_cases hlt : j < l.length
        · obtain ⟨R, off, rfl, hR0, hc⟩ := HP.out (by rintro rfl; simp at hlt)
          obtain ⟨c0, c1⟩ := hc j hlt
          replace c0 := (hE.cells R _ hR0).trans c0
          replace c1 := (hE.cells R _ hR0).trans c1
          have hRr := hE.lt hR0
          have hsh := Hl.out l[j] (List.getElem_mem _)
          have HN : Hid (¬ rdAt l j → b = false) := fun q => by rw [← HB.out]; unfold rulB; rw [ruled_no j hlt q]; rfl
          have HG : Hid (wordB l[j].c = false → b = false) := fun q => by rw [← HB.out]; unfold rulB; rw [all_plu_no j hlt q]; simp
          have HGy : Hid (wordB l[j].c = true → ∀ i (h : i < l.length), i < j + 1 → wordB l[i].c = true) := fun q i h hi => by
            by_cases e : i = j
            · subst e; exact q
            · exact Hg.out i h (by omega)
          have hRd : rdAt l j ↔ (j + 1 = l.length → l[j].r = []) ∧ (j + 1 ≠ l.length → okR l[j].r = true) := ⟨fun q => q hlt, fun q _ => q⟩
          have HY : Hid (rdAt l j → ∀ i, i < j + 1 → rdAt l i) := fun q i hi => by
            by_cases e : i = j
            · rw [e]; exact q
            · exact Hall.out i (by omega)
          obtain ⟨p, hpp⟩ : ∃ p, p = l[j] := ⟨_, rfl⟩
          rw [← hpp] at c0 c1 hsh hRd HG HGy
          clear hpp hc
          obtain ⟨pc, pr⟩ := p
          simp only at c0 c1 hsh hRd HG HGy
          obtain ⟨hs1, hs2⟩ := hsh
          have hs1' : pc.length ≤ 9223372036854775806 := by omega
          have HRd := Lib.hid hRd
          have hEa : Ext w (wr.alloc (.cells #[.string ⟨pc.toArray⟩, .string ⟨pr.toArray⟩] 43)) := hE.alloc _
          have Hm1 := Lib.hid (Hm.out.ext hEa)
          clear hRd
          rcases Bool.eq_false_or_eq_true (wordB pc) with hg | hg
          · have HGd := Lib.hid hg
            have HGn := Lib.hid (HGy.out hg)
            clear hg
            by_cases hla : j + 1 = l.length
            · have t1 : ((j : Int) == (l.length : Int) - 1) = true := by rw [beq_iff_eq]; omega
              cases pr with
              | nil =>
                have HS := Lib.hid (HY.out (HRd.out.2 ⟨fun _ => rfl, fun q => absurd hla q⟩))
                clear hla
                go_wp2_with (first
                  | (go_at_call 37; (with_reducible refine (isWord_c pc true _ hs1' HGd.out).mono ?_); rintro e w1 ⟨rfl, rfl⟩))
                go_roundw
                case rel => exact ⟨j + 1, by omega, by go_num, HS, HGn, hEa⟩
                case measure => simp [intOf]; omega
              | cons x t =>
                have HF := Lib.hid (HN.out (fun q => by have := (HRd.out.1 q).1 hla; cases this))
                clear hla
                go_wp2_with (first
                  | (go_at_call 37; (with_reducible refine (isWord_c pc true _ hs1' HGd.out).mono ?_); rintro e w1 ⟨rfl, rfl⟩))
                go_ret
                exact ⟨by rw [HF.out]; rfl, hEa⟩
            · have t1 : ((j : Int) == (l.length : Int) - 1) = false := by rw [beq_eq_false_iff_ne]; omega
              rcases Bool.eq_false_or_eq_true (okR pr) with ho | ho
              · have HO := Lib.hid ho
                have HS := Lib.hid (HY.out (HRd.out.2 ⟨fun q => absurd q hla, fun _ => ho⟩))
                clear hla ho
                go_wp2_with (first
                  | (go_at_call 37; (with_reducible refine (isWord_c pc true _ hs1' HGd.out).mono ?_); rintro e w1 ⟨rfl, rfl⟩)
                  | (go_at_call 44; (with_reducible refine (isRule_l pr true _ Hm1.out hs2 HO.out).mono ?_); rintro e w2 ⟨rfl, hE2⟩))
                go_roundw
                case rel => exact ⟨j + 1, by omega, by go_num, HS, HGn, hEa.trans hE2⟩
                case measure => simp [intOf]; omega
              · have HO := Lib.hid ho
                have HF := Lib.hid (HN.out (fun q => by have := (HRd.out.1 q).2 hla; rw [ho] at this; cases this))
                clear hla ho
                go_wp2_with (first
                  | (go_at_call 37; (with_reducible refine (isWord_c pc true _ hs1' HGd.out).mono ?_); rintro e w1 ⟨rfl, rfl⟩)
                  | (go_at_call 44; (with_reducible refine (isRule_l pr false _ Hm1.out hs2 HO.out).mono ?_); rintro e w2 ⟨rfl, hE2⟩))
                go_ret
                exact ⟨by rw [HF.out]; rfl, hEa.trans hE2⟩
          · have HGd := Lib.hid hg
            have HF := Lib.hid (HG.out hg)
            have t1 : ((j : Int) == (l.length : Int) - 1) = decide (j + 1 = l.length) := by rw [Bool.eq_iff_iff, beq_iff_eq, decide_eq_true_eq]; omega
            clear hg
            go_wp2_with (first
              | (go_at_call 37; (with_reducible refine (isWord_c pc false _ hs1' HGd.out).mono ?_); rintro e w1 ⟨rfl, rfl⟩))
            go_ret
            exact ⟨by rw [HF.out]; rfl, hEa⟩
        · obtain rfl : j = l.length := by omega
          have Hn : Hid (b = true) := by rw [Hid, ← HB.out]; unfold rulB; rw [ruled_yes h1 h2 Hall.out, all_plu (fun i hi => Hg.out i hi hi)]; rfl
          go_wp2_with fail
          go_ret
          exact ⟨by rw [Hn.out]; rfl, hE⟩
    · have hq : rulB wordB l = false := by unfold rulB ruledB; rw [decide_eq_false h2]; simp
      rw [hq] at hb
      subst hb
      have d2 : (8 : Int) < (l.length : Int) := by omega
      clear h2 hq
      go_enter Tryz.func36, Tryz.ntmps36
      go_wp2_with fail
      go_ret
      exact ⟨rfl, Ext.refl _⟩
  · have hq : rulB wordB l = false := by unfold rulB ruledB; rw [decide_eq_false h1]; simp
    rw [hq] at hb
    subst hb
    have d2 : (l.length : Int) < 1 := by omega
    clear h1 hq
    go_enter Tryz.func36, Tryz.ntmps36
    go_wp2_with fail
    go_ret
    exact ⟨rfl, Ext.refl _⟩
set_option maxRecDepth 100000 in
set_option maxHeartbeats 1000000 in
theorem rules_s (l : List Plu) (ao : Option Addr) (cap : Nat) (b : Bool) (w : World) (h : PlV ao cap l w) (hl : shP l) (hm : Lm w) (hb : rulB suffB l = b) :
    Calls Tryz.prog 36 #[.slice ao l.length cap, .func (.func 38) #[] #[]] w fun e w' => e = .returned (.bool b) ∧ Ext w w' := by
  have hlen := h.1
  have hcap := h.2.1
  unfold maxLen at hcap
  have HP := Lib.hid h.2.2
  have Hl := Lib.hid hl
  have Hm := Lib.hid hm
  clear h hl hm
  by_cases h1 : 1 ≤ l.length
  · by_cases h2 : l.length ≤ 8
    · have HB := Lib.hid hb
      clear hb
      go_enter Tryz.func36, Tryz.ntmps36
      go_wp2_with fail
      go_loopw [18] (fun i wr => ∃ j : Nat, j ≤ l.length ∧ i = .int .i64 (j : Int) ∧ Hid (∀ i, i < j → rdAt l i) ∧ Hid (∀ i (h : i < l.length), i < j → suffB l[i].c = true) ∧ Ext w wr) (fun i _ => l.length - (intOf i).toNat)
      case atStart => exact ⟨0, Nat.zero_le _, rfl, fun i hi => absurd hi (Nat.not_lt_zero i), fun i _ hi => absurd hi (Nat.not_lt_zero i), Ext.refl _⟩
      case round =>
        obtain ⟨j, hj, rfl, Hall, Hg, hE⟩ := hrel
        by_cases hlt : j < l.length
        · obtain ⟨R, off, rfl, hR0, hc⟩ := HP.out (by rintro rfl; simp at hlt)
          obtain ⟨c0, c1⟩ := hc j hlt
          replace c0 := (hE.cells R _ hR0).trans c0
          replace c1 := (hE.cells R _ hR0).trans c1
          have hRr := hE.lt hR0
          have hsh := Hl.out l[j] (List.getElem_mem _)
          have HN : Hid (¬ rdAt l j → b = false) := fun q => by rw [← HB.out]; unfold rulB; rw [ruled_no j hlt q]; rfl
          have HG : Hid (suffB l[j].c = false → b = false) := fun q => by rw [← HB.out]; unfold rulB; rw [all_plu_no j hlt q]; simp
          have HGy : Hid (suffB l[j].c = true → ∀ i (h : i < l.length), i < j + 1 → suffB l[i].c = true) := fun q i h hi => by
            by_cases e : i = j
            · subst e; exact q
            · exact Hg.out i h (by omega)
          have hRd : rdAt l j ↔ (j + 1 = l.length → l[j].r = []) ∧ (j + 1 ≠ l.length → okR l[j].r = true) := ⟨fun q => q hlt, fun q _ => q⟩
          have HY : Hid (rdAt l j → ∀ i, i < j + 1 → rdAt l i) := fun q i hi => by
            by_cases e : i = j
            · rw [e]; exact q
            · exact Hall.out i (by omega)
          obtain ⟨p, hpp⟩ : ∃ p, p = l[j] := ⟨_, rfl⟩
          rw [← hpp] at c0 c1 hsh hRd HG HGy
          clear hpp hc
          obtain ⟨pc, pr⟩ := p
          simp only at c0 c1 hsh hRd HG HGy
          obtain ⟨hs1, hs2⟩ := hsh
          have hs1' : pc.length ≤ 9223372036854775806 := by omega
          have HRd := Lib.hid hRd
          have hEa : Ext w (wr.alloc (.cells #[.string ⟨pc.toArray⟩, .string ⟨pr.toArray⟩] 43)) := hE.alloc _
          have Hm1 := Lib.hid (Hm.out.ext hEa)
          clear hRd
          rcases Bool.eq_false_or_eq_true (suffB pc) with hg | hg
          · have HGd := Lib.hid hg
            have HGn := Lib.hid (HGy.out hg)
            clear hg
            by_cases hla : j + 1 = l.length
            · have t1 : ((j : Int) == (l.length : Int) - 1) = true := by rw [beq_iff_eq]; omega
              cases pr with
              | nil =>
                have HS := Lib.hid (HY.out (HRd.out.2 ⟨fun _ => rfl, fun q => absurd hla q⟩))
                clear hla
                go_wp2_with (first
                  | (go_at_call 38; (with_reducible refine (isSuffix_c pc true _ hs1' HGd.out).mono ?_); rintro e w1 ⟨rfl, rfl⟩))
                go_roundw
                case rel => exact ⟨j + 1, by omega, by go_num, HS, HGn, hEa⟩
                case measure => simp [intOf]; omega
              | cons x t =>
                have HF := Lib.hid (HN.out (fun q => by have := (HRd.out.1 q).1 hla; cases this))
                clear hla
                go_wp2_with (first
                  | (go_at_call 38; (with_reducible refine (isSuffix_c pc true _ hs1' HGd.out).mono ?_); rintro e w1 ⟨rfl, rfl⟩))
                go_ret
                exact ⟨by rw [HF.out]; rfl, hEa⟩
            · have t1 : ((j : Int) == (l.length : Int) - 1) = false := by rw [beq_eq_false_iff_ne]; omega
              rcases Bool.eq_false_or_eq_true (okR pr) with ho | ho
              · have HO := Lib.hid ho
                have HS := Lib.hid (HY.out (HRd.out.2 ⟨fun q => absurd q hla, fun _ => ho⟩))
                clear hla ho
                go_wp2_with (first
                  | (go_at_call 38; (with_reducible refine (isSuffix_c pc true _ hs1' HGd.out).mono ?_); rintro e w1 ⟨rfl, rfl⟩)
                  | (go_at_call 44; (with_reducible refine (isRule_l pr true _ Hm1.out hs2 HO.out).mono ?_); rintro e w2 ⟨rfl, hE2⟩))
                go_roundw
                case rel => exact ⟨j + 1, by omega, by go_num, HS, HGn, hEa.trans hE2⟩
                case measure => simp [intOf]; omega
              · have HO := Lib.hid ho
                have HF := Lib.hid (HN.out (fun q => by have := (HRd.out.1 q).2 hla; rw [ho] at this; cases this))
                clear hla ho
                go_wp2_with (first
                  | (go_at_call 38; (with_reducible refine (isSuffix_c pc true _ hs1' HGd.out).mono ?_); rintro e w1 ⟨rfl, rfl⟩)
                  | (go_at_call 44; (with_reducible refine (isRule_l pr false _ Hm1.out hs2 HO.out).mono ?_); rintro e w2 ⟨rfl, hE2⟩))
                go_ret
                exact ⟨by rw [HF.out]; rfl, hEa.trans hE2⟩
          · have HGd := Lib.hid hg
            have HF := Lib.hid (HG.out hg)
            have t1 : ((j : Int) == (l.length : Int) - 1) = decide (j + 1 = l.length) := by rw [Bool.eq_iff_iff, beq_iff_eq, decide_eq_true_eq]; omega
            clear hg
            go_wp2_with (first
              | (go_at_call 38; (with_reducible refine (isSuffix_c pc false _ hs1' HGd.out).mono ?_); rintro e w1 ⟨rfl, rfl⟩))
            go_ret
            exact ⟨by rw [HF.out]; rfl, hEa⟩
        · obtain rfl : j = l.length := by omega
          have Hn : Hid (b = true) := by rw [Hid, ← HB.out]; unfold rulB; rw [ruled_yes h1 h2 Hall.out, all_plu (fun i hi => Hg.out i hi hi)]; rfl
          go_wp2_with fail
          go_ret
          exact ⟨by rw [Hn.out]; rfl, hE⟩
    · have hq : rulB suffB l = false := by unfold rulB ruledB; rw [decide_eq_false h2]; simp
      rw [hq] at hb
      subst hb
      have d2 : (8 : Int) < (l.length : Int) := by omega
      clear h2 hq
      go_enter Tryz.func36, Tryz.ntmps36
      go_wp2_with fail
      go_ret
      exact ⟨rfl, Ext.refl _⟩
  · have hq : rulB suffB l = false := by unfold rulB ruledB; rw [decide_eq_false h1]; simp
    rw [hq] at hb
    subst hb
    have d2 : (l.length : Int) < 1 := by omega
    clear h1 hq
    go_enter Tryz.func36, Tryz.ntmps36
    go_wp2_with fail
    go_ret
    exact ⟨rfl, Ext.refl _⟩
set_option maxRecDepth 100000 in
set_option maxHeartbeats 1000000 in
theorem ruled_c (l : List Plu) (ao : Option Addr) (cap : Nat) (b : Bool) (w : World) (h : PlV ao cap l w) (hl : shP l) (hb : ruledB l = b) :
    Calls Tryz.prog 63 #[.slice ao l.length cap] w fun e w' => e = .returned (.bool b) ∧ Ext w w' := by
  have hlen := h.1
  have hcap := h.2.1
  unfold maxLen at hcap
  have HP := Lib.hid h.2.2
  have Hl := Lib.hid hl
  clear h hl
  by_cases h1 : 1 ≤ l.length
  · by_cases h2 : l.length ≤ 8
    · have HB := Lib.hid hb
      clear hb
      go_enter Tryz.func63, Tryz.ntmps63
      go_wp2_with fail
      go_loopw [3] (fun i wr => ∃ j : Nat, j ≤ l.length ∧ i = .int .i64 (j : Int) ∧ Hid (∀ i, i < j → rdAt l i) ∧ Ext w wr) (fun i _ => l.length - (intOf i).toNat)
      case atStart => exact ⟨0, Nat.zero_le _, rfl, fun i hi => absurd hi (Nat.not_lt_zero i), Ext.refl _⟩
      case round =>
        obtain ⟨j, hj, rfl, Hall, hE⟩ := hrel
        by_cases hlt : j < l.length
        · obtain ⟨R, off, rfl, hR0, hc⟩ := HP.out (by rintro rfl; simp at hlt)
          obtain ⟨c0, c1⟩ := hc j hlt
          replace c0 := (hE.cells R _ hR0).trans c0
          replace c1 := (hE.cells R _ hR0).trans c1
          have hRr := hE.lt hR0
          have hsh := Hl.out l[j] (List.getElem_mem _)
          have HN : Hid (¬ rdAt l j → b = false) := fun q => by rw [← HB.out]; exact ruled_no j hlt q
          have hRd : rdAt l j ↔ (j + 1 = l.length → l[j].r = []) ∧ (j + 1 ≠ l.length → okR l[j].r = true) := ⟨fun q => q hlt, fun q _ => q⟩
          have HY : Hid (rdAt l j → ∀ i, i < j + 1 → rdAt l i) := fun q i hi => by
            by_cases e : i = j
            · rw [e]; exact q
            · exact Hall.out i (by omega)
          obtain ⟨p, hpp⟩ : ∃ p, p = l[j] := ⟨_, rfl⟩
          rw [← hpp] at c0 c1 hsh hRd
          clear hpp hc
          obtain ⟨pc, pr⟩ := p
          simp only at c0 c1 hsh hRd
          obtain ⟨hs1, hs2⟩ := hsh
          obtain ⟨o, ho⟩ : ∃ o, okR pr = o := ⟨_, rfl⟩
          have HO := Lib.hid ho
          have HRd := Lib.hid hRd
          clear hRd ho
          by_cases hla : j + 1 = l.length
          · have t1 : ((j : Int) == (l.length : Int) - 1) = true := by rw [beq_iff_eq]; omega
            cases pr with
            | nil =>
              obtain rfl : o = false := by rw [← HO.out]; exact okR_nil
              have HS := Lib.hid (HY.out (HRd.out.2 ⟨fun _ => rfl, fun q => absurd hla q⟩))
              clear hla
              go_wp2_with (first
                | (go_at_call 66; (with_reducible refine (rRule_l _ _ _ hs2 HO.out).mono ?_); rintro e w1 ⟨v, rfl, hE1⟩; have d1 := (hE1.cells R _ hRr).trans c1))
              go_roundw
              case rel => exact ⟨j + 1, by omega, by go_num, HS, hE.trans hE1⟩
              case measure => simp [intOf]; omega
            | cons x t =>
              have HF := Lib.hid (HN.out (fun q => by have := (HRd.out.1 q).1 hla; cases this))
              cases o
              all_goals
                clear hla
                go_wp2_with (first
                  | (go_at_call 66; (with_reducible refine (rRule_l _ _ _ hs2 HO.out).mono ?_); rintro e w1 ⟨v, rfl, hE1⟩; have d1 := (hE1.cells R _ hRr).trans c1))
                go_ret
                exact ⟨by rw [HF.out]; rfl, hE.trans hE1⟩
          · have t1 : ((j : Int) == (l.length : Int) - 1) = false := by rw [beq_eq_false_iff_ne]; omega
            cases o with
            | true =>
              have HS := Lib.hid (HY.out (HRd.out.2 ⟨fun q => absurd q hla, fun _ => HO.out⟩))
              clear hla
              go_wp2_with (first
                | (go_at_call 66; (with_reducible refine (rRule_l _ _ _ hs2 HO.out).mono ?_); rintro e w1 ⟨v, rfl, hE1⟩; have d1 := (hE1.cells R _ hRr).trans c1))
              go_roundw
              case rel => exact ⟨j + 1, by omega, by go_num, HS, hE.trans hE1⟩
              case measure => simp [intOf]; omega
            | false =>
              have HF := Lib.hid (HN.out (fun q => by have := (HRd.out.1 q).2 hla; rw [HO.out] at this; cases this))
              clear hla
              go_wp2_with (first
                | (go_at_call 66; (with_reducible refine (rRule_l _ _ _ hs2 HO.out).mono ?_); rintro e w1 ⟨v, rfl, hE1⟩; have d1 := (hE1.cells R _ hRr).trans c1))
              go_ret
              exact ⟨by rw [HF.out]; rfl, hE.trans hE1⟩
        · obtain rfl : j = l.length := by omega
          have Hn : Hid (b = true) := by rw [Hid, ← HB.out]; exact ruled_yes h1 h2 Hall.out
          go_wp2_with fail
          go_ret
          exact ⟨by rw [Hn.out]; rfl, hE⟩
    · have hq : ruledB l = false := by unfold ruledB; rw [decide_eq_false h2]; simp
      rw [hq] at hb
      subst hb
      have d2 : (8 : Int) < (l.length : Int) := by omega
      clear h2 hq
      go_enter Tryz.func63, Tryz.ntmps63
      go_wp2_with fail
      go_ret
      exact ⟨rfl, Ext.refl _⟩
  · have hq : ruledB l = false := by unfold ruledB; rw [decide_eq_false h1]; simp
    rw [hq] at hb
    subst hb
    have d2 : (l.length : Int) < 1 := by omega
    clear h1 hq
    go_enter Tryz.func63, Tryz.ntmps63
    go_wp2_with fail
    go_ret
    exact ⟨rfl, Ext.refl _⟩
end Go.Proofs.YtlmoibmmjonjoaaGreatDoor
