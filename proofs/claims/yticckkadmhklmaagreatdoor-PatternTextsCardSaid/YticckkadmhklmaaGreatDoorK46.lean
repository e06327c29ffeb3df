/- The walk of the reference's Text. -/
import Derived.Test.YticckkadmhklmaaGreatDoorK42
import Derived.Test.YticckkadmhklmaaGreatDoorK35
namespace Go.Proofs.YticckkadmhklmaaGreatDoor
set_option linter.unusedVariables false
set_option linter.unusedSimpArgs false
open Go.RowKit Go.Maps

theorem ne39r (c : UInt8) (h : ¬ c = 39) : ((c.toNat : Int) == 39) = false := by
  rw [beq_eq_false_iff_ne]
  intro e
  apply h
  have : c.toNat = 39 := by omega
  rw [← UInt8.toNat_inj]; rw [this]; rfl
theorem qtT_snoc (t : List UInt8) (k : Nat) (h : k < t.length) : qtT (t.take (k + 1)) = qtT (t.take k) ++ (if t[k] = 39 then [39, 39] else [t[k]]) := by
  rw [List.take_succ_eq_append_getElem h]
  unfold qtT
  rw [List.flatMap_append]
  simp
theorem rLt_lit (c : UInt8) (b : Bool) (w : World) (h : isLt c = b) : Calls Tryz.prog 34 #[.int .u8 (c.toNat : Int)] w fun e w' => e = .returned (.bool b) ∧ w = w' := rLt_c c b w h
theorem rletter_q (k : Int) (c : UInt8) (w : World) (h1 : 2 ≤ k) (h2 : k ≤ 15) (hc : lpK k = c) : Calls Tryz.prog 33 #[.int .i64 k] w fun e w' => e = .returned (.int .u8 (c.toNat : Int)) ∧ w = w' := by
  rw [← hc]; exact rLetP_c k _ w h1 h2 rfl
theorem rep_snoc (c : UInt8) (q : Nat) : List.replicate (q + 1) c = List.replicate q c ++ [c] := by
  rw [List.replicate_succ']
theorem bone39 (s : List UInt8) (k : Nat) (h : k < s.length) (c : UInt8) (hc : c = s[k]) : (⟨s.toArray⟩ : ByteArray).extract k (k + 1) = ⟨[c].toArray⟩ := by
  rw [bmid, hc, show k + 1 - k = 1 by omega]
  congr 1
  rw [List.drop_eq_getElem_cons h]
  rfl
set_option maxRecDepth 100000 in
set_option maxHeartbeats 4000000 in
theorem rtext_ok (l : List Prt) (ao : Option Addr) (cap : Nat) (w : World) (h : PtV ao cap l w) (hl : ∀ p ∈ l, p.t.length ≤ 4000) (hv : validB l = true) :
    Calls Tryz.prog 9 #[.slice ao l.length cap] w fun e w' => e = .returned (.tuple #[.string ⟨(txtL l).toArray⟩, .int .i64 0]) ∧ Ext w w' := by
  have h40 : l.length ≤ 40 := by
    have := hv
    unfold validB at this
    simp only [Bool.and_eq_true, decide_eq_true_eq] at this
    exact this.1
  have HP : Hid (∀ p ∈ l, partB p = true) := by
    have := hv
    unfold validB at this
    simp only [Bool.and_eq_true, decide_eq_true_eq] at this
    exact tailB_all l none this.2
  have Hv := Lib.hid hv
  have Hl := Lib.hid hl
  have Hpt := Lib.hid h
  have hlen := h.1
  have hcap := h.2.1
  unfold maxLen at hcap
  clear hv hl h
  go_enter Tryz.func9, Tryz.ntmps9
  go_wp2_with (first
    | (go_at_call 10; (with_reducible refine (rvalid_lit l true ao cap _ Hpt.out Hl.out Hv.out).mono ?_); rintro e w1 ⟨rfl, hE1⟩))
  have HptE := Lib.hid (Hpt.out.ext hE1)
  go_loopw [4, 5] (fun out i wr => ∃ (j : Nat) (L : List UInt8), j ≤ l.length ∧ i = .int .i64 (j : Int) ∧ out = .string ⟨L.toArray⟩ ∧ Hid (L = txtL (l.take j)) ∧ L.length ≤ 210 * j ∧ Ext w1 wr) (fun _ i _ => l.length - (intOf i).toNat)
  case atStart => exact ⟨0, [], Nat.zero_le _, rfl, rfl, rfl, Nat.le_refl _, Ext.refl _⟩
  case round =>
    obtain ⟨j, L, hj, rfl, rfl, HL, hLl, hE⟩ := hrel
    by_cases hlt : j < l.length
    · obtain ⟨R, off, rfl, hR0, hc⟩ := HptE.out.2.2 (by rintro rfl; simp at hlt)
      have hRr := hE.lt hR0
      obtain ⟨c0, c1, c2⟩ := hc j hlt
      replace c0 := (hE.cells R _ hR0).trans c0
      replace c1 := (hE.cells R _ hR0).trans c1
      replace c2 := (hE.cells R _ hR0).trans c2
      have hp := HP.out l[j] (List.getElem_mem _)
      have HS : Hid (txtL (l.take (j + 1)) = txtL (l.take j) ++ prtT l[j]) := by
        unfold Hid txtL
        rw [List.take_succ_eq_append_getElem hlt, List.flatMap_append]
        simp
      have hfl := prtT_le hp
      obtain ⟨p, hpp⟩ : ∃ p, p = l[j] := ⟨_, rfl⟩
      rw [← hpp] at c0 c1 c2 hp HS hfl
      clear hpp hc
      have Hp := Lib.hid hp
      have hkk := partB_kind hp
      have hnr := nrp_le hp
      obtain ⟨k, wd, t⟩ := p
      simp only at c0 c1 c2 hkk
      clear hp
      obtain ⟨hk1, hk15⟩ := hkk
      obtain ⟨X, hX⟩ : ∃ X, X = prtT ⟨k, wd, t⟩ := ⟨_, rfl⟩
      rw [← hX] at HS hfl
      have HX := Lib.hid hX
      clear hX
      have HLn : Hid (L ++ X = txtL (l.take (j + 1))) := by rw [Hid, HS.out, HL.out]
      have hLX : L.length + X.length ≤ 100000 := by omega
      have hLX2 : ¬ 9223372036854775807 < L.length + X.length := by omega
      have hEp : Ext w1 (wr.alloc (.cells #[.int .i64 k, .int .i64 wd, .string ⟨t.toArray⟩] 38)) := hE.trans ((Ext.refl wr).alloc _)
      by_cases hk : k = 1
      · subst hk
        have htl : t.length ≤ 100 := (partB_lit Hp.out rfl).2.2.1
        have HXt : Hid (X = litT t) := HX.out
        go_upto_region 21 with fail
        go_loop [9, 10, 11] (fun q tt i => ∃ (m : Nat) (B : Bool) (T : List UInt8), m ≤ t.length ∧ i = .int .i64 (m : Int) ∧ q = .bool B ∧ tt = .string ⟨T.toArray⟩ ∧ Hid (B = (t.take m).any isLt) ∧ Hid (T = qtT (t.take m)) ∧ T.length ≤ 2 * m) (fun _ _ i => t.length - (intOf i).toNat)
        case atStart => exact ⟨0, false, [], Nat.zero_le _, rfl, rfl, rfl, by rw [Hid]; simp, by rw [Hid]; simp [qtT_nil], by simp⟩
        case round =>
          obtain ⟨m, B, T, hm, rfl, rfl, rfl, HB, HT, hTl⟩ := hrel
          by_cases hmt : m < t.length
          · obtain ⟨c, hc⟩ : ∃ c, c = t[m] := ⟨_, rfl⟩
            have hbg := bget t m hmt c hc
            have hbo := bone39 t m hmt c hc
            have HA := Lib.hid (any_succ t isLt m hmt)
            have HQ := Lib.hid (qtT_snoc t m hmt)
            rw [← hc] at HA HQ
            clear hc
            have hT1 : ¬ 9223372036854775807 < T.length + 1 := by omega
            have hT2 : ¬ 9223372036854775807 < T.length + 1 + 1 := by omega
            by_cases h39 : c = 39
            · have q1 : ((c.toNat : Int) == 39) = true := by rw [h39]; rfl
              have hb : isLt c = false := by rw [h39]; rfl
              have HI := Lib.hid hb
              have HB2 : Hid (B = (t.take (m + 1)).any isLt) := by rw [Hid, HA.out, hb, Bool.or_false]; exact HB.out
              have HT2 : Hid (T ++ [39] ++ [c] = qtT (t.take (m + 1))) := by rw [Hid, HQ.out, if_pos h39, ← HT.out, h39]; simp
              clear h39 hb
              go_wp2_with (first
                | (go_at_call 34; (with_reducible refine (rLt_lit c false _ HI.out).mono ?_); rintro e w3 ⟨rfl, rfl⟩))
              go_round
              case rel => exact ⟨m + 1, B, T ++ [39] ++ [c], by omega, by go_num, rfl, by rw [show (⟨#[39]⟩ : ByteArray) = ⟨[39].toArray⟩ from rfl, app_str, app_str], HB2, HT2, by rw [List.length_append, List.length_append, List.length_singleton, List.length_singleton]; omega⟩
              case measure => simp [intOf]; omega
            · have q1 : ((c.toNat : Int) == 39) = false := ne39r c h39
              have HT2 : Hid (T ++ [c] = qtT (t.take (m + 1))) := by rw [Hid, HQ.out, if_neg h39, ← HT.out]
              clear h39
              rcases Bool.eq_false_or_eq_true (isLt c) with hb | hb
              · have HI := Lib.hid hb
                have HB2 : Hid (true = (t.take (m + 1)).any isLt) := by rw [Hid, HA.out, hb, Bool.or_true]
                clear hb
                go_wp2_with (first
                  | (go_at_call 34; (with_reducible refine (rLt_lit c true _ HI.out).mono ?_); rintro e w3 ⟨rfl, rfl⟩))
                go_round
                case rel => exact ⟨m + 1, true, T ++ [c], by omega, by go_num, rfl, by rw [app_str], HB2, HT2, by rw [List.length_append, List.length_singleton]; omega⟩
                case measure => simp [intOf]; omega
              · have HI := Lib.hid hb
                have HB2 : Hid (B = (t.take (m + 1)).any isLt) := by rw [Hid, HA.out, hb, Bool.or_false]; exact HB.out
                clear hb
                go_wp2_with (first
                  | (go_at_call 34; (with_reducible refine (rLt_lit c false _ HI.out).mono ?_); rintro e w3 ⟨rfl, rfl⟩))
                go_round
                case rel => exact ⟨m + 1, B, T ++ [c], by omega, by go_num, rfl, by rw [app_str], HB2, HT2, by rw [List.length_append, List.length_singleton]; omega⟩
                case measure => simp [intOf]; omega
          · obtain rfl : m = t.length := by omega
            have HX2 : Hid (X = if B = true then 39 :: (T ++ [39]) else T) := by
              rw [Hid, HXt.out, HB.out, HT.out, List.take_length]; rfl
            have hT1 : ¬ 9223372036854775807 < 1 + T.length := by omega
            have hT2 : ¬ 9223372036854775807 < 1 + T.length + 1 := by omega
            have hT3 : ¬ 9223372036854775807 < L.length + (1 + T.length + 1) := by omega
            have hT4 : ¬ 9223372036854775807 < L.length + T.length := by omega
            cases B with
            | true =>
              have HX3 : Hid ([39] ++ T ++ [39] = X) := by rw [Hid, HX2.out]; simp
              go_wp2_with fail
              go_roundw
              case rel => exact ⟨j + 1, L ++ X, by omega, by go_num, by rw [← HX3.out, show (⟨#[39]⟩ : ByteArray) = ⟨[39].toArray⟩ from rfl, app_str, app_str, app_str], HLn, by rw [List.length_append]; omega, hEp⟩
              case measure => simp [intOf]; omega
            | false =>
              have HX3 : Hid (T = X) := by rw [Hid, HX2.out]; simp
              go_wp2_with fail
              go_roundw
              case rel => exact ⟨j + 1, L ++ X, by omega, by go_num, by rw [← HX3.out, app_str], HLn, by rw [List.length_append]; omega, hEp⟩
              case measure => simp [intOf]; omega
      · have HXr : Hid (List.replicate (nrp ⟨k, wd, t⟩) (lpK k) = X) := by rw [Hid, HX.out]; unfold prtT; rw [if_neg hk]
        have hl2 := lpZ_lt (k := k) (by omega) hk15
        have hc128 := lt_small hl2.1
        obtain ⟨c, hc⟩ : ∃ c, lpK k = c := ⟨_, rfl⟩
        rw [hc] at HXr hc128
        have hen := enc_c c hc128
        have Hlp := Lib.hid hc
        clear hl2 hc
        obtain ⟨n, hn⟩ : ∃ n, nrp ⟨k, wd, t⟩ = n := ⟨_, rfl⟩
        rw [hn] at HXr hnr
        have HN := Lib.hid hn
        have hk2 : 2 ≤ k := by omega
        clear hn
        by_cases k4 : k = 4
        · subst k4
          obtain rfl : n = 3 := by rw [← HN.out]; rfl
          go_upto_region 15 with fail
          go_loop [4, 8] (fun s q => ∃ (m : Nat) (M : List UInt8), m ≤ 3 ∧ q = .int .i64 (m : Int) ∧ s = .string ⟨M.toArray⟩ ∧ Hid (M = L ++ List.replicate m c) ∧ M.length ≤ L.length + m) (fun _ q => 3 - (intOf q).toNat)
          case atStart => exact ⟨0, L, Nat.zero_le _, rfl, rfl, by rw [Hid]; simp, Nat.le_refl _⟩
          case round =>
            obtain ⟨m, M, hm, rfl, rfl, HM, hMl⟩ := hrel
            by_cases hmn : m < 3
            · have hM1 : ¬ 9223372036854775807 < M.length + 1 := by omega
              have hmz : (m : Int) < 3 := by omega
              have hnr2 : m + 1 ≤ 3 := by omega
              have hm5 : m ≤ 5 := by omega
              clear hmn hnr
              have HM2 : Hid (M ++ [c] = L ++ List.replicate (m + 1) c) := by rw [Hid, HM.out, rep_snoc, List.append_assoc]
              go_wp2_with (first
                | (go_at_call 33; (with_reducible refine (rletter_q _ c _ (by omega) (by omega) Hlp.out).mono ?_); rintro e w3 ⟨rfl, rfl⟩))
              go_round
              case rel => exact ⟨m + 1, M ++ [c], by omega, by go_num, by rw [show (⟨#[c]⟩ : ByteArray) = ⟨[c].toArray⟩ from rfl, app_str], HM2, by rw [List.length_append, List.length_singleton]; omega⟩
              case measure => simp [intOf]; omega
            · obtain rfl : m = 3 := by omega
              have HM3 : Hid (M = txtL (l.take (j + 1))) := by rw [Hid, HM.out, HXr.out]; exact HLn.out
              go_wp2_with fail
              go_roundw
              case rel => exact ⟨j + 1, M, by omega, by go_num, rfl, HM3, by omega, hEp⟩
              case measure => simp [intOf]; omega
        · by_cases k7 : k = 7
          · subst k7
            obtain rfl : n = 3 := by rw [← HN.out]; rfl
            clear k4
            go_upto_region 15 with fail
            go_loop [4, 8] (fun s q => ∃ (m : Nat) (M : List UInt8), m ≤ 3 ∧ q = .int .i64 (m : Int) ∧ s = .string ⟨M.toArray⟩ ∧ Hid (M = L ++ List.replicate m c) ∧ M.length ≤ L.length + m) (fun _ q => 3 - (intOf q).toNat)
            case atStart => exact ⟨0, L, Nat.zero_le _, rfl, rfl, by rw [Hid]; simp, Nat.le_refl _⟩
            case round =>
              obtain ⟨m, M, hm, rfl, rfl, HM, hMl⟩ := hrel
              by_cases hmn : m < 3
              · have hM1 : ¬ 9223372036854775807 < M.length + 1 := by omega
                have hmz : (m : Int) < 3 := by omega
                have hnr2 : m + 1 ≤ 3 := by omega
                have hm5 : m ≤ 5 := by omega
                clear hmn hnr
                have HM2 : Hid (M ++ [c] = L ++ List.replicate (m + 1) c) := by rw [Hid, HM.out, rep_snoc, List.append_assoc]
                go_wp2_with (first
                  | (go_at_call 33; (with_reducible refine (rletter_q _ c _ (by omega) (by omega) Hlp.out).mono ?_); rintro e w3 ⟨rfl, rfl⟩))
                go_round
                case rel => exact ⟨m + 1, M ++ [c], by omega, by go_num, by rw [show (⟨#[c]⟩ : ByteArray) = ⟨[c].toArray⟩ from rfl, app_str], HM2, by rw [List.length_append, List.length_singleton]; omega⟩
                case measure => simp [intOf]; omega
              · obtain rfl : m = 3 := by omega
                have HM3 : Hid (M = txtL (l.take (j + 1))) := by rw [Hid, HM.out, HXr.out]; exact HLn.out
                go_wp2_with fail
                go_roundw
                case rel => exact ⟨j + 1, M, by omega, by go_num, rfl, HM3, by omega, hEp⟩
                case measure => simp [intOf]; omega
          · by_cases k5 : k = 5
            · subst k5
              obtain rfl : n = 4 := by rw [← HN.out]; rfl
              clear k4 k7
              go_upto_region 15 with fail
              go_loop [4, 8] (fun s q => ∃ (m : Nat) (M : List UInt8), m ≤ 4 ∧ q = .int .i64 (m : Int) ∧ s = .string ⟨M.toArray⟩ ∧ Hid (M = L ++ List.replicate m c) ∧ M.length ≤ L.length + m) (fun _ q => 4 - (intOf q).toNat)
              case atStart => exact ⟨0, L, Nat.zero_le _, rfl, rfl, by rw [Hid]; simp, Nat.le_refl _⟩
              case round =>
                obtain ⟨m, M, hm, rfl, rfl, HM, hMl⟩ := hrel
                by_cases hmn : m < 4
                · have hM1 : ¬ 9223372036854775807 < M.length + 1 := by omega
                  have hmz : (m : Int) < 4 := by omega
                  have hnr2 : m + 1 ≤ 4 := by omega
                  have hm5 : m ≤ 5 := by omega
                  clear hmn hnr
                  have HM2 : Hid (M ++ [c] = L ++ List.replicate (m + 1) c) := by rw [Hid, HM.out, rep_snoc, List.append_assoc]
                  go_wp2_with (first
                    | (go_at_call 33; (with_reducible refine (rletter_q _ c _ (by omega) (by omega) Hlp.out).mono ?_); rintro e w3 ⟨rfl, rfl⟩))
                  go_round
                  case rel => exact ⟨m + 1, M ++ [c], by omega, by go_num, by rw [show (⟨#[c]⟩ : ByteArray) = ⟨[c].toArray⟩ from rfl, app_str], HM2, by rw [List.length_append, List.length_singleton]; omega⟩
                  case measure => simp [intOf]; omega
                · obtain rfl : m = 4 := by omega
                  have HM3 : Hid (M = txtL (l.take (j + 1))) := by rw [Hid, HM.out, HXr.out]; exact HLn.out
                  go_wp2_with fail
                  go_roundw
                  case rel => exact ⟨j + 1, M, by omega, by go_num, rfl, HM3, by omega, hEp⟩
                  case measure => simp [intOf]; omega
            · by_cases k8 : k = 8
              · subst k8
                obtain rfl : n = 4 := by rw [← HN.out]; rfl
                clear k4 k7 k5
                go_upto_region 15 with fail
                go_loop [4, 8] (fun s q => ∃ (m : Nat) (M : List UInt8), m ≤ 4 ∧ q = .int .i64 (m : Int) ∧ s = .string ⟨M.toArray⟩ ∧ Hid (M = L ++ List.replicate m c) ∧ M.length ≤ L.length + m) (fun _ q => 4 - (intOf q).toNat)
                case atStart => exact ⟨0, L, Nat.zero_le _, rfl, rfl, by rw [Hid]; simp, Nat.le_refl _⟩
                case round =>
                  obtain ⟨m, M, hm, rfl, rfl, HM, hMl⟩ := hrel
                  by_cases hmn : m < 4
                  · have hM1 : ¬ 9223372036854775807 < M.length + 1 := by omega
                    have hmz : (m : Int) < 4 := by omega
                    have hnr2 : m + 1 ≤ 4 := by omega
                    have hm5 : m ≤ 5 := by omega
                    clear hmn hnr
                    have HM2 : Hid (M ++ [c] = L ++ List.replicate (m + 1) c) := by rw [Hid, HM.out, rep_snoc, List.append_assoc]
                    go_wp2_with (first
                      | (go_at_call 33; (with_reducible refine (rletter_q _ c _ (by omega) (by omega) Hlp.out).mono ?_); rintro e w3 ⟨rfl, rfl⟩))
                    go_round
                    case rel => exact ⟨m + 1, M ++ [c], by omega, by go_num, by rw [show (⟨#[c]⟩ : ByteArray) = ⟨[c].toArray⟩ from rfl, app_str], HM2, by rw [List.length_append, List.length_singleton]; omega⟩
                    case measure => simp [intOf]; omega
                  · obtain rfl : m = 4 := by omega
                    have HM3 : Hid (M = txtL (l.take (j + 1))) := by rw [Hid, HM.out, HXr.out]; exact HLn.out
                    go_wp2_with fail
                    go_roundw
                    case rel => exact ⟨j + 1, M, by omega, by go_num, rfl, HM3, by omega, hEp⟩
                    case measure => simp [intOf]; omega
              · have b1 : (k == 1) = false := by simpa using hk
                have b4 : (k == 4) = false := by simpa using k4
                have b5 : (k == 5) = false := by simpa using k5
                have b6 : (k == 7) = false := by simpa using k7
                have b7 : (k == 8) = false := by simpa using k8
                have b1n : (k != 1) = true := by simpa using hk
                have HNV : Hid (max 1 wd = (n : Int)) := by
                  rw [Hid, ← HN.out]; unfold nrp; rw [if_neg (by show ¬ (k = 4 ∨ k = 7); omega), if_neg (by show ¬ (k = 5 ∨ k = 8); omega)]; show max 1 wd = ((max 1 wd.toNat : Nat) : Int); omega
                have hmx : max wd 1 = (n : Int) := by have := HNV.out; omega
                clear hk k4 k5 k7 k8
                go_upto_region 15 with fail
                go_loop [4, 8] (fun s q => ∃ (m : Nat) (M : List UInt8), m ≤ n ∧ q = .int .i64 (m : Int) ∧ s = .string ⟨M.toArray⟩ ∧ Hid (M = L ++ List.replicate m c) ∧ M.length ≤ L.length + m) (fun _ q => n - (intOf q).toNat)
                case atStart => exact ⟨0, L, Nat.zero_le _, rfl, rfl, by rw [Hid]; simp, Nat.le_refl _⟩
                case round =>
                  obtain ⟨m, M, hm, rfl, rfl, HM, hMl⟩ := hrel
                  by_cases hmn : m < n
                  · have hM1 : ¬ 9223372036854775807 < M.length + 1 := by omega
                    have hmz : (m : Int) < (n : Int) := by omega
                    have hnr2 : m + 1 ≤ n := by omega
                    have hm5 : m ≤ 5 := by omega
                    clear hmn hnr
                    have HM2 : Hid (M ++ [c] = L ++ List.replicate (m + 1) c) := by rw [Hid, HM.out, rep_snoc, List.append_assoc]
                    go_wp2_with (first
                      | (go_at_call 33; (with_reducible refine (rletter_q _ c _ (by omega) (by omega) Hlp.out).mono ?_); rintro e w3 ⟨rfl, rfl⟩))
                    go_round
                    case rel => exact ⟨m + 1, M ++ [c], by omega, by go_num, by rw [show (⟨#[c]⟩ : ByteArray) = ⟨[c].toArray⟩ from rfl, app_str], HM2, by rw [List.length_append, List.length_singleton]; omega⟩
                    case measure => simp [intOf]; omega
                  · obtain rfl : m = n := by omega
                    have HM3 : Hid (M = txtL (l.take (j + 1))) := by rw [Hid, HM.out, HXr.out]; exact HLn.out
                    go_wp2_with fail
                    go_roundw
                    case rel => exact ⟨j + 1, M, by omega, by go_num, rfl, HM3, by omega, hEp⟩
                    case measure => simp [intOf]; omega
    · obtain rfl : j = l.length := by omega
      have HV : Hid (L = txtL l) := by rw [Hid, HL.out, List.take_length]
      go_wp2_with fail
      go_ret2
      exact ⟨by rw [HV.out]; rfl, hE1.trans hE⟩
theorem rtext_no (l : List Prt) (ao : Option Addr) (cap : Nat) (w : World) (h : PtV ao cap l w) (hl : ∀ p ∈ l, p.t.length ≤ 4000) (hv : validB l = false) :
    Calls Tryz.prog 9 #[.slice ao l.length cap] w fun e w' => e = .returned (.tuple #[.string ⟨([] : List UInt8).toArray⟩, .int .i64 1]) ∧ Ext w w' := by
  have Hv := Lib.hid hv
  have Hl := Lib.hid hl
  have Hpt := Lib.hid h
  clear hv hl h
  go_enter Tryz.func9, Tryz.ntmps9
  go_wp2_with (first
    | (go_at_call 10; (with_reducible refine (rvalid_lit l false ao cap _ Hpt.out Hl.out Hv.out).mono ?_); rintro e w1 ⟨rfl, hE1⟩))
  go_ret2
  exact ⟨rfl, hE1⟩
end Go.Proofs.YticckkadmhklmaaGreatDoor
