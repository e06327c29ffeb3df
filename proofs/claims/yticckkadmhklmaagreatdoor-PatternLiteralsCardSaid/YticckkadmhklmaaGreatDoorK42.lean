/- strings.ReplaceAll, where quotes are doubled. -/
import Derived.Test.YticckkadmhklmaaGreatDoorK41
import Derived.Test.YticckkadmhklmaaGreatDoorK07
import Derived.Test.YticckkadmhklmaaGreatDoorK14
import Derived.Test.YticckkadmhklmaaGreatDoorShelf
import Derived.Lib.ReplaceLaws
namespace Go.Proofs.YticckkadmhklmaaGreatDoor
set_option linter.unusedVariables false
set_option linter.unusedSimpArgs false
open Go.RowKit

/-- The library's variable MaxLen holds some number. -/
def Lm (w : World) : Prop := ∃ m : Int, w.cell? ⟨0, 0, none⟩ = some (.int .i64 m)
theorem Lm.lt {w : World} (h : Lm w) : 0 < w.heap.size := by
  obtain ⟨m, hm⟩ := h
  exact World.block_lt_of_cell? _ _ hm
theorem Lm.ext {w w' : World} (h : Lm w) (hE : Ext w w') : Lm w' := by
  obtain ⟨m, hm⟩ := h
  exact ⟨m, (hE.cells _ _ (World.block_lt_of_cell? _ _ hm)).trans hm⟩
theorem repq_c (s T : List UInt8) (w : World) (hm : Lm w) (hs : s.length ≤ 4000) (h : qtT s = T) :
    Calls Tryz.prog 52 #[.string ⟨s.toArray⟩, .string ⟨#[39]⟩, .string ⟨#[39, 39]⟩, .int .i64 (-1)] w fun x w' => x = .returned (.string ⟨T.toArray⟩) ∧ Ext w w' := by
  obtain ⟨m, hm⟩ := hm
  have hz : ∀ l : List UInt8, (⟨l.toArray⟩ : ByteArray).size = l.length := fun l => by simp [ByteArray.size]
  have h1 : (⟨[39].toArray⟩ : ByteArray).size = 1 := rfl
  have h2 : (⟨[39, 39].toArray⟩ : ByteArray).size = 2 := rfl
  have hc := Lib.countB_mul_le (⟨[39].toArray⟩ : ByteArray) (by rw [h1]; omega) _ ⟨s.toArray⟩ (Nat.le_refl _)
  simp only [hz, List.length_cons, List.length_nil, Nat.zero_add, Nat.mul_one] at hc
  have q := Tryz.strings_Replace ⟨s.toArray⟩ ⟨[39].toArray⟩ ⟨[39, 39].toArray⟩ (-1) m w (by rw [hz]; omega) hm (by rw [h1]; omega) (by rw [hz, h2]; omega)
  have e : ∀ l : List UInt8, (⟨l.toArray⟩ : ByteArray).data.toList = l := fun _ => rfl
  rw [e, e, e, replace_qt, h] at q
  exact q
theorem replall_c (s T : List UInt8) (w : World) (hm : Lm w) (hs : s.length ≤ 4000) (h : qtT s = T) :
    Calls Tryz.prog 19 #[.string ⟨s.toArray⟩, .string ⟨#[39]⟩, .string ⟨#[39, 39]⟩] w fun x w' => x = .returned (.string ⟨T.toArray⟩) ∧ Ext w w' := by
  have Hm := Lib.hid hm
  have H := Lib.hid h
  clear hm h
  go_enter Tryz.func19, Tryz.ntmps19
  go_wp2_with (first
    | (go_at_call 52; (with_reducible refine (repq_c s T _ Hm.out hs H.out).mono ?_); rintro e w1 ⟨rfl, hE1⟩))
  go_ret
  exact ⟨rfl, hE1⟩
end Go.Proofs.YticckkadmhklmaaGreatDoor
/- The walk of Text. -/
namespace Go.Proofs.YticckkadmhklmaaGreatDoor
set_option linter.unusedVariables false
set_option linter.unusedSimpArgs false
open Go.RowKit Go.Maps

theorem nrp_le {p : Prt} (h : partB p = true) : nrp p ≤ 4 := by
  have hk := partB_kind h
  unfold nrp
  by_cases h1 : p.k = 1
  · have := (partB_lit h h1).1
    rw [if_neg (by omega), if_neg (by omega)]; omega
  · obtain ⟨-, -, -, h4⟩ := partB_fld h h1
    have : fullZ p.k ≤ 4 := by unfold fullZ; split <;> (try split) <;> omega
    split
    · omega
    · split <;> omega
theorem qtT_le (t : List UInt8) : (qtT t).length ≤ 2 * t.length := by
  induction t with
  | nil => simp [qtT_nil]
  | cons c t ih =>
    rw [qtT_cons]
    split <;> simp <;> omega
theorem prtT_le {p : Prt} (h : partB p = true) : (prtT p).length ≤ 210 := by
  unfold prtT
  by_cases h1 : p.k = 1
  · rw [if_pos h1]
    have := (partB_lit h h1).2.2.1
    have := qtT_le p.t
    unfold litT
    split <;> simp <;> omega
  · rw [if_neg h1, List.length_replicate]
    have := nrp_le h
    omega
theorem any_succ (t : List UInt8) (f : UInt8 → Bool) (q : Nat) (h : q < t.length) : (t.take (q + 1)).any f = ((t.take q).any f || f t[q]) := by
  rw [List.take_succ_eq_append_getElem h, List.any_append]; simp
theorem rep_z (c : UInt8) (z : Int) (L : List UInt8) (w : World) (h0 : 0 ≤ z) (h1 : z ≤ 1000000) (hL : List.replicate z.toNat c = L) : Calls Tryz.prog 31 #[.string ⟨#[c]⟩, .int .i64 z] w fun e w' => e = .returned (.string ⟨L.toArray⟩) ∧ Ext w w' := by
  have h := rep_x c z.toNat L w (by omega) hL
  rw [show ((z.toNat : Nat) : Int) = z by omega] at h
  exact h
theorem wrap32 (c : UInt8) : IntKind.i32.wrap (c.toNat : Int) = (c.toNat : Int) := by
  have := c.toNat_lt
  exact IntWalk.i32_in _ (by omega)
theorem rep_m (c : UInt8) (wd : Int) (n : Nat) (L : List UInt8) (w : World) (h128 : c.toNat < 128) (hn : n ≤ 1000) (hm : max 1 wd = (n : Int)) (hL : List.replicate n c = L) : Calls Tryz.prog 31 #[.string (Utf8.encode (IntKind.i32.wrap (c.toNat : Int))), .int .i64 (max 1 wd)] w fun e w' => e = .returned (.string ⟨L.toArray⟩) ∧ Ext w w' := by
  rw [wrap32, enc_c c h128, hm]
  exact rep_x c n L w (by omega) hL
theorem letter_q (k x : Int) (c : UInt8) (w : World) (h1 : 1 ≤ k) (h2 : k ≤ 15) (hc : lpK k = c) : Calls Tryz.prog 32 #[.int .i64 k] w fun e w' => e = .returned (.int .u8 (c.toNat : Int)) ∧ w = w' := by
  rw [← hc]; exact letter_z k w h1 h2
set_option maxRecDepth 100000 in
set_option maxHeartbeats 4000000 in
theorem text_ok (l : List Prt) (ao : Option Addr) (cap : Nat) (w : World) (h : PtV ao cap l w) (hl : ∀ p ∈ l, p.t.length ≤ 4000) (hv : validB l = true) (hm : Lm w) :
    Calls Tryz.prog 8 #[.slice ao l.length cap] w fun e w' => e = .returned (.tuple #[.string ⟨(txtL l).toArray⟩, .int .i64 0]) ∧ Ext w w' := by
  have h40 : l.length ≤ 40 := by
    have := hv
    unfold validB at this
    simp only [Bool.and_eq_true, decide_eq_true_eq] at this
    exact this.1
  have HP : Hid (∀ p ∈ l, partB p = true) := by
    have := hv
    unfold validB at this
    simp only [Bool.and_eq_true, decide_eq_true_eq] at this
    exact tailB_all l none this.2
  have Hv := Lib.hid hv
  have Hl := Lib.hid hl
  have Hpt := Lib.hid h
  have Hm := Lib.hid hm
  have hlen := h.1
  have hcap := h.2.1
  unfold maxLen at hcap
  clear hv hl h hm
  go_enter Tryz.func8, Tryz.ntmps8
  go_wp2_with (first
    | (go_at_call 29; (with_reducible refine (valid_lit l true ao cap _ Hpt.out Hl.out Hv.out).mono ?_); rintro e w1 ⟨rfl, hE1⟩))
  have HptE := Lib.hid (Hpt.out.ext hE1)
  go_loopw [4, 14] (fun out i wr => ∃ (j : Nat) (L : List UInt8), j ≤ l.length ∧ i = .int .i64 (j : Int) ∧ out = .string ⟨L.toArray⟩ ∧ Hid (L = txtL (l.take j)) ∧ L.length ≤ 210 * j ∧ Ext w1 wr) (fun _ i _ => l.length - (intOf i).toNat)
  case atStart => exact ⟨0, [], Nat.zero_le _, rfl, rfl, rfl, Nat.le_refl _, Ext.refl _⟩
  case round =>
    obtain ⟨j, L, hj, rfl, rfl, HL, hLl, hE⟩ := hrel
    by_cases hlt : j < l.length
    · obtain ⟨R, off, rfl, hR0, hc⟩ := HptE.out.2.2 (by rintro rfl; simp at hlt)
      have hRr := hE.lt hR0
      obtain ⟨c0, c1, c2⟩ := hc j hlt
      replace c0 := (hE.cells R _ hR0).trans c0
      replace c1 := (hE.cells R _ hR0).trans c1
      replace c2 := (hE.cells R _ hR0).trans c2
      have hp := HP.out l[j] (List.getElem_mem _)
      have HS : Hid (txtL (l.take (j + 1)) = txtL (l.take j) ++ prtT l[j]) := by
        unfold Hid txtL
        rw [List.take_succ_eq_append_getElem hlt, List.flatMap_append]
        simp
      have hfl := prtT_le hp
      obtain ⟨p, hpp⟩ : ∃ p, p = l[j] := ⟨_, rfl⟩
      rw [← hpp] at c0 c1 c2 hp HS hfl
      clear hpp hc
      have Hp := Lib.hid hp
      have hkk := partB_kind hp
      have hnr := nrp_le hp
      obtain ⟨k, wd, t⟩ := p
      simp only at c0 c1 c2 hkk
      clear hp
      obtain ⟨hk1, hk15⟩ := hkk
      obtain ⟨X, hX⟩ : ∃ X, X = prtT ⟨k, wd, t⟩ := ⟨_, rfl⟩
      rw [← hX] at HS hfl
      have HX := Lib.hid hX
      clear hX
      have HLn : Hid (L ++ X = txtL (l.take (j + 1))) := by rw [Hid, HS.out, HL.out]
      have hLX : L.length + X.length ≤ 100000 := by omega
      have hLX2 : ¬ 9223372036854775807 < L.length + X.length := by omega
      have hEp : Ext w1 (wr.alloc (.cells #[.int .i64 k, .int .i64 wd, .string ⟨t.toArray⟩] 38)) := hE.trans ((Ext.refl wr).alloc _)
      by_cases hk : k = 1
      · subst hk
        have htl : t.length ≤ 100 := (partB_lit Hp.out rfl).2.2.1
        have HXt : Hid (X = litT t) := HX.out
        have Hm2 := Lib.hid (Hm.out.ext (hE1.trans hEp))
        obtain ⟨T, hT⟩ : ∃ T, qtT t = T := ⟨_, rfl⟩
        have HT := Lib.hid hT
        have hTl : T.length ≤ 200 := by rw [← hT]; have := qtT_le t; omega
        have hT1 : ¬ 9223372036854775807 < 1 + T.length := by omega
        clear hT
        go_upto_region 12 with fail
        go_loop [7, 36] (fun q i => ∃ (m : Nat) (Q : List UInt8), m ≤ t.length ∧ i = .int .i64 (m : Int) ∧ q = .string ⟨Q.toArray⟩ ∧ Hid (Q = if (t.take m).any isLt then [39] else [])) (fun _ i => t.length - (intOf i).toNat)
        case atStart => exact ⟨0, [], Nat.zero_le _, rfl, rfl, by rw [Hid]; simp⟩
        case round =>
          obtain ⟨m, Q, hm, rfl, rfl, HQ⟩ := hrel
          by_cases hmt : m < t.length
          · obtain ⟨c, hc⟩ : ∃ c, c = t[m] := ⟨_, rfl⟩
            have hbg := bget t m hmt c hc
            have HA := Lib.hid (any_succ t isLt m hmt)
            rw [← hc] at HA
            clear hc
            rcases Bool.eq_false_or_eq_true (isLt c) with hb | hb
            · have HB := Lib.hid hb
              have HQ2 : Hid (([39] : List UInt8) = if (t.take (m + 1)).any isLt then [39] else []) := by rw [Hid, HA.out, hb, Bool.or_true]; rfl
              clear hb
              go_wp2_with (first
                | (go_at_call 30; (with_reducible refine (isLt_lit c true _ HB.out).mono ?_); rintro e w3 ⟨rfl, rfl⟩))
              go_round
              case rel => exact ⟨m + 1, [39], by omega, by go_num, rfl, HQ2⟩
              case measure => simp [intOf]; omega
            · have HB := Lib.hid hb
              have HQ2 : Hid (Q = if (t.take (m + 1)).any isLt then [39] else []) := by rw [Hid, HA.out, hb, Bool.or_false]; exact HQ.out
              clear hb
              go_wp2_with (first
                | (go_at_call 30; (with_reducible refine (isLt_lit c false _ HB.out).mono ?_); rintro e w3 ⟨rfl, rfl⟩))
              go_round
              case rel => exact ⟨m + 1, Q, by omega, by go_num, rfl, HQ2⟩
              case measure => simp [intOf]; omega
          · obtain rfl : m = t.length := by omega
            have HQL : Hid (Q ++ T ++ Q = X) := by
              rw [Hid, HXt.out, HQ.out, List.take_length]
              unfold litT
              rw [HT.out]
              split <;> simp
            have hql : Q.length ≤ 1 := by rw [HQ.out]; split <;> simp
            have q1 : ¬ 9223372036854775807 < Q.length + T.length := by omega
            have q2 : ¬ 9223372036854775807 < Q.length + T.length + Q.length := by omega
            have q3 : ¬ 9223372036854775807 < L.length + (Q.length + T.length + Q.length) := by omega
            go_wp2_with (first
              | (go_at_call 19; (with_reducible refine (replall_c t T _ Hm2.out (by omega) HT.out).mono ?_); rintro e w4 ⟨rfl, hE4⟩))
            go_roundw
            case rel => exact ⟨j + 1, L ++ X, by omega, by go_num, by rw [← HQL.out]; simp [app_str], HLn, by rw [List.length_append]; omega, hEp.trans hE4⟩
            case measure => simp [intOf]; omega
      · have HXr : Hid (List.replicate (nrp ⟨k, wd, t⟩) (lpK k) = X) := by rw [Hid, HX.out]; unfold prtT; rw [if_neg hk]
        have hl2 := lpZ_lt (k := k) (by omega) hk15
        have hc128 := lt_small hl2.1
        obtain ⟨c, hc⟩ : ∃ c, lpK k = c := ⟨_, rfl⟩
        rw [hc] at HXr hc128
        have hen := enc_c c hc128
        have Hlp := Lib.hid hc
        clear hl2 hc
        obtain ⟨n, hn⟩ : ∃ n, nrp ⟨k, wd, t⟩ = n := ⟨_, rfl⟩
        rw [hn] at HXr hnr
        have HN := Lib.hid hn
        clear hn
        by_cases k4 : k = 4
        · subst k4
          obtain rfl : n = 3 := by rw [← HN.out]; rfl
          have HXz : Hid (List.replicate (3 : Int).toNat c = X) := HXr.out
          go_wp2_with (first
            | (go_at_call 32; (with_reducible refine (letter_q _ 0 c _ (by omega) (by omega) Hlp.out).mono ?_); rintro e w3 ⟨rfl, rfl⟩)
            | (go_at_call 31; (with_reducible refine (rep_z c 3 X _ (by omega) (by omega) HXz.out).mono ?_); rintro e w4 ⟨rfl, hE4⟩))
          go_roundw
          case rel => exact ⟨j + 1, L ++ X, by omega, by go_num, by rw [app_str], HLn, by rw [List.length_append]; omega, hEp.trans hE4⟩
          case measure => simp [intOf]; omega
        · by_cases k7 : k = 7
          · subst k7
            obtain rfl : n = 3 := by rw [← HN.out]; rfl
            have HXz : Hid (List.replicate (3 : Int).toNat c = X) := HXr.out
            clear k4
            go_wp2_with (first
              | (go_at_call 32; (with_reducible refine (letter_q _ 0 c _ (by omega) (by omega) Hlp.out).mono ?_); rintro e w3 ⟨rfl, rfl⟩)
              | (go_at_call 31; (with_reducible refine (rep_z c 3 X _ (by omega) (by omega) HXz.out).mono ?_); rintro e w4 ⟨rfl, hE4⟩))
            go_roundw
            case rel => exact ⟨j + 1, L ++ X, by omega, by go_num, by rw [app_str], HLn, by rw [List.length_append]; omega, hEp.trans hE4⟩
            case measure => simp [intOf]; omega
          · by_cases k5 : k = 5
            · subst k5
              obtain rfl : n = 4 := by rw [← HN.out]; rfl
              have HXz : Hid (List.replicate (4 : Int).toNat c = X) := HXr.out
              clear k4 k7
              go_wp2_with (first
                | (go_at_call 32; (with_reducible refine (letter_q _ 0 c _ (by omega) (by omega) Hlp.out).mono ?_); rintro e w3 ⟨rfl, rfl⟩)
                | (go_at_call 31; (with_reducible refine (rep_z c 4 X _ (by omega) (by omega) HXz.out).mono ?_); rintro e w4 ⟨rfl, hE4⟩))
              go_roundw
              case rel => exact ⟨j + 1, L ++ X, by omega, by go_num, by rw [app_str], HLn, by rw [List.length_append]; omega, hEp.trans hE4⟩
              case measure => simp [intOf]; omega
            · by_cases k8 : k = 8
              · subst k8
                obtain rfl : n = 4 := by rw [← HN.out]; rfl
                have HXz : Hid (List.replicate (4 : Int).toNat c = X) := HXr.out
                clear k4 k7 k5
                go_wp2_with (first
                  | (go_at_call 32; (with_reducible refine (letter_q _ 0 c _ (by omega) (by omega) Hlp.out).mono ?_); rintro e w3 ⟨rfl, rfl⟩)
                  | (go_at_call 31; (with_reducible refine (rep_z c 4 X _ (by omega) (by omega) HXz.out).mono ?_); rintro e w4 ⟨rfl, hE4⟩))
                go_roundw
                case rel => exact ⟨j + 1, L ++ X, by omega, by go_num, by rw [app_str], HLn, by rw [List.length_append]; omega, hEp.trans hE4⟩
                case measure => simp [intOf]; omega
              · have b1 : (k == 1) = false := by simpa using hk
                have b4 : (k == 4) = false := by simpa using k4
                have b5 : (k == 5) = false := by simpa using k5
                have b6 : (k == 7) = false := by simpa using k7
                have b7 : (k == 8) = false := by simpa using k8
                have HNV : Hid (max 1 wd = (n : Int)) := by
                  rw [Hid, ← HN.out]; unfold nrp; rw [if_neg (by show ¬ (k = 4 ∨ k = 7); omega), if_neg (by show ¬ (k = 5 ∨ k = 8); omega)]; show max 1 wd = ((max 1 wd.toNat : Nat) : Int); omega
                clear hk k4 k5 k7 k8
                go_wp2_with fail
                have y0 : (wr.alloc (.cells #[.int .i64 k, .int .i64 wd, .string ⟨t.toArray⟩] 38)).cell? ⟨wr.heap.size, 0, none⟩ = some (.int .i64 k) := by rw [World.cell?_alloc_new]; rfl
                have y1 : (wr.alloc (.cells #[.int .i64 k, .int .i64 wd, .string ⟨t.toArray⟩] 38)).cell? ⟨wr.heap.size, 1, none⟩ = some (.int .i64 wd) := by rw [World.cell?_alloc_new]; rfl
                have yz : wr.heap.size < (wr.alloc (.cells #[.int .i64 k, .int .i64 wd, .string ⟨t.toArray⟩] 38)).heap.size := by simp
                generalize wr.alloc (.cells #[.int .i64 k, .int .i64 wd, .string ⟨t.toArray⟩] 38) = V at hEp y0 y1 yz ⊢
                generalize wr.heap.size = D at y0 y1 yz ⊢
                (go_region_held3 (fun w' => w'.cell? ⟨D, 0, none⟩ = some (.int .i64 k) ∧ w'.cell? ⟨D, 1, none⟩ = some (.int .i64 wd) ∧ D < w'.heap.size) (first | go_keep | exact S1.out | exact S2.out)
                      (first
                        | (go_at_call 32; (with_reducible refine (letter_q k 0 c _ (by omega) (by omega) Hlp.out).mono ?_); rintro e w5 ⟨rfl, rfl⟩)
                        | (go_at_call 31; (with_reducible refine (rep_m c wd n X _ hc128 (by omega) HNV.out HXr.out).mono ?_); rintro e w6 ⟨rfl, hE6⟩; have S2 := Lib.hid (show w6.cell? ⟨D, 0, none⟩ = some (.int .i64 k) ∧ w6.cell? ⟨D, 1, none⟩ = some (.int .i64 wd) ∧ D < w6.heap.size from ⟨(hE6.cells _ _ yz).trans y0, (hE6.cells _ _ yz).trans y1, hE6.lt yz⟩))))
                all_goals
                  go_wp2_with fail
                  go_roundw
                  case rel => exact ⟨j + 1, L ++ X, by omega, by go_num, by rw [app_str], HLn, by rw [List.length_append]; omega, hEp.trans ((Ext.refl V).drew.trans hE6)⟩
                  case measure => simp [intOf]; omega
    · obtain rfl : j = l.length := by omega
      have HV : Hid (L = txtL l) := by rw [Hid, HL.out, List.take_length]
      go_wp2_with fail
      go_ret2
      exact ⟨by rw [HV.out]; rfl, hE1.trans hE⟩
theorem text_no (l : List Prt) (ao : Option Addr) (cap : Nat) (w : World) (h : PtV ao cap l w) (hl : ∀ p ∈ l, p.t.length ≤ 4000) (hv : validB l = false) :
    Calls Tryz.prog 8 #[.slice ao l.length cap] w fun e w' => e = .returned (.tuple #[.string .empty, .int .i64 1]) ∧ Ext w w' := by
  have Hv := Lib.hid hv
  have Hl := Lib.hid hl
  have Hpt := Lib.hid h
  clear hv hl h
  go_enter Tryz.func8, Tryz.ntmps8
  go_wp2_with (first
    | (go_at_call 29; (with_reducible refine (valid_lit l false ao cap _ Hpt.out Hl.out Hv.out).mono ?_); rintro e w1 ⟨rfl, hE1⟩))
  go_ret2
  exact ⟨rfl, hE1⟩
end Go.Proofs.YticckkadmhklmaaGreatDoor
