/- The walk of the law PatternLiterals. -/
import Derived.Test.YticckkadmhklmaaGreatDoorK51
import Derived.Test.YticckkadmhklmaaGreatDoorK42
import Derived.Test.YticckkadmhklmaaGreatDoorK45
import Derived.Test.YticckkadmhklmaaGreatDoorK41
import Derived.Test.YticckkadmhklmaaGreatDoorK24
import Derived.Test.YticckkadmhklmaaGreatDoorK31
namespace Go.Proofs.YticckkadmhklmaaGreatDoor
set_option linter.unusedVariables false
set_option linter.unusedSimpArgs false
open Go.RowKit Go.Maps

theorem trimB_quotes (s : List UInt8) (c : UInt8) : decide (Lib.trimB s c = []) = !(s.any fun x => !(x == c)) := by
  have key : ∀ l : List UInt8, (∀ x ∈ l, (x == c) = true) → l.dropWhile (· == c) = [] := by
    intro l
    induction l with
    | nil => intro _; rfl
    | cons y t ih => intro h; rw [List.dropWhile_cons, if_pos (h y (by simp))]; exact ih fun x hx => h x (by simp [hx])
  have hsub : ∀ l : List UInt8, ∀ x ∈ l, (x == c) = false → x ∈ l.dropWhile (· == c) := by
    intro l
    induction l with
    | nil => intro x hx; cases hx
    | cons y t ih =>
      intro x hx hxc
      rw [List.dropWhile_cons]
      by_cases hy : (y == c) = true
      · rw [if_pos hy]
        rcases List.mem_cons.1 hx with rfl | hx
        · rw [hxc] at hy; cases hy
        · exact ih x hx hxc
      · rw [if_neg hy]; exact hx
  unfold Lib.trimB Lib.trimLeftB Lib.trimRightB
  rw [Bool.eq_iff_iff]
  simp only [decide_eq_true_eq, Bool.not_eq_true', List.any_eq_false, Bool.not_eq_true']
  constructor
  · intro h x hx
    cases hq : x == c with
    | true => simp
    | false =>
      have h1 := hsub s.reverse x (by simpa using hx) hq
      have h2 := hsub (s.reverse.dropWhile (· == c)).reverse x (by simpa using h1) hq
      rw [h] at h2
      cases h2
  · intro h
    have h0 : s.reverse.dropWhile (· == c) = [] := key _ fun x hx => by
      have := h x (by simpa using hx)
      simpa using this
    rw [h0]; rfl
theorem trim39_c (s : List UInt8) (w : World) (hs : s.length ≤ 4000) (T : List UInt8) (hT : Lib.trimB s 39 = T) : Calls Tryz.prog 20 #[.string ⟨s.toArray⟩, .string ⟨#[39]⟩] w fun e w' => e = .returned (.string ⟨T.toArray⟩) ∧ Ext w w' := by
  subst hT
  refine (Tryz.strings_Trim_one ⟨s.toArray⟩ 39 (by decide) w (by show s.toArray.size ≤ _; simp; omega)).mono ?_
  rintro e w' ⟨rfl, rfl | rfl⟩
  · exact ⟨rfl, Ext.refl _⟩
  · exact ⟨rfl, (Ext.refl _).drew⟩
theorem cat_quotes (T : List UInt8) : (⟨#[39]⟩ : ByteArray) ++ ⟨T.toArray⟩ ++ ⟨#[39]⟩ = ⟨(39 :: (T ++ [39])).toArray⟩ := by
  apply ByteArray.ext; simp
theorem cat_x (s : List UInt8) : (⟨s.toArray⟩ : ByteArray) ++ ⟨#[120]⟩ = ⟨(s ++ [120]).toArray⟩ := by
  apply ByteArray.ext; simp
/-- The compiled list is the literal. -/
def LitR (s : List UInt8) (w : World) (e : Ending) (w' : World) : Prop := ∃ R off cap, e = .returned (.tuple #[.slice (some ⟨R, off, none⟩) 1 cap, .agg #[.int .i64 0, .int .i64 0], .int .i64 0]) ∧ PtV (some ⟨R, off, none⟩) cap [⟨1, 0, s⟩] w' ∧
  R < w'.heap.size ∧ w'.cell? ⟨R, off, none⟩ = some (.int .i64 1) ∧ w'.cell? ⟨R, off + 1, none⟩ = some (.int .i64 0) ∧ w'.cell? ⟨R, off + 2, none⟩ = some (.string ⟨s.toArray⟩) ∧ 1 ≤ cap ∧ cap ≤ 9223372036854775807 ∧ Ext w w'
theorem com_lit (s Q : List UInt8) (w : World) (hQ : Q.length ≤ 4000) (h : cmpT Q = ([⟨1, 0, s⟩], 0, 0)) : Calls Tryz.prog 18 #[.string ⟨Q.toArray⟩] w (LitR s w) := by
  have q := compile_c Q w (by omega)
  rw [h] at q
  refine q.mono ?_
  rintro e w' ⟨ao, cap, h1, h2, h3⟩
  obtain ⟨R, off, rfl, hR, hc⟩ := h2.2.2 (by simp)
  obtain ⟨c0, c1, c2⟩ := hc 0 (by show 0 < 1; omega)
  have hcap := h2.2.1
  unfold maxLen at hcap
  exact ⟨R, off, cap, h1, h2, hR, by simpa using c0, by simpa using c1, by simpa using c2, h2.1, by omega, h3⟩
theorem com_litq (s : List UInt8) (w : World) (hs : s ≠ []) (h : s.length ≤ 60) (hp : s.all prn = true) (hq : (s.any fun c => !(c == 39)) = true) (T : List UInt8) (hT : qtT s = T) : Calls Tryz.prog 18 #[.string (⟨#[39]⟩ ++ ⟨T.toArray⟩ ++ ⟨#[39]⟩)] w (LitR s w) := by
  rw [cat_quotes, ← hT]
  exact com_lit s _ w (by have := qtT_len s; simp; omega) (lit_quoted s hs (by omega) hp hq)
theorem com_litp (s : List UInt8) (w : World) (hs : s ≠ []) (h : s.length ≤ 60) (hp : s.all prn = true) (hq : (s.any fun c => !(c == 39)) = false) (T : List UInt8) (hT : qtT s = T) : Calls Tryz.prog 18 #[.string ⟨T.toArray⟩] w (LitR s w) := by
  rw [← hT]
  exact com_lit s _ w (by have := qtT_len s; omega) (lit_plain s hs (by omega) hp hq)
theorem com_anyq (w : World) (T : List UInt8) (h : T.length ≤ 4000) : Calls Tryz.prog 18 #[.string (⟨#[39]⟩ ++ ⟨T.toArray⟩ ++ ⟨#[39]⟩)] w fun e w' => ∃ (ao : Option Addr) (n cap : Nat) (a b c : Int), e = .returned (.tuple #[.slice ao n cap, .agg #[.int .i64 a, .int .i64 b], .int .i64 c]) ∧ Ext w w' := by
  rw [cat_quotes]
  exact (compile_c _ w (by simp; omega)).mono fun _ _ ⟨ao, cap, h1, h2, h3⟩ => ⟨ao, _, cap, _, _, _, h1, h3⟩
theorem for_lit (s : List UInt8) (l0 : Int) (ao : Option Addr) (cap : Nat) (w : World) (h : PtV ao cap [⟨1, 0, s⟩] w) (hs : s ≠ []) (hl : s.length ≤ 60) (hp : s.all prn = true) (r1 : -62135596800 ≤ l0) (r2 : l0 < 253402300800) :
    Calls Tryz.prog 21 #[.slice ao 1 cap, .agg (sv engN.all).toArray, .int .i64 l0, .agg #[.int .i64 0, .int .i64 0, .string ⟨#[85, 84, 67]⟩]] w fun e w' => e = .returned (.tuple #[.string ⟨s.toArray⟩, .int .i64 0]) ∧ Ext w w' := by
  obtain ⟨F, hF⟩ := isF_ex r1 r2
  have q := format_ok [⟨1, 0, s⟩] engN F 0 0 l0 [85, 84, 67] ao cap w h (by intro p hp; simp at hp; subst hp; show s.length ≤ 4000; omega) eng_ok eng_len (lit_valid s hs (by omega) hp) eng_nm (by decide) (by decide) (by decide) (by kernel_rfl) hF
  rw [lit_fmt] at q
  exact q
theorem par_lit (s : List UInt8) (ao : Option Addr) (cap : Nat) (w : World) (h : PtV ao cap [⟨1, 0, s⟩] w) (hs : s ≠ []) (hl : s.length ≤ 60) (hp : s.all prn = true) :
    Calls Tryz.prog 23 #[.slice ao 1 cap, .agg (sv engN.all).toArray, .string ⟨s.toArray⟩] w fun e w' => e = .returned (.tuple #[.int .i64 0, .agg #[.int .i64 0, .int .i64 0], .int .i64 0]) ∧ Ext w w' := by
  have q := parse_c [⟨1, 0, s⟩] engN s ao cap w h (by intro p hp; simp at hp; subst hp; show s.length ≤ 4000; omega) eng_ok eng_len (by omega)
  unfold PrsR at q
  rw [lit_prs engN eng_nm s hs (by omega) hp] at q
  exact q
theorem par_litx (s : List UInt8) (ao : Option Addr) (cap : Nat) (w : World) (h : PtV ao cap [⟨1, 0, s⟩] w) (hs : s ≠ []) (hl : s.length ≤ 60) (hp : s.all prn = true) :
    Calls Tryz.prog 23 #[.slice ao 1 cap, .agg (sv engN.all).toArray, .string (⟨s.toArray⟩ ++ ⟨#[120]⟩)] w fun e w' => e = .returned (.tuple #[.int .i64 0, .agg #[.int .i64 1, .int .i64 ((s.length : Int) + 1)], .int .i64 3]) ∧ Ext w w' := by
  rw [cat_x]
  have q := parse_c [⟨1, 0, s⟩] engN (s ++ [120]) ao cap w h (by intro p hp; simp at hp; subst hp; show s.length ≤ 4000; omega) eng_ok eng_len (by simp; omega)
  unfold PrsR at q
  rw [lit_prsx engN eng_nm s 120 hs (by omega) hp] at q
  have e : posV (s.length + 1) = .agg #[.int .i64 1, .int .i64 ((s.length : Int) + 1)] := by unfold posV; rw [if_neg (by omega)]; simp
  rw [e] at q
  exact q
set_option maxRecDepth 100000 in
set_option maxHeartbeats 2000000 in
theorem lit_w1 (s : List UInt8) (l0 : Int) (w : World) (hs : s.length < 1 ∨ 60 < s.length) (hsm : s.length ≤ 9223372036854775807) :
    Calls Tryz.prog 4 #[.string ⟨s.toArray⟩, .int .i64 l0] w fun e w' => e = .returned (.bool true) ∧ Ext w w' := by
  rcases hs with hs | hs
  · have d1 : (s.length : Int) < 1 := by omega
    clear hs
    go_enter Tryz.func4, Tryz.ntmps4
    go_wp2_with (first | (go_at_call 5; (with_reducible refine (awake_c _).mono ?_); rintro e w1 ⟨rfl, hE1⟩))
    go_ret
    exact ⟨rfl, hE1⟩
  · have d1 : ¬ (s.length : Int) < 1 := by omega
    have d2 : (60 : Int) < (s.length : Int) := by omega
    clear hs
    go_enter Tryz.func4, Tryz.ntmps4
    go_wp2_with (first | (go_at_call 5; (with_reducible refine (awake_c _).mono ?_); rintro e w1 ⟨rfl, hE1⟩))
    go_ret
    exact ⟨rfl, hE1⟩
set_option maxRecDepth 100000 in
set_option maxHeartbeats 2000000 in
theorem lit_w2 (s : List UInt8) (l0 : Int) (w : World) (hm : Lm w) (h1 : 1 ≤ s.length) (h60 : s.length ≤ 60) :
    Calls Tryz.prog 4 #[.string ⟨s.toArray⟩, .int .i64 l0] w fun e w' => e = .returned (.bool true) ∧ Ext w w' := by
  have hne : s ≠ [] := by rintro rfl; simp at h1
  have d1 : ¬ (s.length : Int) < 1 := by omega
  have d2 : ¬ (60 : Int) < (s.length : Int) := by omega
  have Hm := Lib.hid hm
  have HNe := Lib.hid hne
  clear hm hne
  go_enter Tryz.func4, Tryz.ntmps4
  go_wp2_with (first | (go_at_call 5; (with_reducible refine (awake_c _).mono ?_); rintro e w1 ⟨rfl, hE1⟩))
  (with_reducible refine (cta_c s _ (by omega)).mono ?_)
  rintro e w2 ⟨b, rfl, hE2⟩
  have HE2 := Lib.hid (hE1.trans hE2)
  clear hE1 hE2
  cases b with
  | true =>
    go_wp2_with fail
    go_ret
    exact ⟨rfl, HE2.out⟩
  | false =>
    go_wp2_with fail
    go_loop [33] (fun i => ∃ j : Nat, j ≤ s.length ∧ i = .int .i64 (j : Int) ∧ Hid ((s.take j).all prn = true)) (fun i => s.length - (intOf i).toNat)
    case atStart => exact ⟨0, Nat.zero_le _, rfl, rfl⟩
    case round =>
      obtain ⟨j, hj, rfl, Hall⟩ := hrel
      by_cases hlt : j < s.length
      · obtain ⟨c, hc⟩ : ∃ c, c = s[j] := ⟨_, rfl⟩
        have hbg := bget s j hlt c hc
        have HA : Hid ((s.take (j + 1)).all prn = ((s.take j).all prn && prn c)) := by
          rw [Hid, List.take_succ_eq_append_getElem hlt, List.all_append, hc]; simp
        have hc256 : c.toNat < 256 := c.toNat_lt
        clear hc
        by_cases q1 : c.toNat < 32
        · go_wp2_with fail
          go_ret
          exact ⟨rfl, HE2.out⟩
        · by_cases q2 : 126 < c.toNat
          · go_wp2_with fail
            go_ret
            exact ⟨rfl, HE2.out⟩
          · have Hn : Hid ((s.take (j + 1)).all prn = true) := by
              rw [Hid, HA.out, Hall.out]; unfold prn; simp; omega
            go_wp2_with fail
            go_round
            case rel => exact ⟨j + 1, by omega, by go_num, Hn⟩
            case measure => simp [intOf]; omega
      · obtain rfl : j = s.length := by omega
        have HP : Hid (s.all prn = true) := by have := Hall.out; rwa [List.take_length] at this
        have Hm2 := Lib.hid (Hm.out.ext HE2.out)
        obtain ⟨T, hT⟩ : ∃ T, qtT s = T := ⟨_, rfl⟩
        have HT := Lib.hid hT
        have hTl : T.length ≤ 120 := by rw [← hT]; have := qtT_len s; omega
        obtain ⟨M, hM⟩ : ∃ M, Lib.trimB s 39 = M := ⟨_, rfl⟩
        have HTM := trimB_quotes s 39
        rw [hM] at HTM
        have HM := Lib.hid hM
        have hT1 : ¬ 9223372036854775807 < 1 + T.length := by omega
        have hT2 : ¬ 9223372036854775807 < 1 + T.length + 1 := by omega
        have hs1 : ¬ 9223372036854775807 < s.length + 1 := by omega
        clear hT hM hlt Hall
        rcases Bool.eq_false_or_eq_true (s.any fun c => !(c == 39)) with hq | hq
        · rw [hq] at HTM
          have hMn : M.isEmpty = false := by
            have : ¬ M = [] := by simpa using HTM
            cases M with | nil => exact absurd rfl this | cons _ _ => rfl
          have HC := Lib.hid (fun w => com_litq s w HNe.out h60 HP.out hq T HT.out)
          clear HTM hq
          by_cases r1 : -62135596800 ≤ l0
          · by_cases r2 : l0 < 253402300800
            · go_wp2_with (first
                | (go_at_call 19; (with_reducible refine (replall_c s T _ (Hm2.out.ext (by (repeat (with_reducible (first | assumption | exact Ext.refl _ | refine Ext.alloc ?_ _ | refine Ext.drewN ?_ _ | refine Ext.drew ?_))))) (by omega) HT.out).mono ?_); rintro e w3 ⟨rfl, hE3⟩; have hX := Ext.trans (show Ext w2 _ from (by (repeat (with_reducible (first | assumption | exact Ext.refl _ | refine Ext.alloc ?_ _ | refine Ext.drewN ?_ _ | refine Ext.drew ?_))))) hE3; clear hE3)
                | fail
                | (go_at_call 18; (with_reducible refine (HC.out _).mono ?_); rintro e w4 ⟨R, off, cap, rfl, hP4, hR4, c0, c1, c2, hcap1, hcap2, hE4⟩; have HP4 := Lib.hid hP4; have hX := Ext.trans (show Ext w2 _ from (by (repeat (with_reducible (first | assumption | exact Ext.refl _ | refine Ext.alloc ?_ _ | refine Ext.drewN ?_ _ | refine Ext.drew ?_))))) hE4; have C0 := Lib.hid c0; have C1 := Lib.hid c1; have C2 := Lib.hid c2; clear hP4 hE4)
                | (go_at_call 20; (with_reducible refine (trim39_c s _ (by omega) _ HM.out).mono ?_); rintro e w5 ⟨rfl, hE5⟩; have hX := Ext.trans (show Ext w2 _ from (by (repeat (with_reducible (first | assumption | exact Ext.refl _ | refine Ext.alloc ?_ _ | refine Ext.drewN ?_ _ | refine Ext.drew ?_))))) hE5; (try (have hY := Ext.trans (show Ext w4 _ from (by (repeat (with_reducible (first | assumption | exact Ext.refl _ | refine Ext.alloc ?_ _ | refine Ext.drewN ?_ _ | refine Ext.drew ?_))))) hE5; have b0 := (hY.cells R _ hR4).trans C0.out; have b1 := (hY.cells R _ hR4).trans C1.out; have b2 := (hY.cells R _ hR4).trans C2.out)); clear hE5)
                | (first | (go_at_call 22; (with_reducible refine (english_c _).mono ?_); rintro e w6 ⟨rfl, hE6⟩; have hX := Ext.trans (show Ext w2 _ from (by (repeat (with_reducible (first | assumption | exact Ext.refl _ | refine Ext.alloc ?_ _ | refine Ext.drewN ?_ _ | refine Ext.drew ?_))))) hE6; have hY := Ext.trans (show Ext w4 _ from (by (repeat (with_reducible (first | assumption | exact Ext.refl _ | refine Ext.alloc ?_ _ | refine Ext.drewN ?_ _ | refine Ext.drew ?_))))) hE6; clear hE6) | (go_at_call 21; (with_reducible refine (for_lit s l0 _ cap _ (HP4.out.ext (by (repeat (with_reducible (first | assumption | exact Ext.refl _ | refine Ext.alloc ?_ _ | refine Ext.drewN ?_ _ | refine Ext.drew ?_))))) HNe.out h60 HP.out r1 r2).mono ?_); rintro e w7 ⟨rfl, hE7⟩; have hX := Ext.trans (show Ext w2 _ from (by (repeat (with_reducible (first | assumption | exact Ext.refl _ | refine Ext.alloc ?_ _ | refine Ext.drewN ?_ _ | refine Ext.drew ?_))))) hE7; have hY := Ext.trans (show Ext w4 _ from (by (repeat (with_reducible (first | assumption | exact Ext.refl _ | refine Ext.alloc ?_ _ | refine Ext.drewN ?_ _ | refine Ext.drew ?_))))) hE7; clear hE7) | (go_at_call 23; (with_reducible refine (par_lit s _ cap _ (HP4.out.ext (by (repeat (with_reducible (first | assumption | exact Ext.refl _ | refine Ext.alloc ?_ _ | refine Ext.drewN ?_ _ | refine Ext.drew ?_))))) HNe.out h60 HP.out).mono ?_); rintro e w8 ⟨rfl, hE8⟩; have hX := Ext.trans (show Ext w2 _ from (by (repeat (with_reducible (first | assumption | exact Ext.refl _ | refine Ext.alloc ?_ _ | refine Ext.drewN ?_ _ | refine Ext.drew ?_))))) hE8; have hY := Ext.trans (show Ext w4 _ from (by (repeat (with_reducible (first | assumption | exact Ext.refl _ | refine Ext.alloc ?_ _ | refine Ext.drewN ?_ _ | refine Ext.drew ?_))))) hE8; clear hE8) | (go_at_call 23; (with_reducible refine (par_litx s _ cap _ (HP4.out.ext (by (repeat (with_reducible (first | assumption | exact Ext.refl _ | refine Ext.alloc ?_ _ | refine Ext.drewN ?_ _ | refine Ext.drew ?_))))) HNe.out h60 HP.out).mono ?_); rintro e w9 ⟨rfl, hE9⟩; have hX := Ext.trans (show Ext w2 _ from (by (repeat (with_reducible (first | assumption | exact Ext.refl _ | refine Ext.alloc ?_ _ | refine Ext.drewN ?_ _ | refine Ext.drew ?_))))) hE9; have hY := Ext.trans (show Ext w4 _ from (by (repeat (with_reducible (first | assumption | exact Ext.refl _ | refine Ext.alloc ?_ _ | refine Ext.drewN ?_ _ | refine Ext.drew ?_))))) hE9; clear hE9)))
              go_ret
              exact ⟨rfl, HE2.out.trans (by (repeat (with_reducible (first | assumption | exact Ext.refl _ | refine Ext.alloc ?_ _ | refine Ext.drewN ?_ _ | refine Ext.drew ?_))))⟩
            · have r3 : 253402300800 ≤ l0 := by omega
              clear r2
              go_wp2_with (first
                | (go_at_call 19; (with_reducible refine (replall_c s T _ (Hm2.out.ext (by (repeat (with_reducible (first | assumption | exact Ext.refl _ | refine Ext.alloc ?_ _ | refine Ext.drewN ?_ _ | refine Ext.drew ?_))))) (by omega) HT.out).mono ?_); rintro e w3 ⟨rfl, hE3⟩; have hX := Ext.trans (show Ext w2 _ from (by (repeat (with_reducible (first | assumption | exact Ext.refl _ | refine Ext.alloc ?_ _ | refine Ext.drewN ?_ _ | refine Ext.drew ?_))))) hE3; clear hE3)
                | fail
                | (go_at_call 18; (with_reducible refine (HC.out _).mono ?_); rintro e w4 ⟨R, off, cap, rfl, hP4, hR4, c0, c1, c2, hcap1, hcap2, hE4⟩; have HP4 := Lib.hid hP4; have hX := Ext.trans (show Ext w2 _ from (by (repeat (with_reducible (first | assumption | exact Ext.refl _ | refine Ext.alloc ?_ _ | refine Ext.drewN ?_ _ | refine Ext.drew ?_))))) hE4; have C0 := Lib.hid c0; have C1 := Lib.hid c1; have C2 := Lib.hid c2; clear hP4 hE4)
                | (go_at_call 20; (with_reducible refine (trim39_c s _ (by omega) _ HM.out).mono ?_); rintro e w5 ⟨rfl, hE5⟩; have hX := Ext.trans (show Ext w2 _ from (by (repeat (with_reducible (first | assumption | exact Ext.refl _ | refine Ext.alloc ?_ _ | refine Ext.drewN ?_ _ | refine Ext.drew ?_))))) hE5; (try (have hY := Ext.trans (show Ext w4 _ from (by (repeat (with_reducible (first | assumption | exact Ext.refl _ | refine Ext.alloc ?_ _ | refine Ext.drewN ?_ _ | refine Ext.drew ?_))))) hE5; have b0 := (hY.cells R _ hR4).trans C0.out; have b1 := (hY.cells R _ hR4).trans C1.out; have b2 := (hY.cells R _ hR4).trans C2.out)); clear hE5)
                | fail)
              go_ret
              exact ⟨rfl, HE2.out.trans (by (repeat (with_reducible (first | assumption | exact Ext.refl _ | refine Ext.alloc ?_ _ | refine Ext.drewN ?_ _ | refine Ext.drew ?_))))⟩
          · have r3 : l0 < -62135596800 := by omega
            clear r1
            go_wp2_with (first
              | (go_at_call 19; (with_reducible refine (replall_c s T _ (Hm2.out.ext (by (repeat (with_reducible (first | assumption | exact Ext.refl _ | refine Ext.alloc ?_ _ | refine Ext.drewN ?_ _ | refine Ext.drew ?_))))) (by omega) HT.out).mono ?_); rintro e w3 ⟨rfl, hE3⟩; have hX := Ext.trans (show Ext w2 _ from (by (repeat (with_reducible (first | assumption | exact Ext.refl _ | refine Ext.alloc ?_ _ | refine Ext.drewN ?_ _ | refine Ext.drew ?_))))) hE3; clear hE3)
              | fail
              | (go_at_call 18; (with_reducible refine (HC.out _).mono ?_); rintro e w4 ⟨R, off, cap, rfl, hP4, hR4, c0, c1, c2, hcap1, hcap2, hE4⟩; have HP4 := Lib.hid hP4; have hX := Ext.trans (show Ext w2 _ from (by (repeat (with_reducible (first | assumption | exact Ext.refl _ | refine Ext.alloc ?_ _ | refine Ext.drewN ?_ _ | refine Ext.drew ?_))))) hE4; have C0 := Lib.hid c0; have C1 := Lib.hid c1; have C2 := Lib.hid c2; clear hP4 hE4)
              | (go_at_call 20; (with_reducible refine (trim39_c s _ (by omega) _ HM.out).mono ?_); rintro e w5 ⟨rfl, hE5⟩; have hX := Ext.trans (show Ext w2 _ from (by (repeat (with_reducible (first | assumption | exact Ext.refl _ | refine Ext.alloc ?_ _ | refine Ext.drewN ?_ _ | refine Ext.drew ?_))))) hE5; (try (have hY := Ext.trans (show Ext w4 _ from (by (repeat (with_reducible (first | assumption | exact Ext.refl _ | refine Ext.alloc ?_ _ | refine Ext.drewN ?_ _ | refine Ext.drew ?_))))) hE5; have b0 := (hY.cells R _ hR4).trans C0.out; have b1 := (hY.cells R _ hR4).trans C1.out; have b2 := (hY.cells R _ hR4).trans C2.out)); clear hE5)
              | fail)
            go_ret
            exact ⟨rfl, HE2.out.trans (by (repeat (with_reducible (first | assumption | exact Ext.refl _ | refine Ext.alloc ?_ _ | refine Ext.drewN ?_ _ | refine Ext.drew ?_))))⟩
        · rw [hq] at HTM
          obtain rfl : M = [] := by simpa using HTM
          have HC0 := Lib.hid (fun w => com_anyq w T (by omega))
          have HC := Lib.hid (fun w => com_litp s w HNe.out h60 HP.out hq T HT.out)
          clear HTM hq
          by_cases r1 : -62135596800 ≤ l0
          · by_cases r2 : l0 < 253402300800
            · go_wp2_with (first
                | (go_at_call 19; (with_reducible refine (replall_c s T _ (Hm2.out.ext (by (repeat (with_reducible (first | assumption | exact Ext.refl _ | refine Ext.alloc ?_ _ | refine Ext.drewN ?_ _ | refine Ext.drew ?_))))) (by omega) HT.out).mono ?_); rintro e w3 ⟨rfl, hE3⟩; have hX := Ext.trans (show Ext w2 _ from (by (repeat (with_reducible (first | assumption | exact Ext.refl _ | refine Ext.alloc ?_ _ | refine Ext.drewN ?_ _ | refine Ext.drew ?_))))) hE3; clear hE3)
                | (go_at_call 18; (with_reducible refine (HC0.out _).mono ?_); rintro e w0 ⟨ao, n, cap0, p1, p2, p3, rfl, hE0⟩; have hX := Ext.trans (show Ext w2 _ from (by (repeat (with_reducible (first | assumption | exact Ext.refl _ | refine Ext.alloc ?_ _ | refine Ext.drewN ?_ _ | refine Ext.drew ?_))))) hE0; clear hE0)
                | (go_at_call 18; (with_reducible refine (HC.out _).mono ?_); rintro e w4 ⟨R, off, cap, rfl, hP4, hR4, c0, c1, c2, hcap1, hcap2, hE4⟩; have HP4 := Lib.hid hP4; have hX := Ext.trans (show Ext w2 _ from (by (repeat (with_reducible (first | assumption | exact Ext.refl _ | refine Ext.alloc ?_ _ | refine Ext.drewN ?_ _ | refine Ext.drew ?_))))) hE4; have C0 := Lib.hid c0; have C1 := Lib.hid c1; have C2 := Lib.hid c2; clear hP4 hE4)
                | (go_at_call 20; (with_reducible refine (trim39_c s _ (by omega) _ HM.out).mono ?_); rintro e w5 ⟨rfl, hE5⟩; have hX := Ext.trans (show Ext w2 _ from (by (repeat (with_reducible (first | assumption | exact Ext.refl _ | refine Ext.alloc ?_ _ | refine Ext.drewN ?_ _ | refine Ext.drew ?_))))) hE5; (try (have hY := Ext.trans (show Ext w4 _ from (by (repeat (with_reducible (first | assumption | exact Ext.refl _ | refine Ext.alloc ?_ _ | refine Ext.drewN ?_ _ | refine Ext.drew ?_))))) hE5; have b0 := (hY.cells R _ hR4).trans C0.out; have b1 := (hY.cells R _ hR4).trans C1.out; have b2 := (hY.cells R _ hR4).trans C2.out)); clear hE5)
                | (first | (go_at_call 22; (with_reducible refine (english_c _).mono ?_); rintro e w6 ⟨rfl, hE6⟩; have hX := Ext.trans (show Ext w2 _ from (by (repeat (with_reducible (first | assumption | exact Ext.refl _ | refine Ext.alloc ?_ _ | refine Ext.drewN ?_ _ | refine Ext.drew ?_))))) hE6; have hY := Ext.trans (show Ext w4 _ from (by (repeat (with_reducible (first | assumption | exact Ext.refl _ | refine Ext.alloc ?_ _ | refine Ext.drewN ?_ _ | refine Ext.drew ?_))))) hE6; clear hE6) | (go_at_call 21; (with_reducible refine (for_lit s l0 _ cap _ (HP4.out.ext (by (repeat (with_reducible (first | assumption | exact Ext.refl _ | refine Ext.alloc ?_ _ | refine Ext.drewN ?_ _ | refine Ext.drew ?_))))) HNe.out h60 HP.out r1 r2).mono ?_); rintro e w7 ⟨rfl, hE7⟩; have hX := Ext.trans (show Ext w2 _ from (by (repeat (with_reducible (first | assumption | exact Ext.refl _ | refine Ext.alloc ?_ _ | refine Ext.drewN ?_ _ | refine Ext.drew ?_))))) hE7; have hY := Ext.trans (show Ext w4 _ from (by (repeat (with_reducible (first | assumption | exact Ext.refl _ | refine Ext.alloc ?_ _ | refine Ext.drewN ?_ _ | refine Ext.drew ?_))))) hE7; clear hE7) | (go_at_call 23; (with_reducible refine (par_lit s _ cap _ (HP4.out.ext (by (repeat (with_reducible (first | assumption | exact Ext.refl _ | refine Ext.alloc ?_ _ | refine Ext.drewN ?_ _ | refine Ext.drew ?_))))) HNe.out h60 HP.out).mono ?_); rintro e w8 ⟨rfl, hE8⟩; have hX := Ext.trans (show Ext w2 _ from (by (repeat (with_reducible (first | assumption | exact Ext.refl _ | refine Ext.alloc ?_ _ | refine Ext.drewN ?_ _ | refine Ext.drew ?_))))) hE8; have hY := Ext.trans (show Ext w4 _ from (by (repeat (with_reducible (first | assumption | exact Ext.refl _ | refine Ext.alloc ?_ _ | refine Ext.drewN ?_ _ | refine Ext.drew ?_))))) hE8; clear hE8) | (go_at_call 23; (with_reducible refine (par_litx s _ cap _ (HP4.out.ext (by (repeat (with_reducible (first | assumption | exact Ext.refl _ | refine Ext.alloc ?_ _ | refine Ext.drewN ?_ _ | refine Ext.drew ?_))))) HNe.out h60 HP.out).mono ?_); rintro e w9 ⟨rfl, hE9⟩; have hX := Ext.trans (show Ext w2 _ from (by (repeat (with_reducible (first | assumption | exact Ext.refl _ | refine Ext.alloc ?_ _ | refine Ext.drewN ?_ _ | refine Ext.drew ?_))))) hE9; have hY := Ext.trans (show Ext w4 _ from (by (repeat (with_reducible (first | assumption | exact Ext.refl _ | refine Ext.alloc ?_ _ | refine Ext.drewN ?_ _ | refine Ext.drew ?_))))) hE9; clear hE9)))
              go_ret
              exact ⟨rfl, HE2.out.trans (by (repeat (with_reducible (first | assumption | exact Ext.refl _ | refine Ext.alloc ?_ _ | refine Ext.drewN ?_ _ | refine Ext.drew ?_))))⟩
            · have r3 : 253402300800 ≤ l0 := by omega
              clear r2
              go_wp2_with (first
                | (go_at_call 19; (with_reducible refine (replall_c s T _ (Hm2.out.ext (by (repeat (with_reducible (first | assumption | exact Ext.refl _ | refine Ext.alloc ?_ _ | refine Ext.drewN ?_ _ | refine Ext.drew ?_))))) (by omega) HT.out).mono ?_); rintro e w3 ⟨rfl, hE3⟩; have hX := Ext.trans (show Ext w2 _ from (by (repeat (with_reducible (first | assumption | exact Ext.refl _ | refine Ext.alloc ?_ _ | refine Ext.drewN ?_ _ | refine Ext.drew ?_))))) hE3; clear hE3)
                | (go_at_call 18; (with_reducible refine (HC0.out _).mono ?_); rintro e w0 ⟨ao, n, cap0, p1, p2, p3, rfl, hE0⟩; have hX := Ext.trans (show Ext w2 _ from (by (repeat (with_reducible (first | assumption | exact Ext.refl _ | refine Ext.alloc ?_ _ | refine Ext.drewN ?_ _ | refine Ext.drew ?_))))) hE0; clear hE0)
                | (go_at_call 18; (with_reducible refine (HC.out _).mono ?_); rintro e w4 ⟨R, off, cap, rfl, hP4, hR4, c0, c1, c2, hcap1, hcap2, hE4⟩; have HP4 := Lib.hid hP4; have hX := Ext.trans (show Ext w2 _ from (by (repeat (with_reducible (first | assumption | exact Ext.refl _ | refine Ext.alloc ?_ _ | refine Ext.drewN ?_ _ | refine Ext.drew ?_))))) hE4; have C0 := Lib.hid c0; have C1 := Lib.hid c1; have C2 := Lib.hid c2; clear hP4 hE4)
                | (go_at_call 20; (with_reducible refine (trim39_c s _ (by omega) _ HM.out).mono ?_); rintro e w5 ⟨rfl, hE5⟩; have hX := Ext.trans (show Ext w2 _ from (by (repeat (with_reducible (first | assumption | exact Ext.refl _ | refine Ext.alloc ?_ _ | refine Ext.drewN ?_ _ | refine Ext.drew ?_))))) hE5; (try (have hY := Ext.trans (show Ext w4 _ from (by (repeat (with_reducible (first | assumption | exact Ext.refl _ | refine Ext.alloc ?_ _ | refine Ext.drewN ?_ _ | refine Ext.drew ?_))))) hE5; have b0 := (hY.cells R _ hR4).trans C0.out; have b1 := (hY.cells R _ hR4).trans C1.out; have b2 := (hY.cells R _ hR4).trans C2.out)); clear hE5)
                | fail)
              go_ret
              exact ⟨rfl, HE2.out.trans (by (repeat (with_reducible (first | assumption | exact Ext.refl _ | refine Ext.alloc ?_ _ | refine Ext.drewN ?_ _ | refine Ext.drew ?_))))⟩
          · have r3 : l0 < -62135596800 := by omega
            clear r1
            go_wp2_with (first
              | (go_at_call 19; (with_reducible refine (replall_c s T _ (Hm2.out.ext (by (repeat (with_reducible (first | assumption | exact Ext.refl _ | refine Ext.alloc ?_ _ | refine Ext.drewN ?_ _ | refine Ext.drew ?_))))) (by omega) HT.out).mono ?_); rintro e w3 ⟨rfl, hE3⟩; have hX := Ext.trans (show Ext w2 _ from (by (repeat (with_reducible (first | assumption | exact Ext.refl _ | refine Ext.alloc ?_ _ | refine Ext.drewN ?_ _ | refine Ext.drew ?_))))) hE3; clear hE3)
              | (go_at_call 18; (with_reducible refine (HC0.out _).mono ?_); rintro e w0 ⟨ao, n, cap0, p1, p2, p3, rfl, hE0⟩; have hX := Ext.trans (show Ext w2 _ from (by (repeat (with_reducible (first | assumption | exact Ext.refl _ | refine Ext.alloc ?_ _ | refine Ext.drewN ?_ _ | refine Ext.drew ?_))))) hE0; clear hE0)
              | (go_at_call 18; (with_reducible refine (HC.out _).mono ?_); rintro e w4 ⟨R, off, cap, rfl, hP4, hR4, c0, c1, c2, hcap1, hcap2, hE4⟩; have HP4 := Lib.hid hP4; have hX := Ext.trans (show Ext w2 _ from (by (repeat (with_reducible (first | assumption | exact Ext.refl _ | refine Ext.alloc ?_ _ | refine Ext.drewN ?_ _ | refine Ext.drew ?_))))) hE4; have C0 := Lib.hid c0; have C1 := Lib.hid c1; have C2 := Lib.hid c2; clear hP4 hE4)
              | (go_at_call 20; (with_reducible refine (trim39_c s _ (by omega) _ HM.out).mono ?_); rintro e w5 ⟨rfl, hE5⟩; have hX := Ext.trans (show Ext w2 _ from (by (repeat (with_reducible (first | assumption | exact Ext.refl _ | refine Ext.alloc ?_ _ | refine Ext.drewN ?_ _ | refine Ext.drew ?_))))) hE5; (try (have hY := Ext.trans (show Ext w4 _ from (by (repeat (with_reducible (first | assumption | exact Ext.refl _ | refine Ext.alloc ?_ _ | refine Ext.drewN ?_ _ | refine Ext.drew ?_))))) hE5; have b0 := (hY.cells R _ hR4).trans C0.out; have b1 := (hY.cells R _ hR4).trans C1.out; have b2 := (hY.cells R _ hR4).trans C2.out)); clear hE5)
              | fail)
            go_ret
            exact ⟨rfl, HE2.out.trans (by (repeat (with_reducible (first | assumption | exact Ext.refl _ | refine Ext.alloc ?_ _ | refine Ext.drewN ?_ _ | refine Ext.drew ?_))))⟩
theorem literals_walk (sb : ByteArray) (l0 : Int) (w : World) (hm : Lm w) (hsb : sb.size ≤ maxLen) :
    Calls Tryz.prog 4 #[.string sb, .int .i64 l0] w fun e w' => e = .returned (.bool true) ∧ Ext w w' := by
  obtain ⟨s, rfl⟩ : ∃ s : List UInt8, sb = ⟨s.toArray⟩ := ⟨sb.data.toList, ba_mk sb⟩
  have hsl : s.length ≤ 9223372036854775807 := by unfold maxLen at hsb; simpa [ByteArray.size] using hsb
  by_cases h : 1 ≤ s.length ∧ s.length ≤ 60
  · exact lit_w2 s l0 w hm h.1 h.2
  · exact lit_w1 s l0 w (by omega) hsl
end Go.Proofs.YticckkadmhklmaaGreatDoor
