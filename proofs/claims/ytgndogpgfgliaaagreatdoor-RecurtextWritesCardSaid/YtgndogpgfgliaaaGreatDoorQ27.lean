/- Recurrence rules: the walk of Describe. -/
import Derived.Test.YtgndogpgfgliaaaGreatDoorQ26
import Derived.Deep.CutRange
namespace Go.Proofs.YtgndogpgfgliaaaGreatDoor
set_option linter.unusedVariables false
set_option linter.unnecessarySimpa false
set_option linter.unusedSimpArgs false
open Go.RowKit

set_option maxRecDepth 100000 in
set_option maxHeartbeats 8000000 in
theorem udesc_c (r : Rec) (w : World) (hV : RcV r w) : Calls Tryz.prog 15 #[.agg r.vals.toArray] w (DescR r w) := by
  have hE0 : Ext w (w.alloc (.cells r.vals.toArray 25)) := (Ext.refl w).alloc _
  have HE0 := Lib.hid hE0
  have hB := RcB.new r w 25
  have HB := Lib.hid hB
  have hVe := hV.ext hE0
  have hBr := hB.2
  have hBl := hB.1
  have hRs := rec_size r
  rcases Bool.eq_false_or_eq_true (vldR r.D) with hv | hv
  · have HVc := Lib.hid (fun W (hE : Ext (w.alloc (.cells r.vals.toArray 25)) W) => uvalid_c r true W (hVe.ext hE) hv)
    have HVe := Lib.hid hVe
    have Hv := Lib.hid hv
    have HR : Hid (∀ e w', e = .returned (.tuple #[.string ⟨(desZ momT r.D).toArray⟩, .int .i64 0]) ∧ Ext w w' → DescR r w e w') := fun e w' h => ⟨by rw [if_pos hv]; exact h.1, h.2⟩
    obtain ⟨n1, n2, n3, n4, n5, n6, n7, n8, n9⟩ := num_parts hv
    obtain ⟨k, hk⟩ : ∃ k : Nat, r.D.fr = (k : Int) + 1 := ⟨(r.D.fr - 1).toNat, by omega⟩
    have hk5 : k < 5 := by omega
    have hk0 : (0 : Int) ≤ (k : Int) := by omega
    have hk1 : (k : Int) < 5 := by omega
    have hw1 : IntKind.i64.wrap ((k : Int) + 1 - 1) = (k : Int) := by rw [IntWalk.i64_in _ (by omega)]; omega
    have hw2 : IntKind.i64.wrap (k : Int) = (k : Int) := IntWalk.i64_in _ (by omega)
    obtain ⟨U, hU⟩ : ∃ U, U = getW unW r.D.fr := ⟨_, rfl⟩
    have hUg : unW[k]? = some U := by
      have hkl : k < unW.length := hk5
      rw [List.getElem?_eq_getElem hkl, hU, hk]
      unfold getW
      rw [if_neg (by have : unW.length = 5 := rfl; omega), show ((k : Int) + 1 - 1).toNat = k by omega]
      simp [List.getD, hkl]
    have hUl : U.length ≤ 5 := by rw [hU]; exact getW_len (by decide)
    have HU : Hid (∀ W : World, (W.alloc (.cells #[.string ⟨#[121, 101, 97, 114]⟩, .string ⟨#[109, 111, 110, 116, 104]⟩, .string ⟨#[119, 101, 101, 107]⟩, .string ⟨#[100, 97, 121]⟩, .string ⟨#[104, 111, 117, 114]⟩] 9)).cell? ⟨W.heap.size, k, none⟩ = some (.string ⟨U.toArray⟩)) := fun W => by
      rw [World.cell?_alloc_new]
      have : (#[.string ⟨#[121, 101, 97, 114]⟩, .string ⟨#[109, 111, 110, 116, 104]⟩, .string ⟨#[119, 101, 101, 107]⟩, .string ⟨#[100, 97, 121]⟩, .string ⟨#[104, 111, 117, 114]⟩] : Array Value) = (unW.map fun l => Value.string ⟨l.toArray⟩).toArray := rfl
      rw [this, List.getElem?_toArray, List.getElem?_map, hUg]
      rfl
    have HEv : Hid (evZ r.D = sEv ++ (if r.D.iv = 1 then U else decZ r.D.iv ++ (32 :: (U ++ [115])))) := by rw [Hid, hU]; rfl
    obtain ⟨iv, hiv⟩ : ∃ iv, iv = r.D.iv := ⟨_, rfl⟩
    rw [← hiv] at HEv n3 n4
    obtain ⟨c0, c1, c2, c3, c4, c5, c6, c7, c8, c9, c10, c11, c12, c13⟩ := hB.all
    rw [hk] at c0
    rw [← hiv] at c1
    obtain ⟨i0, hif, hz0, hz1, hz2⟩ := info_parts infoStr
    have Hi := Lib.hid hif
    have Hz0 := Lib.hid hz0
    have Hz1 := Lib.hid hz1
    have Hz2 := Lib.hid hz2
    have HC1 := Lib.hid c1
    clear hif hz0 hz1 hz2 hE0 hB hVe hv hV hk hU hUg hiv c1 c2 c3 c4 c5 c6 c7 c8 c9 c10 c11 c12 c13
    go_enter Tryz.func15, Tryz.ntmps15
    go_upto_region 1 with fail
    generalize w.alloc (.cells r.vals.toArray 25) = W0 at *
    generalize w.heap.size = B at *
    go_upto_region 3 with (first
      | (refine load_midg (by rfl) 25 _ rfl B 0 rfl r.vals _ hBr Tryz.underlying25 rfl hRs ?_)
      | (go_at_call 27; (with_reducible refine (HVc.out _ (Ext.refl _)).mono ?_); rintro e w1 ⟨rfl, hE1⟩))
    have d0 := (hE1.cells B 0 hBl).trans c0
    have hBl1 := hE1.lt hBl
    have hu := HU.out w1
    have hE2 : Ext W0 (w1.alloc (.cells #[.string ⟨#[121, 101, 97, 114]⟩, .string ⟨#[109, 111, 110, 116, 104]⟩, .string ⟨#[119, 101, 101, 107]⟩, .string ⟨#[100, 97, 121]⟩, .string ⟨#[104, 111, 117, 114]⟩] 9)) := hE1.alloc _
    have d0' := (hE2.cells B 0 hBl).trans c0
    go_upto_region 4 with fail
    generalize w1.alloc (.cells #[.string ⟨#[121, 101, 97, 114]⟩, .string ⟨#[109, 111, 110, 116, 104]⟩, .string ⟨#[119, 101, 101, 107]⟩, .string ⟨#[100, 97, 121]⟩, .string ⟨#[104, 111, 117, 114]⟩] 9) = W2 at *
    generalize w1.heap.size = B1 at *
    have hz := hE2.size
    have hown := World.ownsRow_lit W2 (base := W0.heap.size) (e := 9) (size := 1) #[.string (⟨#[101, 118, 101, 114, 121, 32]⟩ ++ ⟨U.toArray⟩)] 1 hz (by decide) rfl
    have hE3 : Ext W0 (W2.alloc (.cells #[.string (⟨#[101, 118, 101, 114, 121, 32]⟩ ++ ⟨U.toArray⟩)] 9)) := hE2.alloc _
    go_upto_region 5 with fail
    generalize W2.alloc (.cells #[.string (⟨#[101, 118, 101, 114, 121, 32]⟩ ++ ⟨U.toArray⟩)] 9) = W3 at *
    generalize hg : W2.heap.size = g at *
    have hgW : W0.heap.size ≤ g := by omega
    have d1 := (hE3.cells B 1 hBl).trans HC1.out
    have hBl3 := hE3.lt hBl
    have HE3 := Lib.hid hE3
    have Hown := Lib.hid hown
    clear hu d0 d0' c0 hE1 hE2 hBl1 hz hg hown hE3 HU HVc
    obtain ⟨bc, hbc⟩ : ∃ bc, (iv != 1) = bc := ⟨_, rfl⟩
    have Hbc := Lib.hid hbc
    go_upto_if 24 with fail
    clear hbc
    go_cut [5] from 25 to 34 (fun x wx => OwS x [evZ r.D] W0.heap.size wx ∧ Ext W0 wx)
    case first =>
      cases bc with
      | false =>
        have q : iv = 1 := by have := Hbc.out; simpa using this
        have he : evZ r.D = sEv ++ U := by rw [HEv.out, if_pos q]
        clear q
        go_wp2_with fail
        go_meet
        exact ⟨OwS.mk_app (ps := []) (Y := evZ r.D) Hown.out (by rw [he]; exact app_str _ _), HE3.out⟩
      | true =>
        have q : ¬ iv = 1 := by have := Hbc.out; simpa using this
        have hi : i64 iv := by unfold i64; omega
        obtain ⟨Y, hY⟩ : ∃ Y, Y = decZ iv := ⟨_, rfl⟩
        have hYl : Y.length ≤ 20 := by rw [hY]; exact decZ_20 hi
        have HD : Hid (∀ w', Calls Tryz.prog 42 #[.int .i64 iv] w' fun e w'' => e = .returned (.string ⟨Y.toArray⟩) ∧ Ext w' w'') := fun w' => udec_c iv Y w' hi hY.symm
        have he : evZ r.D = sEv ++ (Y ++ (32 :: (U ++ [115]))) := by rw [HEv.out, if_neg q, hY]
        clear q hY hi
        go_wp2_with (go_at_call 42; (with_reducible refine (HD.out _).mono ?_); rintro e w4 ⟨rfl, hE4⟩; have ho4 := own_ext Hown.out (show Ext W3 w4 from hE4); have k0 := ho4.cellAt 0 (by decide); have f0 := ho4.frozenAt 0; have hg4 := (ho4.lt g rfl).2; simp only [List.getElem?_cons_zero] at k0)
        go_meet
        have hst := ho4.stored 0 (.string (⟨#[101, 118, 101, 114, 121, 32]⟩ ++ ⟨Y.toArray⟩ ++ ⟨#[32]⟩ ++ ⟨U.toArray⟩ ++ ⟨#[115]⟩))
        exact ⟨OwS.mk_app (ps := []) (Y := evZ r.D) hst.1 (by rw [he]; apply ByteArray.ext; simp [sEv]), ext_grown_at (HE3.out.trans hE4) hst.2 hgW⟩
    case rest =>
    obtain ⟨hx5, hE5⟩ := hcut
    generalize wc = w5 at *
    clear Hown HEv HE3 d1 hBl3 hgW Hbc
    obtain ⟨Ps, hPs⟩ : ∃ Ps, Ps = [evZ r.D] := ⟨_, rfl⟩
    have hPl : Ps.length ≤ 20 := by rw [hPs]; simp
    rw [← hPs] at hx5
    obtain ⟨ao, cv, rfl, hown⟩ := hx5
    have c4 := (HB.out.ext hE5).at_ (j := 4) (v := .slice (r.a 0) r.D.mo.length (r.c 0)) rfl
    have hBlx := (HB.out.ext hE5).1
    have HEo := Lib.hid hE5
    have Hown := Lib.hid hown
    clear hE5 hown
    obtain ⟨Mo, hMo⟩ := lst_i64 Hv.out r.D.mo (.inl rfl)
    obtain ⟨Wd, hWd⟩ : ∃ Wd, wordsT (r.D.mo.map (getW moW)) = Wd := ⟨_, rfl⟩
    have hWl : Wd.length ≤ 4000 := by rw [← hWd]; exact words_60 (getW moW) r.D.mo 3 (by decide) (fun n hn => getW_len (by decide)) hMo
    have HMp : Hid (∀ W, Ext W0 W → Calls Tryz.prog 43 #[.slice (r.a 0) r.D.mo.length (r.c 0), .func (.func 44) #[] #[]] W fun e w' => e = .returned (.string ⟨Wd.toArray⟩) ∧ Ext W w') := fun W hE => mapI_c (getW moW) _ r.D.mo _ _ Wd W (fun xs w' => by kernel_rfl) (HVe.out.mo.ext hE) (fun n hn W => mname_c n _ W (Mo n hn) rfl) (fun n hn => Nat.le_trans (getW_len (m := 3) (by decide)) (by decide)) (by omega) hWd
    obtain ⟨ml, hml⟩ : ∃ ml, ml = r.D.mo.length := ⟨_, rfl⟩
    have hml0 : ml = 0 ↔ r.D.mo = [] := by rw [hml]; exact List.length_eq_zero_iff
    rw [← hml] at c4 HMp
    obtain ⟨bc, hbc⟩ : ∃ bc, decide (0 < ml) = bc := ⟨_, rfl⟩
    have hbd : decide ((0 : Int) < (ml : Int)) = bc := by rw [← hbc]; exact decide_eq_decide.2 (by omega)
    have HA0 : Hid (bc = false → stA r.D = Ps) := fun q => by rw [q] at hbc; have := of_decide_eq_false hbc; unfold stA; rw [if_pos (hml0.1 (by omega)), hPs]; rfl
    have HA1 : Hid (bc = true → stA r.D = Ps ++ [sIn ++ Wd]) := fun q => by rw [q] at hbc; have := of_decide_eq_true hbc; unfold stA; rw [if_neg (fun h => by have := hml0.2 h; omega), hPs, hWd]
    clear hml hWd Mo hMo hml0
    clear hPs
    go_upto_if 38 with fail
    clear hbc hbd
    go_cut [5] from 39 to 45 (fun x wx => OwS x (stA r.D) W0.heap.size wx ∧ Ext W0 wx)
    case first =>
      cases bc with
      | false =>
        have he := HA0.out (by first | rfl | trivial)
        go_wp2_with fail
        go_meet
        exact ⟨by rw [he]; exact ⟨ao, cv, rfl, Hown.out⟩, HEo.out⟩
      | true =>
        have he := HA1.out (by first | rfl | trivial)
        go_wp2_with (first
          | (go_at_call 43; (with_reducible refine (HMp.out _ HEo.out).mono ?_); rintro e w6 ⟨rfl, hE6⟩; have ho6 := own_ext Hown.out hE6; have hX6 := HEo.out.trans hE6)
          | (at_builtin; refine wpList_append_own _ rfl _ _ 55 rfl W0.heap.size 9 i0 (.string .empty) 1 16 Tryz.underlying55 Hi.out Hz0.out Hz1.out Hz2.out rfl (by decide) _ _ _ rfl (ho6.alloc _) ⟨w6.heap.size, 0, none⟩ 1 1 [.string (⟨#[105, 110, 32]⟩ ++ ⟨Wd.toArray⟩)] rfl rfl (cell_one_new _ _ _) (fun x hx => by simp at hx; subst hx; rfl) (by unfold maxLen; omega) (by omega) (by have := (hX6).size; simp; omega) ?_; intro v9 w9 hown9 hgrow9 hnil9))
        have hExt := ext_grown (v := .slice ao Ps.length cv) (hX6.alloc _) (ho6.alloc _) hgrow9
        go_meet
        exact ⟨by rw [he]; exact OwS.mk_app hown9 (app_str _ _), hExt⟩
    case rest =>
    obtain ⟨hx5, hE7⟩ := hcut
    generalize wc = w7 at *
    clear Hown HEo c4 hBlx HA0 HA1
    clear HMp hWl
    have c7 := (HB.out.ext hE7).at_ (j := 7) (v := .slice (r.a 3) r.D.wk.length (r.c 3)) rfl
    have c6 := (HB.out.ext hE7).at_ (j := 6) (v := .slice (r.a 2) r.D.yd.length (r.c 2)) rfl
    have c5 := (HB.out.ext hE7).at_ (j := 5) (v := .slice (r.a 1) r.D.md.length (r.c 1)) rfl
    have hBlx := (HB.out.ext hE7).1
    have hcc : ∀ o, (w7.alloc (.cells #[.string ⟨#[105, 110, 32, 116, 104, 101, 32, 119, 101, 101, 107, 115, 32]⟩, .slice (r.a 3) r.D.wk.length (r.c 3), .string ⟨#[111, 110, 32, 116, 104, 101, 32, 100, 97, 121, 115, 32, 111, 102, 32, 116, 104, 101, 32, 121, 101, 97, 114, 32]⟩, .slice (r.a 2) r.D.yd.length (r.c 2), .string ⟨#[111, 110, 32, 116, 104, 101, 32, 100, 97, 121, 115, 32, 111, 102, 32, 116, 104, 101, 32, 109, 111, 110, 116, 104, 32]⟩, .slice (r.a 1) r.D.md.length (r.c 1)] 74)).cell? ⟨w7.heap.size, o, none⟩ = (#[.string ⟨#[105, 110, 32, 116, 104, 101, 32, 119, 101, 101, 107, 115, 32]⟩, .slice (r.a 3) r.D.wk.length (r.c 3), .string ⟨#[111, 110, 32, 116, 104, 101, 32, 100, 97, 121, 115, 32, 111, 102, 32, 116, 104, 101, 32, 121, 101, 97, 114, 32]⟩, .slice (r.a 2) r.D.yd.length (r.c 2), .string ⟨#[111, 110, 32, 116, 104, 101, 32, 100, 97, 121, 115, 32, 111, 102, 32, 116, 104, 101, 32, 109, 111, 110, 116, 104, 32]⟩, .slice (r.a 1) r.D.md.length (r.c 1)] : Array Value)[o]? := fun o => World.cell?_alloc_new _ _ _ _
    have hHl : w7.heap.size < (w7.alloc (.cells #[.string ⟨#[105, 110, 32, 116, 104, 101, 32, 119, 101, 101, 107, 115, 32]⟩, .slice (r.a 3) r.D.wk.length (r.c 3), .string ⟨#[111, 110, 32, 116, 104, 101, 32, 100, 97, 121, 115, 32, 111, 102, 32, 116, 104, 101, 32, 121, 101, 97, 114, 32]⟩, .slice (r.a 2) r.D.yd.length (r.c 2), .string ⟨#[111, 110, 32, 116, 104, 101, 32, 100, 97, 121, 115, 32, 111, 102, 32, 116, 104, 101, 32, 109, 111, 110, 116, 104, 32]⟩, .slice (r.a 1) r.D.md.length (r.c 1)] 74)).heap.size := by simp
    have hEl : Ext W0 (w7.alloc (.cells #[.string ⟨#[105, 110, 32, 116, 104, 101, 32, 119, 101, 101, 107, 115, 32]⟩, .slice (r.a 3) r.D.wk.length (r.c 3), .string ⟨#[111, 110, 32, 116, 104, 101, 32, 100, 97, 121, 115, 32, 111, 102, 32, 116, 104, 101, 32, 121, 101, 97, 114, 32]⟩, .slice (r.a 2) r.D.yd.length (r.c 2), .string ⟨#[111, 110, 32, 116, 104, 101, 32, 100, 97, 121, 115, 32, 111, 102, 32, 116, 104, 101, 32, 109, 111, 110, 116, 104, 32]⟩, .slice (r.a 1) r.D.md.length (r.c 1)] 74)) := hE7.alloc _
    have hElw : Ext w7 (w7.alloc (.cells #[.string ⟨#[105, 110, 32, 116, 104, 101, 32, 119, 101, 101, 107, 115, 32]⟩, .slice (r.a 3) r.D.wk.length (r.c 3), .string ⟨#[111, 110, 32, 116, 104, 101, 32, 100, 97, 121, 115, 32, 111, 102, 32, 116, 104, 101, 32, 121, 101, 97, 114, 32]⟩, .slice (r.a 2) r.D.yd.length (r.c 2), .string ⟨#[111, 110, 32, 116, 104, 101, 32, 100, 97, 121, 115, 32, 111, 102, 32, 116, 104, 101, 32, 109, 111, 110, 116, 104, 32]⟩, .slice (r.a 1) r.D.md.length (r.c 1)] 74)) := (Ext.refl _).alloc _
    have hox : OwX _ _ W0.heap.size w7.heap.size w7 := OwX.of hx5
    obtain ⟨H3, hH3⟩ : ∃ H3, H3 = w7.heap.size := ⟨_, rfl⟩
    have HL : Hid (∀ j (h : j < 3), ∃ (hd : List UInt8) (zs : List Int) (la : Option Addr) (lc : Nat), (hl3 r.D)[j]'h = (hd, zs) ∧ (w7.alloc (.cells #[.string ⟨#[105, 110, 32, 116, 104, 101, 32, 119, 101, 101, 107, 115, 32]⟩, .slice (r.a 3) r.D.wk.length (r.c 3), .string ⟨#[111, 110, 32, 116, 104, 101, 32, 100, 97, 121, 115, 32, 111, 102, 32, 116, 104, 101, 32, 121, 101, 97, 114, 32]⟩, .slice (r.a 2) r.D.yd.length (r.c 2), .string ⟨#[111, 110, 32, 116, 104, 101, 32, 100, 97, 121, 115, 32, 111, 102, 32, 116, 104, 101, 32, 109, 111, 110, 116, 104, 32]⟩, .slice (r.a 1) r.D.md.length (r.c 1)] 74)).cell? ⟨H3, j * 2, none⟩ = some (.string ⟨hd.toArray⟩) ∧ (w7.alloc (.cells #[.string ⟨#[105, 110, 32, 116, 104, 101, 32, 119, 101, 101, 107, 115, 32]⟩, .slice (r.a 3) r.D.wk.length (r.c 3), .string ⟨#[111, 110, 32, 116, 104, 101, 32, 100, 97, 121, 115, 32, 111, 102, 32, 116, 104, 101, 32, 121, 101, 97, 114, 32]⟩, .slice (r.a 2) r.D.yd.length (r.c 2), .string ⟨#[111, 110, 32, 116, 104, 101, 32, 100, 97, 121, 115, 32, 111, 102, 32, 116, 104, 101, 32, 109, 111, 110, 116, 104, 32]⟩, .slice (r.a 1) r.D.md.length (r.c 1)] 74)).cell? ⟨H3, j * 2 + 1, none⟩ = some (.slice la zs.length lc) ∧ IsV la lc zs W0 ∧ (∀ n ∈ zs, i64 n) ∧ zs.length ≤ 60 ∧ hd.length ≤ 30) := by
      intro j h
      rw [hH3]
      rcases (show j = 0 ∨ j = 1 ∨ j = 2 by omega) with rfl | rfl | rfl
      · exact ⟨_, _, r.a 3, r.c 3, rfl, (hcc 0).trans rfl, (hcc 1).trans rfl, HVe.out.wk, (lst_i64 Hv.out r.D.wk (.inr (.inr (.inr (.inl rfl))))).1, (lst_i64 Hv.out r.D.wk (.inr (.inr (.inr (.inl rfl))))).2, by decide⟩
      · exact ⟨_, _, r.a 2, r.c 2, rfl, (hcc 2).trans rfl, (hcc 3).trans rfl, HVe.out.yd, (lst_i64 Hv.out r.D.yd (.inr (.inr (.inl rfl)))).1, (lst_i64 Hv.out r.D.yd (.inr (.inr (.inl rfl)))).2, by decide⟩
      · exact ⟨_, _, r.a 1, r.c 1, rfl, (hcc 4).trans rfl, (hcc 5).trans rfl, HVe.out.md, (lst_i64 Hv.out r.D.md (.inr (.inl rfl))).1, (lst_i64 Hv.out r.D.md (.inr (.inl rfl))).2, by decide⟩
    have HSt : Hid (stA r.D ++ ((hl3 r.D).take 3).flatMap pcZ = stB r.D) := rfl
    have hPb := (st_lens r.D)
    obtain ⟨P0, hP0⟩ : ∃ P0, P0 = stA r.D := ⟨_, rfl⟩
    have hPl : P0.length ≤ 12 := by rw [hP0]; omega
    rw [← hP0] at hox HSt
    rw [← hH3] at hox
    have HEl := Lib.hid hEl
    have Hox := Lib.hid (hox.ext hElw)
    clear hcc hP0 hPb hx5 hox hEl hElw hE7
    go_wp2_with fail
    rw [← hH3] at hHl ⊢
    clear hH3
    generalize (w7.alloc (.cells #[.string ⟨#[105, 110, 32, 116, 104, 101, 32, 119, 101, 101, 107, 115, 32]⟩, .slice (r.a 3) r.D.wk.length (r.c 3), .string ⟨#[111, 110, 32, 116, 104, 101, 32, 100, 97, 121, 115, 32, 111, 102, 32, 116, 104, 101, 32, 121, 101, 97, 114, 32]⟩, .slice (r.a 2) r.D.yd.length (r.c 2), .string ⟨#[111, 110, 32, 116, 104, 101, 32, 100, 97, 121, 115, 32, 111, 102, 32, 116, 104, 101, 32, 109, 111, 110, 116, 104, 32]⟩, .slice (r.a 1) r.D.md.length (r.c 1)] 74)) = w7l at *
    clear c7 c6 c5 hBlx
    go_loopw [5, 57] (fun x i wr => ∃ j : Nat, j ≤ 3 ∧ OwX x (P0 ++ ((hl3 r.D).take j).flatMap pcZ) W0.heap.size H3 wr ∧ i = .int .i64 (j : Int) ∧ KeepB H3 w7l wr ∧ Ext W0 wr) (fun _ i _ => 3 - (intOf i).toNat)
    case atStart => exact ⟨0, by omega, by rw [List.take_zero, List.flatMap_nil, List.append_nil]; exact Hox.out, rfl, ⟨hHl, fun _ => rfl⟩, HEl.out⟩
    case round =>
      obtain ⟨j, hj, hO, rfl, hKp, hE⟩ := hrel
      by_cases hlt : j < 3
      · obtain ⟨hd, zs, la, lc, hel, s0, s1, hVz, hi64, hz60, hh30⟩ := HL.out j hlt
        replace s0 := (hKp.2 _).trans s0
        replace s1 := (hKp.2 _).trans s1
        have hHr := hKp.1
        have HN0 : Hid (zs = [] → P0 ++ ((hl3 r.D).take (j + 1)).flatMap pcZ = P0 ++ ((hl3 r.D).take j).flatMap pcZ) := pcs_no P0 (hl3 r.D) j hlt hd zs hel
        have HN1 : Hid (zs ≠ [] → P0 ++ ((hl3 r.D).take (j + 1)).flatMap pcZ = P0 ++ ((hl3 r.D).take j).flatMap pcZ ++ [hd ++ wordsT (zs.map decZ)]) := pcs_yes P0 (hl3 r.D) j hlt hd zs hel
        obtain ⟨Ps, hPs⟩ : ∃ Ps, Ps = P0 ++ ((hl3 r.D).take j).flatMap pcZ := ⟨_, rfl⟩
        have hPl2 : Ps.length ≤ 20 := by
          rw [hPs, List.length_append]
          have h1 := pcs_len ((hl3 r.D).take j)
          rw [List.length_take] at h1
          omega
        rw [← hPs] at hO HN0 HN1
        obtain ⟨ao, cv, rfl, hown, hav⟩ := hO
        obtain ⟨Wd, hWd⟩ : ∃ Wd, wordsT (zs.map decZ) = Wd := ⟨_, rfl⟩
        have hWl : Wd.length ≤ 4000 := by rw [← hWd]; exact words_60 decZ zs 20 (by decide) (fun n hn => decZ_20 (hi64 n hn)) hz60
        have HMp : Hid (∀ W, Ext W0 W → Calls Tryz.prog 43 #[.slice la zs.length lc, .func (.func 42) #[] #[]] W fun e w' => e = .returned (.string ⟨Wd.toArray⟩) ∧ Ext W w') := fun W hE => mapI_c decZ _ zs la lc Wd W (fun xs w' => by kernel_rfl) (hVz.ext hE) (fun n hn W => udec_c n _ W (hi64 n hn) rfl) (fun n hn => Nat.le_trans (decZ_20 (hi64 n hn)) (by decide)) (by omega) hWd
        obtain ⟨Z, hZ⟩ : ∃ Z, hd ++ Wd = Z := ⟨_, rfl⟩
        have hZl : Z.length ≤ 1000000000000 := by rw [← hZ, List.length_append]; omega
        have HZ := Lib.hid hZ
        rw [hWd, hZ] at HN1
        obtain ⟨ln, hln⟩ : ∃ ln, ln = zs.length := ⟨_, rfl⟩
        have hlz : ln = 0 ↔ zs = [] := by rw [hln]; exact List.length_eq_zero_iff
        rw [← hln] at s1 HMp
        have Hlz := Lib.hid hlz
        have hcc : ∀ o, (wr.alloc (.cells #[.string ⟨hd.toArray⟩, .slice la ln lc] 74)).cell? ⟨wr.heap.size, o, none⟩ = (#[.string ⟨hd.toArray⟩, .slice la ln lc] : Array Value)[o]? := fun o => World.cell?_alloc_new _ _ _ _
        have t0 := hcc 0
        have t1 := hcc 1
        simp only [List.getElem?_toArray, List.getElem?_cons_zero, List.getElem?_cons_succ] at t0 t1
        have hl7 : wr.heap.size < (wr.alloc (.cells #[.string ⟨hd.toArray⟩, .slice la ln lc] 74)).heap.size := by simp
        have hEz0 : Ext wr (wr.alloc (.cells #[.string ⟨hd.toArray⟩, .slice la ln lc] 74)) := (Ext.refl _).alloc _
        clear hcc hZ hln hWd hPs hel hVz hi64 hz60 hlz
        go_upto_region 12 with fail
        generalize wr.alloc (.cells #[.string ⟨hd.toArray⟩, .slice la ln lc] 74) = wz at *
        have HEr := Lib.hid (hE.trans hEz0)
        have HKz := Lib.hid (hKp.ext hEz0)
        have Hown := Lib.hid (own_ext hown hEz0)
        have Hav := Lib.hid hav
        clear s0 s1 hKp hown hEz0 hE hHr hav
        generalize wr.heap.size = B7 at *
        by_cases q : zs = []
        · have hz := Hlz.out.2 q
          have Hn := Lib.hid (HN0.out q)
          subst hz
          clear q
          go_wp2_with fail
          go_roundw
          case rel => exact ⟨j + 1, by omega, by rw [Hn.out]; exact ⟨ao, cv, rfl, Hown.out, Hav.out⟩, by go_num, HKz.out, HEr.out⟩
          case measure => simp [intOf]; omega
        · have p1 : decide ((0 : Int) < (ln : Int)) = true := decide_eq_true (by have : ln ≠ 0 := fun h => q (Hlz.out.1 h); omega)
          have p0 : decide (0 < ln) = true := decide_eq_true (by have : ln ≠ 0 := fun h => q (Hlz.out.1 h); omega)
          have Hn := Lib.hid (HN1.out q)
          clear q
          go_upto_region 13 with fail
          refine wp_region_grow [65, 66, 67, 68, 69, 70, 71, 72] [fun x _ => x = .slice ao Ps.length cv, fun x _ => x = .pointer (some ⟨B7, 0, none⟩), fun x _ => x = .string ⟨hd.toArray⟩, fun x _ => x = .pointer (some ⟨B7, 1, none⟩), fun x _ => x = .slice la ln lc, fun x _ => x = .string ⟨Wd.toArray⟩, fun x _ => x = .string ⟨Z.toArray⟩, OneS Z] 2 (by kernel_rfl) (by kernel_rfl) (by kernel_rfl) (by kernel_rfl) ?_ ?_ ?_
          · intro Rl hRl
            simp only [List.mem_cons, List.not_mem_nil, or_false] at hRl
            rcases hRl with rfl | rfl | rfl | rfl | rfl | rfl | rfl | rfl
            all_goals first
              | exact fun _ _ _ h _ => h
              | exact fun _ _ _ h hE => OneS.ext h hE
          · refine ⟨?_, ?_, ?_, ?_, ?_, ?_, ?_, ?_, trivial⟩
            all_goals intro a w hE hF hD K hK
            · exact gs_val rfl (yr_move rfl ((hF 5 (fr_of rfl)).trans rfl)) (hK _ _ rfl (Ext.refl _))
            · exact gs_val rfl (yr_field rfl ((hF 7 (fr_of rfl)).trans rfl) (by go_simp)) (hK _ _ rfl (Ext.refl _))
            · have u66 : a.eval (.tmp 66) = .pointer (some ⟨B7, 0, none⟩) := hD 1 (by kernel_rfl)
              exact gs_val rfl (yr_load rfl u66 (ld_st _ _ _ ((hE.cells B7 0 hl7).trans t0))) (hK _ _ rfl (Ext.refl _))
            · exact gs_val rfl (yr_field rfl ((hF 7 (fr_of rfl)).trans rfl) (by go_simp)) (hK _ _ rfl (Ext.refl _))
            · have u68 : a.eval (.tmp 68) = .pointer (some ⟨B7, 1, none⟩) := hD 3 (by kernel_rfl)
              exact gs_val rfl (yr_load rfl u68 (ld_is _ _ _ ((hE.cells B7 1 hl7).trans t1))) (hK _ _ rfl (Ext.refl _))
            · have u69 : a.eval (.tmp 69) = .slice la ln lc := hD 4 (by kernel_rfl)
              have q0 : a.eval (.tmp 69) = .slice la ln lc := u69
              exact gs_call rfl (yr_call rfl rfl (show (#[Operand.tmp 69, Operand.func 42] : Array Operand).map a.eval = #[.slice la ln lc, .func (.func 42) #[] #[]] by simp only [List.map_toArray, List.map_cons, List.map_nil, q0] <;> rfl) (by kernel_rfl)) ((HMp.out w (HEr.out.trans hE)).mono fun e w' ⟨h1, h2⟩ => ⟨_, h1, rfl, h2⟩) hK
            · have u67 : a.eval (.tmp 67) = .string ⟨hd.toArray⟩ := hD 2 (by kernel_rfl)
              have u70 : a.eval (.tmp 70) = .string ⟨Wd.toArray⟩ := hD 5 (by kernel_rfl)
              exact gs_val rfl (yr_addt rfl u67 u70 hZl HZ.out) (hK _ _ rfl (Ext.refl _))
            · have u71 : a.eval (.tmp 71) = .string ⟨Z.toArray⟩ := hD 6 (by kernel_rfl)
              exact gs_mkE rfl (yr_bs1 rfl u71 (bs1_run _ w)) (hK _ _ (OneS.new Z w) ((Ext.refl w).alloc _))
          intro vals wz hEz hRz
          obtain ⟨h0, -, -, -, -, -, -, h7, -⟩ := hRz
          have e65 : vals 0 = .slice ao Ps.length cv := h0
          obtain ⟨g, e72, hg, hgl⟩ := h7
          simp only [putF, Act.put, List.length_cons, List.length_nil, List.getD_cons_zero, List.getD_cons_succ, List.setIfInBounds_toArray, List.set_cons_zero, List.set_cons_succ, Nat.reduceAdd, e65, e72]
          clear e65 e72
          have hown2 := own_ext Hown.out hEz
          have hsz2 := (HEr.out.trans hEz).size
          refine wpAny_op (i := 8) (by kernel_rfl) rfl (by rfl) ?_
          refine wp_append_lies _ (.tmp 65) (.tmp 72) 55 rfl W0.heap.size 9 i0 (.string .empty) 1 16 Tryz.underlying55 Hi.out Hz0.out Hz1.out Hz2.out rfl (by decide) _ _ _ rfl hown2 ⟨g, 0, none⟩ 1 1 [.string ⟨Z.toArray⟩] rfl rfl (OneS.at_ hg) (fun x hx => by simp at hx; subst hx; rfl) (by decide) (by unfold maxLen; omega) (by omega) (by omega) _ rfl ?_
          intro g2 cp2 w3 hown' hgrow3 hgo hgl3
          have HExt := Lib.hid (ext_grown (v := .slice ao Ps.length cv) (HEr.out.trans hEz) hown2 hgrow3)
          have HKp3 := Lib.hid ((HKz.out.ext hEz).grown hgrow3 Hav.out)
          have Hav3 : Hid ((Value.slice (some ⟨g2, 0, none⟩) (Ps.length + 1) cp2).ownBlock ≠ some H3) := fun e => by
            rcases hgo with q | q
            · exact Hav.out (q.trans e)
            · have := (HKz.out.ext hEz).1
              have e2 : g2 = H3 := Option.some.inj e
              omega
          have Hown3 := Lib.hid hown'
          refine wpAny_one (i := 9) (by kernel_rfl) rfl (by rfl) (by exact yr_assign rfl rfl) ?_
          refine wpAny_done (by kernel_rfl) ?_ _
          simp only [Act.put, List.setIfInBounds_toArray, List.set_cons_zero, List.set_cons_succ]
          clear hown' hgrow3 hown2
          go_wp2_with fail
          go_roundw
          case rel => exact ⟨j + 1, by omega, by rw [Hn.out]; exact ⟨some ⟨g2, 0, none⟩, cp2, by rw [List.length_append]; rfl, by rw [List.length_append, sv_app]; exact Hown3.out, Hav3.out⟩, by go_num, HKp3.out, HExt.out⟩
          case measure => simp [intOf]; omega
      · obtain rfl : j = 3 := by omega
        rw [HSt.out] at hO
        have hx5 := hO.ows
        have hEA := hE
        clear HL HSt hHl Hox HEl hO hKp hE hPl
        generalize wr = w_hEA at *
        obtain ⟨Ps, hPs⟩ : ∃ Ps, Ps = stB r.D := ⟨_, rfl⟩
        have hPl : Ps.length ≤ 20 := by rw [hPs]; have := st_lens r.D; omega
        rw [← hPs] at hx5
        obtain ⟨ao, cv, rfl, hown⟩ := hx5
        have c8 := (HB.out.ext hEA).at_ (j := 8) (v := .slice (r.a 4) r.D.da.length (r.c 4)) rfl
        have hBlx := (HB.out.ext hEA).1
        have HEo := Lib.hid hEA
        have Hown := Lib.hid hown
        clear hEA hown
        obtain ⟨Da, hDa⟩ := day_i64 Hv.out
        obtain ⟨Wd, hWd⟩ : ∃ Wd, wordsT (r.D.da.map dayD) = Wd := ⟨_, rfl⟩
        obtain ⟨hW4, hD4⟩ := words_60d r.D.da (fun o ho => (Da o ho).1) hDa
        have hWl : Wd.length ≤ 4000 := by rw [← hWd]; exact hW4
        have HMp : Hid (∀ W, Ext W0 W → Calls Tryz.prog 45 #[.slice (r.a 4) r.D.da.length (r.c 4), .func (.func 46) #[] #[]] W fun e w' => e = .returned (.string ⟨Wd.toArray⟩) ∧ Ext W w') := fun W hE => mapO_c r.D.da _ _ Wd W (HVe.out.da.ext hE) Da (fun o ho => Nat.le_trans (hD4 o ho) (by decide)) (by omega) hWd
        obtain ⟨ml, hml⟩ : ∃ ml, ml = r.D.da.length := ⟨_, rfl⟩
        have hml0 : ml = 0 ↔ r.D.da = [] := by rw [hml]; exact List.length_eq_zero_iff
        rw [← hml] at c8 HMp
        obtain ⟨bc, hbc⟩ : ∃ bc, decide (0 < ml) = bc := ⟨_, rfl⟩
        have hbd : decide ((0 : Int) < (ml : Int)) = bc := by rw [← hbc]; exact decide_eq_decide.2 (by omega)
        have HA0 : Hid (bc = false → stC r.D = Ps) := fun q => by rw [q] at hbc; have := of_decide_eq_false hbc; unfold stC; rw [if_pos (hml0.1 (by omega)), hPs]; simp
        have HA1 : Hid (bc = true → stC r.D = Ps ++ [sOn ++ Wd]) := fun q => by rw [q] at hbc; have := of_decide_eq_true hbc; unfold stC; rw [if_neg (fun h => by have := hml0.2 h; omega), hPs, hWd]
        clear hml hWd Da hDa hml0 hW4 hD4
        clear hPs
        go_upto_if 78 with fail
        clear hbc hbd
        go_cut [5] from 79 to 85 (fun x wx => OwS x (stC r.D) W0.heap.size wx ∧ Ext W0 wx)
        case first =>
          cases bc with
          | false =>
            have he := HA0.out (by first | rfl | trivial)
            go_wp2_with fail
            go_meet
            exact ⟨by rw [he]; exact ⟨ao, cv, rfl, Hown.out⟩, HEo.out⟩
          | true =>
            have he := HA1.out (by first | rfl | trivial)
            go_wp2_with (first
              | (go_at_call 45; (with_reducible refine (HMp.out _ HEo.out).mono ?_); rintro e w6 ⟨rfl, hE6⟩; have ho6 := own_ext Hown.out hE6; have hX6 := HEo.out.trans hE6)
              | (at_builtin; refine wpList_append_own _ rfl _ _ 55 rfl W0.heap.size 9 i0 (.string .empty) 1 16 Tryz.underlying55 Hi.out Hz0.out Hz1.out Hz2.out rfl (by decide) _ _ _ rfl (ho6.alloc _) ⟨w6.heap.size, 0, none⟩ 1 1 [.string (⟨#[111, 110, 32]⟩ ++ ⟨Wd.toArray⟩)] rfl rfl (cell_one_new _ _ _) (fun x hx => by simp at hx; subst hx; rfl) (by unfold maxLen; omega) (by omega) (by have := (hX6).size; simp; omega) ?_; intro v9 w9 hown9 hgrow9 hnil9))
            have hExt := ext_grown (v := .slice ao Ps.length cv) (hX6.alloc _) (ho6.alloc _) hgrow9
            go_meet
            exact ⟨by rw [he]; exact OwS.mk_app hown9 (app_str _ _), hExt⟩
        case rest =>
        obtain ⟨hx5, hE8⟩ := hcut
        generalize wc = w8 at *
        clear Hown HEo c8 hBlx HA0 HA1
        clear HMp hWl
        have c9 := (HB.out.ext hE8).at_ (j := 9) (v := .slice (r.a 5) r.D.ho.length (r.c 5)) rfl
        have c10 := (HB.out.ext hE8).at_ (j := 10) (v := .slice (r.a 6) r.D.mi.length (r.c 6)) rfl
        have c11 := (HB.out.ext hE8).at_ (j := 11) (v := .slice (r.a 7) r.D.se.length (r.c 7)) rfl
        have c12 := (HB.out.ext hE8).at_ (j := 12) (v := .slice (r.a 8) r.D.po.length (r.c 8)) rfl
        have hBlx := (HB.out.ext hE8).1
        have hcc : ∀ o, (w8.alloc (.cells #[.string ⟨#[97, 116, 32, 116, 104, 101, 32, 104, 111, 117, 114, 115, 32]⟩, .slice (r.a 5) r.D.ho.length (r.c 5), .string ⟨#[97, 116, 32, 116, 104, 101, 32, 109, 105, 110, 117, 116, 101, 115, 32]⟩, .slice (r.a 6) r.D.mi.length (r.c 6), .string ⟨#[97, 116, 32, 116, 104, 101, 32, 115, 101, 99, 111, 110, 100, 115, 32]⟩, .slice (r.a 7) r.D.se.length (r.c 7), .string ⟨#[111, 110, 108, 121, 32, 116, 104, 101, 32, 110, 117, 109, 98, 101, 114, 115, 32]⟩, .slice (r.a 8) r.D.po.length (r.c 8)] 74)).cell? ⟨w8.heap.size, o, none⟩ = (#[.string ⟨#[97, 116, 32, 116, 104, 101, 32, 104, 111, 117, 114, 115, 32]⟩, .slice (r.a 5) r.D.ho.length (r.c 5), .string ⟨#[97, 116, 32, 116, 104, 101, 32, 109, 105, 110, 117, 116, 101, 115, 32]⟩, .slice (r.a 6) r.D.mi.length (r.c 6), .string ⟨#[97, 116, 32, 116, 104, 101, 32, 115, 101, 99, 111, 110, 100, 115, 32]⟩, .slice (r.a 7) r.D.se.length (r.c 7), .string ⟨#[111, 110, 108, 121, 32, 116, 104, 101, 32, 110, 117, 109, 98, 101, 114, 115, 32]⟩, .slice (r.a 8) r.D.po.length (r.c 8)] : Array Value)[o]? := fun o => World.cell?_alloc_new _ _ _ _
        have hHl : w8.heap.size < (w8.alloc (.cells #[.string ⟨#[97, 116, 32, 116, 104, 101, 32, 104, 111, 117, 114, 115, 32]⟩, .slice (r.a 5) r.D.ho.length (r.c 5), .string ⟨#[97, 116, 32, 116, 104, 101, 32, 109, 105, 110, 117, 116, 101, 115, 32]⟩, .slice (r.a 6) r.D.mi.length (r.c 6), .string ⟨#[97, 116, 32, 116, 104, 101, 32, 115, 101, 99, 111, 110, 100, 115, 32]⟩, .slice (r.a 7) r.D.se.length (r.c 7), .string ⟨#[111, 110, 108, 121, 32, 116, 104, 101, 32, 110, 117, 109, 98, 101, 114, 115, 32]⟩, .slice (r.a 8) r.D.po.length (r.c 8)] 74)).heap.size := by simp
        have hEl : Ext W0 (w8.alloc (.cells #[.string ⟨#[97, 116, 32, 116, 104, 101, 32, 104, 111, 117, 114, 115, 32]⟩, .slice (r.a 5) r.D.ho.length (r.c 5), .string ⟨#[97, 116, 32, 116, 104, 101, 32, 109, 105, 110, 117, 116, 101, 115, 32]⟩, .slice (r.a 6) r.D.mi.length (r.c 6), .string ⟨#[97, 116, 32, 116, 104, 101, 32, 115, 101, 99, 111, 110, 100, 115, 32]⟩, .slice (r.a 7) r.D.se.length (r.c 7), .string ⟨#[111, 110, 108, 121, 32, 116, 104, 101, 32, 110, 117, 109, 98, 101, 114, 115, 32]⟩, .slice (r.a 8) r.D.po.length (r.c 8)] 74)) := hE8.alloc _
        have hElw : Ext w8 (w8.alloc (.cells #[.string ⟨#[97, 116, 32, 116, 104, 101, 32, 104, 111, 117, 114, 115, 32]⟩, .slice (r.a 5) r.D.ho.length (r.c 5), .string ⟨#[97, 116, 32, 116, 104, 101, 32, 109, 105, 110, 117, 116, 101, 115, 32]⟩, .slice (r.a 6) r.D.mi.length (r.c 6), .string ⟨#[97, 116, 32, 116, 104, 101, 32, 115, 101, 99, 111, 110, 100, 115, 32]⟩, .slice (r.a 7) r.D.se.length (r.c 7), .string ⟨#[111, 110, 108, 121, 32, 116, 104, 101, 32, 110, 117, 109, 98, 101, 114, 115, 32]⟩, .slice (r.a 8) r.D.po.length (r.c 8)] 74)) := (Ext.refl _).alloc _
        have hox : OwX _ _ W0.heap.size w8.heap.size w8 := OwX.of hx5
        obtain ⟨H3, hH3⟩ : ∃ H3, H3 = w8.heap.size := ⟨_, rfl⟩
        have HL : Hid (∀ j (h : j < 4), ∃ (hd : List UInt8) (zs : List Int) (la : Option Addr) (lc : Nat), (hl4 r.D)[j]'h = (hd, zs) ∧ (w8.alloc (.cells #[.string ⟨#[97, 116, 32, 116, 104, 101, 32, 104, 111, 117, 114, 115, 32]⟩, .slice (r.a 5) r.D.ho.length (r.c 5), .string ⟨#[97, 116, 32, 116, 104, 101, 32, 109, 105, 110, 117, 116, 101, 115, 32]⟩, .slice (r.a 6) r.D.mi.length (r.c 6), .string ⟨#[97, 116, 32, 116, 104, 101, 32, 115, 101, 99, 111, 110, 100, 115, 32]⟩, .slice (r.a 7) r.D.se.length (r.c 7), .string ⟨#[111, 110, 108, 121, 32, 116, 104, 101, 32, 110, 117, 109, 98, 101, 114, 115, 32]⟩, .slice (r.a 8) r.D.po.length (r.c 8)] 74)).cell? ⟨H3, j * 2, none⟩ = some (.string ⟨hd.toArray⟩) ∧ (w8.alloc (.cells #[.string ⟨#[97, 116, 32, 116, 104, 101, 32, 104, 111, 117, 114, 115, 32]⟩, .slice (r.a 5) r.D.ho.length (r.c 5), .string ⟨#[97, 116, 32, 116, 104, 101, 32, 109, 105, 110, 117, 116, 101, 115, 32]⟩, .slice (r.a 6) r.D.mi.length (r.c 6), .string ⟨#[97, 116, 32, 116, 104, 101, 32, 115, 101, 99, 111, 110, 100, 115, 32]⟩, .slice (r.a 7) r.D.se.length (r.c 7), .string ⟨#[111, 110, 108, 121, 32, 116, 104, 101, 32, 110, 117, 109, 98, 101, 114, 115, 32]⟩, .slice (r.a 8) r.D.po.length (r.c 8)] 74)).cell? ⟨H3, j * 2 + 1, none⟩ = some (.slice la zs.length lc) ∧ IsV la lc zs W0 ∧ (∀ n ∈ zs, i64 n) ∧ zs.length ≤ 60 ∧ hd.length ≤ 30) := by
          intro j h
          rw [hH3]
          rcases (show j = 0 ∨ j = 1 ∨ j = 2 ∨ j = 3 by omega) with rfl | rfl | rfl | rfl
          · exact ⟨_, _, r.a 5, r.c 5, rfl, (hcc 0).trans rfl, (hcc 1).trans rfl, HVe.out.ho, (lst_i64 Hv.out r.D.ho (.inr (.inr (.inr (.inr (.inl rfl)))))).1, (lst_i64 Hv.out r.D.ho (.inr (.inr (.inr (.inr (.inl rfl)))))).2, by decide⟩
          · exact ⟨_, _, r.a 6, r.c 6, rfl, (hcc 2).trans rfl, (hcc 3).trans rfl, HVe.out.mi, (lst_i64 Hv.out r.D.mi (.inr (.inr (.inr (.inr (.inr (.inl rfl))))))).1, (lst_i64 Hv.out r.D.mi (.inr (.inr (.inr (.inr (.inr (.inl rfl))))))).2, by decide⟩
          · exact ⟨_, _, r.a 7, r.c 7, rfl, (hcc 4).trans rfl, (hcc 5).trans rfl, HVe.out.se, (lst_i64 Hv.out r.D.se (.inr (.inr (.inr (.inr (.inr (.inr (.inl rfl)))))))).1, (lst_i64 Hv.out r.D.se (.inr (.inr (.inr (.inr (.inr (.inr (.inl rfl)))))))).2, by decide⟩
          · exact ⟨_, _, r.a 8, r.c 8, rfl, (hcc 6).trans rfl, (hcc 7).trans rfl, HVe.out.po, (lst_i64 Hv.out r.D.po (.inr (.inr (.inr (.inr (.inr (.inr (.inr rfl)))))))).1, (lst_i64 Hv.out r.D.po (.inr (.inr (.inr (.inr (.inr (.inr (.inr rfl)))))))).2, by decide⟩
        have HSt : Hid (stC r.D ++ ((hl4 r.D).take 4).flatMap pcZ = stD r.D) := rfl
        have hPb := (st_lens r.D)
        obtain ⟨P0, hP0⟩ : ∃ P0, P0 = stC r.D := ⟨_, rfl⟩
        have hPl : P0.length ≤ 12 := by rw [hP0]; omega
        rw [← hP0] at hox HSt
        rw [← hH3] at hox
        have HEl := Lib.hid hEl
        have Hox := Lib.hid (hox.ext hElw)
        clear hcc hP0 hPb hx5 hox hEl hElw hE8
        go_wp2_with fail
        rw [← hH3] at hHl ⊢
        clear hH3
        generalize (w8.alloc (.cells #[.string ⟨#[97, 116, 32, 116, 104, 101, 32, 104, 111, 117, 114, 115, 32]⟩, .slice (r.a 5) r.D.ho.length (r.c 5), .string ⟨#[97, 116, 32, 116, 104, 101, 32, 109, 105, 110, 117, 116, 101, 115, 32]⟩, .slice (r.a 6) r.D.mi.length (r.c 6), .string ⟨#[97, 116, 32, 116, 104, 101, 32, 115, 101, 99, 111, 110, 100, 115, 32]⟩, .slice (r.a 7) r.D.se.length (r.c 7), .string ⟨#[111, 110, 108, 121, 32, 116, 104, 101, 32, 110, 117, 109, 98, 101, 114, 115, 32]⟩, .slice (r.a 8) r.D.po.length (r.c 8)] 74)) = w8l at *
        clear c9 c10 c11 c12 hBlx
        go_loopw [5, 100] (fun x i wr => ∃ j : Nat, j ≤ 4 ∧ OwX x (P0 ++ ((hl4 r.D).take j).flatMap pcZ) W0.heap.size H3 wr ∧ i = .int .i64 (j : Int) ∧ KeepB H3 w8l wr ∧ Ext W0 wr) (fun _ i _ => 4 - (intOf i).toNat)
        case atStart => exact ⟨0, by omega, by rw [List.take_zero, List.flatMap_nil, List.append_nil]; exact Hox.out, rfl, ⟨hHl, fun _ => rfl⟩, HEl.out⟩
        case round =>
          obtain ⟨j, hj, hO, rfl, hKp, hE⟩ := hrel
          by_cases hlt : j < 4
          · obtain ⟨hd, zs, la, lc, hel, s0, s1, hVz, hi64, hz60, hh30⟩ := HL.out j hlt
            replace s0 := (hKp.2 _).trans s0
            replace s1 := (hKp.2 _).trans s1
            have hHr := hKp.1
            have HN0 : Hid (zs = [] → P0 ++ ((hl4 r.D).take (j + 1)).flatMap pcZ = P0 ++ ((hl4 r.D).take j).flatMap pcZ) := pcs_no P0 (hl4 r.D) j hlt hd zs hel
            have HN1 : Hid (zs ≠ [] → P0 ++ ((hl4 r.D).take (j + 1)).flatMap pcZ = P0 ++ ((hl4 r.D).take j).flatMap pcZ ++ [hd ++ wordsT (zs.map decZ)]) := pcs_yes P0 (hl4 r.D) j hlt hd zs hel
            obtain ⟨Ps, hPs⟩ : ∃ Ps, Ps = P0 ++ ((hl4 r.D).take j).flatMap pcZ := ⟨_, rfl⟩
            have hPl2 : Ps.length ≤ 20 := by
              rw [hPs, List.length_append]
              have h1 := pcs_len ((hl4 r.D).take j)
              rw [List.length_take] at h1
              omega
            rw [← hPs] at hO HN0 HN1
            obtain ⟨ao, cv, rfl, hown, hav⟩ := hO
            obtain ⟨Wd, hWd⟩ : ∃ Wd, wordsT (zs.map decZ) = Wd := ⟨_, rfl⟩
            have hWl : Wd.length ≤ 4000 := by rw [← hWd]; exact words_60 decZ zs 20 (by decide) (fun n hn => decZ_20 (hi64 n hn)) hz60
            have HMp : Hid (∀ W, Ext W0 W → Calls Tryz.prog 43 #[.slice la zs.length lc, .func (.func 42) #[] #[]] W fun e w' => e = .returned (.string ⟨Wd.toArray⟩) ∧ Ext W w') := fun W hE => mapI_c decZ _ zs la lc Wd W (fun xs w' => by kernel_rfl) (hVz.ext hE) (fun n hn W => udec_c n _ W (hi64 n hn) rfl) (fun n hn => Nat.le_trans (decZ_20 (hi64 n hn)) (by decide)) (by omega) hWd
            obtain ⟨Z, hZ⟩ : ∃ Z, hd ++ Wd = Z := ⟨_, rfl⟩
            have hZl : Z.length ≤ 1000000000000 := by rw [← hZ, List.length_append]; omega
            have HZ := Lib.hid hZ
            rw [hWd, hZ] at HN1
            obtain ⟨ln, hln⟩ : ∃ ln, ln = zs.length := ⟨_, rfl⟩
            have hlz : ln = 0 ↔ zs = [] := by rw [hln]; exact List.length_eq_zero_iff
            rw [← hln] at s1 HMp
            have Hlz := Lib.hid hlz
            have hcc : ∀ o, (wr.alloc (.cells #[.string ⟨hd.toArray⟩, .slice la ln lc] 74)).cell? ⟨wr.heap.size, o, none⟩ = (#[.string ⟨hd.toArray⟩, .slice la ln lc] : Array Value)[o]? := fun o => World.cell?_alloc_new _ _ _ _
            have t0 := hcc 0
            have t1 := hcc 1
            simp only [List.getElem?_toArray, List.getElem?_cons_zero, List.getElem?_cons_succ] at t0 t1
            have hl7 : wr.heap.size < (wr.alloc (.cells #[.string ⟨hd.toArray⟩, .slice la ln lc] 74)).heap.size := by simp
            have hEz0 : Ext wr (wr.alloc (.cells #[.string ⟨hd.toArray⟩, .slice la ln lc] 74)) := (Ext.refl _).alloc _
            clear hcc hZ hln hWd hPs hel hVz hi64 hz60 hlz
            go_upto_region 20 with fail
            generalize wr.alloc (.cells #[.string ⟨hd.toArray⟩, .slice la ln lc] 74) = wz at *
            have HEr := Lib.hid (hE.trans hEz0)
            have HKz := Lib.hid (hKp.ext hEz0)
            have Hown := Lib.hid (own_ext hown hEz0)
            have Hav := Lib.hid hav
            clear s0 s1 hKp hown hEz0 hE hHr hav
            generalize wr.heap.size = B7 at *
            by_cases q : zs = []
            · have hz := Hlz.out.2 q
              have Hn := Lib.hid (HN0.out q)
              subst hz
              clear q
              go_wp2_with fail
              go_roundw
              case rel => exact ⟨j + 1, by omega, by rw [Hn.out]; exact ⟨ao, cv, rfl, Hown.out, Hav.out⟩, by go_num, HKz.out, HEr.out⟩
              case measure => simp [intOf]; omega
            · have p1 : decide ((0 : Int) < (ln : Int)) = true := decide_eq_true (by have : ln ≠ 0 := fun h => q (Hlz.out.1 h); omega)
              have p0 : decide (0 < ln) = true := decide_eq_true (by have : ln ≠ 0 := fun h => q (Hlz.out.1 h); omega)
              have Hn := Lib.hid (HN1.out q)
              clear q
              go_upto_region 21 with fail
              refine wp_region_grow [108, 109, 110, 111, 112, 113, 114, 115] [fun x _ => x = .slice ao Ps.length cv, fun x _ => x = .pointer (some ⟨B7, 0, none⟩), fun x _ => x = .string ⟨hd.toArray⟩, fun x _ => x = .pointer (some ⟨B7, 1, none⟩), fun x _ => x = .slice la ln lc, fun x _ => x = .string ⟨Wd.toArray⟩, fun x _ => x = .string ⟨Z.toArray⟩, OneS Z] 2 (by kernel_rfl) (by kernel_rfl) (by kernel_rfl) (by kernel_rfl) ?_ ?_ ?_
              · intro Rl hRl
                simp only [List.mem_cons, List.not_mem_nil, or_false] at hRl
                rcases hRl with rfl | rfl | rfl | rfl | rfl | rfl | rfl | rfl
                all_goals first
                  | exact fun _ _ _ h _ => h
                  | exact fun _ _ _ h hE => OneS.ext h hE
              · refine ⟨?_, ?_, ?_, ?_, ?_, ?_, ?_, ?_, trivial⟩
                all_goals intro a w hE hF hD K hK
                · exact gs_val rfl (yr_move rfl ((hF 5 (fr_of rfl)).trans rfl)) (hK _ _ rfl (Ext.refl _))
                · exact gs_val rfl (yr_field rfl ((hF 9 (fr_of rfl)).trans rfl) (by go_simp)) (hK _ _ rfl (Ext.refl _))
                · have u109 : a.eval (.tmp 109) = .pointer (some ⟨B7, 0, none⟩) := hD 1 (by kernel_rfl)
                  exact gs_val rfl (yr_load rfl u109 (ld_st _ _ _ ((hE.cells B7 0 hl7).trans t0))) (hK _ _ rfl (Ext.refl _))
                · exact gs_val rfl (yr_field rfl ((hF 9 (fr_of rfl)).trans rfl) (by go_simp)) (hK _ _ rfl (Ext.refl _))
                · have u111 : a.eval (.tmp 111) = .pointer (some ⟨B7, 1, none⟩) := hD 3 (by kernel_rfl)
                  exact gs_val rfl (yr_load rfl u111 (ld_is _ _ _ ((hE.cells B7 1 hl7).trans t1))) (hK _ _ rfl (Ext.refl _))
                · have u112 : a.eval (.tmp 112) = .slice la ln lc := hD 4 (by kernel_rfl)
                  have q0 : a.eval (.tmp 112) = .slice la ln lc := u112
                  exact gs_call rfl (yr_call rfl rfl (show (#[Operand.tmp 112, Operand.func 42] : Array Operand).map a.eval = #[.slice la ln lc, .func (.func 42) #[] #[]] by simp only [List.map_toArray, List.map_cons, List.map_nil, q0] <;> rfl) (by kernel_rfl)) ((HMp.out w (HEr.out.trans hE)).mono fun e w' ⟨h1, h2⟩ => ⟨_, h1, rfl, h2⟩) hK
                · have u110 : a.eval (.tmp 110) = .string ⟨hd.toArray⟩ := hD 2 (by kernel_rfl)
                  have u113 : a.eval (.tmp 113) = .string ⟨Wd.toArray⟩ := hD 5 (by kernel_rfl)
                  exact gs_val rfl (yr_addt rfl u110 u113 hZl HZ.out) (hK _ _ rfl (Ext.refl _))
                · have u114 : a.eval (.tmp 114) = .string ⟨Z.toArray⟩ := hD 6 (by kernel_rfl)
                  exact gs_mkE rfl (yr_bs1 rfl u114 (bs1_run _ w)) (hK _ _ (OneS.new Z w) ((Ext.refl w).alloc _))
              intro vals wz hEz hRz
              obtain ⟨h0, -, -, -, -, -, -, h7, -⟩ := hRz
              have e108 : vals 0 = .slice ao Ps.length cv := h0
              obtain ⟨g, e115, hg, hgl⟩ := h7
              simp only [putF, Act.put, List.length_cons, List.length_nil, List.getD_cons_zero, List.getD_cons_succ, List.setIfInBounds_toArray, List.set_cons_zero, List.set_cons_succ, Nat.reduceAdd, e108, e115]
              clear e108 e115
              have hown2 := own_ext Hown.out hEz
              have hsz2 := (HEr.out.trans hEz).size
              refine wpAny_op (i := 8) (by kernel_rfl) rfl (by rfl) ?_
              refine wp_append_lies _ (.tmp 108) (.tmp 115) 55 rfl W0.heap.size 9 i0 (.string .empty) 1 16 Tryz.underlying55 Hi.out Hz0.out Hz1.out Hz2.out rfl (by decide) _ _ _ rfl hown2 ⟨g, 0, none⟩ 1 1 [.string ⟨Z.toArray⟩] rfl rfl (OneS.at_ hg) (fun x hx => by simp at hx; subst hx; rfl) (by decide) (by unfold maxLen; omega) (by omega) (by omega) _ rfl ?_
              intro g2 cp2 w3 hown' hgrow3 hgo hgl3
              have HExt := Lib.hid (ext_grown (v := .slice ao Ps.length cv) (HEr.out.trans hEz) hown2 hgrow3)
              have HKp3 := Lib.hid ((HKz.out.ext hEz).grown hgrow3 Hav.out)
              have Hav3 : Hid ((Value.slice (some ⟨g2, 0, none⟩) (Ps.length + 1) cp2).ownBlock ≠ some H3) := fun e => by
                rcases hgo with q | q
                · exact Hav.out (q.trans e)
                · have := (HKz.out.ext hEz).1
                  have e2 : g2 = H3 := Option.some.inj e
                  omega
              have Hown3 := Lib.hid hown'
              refine wpAny_one (i := 9) (by kernel_rfl) rfl (by rfl) (by exact yr_assign rfl rfl) ?_
              refine wpAny_done (by kernel_rfl) ?_ _
              simp only [Act.put, List.setIfInBounds_toArray, List.set_cons_zero, List.set_cons_succ]
              clear hown' hgrow3 hown2
              go_wp2_with fail
              go_roundw
              case rel =>
                refine ⟨_, _, _, _, _, _, _, _, _, _, _, _, _, _, _, _, _, _, _, _, ?_, rfl⟩
                exact ⟨j + 1, by omega, by rw [Hn.out]; exact ⟨some ⟨g2, 0, none⟩, cp2, by rw [List.length_append]; rfl, by rw [List.length_append, sv_app]; exact Hown3.out, Hav3.out⟩, by go_num, HKp3.out, HExt.out⟩
              case measure => simp [intOf]; omega
          · obtain rfl : j = 4 := by omega
            rw [HSt.out] at hO
            have hx5 := hO.ows
            have hEB := hE
            clear HL HSt hHl Hox HEl hO hKp hE hPl
            generalize wr = w_hEB at *
            obtain ⟨Ps, hPs⟩ : ∃ Ps, Ps = stD r.D := ⟨_, rfl⟩
            have hPl : Ps.length ≤ 20 := by rw [hPs]; have := st_lens r.D; omega
            rw [← hPs] at hx5
            obtain ⟨ao, cv, rfl, hown⟩ := hx5
            have c2 := (HB.out.ext hEB).at_ (j := 2) (v := .int .i64 r.D.ct) rfl
            have hBlx := (HB.out.ext hEB).1
            have HEo := Lib.hid hEB
            have Hown := Lib.hid hown
            clear hEB hown
            have hi : i64 r.D.ct := by have := num_parts Hv.out; unfold i64; omega
            obtain ⟨Wd, hWd⟩ : ∃ Wd, Wd = decZ r.D.ct := ⟨_, rfl⟩
            have hWl : Wd.length ≤ 20 := by rw [hWd]; exact decZ_20 hi
            obtain ⟨x, hx⟩ : ∃ x, x = r.D.ct := ⟨_, rfl⟩
            rw [← hx] at c2 hi
            have HMp : Hid (∀ W, Calls Tryz.prog 42 #[.int .i64 x] W fun e w' => e = .returned (.string ⟨Wd.toArray⟩) ∧ Ext W w') := fun W => udec_c x Wd W hi (by rw [hWd, hx])
            obtain ⟨bc, hbc⟩ : ∃ bc, (x != 0) = bc := ⟨_, rfl⟩
            have HA0 : Hid (bc = false → stE r.D = Ps) := fun q => by rw [q] at hbc; unfold stE; rw [if_pos (by rw [← hx]; simpa using hbc), hPs]; simp
            have HA1 : Hid (bc = true → stE r.D = Ps ++ [Wd ++ sTi]) := fun q => by rw [q] at hbc; unfold stE; rw [if_neg (by rw [← hx]; simpa using hbc), hPs, hWd]
            clear hWd hx hi
            clear hPs
            go_upto_if 120 with fail
            clear hbc
            go_cut [5] from 121 to 127 (fun x wx => OwS x (stE r.D) W0.heap.size wx ∧ Ext W0 wx)
            case first =>
              cases bc with
              | false =>
                have he := HA0.out (by first | rfl | trivial)
                go_wp2_with fail
                go_meet
                exact ⟨by rw [he]; exact ⟨ao, cv, rfl, Hown.out⟩, HEo.out⟩
              | true =>
                have he := HA1.out (by first | rfl | trivial)
                go_wp2_with (first
                  | (go_at_call 42; (with_reducible refine (HMp.out _).mono ?_); rintro e w6 ⟨rfl, hE6⟩; have ho6 := own_ext Hown.out hE6; have hX6 := HEo.out.trans hE6)
                  | (at_builtin; refine wpList_append_own _ rfl _ _ 55 rfl W0.heap.size 9 i0 (.string .empty) 1 16 Tryz.underlying55 Hi.out Hz0.out Hz1.out Hz2.out rfl (by decide) _ _ _ rfl (ho6.alloc _) ⟨w6.heap.size, 0, none⟩ 1 1 [.string (⟨Wd.toArray⟩ ++ ⟨#[32, 116, 105, 109, 101, 115]⟩)] rfl rfl (cell_one_new _ _ _) (fun x hx => by simp at hx; subst hx; rfl) (by unfold maxLen; omega) (by omega) (by have := (hX6).size; simp; omega) ?_; intro v9 w9 hown9 hgrow9 hnil9))
                have hExt := ext_grown (v := .slice ao Ps.length cv) (hX6.alloc _) (ho6.alloc _) hgrow9
                go_meet
                exact ⟨by rw [he]; exact OwS.mk_app hown9 (app_str _ _), hExt⟩
            case rest =>
            obtain ⟨hx5, hEC⟩ := hcut
            generalize wc = wC at *
            clear Hown HEo c2 hBlx HA0 HA1
            clear HMp hWl
            obtain ⟨Ps, hPs⟩ : ∃ Ps, Ps = stE r.D := ⟨_, rfl⟩
            have hPl : Ps.length ≤ 20 := by rw [hPs]; have := st_lens r.D; omega
            rw [← hPs] at hx5
            obtain ⟨ao, cv, rfl, hown⟩ := hx5
            have c3 := (HB.out.ext hEC).at_ (j := 3) (v := .int .i64 r.D.un) rfl
            have hBlx := (HB.out.ext hEC).1
            have HEo := Lib.hid hEC
            have Hown := Lib.hid hown
            clear hEC hown
            have hlo : r.D.un = 0 ∨ locZ r.D.un = true := by obtain ⟨-, -, -, -, -, -, h, -⟩ := num_parts Hv.out; exact h.imp id And.left
            obtain ⟨Wd, hWd⟩ : ∃ Wd, Wd = momT r.D.un := ⟨_, rfl⟩
            obtain ⟨x, hx⟩ : ∃ x, x = r.D.un := ⟨_, rfl⟩
            rw [← hx] at c3 hlo
            have HMl : Hid (x ≠ 0 → Wd.length = 19) := fun q => by rw [hWd, ← hx]; exact mom_ok.len x (hlo.resolve_left q)
            have HMp : Hid (x ≠ 0 → ∀ W, Calls Tryz.prog 48 #[.int .i64 x] W fun e w' => e = .returned (.string ⟨Wd.toArray⟩) ∧ Ext W w') := fun q W => umoment_c x Wd W (hlo.resolve_left q) (by rw [hWd, hx])
            obtain ⟨bc, hbc⟩ : ∃ bc, (x != 0) = bc := ⟨_, rfl⟩
            have HNz : Hid (bc = true → x ≠ 0) := fun q => by rw [q] at hbc; simpa using hbc
            have HA0 : Hid (bc = false → stF r.D = Ps) := fun q => by rw [q] at hbc; unfold stF; rw [if_pos (by rw [← hx]; simpa using hbc), hPs]; simp
            have HA1 : Hid (bc = true → stF r.D = Ps ++ [sUn ++ Wd]) := fun q => by rw [q] at hbc; unfold stF; rw [if_neg (by rw [← hx]; simpa using hbc), hPs, hWd]
            clear hWd hx hlo
            clear hPs
            go_upto_if 130 with fail
            clear hbc
            go_cut [5] from 131 to 137 (fun x wx => OwS x (stF r.D) W0.heap.size wx ∧ Ext W0 wx)
            case first =>
              cases bc with
              | false =>
                have he := HA0.out (by first | rfl | trivial)
                go_wp2_with fail
                go_meet
                exact ⟨by rw [he]; exact ⟨ao, cv, rfl, Hown.out⟩, HEo.out⟩
              | true =>
                have he := HA1.out (by first | rfl | trivial)
                have hxn := HNz.out (by first | rfl | trivial)
                have hWl := HMl.out hxn
                have HMq := Lib.hid (HMp.out hxn)
                clear hxn
                go_wp2_with (first
                  | (go_at_call 48; (with_reducible refine (HMq.out _).mono ?_); rintro e w6 ⟨rfl, hE6⟩; have ho6 := own_ext Hown.out hE6; have hX6 := HEo.out.trans hE6)
                  | (at_builtin; refine wpList_append_own _ rfl _ _ 55 rfl W0.heap.size 9 i0 (.string .empty) 1 16 Tryz.underlying55 Hi.out Hz0.out Hz1.out Hz2.out rfl (by decide) _ _ _ rfl (ho6.alloc _) ⟨w6.heap.size, 0, none⟩ 1 1 [.string (⟨#[117, 110, 116, 105, 108, 32]⟩ ++ ⟨Wd.toArray⟩)] rfl rfl (cell_one_new _ _ _) (fun x hx => by simp at hx; subst hx; rfl) (by unfold maxLen; omega) (by omega) (by have := (hX6).size; simp; omega) ?_; intro v9 w9 hown9 hgrow9 hnil9))
                have hExt := ext_grown (v := .slice ao Ps.length cv) (hX6.alloc _) (ho6.alloc _) hgrow9
                go_meet
                exact ⟨by rw [he]; exact OwS.mk_app hown9 (app_str _ _), hExt⟩
            case rest =>
            obtain ⟨hx5, hED⟩ := hcut
            generalize wc = wD at *
            clear Hown HEo c3 hBlx HA0 HA1
            clear HMp HMl HNz
            obtain ⟨Ps, hPs⟩ : ∃ Ps, Ps = stF r.D := ⟨_, rfl⟩
            have hPl : Ps.length ≤ 20 := by rw [hPs]; have := st_lens r.D; omega
            rw [← hPs] at hx5
            obtain ⟨ao, cv, rfl, hown⟩ := hx5
            have c13 := (HB.out.ext hED).at_ (j := 13) (v := .int .i64 r.D.ws) rfl
            have hBlx := (HB.out.ext hED).1
            have HEo := Lib.hid hED
            have Hown := Lib.hid hown
            clear hED hown
            have hi : i64 r.D.ws := by have := num_parts Hv.out; unfold i64; omega
            obtain ⟨Wd, hWd⟩ : ∃ Wd, Wd = getW wdW r.D.ws := ⟨_, rfl⟩
            have hWl : Wd.length ≤ 3 := by rw [hWd]; exact getW_len (by decide)
            obtain ⟨x, hx⟩ : ∃ x, x = r.D.ws := ⟨_, rfl⟩
            rw [← hx] at c13 hi
            have HMp : Hid (∀ W, Calls Tryz.prog 47 #[.int .i64 x] W fun e w' => e = .returned (.string ⟨Wd.toArray⟩) ∧ Ext W w') := fun W => wname_c x Wd W hi (by rw [hWd, hx])
            obtain ⟨bc, hbc⟩ : ∃ bc, (x != 1) = bc := ⟨_, rfl⟩
            have HA0 : Hid (bc = false → stG r.D = Ps) := fun q => by rw [q] at hbc; unfold stG; rw [if_pos (by rw [← hx]; simpa using hbc), hPs]; simp
            have HA1 : Hid (bc = true → stG r.D = Ps ++ [sWb ++ Wd]) := fun q => by rw [q] at hbc; unfold stG; rw [if_neg (by rw [← hx]; simpa using hbc), hPs, hWd]
            clear hWd hx hi
            clear hPs
            go_upto_if 140 with fail
            clear hbc
            go_cut [5] from 141 to 147 (fun x wx => OwS x (stG r.D) W0.heap.size wx ∧ Ext W0 wx)
            case first =>
              cases bc with
              | false =>
                have he := HA0.out (by first | rfl | trivial)
                go_wp2_with fail
                go_meet
                exact ⟨by rw [he]; exact ⟨ao, cv, rfl, Hown.out⟩, HEo.out⟩
              | true =>
                have he := HA1.out (by first | rfl | trivial)
                go_wp2_with (first
                  | (go_at_call 47; (with_reducible refine (HMp.out _).mono ?_); rintro e w6 ⟨rfl, hE6⟩; have ho6 := own_ext Hown.out hE6; have hX6 := HEo.out.trans hE6)
                  | (at_builtin; refine wpList_append_own _ rfl _ _ 55 rfl W0.heap.size 9 i0 (.string .empty) 1 16 Tryz.underlying55 Hi.out Hz0.out Hz1.out Hz2.out rfl (by decide) _ _ _ rfl (ho6.alloc _) ⟨w6.heap.size, 0, none⟩ 1 1 [.string (⟨#[119, 101, 101, 107, 115, 32, 98, 101, 103, 105, 110, 32, 111, 110, 32]⟩ ++ ⟨Wd.toArray⟩)] rfl rfl (cell_one_new _ _ _) (fun x hx => by simp at hx; subst hx; rfl) (by unfold maxLen; omega) (by omega) (by have := (hX6).size; simp; omega) ?_; intro v9 w9 hown9 hgrow9 hnil9))
                have hExt := ext_grown (v := .slice ao Ps.length cv) (hX6.alloc _) (ho6.alloc _) hgrow9
                go_meet
                exact ⟨by rw [he]; exact OwS.mk_app hown9 (app_str _ _), hExt⟩
            case rest =>
            obtain ⟨hx5, hEF⟩ := hcut
            generalize wc = wF at *
            clear Hown HEo c13 hBlx HA0 HA1
            clear HMp hWl
            obtain ⟨ao, cv, rfl, hown⟩ := hx5
            have HJ : Hid (Calls Tryz.prog 34 #[.slice ao (stG r.D).length cv, .string ⟨#[44, 32]⟩] wF fun e w' => e = .returned (.string ⟨(desZ momT r.D).toArray⟩) ∧ Ext wF w') := by
              refine ojoin_c (stG r.D) W0.heap.size 9 ao cv [44, 32] _ wF hown (by have := st_lens r.D; omega) ?_ (by unfold desZ; rw [stG_eq]; rfl)
              refine Nat.le_trans (join_le _ _ 5000 (stG_el Hv.out)) ?_
              have := st_lens r.D
              exact Nat.le_trans (Nat.mul_le_mul_left _ (show (stG r.D).length ≤ 13 by omega)) (by decide)
            clear hown
            obtain ⟨N, hN⟩ : ∃ N, N = (stG r.D).length := ⟨_, rfl⟩
            rw [← hN] at HJ ⊢
            clear hN
            go_wp2_with (go_at_call 34; (with_reducible refine HJ.out.mono ?_); rintro e wH ⟨rfl, hEH⟩)
            go_ret2
            exact HR.out _ _ ⟨rfl, HE0.out.trans (hEF.trans hEH)⟩
  · have HVc := Lib.hid (uvalid_c r false _ hVe hv)
    have HR : Hid (∀ e w', e = .returned (.tuple #[.string ⟨#[]⟩, .int .i64 1]) ∧ Ext w w' → DescR r w e w') := fun e w' h => ⟨by rw [if_neg (by rw [hv]; simp)]; exact h.1, h.2⟩
    clear hE0 hB hVe hv hV
    go_enter Tryz.func15, Tryz.ntmps15
    go_upto_region 1 with fail
    generalize w.alloc (.cells r.vals.toArray 25) = W0 at *
    generalize w.heap.size = B at *
    go_wp2_with (first
      | (refine load_midg (by rfl) 25 _ rfl B 0 rfl r.vals _ hBr Tryz.underlying25 rfl hRs ?_)
      | (go_at_call 27; (with_reducible refine HVc.out.mono ?_); rintro e w1 ⟨rfl, hE1⟩))
    go_ret2
    exact HR.out _ _ ⟨rfl, HE0.out.trans hE1⟩
end Go.Proofs.YtgndogpgfgliaaaGreatDoor
