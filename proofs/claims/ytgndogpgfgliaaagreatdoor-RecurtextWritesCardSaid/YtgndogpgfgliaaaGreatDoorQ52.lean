/- Recurrence rules: the walk of the reference's Describe. -/
import Derived.Test.YtgndogpgfgliaaaGreatDoorQ50
import Derived.Test.YtgndogpgfgliaaaGreatDoorQ51
import Derived.Test.YtgndogpgfgliaaaGreatDoorQ26
namespace Go.Proofs.YtgndogpgfgliaaaGreatDoor
set_option linter.unusedVariables false
set_option linter.unnecessarySimpa false
set_option linter.unusedSimpArgs false
open Go.RowKit

theorem des_len {R : RecD} (hv : vldR R = true) : (desZ momT R).length ≤ 70000 := by
  unfold desZ
  rw [← stG_eq]
  have h1 := join_le (stG R) sCom 5000 (stG_el hv)
  have h2 := (st_lens R).2.2.2.2.2.2
  refine Nat.le_trans h1 (Nat.le_trans (Nat.mul_le_mul_left _ h2) (by decide))
theorem fin_len {R : RecD} (hv : vldR R = true) : (finD momT R).length ≤ 70000 := by
  rw [← desZ_eq]
  exact des_len hv
theorem own_blk30 {w : World} {b0 size n : Nat} {e : TypeId} {v : Value} {xs : List Value} (h : w.ownsRow b0 e size v n xs) {b : Nat} (hb : v.ownBlock = some b) : b0 ≤ b := by
  rcases h.2 with ⟨rfl, _⟩ | ⟨g, cap, cur, rfl, h1, h2, _⟩
  · cases hb
  · have : g = b := Option.some.inj hb
    omega
theorem own_frmS {w w' : World} {b size n : Nat} {e : TypeId} {v : Value} {xs : List Value} {F : Nat → Prop} (h : w.ownsRow b e size v n xs) (hF : Frm F w w') (hn : ∀ k, v.ownBlock = some k → ¬ F k) : w'.ownsRow b e size v n xs := by
  refine ⟨h.1, ?_⟩
  rcases h.2 with h | ⟨g, cap, cur, rfl, h2, h3, h4⟩
  · exact .inl h
  · exact .inr ⟨g, cap, cur, rfl, h2, (hF.block _ (Array.getElem?_eq_some_iff.1 h3).1 (hn g rfl)).trans h3, h4⟩
theorem grown_frm30 {w w' : World} {row : Option Nat} (h : w.grownBy w' row) : Frm (fun b => row = some b) w w' := ⟨h.os, h.tape, h.output, h.size, fun k hk hn => h.block k hk (fun e => hn e.symm)⟩
theorem RwS.frm {ws : List (List UInt8)} {ao : Option Addr} {c b : Nat} {w w' : World} (h : RwS ws ao c w) (hF : Frm (fun k => k = b) w w') (hb : ∃ a n c, w.cell? ⟨b, 0, none⟩ = some (.slice a n c)) : RwS ws ao c w' := by
  refine ⟨?_, h.2⟩
  by_cases h0 : ws = []
  · exact .inl h0
  · rcases h.1 with h1 | ⟨g, h1, h2⟩
    · exact absurd h1 h0
    · have hne : g ≠ b := fun e => by
        obtain ⟨a, n, c', hc⟩ := hb
        have := h2.2 0 (List.length_pos_iff.2 h0)
        rw [Nat.zero_add, e, hc] at this
        cases this
      exact .inr ⟨g, h1, hF.lt h2.1, fun i hi => (hF.cel h2.1 hne _).trans (h2.2 i hi)⟩
theorem dec_30 {n : Int} (h : -999 ≤ n ∧ n ≤ 999) : (decZ n).length ≤ 30 := by
  have := decZ_20 (n := n) (by unfold i64; omega)
  omega
theorem wd_5 (d : Int) (h : 1 ≤ d ∧ d ≤ 7) : (getW wdW d).length ≤ 5 := by
  rcases (show d = 1 ∨ d = 2 ∨ d = 3 ∨ d = 4 ∨ d = 5 ∨ d = 6 ∨ d = 7 by omega) with q | q | q | q | q | q | q <;> rw [q] <;> decide
theorem day_30 {o : Int × Int} (h : dayOk o) : (dayD o).length ≤ 30 := by
  obtain ⟨h1, h2, h3, h4⟩ := h
  have := wd_5 o.2 ⟨h1, h2⟩
  have := decZ_20 (n := o.1) (by unfold i64; omega)
  unfold dayD
  split
  · omega
  · simp only [List.length_append, List.length_cons, List.length_nil]; omega
theorem ix_ls (L i : Nat) (w : World) (hv : i < 8) : (Instr.indexAt 59 (.slice (some ⟨L, 0, none⟩) 8 8) (.int .i64 (i : Int))).run Tryz.prog w = .ok (.pointer (some ⟨L, i, none⟩)) w := by
  have h1 : (i : Int) < 8 := by omega
  go_simp
theorem ld_sl30 (p : Addr) (x : Value) (w : World) (hc : w.cell? p = some x) : (Instr.loadAt 55 (.pointer (some p))).run Tryz.prog w = .ok x w := by go_simp
theorem ix_od (H off n c j : Nat) (w : World) (hv : j < n) : (Instr.indexAt 23 (.slice (some ⟨H, off, none⟩) n c) (.int .i64 (j : Int))).run Tryz.prog w = .ok (.pointer (some ⟨H, off + j * 2, none⟩)) w := by
  have h1 : (j : Int) < (n : Int) := by omega
  go_simp
theorem ix_in (B O n c v : Nat) (w : World) (hv : v < n) : (Instr.indexAt 22 (.slice (some ⟨B, O, none⟩) n c) (.int .i64 (v : Int))).run Tryz.prog w = .ok (.pointer (some ⟨B, O + v, none⟩)) w := by
  have h1 : (v : Int) < (n : Int) := by omega
  go_simp
set_option maxRecDepth 100000 in
set_option maxHeartbeats 4000000 in
theorem rdesc30_no (r : Rec) (w : World) (hV : RcV r w) (hv : vldR r.D = false) : Calls Tryz.prog 16 #[.agg r.vals.toArray] w fun e w' => e = .returned (.tuple #[.string ⟨#[]⟩, .int .i64 1]) ∧ Ext w w' := by
  have hE0 : Ext w (w.alloc (.cells r.vals.toArray 25)) := (Ext.refl w).alloc _
  have HE0 := Lib.hid hE0
  have hBr := (RcB.new r w 25).2
  have hRs := rec_size r
  have HVc := Lib.hid (rvalid29_c r false _ (hV.ext hE0) hv)
  clear hE0 hV hv
  go_enter Tryz.func16, Tryz.ntmps16
  go_upto_region 1 with fail
  generalize w.alloc (.cells r.vals.toArray 25) = W0 at *
  generalize w.heap.size = B at *
  go_wp2_with (first
    | (refine load_midg (by rfl) 25 _ rfl B 0 rfl r.vals _ hBr Tryz.underlying25 rfl hRs ?_)
    | (go_at_call 30; (with_reducible refine HVc.out.mono ?_); rintro e w1 ⟨rfl, hE1⟩))
  go_ret2
  exact ⟨rfl, HE0.out.trans hE1⟩
theorem getW_30 (z : Int) : (getW moW z).length ≤ 30 := by
  unfold getW
  split
  · simp
  · rename_i h
    have h1 : (z - 1).toNat < 12 := by have : (moW.length : Int) = 12 := rfl; omega
    exact (show ∀ k, k < 12 → (moW.getD k []).length ≤ 30 by decide) _ h1
set_option maxRecDepth 100000 in
set_option maxHeartbeats 16000000 in
theorem rdesc30_yes (r : Rec) (w : World) (hV : RcV r w) (hv : vldR r.D = true) : Calls Tryz.prog 16 #[.agg r.vals.toArray] w fun e w' => e = .returned (.tuple #[.string ⟨(desZ momT r.D).toArray⟩, .int .i64 0]) ∧ Ext w w' := by
  have hE0 : Ext w (w.alloc (.cells r.vals.toArray 25)) := (Ext.refl w).alloc _
  have HE0 := Lib.hid hE0
  have hB := RcB.new r w 25
  have hBr := hB.2
  have hRs := rec_size r
  have HVc := Lib.hid (rvalid29_c r true _ (hV.ext hE0) hv)
  have HVe := Lib.hid (hV.ext hE0)
  have HB := Lib.hid hB
  have HFl := Lib.hid (fin_len hv)
  have HPl := Lib.hid (fun k (h2 : k ≤ 8) => Nat.le_trans (preD_len momT r.D (8 - k) k (by omega)) (fin_len hv))
  obtain ⟨hnv, hlv, hwf, hdl, hdv, htm⟩ := vld_parts30 hv
  unfold numbV at hnv
  obtain ⟨f1, f2, i1, i2, c1, c2, hun, s1, s2⟩ := of_decide_eq_true hnv
  have hlv2 := hlv
  unfold lstV at hlv2
  simp only [Bool.and_eq_true] at hlv2
  obtain ⟨⟨⟨⟨⟨⟨⟨b1, b2⟩, b3⟩, b4⟩, b5⟩, b6⟩, b7⟩, b8⟩ := hlv2
  have n1 := btw_in b1 (by decide) (by decide)
  have n2 := btw_in b2 (by decide) (by decide)
  have n3 := btw_in b3 (by decide) (by decide)
  have n4 := btw_in b4 (by decide) (by decide)
  have n5 := btw_in b5 (by decide) (by decide)
  have n6 := btw_in b6 (by decide) (by decide)
  have n7 := btw_in b7 (by decide) (by decide)
  have n8 := btw_in b8 (by decide) (by decide)
  have HN := Lib.hid (⟨n1, n2, n3, n4, n5, n6, n7, n8⟩ : _ ∧ _ ∧ _ ∧ _ ∧ _ ∧ _ ∧ _ ∧ _)
  have hdo : ∀ o ∈ r.D.da, i64 o.1 ∧ i64 o.2 := fun o ho => by
    obtain ⟨a, b, c, d⟩ := dayV_ok (hdv o ho)
    unfold i64; omega
  have HDo := Lib.hid hdo
  have HDk : Hid (∀ o ∈ r.D.da, dayOk o) := days_of_vld hv
  have HUn := Lib.hid hun
  clear b1 b2 b3 b4 b5 b6 b7 b8 n1 n2 n3 n4 n5 n6 n7 n8 hnv hlv hwf hdv htm hdo hun
  have HWn : Hid (∀ i, (wdsD r.D i).length ≤ 60) := fun i => by
    obtain ⟨n1, n2, n3, n4, n5, n6, n7, n8⟩ := HN.out
    unfold wdsD
    split <;> rw [List.length_map]
    · exact n4.1
    · exact n3.1
    · exact n2.1
    · exact hdl
    · exact n5.1
    · exact n6.1
    · exact n7.1
    · exact n8.1
  have HWl : Hid (∀ i, ∀ x ∈ wdsD r.D i, x.length ≤ 30) := fun i x hx => by
    obtain ⟨n1, n2, n3, n4, n5, n6, n7, n8⟩ := HN.out
    unfold wdsD at hx
    split at hx <;> obtain ⟨y, hy, rfl⟩ := List.mem_map.1 hx
    · exact dec_30 (n4.2 y hy)
    · exact dec_30 (n3.2 y hy)
    · exact dec_30 (n2.2 y hy)
    · exact day_30 (HDk.out y hy)
    · exact dec_30 (n5.2 y hy)
    · exact dec_30 (n6.2 y hy)
    · exact dec_30 (n7.2 y hy)
    · exact dec_30 (n8.2 y hy)
  obtain ⟨i0, hi, hz0, hz1, hz2⟩ := info_parts infoStr
  have Hi := Lib.hid hi
  have Hz0 := Lib.hid hz0
  have Hz1 := Lib.hid hz1
  have Hz2 := Lib.hid hz2
  obtain ⟨U, hU⟩ : ∃ U, U = getW unW r.D.fr := ⟨_, rfl⟩
  have HU := Lib.hid hU
  have hUl : U.length ≤ 5 := by
    rw [hU]
    rcases (show r.D.fr = 1 ∨ r.D.fr = 2 ∨ r.D.fr = 3 ∨ r.D.fr = 4 ∨ r.D.fr = 5 by omega) with q | q | q | q | q <;> rw [q] <;> decide
  obtain ⟨S0, hS0⟩ : ∃ S0, S0 = [101, 118, 101, 114, 121, 32] ++ U := ⟨_, rfl⟩
  have hS0c : (⟨#[101, 118, 101, 114, 121, 32]⟩ : ByteArray) ++ ⟨U.toArray⟩ = ⟨S0.toArray⟩ := by rw [hS0]; exact catb [101, 118, 101, 114, 121, 32] U
  have hS0l : S0.length ≤ 70000 := by rw [hS0, List.length_append]; simp; omega
  have HS0 := Lib.hid hS0
  clear hE0 hV hv hU hS0 hi hz0 hz1 hz2
  go_enter Tryz.func16, Tryz.ntmps16
  go_upto_region 1 with fail
  generalize hWW : w.alloc (.cells r.vals.toArray 25) = W0 at *
  generalize w.heap.size = B at *
  go_upto_region 3 with (first
    | (refine load_midg (by rfl) 25 _ rfl B 0 rfl r.vals _ hBr Tryz.underlying25 rfl hRs ?_)
    | (go_at_call 30; (with_reducible refine HVc.out.mono ?_); rintro e w1 ⟨rfl, hE1⟩))
  have HX1 := Lib.hid hE1
  have hB1 := HB.out.ext hE1
  have hBl := hB1.1
  obtain ⟨c0, -, -, -, -, -, -, -, -, -, -, -, -, -⟩ := hB1.all
  clear hBr hB1 hE1 hB hWW
  go_cut [4] from 16 to 21 (fun x wx => x = .string ⟨U.toArray⟩ ∧ Ext w1 wx)
  case first =>
    rcases (show r.D.fr = 1 ∨ r.D.fr = 2 ∨ r.D.fr = 3 ∨ r.D.fr = 4 ∨ r.D.fr = 5 by omega) with q | q | q | q | q
    all_goals
      have hUe := HU.out
      rw [q] at c0 hUe
      have HUe := Lib.hid hUe
      clear q hUe
      go_wp2_with fail
      go_meet
      exact ⟨by rw [HUe.out]; rfl, (Ext.refl _).alloc _⟩
  case rest =>
  obtain ⟨rfl, hEa⟩ := hcut
  clear c0
  have hXX := HX1.out.trans hEa
  have hBz := HB.out.ext hXX
  have hBl := hBz.1
  obtain ⟨-, g1, -, -, -, -, -, -, -, -, -, -, -, -⟩ := hBz.all
  have HXX := Lib.hid hXX
  clear hXX hBz hEa HX1
  have HX1 := HXX
  clear HXX
  obtain ⟨V, hVw⟩ : ∃ V, V = wc := ⟨_, rfl⟩
  subst hVw
  obtain ⟨S1, hS1⟩ : ∃ S1, S1 = hedD r.D := ⟨_, rfl⟩
  have hS1l : S1.length ≤ 70000 := by
    rw [hS1]
    refine Nat.le_trans ?_ (HPl.out 0 (by decide))
    unfold preD
    split
    · exact Nat.le_refl _
    · rw [List.length_append]; omega
  have HS1 := Lib.hid hS1
  clear hS1
  go_upto_if 26 with fail
  go_cut [5] from 24 to 34 (fun x wx => x = .string ⟨S1.toArray⟩ ∧ Ext V wx)
  case first =>
    by_cases hq : r.D.iv = 1
    · have t1 : (r.D.iv == 1) = true := by simpa using hq
      have t2 : (r.D.iv != 1) = false := by simpa using hq
      have he : S1 = S0 := by rw [HS1.out, HS0.out, HU.out]; unfold hedD; rw [if_pos hq]
      have He := Lib.hid he
      clear he hq
      go_wp2_with fail
      go_meet
      exact ⟨by rw [He.out], Ext.refl _⟩
    · have t1 : (r.D.iv == 1) = false := by simpa using hq
      have t2 : (r.D.iv != 1) = true := by simpa using hq
      obtain ⟨Y, hY⟩ : ∃ Y, Y = decZ r.D.iv := ⟨_, rfl⟩
      have HD := Lib.hid (fun W => rdec_c r.D.iv Y W (by omega) (by omega) hY.symm)
      have hYl : Y.length ≤ 20 := by rw [hY]; exact decZ_20 (by unfold i64; omega)
      obtain ⟨T1, hT1⟩ : ∃ T1, T1 = [101, 118, 101, 114, 121, 32] ++ Y := ⟨_, rfl⟩
      obtain ⟨T2, hT2⟩ : ∃ T2, T2 = T1 ++ [32] := ⟨_, rfl⟩
      obtain ⟨T3, hT3⟩ : ∃ T3, T3 = T2 ++ U := ⟨_, rfl⟩
      have hc1 : (⟨#[101, 118, 101, 114, 121, 32]⟩ : ByteArray) ++ ⟨Y.toArray⟩ = ⟨T1.toArray⟩ := by rw [hT1]; exact catb [101, 118, 101, 114, 121, 32] Y
      have hc2 : (⟨T1.toArray⟩ : ByteArray) ++ ⟨#[32]⟩ = ⟨T2.toArray⟩ := by rw [hT2]; exact catb T1 [32]
      have hc3 : (⟨T2.toArray⟩ : ByteArray) ++ ⟨U.toArray⟩ = ⟨T3.toArray⟩ := by rw [hT3]; exact catb T2 U
      have hc4 : (⟨T3.toArray⟩ : ByteArray) ++ ⟨#[115]⟩ = ⟨S1.toArray⟩ := by
        rw [show (⟨#[115]⟩ : ByteArray) = ⟨[115].toArray⟩ from rfl, catb, HS1.out, hT3, hT2, hT1]
        unfold hedD
        rw [if_neg hq, ← hY, ← HU.out]
        simp
      have hl1 : T1.length ≤ 100 := by rw [hT1, List.length_append]; simp; omega
      have hl2 : T2.length ≤ 110 := by rw [hT2, List.length_append]; simp; omega
      have hl3 : T3.length ≤ 120 := by rw [hT3, List.length_append]; omega
      clear hq hY hT1 hT2 hT3
      go_wp2_with (go_at_call 37; (with_reducible refine (HD.out _).mono ?_); rintro e w2 ⟨rfl, hE2⟩)
      go_meet
      exact ⟨rfl, hE2⟩
  case rest =>
  obtain ⟨rfl, hEa⟩ := hcut
  clear g1 hS0c
  have hXX := HX1.out.trans hEa
  have hBz := HB.out.ext hXX
  have hBl := hBz.1
  obtain ⟨-, -, -, -, g4, -, -, -, -, -, -, -, -, -⟩ := hBz.all
  have HXX := Lib.hid hXX
  clear hXX hBz hEa HX1
  have HX1 := HXX
  clear HXX
  obtain ⟨V, hVw⟩ : ∃ V, V = wc := ⟨_, rfl⟩
  subst hVw
  obtain ⟨S2, hS2⟩ : ∃ S2, S2 = preD r.D 0 := ⟨_, rfl⟩
  have hS2l : S2.length ≤ 70000 := by rw [hS2]; exact HPl.out 0 (by decide)
  have HS2 := Lib.hid hS2
  clear hS2
  go_upto_if 38 with fail
  go_cut [5] from 35 to 60 (fun x wx => x = .string ⟨S2.toArray⟩ ∧ Ext V wx)
  case first =>
    by_cases hq : r.D.mo = []
    · have hl0 : r.D.mo.length = 0 := by rw [hq]; rfl
      have he : S2 = S1 := by rw [HS2.out, HS1.out]; unfold preD; rw [if_pos hq]
      have He := Lib.hid he
      clear he hq
      go_wp2_with fail
      go_meet
      exact ⟨by rw [He.out], Ext.refl _⟩
    · have hl0 : 0 < r.D.mo.length := List.length_pos_iff.2 hq
      have td : decide ((0 : Int) < (r.D.mo.length : Int)) = true := decide_eq_true (by omega)
      have td0 : decide (0 < r.D.mo.length) = true := decide_eq_true hl0
      have hmV := ((HVe.out.ext HX1.out).mo)
      obtain ⟨Rm, om, hao, hRm⟩ := hmV.2.2 hq
      have hmc := hmV.2.1
      have hml := hmV.1
      unfold maxLen at hmc
      rw [hao] at g4
      have HRm := Lib.hid hRm
      have hm60 := HN.out.1.1
      have Hq := Lib.hid hq
      clear hmV hRm hao hq
      go_wp2_with fail
      try rw [td0]
      go_loopw [6, 7] (fun o i wr => ∃ (j : Nat) (a2 : Option Addr) (c2 : Nat), j ≤ r.D.mo.length ∧ i = .int .i64 (j : Int) ∧ o = .slice a2 j c2 ∧ wr.ownsRow V.heap.size 9 1 (.slice a2 j c2) j (sv ((r.D.mo.take j).map (getW moW))) ∧ Ext V wr) (fun _ i _ => r.D.mo.length - (intOf i).toNat)
      case atStart => exact ⟨0, none, 0, Nat.zero_le _, rfl, rfl, World.ownsRow_nil _ _ _ _, Ext.refl _⟩
      case round =>
        obtain ⟨j, a2, c2, hj, rfl, rfl, hown, hE⟩ := hrel
        have g4 := (hE.cells B 4 hBl).trans g4
        have hBl := hE.lt hBl
        have Hown := Lib.hid hown
        have HE := Lib.hid hE
        clear hown hE
        by_cases hlt : j < r.D.mo.length
        · have hRr := HRm.out.ext HE.out
          have hRz := hRr.1
          have x0 := hRr.2 j hlt
          have hxb := HN.out.1.2 _ (List.getElem_mem hlt)
          have Htk : Hid ((r.D.mo.take (j + 1)).map (getW moW) = (r.D.mo.take j).map (getW moW) ++ [getW moW r.D.mo[j]]) := by rw [Hid, List.take_succ_eq_append_getElem hlt, List.map_append]; rfl
          obtain ⟨mx, hx⟩ : ∃ mx, mx = r.D.mo[j] := ⟨_, rfl⟩
          rw [← hx] at x0 hxb Htk
          obtain ⟨Nm, hNm⟩ : ∃ Nm, Nm = getW moW mx := ⟨_, rfl⟩
          have HGt : Hid (∀ H W, RdS moW H 0 W → Calls Tryz.prog 49 #[.slice (some ⟨H, 0, none⟩) 12 12, .int .i64 mx] W fun e w' => e = .returned (.string ⟨Nm.toArray⟩) ∧ W = w') := fun H W hH => rget_c moW mx H Nm W hH (by decide) (by unfold i64; omega) hNm.symm
          rw [← hNm] at Htk
          clear hx hNm hRr hxb
          go_upto_region 12 with fail
          refine wp_region_grow [46, 47, 48, 49, 50, 51, 52, 53, 54] [fun x _ => x = .slice a2 j c2, SlS moW 12, fun x _ => x = .pointer (some ⟨B, 4, none⟩), fun x _ => x = .slice (some ⟨Rm, om, none⟩) r.D.mo.length (r.c 0), fun x _ => x = .int .i64 (j : Int), fun x _ => x = .pointer (some ⟨Rm, om + j, none⟩), fun x _ => x = .int .i64 mx, fun x _ => x = .string ⟨Nm.toArray⟩, OneS Nm] 2 (by kernel_rfl) (by kernel_rfl) (by kernel_rfl) (by kernel_rfl) ?_ ?_ ?_
          · intro Rl hRl
            simp only [List.mem_cons, List.not_mem_nil, or_false] at hRl
            rcases hRl with rfl | rfl | rfl | rfl | rfl | rfl | rfl | rfl | rfl
            all_goals first
              | exact fun _ _ _ h _ => h
              | exact fun _ _ _ h hE => SlS.ext h hE
              | exact fun _ _ _ h hE => OneS.ext h hE
          · refine ⟨?_, ?_, ?_, ?_, ?_, ?_, ?_, ?_, ?_, trivial⟩
            all_goals intro a w hE hF hD K hK
            · exact gs_val rfl (yr_move rfl ((hF 6 (fr_of rfl)).trans rfl)) (hK _ _ rfl (Ext.refl _))
            · exact gs_call rfl (yr_call rfl rfl (show (#[] : Array Operand).map a.eval = #[] by simp only [List.map_toArray, List.map_cons, List.map_nil] <;> rfl) (by kernel_rfl)) ((rmons_c w).mono fun e w' ⟨⟨H, h1, h2⟩, h3⟩ => ⟨_, h1, ⟨H, rfl, h2⟩, h3⟩) hK
            · exact gs_val rfl (yr_field rfl ((hF 1 (fr_of rfl)).trans rfl) (by go_simp)) (hK _ _ rfl (Ext.refl _))
            · have u48 : a.eval (.tmp 48) = .pointer (some ⟨B, 4, none⟩) := hD 2 (by kernel_rfl)
              exact gs_val rfl (yr_load rfl u48 (ld_is _ _ _ ((hE.cells B 4 hBl).trans g4))) (hK _ _ rfl (Ext.refl _))
            · exact gs_val rfl (yr_move rfl ((hF 7 (fr_of rfl)).trans rfl)) (hK _ _ rfl (Ext.refl _))
            · have u49 : a.eval (.tmp 49) = .slice (some ⟨Rm, om, none⟩) r.D.mo.length (r.c 0) := hD 3 (by kernel_rfl)
              have u50 : a.eval (.tmp 50) = .int .i64 (j : Int) := hD 4 (by kernel_rfl)
              exact gs_val rfl (yr_idxa rfl u49 u50 (ix_in Rm om _ _ j w hlt)) (hK _ _ rfl (Ext.refl _))
            · have u51 : a.eval (.tmp 51) = .pointer (some ⟨Rm, om + j, none⟩) := hD 5 (by kernel_rfl)
              exact gs_val rfl (yr_load rfl u51 (ld_n _ _ _ ((hE.cells Rm _ hRz).trans x0))) (hK _ _ rfl (Ext.refl _))
            · have u47 : (SlS moW 12) (a.eval (.tmp 47)) w := hD 1 (by kernel_rfl)
              have u52 : a.eval (.tmp 52) = .int .i64 mx := hD 6 (by kernel_rfl)
              obtain ⟨H, q47, hH⟩ := u47
              exact gs_call rfl (yr_call rfl rfl (show (#[Operand.tmp 47, Operand.tmp 52] : Array Operand).map a.eval = #[.slice (some ⟨H, 0, none⟩) 12 12, .int .i64 mx] by simp only [List.map_toArray, List.map_cons, List.map_nil, q47, u52] <;> rfl) (by kernel_rfl)) ((HGt.out H w hH).mono fun e w' ⟨h1, h2⟩ => ⟨_, h1, rfl, by rw [← h2]; exact Ext.refl _⟩) hK
            · have u53 : a.eval (.tmp 53) = .string ⟨Nm.toArray⟩ := hD 7 (by kernel_rfl)
              exact gs_mkE rfl (yr_bs1 rfl u53 (bs1_run _ w)) (hK _ _ (OneS.new Nm w) ((Ext.refl w).alloc _))
          intro vals wz hEz hRz
          obtain ⟨h0, -, -, -, -, -, -, -, h8, -⟩ := hRz
          have e46 : vals 0 = .slice a2 j c2 := h0
          obtain ⟨g, e54, hg, hgl⟩ := h8
          simp only [putF, Act.put, List.length_cons, List.length_nil, List.getD_cons_zero, List.getD_cons_succ, List.setIfInBounds_toArray, List.set_cons_zero, List.set_cons_succ, Nat.reduceAdd, e46, e54]
          clear e46 e54
          have hown2 := own_ext Hown.out hEz
          have hsz2 := (HE.out.trans hEz).size
          refine wpAny_op (i := 9) (by kernel_rfl) rfl (by rfl) ?_
          refine wp_append_own _ (.tmp 46) (.tmp 54) 55 rfl V.heap.size 9 i0 (.string ByteArray.empty) 1 16 Tryz.underlying55 Hi.out Hz0.out Hz1.out Hz2.out rfl (by decide) _ _ _ rfl hown2 ⟨g, 0, none⟩ 1 1 [.string ⟨Nm.toArray⟩] rfl rfl (OneS.at_ hg) (fun x hx => by simp at hx; subst hx; rfl) (by unfold maxLen; omega) (by omega) (by omega) ?_
          intro v' w3 hown' hgrow3 hnil3
          have HExt := Lib.hid (ext_grown (v := .slice a2 j c2) (HE.out.trans hEz) hown2 hgrow3)
          obtain ⟨a3, c3, rfl⟩ := own_slice hown'
          refine wpAny_one (i := 10) (o := ⟨some 6, .assign (.tmp 55), _, _, _, _⟩) (by kernel_rfl) rfl (by rfl) (by exact yr_assign rfl rfl) ?_
          refine wpAny_done (by kernel_rfl) ?_ _
          simp only [Act.put, List.setIfInBounds_toArray, List.set_cons_zero, List.set_cons_succ]
          go_wp2_with fail
          go_roundw
          case rel => exact ⟨j + 1, a3, c3, hlt, by go_num, rfl, by rw [Htk.out, sv_app]; exact hown', HExt.out⟩
          case measure => simp [intOf]; omega
        · obtain rfl : j = r.D.mo.length := by omega
          have hown := Hown.out
          rw [List.take_length] at hown
          obtain ⟨g, cp, he, hcp, -, hRd, -⟩ := RdS.of_own hown (by rw [List.length_map]) (fun e => Hq.out (by simpa using e))
          rw [List.length_map] at he hcp
          injection he with e1 _ e3
          subst e1; subst e3
          obtain ⟨X, hX⟩ : ∃ X, X = wordsT (r.D.mo.map (getW moW)) := ⟨_, rfl⟩
          have HLs : Hid (Calls Tryz.prog 51 #[.slice (some ⟨g, 0, none⟩) r.D.mo.length c2] wr fun e w' => e = .returned (.string ⟨X.toArray⟩) ∧ wr = w') := by
            have := rlist_c (r.D.mo.map (getW moW)) g 0 c2 X wr hRd (by rw [List.length_map]; exact hcp) (by rw [List.length_map]; omega) (fun y hy => by
              obtain ⟨z, -, rfl⟩ := List.mem_map.1 hy
              exact getW_30 z) hX.symm
            rw [List.length_map] at this
            exact this
          obtain ⟨T1, hT1⟩ : ∃ T1, T1 = S1 ++ [44, 32, 105, 110, 32] := ⟨_, rfl⟩
          have hc1 : (⟨S1.toArray⟩ : ByteArray) ++ ⟨#[44, 32, 105, 110, 32]⟩ = ⟨T1.toArray⟩ := by rw [hT1]; exact catb _ _
          have hl1 : T1.length ≤ 70010 := by rw [hT1, List.length_append]; simp; omega
          have hc2 : (⟨T1.toArray⟩ : ByteArray) ++ ⟨X.toArray⟩ = ⟨S2.toArray⟩ := by
            rw [catb, HS2.out]
            unfold preD
            rw [if_neg Hq.out, ← HS1.out, ← hX, hT1]
            simp [sCom]
          have hXl : X.length ≤ 70000 := by
            have := congrArg (fun b : ByteArray => b.size) hc2
            simp [ByteArray.size] at this
            omega
          clear hown hRd hX hT1
          go_wp2_with (go_at_call 51; (with_reducible refine HLs.out.mono ?_); rintro e w2 ⟨rfl, rfl⟩)
          go_meet
          exact ⟨rfl, HE.out⟩
  case rest =>
  obtain ⟨rfl, hEa⟩ := hcut
  clear g4
  have hXX := HX1.out.trans hEa
  have hBz := HB.out.ext hXX
  have hBl := hBz.1
  obtain ⟨-, -, -, -, -, g5, g6, g7, -, g9, g10, g11, g12, -⟩ := hBz.all
  have HXX := Lib.hid hXX
  clear hXX hBz hEa HX1
  have HX1 := HXX
  clear HXX
  obtain ⟨V, hVw⟩ : ∃ V, V = wc := ⟨_, rfl⟩
  subst hVw
  have hv0 := HVe.out.ext HX1.out
  obtain ⟨n1, n2, n3, n4, n5, n6, n7, n8⟩ := HN.out
  have HTx_wk := Lib.hid (fun W (hE : Ext V W) => rtexts_x r.D.wk (r.a 3) (r.c 3) W (hv0.wk.ext hE) n4.1 n4.2)
  have HTx_yd := Lib.hid (fun W (hE : Ext V W) => rtexts_x r.D.yd (r.a 2) (r.c 2) W (hv0.yd.ext hE) n3.1 n3.2)
  have HTx_md := Lib.hid (fun W (hE : Ext V W) => rtexts_x r.D.md (r.a 1) (r.c 1) W (hv0.md.ext hE) n2.1 n2.2)
  have HTx_ho := Lib.hid (fun W (hE : Ext V W) => rtexts_x r.D.ho (r.a 5) (r.c 5) W (hv0.ho.ext hE) n5.1 n5.2)
  have HTx_mi := Lib.hid (fun W (hE : Ext V W) => rtexts_x r.D.mi (r.a 6) (r.c 6) W (hv0.mi.ext hE) n6.1 n6.2)
  have HTx_se := Lib.hid (fun W (hE : Ext V W) => rtexts_x r.D.se (r.a 7) (r.c 7) W (hv0.se.ext hE) n7.1 n7.2)
  have HTx_po := Lib.hid (fun W (hE : Ext V W) => rtexts_x r.D.po (r.a 8) (r.c 8) W (hv0.po.ext hE) n8.1 n8.2)
  clear hv0 n1 n2 n3 n4 n5 n6 n7 n8
  go_upto_region 15 with fail
  obtain ⟨W5, hW5⟩ : ∃ W5, W5 = V.alloc (.cells (sv hdW).toArray 9) := ⟨_, rfl⟩
  have hE5 : Ext V W5 := by rw [hW5]; exact (Ext.refl _).alloc _
  have hH5 : RdS hdW V.heap.size 0 W5 := by
    rw [hW5]
    refine ⟨by simp, fun i hi => ?_⟩
    rw [Nat.zero_add, World.cell?_alloc_new]
    simp [sv, hi]
  have hsv : (sv hdW).toArray = #[.string ⟨#[105, 110, 32, 116, 104, 101, 32, 119, 101, 101, 107, 115, 32]⟩, .string ⟨#[111, 110, 32, 116, 104, 101, 32, 100, 97, 121, 115, 32, 111, 102, 32, 116, 104, 101, 32, 121, 101, 97, 114, 32]⟩, .string ⟨#[111, 110, 32, 116, 104, 101, 32, 100, 97, 121, 115, 32, 111, 102, 32, 116, 104, 101, 32, 109, 111, 110, 116, 104, 32]⟩, .string ⟨#[111, 110, 32]⟩, .string ⟨#[97, 116, 32, 116, 104, 101, 32, 104, 111, 117, 114, 115, 32]⟩, .string ⟨#[97, 116, 32, 116, 104, 101, 32, 109, 105, 110, 117, 116, 101, 115, 32]⟩, .string ⟨#[97, 116, 32, 116, 104, 101, 32, 115, 101, 99, 111, 110, 100, 115, 32]⟩, .string ⟨#[111, 110, 108, 121, 32, 116, 104, 101, 32, 110, 117, 109, 98, 101, 114, 115, 32]⟩] := rfl
  rw [hsv] at hW5
  rw [← hW5]
  have g5 := (hE5.cells B 5 hBl).trans g5
  have g6 := (hE5.cells B 6 hBl).trans g6
  have g7 := (hE5.cells B 7 hBl).trans g7
  have g9 := (hE5.cells B 9 hBl).trans g9
  have g10 := (hE5.cells B 10 hBl).trans g10
  have g11 := (hE5.cells B 11 hBl).trans g11
  have g12 := (hE5.cells B 12 hBl).trans g12
  have HE5 := Lib.hid hE5
  have HX5 := Lib.hid (HX1.out.trans hE5)
  have hBV := hBl
  have hBl := hE5.lt hBl
  have HH5 := Lib.hid hH5
  have hHl := hH5.1
  clear hE5 hH5 hsv hW5
  obtain ⟨Hh, hHh⟩ : ∃ Hh, Hh = V.heap.size := ⟨_, rfl⟩
  rw [← hHh] at HH5 hHl ⊢
  clear hHh
  go_cut [9] from 62 to 83 (fun x wx => LsT r.D W5.heap.size x wx ∧ Ext W5 wx)
  case first =>
    refine wp_region_grow [62, 63, 64, 65, 66, 67, 68, 69, 70, 71, 72, 73, 74, 75, 76, 77, 78, 79, 80, 81, 82, 83] [fun x _ => x = .pointer (some ⟨B, 7, none⟩), fun x _ => x = .slice (r.a 3) r.D.wk.length (r.c 3), TxS (r.D.wk.map decZ), fun x _ => x = .pointer (some ⟨B, 6, none⟩), fun x _ => x = .slice (r.a 2) r.D.yd.length (r.c 2), TxS (r.D.yd.map decZ), fun x _ => x = .pointer (some ⟨B, 5, none⟩), fun x _ => x = .slice (r.a 1) r.D.md.length (r.c 1), TxS (r.D.md.map decZ), fun x _ => x = .pointer (some ⟨B, 9, none⟩), fun x _ => x = .slice (r.a 5) r.D.ho.length (r.c 5), TxS (r.D.ho.map decZ), fun x _ => x = .pointer (some ⟨B, 10, none⟩), fun x _ => x = .slice (r.a 6) r.D.mi.length (r.c 6), TxS (r.D.mi.map decZ), fun x _ => x = .pointer (some ⟨B, 11, none⟩), fun x _ => x = .slice (r.a 7) r.D.se.length (r.c 7), TxS (r.D.se.map decZ), fun x _ => x = .pointer (some ⟨B, 12, none⟩), fun x _ => x = .slice (r.a 8) r.D.po.length (r.c 8), TxS (r.D.po.map decZ), LsT r.D W5.heap.size] 1 (by kernel_rfl) (by kernel_rfl) (by kernel_rfl) (by kernel_rfl) ?_ ?_ ?_
    · intro Rl hRl
      simp only [List.mem_cons, List.not_mem_nil, or_false] at hRl
      rcases hRl with rfl | rfl | rfl | rfl | rfl | rfl | rfl | rfl | rfl | rfl | rfl | rfl | rfl | rfl | rfl | rfl | rfl | rfl | rfl | rfl | rfl | rfl
      all_goals first
        | exact fun _ _ _ h _ => h
        | exact fun _ _ _ h hE => TxS.ext h hE
        | exact fun _ _ _ h hE => LsT.ext h hE
    · refine ⟨?_, ?_, ?_, ?_, ?_, ?_, ?_, ?_, ?_, ?_, ?_, ?_, ?_, ?_, ?_, ?_, ?_, ?_, ?_, ?_, ?_, ?_, trivial⟩
      all_goals intro a w hE hF hD K hK
      · exact gs_val rfl (yr_field rfl ((hF 1 (fr_of rfl)).trans rfl) (by go_simp)) (hK _ _ rfl (Ext.refl _))
      · have u62 : a.eval (.tmp 62) = .pointer (some ⟨B, 7, none⟩) := hD 0 (by kernel_rfl)
        exact gs_val rfl (yr_load rfl u62 (ld_is _ _ _ ((hE.cells B 7 hBl).trans g7))) (hK _ _ rfl (Ext.refl _))
      · have u63 : a.eval (.tmp 63) = .slice (r.a 3) r.D.wk.length (r.c 3) := hD 1 (by kernel_rfl)
        have q0 : a.eval (.tmp 63) = .slice (r.a 3) r.D.wk.length (r.c 3) := u63
        exact gs_call rfl (yr_call rfl rfl (show (#[Operand.tmp 63] : Array Operand).map a.eval = #[.slice (r.a 3) r.D.wk.length (r.c 3)] by simp only [List.map_toArray, List.map_cons, List.map_nil, q0] <;> rfl) (by kernel_rfl)) (HTx_wk.out w (HE5.out.trans hE)) hK
      · exact gs_val rfl (yr_field rfl ((hF 1 (fr_of rfl)).trans rfl) (by go_simp)) (hK _ _ rfl (Ext.refl _))
      · have u65 : a.eval (.tmp 65) = .pointer (some ⟨B, 6, none⟩) := hD 3 (by kernel_rfl)
        exact gs_val rfl (yr_load rfl u65 (ld_is _ _ _ ((hE.cells B 6 hBl).trans g6))) (hK _ _ rfl (Ext.refl _))
      · have u66 : a.eval (.tmp 66) = .slice (r.a 2) r.D.yd.length (r.c 2) := hD 4 (by kernel_rfl)
        have q0 : a.eval (.tmp 66) = .slice (r.a 2) r.D.yd.length (r.c 2) := u66
        exact gs_call rfl (yr_call rfl rfl (show (#[Operand.tmp 66] : Array Operand).map a.eval = #[.slice (r.a 2) r.D.yd.length (r.c 2)] by simp only [List.map_toArray, List.map_cons, List.map_nil, q0] <;> rfl) (by kernel_rfl)) (HTx_yd.out w (HE5.out.trans hE)) hK
      · exact gs_val rfl (yr_field rfl ((hF 1 (fr_of rfl)).trans rfl) (by go_simp)) (hK _ _ rfl (Ext.refl _))
      · have u68 : a.eval (.tmp 68) = .pointer (some ⟨B, 5, none⟩) := hD 6 (by kernel_rfl)
        exact gs_val rfl (yr_load rfl u68 (ld_is _ _ _ ((hE.cells B 5 hBl).trans g5))) (hK _ _ rfl (Ext.refl _))
      · have u69 : a.eval (.tmp 69) = .slice (r.a 1) r.D.md.length (r.c 1) := hD 7 (by kernel_rfl)
        have q0 : a.eval (.tmp 69) = .slice (r.a 1) r.D.md.length (r.c 1) := u69
        exact gs_call rfl (yr_call rfl rfl (show (#[Operand.tmp 69] : Array Operand).map a.eval = #[.slice (r.a 1) r.D.md.length (r.c 1)] by simp only [List.map_toArray, List.map_cons, List.map_nil, q0] <;> rfl) (by kernel_rfl)) (HTx_md.out w (HE5.out.trans hE)) hK
      · exact gs_val rfl (yr_field rfl ((hF 1 (fr_of rfl)).trans rfl) (by go_simp)) (hK _ _ rfl (Ext.refl _))
      · have u71 : a.eval (.tmp 71) = .pointer (some ⟨B, 9, none⟩) := hD 9 (by kernel_rfl)
        exact gs_val rfl (yr_load rfl u71 (ld_is _ _ _ ((hE.cells B 9 hBl).trans g9))) (hK _ _ rfl (Ext.refl _))
      · have u72 : a.eval (.tmp 72) = .slice (r.a 5) r.D.ho.length (r.c 5) := hD 10 (by kernel_rfl)
        have q0 : a.eval (.tmp 72) = .slice (r.a 5) r.D.ho.length (r.c 5) := u72
        exact gs_call rfl (yr_call rfl rfl (show (#[Operand.tmp 72] : Array Operand).map a.eval = #[.slice (r.a 5) r.D.ho.length (r.c 5)] by simp only [List.map_toArray, List.map_cons, List.map_nil, q0] <;> rfl) (by kernel_rfl)) (HTx_ho.out w (HE5.out.trans hE)) hK
      · exact gs_val rfl (yr_field rfl ((hF 1 (fr_of rfl)).trans rfl) (by go_simp)) (hK _ _ rfl (Ext.refl _))
      · have u74 : a.eval (.tmp 74) = .pointer (some ⟨B, 10, none⟩) := hD 12 (by kernel_rfl)
        exact gs_val rfl (yr_load rfl u74 (ld_is _ _ _ ((hE.cells B 10 hBl).trans g10))) (hK _ _ rfl (Ext.refl _))
      · have u75 : a.eval (.tmp 75) = .slice (r.a 6) r.D.mi.length (r.c 6) := hD 13 (by kernel_rfl)
        have q0 : a.eval (.tmp 75) = .slice (r.a 6) r.D.mi.length (r.c 6) := u75
        exact gs_call rfl (yr_call rfl rfl (show (#[Operand.tmp 75] : Array Operand).map a.eval = #[.slice (r.a 6) r.D.mi.length (r.c 6)] by simp only [List.map_toArray, List.map_cons, List.map_nil, q0] <;> rfl) (by kernel_rfl)) (HTx_mi.out w (HE5.out.trans hE)) hK
      · exact gs_val rfl (yr_field rfl ((hF 1 (fr_of rfl)).trans rfl) (by go_simp)) (hK _ _ rfl (Ext.refl _))
      · have u77 : a.eval (.tmp 77) = .pointer (some ⟨B, 11, none⟩) := hD 15 (by kernel_rfl)
        exact gs_val rfl (yr_load rfl u77 (ld_is _ _ _ ((hE.cells B 11 hBl).trans g11))) (hK _ _ rfl (Ext.refl _))
      · have u78 : a.eval (.tmp 78) = .slice (r.a 7) r.D.se.length (r.c 7) := hD 16 (by kernel_rfl)
        have q0 : a.eval (.tmp 78) = .slice (r.a 7) r.D.se.length (r.c 7) := u78
        exact gs_call rfl (yr_call rfl rfl (show (#[Operand.tmp 78] : Array Operand).map a.eval = #[.slice (r.a 7) r.D.se.length (r.c 7)] by simp only [List.map_toArray, List.map_cons, List.map_nil, q0] <;> rfl) (by kernel_rfl)) (HTx_se.out w (HE5.out.trans hE)) hK
      · exact gs_val rfl (yr_field rfl ((hF 1 (fr_of rfl)).trans rfl) (by go_simp)) (hK _ _ rfl (Ext.refl _))
      · have u80 : a.eval (.tmp 80) = .pointer (some ⟨B, 12, none⟩) := hD 18 (by kernel_rfl)
        exact gs_val rfl (yr_load rfl u80 (ld_is _ _ _ ((hE.cells B 12 hBl).trans g12))) (hK _ _ rfl (Ext.refl _))
      · have u81 : a.eval (.tmp 81) = .slice (r.a 8) r.D.po.length (r.c 8) := hD 19 (by kernel_rfl)
        have q0 : a.eval (.tmp 81) = .slice (r.a 8) r.D.po.length (r.c 8) := u81
        exact gs_call rfl (yr_call rfl rfl (show (#[Operand.tmp 81] : Array Operand).map a.eval = #[.slice (r.a 8) r.D.po.length (r.c 8)] by simp only [List.map_toArray, List.map_cons, List.map_nil, q0] <;> rfl) (by kernel_rfl)) (HTx_po.out w (HE5.out.trans hE)) hK
      · have u64 : (TxS (r.D.wk.map decZ)) (a.eval (.tmp 64)) w := hD 2 (by kernel_rfl)
        have u67 : (TxS (r.D.yd.map decZ)) (a.eval (.tmp 67)) w := hD 5 (by kernel_rfl)
        have u70 : (TxS (r.D.md.map decZ)) (a.eval (.tmp 70)) w := hD 8 (by kernel_rfl)
        have u73 : (TxS (r.D.ho.map decZ)) (a.eval (.tmp 73)) w := hD 11 (by kernel_rfl)
        have u76 : (TxS (r.D.mi.map decZ)) (a.eval (.tmp 76)) w := hD 14 (by kernel_rfl)
        have u79 : (TxS (r.D.se.map decZ)) (a.eval (.tmp 79)) w := hD 17 (by kernel_rfl)
        have u82 : (TxS (r.D.po.map decZ)) (a.eval (.tmp 82)) w := hD 20 (by kernel_rfl)
        obtain ⟨a0, c0, q0, w0⟩ := u64
        obtain ⟨a1, c1, q1, w1⟩ := u67
        obtain ⟨a2, c2, q2, w2⟩ := u70
        obtain ⟨a3, c3, q3, w3⟩ := u73
        obtain ⟨a4, c4, q4, w4⟩ := u76
        obtain ⟨a5, c5, q5, w5⟩ := u79
        obtain ⟨a6, c6, q6, w6⟩ := u82
        exact gs_mkE rfl (yr_bsn rfl (show (#[(0, Operand.tmp 64), (1, Operand.tmp 67), (2, Operand.tmp 70), (3, Operand.const (Value.slice none 0 0)), (4, Operand.tmp 73), (5, Operand.tmp 76), (6, Operand.tmp 79), (7, Operand.tmp 82)] : Array (Nat × Operand)).map (fun e => (e.1, a.eval e.2)) = #[(0, .slice a0 _ c0), (1, .slice a1 _ c1), (2, .slice a2 _ c2), (3, .slice none 0 0), (4, .slice a3 _ c3), (5, .slice a4 _ c4), (6, .slice a5 _ c5), (7, .slice a6 _ c6)] by simp only [List.map_toArray, List.map_cons, List.map_nil, q0, q1, q2, q3, q4, q5, q6] <;> rfl) (bs8_run w)) (hK _ _ (LsT.new hE.size w0 w1 w2 w3 w4 w5 w6) ((Ext.refl w).alloc _))
    intro vals wz hEz hRz
    obtain ⟨-, -, -, -, -, -, -, -, -, -, -, -, -, -, -, -, -, -, -, -, -, h21, -⟩ := hRz
    obtain ⟨b, Aw, Cw, e83, hbV, hbl, hb3, hf3, hbc⟩ := h21
    simp only [putF, Act.put, List.length_cons, List.length_nil, List.getD_cons_zero, List.getD_cons_succ, List.setIfInBounds_toArray, List.set_cons_zero, List.set_cons_succ, Nat.reduceAdd, e83]
    clear e83
    refine wpAny_one (i := 22) (o := ⟨some 9, .assign (.tmp 83), _, _, _, _⟩) (by kernel_rfl) rfl (by rfl) (by exact yr_assign rfl rfl) ?_
    refine wpAny_done (by kernel_rfl) ?_ _
    simp only [Act.put, List.setIfInBounds_toArray, List.set_cons_zero, List.set_cons_succ]
    go_wp2_with fail
    go_meet
    exact ⟨⟨b, Aw, Cw, rfl, hbV, hbl, hb3, hf3, hbc⟩, hEz⟩
  case rest =>
  obtain ⟨⟨b, Aw, Cw, rfl, hbV, hbl, hb3, hf3, hbc⟩, hEc⟩ := hcut
  obtain ⟨Ws, hWs⟩ : ∃ Ws, Ws = wc := ⟨_, rfl⟩
  subst hWs
  have HXs := Lib.hid (HX5.out.trans hEc)
  have HBs := HB.out.ext HXs.out
  have hBs := HBs.1
  obtain ⟨-, -, -, -, -, -, -, -, g8, -, -, -, -, -⟩ := HBs.all
  have HHs := Lib.hid (HH5.out.ext hEc)
  have hHs := hEc.lt hHl
  have HBb : Hid (B < b ∧ Hh < b) := ⟨by omega, by omega⟩
  have Hbc := Lib.hid hbc
  have hB0 := HB.out.1
  clear g5 g6 g7 g9 g10 g11 g12 HTx_wk HTx_yd HTx_md HTx_ho HTx_mi HTx_se HTx_po hbc HBs hEc hBl hBV hHl
  go_wp2_with fail
  go_loopw [10] (fun i wr => ∃ (j : Nat) (ao : Option Addr) (cv : Nat), j ≤ r.D.da.length ∧ i = .int .i64 (j : Int) ∧ wr.cell? ⟨b, 3, none⟩ = some (.slice ao j cv) ∧ wr.frozen? ⟨b, 3, none⟩ = false ∧ wr.ownsRow Ws.heap.size 9 1 (.slice ao j cv) j (sv ((r.D.da.take j).map dayD)) ∧ Frm (fun k => k = b) Ws wr ∧ Hid (∀ o, o ≠ 3 → wr.cell? ⟨b, o, none⟩ = Ws.cell? ⟨b, o, none⟩)) (fun i _ => r.D.da.length - (intOf i).toNat)
  case atStart => exact ⟨0, none, 0, Nat.zero_le _, rfl, hb3, hf3, World.ownsRow_nil _ _ _ _, Frm.refl _ _, (fun o _ => rfl)⟩
  case round =>
    obtain ⟨j, ao, cv, hj, rfl, b3, f3, hown, hF, HCo⟩ := hrel
    have Hown := Lib.hid hown
    have HF := Lib.hid hF
    have g8 := (hF.cel hBs (by have := HBb.out; omega) 8).trans g8
    have hBw := hF.lt hBs
    have hbw := hF.lt hbl
    have hcv : cv ≤ maxLen ∧ j ≤ cv := by
      rcases hown.2 with ⟨h, _⟩ | ⟨g, cap, cur, h, _, _, hle, hmx, _⟩
      · injection h with h1 h2 h3; rw [h2, h3]; exact ⟨Nat.zero_le _, Nat.le_refl _⟩
      · injection h with h1 h2 h3; rw [h3]; exact ⟨hmx, hle⟩
    obtain ⟨hcv1, hcv2⟩ := hcv
    unfold maxLen at hcv1
    clear hown hF hb3 hf3
    by_cases hlt : j < r.D.da.length
    · obtain ⟨Rd, od, hao, hR0⟩ := HVe.out.da.2.2 (by intro e; rw [e] at hlt; cases hlt)
      have hRz0 := hR0.1
      have hRs2 := hR0.ext HXs.out
      have hRlt := hRs2.1
      obtain ⟨x0s, x1s⟩ := hRs2.2 j hlt
      have hW0b : W0.heap.size ≤ b := Nat.le_trans HX5.out.size hbV
      have hRb : Rd ≠ b := by omega
      have x0 := (HF.out.cel hRlt hRb (od + j * 2)).trans x0s
      have x1 := (HF.out.cel hRlt hRb (od + j * 2 + 1)).trans x1s
      have hRw := HF.out.lt hRlt
      have hob := HDk.out _ (List.getElem_mem hlt)
      have Htk : Hid ((r.D.da.take (j + 1)).map dayD = (r.D.da.take j).map dayD ++ [dayD r.D.da[j]]) := by rw [Hid, List.take_succ_eq_append_getElem hlt, List.map_append]; rfl
      obtain ⟨o, ho⟩ : ∃ o, o = r.D.da[j] := ⟨_, rfl⟩
      rw [← ho] at x0 x1 hob Htk
      obtain ⟨d1, d2⟩ := o
      simp only at x0 x1
      obtain ⟨ob1, ob2, ob3, ob4⟩ : 1 ≤ d2 ∧ d2 ≤ 7 ∧ -999999999 ≤ d1 ∧ d1 ≤ 999999999 := hob
      rw [hao] at g8
      obtain ⟨Nm, hNm⟩ : ∃ Nm, Nm = getW wdW d2 := ⟨_, rfl⟩
      have hNl : Nm.length ≤ 5 := by
        rw [hNm]
        rcases (show d2 = 1 ∨ d2 = 2 ∨ d2 = 3 ∨ d2 = 4 ∨ d2 = 5 ∨ d2 = 6 ∨ d2 = 7 by omega) with q | q | q | q | q | q | q <;> rw [q] <;> decide
      have HGt : Hid (∀ H W, RdS wdW H 0 W → Calls Tryz.prog 49 #[.slice (some ⟨H, 0, none⟩) 7 7, .int .i64 d2] W fun e w' => e = .returned (.string ⟨Nm.toArray⟩) ∧ W = w') := fun H W hH => rget_c wdW d2 H Nm W hH (by decide) (by unfold i64; omega) hNm.symm
      have HNm := Lib.hid hNm
      clear ho hao hR0 hRs2 x0s x1s hRlt hNm hRb hW0b
      obtain ⟨W6, hW6⟩ : ∃ W6, W6 = wr := ⟨_, rfl⟩
      rw [← hW6] at b3 f3 Hown HF HCo g8 hBw hbw x0 x1 hRw ⊢
      clear hW6 wr
      go_upto_region 19 with fail
      go_cut [11] from 91 to 98 (fun x wx => x = .string ⟨Nm.toArray⟩ ∧ Ext W6 wx)
      case first =>
        refine wp_region_grow [91, 92, 93, 94, 95, 96, 97, 98] [SlS wdW 7, fun x _ => x = .pointer (some ⟨B, 8, none⟩), fun x _ => x = .slice (some ⟨Rd, od, none⟩) r.D.da.length (r.c 4), fun x _ => x = .int .i64 (j : Int), fun x _ => x = .pointer (some ⟨Rd, od + j * 2, none⟩), fun x _ => x = .pointer (some ⟨Rd, od + j * 2 + 1, none⟩), fun x _ => x = .int .i64 d2, fun x _ => x = .string ⟨Nm.toArray⟩] 1 (by kernel_rfl) (by kernel_rfl) (by kernel_rfl) (by kernel_rfl) ?_ ?_ ?_
        · intro Rl hRl
          simp only [List.mem_cons, List.not_mem_nil, or_false] at hRl
          rcases hRl with rfl | rfl | rfl | rfl | rfl | rfl | rfl | rfl
          all_goals first
            | exact fun _ _ _ h _ => h
            | exact fun _ _ _ h hE => SlS.ext h hE
        · refine ⟨?_, ?_, ?_, ?_, ?_, ?_, ?_, ?_, trivial⟩
          all_goals intro a w hE hF hD K hK
          · exact gs_call rfl (yr_call rfl rfl (show (#[] : Array Operand).map a.eval = #[] by simp only [List.map_toArray, List.map_cons, List.map_nil] <;> rfl) (by kernel_rfl)) ((rwks_c w).mono fun e w' ⟨⟨H, h1, h2⟩, h3⟩ => ⟨_, h1, ⟨H, rfl, h2⟩, h3⟩) hK
          · exact gs_val rfl (yr_field rfl ((hF 1 (fr_of rfl)).trans rfl) (by go_simp)) (hK _ _ rfl (Ext.refl _))
          · have u92 : a.eval (.tmp 92) = .pointer (some ⟨B, 8, none⟩) := hD 1 (by kernel_rfl)
            exact gs_val rfl (yr_load rfl u92 (ld_os _ _ _ ((hE.cells B 8 hBw).trans g8))) (hK _ _ rfl (Ext.refl _))
          · exact gs_val rfl (yr_move rfl ((hF 10 (fr_of rfl)).trans rfl)) (hK _ _ rfl (Ext.refl _))
          · have u93 : a.eval (.tmp 93) = .slice (some ⟨Rd, od, none⟩) r.D.da.length (r.c 4) := hD 2 (by kernel_rfl)
            have u94 : a.eval (.tmp 94) = .int .i64 (j : Int) := hD 3 (by kernel_rfl)
            exact gs_val rfl (yr_idxa rfl u93 u94 (ix_od Rd od _ _ j w hlt)) (hK _ _ rfl (Ext.refl _))
          · have u95 : a.eval (.tmp 95) = .pointer (some ⟨Rd, od + j * 2, none⟩) := hD 4 (by kernel_rfl)
            exact gs_val rfl (yr_field rfl u95 (by go_simp)) (hK _ _ rfl (Ext.refl _))
          · have u96 : a.eval (.tmp 96) = .pointer (some ⟨Rd, od + j * 2 + 1, none⟩) := hD 5 (by kernel_rfl)
            exact gs_val rfl (yr_load rfl u96 (ld_n _ _ _ ((hE.cells Rd _ hRw).trans x1))) (hK _ _ rfl (Ext.refl _))
          · have u91 : (SlS wdW 7) (a.eval (.tmp 91)) w := hD 0 (by kernel_rfl)
            have u97 : a.eval (.tmp 97) = .int .i64 d2 := hD 6 (by kernel_rfl)
            obtain ⟨H, q91, hH⟩ := u91
            exact gs_call rfl (yr_call rfl rfl (show (#[Operand.tmp 91, Operand.tmp 97] : Array Operand).map a.eval = #[.slice (some ⟨H, 0, none⟩) 7 7, .int .i64 d2] by simp only [List.map_toArray, List.map_cons, List.map_nil, q91, u97] <;> rfl) (by kernel_rfl)) ((HGt.out H w hH).mono fun e w' ⟨h1, h2⟩ => ⟨_, h1, rfl, by rw [← h2]; exact Ext.refl _⟩) hK
        intro vals wz hEz hRz
        obtain ⟨-, -, -, -, -, -, -, h7, -⟩ := hRz
        have e98 : vals 7 = .string ⟨Nm.toArray⟩ := h7
        simp only [putF, Act.put, List.length_cons, List.length_nil, List.getD_cons_zero, List.getD_cons_succ, List.setIfInBounds_toArray, List.set_cons_zero, List.set_cons_succ, Nat.reduceAdd, e98]
        clear e98
        refine wpAny_one (i := 8) (o := ⟨some 11, .assign (.tmp 98), _, _, _, _⟩) (by kernel_rfl) rfl (by rfl) (by exact yr_assign rfl rfl) ?_
        refine wpAny_done (by kernel_rfl) ?_ _
        simp only [Act.put, List.setIfInBounds_toArray, List.set_cons_zero, List.set_cons_succ]
        go_wp2_with fail
        go_meet
        exact ⟨rfl, hEz⟩
      case rest =>
      obtain ⟨rfl, hE7⟩ := hcut
      obtain ⟨W7, hW7⟩ : ∃ W7, W7 = wc := ⟨_, rfl⟩
      subst hW7
      have g8 := (hE7.cells B 8 hBw).trans g8
      have x0 := (hE7.cells Rd _ hRw).trans x0
      have hBw7 := hE7.lt hBw
      have hRw7 := hE7.lt hRw
      have HE7 := Lib.hid hE7
      clear hE7 x1
      obtain ⟨Dd, hDd⟩ : ∃ Dd, Dd = dayD (d1, d2) := ⟨_, rfl⟩
      rw [← hDd] at Htk
      have HDd := Lib.hid hDd
      clear hDd
      go_upto_if 105 with fail
      go_cut [11] from 99 to 115 (fun x wx => x = .string ⟨Dd.toArray⟩ ∧ Ext W7 wx)
      case first =>
        by_cases hq : d1 = 0
        · have t1 : (d1 == 0) = true := by simpa using hq
          have t2 : (d1 != 0) = false := by simpa using hq
          have he : Dd = Nm := by rw [HDd.out, HNm.out]; unfold dayD; rw [if_pos hq]
          have He := Lib.hid he
          clear he hq
          go_wp2_with fail
          go_meet
          exact ⟨by rw [He.out], Ext.refl _⟩
        · have t1 : (d1 == 0) = false := by simpa using hq
          have t2 : (d1 != 0) = true := by simpa using hq
          obtain ⟨Y, hY⟩ : ∃ Y, Y = decZ d1 := ⟨_, rfl⟩
          have HD := Lib.hid (fun W => rdec_c d1 Y W (by omega) (by omega) hY.symm)
          have hYl : Y.length ≤ 20 := by rw [hY]; exact decZ_20 (by unfold i64; omega)
          obtain ⟨T1, hT1⟩ : ∃ T1, T1 = Y ++ [46, 32] := ⟨_, rfl⟩
          have hc1 : (⟨Y.toArray⟩ : ByteArray) ++ ⟨#[46, 32]⟩ = ⟨T1.toArray⟩ := by rw [hT1]; exact catb _ _
          have hl1 : T1.length ≤ 30 := by rw [hT1, List.length_append]; simp; omega
          have hc2 : (⟨T1.toArray⟩ : ByteArray) ++ ⟨Nm.toArray⟩ = ⟨Dd.toArray⟩ := by
            rw [catb, HDd.out, hT1]
            unfold dayD
            rw [if_neg hq, ← hY, ← HNm.out]
            simp
          clear hq hY hT1
          go_wp2_with (go_at_call 37; (with_reducible refine (HD.out _).mono ?_); rintro e w2 ⟨rfl, hE2⟩)
          go_meet
          exact ⟨rfl, hE2⟩
      case rest =>
      obtain ⟨rfl, hE8⟩ := hcut
      obtain ⟨W8, hW8⟩ : ∃ W8, W8 = wc := ⟨_, rfl⟩
      subst hW8
      have hE68 := HE7.out.trans hE8
      have b38 := (hE68.cells b 3 hbw).trans b3
      have f38 : W8.frozen? ⟨b, 3, none⟩ = false := (hE68.frozens b 3 hbw).trans f3
      have hb8 := hE68.lt hbw
      have hown8 := own_ext Hown.out hE68
      have hs8 := hE68.size
      have hsW := HF.out.size
      have HF8 : Hid (Frm (fun k => k = b) Ws W8) := HF.out.trans (Frm.of_ext hE68)
      have HCo8 : Hid (∀ o, o ≠ 3 → W8.cell? ⟨b, o, none⟩ = Ws.cell? ⟨b, o, none⟩) := fun o ho => (hE68.cells b o hbw).trans (HCo.out o ho)
      clear hE8 b3 f3 g8 x0
      go_wp2_with (at_builtin; refine wpList_append_own _ rfl _ _ 55 rfl Ws.heap.size 9 i0 (.string .empty) 1 16 Tryz.underlying55 Hi.out Hz0.out Hz1.out Hz2.out rfl (by decide) _ _ _ rfl (hown8.alloc _) ⟨W8.heap.size, 0, none⟩ 1 1 [.string ⟨Dd.toArray⟩] rfl rfl (cell_one_new _ _ _) (fun x hx => by simp at hx; subst hx; rfl) (by unfold maxLen; omega) (by omega) (by simp; omega) ?_; intro v9 w9 hown9 hgrow9 hnil9; obtain ⟨a9, c9, rfl⟩ := own_slice hown9; have HF9 : Hid (Frm (fun k => k = b) Ws w9) := (HF8.out.trans (Frm.of_ext ((Ext.refl W8).alloc _))).grown hgrow9 (fun k hk => .inr (own_blk30 hown8 hk)); have hF89 : Frm (fun k => (Value.slice ao j cv).ownBlock = some k) W8 w9 := (Frm.of_ext ((Ext.refl W8).alloc _)).trans (grown_frm30 hgrow9); have hnb : ¬ (Value.slice ao j cv).ownBlock = some b := fun e => by { have := own_blk30 hown8 e; omega }; have b39 := (hF89.cel hb8 hnb 3).trans b38; have HCo9 : Hid (∀ o, o ≠ 3 → w9.cell? ⟨b, o, none⟩ = Ws.cell? ⟨b, o, none⟩) := fun o ho => (hF89.cel hb8 hnb o).trans (HCo8.out o ho); have f39 : w9.frozen? ⟨b, 3, none⟩ = false := (hF89.frz hb8 hnb 3).trans f38; have hb9 := hF89.lt hb8; have Hown9 := Lib.hid hown9)
      have hFs : Frm (fun k => k = b) w9 (w9.setCell ⟨b, 3, none⟩ (.slice a9 (j + 1) c9)) := (Frm.refl (fun k => k = b) w9).setCell (p := ⟨b, 3, none⟩) (.inl rfl) _
      go_roundw
      case rel => exact ⟨j + 1, a9, c9, hlt, by go_num, World.cell?_setCell_same _ _ _ b39, (World.frozen?_setCell _ _ _ _).trans f39, by rw [Htk.out, sv_app]; exact own_frmS Hown9.out hFs (fun k q e => by have := own_blk30 Hown9.out q; omega), HF9.out.trans hFs, (fun o ho => (World.cell?_setCell_other _ _ _ _ (by simp; try exact fun e => ho e.symm)).trans (HCo9.out o ho))⟩
      case measure => simp [intOf]; omega
    · obtain rfl : j = r.D.da.length := by omega
      have hown := Hown.out
      rw [List.take_length] at hown
      have Hrw3 : Hid (RwS (r.D.da.map dayD) ao cv wr) := by
        refine RwS.own (b := Ws.heap.size) ?_
        rw [List.length_map]
        exact hown
      have hrows : ∀ i, i < 8 → ∃ (A : Option Addr) (C : Nat), wr.cell? ⟨b, i, none⟩ = some (.slice A (wdsD r.D i).length C) ∧ RwS (wdsD r.D i) A C wr := fun i hi => by
        by_cases h3 : i = 3
        · subst h3
          refine ⟨ao, cv, ?_, Hrw3.out⟩
          rw [b3]
          show _ = some (Value.slice ao (r.D.da.map dayD).length cv)
          rw [List.length_map]
        · obtain ⟨h1, h2⟩ := Hbc.out i hi h3
          exact ⟨Aw i, Cw i, (HCo.out i h3).trans h1, h2.frm HF.out ⟨_, _, _, (Hbc.out 0 (by decide) (by decide)).1⟩⟩
      have HRows := Lib.hid hrows
      have HXf : Hid (Ext w wr) := Frm.far (HE0.out.trans HXs.out) HF.out (fun k hk e => by have h1 := HE0.out.size; have h2 := HX5.out.size; omega)
      have HBf := HB.out.ext HXs.out
      obtain ⟨-, -, k2, k3, -, -, -, -, -, -, -, -, -, k13⟩ := HBf.all
      have k2 := (HF.out.cel hBs (by have := HBb.out; omega) 2).trans k2
      have k3 := (HF.out.cel hBs (by have := HBb.out; omega) 3).trans k3
      have k13 := (HF.out.cel hBs (by have := HBb.out; omega) 13).trans k13
      have hHr : RdS hdW Hh 0 wr := ⟨HF.out.lt hHs, fun i hi => (HF.out.cel hHs (by have := HBb.out; omega) _).trans (HHs.out.2 i hi)⟩
      have HHr := Lib.hid hHr
      obtain ⟨WL, hWL⟩ : ∃ WL, WL = wr := ⟨_, rfl⟩
      rw [← hWL] at HRows HXf k2 k3 k13 HHr hbw hBw g8 ⊢
      clear hWL hown hrows HBf hHr Hrw3 b3 f3 Hown HF HCo wr
      go_wp2_with fail
      clear g8
      go_loopw [5, 12] (fun s i wr => ∃ j : Nat, j ≤ 8 ∧ i = .int .i64 (j : Int) ∧ s = .string ⟨(preD r.D j).toArray⟩ ∧ Ext WL wr) (fun _ i _ => 8 - (intOf i).toNat)
      case atStart => exact ⟨0, by omega, rfl, by rw [HS2.out], Ext.refl _⟩
      case round =>
        obtain ⟨i, hi, rfl, rfl, hE⟩ := hrel
        have hPl := HPl.out i hi
        obtain ⟨S, hS⟩ : ∃ S, S = preD r.D i := ⟨_, rfl⟩
        rw [← hS] at hPl ⊢
        have HSe := Lib.hid hS
        have HE := Lib.hid hE
        have hbr := hE.lt hbw
        have hBl := hE.lt hBw
        clear hS
        by_cases hi8 : i < 8
        · obtain ⟨Ai, Ci, hc0, hrw⟩ := HRows.out i hi8
          have y0 := (hE.cells b i hbw).trans hc0
          have hPn := HPl.out (i + 1) (by omega)
          obtain ⟨S3, hS3⟩ : ∃ S3, S3 = preD r.D (i + 1) := ⟨_, rfl⟩
          rw [← hS3] at hPn
          have HS3 := Lib.hid hS3
          obtain ⟨n, hn⟩ : ∃ n, n = (wdsD r.D i).length := ⟨_, rfl⟩
          rw [← hn] at y0
          have Hn := Lib.hid hn
          have hn60 : n ≤ 60 := by rw [hn]; exact HWn.out i
          clear hS3 hc0 hn
          by_cases hz : n = 0
          · have he : S3 = S := by rw [HS3.out, HSe.out]; exact preD_no (List.length_eq_zero_iff.1 (by rw [← Hn.out, hz]))
            have He := Lib.hid he
            rw [hz] at y0
            clear he hz hrw hE
            go_wp2_with fail
            go_roundw
            case rel => exact ⟨i + 1, by omega, by go_num, by rw [← HS3.out, He.out], HE.out⟩
            case measure => simp [intOf]; omega
          · have tn : decide ((0 : Int) < (n : Int)) = true := decide_eq_true (by omega)
            have tn0 : decide (0 < n) = true := decide_eq_true (by omega)
            have hne : wdsD r.D i ≠ [] := fun e => hz (by rw [Hn.out, e]; rfl)
            obtain ⟨g, hg, hRg⟩ : ∃ g, Ai = some ⟨g, 0, none⟩ ∧ RdS (wdsD r.D i) g 0 WL := by
              rcases hrw.1 with h | h
              · exact absurd h hne
              · exact h
            subst hg
            have hCi : n ≤ Ci := by rw [Hn.out]; exact hrw.2
            obtain ⟨X, hX⟩ : ∃ X, X = wordsT (wdsD r.D i) := ⟨_, rfl⟩
            have HLs : Hid (∀ W, Ext wr W → Calls Tryz.prog 51 #[.slice (some ⟨g, 0, none⟩) n Ci] W fun e w' => e = .returned (.string ⟨X.toArray⟩) ∧ Ext W w') := fun W hW => by
              have h := rlist_c (wdsD r.D i) g 0 Ci X W ((hRg.ext hE).ext hW) (by rw [← Hn.out]; exact hCi) (by rw [← Hn.out]; omega) (HWl.out i) hX.symm
              rw [← Hn.out] at h
              exact h.mono fun e w' ⟨a, c⟩ => ⟨a, by rw [← c]; exact Ext.refl _⟩
            obtain ⟨Hd, hHd⟩ : ∃ Hd, hdW.getD i [] = Hd := ⟨_, rfl⟩
            have z0 := rdS_get (HHr.out.ext hE) (show i < hdW.length from hi8) hHd
            have hHw := (HHr.out.ext hE).1
            obtain ⟨T1, hT1⟩ : ∃ T1, T1 = S ++ [44, 32] := ⟨_, rfl⟩
            obtain ⟨T2, hT2⟩ : ∃ T2, T2 = T1 ++ Hd := ⟨_, rfl⟩
            have hc3 : T2 ++ X = S3 := by
              rw [HS3.out, preD_yes hne, ← HSe.out, hHd, ← hX, hT2, hT1]
              simp [sCom]
            have hl3 : S3.length ≤ 1000000000000 := by omega
            have hlen := congrArg List.length hc3
            rw [List.length_append] at hlen
            have hl2 : T2.length ≤ 1000000000000 := by omega
            have hlen2 := congrArg List.length hT2
            rw [List.length_append] at hlen2
            have hl1 : T1.length ≤ 1000000000000 := by omega
            have hc1 : S ++ [44, 32] = T1 := hT1.symm
            have hc2 : T1 ++ Hd = T2 := hT2.symm
            have hbw := hbr
            clear hlen hlen2 hT1 hT2 hX hne hrw hRg hE hz
            go_upto_region 27 with fail
            refine wp_region_grow [136, 137, 138, 139, 140, 141, 142, 143, 144, 145, 146, 147, 148] [fun x _ => x = .string ⟨S.toArray⟩, fun x _ => x = .string ⟨T1.toArray⟩, fun x _ => x = .slice (some ⟨Hh, 0, none⟩) 8 8, fun x _ => x = .int .i64 (i : Int), fun x _ => x = .pointer (some ⟨Hh, i, none⟩), fun x _ => x = .string ⟨Hd.toArray⟩, fun x _ => x = .string ⟨T2.toArray⟩, fun x _ => x = .slice (some ⟨b, 0, none⟩) 8 8, fun x _ => x = .int .i64 (i : Int), fun x _ => x = .pointer (some ⟨b, i, none⟩), fun x _ => x = .slice (some ⟨g, 0, none⟩) n Ci, fun x _ => x = .string ⟨X.toArray⟩, fun x _ => x = .string ⟨S3.toArray⟩] 1 (by kernel_rfl) (by kernel_rfl) (by kernel_rfl) (by kernel_rfl) ?_ ?_ ?_
            · intro Rl hRl
              simp only [List.mem_cons, List.not_mem_nil, or_false] at hRl
              rcases hRl with rfl | rfl | rfl | rfl | rfl | rfl | rfl | rfl | rfl | rfl | rfl | rfl | rfl
              all_goals first
                | exact fun _ _ _ h _ => h
            · refine ⟨?_, ?_, ?_, ?_, ?_, ?_, ?_, ?_, ?_, ?_, ?_, ?_, ?_, trivial⟩
              all_goals intro a w hE hF hD K hK
              · exact gs_val rfl (yr_move rfl ((hF 5 (fr_of rfl)).trans rfl)) (hK _ _ rfl (Ext.refl _))
              · have u136 : a.eval (.tmp 136) = .string ⟨S.toArray⟩ := hD 0 (by kernel_rfl)
                exact gs_val rfl (yr_addt rfl u136 rfl hl1 hc1) (hK _ _ rfl (Ext.refl _))
              · exact gs_val rfl (yr_move rfl ((hF 8 (fr_of rfl)).trans rfl)) (hK _ _ rfl (Ext.refl _))
              · exact gs_val rfl (yr_move rfl ((hF 12 (fr_of rfl)).trans rfl)) (hK _ _ rfl (Ext.refl _))
              · have u138 : a.eval (.tmp 138) = .slice (some ⟨Hh, 0, none⟩) 8 8 := hD 2 (by kernel_rfl)
                have u139 : a.eval (.tmp 139) = .int .i64 (i : Int) := hD 3 (by kernel_rfl)
                exact gs_val rfl (yr_idxa rfl u138 u139 (ix_s Hh 8 8 i w hi8)) (hK _ _ rfl (Ext.refl _))
              · have u140 : a.eval (.tmp 140) = .pointer (some ⟨Hh, i, none⟩) := hD 4 (by kernel_rfl)
                exact gs_val rfl (yr_load rfl u140 (ld_st _ _ _ ((hE.cells Hh i hHw).trans z0))) (hK _ _ rfl (Ext.refl _))
              · have u137 : a.eval (.tmp 137) = .string ⟨T1.toArray⟩ := hD 1 (by kernel_rfl)
                have u141 : a.eval (.tmp 141) = .string ⟨Hd.toArray⟩ := hD 5 (by kernel_rfl)
                exact gs_val rfl (yr_addt rfl u137 u141 hl2 hc2) (hK _ _ rfl (Ext.refl _))
              · exact gs_val rfl (yr_move rfl ((hF 9 (fr_of rfl)).trans rfl)) (hK _ _ rfl (Ext.refl _))
              · exact gs_val rfl (yr_move rfl ((hF 12 (fr_of rfl)).trans rfl)) (hK _ _ rfl (Ext.refl _))
              · have u143 : a.eval (.tmp 143) = .slice (some ⟨b, 0, none⟩) 8 8 := hD 7 (by kernel_rfl)
                have u144 : a.eval (.tmp 144) = .int .i64 (i : Int) := hD 8 (by kernel_rfl)
                exact gs_val rfl (yr_idxa rfl u143 u144 (ix_ls b i w hi8)) (hK _ _ rfl (Ext.refl _))
              · have u145 : a.eval (.tmp 145) = .pointer (some ⟨b, i, none⟩) := hD 9 (by kernel_rfl)
                exact gs_val rfl (yr_load rfl u145 (ld_sl30 _ _ _ ((hE.cells b i hbw).trans y0))) (hK _ _ rfl (Ext.refl _))
              · have u146 : a.eval (.tmp 146) = .slice (some ⟨g, 0, none⟩) n Ci := hD 10 (by kernel_rfl)
                have q0 : a.eval (.tmp 146) = .slice (some ⟨g, 0, none⟩) n Ci := u146
                exact gs_call rfl (yr_call rfl rfl (show (#[Operand.tmp 146] : Array Operand).map a.eval = #[.slice (some ⟨g, 0, none⟩) n Ci] by simp only [List.map_toArray, List.map_cons, List.map_nil, q0] <;> rfl) (by kernel_rfl)) ((HLs.out w hE).mono fun e w' ⟨h1, h2⟩ => ⟨_, h1, rfl, h2⟩) hK
              · have u142 : a.eval (.tmp 142) = .string ⟨T2.toArray⟩ := hD 6 (by kernel_rfl)
                have u147 : a.eval (.tmp 147) = .string ⟨X.toArray⟩ := hD 11 (by kernel_rfl)
                exact gs_val rfl (yr_addt rfl u142 u147 hl3 hc3) (hK _ _ rfl (Ext.refl _))
            intro vals wz hEz hRz
            obtain ⟨-, -, -, -, -, -, -, -, -, -, -, -, h12, -⟩ := hRz
            have e148 : vals 12 = .string ⟨S3.toArray⟩ := h12
            simp only [putF, Act.put, List.length_cons, List.length_nil, List.getD_cons_zero, List.getD_cons_succ, List.setIfInBounds_toArray, List.set_cons_zero, List.set_cons_succ, Nat.reduceAdd, e148]
            clear e148
            refine wpAny_one (i := 13) (o := ⟨some 5, .assign (.tmp 148), _, _, _, _⟩) (by kernel_rfl) rfl (by rfl) (by exact yr_assign rfl rfl) ?_
            refine wpAny_done (by kernel_rfl) ?_ _
            simp only [Act.put, List.setIfInBounds_toArray, List.set_cons_zero, List.set_cons_succ]
            go_wp2_with fail
            go_roundw
            case rel => exact ⟨i + 1, by omega, by go_num, by rw [← HS3.out]; rfl, HE.out.trans hEz⟩
            case measure => simp [intOf]; omega
        · obtain rfl : i = 8 := by omega
          have k2 := (hE.cells B 2 hBw).trans k2
          have k3 := (hE.cells B 3 hBw).trans k3
          have k13 := (hE.cells B 13 hBw).trans k13
          have HXg := Lib.hid (HXf.out.trans hE)
          obtain ⟨A1, hA1⟩ : ∃ A1, A1 = (if r.D.ct = 0 then preD r.D 8 else preD r.D 8 ++ (sCom ++ (decZ r.D.ct ++ [32, 116, 105, 109, 101, 115]))) := ⟨_, rfl⟩
          obtain ⟨B1, hB1⟩ : ∃ B1, B1 = (if r.D.un = 0 then A1 else A1 ++ (sCom ++ ([117, 110, 116, 105, 108, 32] ++ momT r.D.un))) := ⟨_, rfl⟩
          have hFin : finD momT r.D = (if r.D.ws = 1 then B1 else B1 ++ (sCom ++ ([119, 101, 101, 107, 115, 32, 98, 101, 103, 105, 110, 32, 111, 110, 32] ++ getW wdW r.D.ws))) := by rw [hB1, hA1]; rfl
          have hB1l : B1.length ≤ 70000 := by
            refine Nat.le_trans ?_ HFl.out
            rw [hFin]
            split
            · exact Nat.le_refl _
            · rw [List.length_append]; omega
          have hA1l : A1.length ≤ 70000 := by
            refine Nat.le_trans ?_ hB1l
            rw [hB1]
            split
            · exact Nat.le_refl _
            · rw [List.length_append]; omega
          have HA1 := Lib.hid hA1
          have HB1 := Lib.hid hB1
          have HFin := Lib.hid hFin
          obtain ⟨V8, hV8⟩ : ∃ V8, V8 = wr := ⟨_, rfl⟩
          rw [← hV8] at k2 k3 k13 HXg hBl ⊢
          clear hV8 hA1 hB1 hFin hE HE hbr wr
          go_upto_if 151 with fail
          go_cut [5] from 149 to 158 (fun x wx => x = .string ⟨A1.toArray⟩ ∧ Ext V8 wx)
          case first =>
            by_cases hq : r.D.ct = 0
            · have t1 : (r.D.ct == 0) = true := by simpa using hq
              have t2 : (r.D.ct != 0) = false := by simpa using hq
              have he : A1 = S := by rw [HA1.out, if_pos hq, HSe.out]
              have He := Lib.hid he
              clear he hq
              go_wp2_with fail
              go_meet
              exact ⟨by rw [He.out], Ext.refl _⟩
            · have t1 : (r.D.ct == 0) = false := by simpa using hq
              have t2 : (r.D.ct != 0) = true := by simpa using hq
              obtain ⟨Y, hY⟩ : ∃ Y, Y = decZ r.D.ct := ⟨_, rfl⟩
              have HD := Lib.hid (fun W => rdec_c r.D.ct Y W (by omega) (by omega) hY.symm)
              have hYl : Y.length ≤ 20 := by rw [hY]; exact decZ_20 (by unfold i64; omega)
              obtain ⟨T1, hT1⟩ : ∃ T1, T1 = S ++ [44, 32] := ⟨_, rfl⟩
              obtain ⟨T2, hT2⟩ : ∃ T2, T2 = T1 ++ Y := ⟨_, rfl⟩
              have hc1 : (⟨S.toArray⟩ : ByteArray) ++ ⟨#[44, 32]⟩ = ⟨T1.toArray⟩ := by rw [hT1]; exact catb _ _
              have hc2 : (⟨T1.toArray⟩ : ByteArray) ++ ⟨Y.toArray⟩ = ⟨T2.toArray⟩ := by rw [hT2]; exact catb _ _
              have hc3 : (⟨T2.toArray⟩ : ByteArray) ++ ⟨#[32, 116, 105, 109, 101, 115]⟩ = ⟨A1.toArray⟩ := by
                rw [show (⟨#[32, 116, 105, 109, 101, 115]⟩ : ByteArray) = ⟨[32, 116, 105, 109, 101, 115].toArray⟩ from rfl, catb, HA1.out, if_neg hq, hT2, hT1, HSe.out, hY]
                simp [sCom]
              have hl1 : T1.length ≤ 70010 := by rw [hT1, List.length_append]; simp; omega
              have hl2 : T2.length ≤ 70100 := by rw [hT2, List.length_append]; omega
              clear hq hY hT1 hT2
              go_wp2_with (go_at_call 37; (with_reducible refine (HD.out _).mono ?_); rintro e w2 ⟨rfl, hE2⟩)
              go_meet
              exact ⟨rfl, hE2⟩
          case rest =>
          obtain ⟨rfl, hE9⟩ := hcut
          obtain ⟨V9, hV9⟩ : ∃ V9, V9 = wc := ⟨_, rfl⟩
          subst hV9
          have k3 := (hE9.cells B 3 hBl).trans k3
          have k13 := (hE9.cells B 13 hBl).trans k13
          have hBl := hE9.lt hBl
          have HXg := Lib.hid (HXg.out.trans hE9)
          clear hE9 k2
          go_upto_if 161 with fail
          go_cut [5] from 159 to 167 (fun x wx => x = .string ⟨B1.toArray⟩ ∧ Ext V9 wx)
          case first =>
            by_cases hq : r.D.un = 0
            · have t1 : (r.D.un == 0) = true := by simpa using hq
              have t2 : (r.D.un != 0) = false := by simpa using hq
              have he : B1 = A1 := by rw [HB1.out, if_pos hq]
              have He := Lib.hid he
              clear he hq
              go_wp2_with fail
              go_meet
              exact ⟨by rw [He.out], Ext.refl _⟩
            · have t1 : (r.D.un == 0) = false := by simpa using hq
              have t2 : (r.D.un != 0) = true := by simpa using hq
              have hlo : locZ r.D.un = true := by rcases HUn.out with h | h; exact absurd h hq; exact h.1
              obtain ⟨Y, hY⟩ : ∃ Y, Y = momT r.D.un := ⟨_, rfl⟩
              have HD := Lib.hid (fun W => rumoment_c r.D.un Y W hlo hY.symm)
              have hYl : Y.length ≤ 20 := by rw [hY, mom_ok.len _ hlo]; omega
              obtain ⟨T1, hT1⟩ : ∃ T1, T1 = A1 ++ [44, 32, 117, 110, 116, 105, 108, 32] := ⟨_, rfl⟩
              have hc1 : (⟨A1.toArray⟩ : ByteArray) ++ ⟨#[44, 32, 117, 110, 116, 105, 108, 32]⟩ = ⟨T1.toArray⟩ := by rw [hT1]; exact catb _ _
              have hc2 : (⟨T1.toArray⟩ : ByteArray) ++ ⟨Y.toArray⟩ = ⟨B1.toArray⟩ := by
                rw [catb, HB1.out, if_neg hq, hT1, hY]
                simp [sCom]
              have hl1 : T1.length ≤ 70010 := by rw [hT1, List.length_append]; simp; omega
              clear hq hY hT1 hlo
              go_wp2_with (go_at_call 38; (with_reducible refine (HD.out _).mono ?_); rintro e w2 ⟨rfl, hE2⟩)
              go_meet
              exact ⟨rfl, hE2⟩
          case rest =>
          obtain ⟨rfl, hE10⟩ := hcut
          obtain ⟨V10, hV10⟩ : ∃ V10, V10 = wc := ⟨_, rfl⟩
          subst hV10
          have g13 := (hE10.cells B 13 hBl).trans k13
          have hBl := hE10.lt hBl
          have HXg := Lib.hid (HXg.out.trans hE10)
          clear hE10 k3 k13
          by_cases hq : r.D.ws = 1
          · have t1 : (r.D.ws == 1) = true := by simpa using hq
            have t2 : (r.D.ws != 1) = false := by simpa using hq
            have he : B1 = desZ momT r.D := by rw [desZ_eq, HFin.out, if_pos hq]
            have He := Lib.hid he
            clear he hq
            go_wp2_with fail
            go_ret2
            exact ⟨by rw [He.out]; rfl, HXg.out⟩
          · have t1 : (r.D.ws == 1) = false := by simpa using hq
            have t2 : (r.D.ws != 1) = true := by simpa using hq
            obtain ⟨Nm, hNm⟩ : ∃ Nm, Nm = getW wdW r.D.ws := ⟨_, rfl⟩
            have HGt : Hid (∀ H W, RdS wdW H 0 W → Calls Tryz.prog 49 #[.slice (some ⟨H, 0, none⟩) 7 7, .int .i64 r.D.ws] W fun e w' => e = .returned (.string ⟨Nm.toArray⟩) ∧ W = w') := fun H W hH => rget_c wdW r.D.ws H Nm W hH (by decide) (by unfold i64; omega) hNm.symm
            obtain ⟨S, hSB⟩ : ∃ S, S = B1 := ⟨_, rfl⟩
            obtain ⟨T1, hT1⟩ : ∃ T1, T1 = S ++ [44, 32, 119, 101, 101, 107, 115, 32, 98, 101, 103, 105, 110, 32, 111, 110, 32] := ⟨_, rfl⟩
            obtain ⟨S3, hS3⟩ : ∃ S3, S3 = desZ momT r.D := ⟨_, rfl⟩
            have hc3 : T1 ++ Nm = S3 := by
              rw [hS3, desZ_eq, HFin.out, if_neg hq, hT1, hNm, hSB]
              simp [sCom]
            have hS3l : S3.length ≤ 70000 := by rw [hS3, desZ_eq]; exact HFl.out
            have hlen := congrArg List.length hc3
            rw [List.length_append] at hlen
            have hl3 : S3.length ≤ 1000000000000 := by omega
            have hl1 : T1.length ≤ 1000000000000 := by omega
            have hc1 : S ++ [44, 32, 119, 101, 101, 107, 115, 32, 98, 101, 103, 105, 110, 32, 111, 110, 32] = T1 := hT1.symm
            have HS3 := Lib.hid hS3
            rw [← hSB]
            clear hlen hT1 hS3 hNm hq hSB
            go_upto_region 33 with fail
            refine wp_region_grow [171, 172, 173, 174, 175, 176, 177] [fun x _ => x = .string ⟨S.toArray⟩, fun x _ => x = .string ⟨T1.toArray⟩, SlS wdW 7, fun x _ => x = .pointer (some ⟨B, 13, none⟩), fun x _ => x = .int .i64 r.D.ws, fun x _ => x = .string ⟨Nm.toArray⟩, fun x _ => x = .string ⟨S3.toArray⟩] 1 (by kernel_rfl) (by kernel_rfl) (by kernel_rfl) (by kernel_rfl) ?_ ?_ ?_
            · intro Rl hRl
              simp only [List.mem_cons, List.not_mem_nil, or_false] at hRl
              rcases hRl with rfl | rfl | rfl | rfl | rfl | rfl | rfl
              all_goals first
                | exact fun _ _ _ h _ => h
                | exact fun _ _ _ h hE => SlS.ext h hE
            · refine ⟨?_, ?_, ?_, ?_, ?_, ?_, ?_, trivial⟩
              all_goals intro a w hE hF hD K hK
              · exact gs_val rfl (yr_move rfl ((hF 5 (fr_of rfl)).trans rfl)) (hK _ _ rfl (Ext.refl _))
              · have u171 : a.eval (.tmp 171) = .string ⟨S.toArray⟩ := hD 0 (by kernel_rfl)
                exact gs_val rfl (yr_addt rfl u171 rfl hl1 hc1) (hK _ _ rfl (Ext.refl _))
              · exact gs_call rfl (yr_call rfl rfl (show (#[] : Array Operand).map a.eval = #[] by simp only [List.map_toArray, List.map_cons, List.map_nil] <;> rfl) (by kernel_rfl)) ((rwks_c w).mono fun e w' ⟨⟨H, h1, h2⟩, h3⟩ => ⟨_, h1, ⟨H, rfl, h2⟩, h3⟩) hK
              · exact gs_val rfl (yr_field rfl ((hF 1 (fr_of rfl)).trans rfl) (by go_simp)) (hK _ _ rfl (Ext.refl _))
              · have u174 : a.eval (.tmp 174) = .pointer (some ⟨B, 13, none⟩) := hD 3 (by kernel_rfl)
                exact gs_val rfl (yr_load rfl u174 (ld_n _ _ _ ((hE.cells B 13 hBl).trans g13))) (hK _ _ rfl (Ext.refl _))
              · have u173 : (SlS wdW 7) (a.eval (.tmp 173)) w := hD 2 (by kernel_rfl)
                have u175 : a.eval (.tmp 175) = .int .i64 r.D.ws := hD 4 (by kernel_rfl)
                obtain ⟨H, q173, hH⟩ := u173
                exact gs_call rfl (yr_call rfl rfl (show (#[Operand.tmp 173, Operand.tmp 175] : Array Operand).map a.eval = #[.slice (some ⟨H, 0, none⟩) 7 7, .int .i64 r.D.ws] by simp only [List.map_toArray, List.map_cons, List.map_nil, q173, u175] <;> rfl) (by kernel_rfl)) ((HGt.out H w hH).mono fun e w' ⟨h1, h2⟩ => ⟨_, h1, rfl, by rw [← h2]; exact Ext.refl _⟩) hK
              · have u172 : a.eval (.tmp 172) = .string ⟨T1.toArray⟩ := hD 1 (by kernel_rfl)
                have u176 : a.eval (.tmp 176) = .string ⟨Nm.toArray⟩ := hD 5 (by kernel_rfl)
                exact gs_val rfl (yr_addt rfl u172 u176 hl3 hc3) (hK _ _ rfl (Ext.refl _))
            intro vals wz hEz hRz
            obtain ⟨-, -, -, -, -, -, h6, -⟩ := hRz
            have e177 : vals 6 = .string ⟨S3.toArray⟩ := h6
            simp only [putF, Act.put, List.length_cons, List.length_nil, List.getD_cons_zero, List.getD_cons_succ, List.setIfInBounds_toArray, List.set_cons_zero, List.set_cons_succ, Nat.reduceAdd, e177]
            clear e177
            refine wpAny_one (i := 7) (o := ⟨some 5, .assign (.tmp 177), _, _, _, _⟩) (by kernel_rfl) rfl (by rfl) (by exact yr_assign rfl rfl) ?_
            refine wpAny_done (by kernel_rfl) ?_ _
            simp only [Act.put, List.setIfInBounds_toArray, List.set_cons_zero, List.set_cons_succ]
            go_wp2_with fail
            go_ret2
            exact ⟨by rw [← HS3.out]; rfl, HXg.out.trans hEz⟩
end Go.Proofs.YtgndogpgfgliaaaGreatDoor
