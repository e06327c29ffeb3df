/- Locales: the walk of Parse, where a locale is read. -/
import Derived.Test.YtnhdmnhfllecgaaGreatDoorQ39
namespace Go.Proofs.YtnhdmnhfllecgaaGreatDoor
set_option linter.unusedVariables false
set_option linter.unusedSimpArgs false
open Go.RowKit

set_option maxRecDepth 100000 in
set_option maxHeartbeats 20000000 in
theorem parse_ok (s : List UInt8) (w : World) (hm : Lm w) (hs : s.length ≤ 50000) (hl : ∀ a ∈ spl 10 s, a.length ≤ 6000) (D0 : LocD) (hPP : parL s = .ok D0) :
    Calls Tryz.prog 11 #[.string ⟨s.toArray⟩] w fun e w' => parOut s e w' ∧ Ext w w' := by
  have Hm := Lib.hid hm
  have Hl := Lib.hid hl
  have HPP := Lib.hid hPP
  clear hm hl hPP
  go_enter Tryz.func11, Tryz.ntmps11
  go_upto_region 1 with fail
  rw [zlit_eq]
  have hE0 : Ext w ((w.alloc (.cells zeroV 30)).alloc (.cells #[.int .i64 0, .int .i64 0] 39)) := ((Ext.refl w).alloc _).alloc _
  have hz0 : (w.alloc (.cells zeroV 30)).heap.size = w.heap.size + 1 := by simp
  have hthL : ((w.alloc (.cells zeroV 30)).alloc (.cells #[.int .i64 0, .int .i64 0] 39)).there w.heap.size 0 zeroV.size :=
    there_frm (thr_new w zeroV 30 _ rfl) (by simp) (S := fun _ => False) (Frm.of_ext ((Ext.refl _).alloc _)) id
  have hthP : ((w.alloc (.cells zeroV 30)).alloc (.cells #[.int .i64 0, .int .i64 0] 39)).there (w.heap.size + 1) 0 2 := by
    have := thr_new (w.alloc (.cells zeroV 30)) #[.int .i64 0, .int .i64 0] 39 2 rfl
    rwa [hz0] at this
  have hzW : ((w.alloc (.cells zeroV 30)).alloc (.cells #[.int .i64 0, .int .i64 0] 39)).heap.size = w.heap.size + 2 := by simp
  generalize (w.alloc (.cells zeroV 30)).alloc (.cells #[.int .i64 0, .int .i64 0] 39) = W at hE0 hthL hthP hzW ⊢
  obtain ⟨RL, hRL⟩ : ∃ R, R = w.heap.size := ⟨_, rfl⟩
  obtain ⟨RP, hRP⟩ : ∃ R, R = w.heap.size + 1 := ⟨_, rfl⟩
  rw [← hRL] at hthL
  rw [← hRP] at hthP
  rw [← hRP, ← hRL]
  have hLP : RL ≠ RP := by omega
  have hRLl : RL < W.heap.size := by omega
  have hRPl : RP < W.heap.size := by omega
  have hwL : w.heap.size ≤ RL := by omega
  have hwP : w.heap.size ≤ RP := by omega
  have HE0 := Lib.hid hE0
  have HmW := Lib.hid (Hm.out.ext hE0)
  have HthL := Lib.hid hthL
  have HthP := Lib.hid hthP
  clear hE0 hz0 hzW hRL hRP hthL hthP
  go_upto_region 5 with fail
  rw [zlit_eq]
  have hS0 := Lib.hid (par_start s W hs Hl.out)
  have hEW : Ext W ((W.alloc (.cells zeroV 30)).alloc (.cells #[.string ⟨s.toArray⟩, .int .i64 0, .int .i64 0, .int .i64 0, .int .i64 0] 75)) := ((Ext.refl W).alloc _).alloc _
  generalize (W.alloc (.cells zeroV 30)).alloc (.cells #[.string ⟨s.toArray⟩, .int .i64 0, .int .i64 0, .int .i64 0, .int .i64 0] 75) = W1 at hS0 hEW ⊢
  obtain ⟨B, hB⟩ : ∃ B, B = W.heap.size := ⟨_, rfl⟩
  obtain ⟨X, hX⟩ : ∃ X, X = W.heap.size + 1 := ⟨_, rfl⟩
  have hbB : W.heap.size ≤ B := by omega
  have hbX : W.heap.size ≤ X := by omega
  have hBL : B ≠ RL ∧ B ≠ RP ∧ X ≠ RL ∧ X ≠ RP := by omega
  rw [← hX] at hS0
  have HS0 : Hid (PIn s B B X 0 W1) := by rw [Hid, hB]; rw [hB] at *; exact hS0.out
  rw [← hX, ← hB]
  have HEW := Lib.hid hEW
  clear hS0 hEW hB hX
  go_upto_region 15 with (first
    | (go_at_call 41; (with_reducible refine (ps_0 s B B X W _ hbX hbB HmW.out HEW.out HS0.out).mono ?_); rintro e v1 ⟨rfl, hE, hS⟩; have HE1 := Lib.hid hE; have HS1 := Lib.hid hS; clear hE hS)
    | (go_at_call 43; (with_reducible refine (ps_1 s B B X W _ hbX hbB HmW.out HE1.out HS1.out).mono ?_); rintro e v2 ⟨rfl, hE, hS⟩; have HE2 := Lib.hid hE; have HS2 := Lib.hid hS; clear hE hS)
    | (go_at_call 43; (with_reducible refine (ps_2 s B B X W _ hbX hbB HmW.out HE2.out HS2.out).mono ?_); rintro e v3 ⟨rfl, hE, hS⟩; have HE3 := Lib.hid hE; have HS3 := Lib.hid hS; clear hE hS)
    | (go_at_call 43; (with_reducible refine (ps_3 s B B X W _ hbX hbB HmW.out HE3.out HS3.out).mono ?_); rintro e v4 ⟨rfl, hE, hS⟩; have HE4 := Lib.hid hE; have HS4 := Lib.hid hS; clear hE hS)
    | (go_at_call 43; (with_reducible refine (ps_4 s B B X W _ hbX hbB HmW.out HE4.out HS4.out).mono ?_); rintro e v5 ⟨rfl, hE, hS⟩; have HE5 := Lib.hid hE; have HS5 := Lib.hid hS; clear hE hS)
    | (go_at_call 43; (with_reducible refine (ps_5 s B B X W _ hbX hbB HmW.out HE5.out HS5.out).mono ?_); rintro e v6 ⟨rfl, hE, hS⟩; have HE6 := Lib.hid hE; have HS6 := Lib.hid hS; clear hE hS)
    | (go_at_call 45; (with_reducible refine (category_c _ _).mono ?_); rintro e v9 ⟨rfl, rfl⟩)
    | (go_at_call 44; (with_reducible refine (ps_6 s B B X W _ hbX hbB HmW.out HE6.out HS6.out).mono ?_); rintro e v7 ⟨rfl, hE, hS⟩; have HE7 := Lib.hid hE; have HS7 := Lib.hid hS; clear hE hS)
    | (go_at_call 44; (with_reducible refine (ps_7 s B B X W _ hbX hbB HmW.out HE7.out HS7.out).mono ?_); rintro e v8 ⟨rfl, hE, hS⟩; have HE8 := Lib.hid hE; have HS8 := Lib.hid hS; clear hE hS)
    | (go_at_call 44; (with_reducible refine (ps_8 s B B X W _ hbX hbB HmW.out HE8.out HS8.out).mono ?_); rintro e v9 ⟨rfl, hE, hS⟩; have HE9 := Lib.hid hE; have HS9 := Lib.hid hS; clear hE hS)
    | (go_at_call 41; (with_reducible refine (ps_9 s B B X W _ hbX hbB HmW.out HE9.out HS9.out).mono ?_); rintro e va ⟨rfl, hE, hS⟩; have HEa := Lib.hid hE; have HSa := Lib.hid hS; clear hE hS))
  rcases HSa.out with ⟨rest, hO⟩ | hR
  · obtain ⟨L, D, at_, h1, h2, h3, h4, hx, h6, h7, h8, -⟩ := hO
    by_cases hne : rest = []
    · subst hne
      have hP : parL s = finL D := by rw [h6, runS_tail _ _ _ _ [] (fun x hx => by cases hx), if_pos (by decide), if_pos rfl]
      obtain ⟨sh1, sh2⟩ := h3.sh h4
      have h4 : DSz D 50000 := ⟨h4.nm, h4.pt, h4.N, h4.P, h4.O, h4.F, h4.ok, by have := h4.nP; omega, by have := h4.nO; omega, by have := h4.nU; omega⟩
      clear HSa HS9 HS8 HS7 HS6 HS5 HS4 HS3 HS2 HS1 HS0
      have hRW := And.intro hRLl hRPl
      have hR := h1.lcb.2
      have HV := Lib.hid h1.lcv
      have Hs1 := Lib.hid sh1
      have Hs2 := Lib.hid sh2
      have HLw := Lib.hid h1
      have HDa := Lib.hid h3
      have HDs := Lib.hid h4
      have hval := Lib.hid h3.valid
      have Hmv := Lib.hid (Hm.out.ext (HE0.out.trans HEa.out))
      have k0 := hx.c0
      have k2 := hx.c2
      have hXl := hx.lt
      replace HthL := Lib.hid (there_frm HthL.out hRLl (S := fun _ => False) (Frm.of_ext HEa.out) id)
      replace HthP := Lib.hid (there_frm HthP.out hRPl (S := fun _ => False) (Frm.of_ext HEa.out) id)
      replace hRLl := HEa.out.lt hRLl
      replace hRPl := HEa.out.lt hRPl
      have HP := Lib.hid hP
      have hIL := loc_size h1.ok
      have hI2 : (Tryz.prog.info? 30).map (·.size) = some L.vals.toArray.size := by rw [List.size_toArray]; exact hIL
      have h45 : L.vals.toArray.size = zeroV.size := by rw [List.size_toArray, Loc.len h1.ok]; kernel_rfl
      have HthV : Hid (∀ v, Ext va v → v.there RL 0 L.vals.toArray.size) := fun v hv => by rw [h45]; exact there_frm HthL.out hRLl (S := fun _ => False) (Frm.of_ext hv) id
      have hoc : L.vals.toArray.all (·.oneCell') = true := all_oneCell_toArray (fun v hv => loc_one L v hv)
      clear h1 h2 h3 h4 hx h6 h7 h8 sh1 sh2 hP h45
      rcases Bool.eq_false_or_eq_true (validLB L) with hv | hv
      · have HVl := Lib.hid hv
        clear hv
        go_wp2_with (first
          | (refine load_midg (by rfl) 30 _ rfl B 0 rfl L.vals _ hR Tryz.underlying30 rfl hIL ?_)
          | (go_at_call 9; (with_reducible refine (valid_c L true _ HV.out Hs1.out Hmv.out Hs2.out HVl.out).mono ?_); rintro e vb ⟨rfl, hEb⟩; have HthLb := Lib.hid (there_frm HthL.out hRLl (S := fun _ => False) (Frm.of_ext hEb) id); have HthPb := Lib.hid (there_frm HthP.out hRPl (S := fun _ => False) (Frm.of_ext hEb) id); have hRb := rng_ext hR HLw.out.lt hEb; have hRLb := hEb.lt hRLl; have hRPb := hEb.lt hRPl; have HEb := Lib.hid hEb; clear hEb hR hRLl hRPl)
          | (refine load_midg (by rfl) 30 _ rfl B 0 rfl L.vals _ hRb Tryz.underlying30 rfl hIL ?_)
          | (refine wpList_store_mid (op := ⟨none, .store 30 (.tmp 2) (.tmp 72), _, _, _, _⟩) rfl 30 _ _ rfl RL 0 L.vals.toArray rfl rfl (HthV.out _ HEb.out) hI2 hoc ?_; have hsL := range_set vb RL L.vals hRLb (HthV.out _ HEb.out); have hfL := frm_sets (S := fun k => k = RL) vb RL L.vals 0 rfl; generalize vb.setCells RL 0 L.vals = vc at hsL hfL ⊢)
          | (refine wpList_store_mid (op := ⟨none, .store 39 (.tmp 3) _, _, _, _, _⟩) rfl 39 _ _ rfl RP 0 #[.int .i64 0, .int .i64 0] rfl rfl (there_frm HthPb.out hRPb hfL (fun e => hLP e.symm)) (pos_info _ _) (pos_one _ _) ?_; have hsP := range_set vc RP [.int .i64 0, .int .i64 0] (hfL.lt hRPb) (there_frm HthPb.out hRPb hfL (fun e => hLP e.symm)); have hfP := frm_sets (S := fun k => k = RP) vc RP [.int .i64 0, .int .i64 0] 0 rfl; replace hsL := range_frm hsL hfP (fun e => hLP e); generalize vc.setCells RP 0 [.int .i64 0, .int .i64 0] = vd at hsL hsP hfP ⊢))
        refine bodyPost_ret (v := .tuple #[.agg L.vals.toArray, .agg #[.int .i64 0, .int .i64 0], .int .i64 0]) (results_c3 rfl rfl rfl rfl (run_loadVar_mid vd RL 0 30 L.vals _ hsL.2 Tryz.underlying30 rfl hIL) (run_loadVar_mid vd RP 0 39 [.int .i64 0, .int .i64 0] _ hsP.2 Tryz.underlying39 rfl (by kernel_rfl))) rfl ⟨?_, ?_⟩
        · unfold parOut
          have e1 : finL D = .ok D := by unfold finL; rw [if_pos (by rw [← hval.out]; exact HVl.out)]
          rw [HP.out, e1]
          have hF : Frm (fun k => k = RL ∨ k = RP) vb vd := (hfL.mono (fun k _ e => .inl e)).trans (hfP.mono (fun k _ e => .inr e))
          refine ⟨L, HDa.out, HDs.out, ?_, rfl⟩
          have hLb := HLw.out.ext HEb.out
          exact (hLb.frm hF (by rintro (e | e) <;> omega) (fun i x hx e => by have := (hLb.blk_in i x hx).1; rcases e with e | e <;> omega)).lcv
        · exact ext_frm (ext_frm (HE0.out.trans (HEa.out.trans HEb.out)) hfL (fun k e => by omega)) hfP (fun k e => by omega)
      · exact absurd HP.out (by unfold finL; rw [← hval.out, hv, if_neg (by simp)]; exact fun q => by rw [HPP.out] at q; cases q)
    · have hP : parL s = .er 3 (at_ + 1) := by
        rw [h6]
        rcases split_first 10 rest with q | ⟨a, r, rfl, q⟩
        · rw [runS_tail _ _ _ _ _ q, if_pos (by decide), if_neg hne]
        · rw [runS_line _ _ _ _ _ _ q, if_pos (by decide)]
      exfalso; have q := HPP.out; rw [hP] at q; cases q
  · obtain ⟨rest, ln, ec, al, ac, hx, hd⟩ := hR
    exfalso; have q := (er_out hd).1; rw [HPP.out] at q; cases q
end Go.Proofs.YtnhdmnhfllecgaaGreatDoor
/- Locales: the walk of Parse, where the locale is not valid. -/
namespace Go.Proofs.YtnhdmnhfllecgaaGreatDoor
set_option linter.unusedVariables false
set_option linter.unusedSimpArgs false
open Go.RowKit

set_option maxRecDepth 100000 in
set_option maxHeartbeats 2000000 in
theorem parse_no (s : List UInt8) (w : World) (hm : Lm w) (hs : s.length ≤ 50000) (hl : ∀ a ∈ spl 10 s, a.length ≤ 6000) (hPP : parL s = .er 1 0) :
    Calls Tryz.prog 11 #[.string ⟨s.toArray⟩] w fun e w' => parOut s e w' ∧ Ext w w' := by
  have Hm := Lib.hid hm
  have Hl := Lib.hid hl
  have HPP := Lib.hid hPP
  clear hm hl hPP
  go_enter Tryz.func11, Tryz.ntmps11
  go_upto_region 1 with fail
  rw [zlit_eq]
  have hE0 : Ext w ((w.alloc (.cells zeroV 30)).alloc (.cells #[.int .i64 0, .int .i64 0] 39)) := ((Ext.refl w).alloc _).alloc _
  have hz0 : (w.alloc (.cells zeroV 30)).heap.size = w.heap.size + 1 := by simp
  have hthL : ((w.alloc (.cells zeroV 30)).alloc (.cells #[.int .i64 0, .int .i64 0] 39)).there w.heap.size 0 zeroV.size :=
    there_frm (thr_new w zeroV 30 _ rfl) (by simp) (S := fun _ => False) (Frm.of_ext ((Ext.refl _).alloc _)) id
  have hthP : ((w.alloc (.cells zeroV 30)).alloc (.cells #[.int .i64 0, .int .i64 0] 39)).there (w.heap.size + 1) 0 2 := by
    have := thr_new (w.alloc (.cells zeroV 30)) #[.int .i64 0, .int .i64 0] 39 2 rfl
    rwa [hz0] at this
  have hzW : ((w.alloc (.cells zeroV 30)).alloc (.cells #[.int .i64 0, .int .i64 0] 39)).heap.size = w.heap.size + 2 := by simp
  generalize (w.alloc (.cells zeroV 30)).alloc (.cells #[.int .i64 0, .int .i64 0] 39) = W at hE0 hthL hthP hzW ⊢
  obtain ⟨RL, hRL⟩ : ∃ R, R = w.heap.size := ⟨_, rfl⟩
  obtain ⟨RP, hRP⟩ : ∃ R, R = w.heap.size + 1 := ⟨_, rfl⟩
  rw [← hRL] at hthL
  rw [← hRP] at hthP
  rw [← hRP, ← hRL]
  have hLP : RL ≠ RP := by omega
  have hRLl : RL < W.heap.size := by omega
  have hRPl : RP < W.heap.size := by omega
  have hwL : w.heap.size ≤ RL := by omega
  have hwP : w.heap.size ≤ RP := by omega
  have HE0 := Lib.hid hE0
  have HmW := Lib.hid (Hm.out.ext hE0)
  have HthL := Lib.hid hthL
  have HthP := Lib.hid hthP
  clear hE0 hz0 hzW hRL hRP hthL hthP
  go_upto_region 5 with fail
  rw [zlit_eq]
  have hS0 := Lib.hid (par_start s W hs Hl.out)
  have hEW : Ext W ((W.alloc (.cells zeroV 30)).alloc (.cells #[.string ⟨s.toArray⟩, .int .i64 0, .int .i64 0, .int .i64 0, .int .i64 0] 75)) := ((Ext.refl W).alloc _).alloc _
  generalize (W.alloc (.cells zeroV 30)).alloc (.cells #[.string ⟨s.toArray⟩, .int .i64 0, .int .i64 0, .int .i64 0, .int .i64 0] 75) = W1 at hS0 hEW ⊢
  obtain ⟨B, hB⟩ : ∃ B, B = W.heap.size := ⟨_, rfl⟩
  obtain ⟨X, hX⟩ : ∃ X, X = W.heap.size + 1 := ⟨_, rfl⟩
  have hbB : W.heap.size ≤ B := by omega
  have hbX : W.heap.size ≤ X := by omega
  have hBL : B ≠ RL ∧ B ≠ RP ∧ X ≠ RL ∧ X ≠ RP := by omega
  rw [← hX] at hS0
  have HS0 : Hid (PIn s B B X 0 W1) := by rw [Hid, hB]; rw [hB] at *; exact hS0.out
  rw [← hX, ← hB]
  have HEW := Lib.hid hEW
  clear hS0 hEW hB hX
  go_upto_region 15 with (first
    | (go_at_call 41; (with_reducible refine (ps_0 s B B X W _ hbX hbB HmW.out HEW.out HS0.out).mono ?_); rintro e v1 ⟨rfl, hE, hS⟩; have HE1 := Lib.hid hE; have HS1 := Lib.hid hS; clear hE hS)
    | (go_at_call 43; (with_reducible refine (ps_1 s B B X W _ hbX hbB HmW.out HE1.out HS1.out).mono ?_); rintro e v2 ⟨rfl, hE, hS⟩; have HE2 := Lib.hid hE; have HS2 := Lib.hid hS; clear hE hS)
    | (go_at_call 43; (with_reducible refine (ps_2 s B B X W _ hbX hbB HmW.out HE2.out HS2.out).mono ?_); rintro e v3 ⟨rfl, hE, hS⟩; have HE3 := Lib.hid hE; have HS3 := Lib.hid hS; clear hE hS)
    | (go_at_call 43; (with_reducible refine (ps_3 s B B X W _ hbX hbB HmW.out HE3.out HS3.out).mono ?_); rintro e v4 ⟨rfl, hE, hS⟩; have HE4 := Lib.hid hE; have HS4 := Lib.hid hS; clear hE hS)
    | (go_at_call 43; (with_reducible refine (ps_4 s B B X W _ hbX hbB HmW.out HE4.out HS4.out).mono ?_); rintro e v5 ⟨rfl, hE, hS⟩; have HE5 := Lib.hid hE; have HS5 := Lib.hid hS; clear hE hS)
    | (go_at_call 43; (with_reducible refine (ps_5 s B B X W _ hbX hbB HmW.out HE5.out HS5.out).mono ?_); rintro e v6 ⟨rfl, hE, hS⟩; have HE6 := Lib.hid hE; have HS6 := Lib.hid hS; clear hE hS)
    | (go_at_call 45; (with_reducible refine (category_c _ _).mono ?_); rintro e v9 ⟨rfl, rfl⟩)
    | (go_at_call 44; (with_reducible refine (ps_6 s B B X W _ hbX hbB HmW.out HE6.out HS6.out).mono ?_); rintro e v7 ⟨rfl, hE, hS⟩; have HE7 := Lib.hid hE; have HS7 := Lib.hid hS; clear hE hS)
    | (go_at_call 44; (with_reducible refine (ps_7 s B B X W _ hbX hbB HmW.out HE7.out HS7.out).mono ?_); rintro e v8 ⟨rfl, hE, hS⟩; have HE8 := Lib.hid hE; have HS8 := Lib.hid hS; clear hE hS)
    | (go_at_call 44; (with_reducible refine (ps_8 s B B X W _ hbX hbB HmW.out HE8.out HS8.out).mono ?_); rintro e v9 ⟨rfl, hE, hS⟩; have HE9 := Lib.hid hE; have HS9 := Lib.hid hS; clear hE hS)
    | (go_at_call 41; (with_reducible refine (ps_9 s B B X W _ hbX hbB HmW.out HE9.out HS9.out).mono ?_); rintro e va ⟨rfl, hE, hS⟩; have HEa := Lib.hid hE; have HSa := Lib.hid hS; clear hE hS))
  rcases HSa.out with ⟨rest, hO⟩ | hR
  · obtain ⟨L, D, at_, h1, h2, h3, h4, hx, h6, h7, h8, -⟩ := hO
    by_cases hne : rest = []
    · subst hne
      have hP : parL s = finL D := by rw [h6, runS_tail _ _ _ _ [] (fun x hx => by cases hx), if_pos (by decide), if_pos rfl]
      obtain ⟨sh1, sh2⟩ := h3.sh h4
      have h4 : DSz D 50000 := ⟨h4.nm, h4.pt, h4.N, h4.P, h4.O, h4.F, h4.ok, by have := h4.nP; omega, by have := h4.nO; omega, by have := h4.nU; omega⟩
      clear HSa HS9 HS8 HS7 HS6 HS5 HS4 HS3 HS2 HS1 HS0
      have hRW := And.intro hRLl hRPl
      have hR := h1.lcb.2
      have HV := Lib.hid h1.lcv
      have Hs1 := Lib.hid sh1
      have Hs2 := Lib.hid sh2
      have HLw := Lib.hid h1
      have HDa := Lib.hid h3
      have HDs := Lib.hid h4
      have hval := Lib.hid h3.valid
      have Hmv := Lib.hid (Hm.out.ext (HE0.out.trans HEa.out))
      have k0 := hx.c0
      have k2 := hx.c2
      have hXl := hx.lt
      replace HthL := Lib.hid (there_frm HthL.out hRLl (S := fun _ => False) (Frm.of_ext HEa.out) id)
      replace HthP := Lib.hid (there_frm HthP.out hRPl (S := fun _ => False) (Frm.of_ext HEa.out) id)
      replace hRLl := HEa.out.lt hRLl
      replace hRPl := HEa.out.lt hRPl
      have HP := Lib.hid hP
      have hIL := loc_size h1.ok
      have hI2 : (Tryz.prog.info? 30).map (·.size) = some L.vals.toArray.size := by rw [List.size_toArray]; exact hIL
      have h45 : L.vals.toArray.size = zeroV.size := by rw [List.size_toArray, Loc.len h1.ok]; kernel_rfl
      have HthV : Hid (∀ v, Ext va v → v.there RL 0 L.vals.toArray.size) := fun v hv => by rw [h45]; exact there_frm HthL.out hRLl (S := fun _ => False) (Frm.of_ext hv) id
      have hoc : L.vals.toArray.all (·.oneCell') = true := all_oneCell_toArray (fun v hv => loc_one L v hv)
      clear h1 h2 h3 h4 hx h6 h7 h8 sh1 sh2 hP h45
      rcases Bool.eq_false_or_eq_true (validLB L) with hv | hv
      · exact absurd HP.out (by unfold finL; rw [← hval.out, hv, if_pos rfl]; exact fun q => by rw [HPP.out] at q; cases q)
      · have HVl := Lib.hid hv
        clear hv
        obtain ⟨zl, hzl⟩ : ∃ zl, zl = LocD.zero.loc.vals := ⟨_, rfl⟩
        have hze : zeroV = zl.toArray := by rw [hzl]; rfl
        have hzb : ∀ w, (Instr.build 30 #[]).run Tryz.prog w = .ok (.agg zl.toArray) w := fun w => by rw [← hze]; exact bld0_loc w
        have hzi : (Tryz.prog.info? 30).map (·.size) = some zl.toArray.size := by rw [← hze]; exact zero_info
        have hzi2 : (Tryz.prog.info? 30).map (·.size) = some zl.length := by rw [hzi]; simp
        have hzo : zl.toArray.all (·.oneCell') = true := by rw [← hze]; exact zero_one
        rw [hze] at HthL
        have Hze := Lib.hid hze
        clear hze hzl
        go_wp2_with (first
          | (refine load_midg (by rfl) 30 _ rfl B 0 rfl L.vals _ hR Tryz.underlying30 rfl hIL ?_)
          | (go_at_call 9; (with_reducible refine (valid_c L false _ HV.out Hs1.out Hmv.out Hs2.out HVl.out).mono ?_); rintro e vb ⟨rfl, hEb⟩; have HthLb := Lib.hid (there_frm HthL.out hRLl (S := fun _ => False) (Frm.of_ext hEb) id); have HthPb := Lib.hid (there_frm HthP.out hRPl (S := fun _ => False) (Frm.of_ext hEb) id); have hRLb := hEb.lt hRLl; have hRPb := hEb.lt hRPl; have HEb := Lib.hid hEb; clear hEb hR hRLl hRPl)
          | (refine wpList_bld0 (o := ⟨some 70, _, _, _, _, _⟩) 30 rfl rfl (hzb _) ?_)
          | (refine wpList_store_mid (op := ⟨none, .store 30 (.tmp 2) (.tmp 70), _, _, _, _⟩) rfl 30 _ _ rfl RL 0 zl.toArray rfl rfl HthLb.out hzi hzo ?_; have hsL := range_set vb RL zl hRLb HthLb.out; have hfL := frm_sets (S := fun k => k = RL) vb RL zl 0 rfl; generalize vb.setCells RL 0 zl = vc at hsL hfL ⊢)
          | (refine wpList_store_mid (op := ⟨none, .store 39 (.tmp 3) _, _, _, _, _⟩) rfl 39 _ _ rfl RP 0 #[.int .i64 0, .int .i64 0] rfl rfl (there_frm HthPb.out hRPb hfL (fun e => hLP e.symm)) (pos_info _ _) (pos_one _ _) ?_; have hsP := range_set vc RP [.int .i64 0, .int .i64 0] (hfL.lt hRPb) (there_frm HthPb.out hRPb hfL (fun e => hLP e.symm)); have hfP := frm_sets (S := fun k => k = RP) vc RP [.int .i64 0, .int .i64 0] 0 rfl; replace hsL := range_frm hsL hfP (fun e => hLP e); generalize vc.setCells RP 0 [.int .i64 0, .int .i64 0] = vd at hsL hsP hfP ⊢))
        refine bodyPost_ret (v := .tuple #[.agg zl.toArray, .agg #[.int .i64 0, .int .i64 0], .int .i64 1]) (results_c3 rfl rfl rfl rfl (run_loadVar_mid vd RL 0 30 zl _ hsL.2 Tryz.underlying30 rfl hzi2) (run_loadVar_mid vd RP 0 39 [.int .i64 0, .int .i64 0] _ hsP.2 Tryz.underlying39 rfl (by kernel_rfl))) rfl ⟨?_, ?_⟩
        · unfold parOut
          have e1 : finL D = .er 1 0 := by unfold finL; rw [if_neg (by rw [← hval.out, HVl.out]; simp)]
          rw [HP.out, e1, Hze.out]
          rfl
        · exact ext_frm (ext_frm (HE0.out.trans (HEa.out.trans HEb.out)) hfL (fun k e => by omega)) hfP (fun k e => by omega)
    · have hP : parL s = .er 3 (at_ + 1) := by
        rw [h6]
        rcases split_first 10 rest with q | ⟨a, r, rfl, q⟩
        · rw [runS_tail _ _ _ _ _ q, if_pos (by decide), if_neg hne]
        · rw [runS_line _ _ _ _ _ _ q, if_pos (by decide)]
      exfalso; have q := HPP.out; rw [hP] at q; cases q
  · obtain ⟨rest, ln, ec, al, ac, hx, hd⟩ := hR
    exfalso; rcases hd with ⟨-, -, q, -⟩ | ⟨-, -, -, q⟩
    · rw [HPP.out] at q; cases q
    · rw [HPP.out] at q; cases q
end Go.Proofs.YtnhdmnhfllecgaaGreatDoor
/- Locales: the walk of Parse, where a line is wrong. -/
namespace Go.Proofs.YtnhdmnhfllecgaaGreatDoor
set_option linter.unusedVariables false
set_option linter.unusedSimpArgs false
open Go.RowKit

set_option maxRecDepth 100000 in
set_option maxHeartbeats 20000000 in
theorem parse_er (s : List UInt8) (w : World) (hm : Lm w) (hs : s.length ≤ 50000) (hl : ∀ a ∈ spl 10 s, a.length ≤ 6000) (c0 l0 : Nat) (hPP : parL s = .er c0 l0) (hc0 : c0 ≠ 1) :
    Calls Tryz.prog 11 #[.string ⟨s.toArray⟩] w fun e w' => parOut s e w' ∧ Ext w w' := by
  have Hm := Lib.hid hm
  have Hl := Lib.hid hl
  have HPP := Lib.hid hPP
  clear hm hl hPP
  go_enter Tryz.func11, Tryz.ntmps11
  go_upto_region 1 with fail
  rw [zlit_eq]
  have hE0 : Ext w ((w.alloc (.cells zeroV 30)).alloc (.cells #[.int .i64 0, .int .i64 0] 39)) := ((Ext.refl w).alloc _).alloc _
  have hz0 : (w.alloc (.cells zeroV 30)).heap.size = w.heap.size + 1 := by simp
  have hthL : ((w.alloc (.cells zeroV 30)).alloc (.cells #[.int .i64 0, .int .i64 0] 39)).there w.heap.size 0 zeroV.size :=
    there_frm (thr_new w zeroV 30 _ rfl) (by simp) (S := fun _ => False) (Frm.of_ext ((Ext.refl _).alloc _)) id
  have hthP : ((w.alloc (.cells zeroV 30)).alloc (.cells #[.int .i64 0, .int .i64 0] 39)).there (w.heap.size + 1) 0 2 := by
    have := thr_new (w.alloc (.cells zeroV 30)) #[.int .i64 0, .int .i64 0] 39 2 rfl
    rwa [hz0] at this
  have hzW : ((w.alloc (.cells zeroV 30)).alloc (.cells #[.int .i64 0, .int .i64 0] 39)).heap.size = w.heap.size + 2 := by simp
  generalize (w.alloc (.cells zeroV 30)).alloc (.cells #[.int .i64 0, .int .i64 0] 39) = W at hE0 hthL hthP hzW ⊢
  obtain ⟨RL, hRL⟩ : ∃ R, R = w.heap.size := ⟨_, rfl⟩
  obtain ⟨RP, hRP⟩ : ∃ R, R = w.heap.size + 1 := ⟨_, rfl⟩
  rw [← hRL] at hthL
  rw [← hRP] at hthP
  rw [← hRP, ← hRL]
  have hLP : RL ≠ RP := by omega
  have hRLl : RL < W.heap.size := by omega
  have hRPl : RP < W.heap.size := by omega
  have hwL : w.heap.size ≤ RL := by omega
  have hwP : w.heap.size ≤ RP := by omega
  have HE0 := Lib.hid hE0
  have HmW := Lib.hid (Hm.out.ext hE0)
  have HthL := Lib.hid hthL
  have HthP := Lib.hid hthP
  clear hE0 hz0 hzW hRL hRP hthL hthP
  go_upto_region 5 with fail
  rw [zlit_eq]
  have hS0 := Lib.hid (par_start s W hs Hl.out)
  have hEW : Ext W ((W.alloc (.cells zeroV 30)).alloc (.cells #[.string ⟨s.toArray⟩, .int .i64 0, .int .i64 0, .int .i64 0, .int .i64 0] 75)) := ((Ext.refl W).alloc _).alloc _
  generalize (W.alloc (.cells zeroV 30)).alloc (.cells #[.string ⟨s.toArray⟩, .int .i64 0, .int .i64 0, .int .i64 0, .int .i64 0] 75) = W1 at hS0 hEW ⊢
  obtain ⟨B, hB⟩ : ∃ B, B = W.heap.size := ⟨_, rfl⟩
  obtain ⟨X, hX⟩ : ∃ X, X = W.heap.size + 1 := ⟨_, rfl⟩
  have hbB : W.heap.size ≤ B := by omega
  have hbX : W.heap.size ≤ X := by omega
  have hBL : B ≠ RL ∧ B ≠ RP ∧ X ≠ RL ∧ X ≠ RP := by omega
  rw [← hX] at hS0
  have HS0 : Hid (PIn s B B X 0 W1) := by rw [Hid, hB]; rw [hB] at *; exact hS0.out
  rw [← hX, ← hB]
  have HEW := Lib.hid hEW
  clear hS0 hEW hB hX
  go_upto_region 15 with (first
    | (go_at_call 41; (with_reducible refine (ps_0 s B B X W _ hbX hbB HmW.out HEW.out HS0.out).mono ?_); rintro e v1 ⟨rfl, hE, hS⟩; have HE1 := Lib.hid hE; have HS1 := Lib.hid hS; clear hE hS)
    | (go_at_call 43; (with_reducible refine (ps_1 s B B X W _ hbX hbB HmW.out HE1.out HS1.out).mono ?_); rintro e v2 ⟨rfl, hE, hS⟩; have HE2 := Lib.hid hE; have HS2 := Lib.hid hS; clear hE hS)
    | (go_at_call 43; (with_reducible refine (ps_2 s B B X W _ hbX hbB HmW.out HE2.out HS2.out).mono ?_); rintro e v3 ⟨rfl, hE, hS⟩; have HE3 := Lib.hid hE; have HS3 := Lib.hid hS; clear hE hS)
    | (go_at_call 43; (with_reducible refine (ps_3 s B B X W _ hbX hbB HmW.out HE3.out HS3.out).mono ?_); rintro e v4 ⟨rfl, hE, hS⟩; have HE4 := Lib.hid hE; have HS4 := Lib.hid hS; clear hE hS)
    | (go_at_call 43; (with_reducible refine (ps_4 s B B X W _ hbX hbB HmW.out HE4.out HS4.out).mono ?_); rintro e v5 ⟨rfl, hE, hS⟩; have HE5 := Lib.hid hE; have HS5 := Lib.hid hS; clear hE hS)
    | (go_at_call 43; (with_reducible refine (ps_5 s B B X W _ hbX hbB HmW.out HE5.out HS5.out).mono ?_); rintro e v6 ⟨rfl, hE, hS⟩; have HE6 := Lib.hid hE; have HS6 := Lib.hid hS; clear hE hS)
    | (go_at_call 45; (with_reducible refine (category_c _ _).mono ?_); rintro e v9 ⟨rfl, rfl⟩)
    | (go_at_call 44; (with_reducible refine (ps_6 s B B X W _ hbX hbB HmW.out HE6.out HS6.out).mono ?_); rintro e v7 ⟨rfl, hE, hS⟩; have HE7 := Lib.hid hE; have HS7 := Lib.hid hS; clear hE hS)
    | (go_at_call 44; (with_reducible refine (ps_7 s B B X W _ hbX hbB HmW.out HE7.out HS7.out).mono ?_); rintro e v8 ⟨rfl, hE, hS⟩; have HE8 := Lib.hid hE; have HS8 := Lib.hid hS; clear hE hS)
    | (go_at_call 44; (with_reducible refine (ps_8 s B B X W _ hbX hbB HmW.out HE8.out HS8.out).mono ?_); rintro e v9 ⟨rfl, hE, hS⟩; have HE9 := Lib.hid hE; have HS9 := Lib.hid hS; clear hE hS)
    | (go_at_call 41; (with_reducible refine (ps_9 s B B X W _ hbX hbB HmW.out HE9.out HS9.out).mono ?_); rintro e va ⟨rfl, hE, hS⟩; have HEa := Lib.hid hE; have HSa := Lib.hid hS; clear hE hS))
  rcases HSa.out with ⟨rest, hO⟩ | hR
  · obtain ⟨L, D, at_, h1, h2, h3, h4, hx, h6, h7, h8, -⟩ := hO
    by_cases hne : rest = []
    · subst hne
      have hP : parL s = finL D := by rw [h6, runS_tail _ _ _ _ [] (fun x hx => by cases hx), if_pos (by decide), if_pos rfl]
      obtain ⟨sh1, sh2⟩ := h3.sh h4
      have h4 : DSz D 50000 := ⟨h4.nm, h4.pt, h4.N, h4.P, h4.O, h4.F, h4.ok, by have := h4.nP; omega, by have := h4.nO; omega, by have := h4.nU; omega⟩
      clear HSa HS9 HS8 HS7 HS6 HS5 HS4 HS3 HS2 HS1 HS0
      exfalso
      have q := HPP.out
      rw [hP] at q
      unfold finL at q
      split at q
      · cases q
      · injection q with q; exact hc0 q.symm
    · have hP : parL s = .er 3 (at_ + 1) := by
        rw [h6]
        rcases split_first 10 rest with q | ⟨a, r, rfl, q⟩
        · rw [runS_tail _ _ _ _ _ q, if_pos (by decide), if_neg hne]
        · rw [runS_line _ _ _ _ _ _ q, if_pos (by decide)]
      have k0 := hx.c0
      have k1 := hx.c1
      have k2 := hx.c2
      have f1 := hx.free 1
      have hXl := hx.lt
      have t2 : (rest == []) = false := by simpa using hne
      have t3 : (rest != []) = true := by simpa using hne
      have t4 : rest.isEmpty = false := by simpa using hne
      have hat : at_ ≤ 50000 := by omega
      have hw1 : IntKind.i64.wrap ((at_ : Int) + 1) = ((at_ + 1 : Nat) : Int) := by rw [IntWalk.i64_in _ (by omega)]; omega
      have HL1 := Lib.hid (hx.set1 (at_ + 1))
      have HF1 := Lib.hid (frm_atX va X 1 (.int .i64 ((at_ + 1 : Nat) : Int)))
      have HP := Lib.hid hP
      clear h1 h2 h3 h4 hx h6 h7 h8 hne hP HSa HS9 HS8 HS7 HS6 HS5 HS4 HS3 HS2 HS1 HS0
      go_upto_region 17 with fail
      rw [show ((at_ : Int) + 1) = ((at_ + 1 : Nat) : Int) by omega]
      generalize va.setCell ⟨X, 1, none⟩ (.int .i64 ((at_ + 1 : Nat) : Int)) = vb at HL1 HF1 ⊢
      clear k0 k1 k2 f1 hXl t2 t3 t4 hw1
      go_upto_region 18 with (first
        | (go_at_call 50; (with_reducible refine (lfail_c rest (at_ + 1) X _ HL1.out (by omega)).mono ?_); rintro e vc ⟨rfl, hx, hFc⟩; have Hx := Lib.hid hx; have HFc := Lib.hid hFc; clear hx hFc))
      have HEv : Hid (Ext W vc) := ext_frm (ext_frm HEa.out HF1.out (fun k e => by unfold AtX at e; omega)) HFc.out (fun k e => by unfold AtX at e; omega)
      have hx := Hx.out
      have hd : (3 = 3 ∧ 1 = 1 ∧ parL s = .er 3 (at_ + 1) ∧ 1 ≤ at_ + 1) ∨ (3 = 4 ∧ at_ + 1 = 0 ∧ 1 = 0 ∧ parL s = .er 4 0) := .inl ⟨rfl, rfl, HP.out, by omega⟩
      obtain ⟨ec, hec⟩ : ∃ ec, ec = 3 := ⟨_, rfl⟩
      obtain ⟨ac, hac⟩ : ∃ ac, ac = 1 := ⟨_, rfl⟩
      obtain ⟨al, hal⟩ : ∃ al, al = at_ + 1 := ⟨_, rfl⟩
      have hx : LX rest al ec al ac X vc := by rw [hec, hac, hal]; exact hx
      have hd : (ec = 3 ∧ ac = 1 ∧ parL s = .er 3 al ∧ 1 ≤ al) ∨ (ec = 4 ∧ al = 0 ∧ ac = 0 ∧ parL s = .er 4 0) := .inl ⟨hec, hac, by rw [hal]; exact HP.out, by omega⟩
      clear hec hac hal HP Hx HL1 HF1 HFc
      have hXl := hx.lt
      have k2 := hx.c2
      have k3 := hx.c3
      have k4 := hx.c4
      obtain ⟨hP, hac, hne⟩ := er_out hd
      have t0 : ((ec : Int) == 0) = false := by rw [beq_eq_false_iff_ne]; omega
      have t1 : ((ec : Int) != 0) = true := by rw [bne, t0]; rfl
      replace HthL := Lib.hid (there_frm HthL.out hRLl (S := fun _ => False) (Frm.of_ext HEv.out) id)
      replace HthP := Lib.hid (there_frm HthP.out hRPl (S := fun _ => False) (Frm.of_ext HEv.out) id)
      replace hRLl := HEv.out.lt hRLl
      replace hRPl := HEv.out.lt hRPl
      have HP := Lib.hid hP
      have Hac := Lib.hid hac
      have HnX : Hid (∀ i, ¬ OthS (fun i k => (i = 5 ∧ k = RL) ∨ (i = 6 ∧ k = RP)) i X) := by
        rintro i ⟨j, -, ⟨-, e⟩ | ⟨-, e⟩⟩ <;> omega
      have HLP := Lib.hid hLP
      clear hP hac hd hne hx
      go_upto_region 19 with fail
      have hnX := HnX.out
      have hLP := HLP.out
      refine wp_region_growO [some 62, some 63, some 64, some 65, some 66, none, none, some 4] [fun x _ => x = .agg zeroV, fun x _ => x = .pointer (some ⟨X, 3, none⟩), fun x _ => x = .agg #[.int .i64 (al : Int), .int .i64 (ac : Int)], fun x _ => x = .pointer (some ⟨X, 2, none⟩), fun x _ => x = .int .i64 (ec : Int), fun _ w => RL < w.heap.size ∧ w.rangeAt RL 0 LocD.zero.loc.vals, fun _ w => RP < w.heap.size ∧ w.rangeAt RP 0 [.int .i64 (al : Int), .int .i64 (ac : Int)], fun x _ => x = .int .i64 (ec : Int)] (fun i k => (i = 5 ∧ k = RL) ∨ (i = 6 ∧ k = RP)) 0 (by kernel_rfl) (by kernel_rfl) (by kernel_rfl) (by kernel_rfl) ?_ ?_ ?_
      · refine ⟨?_, ?_, ?_, ?_, ?_, ?_, ?_, ?_, trivial⟩
        · exact fun _ _ _ h _ => h
        · exact fun _ _ _ h _ => h
        · exact fun _ _ _ h _ => h
        · exact fun _ _ _ h _ => h
        · exact fun _ _ _ h _ => h
        · exact fun _ _ _ h hF => range_frm h hF (by rintro ⟨j, h1, ⟨q, -⟩ | ⟨-, q⟩⟩ <;> omega)
        · exact fun _ _ _ h hF => range_frm h hF (by rintro ⟨j, h1, ⟨-, q⟩ | ⟨q, -⟩⟩ <;> omega)
        · exact fun _ _ _ h _ => h
      · refine ⟨?_, ?_, ?_, ?_, ?_, ?_, ?_, ?_, trivial⟩
        · intro a w hE hF hD K hK
          exact gs_val rfl (yr_bld0 rfl (bld0_loc w)) (hK _ _ rfl (Frm.refl _ _))
        · intro a w hE hF hD K hK
          exact gs_val rfl (yr_field rfl ((hF 6 (fr_ofO rfl)).trans rfl) (by go_simp)) (hK _ _ rfl (Frm.refl _ _))
        · intro a w hE hF hD K hK
          have u63 : a.eval (.tmp 63) = .pointer (some ⟨X, 3, none⟩) := hD 1 (by kernel_rfl)
          exact gs_val rfl (yr_load rfl u63 (ld_pos X 3 _ _ w ((hE.cel hXl (hnX _) 3).trans k3) ((hE.cel hXl (hnX _) 4).trans k4))) (hK _ _ rfl (Frm.refl _ _))
        · intro a w hE hF hD K hK
          exact gs_val rfl (yr_field rfl ((hF 6 (fr_ofO rfl)).trans rfl) (by go_simp)) (hK _ _ rfl (Frm.refl _ _))
        · intro a w hE hF hD K hK
          have u65 : a.eval (.tmp 65) = .pointer (some ⟨X, 2, none⟩) := hD 3 (by kernel_rfl)
          exact gs_val rfl (yr_load rfl u65 (ld_err _ _ _ ((hE.cel hXl (hnX _) 2).trans k2))) (hK _ _ rfl (Frm.refl _ _))
        · intro a w hE hF hD K hK
          have u62 : a.eval (.tmp 62) = .agg zeroV := hD 0 (by kernel_rfl)
          exact gs_store rfl rfl ((hF 2 (fr_ofO rfl)).trans rfl) u62 (run_storeAt_mid w RL 0 30 zeroV (there_frm HthL.out hRLl hE (by rintro ⟨j, h1, ⟨rfl, -⟩ | ⟨-, q⟩⟩ <;> omega)) zero_info zero_one) (hK _ _ (range_set w RL LocD.zero.loc.vals (hE.lt hRLl) (there_frm HthL.out hRLl hE (by rintro ⟨j, h1, ⟨rfl, -⟩ | ⟨-, q⟩⟩ <;> omega))) (frm_sets w RL _ _ (.inl ⟨rfl, rfl⟩)))
        · intro a w hE hF hD K hK
          have u64 : a.eval (.tmp 64) = .agg #[.int .i64 (al : Int), .int .i64 (ac : Int)] := hD 2 (by kernel_rfl)
          exact gs_store rfl rfl ((hF 3 (fr_ofO rfl)).trans rfl) u64 (run_storeAt_mid w RP 0 39 #[.int .i64 (al : Int), .int .i64 (ac : Int)] (there_frm HthP.out hRPl hE (by rintro ⟨j, h1, ⟨-, q⟩ | ⟨rfl, -⟩⟩ <;> omega)) (pos_info _ _) (pos_one _ _)) (hK _ _ (range_set w RP [.int .i64 (al : Int), .int .i64 (ac : Int)] (hE.lt hRPl) (there_frm HthP.out hRPl hE (by rintro ⟨j, h1, ⟨-, q⟩ | ⟨rfl, -⟩⟩ <;> omega))) (frm_sets w RP _ _ (.inr ⟨rfl, rfl⟩)))
        · intro a w hE hF hD K hK
          have u66 : a.eval (.tmp 66) = .int .i64 (ec : Int) := hD 4 (by kernel_rfl)
          exact gs_val rfl (yr_assign rfl u66) (hK _ _ rfl (Frm.refl _ _))
      intro vals wz hEz hRz
      obtain ⟨-, -, -, -, -, h5, h6, h7, -⟩ := hRz
      have e4 : vals 7 = .int .i64 (ec : Int) := h7
      refine wpAny_done (by kernel_rfl) ?_ _
      simp only [putG, putD, Act.put, List.length_cons, List.length_nil, List.getD_cons_zero, List.getD_cons_succ, List.setIfInBounds_toArray, List.set_cons_zero, List.set_cons_succ, Nat.reduceAdd, e4]
      clear e4
      go_wp2_with fail
      refine bodyPost_ret (v := .tuple #[.agg zeroV, .agg #[.int .i64 (al : Int), .int .i64 (ac : Int)], .int .i64 (ec : Int)]) (results_c3 rfl rfl rfl rfl (run_loadVar_mid wz RL 0 30 LocD.zero.loc.vals _ h5.2 Tryz.underlying30 rfl (by kernel_rfl)) (run_loadVar_mid wz RP 0 39 [.int .i64 (al : Int), .int .i64 (ac : Int)] _ h6.2 Tryz.underlying39 rfl (by kernel_rfl))) rfl ⟨?_, ?_⟩
      · unfold parOut
        rw [HP.out]
        simp only
        rw [Hac.out]
      · refine ext_frm (HE0.out.trans HEv.out) hEz ?_
        rintro k ⟨j, ⟨-, e⟩ | ⟨-, e⟩⟩ <;> omega
  · obtain ⟨rest, ln, ec, al, ac, hx, hd⟩ := hR
    have HEv := HEa
    clear HSa HS9 HS8 HS7 HS6 HS5 HS4 HS3 HS2 HS1 HS0
    have k0 := hx.c0
    have hXl := hx.lt
    have k2 := hx.c2
    have k3 := hx.c3
    have k4 := hx.c4
    obtain ⟨hP, hac, hne⟩ := er_out hd
    have t0 : ((ec : Int) == 0) = false := by rw [beq_eq_false_iff_ne]; omega
    have t1 : ((ec : Int) != 0) = true := by rw [bne, t0]; rfl
    replace HthL := Lib.hid (there_frm HthL.out hRLl (S := fun _ => False) (Frm.of_ext HEv.out) id)
    replace HthP := Lib.hid (there_frm HthP.out hRPl (S := fun _ => False) (Frm.of_ext HEv.out) id)
    replace hRLl := HEv.out.lt hRLl
    replace hRPl := HEv.out.lt hRPl
    have HP := Lib.hid hP
    have Hac := Lib.hid hac
    have HnX : Hid (∀ i, ¬ OthS (fun i k => (i = 5 ∧ k = RL) ∨ (i = 6 ∧ k = RP)) i X) := by
      rintro i ⟨j, -, ⟨-, e⟩ | ⟨-, e⟩⟩ <;> omega
    have HLP := Lib.hid hLP
    clear hP hac hd hne hx
    go_upto_region 19 with fail
    have hnX := HnX.out
    have hLP := HLP.out
    refine wp_region_growO [some 62, some 63, some 64, some 65, some 66, none, none, some 4] [fun x _ => x = .agg zeroV, fun x _ => x = .pointer (some ⟨X, 3, none⟩), fun x _ => x = .agg #[.int .i64 (al : Int), .int .i64 (ac : Int)], fun x _ => x = .pointer (some ⟨X, 2, none⟩), fun x _ => x = .int .i64 (ec : Int), fun _ w => RL < w.heap.size ∧ w.rangeAt RL 0 LocD.zero.loc.vals, fun _ w => RP < w.heap.size ∧ w.rangeAt RP 0 [.int .i64 (al : Int), .int .i64 (ac : Int)], fun x _ => x = .int .i64 (ec : Int)] (fun i k => (i = 5 ∧ k = RL) ∨ (i = 6 ∧ k = RP)) 0 (by kernel_rfl) (by kernel_rfl) (by kernel_rfl) (by kernel_rfl) ?_ ?_ ?_
    · refine ⟨?_, ?_, ?_, ?_, ?_, ?_, ?_, ?_, trivial⟩
      · exact fun _ _ _ h _ => h
      · exact fun _ _ _ h _ => h
      · exact fun _ _ _ h _ => h
      · exact fun _ _ _ h _ => h
      · exact fun _ _ _ h _ => h
      · exact fun _ _ _ h hF => range_frm h hF (by rintro ⟨j, h1, ⟨q, -⟩ | ⟨-, q⟩⟩ <;> omega)
      · exact fun _ _ _ h hF => range_frm h hF (by rintro ⟨j, h1, ⟨-, q⟩ | ⟨q, -⟩⟩ <;> omega)
      · exact fun _ _ _ h _ => h
    · refine ⟨?_, ?_, ?_, ?_, ?_, ?_, ?_, ?_, trivial⟩
      · intro a w hE hF hD K hK
        exact gs_val rfl (yr_bld0 rfl (bld0_loc w)) (hK _ _ rfl (Frm.refl _ _))
      · intro a w hE hF hD K hK
        exact gs_val rfl (yr_field rfl ((hF 6 (fr_ofO rfl)).trans rfl) (by go_simp)) (hK _ _ rfl (Frm.refl _ _))
      · intro a w hE hF hD K hK
        have u63 : a.eval (.tmp 63) = .pointer (some ⟨X, 3, none⟩) := hD 1 (by kernel_rfl)
        exact gs_val rfl (yr_load rfl u63 (ld_pos X 3 _ _ w ((hE.cel hXl (hnX _) 3).trans k3) ((hE.cel hXl (hnX _) 4).trans k4))) (hK _ _ rfl (Frm.refl _ _))
      · intro a w hE hF hD K hK
        exact gs_val rfl (yr_field rfl ((hF 6 (fr_ofO rfl)).trans rfl) (by go_simp)) (hK _ _ rfl (Frm.refl _ _))
      · intro a w hE hF hD K hK
        have u65 : a.eval (.tmp 65) = .pointer (some ⟨X, 2, none⟩) := hD 3 (by kernel_rfl)
        exact gs_val rfl (yr_load rfl u65 (ld_err _ _ _ ((hE.cel hXl (hnX _) 2).trans k2))) (hK _ _ rfl (Frm.refl _ _))
      · intro a w hE hF hD K hK
        have u62 : a.eval (.tmp 62) = .agg zeroV := hD 0 (by kernel_rfl)
        exact gs_store rfl rfl ((hF 2 (fr_ofO rfl)).trans rfl) u62 (run_storeAt_mid w RL 0 30 zeroV (there_frm HthL.out hRLl hE (by rintro ⟨j, h1, ⟨rfl, -⟩ | ⟨-, q⟩⟩ <;> omega)) zero_info zero_one) (hK _ _ (range_set w RL LocD.zero.loc.vals (hE.lt hRLl) (there_frm HthL.out hRLl hE (by rintro ⟨j, h1, ⟨rfl, -⟩ | ⟨-, q⟩⟩ <;> omega))) (frm_sets w RL _ _ (.inl ⟨rfl, rfl⟩)))
      · intro a w hE hF hD K hK
        have u64 : a.eval (.tmp 64) = .agg #[.int .i64 (al : Int), .int .i64 (ac : Int)] := hD 2 (by kernel_rfl)
        exact gs_store rfl rfl ((hF 3 (fr_ofO rfl)).trans rfl) u64 (run_storeAt_mid w RP 0 39 #[.int .i64 (al : Int), .int .i64 (ac : Int)] (there_frm HthP.out hRPl hE (by rintro ⟨j, h1, ⟨-, q⟩ | ⟨rfl, -⟩⟩ <;> omega)) (pos_info _ _) (pos_one _ _)) (hK _ _ (range_set w RP [.int .i64 (al : Int), .int .i64 (ac : Int)] (hE.lt hRPl) (there_frm HthP.out hRPl hE (by rintro ⟨j, h1, ⟨-, q⟩ | ⟨rfl, -⟩⟩ <;> omega))) (frm_sets w RP _ _ (.inr ⟨rfl, rfl⟩)))
      · intro a w hE hF hD K hK
        have u66 : a.eval (.tmp 66) = .int .i64 (ec : Int) := hD 4 (by kernel_rfl)
        exact gs_val rfl (yr_assign rfl u66) (hK _ _ rfl (Frm.refl _ _))
    intro vals wz hEz hRz
    obtain ⟨-, -, -, -, -, h5, h6, h7, -⟩ := hRz
    have e4 : vals 7 = .int .i64 (ec : Int) := h7
    refine wpAny_done (by kernel_rfl) ?_ _
    simp only [putG, putD, Act.put, List.length_cons, List.length_nil, List.getD_cons_zero, List.getD_cons_succ, List.setIfInBounds_toArray, List.set_cons_zero, List.set_cons_succ, Nat.reduceAdd, e4]
    clear e4
    go_wp2_with fail
    refine bodyPost_ret (v := .tuple #[.agg zeroV, .agg #[.int .i64 (al : Int), .int .i64 (ac : Int)], .int .i64 (ec : Int)]) (results_c3 rfl rfl rfl rfl (run_loadVar_mid wz RL 0 30 LocD.zero.loc.vals _ h5.2 Tryz.underlying30 rfl (by kernel_rfl)) (run_loadVar_mid wz RP 0 39 [.int .i64 (al : Int), .int .i64 (ac : Int)] _ h6.2 Tryz.underlying39 rfl (by kernel_rfl))) rfl ⟨?_, ?_⟩
    · unfold parOut
      rw [HP.out]
      simp only
      rw [Hac.out]
    · refine ext_frm (HE0.out.trans HEv.out) hEz ?_
      rintro k ⟨j, ⟨-, e⟩ | ⟨-, e⟩⟩ <;> omega
end Go.Proofs.YtnhdmnhfllecgaaGreatDoor
/- Locales: Parse, whole. -/
namespace Go.Proofs.YtnhdmnhfllecgaaGreatDoor
set_option linter.unusedVariables false
set_option linter.unusedSimpArgs false
open Go.RowKit

theorem runL_one : ∀ (tl : Bool) (ls : List (List UInt8)) (st cnt at_ : Nat) (D : LocD) (l : Nat), runL tl st cnt at_ D ls = .er 1 l → l = 0
  | tl, [], st, cnt, at_, D, l, h => by
    rw [runL] at h
    split at h
    · split at h
      · injection h with h1 h2; cases h1
      · unfold finL at h
        split at h
        · cases h
        · injection h with h1 h2; exact h2.symm
    · injection h with h1 h2; cases h1
  | tl, x :: ls, st, cnt, at_, D, l, h => by
    rw [runL] at h
    split at h
    · injection h with h1 h2; cases h1
    · split at h
      · injection h with h1 h2; cases h1
      · split at h
        · injection h with h1 h2; cases h1
        · split at h
          · exact runL_one tl ls _ _ _ _ l h
          · exact runL_one tl ls _ _ _ _ l h
theorem parse_c (s : List UInt8) (w : World) (hm : Lm w) (hs : s.length ≤ 50000) (hl : ∀ a ∈ spl 10 s, a.length ≤ 6000) :
    Calls Tryz.prog 11 #[.string ⟨s.toArray⟩] w fun e w' => parOut s e w' ∧ Ext w w' := by
  cases h : parL s with
  | ok D => exact parse_ok s w hm hs hl D h
  | er c l =>
    by_cases hc : c = 1
    · subst hc
      obtain rfl := runL_one _ _ _ _ _ _ _ h
      exact parse_no s w hm hs hl h
    · exact parse_er s w hm hs hl c l h hc
end Go.Proofs.YtnhdmnhfllecgaaGreatDoor
