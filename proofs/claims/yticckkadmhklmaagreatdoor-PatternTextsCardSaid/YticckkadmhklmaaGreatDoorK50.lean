/- The walk of the law PatternTexts. -/
import Derived.Test.YticckkadmhklmaaGreatDoorK49
namespace Go.Proofs.YticckkadmhklmaaGreatDoor
set_option linter.unusedVariables false
set_option linter.unusedSimpArgs false
open Go.RowKit Go.Maps

theorem names_litr (N : Nms) (b : Bool) (hN : N.ok) (w : World) (hl : ∀ s ∈ N.all, s.length ≤ 100000) (hv : nmOk N = b) : Calls Tryz.prog 12 #[.agg (sv N.all).toArray] w fun e w' => e = .returned (.bool b) ∧ Ext w w' := rvalidnames_c N b hN w hl hv
theorem rtext_c2 (l : List Prt) (ao : Option Addr) (cap : Nat) (w : World) (h : PtV ao cap l w) (hl : ∀ p ∈ l, p.t.length ≤ 4000) (t : List UInt8) (e : Int) (ht : txR l = (t, e)) :
    Calls Tryz.prog 9 #[.slice ao l.length cap] w fun x w' => x = .returned (.tuple #[.string ⟨t.toArray⟩, .int .i64 e]) ∧ Ext w w' := by
  unfold txR at ht
  rcases Bool.eq_false_or_eq_true (validB l) with hv | hv
  · rw [hv, if_pos rfl] at ht
    injection ht with h1 h2
    rw [← h1, ← h2]
    exact rtext_ok l ao cap w h hl hv
  · rw [hv, if_neg (by decide)] at ht
    injection ht with h1 h2
    rw [← h1, ← h2]
    exact rtext_no l ao cap w h hl hv
/-- The kinds of the fields, if the list is valid. -/
def fldF (l : List Prt) : List Int := if validB l = true then fdsL l else []
theorem fields_c (l : List Prt) (ao : Option Addr) (cap : Nat) (w : World) (h : PtV ao cap l w) (hl : ∀ p ∈ l, p.t.length ≤ 4000) : Calls Tryz.prog 14 #[.slice ao l.length cap] w (FldR (fldF l) w) := by
  unfold fldF
  rcases Bool.eq_false_or_eq_true (validB l) with hv | hv
  · rw [hv, if_pos rfl]; exact fields_ok l ao cap w h hl hv
  · rw [hv, if_neg (by decide)]; exact fields_no l ao cap w h hl hv
def FlV (F : List Int) (x : Value) (w : World) : Prop := ∃ ao cap, x = .slice ao F.length cap ∧ IsV ao cap F w
theorem FlV.ext {F : List Int} {x : Value} {w w' : World} (h : FlV F x w) (hE : Ext w w') : FlV F x w' := by
  obtain ⟨ao, cap, h1, h2⟩ := h
  exact ⟨ao, cap, h1, h2.ext hE⟩
set_option maxRecDepth 100000 in
set_option maxHeartbeats 1000000 in
theorem texts_w1 (l : List Prt) (ao : Option Addr) (cap : Nat) (N : Nms) (w : World) (h : PtV ao cap l w) (hN : N.ok) (hg : greatB l = true) :
    Calls Tryz.prog 3 #[.slice ao l.length cap, .agg (sv N.all).toArray] w fun e w' => e = .returned (.bool true) ∧ Ext w w' := by
  have hI := names_size hN
  have hR : (w.alloc (.cells (sv N.all).toArray 27)).rangeAt w.heap.size 0 (sv N.all) := by
    intro j v hv
    rw [Nat.zero_add, World.cell?_alloc_new]
    simpa using hv
  have hEW : Ext w (w.alloc (.cells (sv N.all).toArray 27)) := (Ext.refl w).alloc _
  have hz1 : w.heap.size < (w.alloc (.cells (sv N.all).toArray 27)).heap.size := by simp
  have HPt := Lib.hid (h.ext hEW)
  have HEW := Lib.hid hEW
  have HN := Lib.hid hN
  clear h hEW hN
  have HG := Lib.hid hg
  clear hg
  go_enter Tryz.func3, Tryz.ntmps3
  go_upto_region 1 with fail
  generalize w.alloc (.cells (sv N.all).toArray 27) = W0 at *
  generalize w.heap.size = B at hR hz1 ⊢
  go_wp2_with fail
  (with_reducible refine (awake_c _).mono ?_)
  rintro e w1 ⟨rfl, hX1⟩
  go_wp2_with fail
  (with_reducible refine (great_c l ao cap _ _ (HPt.out.ext hX1) HG.out).mono ?_)
  rintro e w2 ⟨rfl, hE2⟩
  have hX2 : Ext W0 w2 := hX1.trans hE2
  have HX1 := Lib.hid hX1
  clear hE2 hX1
  go_wp2_with fail
  go_ret
  exact ⟨rfl, HEW.out.trans hX2⟩
set_option maxRecDepth 100000 in
set_option maxHeartbeats 1000000 in
theorem texts_w2 (l : List Prt) (ao : Option Addr) (cap : Nat) (N : Nms) (w : World) (h : PtV ao cap l w) (hN : N.ok) (hg : greatB l = false) (hlg : lngB N = true) :
    Calls Tryz.prog 3 #[.slice ao l.length cap, .agg (sv N.all).toArray] w fun e w' => e = .returned (.bool true) ∧ Ext w w' := by
  have hI := names_size hN
  have hR : (w.alloc (.cells (sv N.all).toArray 27)).rangeAt w.heap.size 0 (sv N.all) := by
    intro j v hv
    rw [Nat.zero_add, World.cell?_alloc_new]
    simpa using hv
  have hEW : Ext w (w.alloc (.cells (sv N.all).toArray 27)) := (Ext.refl w).alloc _
  have hz1 : w.heap.size < (w.alloc (.cells (sv N.all).toArray 27)).heap.size := by simp
  have HPt := Lib.hid (h.ext hEW)
  have HEW := Lib.hid hEW
  have HN := Lib.hid hN
  clear h hEW hN
  have HG := Lib.hid hg
  have HLN := Lib.hid hlg
  clear hg hlg
  go_enter Tryz.func3, Tryz.ntmps3
  go_upto_region 1 with fail
  generalize w.alloc (.cells (sv N.all).toArray 27) = W0 at *
  generalize w.heap.size = B at hR hz1 ⊢
  go_wp2_with fail
  (with_reducible refine (awake_c _).mono ?_)
  rintro e w1 ⟨rfl, hX1⟩
  go_wp2_with fail
  (with_reducible refine (great_c l ao cap _ _ (HPt.out.ext hX1) HG.out).mono ?_)
  rintro e w2 ⟨rfl, hE2⟩
  have hX2 : Ext W0 w2 := hX1.trans hE2
  have HX1 := Lib.hid hX1
  clear hE2 hX1
  have hRR := rangeAt_ext hR hz1 hX2
  go_wp2_with (refine wpList_load_midg (by rfl) 27 _ rfl B 0 rfl (sv N.all) _ hRR Tryz.underlying27 rfl hI ?_)
  (with_reducible refine (long_c N HN.out _ _ HLN.out).mono ?_)
  rintro e w3 ⟨rfl, hE3⟩
  have hX3 : Ext W0 w3 := hX2.trans hE3
  have HX2 := Lib.hid hX2
  clear hE3 hX2 hRR
  go_wp2_with fail
  go_ret
  exact ⟨rfl, HEW.out.trans hX3⟩
set_option maxRecDepth 100000 in
set_option maxHeartbeats 2000000 in
theorem texts_w3 (l : List Prt) (ao : Option Addr) (cap : Nat) (N : Nms) (w : World) (h : PtV ao cap l w) (hN : N.ok) (hm : Lm w) (hg : greatB l = false) (hlg : lngB N = false) (hv : validB l = false) :
    Calls Tryz.prog 3 #[.slice ao l.length cap, .agg (sv N.all).toArray] w fun e w' => e = .returned (.bool true) ∧ Ext w w' := by
  have hI := names_size hN
  have hR : (w.alloc (.cells (sv N.all).toArray 27)).rangeAt w.heap.size 0 (sv N.all) := by
    intro j v hv
    rw [Nat.zero_add, World.cell?_alloc_new]
    simpa using hv
  have hEW : Ext w (w.alloc (.cells (sv N.all).toArray 27)) := (Ext.refl w).alloc _
  have hz1 : w.heap.size < (w.alloc (.cells (sv N.all).toArray 27)).heap.size := by simp
  have HPt := Lib.hid (h.ext hEW)
  have HEW := Lib.hid hEW
  have HN := Lib.hid hN
  clear h hEW hN
  have HG := Lib.hid hg
  have Hl := Lib.hid (greatB_texts hg)
  have HLN := Lib.hid hlg
  have HNl := Lib.hid (long_names hlg)
  have Hv := Lib.hid hv
  have Hm := Lib.hid (hm.ext HEW.out)
  have HTX := Lib.hid (fun w h hm => ptext_c l ao cap w h Hl.out hm [] 1 (by unfold txR; rw [hv]; rfl))
  have HRX := Lib.hid (fun w h => rtext_c2 l ao cap w h Hl.out [] 1 (by unfold txR; rw [hv]; rfl))
  clear hg hlg hm
  have hF : Hid (fldF l = []) := by rw [Hid]; unfold fldF; rw [hv]; rfl
  go_enter Tryz.func3, Tryz.ntmps3
  go_upto_region 1 with fail
  generalize w.alloc (.cells (sv N.all).toArray 27) = W0 at *
  generalize w.heap.size = B at hR hz1 ⊢
  go_wp2_with fail
  (with_reducible refine (awake_c _).mono ?_)
  rintro e w1 ⟨rfl, hX1⟩
  go_wp2_with fail
  (with_reducible refine (great_c l ao cap _ _ (HPt.out.ext hX1) HG.out).mono ?_)
  rintro e w2 ⟨rfl, hE2⟩
  have hX2 : Ext W0 w2 := hX1.trans hE2
  have HX1 := Lib.hid hX1
  clear hE2 hX1
  have hRR := rangeAt_ext hR hz1 hX2
  go_wp2_with (refine wpList_load_midg (by rfl) 27 _ rfl B 0 rfl (sv N.all) _ hRR Tryz.underlying27 rfl hI ?_)
  (with_reducible refine (long_c N HN.out _ _ HLN.out).mono ?_)
  rintro e w3 ⟨rfl, hE3⟩
  have hX3 : Ext W0 w3 := hX2.trans hE3
  have HX2 := Lib.hid hX2
  clear hE3 hX2 hRR
  go_upto_region 15 with (first
    | (go_at_call 8; (with_reducible refine (HTX.out _ (HPt.out.ext hX3) (Hm.out.ext hX3)).mono ?_); rintro e w4 ⟨rfl, hE4⟩; have hX4 := hX3.trans hE4; clear hE4)
    | (go_at_call 9; (with_reducible refine (HRX.out _ (HPt.out.ext hX4)).mono ?_); rintro e w5 ⟨rfl, hE5⟩; have hX5 := hX4.trans hE5; clear hE5)
    | (go_at_call 10; (with_reducible refine (rvalid_lit l false ao cap _ (HPt.out.ext hX5) Hl.out Hv.out).mono ?_); rintro e w6 ⟨rfl, hE6⟩; have hX6 := hX5.trans hE6; clear hE6))
  have hFl : FlV (fldF l) (.slice none 0 0) w6 := by rw [hF.out]; exact ⟨none, 0, rfl, IsV.nil _⟩
  have yX : Ext W0 w6 := hX6
  have yR := rangeAt_ext hR hz1 yX
  have yB := yX.lt hz1
  have HFl := Lib.hid hFl
  clear hFl
  obtain ⟨F, hFF⟩ : ∃ F, fldF l = F := ⟨_, rfl⟩
  have HFd := Lib.hid (fun w h => fields_c l ao cap w h Hl.out)
  rw [hFF] at HFl HFd
  clear hFF
  obtain ⟨nv, hnv⟩ : ∃ b, nmOk N = b := ⟨_, rfl⟩
  have HNv := Lib.hid hnv
  clear hnv
  obtain ⟨lb, hlb⟩ : ∃ b, losB l = b := ⟨_, rfl⟩
  have HLo := Lib.hid (fun w h => lossless_c l ao cap w h Hl.out)
  have HLr := Lib.hid (fun w h => rlossless_c l ao cap w h Hl.out)
  rw [hlb] at HLo HLr
  clear hlb
  refine wp_region_growG [47, 48, 49, 50, 51, 52, 53, 54, 55, 56, 57, 58, 59, 60, 61, 62, 63, 64, 65, 66, 67, 68, 69, 70, 71, 72, 73, 74] [fun x _ => x = .string ⟨([] : List UInt8).toArray⟩, fun x _ => x = .string ⟨([] : List UInt8).toArray⟩, fun x _ => x = .bool true, fun x _ => x = .bool true, fun x _ => x = .int .i64 1, fun x _ => x = .int .i64 1, fun x _ => x = .bool true, fun x _ => x = .bool true, fun x _ => x = .bool true, fun x _ => x = .agg (sv N.all).toArray, fun x _ => x = .bool nv, fun x _ => x = .agg (sv N.all).toArray, fun x _ => x = .bool nv, fun x _ => x = .bool true, fun x _ => x = .bool true, fun x _ => x = .bool true, fun x _ => x = .slice ao l.length cap, FlV F, fun x _ => x = .slice none 0 0, fun x _ => x = .bool true, fun x _ => x = .bool true, fun x _ => x = .bool true, fun x _ => x = .slice ao l.length cap, fun x _ => x = .bool lb, fun x _ => x = .slice ao l.length cap, fun x _ => x = .bool lb, fun x _ => x = .bool true, fun x _ => x = .bool true] 1 (by kernel_rfl) (by kernel_rfl) (by kernel_rfl) (by kernel_rfl) ?_ ?_ ?_ ?_
  · intro R hR
    simp only [List.mem_cons, List.not_mem_nil, or_false] at hR
    rcases hR with rfl | rfl | rfl | rfl | rfl | rfl | rfl | rfl | rfl | rfl | rfl | rfl | rfl | rfl | rfl | rfl | rfl | rfl | rfl | rfl | rfl | rfl | rfl | rfl | rfl | rfl | rfl | rfl
    all_goals first
      | exact fun _ _ _ h _ => h
      | exact fun _ _ _ h hE => FlV.ext h hE
  · refine ⟨?_, ?_, ?_, ?_, ?_, ?_, ?_, ?_, ?_, ?_, ?_, ?_, ?_, ?_, ?_, ?_, ?_, ?_, ?_, ?_, ?_, ?_, ?_, ?_, ?_, ?_, ?_, ?_, trivial⟩
    all_goals
      intro j b hjb v w h
      first
        | (cases hjb; done)
        | (cases hjb; exact h)
  · refine ⟨?_, ?_, ?_, ?_, ?_, ?_, ?_, ?_, ?_, ?_, ?_, ?_, ?_, ?_, ?_, ?_, ?_, ?_, ?_, ?_, ?_, ?_, ?_, ?_, ?_, ?_, ?_, ?_, trivial⟩
    all_goals intro a w hE hF hD K hK
    · exact gs_val rfl (yr_move rfl ((hF 5 (fr_of rfl)).trans rfl)) (hK _ _ rfl (Ext.refl _))
    · exact gs_val rfl (yr_move rfl ((hF 7 (fr_of rfl)).trans rfl)) (hK _ _ rfl (Ext.refl _))
    · have h1 : a.eval (.tmp 47) = .string ⟨([] : List UInt8).toArray⟩ := hD 0 (by kernel_rfl)
      have h2 : a.eval (.tmp 48) = .string ⟨([] : List UInt8).toArray⟩ := hD 1 (by kernel_rfl)
      exact gs_val rfl (yr_eqs rfl h1 h2 (by simp)) (hK _ _ rfl (Ext.refl _))
    · have h1 : a.eval (.tmp 49) = .bool true := hD 2 (by kernel_rfl)
      exact gs_val rfl (yr_move rfl h1) (hK _ _ rfl (Ext.refl _))
    · exact gs_val rfl (yr_move rfl ((hF 6 (fr_of rfl)).trans rfl)) (hK _ _ rfl (Ext.refl _))
    · exact gs_val rfl (yr_move rfl ((hF 8 (fr_of rfl)).trans rfl)) (hK _ _ rfl (Ext.refl _))
    · have h1 : a.eval (.tmp 51) = .int .i64 1 := hD 4 (by kernel_rfl)
      have h2 : a.eval (.tmp 52) = .int .i64 1 := hD 5 (by kernel_rfl)
      exact gs_val rfl (yr_eqe rfl h1 h2 (by simp)) (hK _ _ rfl (Ext.refl _))
    · have h1 : a.eval (.tmp 50) = .bool true := hD 3 (by kernel_rfl)
      have h2 : a.eval (.tmp 53) = .bool true := hD 6 (by kernel_rfl)
      exact gs_val rfl (yr_pick (b := true) rfl h1 h2) (hK _ _ rfl (Ext.refl _))
    · have h1 : a.eval (.tmp 54) = .bool true := hD 7 (by kernel_rfl)
      exact gs_val rfl (yr_move rfl h1) (hK _ _ rfl (Ext.refl _))
    · exact gs_val rfl (yr_load rfl ((hF 3 (fr_of rfl)).trans rfl) (run_loadAt_mid w B 0 _ _ _ (rangeAt_ext yR yB hE) Tryz.underlying27 rfl hI)) (hK _ _ rfl (Ext.refl _))
    · have h1 : a.eval (.tmp 56) = .agg (sv N.all).toArray := hD 9 (by kernel_rfl)
      exact gs_call rfl (yr_call rfl rfl (show (#[Operand.tmp 56] : Array Operand).map a.eval = #[.agg (sv N.all).toArray] by simp [h1]) (by kernel_rfl)) ((names_lit N nv HN.out w HNl.out HNv.out).mono fun e w' ⟨h1, h2⟩ => ⟨_, h1, rfl, h2⟩) hK
    · exact gs_val rfl (yr_load rfl ((hF 3 (fr_of rfl)).trans rfl) (run_loadAt_mid w B 0 _ _ _ (rangeAt_ext yR yB hE) Tryz.underlying27 rfl hI)) (hK _ _ rfl (Ext.refl _))
    · have h1 : a.eval (.tmp 58) = .agg (sv N.all).toArray := hD 11 (by kernel_rfl)
      exact gs_call rfl (yr_call rfl rfl (show (#[Operand.tmp 58] : Array Operand).map a.eval = #[.agg (sv N.all).toArray] by simp [h1]) (by kernel_rfl)) ((names_litr N nv HN.out w HNl.out HNv.out).mono fun e w' ⟨h1, h2⟩ => ⟨_, h1, rfl, h2⟩) hK
    · have h1 : a.eval (.tmp 57) = .bool nv := hD 10 (by kernel_rfl)
      have h2 : a.eval (.tmp 59) = .bool nv := hD 12 (by kernel_rfl)
      exact gs_val rfl (yr_eqb rfl h1 h2 (by simp)) (hK _ _ rfl (Ext.refl _))
    · have h1 : a.eval (.tmp 55) = .bool true := hD 8 (by kernel_rfl)
      have h2 : a.eval (.tmp 60) = .bool true := hD 13 (by kernel_rfl)
      exact gs_val rfl (yr_pick (b := true) rfl h1 h2) (hK _ _ rfl (Ext.refl _))
    · have h1 : a.eval (.tmp 61) = .bool true := hD 14 (by kernel_rfl)
      exact gs_val rfl (yr_move rfl h1) (hK _ _ rfl (Ext.refl _))
    · exact gs_val rfl (yr_move rfl ((hF 0 (fr_of rfl)).trans rfl)) (hK _ _ rfl (Ext.refl _))
    · have h1 : a.eval (.tmp 63) = .slice ao l.length cap := hD 16 (by kernel_rfl)
      exact gs_call rfl (yr_call rfl rfl (show (#[Operand.tmp 63] : Array Operand).map a.eval = #[.slice ao l.length cap] by simp [h1]) (by kernel_rfl)) ((HFd.out _ (HPt.out.ext (yX.trans hE))).mono fun e w' ⟨a1, c1, h1, h2, h3⟩ => ⟨_, h1, ⟨a1, c1, rfl, h2⟩, h3⟩) hK
    · exact gs_val rfl (yr_move rfl ((hF 9 (fr_of rfl)).trans rfl)) (hK _ _ rfl (Ext.refl _))
    · have h1 : FlV F (a.eval (.tmp 64)) w := hD 17 (by kernel_rfl)
      have h2 : a.eval (.tmp 65) = .slice none 0 0 := hD 18 (by kernel_rfl)
      obtain ⟨a1, c1, e1, e2⟩ := h1
      obtain ⟨a2, c2, e3, e4⟩ := HFl.out
      have e4 := e4.ext hE
      exact gs_call rfl (yr_call rfl rfl (show (#[Operand.tmp 64, Operand.tmp 65] : Array Operand).map a.eval = #[.slice a1 F.length c1, .slice a2 F.length c2] by rw [← e3]; simp [e1, h2]) (by kernel_rfl)) ((eqI_c F a1 a2 c1 c2 w e2 e4).mono fun e w' ⟨h1, h2⟩ => ⟨_, h1, rfl, h2⟩) hK
    · have h1 : a.eval (.tmp 62) = .bool true := hD 15 (by kernel_rfl)
      have h2 : a.eval (.tmp 66) = .bool true := hD 19 (by kernel_rfl)
      exact gs_val rfl (yr_pick (b := true) rfl h1 h2) (hK _ _ rfl (Ext.refl _))
    · have h1 : a.eval (.tmp 67) = .bool true := hD 20 (by kernel_rfl)
      exact gs_val rfl (yr_move rfl h1) (hK _ _ rfl (Ext.refl _))
    · exact gs_val rfl (yr_move rfl ((hF 0 (fr_of rfl)).trans rfl)) (hK _ _ rfl (Ext.refl _))
    · have h1 : a.eval (.tmp 69) = .slice ao l.length cap := hD 22 (by kernel_rfl)
      exact gs_call rfl (yr_call rfl rfl (show (#[Operand.tmp 69] : Array Operand).map a.eval = #[.slice ao l.length cap] by simp [h1]) (by kernel_rfl)) ((HLo.out _ (HPt.out.ext (yX.trans hE))).mono fun e w' ⟨h1, h2⟩ => ⟨_, h1, rfl, h2⟩) hK
    · exact gs_val rfl (yr_move rfl ((hF 0 (fr_of rfl)).trans rfl)) (hK _ _ rfl (Ext.refl _))
    · have h1 : a.eval (.tmp 71) = .slice ao l.length cap := hD 24 (by kernel_rfl)
      exact gs_call rfl (yr_call rfl rfl (show (#[Operand.tmp 71] : Array Operand).map a.eval = #[.slice ao l.length cap] by simp [h1]) (by kernel_rfl)) ((HLr.out _ (HPt.out.ext (yX.trans hE))).mono fun e w' ⟨h1, h2⟩ => ⟨_, h1, rfl, h2⟩) hK
    · have h1 : a.eval (.tmp 70) = .bool lb := hD 23 (by kernel_rfl)
      have h2 : a.eval (.tmp 72) = .bool lb := hD 25 (by kernel_rfl)
      exact gs_val rfl (yr_eqb rfl h1 h2 (by simp)) (hK _ _ rfl (Ext.refl _))
    · have h1 : a.eval (.tmp 68) = .bool true := hD 21 (by kernel_rfl)
      have h2 : a.eval (.tmp 73) = .bool true := hD 26 (by kernel_rfl)
      exact gs_val rfl (yr_pick (b := true) rfl h1 h2) (hK _ _ rfl (Ext.refl _))
  · intro vals w9 hE9 hR
    obtain ⟨-, -, -, -, -, -, -, -, -, -, -, -, -, -, -, -, -, -, -, -, -, -, -, -, -, -, -, q27, -⟩ := hR
    have e27 : vals 27 = .bool true := q27
    simp only [putF, Act.put, List.length_cons, List.length_nil, List.getD_cons_zero, List.getD_cons_succ, List.setIfInBounds_toArray, List.set_cons_zero, List.set_cons_succ, Nat.reduceAdd]
    refine wpAny_one (i := 28) (v := .bool true) (w' := w9) (by kernel_rfl) rfl (by rfl) (by exact yr_assign rfl e27) ?_
    refine wpAny_done (by kernel_rfl) ?_ _
    simp only [Act.put, List.setIfInBounds_toArray, List.set_cons_zero, List.set_cons_succ]
    go_wp2_with fail
    go_ret
    exact ⟨rfl, HEW.out.trans (yX.trans hE9)⟩
set_option maxRecDepth 100000 in
set_option maxHeartbeats 2000000 in
theorem texts_w4 (l : List Prt) (ao : Option Addr) (cap : Nat) (N : Nms) (w : World) (h : PtV ao cap l w) (hN : N.ok) (hm : Lm w) (hg : greatB l = false) (hlg : lngB N = false) (hv : validB l = true) :
    Calls Tryz.prog 3 #[.slice ao l.length cap, .agg (sv N.all).toArray] w fun e w' => e = .returned (.bool true) ∧ Ext w w' := by
  obtain ⟨i0, hi, hz0, hz1, hz2⟩ := info_parts infoIv
  have Hi := Lib.hid hi
  have Hz0 := Lib.hid hz0
  have Hz1 := Lib.hid hz1
  have Hz2 := Lib.hid hz2
  clear hi hz0 hz1 hz2
  have h40 : l.length ≤ 40 := by
    have := hv
    unfold validB at this
    simp only [Bool.and_eq_true, decide_eq_true_eq] at this
    exact this.1
  have hlen := h.1
  have hcap := h.2.1
  unfold maxLen at hcap
  have hI := names_size hN
  have hR : (w.alloc (.cells (sv N.all).toArray 27)).rangeAt w.heap.size 0 (sv N.all) := by
    intro j v hv
    rw [Nat.zero_add, World.cell?_alloc_new]
    simpa using hv
  have hEW : Ext w (w.alloc (.cells (sv N.all).toArray 27)) := (Ext.refl w).alloc _
  have hz1 : w.heap.size < (w.alloc (.cells (sv N.all).toArray 27)).heap.size := by simp
  have HPt := Lib.hid (h.ext hEW)
  have HEW := Lib.hid hEW
  have HN := Lib.hid hN
  clear h hEW hN
  have HG := Lib.hid hg
  have Hl := Lib.hid (greatB_texts hg)
  have HLN := Lib.hid hlg
  have HNl := Lib.hid (long_names hlg)
  have Hv := Lib.hid hv
  have Hm := Lib.hid (hm.ext HEW.out)
  have HTX := Lib.hid (fun w h hm => ptext_c l ao cap w h Hl.out hm (txtL l) 0 (by unfold txR; rw [hv]; rfl))
  have HRX := Lib.hid (fun w h => rtext_c2 l ao cap w h Hl.out (txtL l) 0 (by unfold txR; rw [hv]; rfl))
  clear hg hlg hm
  have hF : Hid (fldF l = fdsL l) := by rw [Hid]; unfold fldF; rw [hv]; rfl
  obtain ⟨T, hT⟩ : ∃ T, txtL l = T := ⟨_, rfl⟩
  rw [hT] at HTX HRX
  clear hT
  go_enter Tryz.func3, Tryz.ntmps3
  go_upto_region 1 with fail
  generalize w.alloc (.cells (sv N.all).toArray 27) = W0 at *
  generalize w.heap.size = B at hR hz1 ⊢
  go_wp2_with fail
  (with_reducible refine (awake_c _).mono ?_)
  rintro e w1 ⟨rfl, hX1⟩
  go_wp2_with fail
  (with_reducible refine (great_c l ao cap _ _ (HPt.out.ext hX1) HG.out).mono ?_)
  rintro e w2 ⟨rfl, hE2⟩
  have hX2 : Ext W0 w2 := hX1.trans hE2
  have HX1 := Lib.hid hX1
  clear hE2 hX1
  have hRR := rangeAt_ext hR hz1 hX2
  go_wp2_with (refine wpList_load_midg (by rfl) 27 _ rfl B 0 rfl (sv N.all) _ hRR Tryz.underlying27 rfl hI ?_)
  (with_reducible refine (long_c N HN.out _ _ HLN.out).mono ?_)
  rintro e w3 ⟨rfl, hE3⟩
  have hX3 : Ext W0 w3 := hX2.trans hE3
  have HX2 := Lib.hid hX2
  clear hE3 hX2 hRR
  go_wp2_with (first
    | (go_at_call 8; (with_reducible refine (HTX.out _ (HPt.out.ext hX3) (Hm.out.ext hX3)).mono ?_); rintro e w4 ⟨rfl, hE4⟩; have hX4 := hX3.trans hE4; clear hE4)
    | (go_at_call 9; (with_reducible refine (HRX.out _ (HPt.out.ext hX4)).mono ?_); rintro e w5 ⟨rfl, hE5⟩; have hX5 := hX4.trans hE5; clear hE5)
    | (go_at_call 10; (with_reducible refine (rvalid_lit l true ao cap _ (HPt.out.ext hX5) Hl.out Hv.out).mono ?_); rintro e w6 ⟨rfl, hE6⟩; have hX6 := hX5.trans hE6; clear hE6))
  have HX6 := Lib.hid hX6
  have HptE := Lib.hid (HPt.out.ext hX6)
  clear hX6 hX5 hX4 hX3
  go_loopw [9, 34] (fun o i wr => ∃ (j : Nat) (Z : List Int) (ao2 : Option Addr) (cv : Nat), j ≤ l.length ∧ i = .int .i64 (j : Int) ∧ o = .slice ao2 Z.length cv ∧ Z.length ≤ j ∧ Hid (Z = fdsL (l.take j)) ∧ wr.ownsRow w6.heap.size 3 1 o Z.length (iv Z) ∧ Ext w6 wr) (fun _ i _ => l.length - (intOf i).toNat)
  case atStart => exact ⟨0, [], none, 0, Nat.zero_le _, rfl, rfl, by simp, rfl, World.ownsRow_nil _ _ _ _, Ext.refl _⟩
  case round =>
    obtain ⟨j, Z, ao2, cv, hj, rfl, rfl, hZ, HZ, hown, hE⟩ := hrel
    have hEs := hE.size
    by_cases hlt : j < l.length
    · obtain ⟨R, off, rfl, hR0, hc⟩ := HptE.out.2.2 (by rintro rfl; simp at hlt)
      have hRr := hE.lt hR0
      obtain ⟨c0, c1, c2⟩ := hc j hlt
      replace c0 := (hE.cells R _ hR0).trans c0
      replace c1 := (hE.cells R _ hR0).trans c1
      replace c2 := (hE.cells R _ hR0).trans c2
      have HS := Lib.hid (fdsL_snoc l j hlt)
      obtain ⟨p, hpp⟩ : ∃ p, p = l[j] := ⟨_, rfl⟩
      rw [← hpp] at c0 c1 c2 HS
      clear hpp hc
      obtain ⟨k, wd, t⟩ := p
      simp only at c0 c1 c2
      by_cases hk : k = 1
      · subst hk
        have HS2 : Hid (Z = fdsL (l.take (j + 1))) := by rw [Hid, HS.out, ← HZ.out]; simp
        go_wp2_with fail
        go_roundw
        case rel => exact ⟨j + 1, Z, ao2, cv, by omega, by go_num, rfl, by omega, HS2, hown.alloc _, hE.alloc _⟩
        case measure => simp [intOf]; omega
      · have hk1 : (k != 1) = true := by simpa using hk
        have HS2 : Hid (Z ++ [k] = fdsL (l.take (j + 1))) := by rw [Hid, HS.out, ← HZ.out]; simp [hk]
        clear hk
        have hnew : ∀ j u, [Value.int .i64 k][j]? = some u → ((wr.alloc (.cells #[.int .i64 k, .int .i64 wd, .string ⟨t.toArray⟩] 38)).alloc (.cells #[.int .i64 k] 3)).cell? ((⟨wr.heap.size + 1, 0, none⟩ : Addr).add j) = some u := by
          have q := cell_one_new (wr.alloc (.cells #[.int .i64 k, .int .i64 wd, .string ⟨t.toArray⟩] 38)) (.int .i64 k) 3
          rw [World.size_alloc] at q
          exact q
        have Hnew := Lib.hid hnew
        clear hnew
        go_wp2_with (at_builtin; refine wpList_append_own _ rfl _ _ 36 rfl w6.heap.size 3 i0 (.int .i64 0) 1 8 Tryz.underlying36 Hi.out Hz0.out Hz1.out Hz2.out rfl (by decide) _ _ _ rfl ((hown.alloc _).alloc _) ⟨wr.heap.size + 1, 0, none⟩ 1 1 [.int .i64 k] rfl rfl Hnew.out (fun x hx => by simp at hx; subst hx; rfl) (by unfold maxLen; omega) (by omega) (by simp; omega) ?_; intro v' w3 hown' hgrow3 hnil3)
        have hExt := ext_grown (v := .slice ao2 Z.length cv) ((hE.alloc _).alloc _) ((hown.alloc _).alloc _) hgrow3
        obtain ⟨ao3, cv3, rfl⟩ := own_slice hown'
        go_wp2_with fail
        go_roundw
        case rel => exact ⟨j + 1, Z ++ [k], ao3, cv3, by omega, by go_num, by rw [List.length_append]; rfl, by rw [List.length_append, List.length_singleton]; omega, HS2, by rw [iv_app, List.length_append]; exact hown', hExt⟩
        case measure => simp [intOf]; omega
    · obtain rfl : j = l.length := by omega
      have HV : Hid (Z = fldF l) := by rw [Hid, HZ.out, List.take_length, hF.out]
      have hFl : FlV (fldF l) (.slice ao2 Z.length cv) wr := by rw [← HV.out]; exact ⟨ao2, cv, rfl, IsV.of_own hown rfl⟩
      have hXr : Ext W0 wr := HX6.out.trans hE
      clear hown hE hEs
      go_upto_region 15 with fail
      have yX : Ext W0 wr := hXr
      have yR := rangeAt_ext hR hz1 yX
      have yB := yX.lt hz1
      have HFl := Lib.hid hFl
      clear hFl
      obtain ⟨F, hFF⟩ : ∃ F, fldF l = F := ⟨_, rfl⟩
      have HFd := Lib.hid (fun w h => fields_c l ao cap w h Hl.out)
      rw [hFF] at HFl HFd
      clear hFF
      obtain ⟨nv, hnv⟩ : ∃ b, nmOk N = b := ⟨_, rfl⟩
      have HNv := Lib.hid hnv
      clear hnv
      obtain ⟨lb, hlb⟩ : ∃ b, losB l = b := ⟨_, rfl⟩
      have HLo := Lib.hid (fun w h => lossless_c l ao cap w h Hl.out)
      have HLr := Lib.hid (fun w h => rlossless_c l ao cap w h Hl.out)
      rw [hlb] at HLo HLr
      clear hlb
      refine wp_region_growG [47, 48, 49, 50, 51, 52, 53, 54, 55, 56, 57, 58, 59, 60, 61, 62, 63, 64, 65, 66, 67, 68, 69, 70, 71, 72, 73, 74] [fun x _ => x = .string ⟨T.toArray⟩, fun x _ => x = .string ⟨T.toArray⟩, fun x _ => x = .bool true, fun x _ => x = .bool true, fun x _ => x = .int .i64 0, fun x _ => x = .int .i64 0, fun x _ => x = .bool true, fun x _ => x = .bool true, fun x _ => x = .bool true, fun x _ => x = .agg (sv N.all).toArray, fun x _ => x = .bool nv, fun x _ => x = .agg (sv N.all).toArray, fun x _ => x = .bool nv, fun x _ => x = .bool true, fun x _ => x = .bool true, fun x _ => x = .bool true, fun x _ => x = .slice ao l.length cap, FlV F, fun x _ => x = .slice ao2 Z.length cv, fun x _ => x = .bool true, fun x _ => x = .bool true, fun x _ => x = .bool true, fun x _ => x = .slice ao l.length cap, fun x _ => x = .bool lb, fun x _ => x = .slice ao l.length cap, fun x _ => x = .bool lb, fun x _ => x = .bool true, fun x _ => x = .bool true] 1 (by kernel_rfl) (by kernel_rfl) (by kernel_rfl) (by kernel_rfl) ?_ ?_ ?_ ?_
      · intro R hR
        simp only [List.mem_cons, List.not_mem_nil, or_false] at hR
        rcases hR with rfl | rfl | rfl | rfl | rfl | rfl | rfl | rfl | rfl | rfl | rfl | rfl | rfl | rfl | rfl | rfl | rfl | rfl | rfl | rfl | rfl | rfl | rfl | rfl | rfl | rfl | rfl | rfl
        all_goals first
          | exact fun _ _ _ h _ => h
          | exact fun _ _ _ h hE => FlV.ext h hE
      · refine ⟨?_, ?_, ?_, ?_, ?_, ?_, ?_, ?_, ?_, ?_, ?_, ?_, ?_, ?_, ?_, ?_, ?_, ?_, ?_, ?_, ?_, ?_, ?_, ?_, ?_, ?_, ?_, ?_, trivial⟩
        all_goals
          intro j b hjb v w h
          first
            | (cases hjb; done)
            | (cases hjb; exact h)
      · refine ⟨?_, ?_, ?_, ?_, ?_, ?_, ?_, ?_, ?_, ?_, ?_, ?_, ?_, ?_, ?_, ?_, ?_, ?_, ?_, ?_, ?_, ?_, ?_, ?_, ?_, ?_, ?_, ?_, trivial⟩
        all_goals intro a w hE hF hD K hK
        · exact gs_val rfl (yr_move rfl ((hF 5 (fr_of rfl)).trans rfl)) (hK _ _ rfl (Ext.refl _))
        · exact gs_val rfl (yr_move rfl ((hF 7 (fr_of rfl)).trans rfl)) (hK _ _ rfl (Ext.refl _))
        · have h1 : a.eval (.tmp 47) = .string ⟨T.toArray⟩ := hD 0 (by kernel_rfl)
          have h2 : a.eval (.tmp 48) = .string ⟨T.toArray⟩ := hD 1 (by kernel_rfl)
          exact gs_val rfl (yr_eqs rfl h1 h2 (by simp)) (hK _ _ rfl (Ext.refl _))
        · have h1 : a.eval (.tmp 49) = .bool true := hD 2 (by kernel_rfl)
          exact gs_val rfl (yr_move rfl h1) (hK _ _ rfl (Ext.refl _))
        · exact gs_val rfl (yr_move rfl ((hF 6 (fr_of rfl)).trans rfl)) (hK _ _ rfl (Ext.refl _))
        · exact gs_val rfl (yr_move rfl ((hF 8 (fr_of rfl)).trans rfl)) (hK _ _ rfl (Ext.refl _))
        · have h1 : a.eval (.tmp 51) = .int .i64 0 := hD 4 (by kernel_rfl)
          have h2 : a.eval (.tmp 52) = .int .i64 0 := hD 5 (by kernel_rfl)
          exact gs_val rfl (yr_eqe rfl h1 h2 (by simp)) (hK _ _ rfl (Ext.refl _))
        · have h1 : a.eval (.tmp 50) = .bool true := hD 3 (by kernel_rfl)
          have h2 : a.eval (.tmp 53) = .bool true := hD 6 (by kernel_rfl)
          exact gs_val rfl (yr_pick (b := true) rfl h1 h2) (hK _ _ rfl (Ext.refl _))
        · have h1 : a.eval (.tmp 54) = .bool true := hD 7 (by kernel_rfl)
          exact gs_val rfl (yr_move rfl h1) (hK _ _ rfl (Ext.refl _))
        · exact gs_val rfl (yr_load rfl ((hF 3 (fr_of rfl)).trans rfl) (run_loadAt_mid w B 0 _ _ _ (rangeAt_ext yR yB hE) Tryz.underlying27 rfl hI)) (hK _ _ rfl (Ext.refl _))
        · have h1 : a.eval (.tmp 56) = .agg (sv N.all).toArray := hD 9 (by kernel_rfl)
          exact gs_call rfl (yr_call rfl rfl (show (#[Operand.tmp 56] : Array Operand).map a.eval = #[.agg (sv N.all).toArray] by simp [h1]) (by kernel_rfl)) ((names_lit N nv HN.out w HNl.out HNv.out).mono fun e w' ⟨h1, h2⟩ => ⟨_, h1, rfl, h2⟩) hK
        · exact gs_val rfl (yr_load rfl ((hF 3 (fr_of rfl)).trans rfl) (run_loadAt_mid w B 0 _ _ _ (rangeAt_ext yR yB hE) Tryz.underlying27 rfl hI)) (hK _ _ rfl (Ext.refl _))
        · have h1 : a.eval (.tmp 58) = .agg (sv N.all).toArray := hD 11 (by kernel_rfl)
          exact gs_call rfl (yr_call rfl rfl (show (#[Operand.tmp 58] : Array Operand).map a.eval = #[.agg (sv N.all).toArray] by simp [h1]) (by kernel_rfl)) ((names_litr N nv HN.out w HNl.out HNv.out).mono fun e w' ⟨h1, h2⟩ => ⟨_, h1, rfl, h2⟩) hK
        · have h1 : a.eval (.tmp 57) = .bool nv := hD 10 (by kernel_rfl)
          have h2 : a.eval (.tmp 59) = .bool nv := hD 12 (by kernel_rfl)
          exact gs_val rfl (yr_eqb rfl h1 h2 (by simp)) (hK _ _ rfl (Ext.refl _))
        · have h1 : a.eval (.tmp 55) = .bool true := hD 8 (by kernel_rfl)
          have h2 : a.eval (.tmp 60) = .bool true := hD 13 (by kernel_rfl)
          exact gs_val rfl (yr_pick (b := true) rfl h1 h2) (hK _ _ rfl (Ext.refl _))
        · have h1 : a.eval (.tmp 61) = .bool true := hD 14 (by kernel_rfl)
          exact gs_val rfl (yr_move rfl h1) (hK _ _ rfl (Ext.refl _))
        · exact gs_val rfl (yr_move rfl ((hF 0 (fr_of rfl)).trans rfl)) (hK _ _ rfl (Ext.refl _))
        · have h1 : a.eval (.tmp 63) = .slice ao l.length cap := hD 16 (by kernel_rfl)
          exact gs_call rfl (yr_call rfl rfl (show (#[Operand.tmp 63] : Array Operand).map a.eval = #[.slice ao l.length cap] by simp [h1]) (by kernel_rfl)) ((HFd.out _ (HPt.out.ext (yX.trans hE))).mono fun e w' ⟨a1, c1, h1, h2, h3⟩ => ⟨_, h1, ⟨a1, c1, rfl, h2⟩, h3⟩) hK
        · exact gs_val rfl (yr_move rfl ((hF 9 (fr_of rfl)).trans rfl)) (hK _ _ rfl (Ext.refl _))
        · have h1 : FlV F (a.eval (.tmp 64)) w := hD 17 (by kernel_rfl)
          have h2 : a.eval (.tmp 65) = .slice ao2 Z.length cv := hD 18 (by kernel_rfl)
          obtain ⟨a1, c1, e1, e2⟩ := h1
          obtain ⟨a2, c2, e3, e4⟩ := HFl.out
          have e4 := e4.ext hE
          exact gs_call rfl (yr_call rfl rfl (show (#[Operand.tmp 64, Operand.tmp 65] : Array Operand).map a.eval = #[.slice a1 F.length c1, .slice a2 F.length c2] by rw [← e3]; simp [e1, h2]) (by kernel_rfl)) ((eqI_c F a1 a2 c1 c2 w e2 e4).mono fun e w' ⟨h1, h2⟩ => ⟨_, h1, rfl, h2⟩) hK
        · have h1 : a.eval (.tmp 62) = .bool true := hD 15 (by kernel_rfl)
          have h2 : a.eval (.tmp 66) = .bool true := hD 19 (by kernel_rfl)
          exact gs_val rfl (yr_pick (b := true) rfl h1 h2) (hK _ _ rfl (Ext.refl _))
        · have h1 : a.eval (.tmp 67) = .bool true := hD 20 (by kernel_rfl)
          exact gs_val rfl (yr_move rfl h1) (hK _ _ rfl (Ext.refl _))
        · exact gs_val rfl (yr_move rfl ((hF 0 (fr_of rfl)).trans rfl)) (hK _ _ rfl (Ext.refl _))
        · have h1 : a.eval (.tmp 69) = .slice ao l.length cap := hD 22 (by kernel_rfl)
          exact gs_call rfl (yr_call rfl rfl (show (#[Operand.tmp 69] : Array Operand).map a.eval = #[.slice ao l.length cap] by simp [h1]) (by kernel_rfl)) ((HLo.out _ (HPt.out.ext (yX.trans hE))).mono fun e w' ⟨h1, h2⟩ => ⟨_, h1, rfl, h2⟩) hK
        · exact gs_val rfl (yr_move rfl ((hF 0 (fr_of rfl)).trans rfl)) (hK _ _ rfl (Ext.refl _))
        · have h1 : a.eval (.tmp 71) = .slice ao l.length cap := hD 24 (by kernel_rfl)
          exact gs_call rfl (yr_call rfl rfl (show (#[Operand.tmp 71] : Array Operand).map a.eval = #[.slice ao l.length cap] by simp [h1]) (by kernel_rfl)) ((HLr.out _ (HPt.out.ext (yX.trans hE))).mono fun e w' ⟨h1, h2⟩ => ⟨_, h1, rfl, h2⟩) hK
        · have h1 : a.eval (.tmp 70) = .bool lb := hD 23 (by kernel_rfl)
          have h2 : a.eval (.tmp 72) = .bool lb := hD 25 (by kernel_rfl)
          exact gs_val rfl (yr_eqb rfl h1 h2 (by simp)) (hK _ _ rfl (Ext.refl _))
        · have h1 : a.eval (.tmp 68) = .bool true := hD 21 (by kernel_rfl)
          have h2 : a.eval (.tmp 73) = .bool true := hD 26 (by kernel_rfl)
          exact gs_val rfl (yr_pick (b := true) rfl h1 h2) (hK _ _ rfl (Ext.refl _))
      · intro vals w9 hE9 hR
        obtain ⟨-, -, -, -, -, -, -, -, -, -, -, -, -, -, -, -, -, -, -, -, -, -, -, -, -, -, -, q27, -⟩ := hR
        have e27 : vals 27 = .bool true := q27
        simp only [putF, Act.put, List.length_cons, List.length_nil, List.getD_cons_zero, List.getD_cons_succ, List.setIfInBounds_toArray, List.set_cons_zero, List.set_cons_succ, Nat.reduceAdd]
        refine wpAny_one (i := 28) (v := .bool true) (w' := w9) (by kernel_rfl) rfl (by rfl) (by exact yr_assign rfl e27) ?_
        refine wpAny_done (by kernel_rfl) ?_ _
        simp only [Act.put, List.setIfInBounds_toArray, List.set_cons_zero, List.set_cons_succ]
        go_wp2_with fail
        go_ret
        exact ⟨rfl, HEW.out.trans (yX.trans hE9)⟩
theorem texts_walk (l : List Prt) (ao : Option Addr) (cap : Nat) (N : Nms) (w : World) (h : PtV ao cap l w) (hN : N.ok) (hm : Lm w) :
    Calls Tryz.prog 3 #[.slice ao l.length cap, .agg (sv N.all).toArray] w fun e w' => e = .returned (.bool true) ∧ Ext w w' := by
  rcases Bool.eq_false_or_eq_true (greatB l) with hg | hg
  · exact texts_w1 l ao cap N w h hN hg
  · rcases Bool.eq_false_or_eq_true (lngB N) with hlg | hlg
    · exact texts_w2 l ao cap N w h hN hg hlg
    · rcases Bool.eq_false_or_eq_true (validB l) with hv | hv
      · exact texts_w4 l ao cap N w h hN hm hg hlg hv
      · exact texts_w3 l ao cap N w h hN hm hg hlg hv
end Go.Proofs.YticckkadmhklmaaGreatDoor
