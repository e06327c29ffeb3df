/- Locales: the walk of the law LocaleTexts, where the text is read. -/
import Derived.Test.YtnhdmnhfllecgaaGreatDoorQ42
import Derived.Test.YtnhdmnhfllecgaaGreatDoorQ43
namespace Go.Proofs.YtnhdmnhfllecgaaGreatDoor
set_option linter.unusedVariables false
set_option linter.unusedSimpArgs false
open Go.RowKit

set_option maxRecDepth 100000 in
set_option maxHeartbeats 20000000 in
theorem ltx_ok (L : Loc) (s : List UInt8) (w : World) (h : LcV L w) (hb : bgL L) (hm : Lm w) (ht : TabW w) (hNl : ∀ s ∈ L.N.all, s.length ≤ 2000000) (hs : s.length ≤ 6000) (D : LocD) (hp : parL s = .ok D) :
    Calls Tryz.prog 3 #[.agg L.vals.toArray, .string ⟨s.toArray⟩] w fun e w' => e = .returned (.bool true) ∧ Ext w w' := by
  have d6 : decide (6000 < (s.length : Int)) = false := by simp; omega
  have hIL := loc_size h.1
  have hE0 : Ext w (w.alloc (.cells L.vals.toArray 30)) := (Ext.refl w).alloc _
  have hB := LcB.new L w 30
  have hR := hB.2
  have HzB := Lib.hid hB.1
  have HE0 := Lib.hid hE0
  have HAw : Hid (∀ w', Ext w w' → Calls Tryz.prog 5 #[] w' fun e w'' => e = .returned (.bool true) ∧ Ext w' w'') := fun w' hE => awake55_c w' (hm.ext hE)
  have HFw : Hid (∀ w', Ext w w' → Calls Tryz.prog 6 #[.agg L.vals.toArray] w' (fun e w'' => ∃ b : Bool, e = .returned (.bool b) ∧ (b = true → shL L) ∧ Ext w' w'')) := fun w' hE => few_c L w' (h.ext hE) hb (hm.ext hE) hNl
  obtain ⟨T, hT⟩ : ∃ T, txV L = T := ⟨_, rfl⟩
  obtain ⟨E, hEe⟩ : ∃ E : Int, (txE L : Int) = E := ⟨_, rfl⟩
  obtain ⟨vb, hvb⟩ : ∃ vb, validLB L = vb := ⟨_, rfl⟩
  have HTx : Hid (∀ w', shL L → Ext w w' → Calls Tryz.prog 7 #[.agg L.vals.toArray] w' fun e w'' => e = .returned (.tuple #[.string ⟨T.toArray⟩, .int .i64 E]) ∧ Ext w' w'') := fun w' hs hE => by
    have q := text55_c L w' (h.ext hE) hs (hm.ext hE) (ht.ext hE) hNl
    rwa [hT, hEe] at q
  have HTr : Hid (∀ w', shL L → Ext w w' → Calls Tryz.prog 8 #[.agg L.vals.toArray] w' fun e w'' => e = .returned (.tuple #[.string ⟨T.toArray⟩, .int .i64 E]) ∧ Ext w' w'') := fun w' hs hE => by
    have q := rtext55_c L w' (h.ext hE) hs hNl
    rwa [hT, hEe] at q
  have HVa0 : Hid (shL L → ∀ w', Ext w w' → Calls Tryz.prog 9 #[.agg L.vals.toArray] w' fun e w'' => e = .returned (.bool vb) ∧ Ext w' w'') := fun hs w' hE => valid_c L vb w' (h.ext hE) hs (hm.ext hE) hNl hvb
  have HVr0 : Hid (shL L → ∀ w', Ext w w' → Calls Tryz.prog 10 #[.agg L.vals.toArray] w' fun e w'' => e = .returned (.bool vb) ∧ Ext w' w'') := fun hs w' hE => rvalid_c L vb w' (h.ext hE) hs hNl hvb
  have HPa : Hid (∀ w', Ext w w' → Calls Tryz.prog 11 #[.string ⟨s.toArray⟩] w' fun e w'' => (∃ M, Dat M D ∧ LcV M w'' ∧ e = .returned (.tuple #[.agg M.vals.toArray, .agg #[.int .i64 0, .int .i64 0], .int .i64 0])) ∧ Ext w' w'') := fun w' hE => (parse_c s w' (hm.ext hE) (by omega) (lines_in hs)).mono fun e w'' q => ⟨by have := q.1; unfold parOut at this; rw [hp] at this; obtain ⟨M, m1, m2, m3, m4⟩ := this; exact ⟨M, m1, m3, m4⟩, q.2⟩
  have HPr : Hid (∀ w', Ext w w' → Calls Tryz.prog 12 #[.string ⟨s.toArray⟩] w' fun e w'' => (∃ M, Dat M D ∧ LcV M w'' ∧ e = .returned (.tuple #[.agg M.vals.toArray, .agg #[.int .i64 0, .int .i64 0], .int .i64 0])) ∧ Ext w' w'') := fun w' hE => (rparse_c s w' hs).mono fun e w'' q => ⟨by have := q.1; unfold parOut at this; rw [hp] at this; obtain ⟨M, m1, m2, m3, m4⟩ := this; exact ⟨M, m1, m3, m4⟩, q.2⟩
  clear h hb hm ht hNl hB hE0 hs hT hEe hvb
  go_enter Tryz.func3, Tryz.ntmps3
  go_upto_region 1 with fail
  have hRg : ∀ w', Ext (w.alloc (.cells L.vals.toArray 30)) w' → w'.rangeAt w.heap.size 0 L.vals := fun w' hE => rng_ext hR HzB.out hE
  generalize w.alloc (.cells L.vals.toArray 30) = W0 at *
  generalize w.heap.size = B at *
  have HRg0 := Lib.hid hRg
  clear hRg
  go_upto_region 7 with (first
    | (go_at_call 5; (with_reducible refine (HAw.out _ HE0.out).mono ?_); rintro e w1 ⟨rfl, hE1⟩; have hR1 := HRg0.out _ hE1; have HY1 := Lib.hid hE1; have HX1 := Lib.hid (HE0.out.trans hE1); clear hE1)
    | (refine load_midg (by rfl) 30 _ rfl B 0 rfl L.vals _ hR1 Tryz.underlying30 rfl hIL ?_)
    | (go_at_call 6; (with_reducible refine (HFw.out _ HX1.out).mono ?_); rintro e w2 ⟨b, rfl, hsh, hE2⟩; have HY2 := Lib.hid (HY1.out.trans hE2); have hR2 := HRg0.out _ HY2.out; have HX2 := Lib.hid (HX1.out.trans hE2); clear hE2; cases b)
    | (refine load_midg (by rfl) 30 _ rfl B 0 rfl L.vals _ hR2 Tryz.underlying30 rfl hIL ?_)
    | (go_at_call 7; (with_reducible refine (HTx.out _ (hsh (by trivial)) HX2.out).mono ?_); rintro e w3 ⟨rfl, hE3⟩; have HY3 := Lib.hid (HY2.out.trans hE3); have hR3 := HRg0.out _ HY3.out; have HX3 := Lib.hid (HX2.out.trans hE3); clear hE3)
    | (refine load_midg (by rfl) 30 _ rfl B 0 rfl L.vals _ hR3 Tryz.underlying30 rfl hIL ?_)
    | (go_at_call 8; (with_reducible refine (HTr.out _ (hsh (by trivial)) HX3.out).mono ?_); rintro e w4 ⟨rfl, hE4⟩; have HY4 := Lib.hid (HY3.out.trans hE4); have HX4 := Lib.hid (HX3.out.trans hE4); clear hE4))
  all_goals first
    | (go_ret; exact ⟨rfl, HX2.out⟩)
    | skip
  have HVa := Lib.hid (HVa0.out (hsh (by trivial)))
  have HVr := Lib.hid (HVr0.out (hsh (by trivial)))
  clear hR3 hR2 hR1 hR hsh HVa0 HVr0 HTx HTr HFw HAw
  refine wp_region_growG [35, 36, 37, 38, 39, 40, 41, 42, 43, 44, 45, 46, 47, 48, 49] [fun x _ => x = .string ⟨T.toArray⟩, fun x _ => x = .string ⟨T.toArray⟩, fun x _ => x = .bool false, fun x _ => x = .bool false, fun x _ => x = .int .i64 E, fun x _ => x = .int .i64 E, fun x _ => x = .bool false, fun x _ => x = .bool false, fun x _ => x = .bool false, fun x _ => x = .agg L.vals.toArray, fun x _ => x = .bool vb, fun x _ => x = .agg L.vals.toArray, fun x _ => x = .bool vb, fun x _ => x = .bool false, fun x _ => x = .bool false] 0 (by kernel_rfl) (by kernel_rfl) (by kernel_rfl) (by kernel_rfl) ?_ ?_ ?_ ?_
  · intro Rl hRl
    simp only [List.mem_cons, List.not_mem_nil, or_false] at hRl
    rcases hRl with rfl | rfl | rfl | rfl | rfl | rfl | rfl | rfl | rfl | rfl | rfl | rfl | rfl | rfl | rfl
    all_goals exact fun _ _ _ h _ => h
  · refine ⟨?_, ?_, ?_, ?_, ?_, ?_, ?_, ?_, ?_, ?_, ?_, ?_, ?_, ?_, ?_, trivial⟩
    all_goals
      intro j b hjb v w h
      first
        | (cases hjb; done)
        | (cases hjb; exact h)
  · refine ⟨?_, ?_, ?_, ?_, ?_, ?_, ?_, ?_, ?_, ?_, ?_, ?_, ?_, ?_, ?_, trivial⟩
    all_goals intro a w hE hF hD K hK
    · exact gs_val rfl (yr_move rfl ((hF 5 (fr_of rfl)).trans rfl)) (hK _ _ rfl (Ext.refl _))
    · exact gs_val rfl (yr_move rfl ((hF 7 (fr_of rfl)).trans rfl)) (hK _ _ rfl (Ext.refl _))
    · have u35 : a.eval (.tmp 35) = .string ⟨T.toArray⟩ := hD 0 (by kernel_rfl)
      have u36 : a.eval (.tmp 36) = .string ⟨T.toArray⟩ := hD 1 (by kernel_rfl)
      exact gs_val rfl (yr_nes rfl u35 u36) (hK _ _ rfl (Ext.refl _))
    · have u37 : a.eval (.tmp 37) = .bool false := hD 2 (by kernel_rfl)
      exact gs_val rfl (yr_move rfl u37) (hK _ _ rfl (Ext.refl _))
    · exact gs_val rfl (yr_move rfl ((hF 6 (fr_of rfl)).trans rfl)) (hK _ _ rfl (Ext.refl _))
    · exact gs_val rfl (yr_move rfl ((hF 8 (fr_of rfl)).trans rfl)) (hK _ _ rfl (Ext.refl _))
    · have u39 : a.eval (.tmp 39) = .int .i64 E := hD 4 (by kernel_rfl)
      have u40 : a.eval (.tmp 40) = .int .i64 E := hD 5 (by kernel_rfl)
      exact gs_val rfl (yr_nei rfl u39 u40) (hK _ _ rfl (Ext.refl _))
    · have u38 : a.eval (.tmp 38) = .bool false := hD 3 (by kernel_rfl)
      have u41 : a.eval (.tmp 41) = .bool false := hD 6 (by kernel_rfl)
      exact gs_val rfl (yr_pick (b := false) rfl u38 u41) (hK _ _ rfl (Ext.refl _))
    · have u42 : a.eval (.tmp 42) = .bool false := hD 7 (by kernel_rfl)
      exact gs_val rfl (yr_move rfl u42) (hK _ _ rfl (Ext.refl _))
    · exact gs_val rfl (yr_load rfl ((hF 2 (fr_of rfl)).trans rfl) (run_loadAt_mid w B 0 _ _ _ (HRg0.out w (HY4.out.trans hE)) Tryz.underlying30 rfl hIL)) (hK _ _ rfl (Ext.refl _))
    · have u44 : a.eval (.tmp 44) = .agg L.vals.toArray := hD 9 (by kernel_rfl)
      exact gs_call rfl (yr_call rfl rfl (show (#[Operand.tmp 44] : Array Operand).map a.eval = #[.agg L.vals.toArray] by simp [u44]) (by kernel_rfl)) ((HVa.out w (HX4.out.trans hE)).mono fun e w' ⟨h1, h2⟩ => ⟨_, h1, rfl, h2⟩) hK
    · exact gs_val rfl (yr_load rfl ((hF 2 (fr_of rfl)).trans rfl) (run_loadAt_mid w B 0 _ _ _ (HRg0.out w (HY4.out.trans hE)) Tryz.underlying30 rfl hIL)) (hK _ _ rfl (Ext.refl _))
    · have u46 : a.eval (.tmp 46) = .agg L.vals.toArray := hD 11 (by kernel_rfl)
      exact gs_call rfl (yr_call rfl rfl (show (#[Operand.tmp 46] : Array Operand).map a.eval = #[.agg L.vals.toArray] by simp [u46]) (by kernel_rfl)) ((HVr.out w (HX4.out.trans hE)).mono fun e w' ⟨h1, h2⟩ => ⟨_, h1, rfl, h2⟩) hK
    · have u45 : a.eval (.tmp 45) = .bool vb := hD 10 (by kernel_rfl)
      have u47 : a.eval (.tmp 47) = .bool vb := hD 12 (by kernel_rfl)
      exact gs_val rfl (yr_neb rfl u45 u47) (hK _ _ rfl (Ext.refl _))
    · have u43 : a.eval (.tmp 43) = .bool false := hD 8 (by kernel_rfl)
      have u48 : a.eval (.tmp 48) = .bool false := hD 13 (by kernel_rfl)
      exact gs_val rfl (yr_pick (b := false) rfl u43 u48) (hK _ _ rfl (Ext.refl _))
  intro vals wz hEz hRz
  obtain ⟨-, -, -, -, -, -, -, -, -, -, -, -, -, -, h14, -⟩ := hRz
  have e49 : vals 14 = .bool false := h14
  refine wpAny_done (by kernel_rfl) ?_ _
  simp only [putF, Act.put, List.length_cons, List.length_nil, List.getD_cons_zero, List.getD_cons_succ, List.setIfInBounds_toArray, List.set_cons_zero, List.set_cons_succ, Nat.reduceAdd, e49]
  clear e49
  have HXz := Lib.hid (HX4.out.trans hEz)
  clear hEz
  go_wp2_with (first
    | (go_at_call 11; (with_reducible refine (HPa.out _ HXz.out).mono ?_); rintro e w5 ⟨⟨M, m1, m2, rfl⟩, hE5⟩; have Hm1 := Lib.hid m1; have Hm2 := Lib.hid m2; clear m1 m2; have HX5 := Lib.hid (HXz.out.trans hE5); clear hE5)
    | (refine wpList_store_loc (op := ⟨none, .store 30 (.tmp 9) (.tmp 53), _, _, _, _⟩) rfl rfl M.vals rfl rfl (by kernel_rfl) rfl (Loc.len Hm2.out.1) (loc_one M) ?_; intro w6 hE6 hl6 hr6 ht6)
    | (refine wpList_store_pos (op := ⟨none, .store 39 (.tmp 10) (.tmp 54), _, _, _, _⟩) rfl rfl w5 w5.heap.size 0 0 M.vals rfl rfl hE6 rfl hl6 hr6 ht6 ?_; intro w7 hE7 hl7 hr7 p70 p71; have HY7 := Lib.hid hE7; have HX7 := Lib.hid (HX5.out.trans hE7); clear hE6 hl6 hr6 ht6 hE7)
    | (go_at_call 12; (with_reducible refine (HPr.out _ HX7.out).mono ?_); rintro e w8 ⟨⟨N, n1, n2, rfl⟩, hE8⟩; have Hn1 := Lib.hid n1; have Hn2 := Lib.hid n2; clear n1 n2; have hr8 := rng_ext hr7 (by omega) hE8; have p80 := (hE8.cells _ 0 hl7).trans p70; have p81 := (hE8.cells _ 1 hl7).trans p71; have hl8 := hE8.lt hl7; have HY8 := Lib.hid (HY7.out.trans hE8); have HX8 := Lib.hid (HX7.out.trans hE8); clear hE8 hr7 p70 p71)
    | (refine wpList_store_loc (op := ⟨none, .store 30 (.tmp 12) (.tmp 59), _, _, _, _⟩) rfl rfl N.vals rfl rfl (by kernel_rfl) rfl (Loc.len Hn2.out.1) (loc_one N) ?_; intro w9 hE9 hl9 hr9 ht9)
    | (refine wpList_store_pos (op := ⟨none, .store 39 (.tmp 13) (.tmp 60), _, _, _, _⟩) rfl rfl w8 w8.heap.size 0 0 N.vals rfl rfl hE9 rfl hl9 hr9 ht9 ?_; intro wa hEa hla hra pa0 pa1; have hrb := rng_ext hr8 (by omega) hEa; have pb0 := (hEa.cells _ 0 hl8).trans p80; have pb1 := (hEa.cells _ 1 hl8).trans p81; have hlb := hEa.lt hl8; have HXa := Lib.hid (HX8.out.trans hEa); have HSm := Lib.hid (same_c M N wa (Hm2.out.ext (HY8.out.trans hEa)) (Hn2.out.ext hEa) (Hm1.out.sam Hn1.out)); have hIM := loc_size Hm2.out.1; have hIN := loc_size Hn2.out.1; have HQ := Lib.hid (trivial); clear hE9 hl9 hr9 ht9 hEa hr8 p80 p81)
    | (refine load_midg (by rfl) 30 _ rfl w5.heap.size 0 rfl M.vals _ hrb Tryz.underlying30 rfl hIM ?_)
    | (refine load_midg (by rfl) 30 _ rfl w8.heap.size 0 rfl N.vals _ hra Tryz.underlying30 rfl hIN ?_)
    | (go_at_call 13; (with_reducible refine HSm.out.mono ?_); rintro e wb ⟨rfl, hEb⟩; have pc0 := (hEb.cells _ 0 hlb).trans pb0; have pc1 := (hEb.cells _ 1 hlb).trans pb1; have pd0 := (hEb.cells _ 0 hla).trans pa0; have pd1 := (hEb.cells _ 1 hla).trans pa1; have hlc := hEb.lt hlb; have hld := hEb.lt hla; have HXb := Lib.hid (HXa.out.trans hEb); clear hEb hra hrb pa0 pa1 pb0 pb1))
  go_ret
  exact ⟨rfl, HXb.out⟩
end Go.Proofs.YtnhdmnhfllecgaaGreatDoor
