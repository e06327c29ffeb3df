/- Locales: the walk of the law LocaleBack, whole. -/
import Derived.Test.YtnhdmnhfllecgaaGreatDoorQ40
namespace Go.Proofs.YtnhdmnhfllecgaaGreatDoor
set_option linter.unusedVariables false
set_option linter.unusedSimpArgs false
open Go.RowKit

theorem zero_at2 {w : World} {B : Nat} (h : w.rangeAt B 0 LocD.zero.loc.vals) : w.cell? ⟨B, 0, none⟩ = some (.string ⟨#[]⟩) ∧ w.cell? ⟨B, 41, none⟩ = some (.slice none 0 0) := ⟨h 0 _ rfl, h 41 _ rfl⟩
set_option maxRecDepth 100000 in
set_option maxHeartbeats 20000000 in
theorem lback_y (L : Loc) (s : List UInt8) (w : World) (h : LcV L w) (hb : bgL L) (hm : Lm w) (ht : TabW w) (hNl : ∀ s ∈ L.N.all, s.length ≤ 2000000) (hv : validLB L = true) (hs : s.length ≤ 6000) :
    Calls Tryz.prog 4 #[.agg L.vals.toArray, .string ⟨s.toArray⟩] w fun e w' => e = .returned (.bool true) ∧ Ext w w' := by
  have d6 : decide (6000 < (s.length : Int)) = false := by simp; omega
  have Hs6 := Lib.hid hs
  have ts : (s == s) = true := by simp
  have hIL := loc_size h.1
  have hE0 : Ext w (w.alloc (.cells L.vals.toArray 30)) := (Ext.refl w).alloc _
  have hB := LcB.new L w 30
  have hR := hB.2
  have HzB := Lib.hid hB.1
  have HE0 := Lib.hid hE0
  have HAw : Hid (∀ w', Ext w w' → Calls Tryz.prog 5 #[] w' fun e w'' => e = .returned (.bool true) ∧ Ext w' w'') := fun w' hE => awake55_c w' (hm.ext hE)
  have HFw : Hid (∀ w', Ext w w' → Calls Tryz.prog 6 #[.agg L.vals.toArray] w' (fun e w'' => ∃ b : Bool, e = .returned (.bool b) ∧ (b = true → shL L) ∧ Ext w' w'')) := fun w' hE => few_c L w' (h.ext hE) hb (hm.ext hE) hNl
  have HPs : Hid (∀ w', s.length ≤ 6000 → Ext w w' → Calls Tryz.prog 11 #[.string ⟨s.toArray⟩] w' fun e w'' => ((∃ ec ln c : Nat, ec ≠ 0 ∧ e = .returned (.tuple #[.agg LocD.zero.loc.vals.toArray, .agg #[.int .i64 (ln : Int), .int .i64 (c : Int)], .int .i64 (ec : Int)])) ∨
    (∃ M, validLB M = true ∧ txL M = s ∧ shL M ∧ (∀ a ∈ M.N.all, a.length ≤ 2000000) ∧ LcV M w'' ∧ e = .returned (.tuple #[.agg M.vals.toArray, .agg #[.int .i64 0, .int .i64 0], .int .i64 0]))) ∧ Ext w' w'') := fun w' hs hE => parse_s s w' (hm.ext hE) hs
  have HTM : Hid (∀ w' M, Ext w w' → LcV M w' → shL M → (∀ a ∈ M.N.all, a.length ≤ 2000000) → validLB M = true → txL M = s → Calls Tryz.prog 7 #[.agg M.vals.toArray] w' fun e w'' => e = .returned (.tuple #[.string ⟨s.toArray⟩, .int .i64 0]) ∧ Ext w' w'') := fun w' M hE hV hs hN hv hs2 => by
    have q := text55_c M w' hV hs (hm.ext hE) (ht.ext hE) hN
    have e1 : txE M = 0 := by unfold txE; rw [if_pos hv]
    have e2 : txV M = s := by unfold txV; rw [if_pos hv]; exact hs2
    rwa [e1, e2] at q
  have HVM : Hid (∀ w' M, Ext w w' → LcV M w' → shL M → (∀ a ∈ M.N.all, a.length ≤ 2000000) → validLB M = true → Calls Tryz.prog 9 #[.agg M.vals.toArray] w' fun e w'' => e = .returned (.bool true) ∧ Ext w' w'') := fun w' M hE hV hs hN hv => valid_c M true w' hV hs (hm.ext hE) hN hv
  have Hh := Lib.hid h
  have HTx : Hid (∀ w', shL L → Ext w w' → Calls Tryz.prog 7 #[.agg L.vals.toArray] w' fun e w'' => e = .returned (.tuple #[.string ⟨(txL L).toArray⟩, .int .i64 0]) ∧ Ext w' w'') := fun w' hs hE => by
    have q := text55_c L w' (h.ext hE) hs (hm.ext hE) (ht.ext hE) hNl
    have e1 : txE L = 0 := by unfold txE; rw [if_pos hv]
    have e2 : txV L = txL L := by unfold txV; rw [if_pos hv]
    rwa [e1, e2] at q
  have HPa : Hid (∀ w', Ext w w' → Calls Tryz.prog 11 #[.string ⟨(txL L).toArray⟩] w' fun e w'' => (∃ M, SamL M L ∧ LcV M w'' ∧ e = .returned (.tuple #[.agg M.vals.toArray, .agg #[.int .i64 0, .int .i64 0], .int .i64 0])) ∧ Ext w' w'') := fun w' hE => parse_tx L w' hv h.1 (hm.ext hE)
  obtain ⟨T, hT⟩ : ∃ T, T = txL L := ⟨_, rfl⟩
  rw [← hT] at HTx HPa
  clear h hb hm ht hNl hB hE0 hv hT
  clear hs
  go_enter Tryz.func4, Tryz.ntmps4
  go_upto_region 1 with fail
  generalize w.alloc (.cells L.vals.toArray 30) = W0 at *
  generalize w.heap.size = B at *
  go_wp2_with (first
    | (go_at_call 5; (with_reducible refine (HAw.out _ HE0.out).mono ?_); rintro e w1 ⟨rfl, hE1⟩; have hR1 := rng_ext hR HzB.out hE1; have hB1 := hE1.lt HzB.out; have HX1 := Lib.hid (HE0.out.trans hE1); clear hE1)
    | (refine load_midg (by rfl) 30 _ rfl B 0 rfl L.vals _ hR1 Tryz.underlying30 rfl hIL ?_)
    | (go_at_call 6; (with_reducible refine (HFw.out _ HX1.out).mono ?_); rintro e w2 ⟨b, rfl, hsh, hE2⟩; have hR2 := rng_ext hR1 hB1 hE2; have hB2 := hE2.lt hB1; have HX2 := Lib.hid (HX1.out.trans hE2); clear hE2; cases b)
    | (refine load_midg (by rfl) 30 _ rfl B 0 rfl L.vals _ hR2 Tryz.underlying30 rfl hIL ?_)
    | (go_at_call 7; (with_reducible refine (HTx.out _ (hsh (by trivial)) HX2.out).mono ?_); rintro e w3 ⟨rfl, hE3⟩; have hR3 := rng_ext hR2 hB2 hE3; have hB3 := hE3.lt hB2; have HX3 := Lib.hid (HX2.out.trans hE3); clear hE3)
    | (go_at_call 11; (with_reducible refine (HPa.out _ HX3.out).mono ?_); rintro e w4 ⟨⟨M, m1, m2, rfl⟩, hE4⟩; have Hm1 := Lib.hid m1; have Hm2 := Lib.hid m2; have hR4 := rng_ext hR3 hB3 hE4; have hB4 := hE4.lt hB3; have HX4 := Lib.hid (HX3.out.trans hE4); clear hE4 m1 m2)
    | (refine wpList_store_loc (op := ⟨none, .store 30 (.tmp 7) (.tmp 35), _, _, _, _⟩) rfl rfl M.vals rfl rfl (by kernel_rfl) rfl (Loc.len Hm2.out.1) (loc_one M) ?_; intro w5 hE5 hl5 hr5 ht5)
    | (refine wpList_store_pos (op := ⟨none, .store 39 (.tmp 8) (.tmp 36), _, _, _, _⟩) rfl rfl w4 w4.heap.size 0 0 M.vals rfl rfl hE5 rfl hl5 hr5 ht5 ?_; intro w6 hE6 hl6 hr6 p60 p61; have hR6 := rng_ext hR4 hB4 hE6; have hB6 := hE6.lt hB4; have HX6 := Lib.hid (HX4.out.trans hE6); have HSm := Lib.hid (same_c M L w6 (Hm2.out.ext hE6) (Hh.out.ext HX6.out) Hm1.out); have hI6 := loc_size Hm2.out.1; clear hE5 hl5 hr5 ht5 hE6)
    | (refine load_midg (by rfl) 30 _ rfl w4.heap.size 0 rfl M.vals _ hr6 Tryz.underlying30 rfl hI6 ?_)
    | (refine load_midg (by rfl) 30 _ rfl B 0 rfl L.vals _ hR6 Tryz.underlying30 rfl hIL ?_)
    | (go_at_call 13; (with_reducible refine HSm.out.mono ?_); rintro e w7 ⟨rfl, hE7⟩; have HX7 := Lib.hid (HX6.out.trans hE7); clear hE7 hr6 p60 p61 hl6))
  all_goals first
    | (go_ret; exact ⟨rfl, HX2.out⟩)
    | (clear HPa HTx HSm HFw HAw hR6 hR4 hR3 hR2 hR1 hR
       clear HX1 HX2 HX3 HX4 HX6
       go_wp2_with (first
        | (go_at_call 11; (with_reducible refine (HPs.out _ Hs6.out HX7.out).mono ?_); rintro e w8 ⟨h8, hE8⟩; have HX8 := Lib.hid (HX7.out.trans hE8); clear hE8; rcases h8 with ⟨ec, ln, cc, hec, rfl⟩ | ⟨N, n1, n2, n3, n4, n5, rfl⟩; (have t1 : ((ec : Int) == 0) = false := by rw [beq_eq_false_iff_ne]; omega); (have t2 : ((ec : Int) != 0) = true := by rw [bne, t1]; rfl); rotate_left; (have Hn1 := Lib.hid n1; have Hn2 := Lib.hid n2; have Hn3 := Lib.hid n3; have Hn4 := Lib.hid n4; have Hn5 := Lib.hid n5; clear n1 n2 n3 n4 n5); rotate_right)
        | (refine wpList_store_loc (op := ⟨none, .store 30 (.tmp 10) (.tmp 60), _, _, _, _⟩) rfl rfl N.vals rfl rfl (by kernel_rfl) rfl (Loc.len Hn5.out.1) (loc_one N) ?_; intro w9 hE9 hl9 hr9 ht9)
        | (refine wpList_store_pos (op := ⟨none, .store 39 (.tmp 11) (.tmp 61), _, _, _, _⟩) rfl rfl w8 w8.heap.size 0 0 N.vals rfl rfl hE9 rfl hl9 hr9 ht9 ?_; intro wa hEa hla hra pa0 pa1; have HXa := Lib.hid (HX8.out.trans hEa); have HNa := Lib.hid (Hn5.out.ext hEa); have hIa := loc_size Hn5.out.1; clear hE9 hl9 hr9 ht9 hEa)
        | (refine wpList_store_loc (op := ⟨none, .store 30 (.tmp 10) (.tmp 60), _, _, _, _⟩) rfl rfl LocD.zero.loc.vals rfl rfl (by kernel_rfl) rfl zeroV_len (loc_one LocD.zero.loc) ?_; intro w9 hE9 hl9 hr9 ht9)
        | (refine wpList_store_pos (op := ⟨none, .store 39 (.tmp 11) (.tmp 61), _, _, _, _⟩) rfl rfl w8 w8.heap.size (ln : Int) (cc : Int) LocD.zero.loc.vals rfl rfl hE9 rfl hl9 hr9 ht9 ?_; intro wa hEa hla hra pa0 pa1; have HXa := Lib.hid (HX8.out.trans hEa); obtain ⟨z0, z41⟩ := zero_at2 hra; clear hE9 hl9 hr9 ht9 hEa hra)
        | (refine load_midg (by rfl) 30 _ rfl w8.heap.size 0 rfl N.vals _ hra Tryz.underlying30 rfl hIa ?_)
        | (go_at_call 7; (with_reducible refine (HTM.out _ N HXa.out HNa.out Hn3.out Hn4.out Hn1.out Hn2.out).mono ?_); rintro e wb ⟨rfl, hEb⟩; have hrb := rng_ext hra (by omega) hEb; have pb0 := (hEb.cells _ 0 hla).trans pa0; have pb1 := (hEb.cells _ 1 hla).trans pa1; have HXb := Lib.hid (HXa.out.trans hEb); have HNb := Lib.hid (HNa.out.ext hEb); clear hEb)
        | (refine load_midg (by rfl) 30 _ rfl w8.heap.size 0 rfl N.vals _ hrb Tryz.underlying30 rfl hIa ?_)
        | (go_at_call 9; (with_reducible refine (HVM.out _ N HXb.out HNb.out Hn3.out Hn4.out Hn1.out).mono ?_); rintro e wc ⟨rfl, hEc⟩; have HXc := Lib.hid (HXb.out.trans hEc); clear hEc))
       all_goals
         go_ret
         first
           | exact ⟨rfl, HXa.out⟩
           | exact ⟨rfl, HXc.out⟩)
end Go.Proofs.YtnhdmnhfllecgaaGreatDoor
