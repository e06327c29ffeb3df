/- Recurrence rules: the walks of mapped, at numbers and at weekdays. -/
import Derived.Test.YtgndogpgfgliaaaGreatDoorQ23
import Derived.Test.YtgndogpgfgliaaaGreatDoorQ20
namespace Go.Proofs.YtgndogpgfgliaaaGreatDoor
set_option linter.unusedVariables false
set_option linter.unnecessarySimpa false
set_option linter.unusedSimpArgs false
open Go.RowKit

theorem map_take_succ {α β : Type} (g : α → β) (l : List α) (j : Nat) (h : j < l.length) : (l.take (j + 1)).map g = (l.take j).map g ++ [g l[j]] := by
  rw [List.take_succ_eq_append_getElem h, List.map_append]; rfl
set_option maxRecDepth 100000 in
set_option maxHeartbeats 1000000 in
theorem mapI_c (g : Int → List UInt8) (fid : Nat) (zs : List Int) (ao : Option Addr) (cap : Nat) (X : List UInt8) (w : World) (hcf : ∀ xs w', (callFunc fid xs).run Tryz.prog w' = .ok (.enter fid xs) w') (hV : IsV ao cap zs w)
    (hF : ∀ n ∈ zs, ∀ W, Calls Tryz.prog fid #[.int .i64 n] W fun e w' => e = .returned (.string ⟨(g n).toArray⟩) ∧ Ext W w') (hg : ∀ n ∈ zs, (g n).length ≤ 100) (hn : zs.length ≤ 1000) (hX : wordsT (zs.map g) = X) :
    Calls Tryz.prog 43 #[.slice ao zs.length cap, .func (.func fid) #[] #[]] w fun e w' => e = .returned (.string ⟨X.toArray⟩) ∧ Ext w w' := by
  have hcap := hV.2.1
  unfold maxLen at hcap
  have hlc := hV.1
  have HL := Lib.hid hV.2.2
  have HFn := Lib.hid hF
  have HJ : Hid (∀ (base : Nat) (ao : Option Addr) (cap : Nat) (W : World), W.ownsRow base 9 1 (.slice ao zs.length cap) zs.length (sv (zs.map g)) → Calls Tryz.prog 102 #[.slice ao zs.length cap] W fun e w' => e = .returned (.string ⟨X.toArray⟩) ∧ Ext W w') := fun base ao cap W q => by
    have e : zs.length = (zs.map g).length := by rw [List.length_map]
    rw [e] at q ⊢
    exact words_c (zs.map g) base ao cap X W q (by rw [List.length_map]; omega) (fun a ha => by
      obtain ⟨n, hn, rfl⟩ := List.mem_map.1 ha
      exact hg n hn) hX
  obtain ⟨i0, hif, hz0, hz1, hz2⟩ := info_parts infoStr
  have Hi := Lib.hid hif
  have Hz0 := Lib.hid hz0
  have Hz1 := Lib.hid hz1
  have Hz2 := Lib.hid hz2
  have HTk : Hid (∀ j (h : j < zs.length), (zs.take (j + 1)).map g = (zs.take j).map g ++ [g zs[j]]) := fun j h => map_take_succ g zs j h
  clear hif hz0 hz1 hz2 hX hV hF hg
  go_enter Tryz.func43, Tryz.ntmps43
  go_wp2_with fail
  go_loopw [5, 10] (fun o i wr => ∃ (j : Nat) (ao2 : Option Addr) (cv : Nat), j ≤ zs.length ∧ o = .slice ao2 j cv ∧ i = .int .i64 (j : Int) ∧ wr.ownsRow w.heap.size 9 1 o j (sv ((zs.take j).map g)) ∧ Ext w wr) (fun _ i _ => zs.length - (intOf i).toNat)
  case atStart => exact ⟨0, none, 0, Nat.zero_le _, rfl, rfl, World.ownsRow_nil _ _ _ _, Ext.refl _⟩
  case round =>
    obtain ⟨j, ao2, cv, hj, rfl, rfl, hown, hE⟩ := hrel
    by_cases hlt : j < zs.length
    · obtain ⟨R, off, rfl, hR⟩ := HL.out (by rintro rfl; simp at hlt)
      have hRr := hR.ext hE
      have hRz := hRr.1
      have x0 := hRr.2 j hlt
      have Htk := Lib.hid (HTk.out j hlt)
      have HF2 := Lib.hid (HFn.out zs[j] (List.getElem_mem hlt))
      obtain ⟨n, hn2⟩ : ∃ n, n = zs[j] := ⟨_, rfl⟩
      rw [← hn2] at x0 Htk HF2
      obtain ⟨Y, hY⟩ : ∃ Y, Y = g n := ⟨_, rfl⟩
      rw [← hY] at Htk HF2
      clear hn2 hY hR hRr
      go_wp2_with fail
      refine (HF2.out _).mono ?_
      rintro e w2 ⟨rfl, hE2⟩
      have hE3 := hE.trans hE2
      have hown2 := own_ext hown hE2
      go_wp2_with (at_builtin; refine wpList_append_own _ rfl _ _ 55 rfl w.heap.size 9 i0 (.string .empty) 1 16 Tryz.underlying55 Hi.out Hz0.out Hz1.out Hz2.out rfl (by decide) _ _ _ rfl (hown2.alloc _) ⟨w2.heap.size, 0, none⟩ 1 1 [.string ⟨Y.toArray⟩] rfl rfl (cell_one_new _ _ _) (fun x hx => by simp at hx; subst hx; rfl) (by unfold maxLen; omega) (by omega) (by have := hE3.size; simp; omega) ?_; intro v' w3 hown' hgrow3 hnil3)
      have hExt := ext_grown (v := .slice ao2 j cv) (hE3.alloc _) (hown2.alloc _) hgrow3
      obtain ⟨ao3, cv3, rfl⟩ := own_slice hown'
      go_roundw
      case rel => exact ⟨j + 1, ao3, cv3, by omega, rfl, by go_num, by rw [Htk.out, sv_app]; exact hown', hExt⟩
      case measure => simp [intOf]; omega
    · obtain rfl : j = zs.length := by omega
      rw [List.take_length] at hown
      have HJ2 := Lib.hid (HJ.out _ ao2 cv wr hown)
      clear hown
      go_wp2_with (go_at_call 102; (with_reducible refine HJ2.out.mono ?_); rintro e w2 ⟨rfl, hE2⟩)
      go_ret
      exact ⟨rfl, hE.trans hE2⟩
set_option maxRecDepth 100000 in
set_option maxHeartbeats 1000000 in
theorem mapO_c (l : List (Int × Int)) (ao : Option Addr) (cap : Nat) (X : List UInt8) (w : World) (hV : OsV ao cap l w) (hi : ∀ o ∈ l, i64 o.1 ∧ i64 o.2) (hg : ∀ o ∈ l, (dayD o).length ≤ 100) (hn : l.length ≤ 1000) (hX : wordsT (l.map dayD) = X) :
    Calls Tryz.prog 45 #[.slice ao l.length cap, .func (.func 46) #[] #[]] w fun e w' => e = .returned (.string ⟨X.toArray⟩) ∧ Ext w w' := by
  have hcap := hV.2.1
  unfold maxLen at hcap
  have hlc := hV.1
  have HL := Lib.hid hV.2.2
  have HI := Lib.hid hi
  have HJ : Hid (∀ (base : Nat) (ao : Option Addr) (cap : Nat) (W : World), W.ownsRow base 9 1 (.slice ao l.length cap) l.length (sv (l.map dayD)) → Calls Tryz.prog 102 #[.slice ao l.length cap] W fun e w' => e = .returned (.string ⟨X.toArray⟩) ∧ Ext W w') := fun base ao cap W q => by
    have e : l.length = (l.map dayD).length := by rw [List.length_map]
    rw [e] at q ⊢
    exact words_c (l.map dayD) base ao cap X W q (by rw [List.length_map]; omega) (fun a ha => by
      obtain ⟨n, hn, rfl⟩ := List.mem_map.1 ha
      exact hg n hn) hX
  obtain ⟨i0, hif, hz0, hz1, hz2⟩ := info_parts infoStr
  have Hi := Lib.hid hif
  have Hz0 := Lib.hid hz0
  have Hz1 := Lib.hid hz1
  have Hz2 := Lib.hid hz2
  have HTk : Hid (∀ j (h : j < l.length), (l.take (j + 1)).map dayD = (l.take j).map dayD ++ [dayD l[j]]) := fun j h => map_take_succ dayD l j h
  clear hif hz0 hz1 hz2 hX hV hg hi
  go_enter Tryz.func45, Tryz.ntmps45
  go_wp2_with fail
  go_loopw [5, 10] (fun o i wr => ∃ (j : Nat) (ao2 : Option Addr) (cv : Nat), j ≤ l.length ∧ o = .slice ao2 j cv ∧ i = .int .i64 (j : Int) ∧ wr.ownsRow w.heap.size 9 1 o j (sv ((l.take j).map dayD)) ∧ Ext w wr) (fun _ i _ => l.length - (intOf i).toNat)
  case atStart => exact ⟨0, none, 0, Nat.zero_le _, rfl, rfl, World.ownsRow_nil _ _ _ _, Ext.refl _⟩
  case round =>
    obtain ⟨j, ao2, cv, hj, rfl, rfl, hown, hE⟩ := hrel
    by_cases hlt : j < l.length
    · obtain ⟨R, off, rfl, hR⟩ := HL.out (by rintro rfl; simp at hlt)
      have hRr := hR.ext hE
      have hRz := hRr.1
      obtain ⟨x0, x1⟩ := hRr.2 j hlt
      have Htk := Lib.hid (HTk.out j hlt)
      have hi2 := HI.out l[j] (List.getElem_mem hlt)
      obtain ⟨o, ho⟩ : ∃ o, o = l[j] := ⟨_, rfl⟩
      rw [← ho] at x0 x1 Htk hi2
      obtain ⟨n, d⟩ := o
      simp only at x0 x1 hi2
      obtain ⟨Y, hY⟩ : ∃ Y, Y = dayD (n, d) := ⟨_, rfl⟩
      rw [← hY] at Htk
      have HF2 : Hid (∀ W, Calls Tryz.prog 46 #[.agg #[.int .i64 n, .int .i64 d]] W fun e w' => e = .returned (.string ⟨Y.toArray⟩) ∧ Ext W w') := fun W => ddesc_c n d Y W hi2.1 hi2.2 hY.symm
      clear ho hY hR hRr hi2
      go_wp2_with (first
        | (go_at_call 46; (with_reducible refine (HF2.out _).mono ?_); rintro e w2 ⟨rfl, hE2⟩; have hE3 := Ext.trans (show Ext w _ from (by (repeat (with_reducible (first | assumption | exact Ext.refl _ | refine Ext.alloc ?_ _ | refine Ext.drewN ?_ _ | refine Ext.drew ?_))))) hE2; have hown2 := own_ext (own_ext hown (show Ext wr _ from (by (repeat (with_reducible (first | assumption | exact Ext.refl _ | refine Ext.alloc ?_ _ | refine Ext.drewN ?_ _ | refine Ext.drew ?_)))))) hE2)
        | (at_builtin; refine wpList_append_own _ rfl _ _ 55 rfl w.heap.size 9 i0 (.string .empty) 1 16 Tryz.underlying55 Hi.out Hz0.out Hz1.out Hz2.out rfl (by decide) _ _ _ rfl (hown2.alloc _) ⟨w2.heap.size, 0, none⟩ 1 1 [.string ⟨Y.toArray⟩] rfl rfl (cell_one_new _ _ _) (fun x hx => by simp at hx; subst hx; rfl) (by unfold maxLen; omega) (by omega) (by have := hE3.size; simp; omega) ?_; intro v' w3 hown' hgrow3 hnil3))
      have hExt := ext_grown (v := .slice ao2 j cv) (hE3.alloc _) (hown2.alloc _) hgrow3
      obtain ⟨ao3, cv3, rfl⟩ := own_slice hown'
      go_roundw
      case rel => exact ⟨j + 1, ao3, cv3, by omega, rfl, by go_num, by rw [Htk.out, sv_app]; exact hown', hExt⟩
      case measure => simp [intOf]; omega
    · obtain rfl : j = l.length := by omega
      rw [List.take_length] at hown
      have HJ2 := Lib.hid (HJ.out _ ao2 cv wr hown)
      clear hown
      go_wp2_with (go_at_call 102; (with_reducible refine HJ2.out.mono ?_); rintro e w2 ⟨rfl, hE2⟩)
      go_ret
      exact ⟨rfl, hE.trans hE2⟩
end Go.Proofs.YtgndogpgfgliaaaGreatDoor
/- Recurrence rules: the writers of the fields, as the plain law says; the walk of Text. -/
namespace Go.Proofs.YtgndogpgfgliaaaGreatDoor
set_option linter.unusedVariables false
set_option linter.unnecessarySimpa false
set_option linter.unusedSimpArgs false
open Go.RowKit

set_option maxRecDepth 100000 in
set_option maxHeartbeats 1000000 in
theorem uwrite_c (r : Rec) (X : List UInt8) (w : World) (hl : r.D.un = 0 ∨ locZ r.D.un = true) (hX : (if r.D.un = 0 then [] else momT r.D.un) = X) :
    Calls Tryz.prog 86 #[.agg r.vals.toArray] w fun e w' => e = .returned (.string ⟨X.toArray⟩) ∧ Ext w w' := by
  have hE0 : Ext w (w.alloc (.cells r.vals.toArray 25)) := (Ext.refl w).alloc _
  have HE0 := Lib.hid hE0
  have hB := RcB.new r w 25
  have c0 := hB.at_ (j := 3) (v := .int .i64 r.D.un) rfl
  obtain ⟨u, hu⟩ : ∃ u, u = r.D.un := ⟨_, rfl⟩
  rw [← hu] at c0 hl hX
  clear hE0 hB hu
  by_cases h0 : u = 0
  · rw [if_pos h0] at hX
    subst hX
    have t1 : (u == 0) = true := by simpa using h0
    clear h0 hl
    go_enter Tryz.func86, Tryz.ntmps86
    go_upto_region 1 with fail
    generalize w.alloc (.cells r.vals.toArray 25) = W0 at *
    generalize w.heap.size = B at *
    go_wp2_with fail
    go_ret
    exact ⟨rfl, HE0.out⟩
  · rw [if_neg h0] at hX
    have t1 : (u == 0) = false := by simpa using h0
    have HM : Hid (∀ w', Calls Tryz.prog 48 #[.int .i64 u] w' fun e w'' => e = .returned (.string ⟨X.toArray⟩) ∧ Ext w' w'') := fun w' => umoment_c u X w' (hl.resolve_left h0) hX
    clear h0 hl hX
    go_enter Tryz.func86, Tryz.ntmps86
    go_upto_region 1 with fail
    generalize w.alloc (.cells r.vals.toArray 25) = W0 at *
    generalize w.heap.size = B at *
    go_wp2_with (go_at_call 48; (with_reducible refine (HM.out _).mono ?_); rintro e w2 ⟨rfl, hE2⟩)
    go_ret
    exact ⟨rfl, HE0.out.trans hE2⟩
/-- Writing field k, as it stands among the fields. -/
def WrAll (b : Nat) (y z v : Nat → Nat) (h0 h13 k : Nat) : Prop := ∃ fid caps, wrV y z v k = .func (.func fid) #[] caps ∧ (∀ xs w', (callFunc fid xs).run Tryz.prog w' = .ok (.enter fid xs) w') ∧
    ∀ (r : Rec) (w : World), Bxs b y z v h0 h13 w → RcV r w → vldR r.D = true → Calls Tryz.prog fid (#[.agg r.vals.toArray] ++ caps) w fun e w' => e = .returned (.string ⟨(wrtZ momT k r.D).toArray⟩) ∧ Ext w w'
theorem aps_0 (a : Value) : #[a] ++ (#[] : Array Value) = #[a] := by simp
theorem aps_1 (a c : Value) : #[a] ++ #[c] = #[a, c] := by simp
theorem aps_2 (a c d : Value) : #[a] ++ #[c, d] = #[a, c, d] := by simp
theorem aps_3 (a c d e : Value) : #[a] ++ #[c, d, e] = #[a, c, d, e] := by simp
theorem num_parts {R : RecD} (h : vldR R = true) : 1 ≤ R.fr ∧ R.fr ≤ 5 ∧ 1 ≤ R.iv ∧ R.iv ≤ 1000 ∧ 0 ≤ R.ct ∧ R.ct ≤ 1000 ∧ (R.un = 0 ∨ (locZ R.un = true ∧ R.ct = 0)) ∧ 1 ≤ R.ws ∧ R.ws ≤ 7 := by
  have h1 := (vld_parts30 h).1
  unfold numbV at h1
  exact of_decide_eq_true h1
theorem lst_i64 {R : RecD} (h : vldR R = true) (l : List Int) (hl : l = R.mo ∨ l = R.md ∨ l = R.yd ∨ l = R.wk ∨ l = R.ho ∨ l = R.mi ∨ l = R.se ∨ l = R.po) : (∀ n ∈ l, i64 n) ∧ l.length ≤ 60 := by
  have := lst_in (vld_parts30 h).2.1 l hl
  refine ⟨fun n hn => ?_, this.1⟩
  have := this.2 n hn
  unfold i64
  omega
theorem day_i64 {R : RecD} (h : vldR R = true) : (∀ o ∈ R.da, i64 o.1 ∧ i64 o.2) ∧ R.da.length ≤ 60 := by
  obtain ⟨-, -, -, h4, h5, -⟩ := vld_parts30 h
  refine ⟨fun o ho => ?_, h4⟩
  have := dayV_ok (h5 o ho)
  unfold i64
  omega
theorem wra0 (b : Nat) (y z v : Nat → Nat) (h0 h13 : Nat) : WrAll b y z v h0 h13 0 := ⟨128, #[.pointer (some ⟨y 0, 0, none⟩), .pointer (some ⟨z 0, 0, none⟩), .pointer (some ⟨v 0, 0, none⟩)], rfl, fun xs w' => by kernel_rfl, fun r w hx hV hv => by rw [aps_3]; exact wwrite_c frW (atF 0) (offF 0) (y 0) (z 0) (v 0) h0 5 r r.D.fr 0 _ w rfl (by decide) at0_c hx.y0.1 hx.z0 hx.v0.1 hx.h0 rfl (by have := num_parts hv; omega) (by have := num_parts hv; omega) rfl⟩
theorem wra1 (b : Nat) (y z v : Nat → Nat) (h0 h13 : Nat) : WrAll b y z v h0 h13 1 := ⟨130, #[.pointer (some ⟨y 1, 0, none⟩), .pointer (some ⟨z 1, 0, none⟩)], rfl, fun xs w' => by kernel_rfl, fun r w hx hV hv => by rw [aps_2]; exact cwrite_c (atF 1) (offF 1) (y 1) (z 1) r r.D.iv 1 _ w at1_c hx.y1.1 hx.z1 rfl (by have := num_parts hv; unfold i64; omega) rfl⟩
theorem wra2 (b : Nat) (y z v : Nat → Nat) (h0 h13 : Nat) : WrAll b y z v h0 h13 2 := ⟨130, #[.pointer (some ⟨y 2, 0, none⟩), .pointer (some ⟨z 2, 0, none⟩)], rfl, fun xs w' => by kernel_rfl, fun r w hx hV hv => by rw [aps_2]; exact cwrite_c (atF 2) (offF 2) (y 2) (z 2) r r.D.ct 0 _ w at2_c hx.y2.1 hx.z2 rfl (by have := num_parts hv; unfold i64; omega) rfl⟩
theorem wra3 (b : Nat) (y z v : Nat → Nat) (h0 h13 : Nat) : WrAll b y z v h0 h13 3 := ⟨86, #[], rfl, fun xs w' => by kernel_rfl, fun r w hx hV hv => by rw [aps_0]; exact uwrite_c r _ w (by obtain ⟨-, -, -, -, -, -, h, -⟩ := num_parts hv; exact h.imp id And.left) rfl⟩
theorem wra4 (b : Nat) (y z v : Nat → Nat) (h0 h13 : Nat) : WrAll b y z v h0 h13 4 := ⟨138, #[.pointer (some ⟨y 4, 0, none⟩)], rfl, fun xs w' => by kernel_rfl, fun r w hx hV hv => by rw [aps_1]; exact lwrite_c (atF 4) (offF 4) (y 4) r (r.a 0) (r.c 0) r.D.mo _ w at4_c hx.y4.1 rfl hV.mo (lst_i64 hv r.D.mo (.inl rfl)).1 (by have := (lst_i64 hv r.D.mo (.inl rfl)).2; omega) rfl⟩
theorem wra5 (b : Nat) (y z v : Nat → Nat) (h0 h13 : Nat) : WrAll b y z v h0 h13 5 := ⟨138, #[.pointer (some ⟨y 5, 0, none⟩)], rfl, fun xs w' => by kernel_rfl, fun r w hx hV hv => by rw [aps_1]; exact lwrite_c (atF 5) (offF 5) (y 5) r (r.a 3) (r.c 3) r.D.wk _ w at5_c hx.y5.1 rfl hV.wk (lst_i64 hv r.D.wk (.inr (.inr (.inr (.inl rfl))))).1 (by have := (lst_i64 hv r.D.wk (.inr (.inr (.inr (.inl rfl))))).2; omega) rfl⟩
theorem wra6 (b : Nat) (y z v : Nat → Nat) (h0 h13 : Nat) : WrAll b y z v h0 h13 6 := ⟨138, #[.pointer (some ⟨y 6, 0, none⟩)], rfl, fun xs w' => by kernel_rfl, fun r w hx hV hv => by rw [aps_1]; exact lwrite_c (atF 6) (offF 6) (y 6) r (r.a 2) (r.c 2) r.D.yd _ w at6_c hx.y6.1 rfl hV.yd (lst_i64 hv r.D.yd (.inr (.inr (.inl rfl)))).1 (by have := (lst_i64 hv r.D.yd (.inr (.inr (.inl rfl)))).2; omega) rfl⟩
theorem wra7 (b : Nat) (y z v : Nat → Nat) (h0 h13 : Nat) : WrAll b y z v h0 h13 7 := ⟨138, #[.pointer (some ⟨y 7, 0, none⟩)], rfl, fun xs w' => by kernel_rfl, fun r w hx hV hv => by rw [aps_1]; exact lwrite_c (atF 7) (offF 7) (y 7) r (r.a 1) (r.c 1) r.D.md _ w at7_c hx.y7.1 rfl hV.md (lst_i64 hv r.D.md (.inr (.inl rfl))).1 (by have := (lst_i64 hv r.D.md (.inr (.inl rfl))).2; omega) rfl⟩
theorem wra8 (b : Nat) (y z v : Nat → Nat) (h0 h13 : Nat) : WrAll b y z v h0 h13 8 := ⟨93, #[], rfl, fun xs w' => by kernel_rfl, fun r w hx hV hv => by rw [aps_0]; exact dwrite_c r _ w hV.da (day_i64 hv).1 (by have := (day_i64 hv).2; omega) rfl⟩
theorem wra9 (b : Nat) (y z v : Nat → Nat) (h0 h13 : Nat) : WrAll b y z v h0 h13 9 := ⟨138, #[.pointer (some ⟨y 9, 0, none⟩)], rfl, fun xs w' => by kernel_rfl, fun r w hx hV hv => by rw [aps_1]; exact lwrite_c (atF 9) (offF 9) (y 9) r (r.a 5) (r.c 5) r.D.ho _ w at9_c hx.y9.1 rfl hV.ho (lst_i64 hv r.D.ho (.inr (.inr (.inr (.inr (.inl rfl)))))).1 (by have := (lst_i64 hv r.D.ho (.inr (.inr (.inr (.inr (.inl rfl)))))).2; omega) rfl⟩
theorem wra10 (b : Nat) (y z v : Nat → Nat) (h0 h13 : Nat) : WrAll b y z v h0 h13 10 := ⟨138, #[.pointer (some ⟨y 10, 0, none⟩)], rfl, fun xs w' => by kernel_rfl, fun r w hx hV hv => by rw [aps_1]; exact lwrite_c (atF 10) (offF 10) (y 10) r (r.a 6) (r.c 6) r.D.mi _ w at10_c hx.y10.1 rfl hV.mi (lst_i64 hv r.D.mi (.inr (.inr (.inr (.inr (.inr (.inl rfl))))))).1 (by have := (lst_i64 hv r.D.mi (.inr (.inr (.inr (.inr (.inr (.inl rfl))))))).2; omega) rfl⟩
theorem wra11 (b : Nat) (y z v : Nat → Nat) (h0 h13 : Nat) : WrAll b y z v h0 h13 11 := ⟨138, #[.pointer (some ⟨y 11, 0, none⟩)], rfl, fun xs w' => by kernel_rfl, fun r w hx hV hv => by rw [aps_1]; exact lwrite_c (atF 11) (offF 11) (y 11) r (r.a 7) (r.c 7) r.D.se _ w at11_c hx.y11.1 rfl hV.se (lst_i64 hv r.D.se (.inr (.inr (.inr (.inr (.inr (.inr (.inl rfl)))))))).1 (by have := (lst_i64 hv r.D.se (.inr (.inr (.inr (.inr (.inr (.inr (.inl rfl)))))))).2; omega) rfl⟩
theorem wra12 (b : Nat) (y z v : Nat → Nat) (h0 h13 : Nat) : WrAll b y z v h0 h13 12 := ⟨138, #[.pointer (some ⟨y 12, 0, none⟩)], rfl, fun xs w' => by kernel_rfl, fun r w hx hV hv => by rw [aps_1]; exact lwrite_c (atF 12) (offF 12) (y 12) r (r.a 8) (r.c 8) r.D.po _ w at12_c hx.y12.1 rfl hV.po (lst_i64 hv r.D.po (.inr (.inr (.inr (.inr (.inr (.inr (.inr rfl)))))))).1 (by have := (lst_i64 hv r.D.po (.inr (.inr (.inr (.inr (.inr (.inr (.inr rfl)))))))).2; omega) rfl⟩
theorem wra13 (b : Nat) (y z v : Nat → Nat) (h0 h13 : Nat) : WrAll b y z v h0 h13 13 := ⟨128, #[.pointer (some ⟨y 13, 0, none⟩), .pointer (some ⟨z 13, 0, none⟩), .pointer (some ⟨v 13, 0, none⟩)], rfl, fun xs w' => by kernel_rfl, fun r w hx hV hv => by rw [aps_3]; exact wwrite_c wkW (atF 13) (offF 13) (y 13) (z 13) (v 13) h13 7 r r.D.ws 1 _ w rfl (by decide) at13_c hx.y13.1 hx.z13 hx.v13.1 hx.h13 rfl (by have := num_parts hv; omega) (by have := num_parts hv; omega) rfl⟩
theorem wr_all (b : Nat) (y z v : Nat → Nat) (h0 h13 k : Nat) (hk : k < 14) : WrAll b y z v h0 h13 k :=
  lt14 (P := WrAll b y z v h0 h13) ⟨wra0 b y z v h0 h13, wra1 b y z v h0 h13, wra2 b y z v h0 h13, wra3 b y z v h0 h13, wra4 b y z v h0 h13, wra5 b y z v h0 h13, wra6 b y z v h0 h13, wra7 b y z v h0 h13, wra8 b y z v h0 h13, wra9 b y z v h0 h13, wra10 b y z v h0 h13, wra11 b y z v h0 h13, wra12 b y z v h0 h13, wra13 b y z v h0 h13⟩ k hk
/-- The parts of the first fields. -/
noncomputable def outL (R : RecD) (j : Nat) : List (List UInt8) := ((List.range j).filter fun k => decide (wrtZ momT k R ≠ [])).map (ptxZ momT R)
theorem outL_no {R : RecD} {j : Nat} (h : wrtZ momT j R = []) : outL R (j + 1) = outL R j := by
  unfold outL
  rw [List.range_succ, List.filter_append]
  simp [h]
theorem outL_yes {R : RecD} {j : Nat} (h : wrtZ momT j R ≠ []) : outL R (j + 1) = outL R j ++ [ptxZ momT R j] := by
  unfold outL
  rw [List.range_succ, List.filter_append]
  simp [h]
theorem outL_len (R : RecD) (j : Nat) : (outL R j).length ≤ j := by
  unfold outL
  rw [List.length_map]
  refine Nat.le_trans (List.length_filter_le _ _) ?_
  rw [List.length_range]
  exact Nat.le_refl _
def TextR (r : Rec) (w : World) (e : Ending) (w' : World) : Prop :=
  (if vldR r.D = true then e = .returned (.tuple #[.string ⟨(txtZ momT r.D).toArray⟩, .int .i64 0]) else e = .returned (.tuple #[.string ⟨#[]⟩, .int .i64 1])) ∧ Ext w w'
set_option maxRecDepth 100000 in
set_option maxHeartbeats 4000000 in
theorem utext_c (r : Rec) (w : World) (hV : RcV r w) : Calls Tryz.prog 13 #[.agg r.vals.toArray] w (TextR r w) := by
  have hE0 : Ext w (w.alloc (.cells r.vals.toArray 25)) := (Ext.refl w).alloc _
  have HE0 := Lib.hid hE0
  have hB := RcB.new r w 25
  have HB := Lib.hid hB
  have hVe := hV.ext hE0
  have hBr := hB.2
  have hBl := hB.1
  have hRs := rec_size r
  rcases Bool.eq_false_or_eq_true (vldR r.D) with hv | hv
  · have HVc := Lib.hid (fun W (hE : Ext (w.alloc (.cells r.vals.toArray 25)) W) => uvalid_c r true W (hVe.ext hE) hv)
    have HVe := Lib.hid hVe
    have Hv := Lib.hid hv
    have HR : Hid (∀ e w', e = .returned (.tuple #[.string ⟨(txtZ momT r.D).toArray⟩, .int .i64 0]) ∧ Ext w w' → TextR r w e w') := fun e w' h => ⟨by rw [if_pos hv]; exact h.1, h.2⟩
    have HL : Hid (∀ k, k < 14 → (wrtZ momT k r.D).length ≤ 1000) := fun k hk => by
      have := wrt_len mom_ok hv k hk
      have h2 : ∀ k, k < 14 → bndZ k ≤ 1000 := by decide
      exact Nat.le_trans this (h2 k hk)
    have HJ : Hid (∀ (base : Nat) (ao : Option Addr) (cap : Nat) (W : World), W.ownsRow base 9 1 (.slice ao (outL r.D 14).length cap) (outL r.D 14).length (sv (outL r.D 14)) → Calls Tryz.prog 34 #[.slice ao (outL r.D 14).length cap, .string ⟨#[59]⟩] W fun e w' => e = .returned (.string ⟨(txtZ momT r.D).toArray⟩) ∧ Ext W w') := fun base ao cap W q => by
      refine ojoin_c (outL r.D 14) base 9 ao cap [59] _ W q (by have := outL_len r.D 14; omega) ?_ rfl
      have := txt_len mom_ok hv
      show (txtZ momT r.D).length ≤ _
      omega
    obtain ⟨i0, hif, hz0, hz1, hz2⟩ := info_parts infoStr
    have Hi := Lib.hid hif
    have Hz0 := Lib.hid hz0
    have Hz1 := Lib.hid hz1
    have Hz2 := Lib.hid hz2
    clear hif hz0 hz1 hz2 hE0 hB hVe hv hV
    go_enter Tryz.func13, Tryz.ntmps13
    go_upto_region 1 with fail
    generalize w.alloc (.cells r.vals.toArray 25) = W0 at *
    generalize w.heap.size = B at *
    go_upto_region 5 with (first
      | (refine load_midg (by rfl) 25 _ rfl B 0 rfl r.vals _ hBr Tryz.underlying25 rfl hRs ?_)
      | (go_at_call 27; (with_reducible refine (HVc.out _ (Ext.refl _)).mono ?_); rintro e w1 ⟨rfl, hE1⟩)
      | (go_at_call 35; (with_reducible refine (fields_c _).mono ?_); rintro e w2 ⟨⟨H, h0, h13, y, z, v, rfl, hHl, hHr, hBx⟩, hE2⟩))
    have HBx := Lib.hid hBx
    have HHr := Lib.hid (fun j (hj : j < 14) => fld_at hHr j hj)
    have HE2 := Lib.hid (hE1.trans hE2)
    clear hBx hHr hE1 hE2
    go_loopw [4, 13] (fun o i wr => ∃ (j : Nat) (ao : Option Addr) (cv : Nat), j ≤ 14 ∧ o = .slice ao (outL r.D j).length cv ∧ i = .int .i64 (j : Int) ∧ wr.ownsRow w2.heap.size 9 1 o (outL r.D j).length (sv (outL r.D j)) ∧ Ext w2 wr) (fun _ i _ => 14 - (intOf i).toNat)
    case atStart => exact ⟨0, none, 0, by omega, rfl, rfl, World.ownsRow_nil _ _ _ _, Ext.refl _⟩
    case round =>
      obtain ⟨j, ao, cv, hj, rfl, rfl, hown, hE⟩ := hrel
      by_cases hlt : j < 14
      · obtain ⟨c0, c1, c2⟩ := HHr.out j hlt
        replace c0 := (hE.cells H _ hHl).trans c0
        replace c1 := (hE.cells H _ hHl).trans c1
        replace c2 := (hE.cells H _ hHl).trans c2
        have hHr2 := hE.lt hHl
        obtain ⟨fid, caps, hwr, hcf, hC⟩ := wr_all w1.heap.size y z v h0 h13 j hlt
        obtain ⟨fi2, cp2, hu, -, -⟩ := rd_all w1.heap.size y z v h0 h13 j hlt
        rw [hu] at c1
        rw [hwr] at c2
        obtain ⟨a, ha⟩ : ∃ a, a = ptW.getD j [] := ⟨_, rfl⟩
        rw [← ha] at c0
        have hal : a.length ≤ 10 := by rw [ha]; have : ∀ k, k < 14 → (ptW.getD k []).length ≤ 10 := by decide
                                       exact this j hlt
        have hEw := HE2.out.trans hE
        have HC0 : Hid (∀ W, Ext wr W → Calls Tryz.prog fid (#[.agg r.vals.toArray] ++ caps) W fun e w' => e = .returned (.string ⟨(wrtZ momT j r.D).toArray⟩) ∧ Ext W w') := fun W hE => hC r W (HBx.out.ext (by have q := ‹Ext w2 wr›; exact q.trans hE)) (HVe.out.ext (hEw.trans hE)) Hv.out
        have hSl := HL.out j hlt
        have HNo : Hid (wrtZ momT j r.D = [] → outL r.D (j + 1) = outL r.D j) := outL_no
        have HYs : Hid (wrtZ momT j r.D ≠ [] → outL r.D (j + 1) = outL r.D j ++ [a ++ 61 :: wrtZ momT j r.D]) := fun q => by rw [outL_yes q, ha]; rfl
        obtain ⟨X, hX⟩ : ∃ X, X = wrtZ momT j r.D := ⟨_, rfl⟩
        rw [← hX] at HC0 hSl HNo HYs
        have hln := outL_len r.D j
        have hEw2 := Lib.hid hEw
        have hTh : (wr.alloc (.cells #[.string ⟨#[]⟩, .nilFunc, .nilFunc] 67)).there wr.heap.size 0 3 := thr_new wr _ _ 3 rfl
        have hTl : wr.heap.size < (wr.alloc (.cells #[.string ⟨#[]⟩, .nilFunc, .nilFunc] 67)).heap.size := by simp
        have hTe : Ext wr (wr.alloc (.cells #[.string ⟨#[]⟩, .nilFunc, .nilFunc] 67)) := (Ext.refl _).alloc _
        clear hwr hu ha hC hX hEw
        go_upto_region 7 with (refine wpList_store_gen (op := ⟨none, .store 67 (.tmp 6) (.tmp 16), _, _, _, _⟩) rfl 67 _ _ rfl wr.heap.size [.string ⟨a.toArray⟩, .func (.func fi2) #[] cp2, .func (.func fid) #[] caps] rfl rfl hTl hTh (by kernel_rfl) rfl ?_; intro W3 hF3 hl3 hr3)
        have hX3 : Ext wr W3 := Frm.far hTe hF3 (fun k hk e => by omega)
        have k0 := hr3 0 _ rfl
        have k2 := hr3 2 _ rfl
        rw [Nat.zero_add] at k0 k2
        have HC := Lib.hid (HC0.out W3 hX3)
        have HE3 := Lib.hid (hE.trans hX3)
        have hown3 := own_ext hown hX3
        have hBw := HB.out.ext (hEw2.out.trans hX3)
        have hBr2 := hBw.2
        have hBl2 := hBw.1
        have hkl := hl3
        clear hown hX3 c0 c1 c2 hTh hTl hTe hF3 hr3 HC0 hBw hBr
        generalize wr.heap.size = B3 at k0 k2 hkl hl3 ⊢
        go_wp2_with (refine load_midg (by rfl) 25 _ rfl B 0 rfl r.vals _ hBr2 Tryz.underlying25 rfl hRs ?_)
        refine HC.out.mono ?_
        rintro e w4 ⟨rfl, hE4⟩
        have hEy := HE3.out.trans hE4
        have hown4 := own_ext hown3 hE4
        have k0' := (hE4.cells B3 0 hkl).trans k0
        have hkl4 := hE4.lt hkl
        have hsz := hEy.size
        clear hown3 hBr2 k0 k2 HC
        by_cases hX0 : X = []
        · have hn := HNo.out hX0
          have Hn := Lib.hid hn
          subst hX0
          clear hn
          go_wp2_with fail
          go_roundw
          case rel => exact ⟨j + 1, ao, cv, by omega, by rw [Hn.out], by go_num, by rw [Hn.out]; exact hown4, hEy⟩
          case measure => simp [intOf]; omega
        · have Hn := Lib.hid (HYs.out hX0)
          have t1 : (X == []) = false := by simpa using hX0
          have t2 : (X != []) = true := by simpa using hX0
          have t3 : X.isEmpty = false := by simpa using hX0
          clear hX0
          go_wp2_with (at_builtin; refine wpList_append_own _ rfl _ _ 55 rfl w2.heap.size 9 i0 (.string .empty) 1 16 Tryz.underlying55 Hi.out Hz0.out Hz1.out Hz2.out rfl (by decide) _ _ _ rfl (hown4.alloc _) ⟨w4.heap.size, 0, none⟩ 1 1 [.string ((⟨a.toArray⟩ ++ ⟨#[61]⟩) ++ ⟨X.toArray⟩)] rfl rfl (cell_one_new _ _ _) (fun x hx => by simp at hx; subst hx; rfl) (by unfold maxLen; omega) (by omega) (by simp; omega) ?_; intro v' w5 hown' hgrow3 hnil3)
          have hExt := ext_grown (v := .slice ao (outL r.D j).length cv) (hEy.alloc _) (hown4.alloc _) hgrow3
          obtain ⟨ao2, cv2, rfl⟩ := own_slice hown'
          have hs : (((⟨a.toArray⟩ ++ ⟨#[61]⟩) ++ ⟨X.toArray⟩ : ByteArray)) = ⟨(a ++ 61 :: X).toArray⟩ := by apply ByteArray.ext; simp
          rw [hs] at hown'
          go_roundw
          case rel => exact ⟨j + 1, ao2, cv2, by omega, by rw [Hn.out, List.length_append]; rfl, by go_num, by rw [Hn.out, List.length_append, sv_app]; exact hown', hExt⟩
          case measure => simp [intOf]; omega
      · obtain rfl : j = 14 := by omega
        have HJ2 := Lib.hid (HJ.out _ ao cv wr hown)
        clear hown
        go_wp2_with (go_at_call 34; (with_reducible refine HJ2.out.mono ?_); rintro e w5 ⟨rfl, hE5⟩)
        go_ret2
        exact HR.out _ _ ⟨rfl, HE0.out.trans (HE2.out.trans (hE.trans hE5))⟩
  · have HVc := Lib.hid (uvalid_c r false _ hVe hv)
    have HR : Hid (∀ e w', e = .returned (.tuple #[.string ⟨#[]⟩, .int .i64 1]) ∧ Ext w w' → TextR r w e w') := fun e w' h => ⟨by rw [if_neg (by rw [hv]; simp)]; exact h.1, h.2⟩
    clear hE0 hB hVe hv hV
    go_enter Tryz.func13, Tryz.ntmps13
    go_upto_region 1 with fail
    generalize w.alloc (.cells r.vals.toArray 25) = W0 at *
    generalize w.heap.size = B at *
    go_wp2_with (first
      | (refine load_midg (by rfl) 25 _ rfl B 0 rfl r.vals _ hBr Tryz.underlying25 rfl hRs ?_)
      | (go_at_call 27; (with_reducible refine HVc.out.mono ?_); rintro e w1 ⟨rfl, hE1⟩))
    go_ret2
    exact HR.out _ _ ⟨rfl, HE0.out.trans hE1⟩
end Go.Proofs.YtgndogpgfgliaaaGreatDoor
