/- Recurrence rules: the walk of the law RecurtextUnique. -/
import Derived.Test.YtgndogpgfgliaaaGreatDoorQ29
namespace Go.Proofs.YtgndogpgfgliaaaGreatDoor
set_option linter.unusedVariables false
set_option linter.unnecessarySimpa false
set_option linter.unusedSimpArgs false
open Go.RowKit

theorem run_cases {untZ : List UInt8 → Option Int} {vld : RecD → Bool} : ∀ (ps seen : List (List UInt8)) (R : RecD), match runZ untZ vld ps seen R with
    | .er c => c ≠ 0
    | .ok D => vld D = true
  | [], seen, R => by
    unfold runZ
    split
    · next D hD =>
      split at hD
      · split at hD
        · cases hD
        · injection hD with e; subst e; decide
      · injection hD with e; subst e; decide
    · next D hD =>
      split at hD
      · split at hD
        · next hv => injection hD with e; subst e; exact hv
        · cases hD
      · cases hD
  | p :: ps, seen, R => by
    unfold runZ
    by_cases h1 : (Lib.cut p [61]).2.2 = false
    · rw [if_pos h1]; exact (by decide : (3 : Nat) ≠ 0)
    · rw [if_neg h1]
      cases hp : prtZ untZ (Lib.cut p [61]).1 (Lib.cut p [61]).2.1 R with
      | er e =>
        show e ≠ 0
        unfold prtZ at hp
        split at hp
        · injection hp with q; subst q; decide
        · split at hp
          · cases hp
          · injection hp with q; subst q; decide
      | ok R' =>
        simp only
        by_cases h2 : (Lib.cut p [61]).1 ∈ seen
        · rw [if_pos h2]; exact (by decide : (8 : Nat) ≠ 0)
        · rw [if_neg h2]
          exact run_cases ps _ R'
theorem par_er {s : List UInt8} {c : Nat} (h : parZ untZ vldR s = .er c) : c ≠ 0 := by
  unfold parZ at h
  split at h
  · injection h with e; subst e; decide
  · have := run_cases (untZ := untZ) (vld := vldR) (spl 59 s) [] RecD.start
    rw [h] at this
    exact this
theorem par_vld {s : List UInt8} {D : RecD} (h : parZ untZ vldR s = .ok D) : vldR D = true := by
  unfold parZ at h
  split at h
  · cases h
  · have := run_cases (untZ := untZ) (vld := vldR) (spl 59 s) [] RecD.start
    rw [h] at this
    exact this
theorem txt_eq {A B : RecD} (ha : vldR A = true) (hb : vldR B = true) (e : txtZ momT A = txtZ momT B) : A = B := by
  have h1 := vld_rd mom_ok ha
  have h2 := vld_rd mom_ok hb
  exact txt_inj h1.1 h2.1 h1.2 h2.2 (Nat.le_trans (txt_len mom_ok ha) (by decide)) e
/-- What Text makes of a rule. -/
def TxK (D : RecD) (X : List UInt8) (k : Int) : Prop := (vldR D = true ∧ X = txtZ momT D ∧ k = 0) ∨ (vldR D = false ∧ X = [] ∧ k = 1)
theorem txk (D : RecD) : ∃ X k, TxK D X k := by
  rcases Bool.eq_false_or_eq_true (vldR D) with h | h
  · exact ⟨_, _, Or.inl ⟨h, rfl, rfl⟩⟩
  · exact ⟨_, _, Or.inr ⟨h, rfl, rfl⟩⟩
theorem utext_k (r : Rec) (w : World) (hV : RcV r w) {X : List UInt8} {k : Int} (hk : TxK r.D X k) : Calls Tryz.prog 13 #[.agg r.vals.toArray] w fun e w' => e = .returned (.tuple #[.string ⟨X.toArray⟩, .int .i64 k]) ∧ Ext w w' := by
  rcases hk with ⟨h, rfl, rfl⟩ | ⟨h, rfl, rfl⟩
  · exact utext_yes r w hV h
  · exact utext_no r w hV h
theorem txk_eq {A B : RecD} {X Y : List UInt8} {k j : Int} (ha : TxK A X k) (hb : TxK B Y j) : k = 1 ∨ j = 1 ∨ (k = 0 ∧ j = 0 ∧ (sameR A B = true ∧ X = Y ∨ sameR A B = false ∧ X ≠ Y)) := by
  rcases ha with ⟨h, rfl, rfl⟩ | ⟨h, rfl, rfl⟩
  · rcases hb with ⟨h2, rfl, rfl⟩ | ⟨h2, rfl, rfl⟩
    · refine Or.inr (Or.inr ⟨rfl, rfl, ?_⟩)
      by_cases e : A = B
      · subst e
        exact Or.inl ⟨sameR_iff.2 rfl, rfl⟩
      · refine Or.inr ⟨?_, fun q => e (txt_eq h h2 q)⟩
        rw [← Bool.not_eq_true, sameR_iff]
        exact e
    · exact Or.inr (Or.inl rfl)
  · exact Or.inl rfl
theorem uparse_k (s : List UInt8) (w : World) (hm : Lm w) (hs : s.length ≤ 1000000) : Calls Tryz.prog 17 #[.string ⟨s.toArray⟩] w fun e w' => ∃ (q : Rec) (k : Int), e = .returned (.tuple #[.agg q.vals.toArray, .int .i64 k]) ∧ RcV q w' ∧ Ext w w' ∧ (k ≠ 0 ∧ q.D = RecD.zero ∨ k = 0 ∧ vldR q.D = true) := by
  refine (uparse_c s w hm hs).mono (fun e w' h => ?_)
  unfold ParR at h
  cases hp : parZ untZ vldR s with
  | er c =>
    rw [hp] at h
    have hc := par_er hp
    exact ⟨Rec.zero, _, h.1, rec_zero w', h.2, Or.inl ⟨by omega, rfl⟩⟩
  | ok D =>
    rw [hp] at h
    obtain ⟨q, h1, h2, h3, h4⟩ := h
    exact ⟨q, 0, h2, h3, h4, Or.inr ⟨rfl, by rw [h1]; exact par_vld hp⟩⟩
set_option maxRecDepth 100000 in
set_option maxHeartbeats 8000000 in
theorem uniq_great (r s : Rec) (t : List UInt8) (w : World) (hm : Lm w) (hV : RcV r w) (hU : RcV s w) (ht : t.length ≤ 9223372036854775807) (hg : greatR r.D = true ∨ greatR s.D = true ∨ 1000 < t.length) :
    Calls Tryz.prog 8 #[.agg r.vals.toArray, .agg s.vals.toArray, .string ⟨t.toArray⟩] w fun e w' => e = .returned (.bool true) ∧ Ext w w' := by
  obtain ⟨W0, hW0⟩ : ∃ W0, W0 = (w.alloc (.cells r.vals.toArray 25)).alloc (.cells s.vals.toArray 25) := ⟨_, rfl⟩
  have hE0 : Ext w W0 := by rw [hW0]; exact ((Ext.refl w).alloc _).alloc _
  have hA : RcB r w.heap.size W0 := by rw [hW0]; exact (RcB.new r w 25).ext ((Ext.refl _).alloc _)
  have hB : RcB s (w.heap.size + 1) W0 := by
    rw [hW0]
    have := RcB.new s (w.alloc (.cells r.vals.toArray 25)) 25
    rwa [show (w.alloc (.cells r.vals.toArray 25)).heap.size = w.heap.size + 1 by simp] at this
  have HE0 := Lib.hid hE0
  have HBr := Lib.hid hA
  have HBs := Lib.hid hB
  have hRr := rec_size r
  have hRs := rec_size s
  have HW0 := Lib.hid hW0
  have HG := Lib.hid (fun W (hE : Ext W0 W) => great30_c r (greatR r.D) W ((hV.ext hE0).ext hE) rfl)
  have HH := Lib.hid (fun W (hE : Ext W0 W) => great30_c s (greatR s.D) W ((hU.ext hE0).ext hE) rfl)
  have HAw := Lib.hid (awake30_c _ (hm.ext hE0))
  generalize greatR r.D = g1 at *
  generalize greatR s.D = g2 at *
  clear hE0 hA hB hV hU hm hW0
  go_enter Tryz.func8, Tryz.ntmps8
  go_upto_region 1 with fail
  rw [← HW0.out]
  clear HW0
  generalize w.heap.size = B at *
  obtain ⟨C, hC⟩ : ∃ C, B + 1 = C := ⟨_, rfl⟩
  rw [hC] at HBs ⊢
  clear hC
  go_upto_region 3 with (go_at_call 11; (with_reducible refine HAw.out.mono ?_); rintro e w1 ⟨rfl, hE1⟩)
  have hBr1 := (HBr.out.ext hE1).2
  have hBs1 := (HBs.out.ext hE1).2
  cases g1
  · have hg1 : g2 = true ∨ 1000 < t.length := by
      rcases hg with q | q
      · cases q
      · exact q
    have hrd := HBs.out.ext hE1
    clear hg
    cases g2
    · have ht1 : (1000 : Int) < (t.length : Int) := by
        rcases hg1 with q | q
        · cases q
        · omega
      go_wp2_with (first
        | (refine load_midg (by rfl) 25 _ rfl B 0 rfl r.vals _ hBr1 Tryz.underlying25 rfl hRr ?_)
        | (refine load_midg (by rfl) 25 _ rfl C 0 rfl s.vals _ hBs2 Tryz.underlying25 rfl hRs ?_)
        | (go_at_call 12; (with_reducible refine (HG.out _ hE1).mono ?_); rintro e w2 ⟨rfl, hE2⟩; have hE2' := hE1.trans hE2; have hBs2 := (HBs.out.ext hE2').2)
        | (go_at_call 12; (with_reducible refine (HH.out _ hE2').mono ?_); rintro e w3 ⟨rfl, hE3⟩; have hE3' := hE2'.trans hE3))
      go_ret
      exact ⟨rfl, HE0.out.trans hE3'⟩
    · go_wp2_with (first
        | (refine load_midg (by rfl) 25 _ rfl B 0 rfl r.vals _ hBr1 Tryz.underlying25 rfl hRr ?_)
        | (refine load_midg (by rfl) 25 _ rfl C 0 rfl s.vals _ hBs2 Tryz.underlying25 rfl hRs ?_)
        | (go_at_call 12; (with_reducible refine (HG.out _ hE1).mono ?_); rintro e w2 ⟨rfl, hE2⟩; have hE2' := hE1.trans hE2; have hBs2 := (HBs.out.ext hE2').2)
        | (go_at_call 12; (with_reducible refine (HH.out _ hE2').mono ?_); rintro e w3 ⟨rfl, hE3⟩; have hE3' := hE2'.trans hE3))
      go_ret
      exact ⟨rfl, HE0.out.trans hE3'⟩
  · go_wp2_with (first
      | (refine load_midg (by rfl) 25 _ rfl B 0 rfl r.vals _ hBr1 Tryz.underlying25 rfl hRr ?_)
      | (go_at_call 12; (with_reducible refine (HG.out _ hE1).mono ?_); rintro e w2 ⟨rfl, hE2⟩; have hE2' := hE1.trans hE2))
    go_ret
    exact ⟨rfl, HE0.out.trans hE2'⟩
set_option maxRecDepth 100000 in
set_option maxHeartbeats 16000000 in
theorem uniq_go (r s : Rec) (t : List UInt8) (w : World) (hm : Lm w) (hV : RcV r w) (hU : RcV s w) (hg1 : greatR r.D = false) (hg2 : greatR s.D = false) (ht : t.length ≤ 1000) :
    Calls Tryz.prog 8 #[.agg r.vals.toArray, .agg s.vals.toArray, .string ⟨t.toArray⟩] w fun e w' => e = .returned (.bool true) ∧ Ext w w' := by
  obtain ⟨W0, hW0⟩ : ∃ W0, W0 = (w.alloc (.cells r.vals.toArray 25)).alloc (.cells s.vals.toArray 25) := ⟨_, rfl⟩
  have hE0 : Ext w W0 := by rw [hW0]; exact ((Ext.refl w).alloc _).alloc _
  have hA : RcB r w.heap.size W0 := by rw [hW0]; exact (RcB.new r w 25).ext ((Ext.refl _).alloc _)
  have hB : RcB s (w.heap.size + 1) W0 := by
    rw [hW0]
    have := RcB.new s (w.alloc (.cells r.vals.toArray 25)) 25
    rwa [show (w.alloc (.cells r.vals.toArray 25)).heap.size = w.heap.size + 1 by simp] at this
  have HE0 := Lib.hid hE0
  have HBr := Lib.hid hA
  have HBs := Lib.hid hB
  have hRr := rec_size r
  have hRs := rec_size s
  have HW0 := Lib.hid hW0
  have HG := Lib.hid (fun W (hE : Ext W0 W) => great30_c r (greatR r.D) W ((hV.ext hE0).ext hE) rfl)
  have HH := Lib.hid (fun W (hE : Ext W0 W) => great30_c s (greatR s.D) W ((hU.ext hE0).ext hE) rfl)
  have HAw := Lib.hid (awake30_c _ (hm.ext hE0))
  rw [hg1] at HG
  rw [hg2] at HH
  obtain ⟨X, kx, hX⟩ := txk r.D
  obtain ⟨Y, ky, hY⟩ := txk s.D
  have hXY := txk_eq hX hY
  have HTx := Lib.hid (fun W (hE : Ext W0 W) => utext_k r W ((hV.ext hE0).ext hE) hX)
  have HTy := Lib.hid (fun W (hE : Ext W0 W) => utext_k s W ((hU.ext hE0).ext hE) hY)
  have HS := Lib.hid (fun W (hE : Ext W0 W) => same30_c r s _ W ((hV.ext hE0).ext hE) ((hU.ext hE0).ext hE) rfl)
  have HLm := Lib.hid (hm.ext hE0)
  generalize sameR r.D s.D = b at *
  clear hE0 hA hB hV hU hm hW0 hX hY hg1 hg2
  go_enter Tryz.func8, Tryz.ntmps8
  go_upto_region 1 with fail
  rw [← HW0.out]
  clear HW0
  generalize w.heap.size = B at *
  obtain ⟨C, hC⟩ : ∃ C, B + 1 = C := ⟨_, rfl⟩
  rw [hC] at HBs ⊢
  clear hC
  go_upto_region 3 with (go_at_call 11; (with_reducible refine HAw.out.mono ?_); rintro e w1 ⟨rfl, hE1⟩)
  have hBr1 := (HBr.out.ext hE1).2
  have hBs1 := (HBs.out.ext hE1).2
  go_upto_region 7 with (first
    | (refine load_midg (by rfl) 25 _ rfl B 0 rfl r.vals _ (by assumption) Tryz.underlying25 rfl hRr ?_)
    | (refine load_midg (by rfl) 25 _ rfl C 0 rfl s.vals _ (by assumption) Tryz.underlying25 rfl hRs ?_)
    | (go_at_call 12; (with_reducible refine (HG.out _ hE1).mono ?_); rintro e w2 ⟨rfl, hE2⟩; have hE2' := hE1.trans hE2; have hBs2 := (HBs.out.ext hE2').2)
    | (go_at_call 12; (with_reducible refine (HH.out _ hE2').mono ?_); rintro e w3 ⟨rfl, hE3⟩; have hE3' := hE2'.trans hE3; have hBr3 := (HBr.out.ext hE3').2)
    | (go_at_call 13; (with_reducible refine (HTx.out _ hE3').mono ?_); rintro e w4 ⟨rfl, hE4⟩; have hE4' := hE3'.trans hE4; have hBs4 := (HBs.out.ext hE4').2)
    | (go_at_call 13; (with_reducible refine (HTy.out _ hE4').mono ?_); rintro e w5 ⟨rfl, hE5⟩; have hE5' := hE4'.trans hE5; have hBr5 := (HBr.out.ext hE5').2; have hBs5 := (HBs.out.ext hE5').2))
  clear hBr1 hBs1 hBs2 hBr3 hBs4 hE1 hE2 hE3 hE4 hE5 hE2' hE3' hE4'
  rcases hXY with rfl | rfl | ⟨rfl, rfl, ⟨rfl, rfl⟩ | ⟨rfl, hne⟩⟩
  · go_upto_region 9 with fail
    have hE6' := hE5'
    clear hBr5 hBs5 hE5' HTx HTy HS
    generalize w5 = V at *
    have HP := Lib.hid (uparse_k t V (HLm.out.ext hE6') (by omega))
    have HZ := Lib.hid (fun (q : Rec) W (hV : RcV q W) (hD : q.D = RecD.zero) => zero30_c q true W hV (by rw [hD]; exact sameR_iff.2 rfl))
    have HTq := Lib.hid (fun (q : Rec) W (hV : RcV q W) (hv : vldR q.D = true) => utext_yes q W hV hv)
    have HPq := Lib.hid (fun (q : Rec) W (hm : Lm W) (hv : vldR q.D = true) => uparse_txt q.D W hm hv)
    have HVq := Lib.hid (fun (q : Rec) W (hV : RcV q W) (hv : vldR q.D = true) => uvalid_c q true W hV hv)
    have HSq := Lib.hid (fun (q q' : Rec) W (hV : RcV q W) (hV' : RcV q' W) (hD : q'.D = q.D) => same30_c q q' true W hV hV' (by rw [hD]; exact sameR_iff.2 rfl))
    clear HG HH HAw
    go_upto_region 10 with (first
      | (go_at_call 17; (with_reducible refine HP.out.mono ?_); rintro e x1 ⟨q, k, rfl, hVq, hE7, hqk⟩; have HVV := Lib.hid hVq; have HE7 := Lib.hid hE7; clear hVq hE7; have hrs := rec_size q; have hr1 := rec_all1 q; have hTz := thr_new x1 (#[.int .i64 0, .int .i64 0, .int .i64 0, .int .i64 0, .slice none 0 0, .slice none 0 0, .slice none 0 0, .slice none 0 0, .slice none 0 0, .slice none 0 0, .slice none 0 0, .slice none 0 0, .slice none 0 0, .int .i64 0]) 25 14 rfl; have hlz : x1.heap.size < (x1.alloc (.cells #[.int .i64 0, .int .i64 0, .int .i64 0, .int .i64 0, .slice none 0 0, .slice none 0 0, .slice none 0 0, .slice none 0 0, .slice none 0 0, .slice none 0 0, .slice none 0 0, .slice none 0 0, .slice none 0 0, .int .i64 0] 25)).heap.size := by simp)
      | (refine wpList_store_gen (op := ⟨none, .store 25 (.tmp 11) (.tmp 58), _, _, _, _⟩) rfl 25 _ _ rfl x1.heap.size q.vals rfl rfl hlz hTz hrs hr1 ?_; intro x2 hF2 hl2 hr2))
    have hE8 : Ext x1 x2 := Frm.far ((Ext.refl x1).alloc _) hF2 (fun k hk e => by omega)
    have hV2 := HVV.out.ext hE8
    have hX2 := HE7.out.trans hE8
    clear hF2 hTz hlz hE8
    generalize x1.heap.size = D at *
    rcases hqk with ⟨hk, hz⟩ | ⟨rfl, hv⟩
    · go_wp2_with (first
        | (refine load_midg (by rfl) 25 _ rfl D 0 rfl q.vals _ hr2 Tryz.underlying25 rfl hrs ?_)
        | (go_at_call 28; (with_reducible refine (HZ.out q _ hV2 hz).mono ?_); rintro e x3 ⟨rfl, hE9⟩))
      go_ret
      exact ⟨rfl, HE0.out.trans (hE6'.trans (hX2.trans hE9))⟩
    · have htl := txt_len mom_ok hv
      have hTq := HTq.out q x2 hV2 hv
      have hPq := fun W h => HPq.out q W h hv
      obtain ⟨tx, htx⟩ : ∃ tx, tx = txtZ momT q.D := ⟨_, rfl⟩
      rw [← htx] at htl hTq hPq
      have HTq' := Lib.hid hTq
      have HPq' := Lib.hid hPq
      clear hTq hPq HTq HPq htx
      have HB2 : Hid (RcB q D x2) := ⟨hl2, hr2⟩
      go_upto_region 14 with (first
        | (refine load_midg (by rfl) 25 _ rfl D 0 rfl q.vals _ hr2 Tryz.underlying25 rfl hrs ?_)
        | (go_at_call 13; (with_reducible refine HTq'.out.mono ?_); rintro e x3 ⟨rfl, hE9⟩)
        | (go_at_call 17; (with_reducible refine (HPq'.out x3 (HLm.out.ext (hE6'.trans (hX2.trans hE9)))).mono ?_); rintro e x4 ⟨q2, hD2, rfl, hV4, hE10⟩; have HV4 := Lib.hid hV4; have HD2 := Lib.hid hD2; have HE10 := Lib.hid hE10; clear hV4 hD2 hE10; have hrsb := rec_size q2; have hr1b := rec_all1 q2; have hTzb := thr_new x4 (#[.int .i64 0, .int .i64 0, .int .i64 0, .int .i64 0, .slice none 0 0, .slice none 0 0, .slice none 0 0, .slice none 0 0, .slice none 0 0, .slice none 0 0, .slice none 0 0, .slice none 0 0, .slice none 0 0, .int .i64 0]) 25 14 rfl; have hlzb : x4.heap.size < (x4.alloc (.cells #[.int .i64 0, .int .i64 0, .int .i64 0, .int .i64 0, .slice none 0 0, .slice none 0 0, .slice none 0 0, .slice none 0 0, .slice none 0 0, .slice none 0 0, .slice none 0 0, .slice none 0 0, .slice none 0 0, .int .i64 0] 25)).heap.size := by simp)
        | (refine wpList_store_gen (op := ⟨none, .store 25 (.tmp 15) (.tmp 72), _, _, _, _⟩) rfl 25 _ _ rfl x4.heap.size q2.vals rfl rfl hlzb hTzb hrsb hr1b ?_; intro x5 hF2b hl2b hr2b))
      have hE11 : Ext x4 x5 := Frm.far ((Ext.refl x4).alloc _) hF2b (fun k hk e => by omega)
      have hX5 := hE9.trans (HE10.out.trans hE11)
      have hV5 := HV4.out.ext hE11
      have hV2' := hV2.ext hX5
      have hB5 := (HB2.out.ext hX5).2
      clear hF2b hTzb hlzb hE11 hE9 hr2
      generalize x4.heap.size = F at *
      go_wp2_with (first
        | (refine load_midg (by rfl) 25 _ rfl D 0 rfl q.vals _ (by assumption) Tryz.underlying25 rfl hrs ?_)
        | (refine load_midg (by rfl) 25 _ rfl F 0 rfl q2.vals _ (by assumption) Tryz.underlying25 rfl hrsb ?_)
        | (go_at_call 19; (with_reducible refine (HSq.out q q2 _ hV2' hV5 HD2.out).mono ?_); rintro e x6 ⟨rfl, hE12⟩; have hB6 := ((HB2.out.ext hX5).ext hE12).2)
        | (go_at_call 27; (with_reducible refine (HVq.out q _ (hV2'.ext hE12) hv).mono ?_); rintro e x7 ⟨rfl, hE13⟩))
      go_ret
      exact ⟨rfl, HE0.out.trans (hE6'.trans (hX2.trans (hX5.trans (hE12.trans hE13))))⟩
  · by_cases hk0 : kx = 0
    · subst hk0
      go_upto_region 9 with fail
      have hE6' := hE5'
      clear hBr5 hBs5 hE5' HTx HTy HS
      generalize w5 = V at *
      have HP := Lib.hid (uparse_k t V (HLm.out.ext hE6') (by omega))
      have HZ := Lib.hid (fun (q : Rec) W (hV : RcV q W) (hD : q.D = RecD.zero) => zero30_c q true W hV (by rw [hD]; exact sameR_iff.2 rfl))
      have HTq := Lib.hid (fun (q : Rec) W (hV : RcV q W) (hv : vldR q.D = true) => utext_yes q W hV hv)
      have HPq := Lib.hid (fun (q : Rec) W (hm : Lm W) (hv : vldR q.D = true) => uparse_txt q.D W hm hv)
      have HVq := Lib.hid (fun (q : Rec) W (hV : RcV q W) (hv : vldR q.D = true) => uvalid_c q true W hV hv)
      have HSq := Lib.hid (fun (q q' : Rec) W (hV : RcV q W) (hV' : RcV q' W) (hD : q'.D = q.D) => same30_c q q' true W hV hV' (by rw [hD]; exact sameR_iff.2 rfl))
      clear HG HH HAw
      go_upto_region 10 with (first
        | (go_at_call 17; (with_reducible refine HP.out.mono ?_); rintro e x1 ⟨q, k, rfl, hVq, hE7, hqk⟩; have HVV := Lib.hid hVq; have HE7 := Lib.hid hE7; clear hVq hE7; have hrs := rec_size q; have hr1 := rec_all1 q; have hTz := thr_new x1 (#[.int .i64 0, .int .i64 0, .int .i64 0, .int .i64 0, .slice none 0 0, .slice none 0 0, .slice none 0 0, .slice none 0 0, .slice none 0 0, .slice none 0 0, .slice none 0 0, .slice none 0 0, .slice none 0 0, .int .i64 0]) 25 14 rfl; have hlz : x1.heap.size < (x1.alloc (.cells #[.int .i64 0, .int .i64 0, .int .i64 0, .int .i64 0, .slice none 0 0, .slice none 0 0, .slice none 0 0, .slice none 0 0, .slice none 0 0, .slice none 0 0, .slice none 0 0, .slice none 0 0, .slice none 0 0, .int .i64 0] 25)).heap.size := by simp)
        | (refine wpList_store_gen (op := ⟨none, .store 25 (.tmp 11) (.tmp 58), _, _, _, _⟩) rfl 25 _ _ rfl x1.heap.size q.vals rfl rfl hlz hTz hrs hr1 ?_; intro x2 hF2 hl2 hr2))
      have hE8 : Ext x1 x2 := Frm.far ((Ext.refl x1).alloc _) hF2 (fun k hk e => by omega)
      have hV2 := HVV.out.ext hE8
      have hX2 := HE7.out.trans hE8
      clear hF2 hTz hlz hE8
      generalize x1.heap.size = D at *
      rcases hqk with ⟨hk, hz⟩ | ⟨rfl, hv⟩
      · go_wp2_with (first
          | (refine load_midg (by rfl) 25 _ rfl D 0 rfl q.vals _ hr2 Tryz.underlying25 rfl hrs ?_)
          | (go_at_call 28; (with_reducible refine (HZ.out q _ hV2 hz).mono ?_); rintro e x3 ⟨rfl, hE9⟩))
        go_ret
        exact ⟨rfl, HE0.out.trans (hE6'.trans (hX2.trans hE9))⟩
      · have htl := txt_len mom_ok hv
        have hTq := HTq.out q x2 hV2 hv
        have hPq := fun W h => HPq.out q W h hv
        obtain ⟨tx, htx⟩ : ∃ tx, tx = txtZ momT q.D := ⟨_, rfl⟩
        rw [← htx] at htl hTq hPq
        have HTq' := Lib.hid hTq
        have HPq' := Lib.hid hPq
        clear hTq hPq HTq HPq htx
        have HB2 : Hid (RcB q D x2) := ⟨hl2, hr2⟩
        go_upto_region 14 with (first
          | (refine load_midg (by rfl) 25 _ rfl D 0 rfl q.vals _ hr2 Tryz.underlying25 rfl hrs ?_)
          | (go_at_call 13; (with_reducible refine HTq'.out.mono ?_); rintro e x3 ⟨rfl, hE9⟩)
          | (go_at_call 17; (with_reducible refine (HPq'.out x3 (HLm.out.ext (hE6'.trans (hX2.trans hE9)))).mono ?_); rintro e x4 ⟨q2, hD2, rfl, hV4, hE10⟩; have HV4 := Lib.hid hV4; have HD2 := Lib.hid hD2; have HE10 := Lib.hid hE10; clear hV4 hD2 hE10; have hrsb := rec_size q2; have hr1b := rec_all1 q2; have hTzb := thr_new x4 (#[.int .i64 0, .int .i64 0, .int .i64 0, .int .i64 0, .slice none 0 0, .slice none 0 0, .slice none 0 0, .slice none 0 0, .slice none 0 0, .slice none 0 0, .slice none 0 0, .slice none 0 0, .slice none 0 0, .int .i64 0]) 25 14 rfl; have hlzb : x4.heap.size < (x4.alloc (.cells #[.int .i64 0, .int .i64 0, .int .i64 0, .int .i64 0, .slice none 0 0, .slice none 0 0, .slice none 0 0, .slice none 0 0, .slice none 0 0, .slice none 0 0, .slice none 0 0, .slice none 0 0, .slice none 0 0, .int .i64 0] 25)).heap.size := by simp)
          | (refine wpList_store_gen (op := ⟨none, .store 25 (.tmp 15) (.tmp 72), _, _, _, _⟩) rfl 25 _ _ rfl x4.heap.size q2.vals rfl rfl hlzb hTzb hrsb hr1b ?_; intro x5 hF2b hl2b hr2b))
        have hE11 : Ext x4 x5 := Frm.far ((Ext.refl x4).alloc _) hF2b (fun k hk e => by omega)
        have hX5 := hE9.trans (HE10.out.trans hE11)
        have hV5 := HV4.out.ext hE11
        have hV2' := hV2.ext hX5
        have hB5 := (HB2.out.ext hX5).2
        clear hF2b hTzb hlzb hE11 hE9 hr2
        generalize x4.heap.size = F at *
        go_wp2_with (first
          | (refine load_midg (by rfl) 25 _ rfl D 0 rfl q.vals _ (by assumption) Tryz.underlying25 rfl hrs ?_)
          | (refine load_midg (by rfl) 25 _ rfl F 0 rfl q2.vals _ (by assumption) Tryz.underlying25 rfl hrsb ?_)
          | (go_at_call 19; (with_reducible refine (HSq.out q q2 _ hV2' hV5 HD2.out).mono ?_); rintro e x6 ⟨rfl, hE12⟩; have hB6 := ((HB2.out.ext hX5).ext hE12).2)
          | (go_at_call 27; (with_reducible refine (HVq.out q _ (hV2'.ext hE12) hv).mono ?_); rintro e x7 ⟨rfl, hE13⟩))
        go_ret
        exact ⟨rfl, HE0.out.trans (hE6'.trans (hX2.trans (hX5.trans (hE12.trans hE13))))⟩
    · go_upto_region 9 with fail
      have hE6' := hE5'
      clear hBr5 hBs5 hE5' HTx HTy HS
      generalize w5 = V at *
      have HP := Lib.hid (uparse_k t V (HLm.out.ext hE6') (by omega))
      have HZ := Lib.hid (fun (q : Rec) W (hV : RcV q W) (hD : q.D = RecD.zero) => zero30_c q true W hV (by rw [hD]; exact sameR_iff.2 rfl))
      have HTq := Lib.hid (fun (q : Rec) W (hV : RcV q W) (hv : vldR q.D = true) => utext_yes q W hV hv)
      have HPq := Lib.hid (fun (q : Rec) W (hm : Lm W) (hv : vldR q.D = true) => uparse_txt q.D W hm hv)
      have HVq := Lib.hid (fun (q : Rec) W (hV : RcV q W) (hv : vldR q.D = true) => uvalid_c q true W hV hv)
      have HSq := Lib.hid (fun (q q' : Rec) W (hV : RcV q W) (hV' : RcV q' W) (hD : q'.D = q.D) => same30_c q q' true W hV hV' (by rw [hD]; exact sameR_iff.2 rfl))
      clear HG HH HAw
      go_upto_region 10 with (first
        | (go_at_call 17; (with_reducible refine HP.out.mono ?_); rintro e x1 ⟨q, k, rfl, hVq, hE7, hqk⟩; have HVV := Lib.hid hVq; have HE7 := Lib.hid hE7; clear hVq hE7; have hrs := rec_size q; have hr1 := rec_all1 q; have hTz := thr_new x1 (#[.int .i64 0, .int .i64 0, .int .i64 0, .int .i64 0, .slice none 0 0, .slice none 0 0, .slice none 0 0, .slice none 0 0, .slice none 0 0, .slice none 0 0, .slice none 0 0, .slice none 0 0, .slice none 0 0, .int .i64 0]) 25 14 rfl; have hlz : x1.heap.size < (x1.alloc (.cells #[.int .i64 0, .int .i64 0, .int .i64 0, .int .i64 0, .slice none 0 0, .slice none 0 0, .slice none 0 0, .slice none 0 0, .slice none 0 0, .slice none 0 0, .slice none 0 0, .slice none 0 0, .slice none 0 0, .int .i64 0] 25)).heap.size := by simp)
        | (refine wpList_store_gen (op := ⟨none, .store 25 (.tmp 11) (.tmp 58), _, _, _, _⟩) rfl 25 _ _ rfl x1.heap.size q.vals rfl rfl hlz hTz hrs hr1 ?_; intro x2 hF2 hl2 hr2))
      have hE8 : Ext x1 x2 := Frm.far ((Ext.refl x1).alloc _) hF2 (fun k hk e => by omega)
      have hV2 := HVV.out.ext hE8
      have hX2 := HE7.out.trans hE8
      clear hF2 hTz hlz hE8
      generalize x1.heap.size = D at *
      rcases hqk with ⟨hk, hz⟩ | ⟨rfl, hv⟩
      · go_wp2_with (first
          | (refine load_midg (by rfl) 25 _ rfl D 0 rfl q.vals _ hr2 Tryz.underlying25 rfl hrs ?_)
          | (go_at_call 28; (with_reducible refine (HZ.out q _ hV2 hz).mono ?_); rintro e x3 ⟨rfl, hE9⟩))
        go_ret
        exact ⟨rfl, HE0.out.trans (hE6'.trans (hX2.trans hE9))⟩
      · have htl := txt_len mom_ok hv
        have hTq := HTq.out q x2 hV2 hv
        have hPq := fun W h => HPq.out q W h hv
        obtain ⟨tx, htx⟩ : ∃ tx, tx = txtZ momT q.D := ⟨_, rfl⟩
        rw [← htx] at htl hTq hPq
        have HTq' := Lib.hid hTq
        have HPq' := Lib.hid hPq
        clear hTq hPq HTq HPq htx
        have HB2 : Hid (RcB q D x2) := ⟨hl2, hr2⟩
        go_upto_region 14 with (first
          | (refine load_midg (by rfl) 25 _ rfl D 0 rfl q.vals _ hr2 Tryz.underlying25 rfl hrs ?_)
          | (go_at_call 13; (with_reducible refine HTq'.out.mono ?_); rintro e x3 ⟨rfl, hE9⟩)
          | (go_at_call 17; (with_reducible refine (HPq'.out x3 (HLm.out.ext (hE6'.trans (hX2.trans hE9)))).mono ?_); rintro e x4 ⟨q2, hD2, rfl, hV4, hE10⟩; have HV4 := Lib.hid hV4; have HD2 := Lib.hid hD2; have HE10 := Lib.hid hE10; clear hV4 hD2 hE10; have hrsb := rec_size q2; have hr1b := rec_all1 q2; have hTzb := thr_new x4 (#[.int .i64 0, .int .i64 0, .int .i64 0, .int .i64 0, .slice none 0 0, .slice none 0 0, .slice none 0 0, .slice none 0 0, .slice none 0 0, .slice none 0 0, .slice none 0 0, .slice none 0 0, .slice none 0 0, .int .i64 0]) 25 14 rfl; have hlzb : x4.heap.size < (x4.alloc (.cells #[.int .i64 0, .int .i64 0, .int .i64 0, .int .i64 0, .slice none 0 0, .slice none 0 0, .slice none 0 0, .slice none 0 0, .slice none 0 0, .slice none 0 0, .slice none 0 0, .slice none 0 0, .slice none 0 0, .int .i64 0] 25)).heap.size := by simp)
          | (refine wpList_store_gen (op := ⟨none, .store 25 (.tmp 15) (.tmp 72), _, _, _, _⟩) rfl 25 _ _ rfl x4.heap.size q2.vals rfl rfl hlzb hTzb hrsb hr1b ?_; intro x5 hF2b hl2b hr2b))
        have hE11 : Ext x4 x5 := Frm.far ((Ext.refl x4).alloc _) hF2b (fun k hk e => by omega)
        have hX5 := hE9.trans (HE10.out.trans hE11)
        have hV5 := HV4.out.ext hE11
        have hV2' := hV2.ext hX5
        have hB5 := (HB2.out.ext hX5).2
        clear hF2b hTzb hlzb hE11 hE9 hr2
        generalize x4.heap.size = F at *
        go_wp2_with (first
          | (refine load_midg (by rfl) 25 _ rfl D 0 rfl q.vals _ (by assumption) Tryz.underlying25 rfl hrs ?_)
          | (refine load_midg (by rfl) 25 _ rfl F 0 rfl q2.vals _ (by assumption) Tryz.underlying25 rfl hrsb ?_)
          | (go_at_call 19; (with_reducible refine (HSq.out q q2 _ hV2' hV5 HD2.out).mono ?_); rintro e x6 ⟨rfl, hE12⟩; have hB6 := ((HB2.out.ext hX5).ext hE12).2)
          | (go_at_call 27; (with_reducible refine (HVq.out q _ (hV2'.ext hE12) hv).mono ?_); rintro e x7 ⟨rfl, hE13⟩))
        go_ret
        exact ⟨rfl, HE0.out.trans (hE6'.trans (hX2.trans (hX5.trans (hE12.trans hE13))))⟩
  · go_upto_region 9 with (first
      | (refine load_midg (by rfl) 25 _ rfl B 0 rfl r.vals _ (by assumption) Tryz.underlying25 rfl hRr ?_)
      | (refine load_midg (by rfl) 25 _ rfl C 0 rfl s.vals _ (by assumption) Tryz.underlying25 rfl hRs ?_)
      | (go_at_call 19; (with_reducible refine (HS.out _ hE5').mono ?_); rintro e w6 ⟨rfl, hE6⟩; have hE6' := hE5'.trans hE6))
    clear hBr5 hBs5 hE5' HTx HTy HS hE6
    generalize w6 = V at *
    have HP := Lib.hid (uparse_k t V (HLm.out.ext hE6') (by omega))
    have HZ := Lib.hid (fun (q : Rec) W (hV : RcV q W) (hD : q.D = RecD.zero) => zero30_c q true W hV (by rw [hD]; exact sameR_iff.2 rfl))
    have HTq := Lib.hid (fun (q : Rec) W (hV : RcV q W) (hv : vldR q.D = true) => utext_yes q W hV hv)
    have HPq := Lib.hid (fun (q : Rec) W (hm : Lm W) (hv : vldR q.D = true) => uparse_txt q.D W hm hv)
    have HVq := Lib.hid (fun (q : Rec) W (hV : RcV q W) (hv : vldR q.D = true) => uvalid_c q true W hV hv)
    have HSq := Lib.hid (fun (q q' : Rec) W (hV : RcV q W) (hV' : RcV q' W) (hD : q'.D = q.D) => same30_c q q' true W hV hV' (by rw [hD]; exact sameR_iff.2 rfl))
    clear HG HH HAw
    go_upto_region 10 with (first
      | (go_at_call 17; (with_reducible refine HP.out.mono ?_); rintro e x1 ⟨q, k, rfl, hVq, hE7, hqk⟩; have HVV := Lib.hid hVq; have HE7 := Lib.hid hE7; clear hVq hE7; have hrs := rec_size q; have hr1 := rec_all1 q; have hTz := thr_new x1 (#[.int .i64 0, .int .i64 0, .int .i64 0, .int .i64 0, .slice none 0 0, .slice none 0 0, .slice none 0 0, .slice none 0 0, .slice none 0 0, .slice none 0 0, .slice none 0 0, .slice none 0 0, .slice none 0 0, .int .i64 0]) 25 14 rfl; have hlz : x1.heap.size < (x1.alloc (.cells #[.int .i64 0, .int .i64 0, .int .i64 0, .int .i64 0, .slice none 0 0, .slice none 0 0, .slice none 0 0, .slice none 0 0, .slice none 0 0, .slice none 0 0, .slice none 0 0, .slice none 0 0, .slice none 0 0, .int .i64 0] 25)).heap.size := by simp)
      | (refine wpList_store_gen (op := ⟨none, .store 25 (.tmp 11) (.tmp 58), _, _, _, _⟩) rfl 25 _ _ rfl x1.heap.size q.vals rfl rfl hlz hTz hrs hr1 ?_; intro x2 hF2 hl2 hr2))
    have hE8 : Ext x1 x2 := Frm.far ((Ext.refl x1).alloc _) hF2 (fun k hk e => by omega)
    have hV2 := HVV.out.ext hE8
    have hX2 := HE7.out.trans hE8
    clear hF2 hTz hlz hE8
    generalize x1.heap.size = D at *
    rcases hqk with ⟨hk, hz⟩ | ⟨rfl, hv⟩
    · go_wp2_with (first
        | (refine load_midg (by rfl) 25 _ rfl D 0 rfl q.vals _ hr2 Tryz.underlying25 rfl hrs ?_)
        | (go_at_call 28; (with_reducible refine (HZ.out q _ hV2 hz).mono ?_); rintro e x3 ⟨rfl, hE9⟩))
      go_ret
      exact ⟨rfl, HE0.out.trans (hE6'.trans (hX2.trans hE9))⟩
    · have htl := txt_len mom_ok hv
      have hTq := HTq.out q x2 hV2 hv
      have hPq := fun W h => HPq.out q W h hv
      obtain ⟨tx, htx⟩ : ∃ tx, tx = txtZ momT q.D := ⟨_, rfl⟩
      rw [← htx] at htl hTq hPq
      have HTq' := Lib.hid hTq
      have HPq' := Lib.hid hPq
      clear hTq hPq HTq HPq htx
      have HB2 : Hid (RcB q D x2) := ⟨hl2, hr2⟩
      go_upto_region 14 with (first
        | (refine load_midg (by rfl) 25 _ rfl D 0 rfl q.vals _ hr2 Tryz.underlying25 rfl hrs ?_)
        | (go_at_call 13; (with_reducible refine HTq'.out.mono ?_); rintro e x3 ⟨rfl, hE9⟩)
        | (go_at_call 17; (with_reducible refine (HPq'.out x3 (HLm.out.ext (hE6'.trans (hX2.trans hE9)))).mono ?_); rintro e x4 ⟨q2, hD2, rfl, hV4, hE10⟩; have HV4 := Lib.hid hV4; have HD2 := Lib.hid hD2; have HE10 := Lib.hid hE10; clear hV4 hD2 hE10; have hrsb := rec_size q2; have hr1b := rec_all1 q2; have hTzb := thr_new x4 (#[.int .i64 0, .int .i64 0, .int .i64 0, .int .i64 0, .slice none 0 0, .slice none 0 0, .slice none 0 0, .slice none 0 0, .slice none 0 0, .slice none 0 0, .slice none 0 0, .slice none 0 0, .slice none 0 0, .int .i64 0]) 25 14 rfl; have hlzb : x4.heap.size < (x4.alloc (.cells #[.int .i64 0, .int .i64 0, .int .i64 0, .int .i64 0, .slice none 0 0, .slice none 0 0, .slice none 0 0, .slice none 0 0, .slice none 0 0, .slice none 0 0, .slice none 0 0, .slice none 0 0, .slice none 0 0, .int .i64 0] 25)).heap.size := by simp)
        | (refine wpList_store_gen (op := ⟨none, .store 25 (.tmp 15) (.tmp 72), _, _, _, _⟩) rfl 25 _ _ rfl x4.heap.size q2.vals rfl rfl hlzb hTzb hrsb hr1b ?_; intro x5 hF2b hl2b hr2b))
      have hE11 : Ext x4 x5 := Frm.far ((Ext.refl x4).alloc _) hF2b (fun k hk e => by omega)
      have hX5 := hE9.trans (HE10.out.trans hE11)
      have hV5 := HV4.out.ext hE11
      have hV2' := hV2.ext hX5
      have hB5 := (HB2.out.ext hX5).2
      clear hF2b hTzb hlzb hE11 hE9 hr2
      generalize x4.heap.size = F at *
      go_wp2_with (first
        | (refine load_midg (by rfl) 25 _ rfl D 0 rfl q.vals _ (by assumption) Tryz.underlying25 rfl hrs ?_)
        | (refine load_midg (by rfl) 25 _ rfl F 0 rfl q2.vals _ (by assumption) Tryz.underlying25 rfl hrsb ?_)
        | (go_at_call 19; (with_reducible refine (HSq.out q q2 _ hV2' hV5 HD2.out).mono ?_); rintro e x6 ⟨rfl, hE12⟩; have hB6 := ((HB2.out.ext hX5).ext hE12).2)
        | (go_at_call 27; (with_reducible refine (HVq.out q _ (hV2'.ext hE12) hv).mono ?_); rintro e x7 ⟨rfl, hE13⟩))
      go_ret
      exact ⟨rfl, HE0.out.trans (hE6'.trans (hX2.trans (hX5.trans (hE12.trans hE13))))⟩
  · go_upto_region 9 with (first
      | (refine load_midg (by rfl) 25 _ rfl B 0 rfl r.vals _ (by assumption) Tryz.underlying25 rfl hRr ?_)
      | (refine load_midg (by rfl) 25 _ rfl C 0 rfl s.vals _ (by assumption) Tryz.underlying25 rfl hRs ?_)
      | (go_at_call 19; (with_reducible refine (HS.out _ hE5').mono ?_); rintro e w6 ⟨rfl, hE6⟩; have hE6' := hE5'.trans hE6))
    · exfalso; clear HTx HTy HS HG HH HLm HAw HBr HBs HE0 hE5' hE6' hE6 hBr5 hBs5; simp_all
    clear hBr5 hBs5 hE5' HTx HTy HS hE6
    generalize w6 = V at *
    have HP := Lib.hid (uparse_k t V (HLm.out.ext hE6') (by omega))
    have HZ := Lib.hid (fun (q : Rec) W (hV : RcV q W) (hD : q.D = RecD.zero) => zero30_c q true W hV (by rw [hD]; exact sameR_iff.2 rfl))
    have HTq := Lib.hid (fun (q : Rec) W (hV : RcV q W) (hv : vldR q.D = true) => utext_yes q W hV hv)
    have HPq := Lib.hid (fun (q : Rec) W (hm : Lm W) (hv : vldR q.D = true) => uparse_txt q.D W hm hv)
    have HVq := Lib.hid (fun (q : Rec) W (hV : RcV q W) (hv : vldR q.D = true) => uvalid_c q true W hV hv)
    have HSq := Lib.hid (fun (q q' : Rec) W (hV : RcV q W) (hV' : RcV q' W) (hD : q'.D = q.D) => same30_c q q' true W hV hV' (by rw [hD]; exact sameR_iff.2 rfl))
    clear HG HH HAw
    go_upto_region 10 with (first
      | (go_at_call 17; (with_reducible refine HP.out.mono ?_); rintro e x1 ⟨q, k, rfl, hVq, hE7, hqk⟩; have HVV := Lib.hid hVq; have HE7 := Lib.hid hE7; clear hVq hE7; have hrs := rec_size q; have hr1 := rec_all1 q; have hTz := thr_new x1 (#[.int .i64 0, .int .i64 0, .int .i64 0, .int .i64 0, .slice none 0 0, .slice none 0 0, .slice none 0 0, .slice none 0 0, .slice none 0 0, .slice none 0 0, .slice none 0 0, .slice none 0 0, .slice none 0 0, .int .i64 0]) 25 14 rfl; have hlz : x1.heap.size < (x1.alloc (.cells #[.int .i64 0, .int .i64 0, .int .i64 0, .int .i64 0, .slice none 0 0, .slice none 0 0, .slice none 0 0, .slice none 0 0, .slice none 0 0, .slice none 0 0, .slice none 0 0, .slice none 0 0, .slice none 0 0, .int .i64 0] 25)).heap.size := by simp)
      | (refine wpList_store_gen (op := ⟨none, .store 25 (.tmp 11) (.tmp 58), _, _, _, _⟩) rfl 25 _ _ rfl x1.heap.size q.vals rfl rfl hlz hTz hrs hr1 ?_; intro x2 hF2 hl2 hr2))
    have hE8 : Ext x1 x2 := Frm.far ((Ext.refl x1).alloc _) hF2 (fun k hk e => by omega)
    have hV2 := HVV.out.ext hE8
    have hX2 := HE7.out.trans hE8
    clear hF2 hTz hlz hE8
    generalize x1.heap.size = D at *
    rcases hqk with ⟨hk, hz⟩ | ⟨rfl, hv⟩
    · go_wp2_with (first
        | (refine load_midg (by rfl) 25 _ rfl D 0 rfl q.vals _ hr2 Tryz.underlying25 rfl hrs ?_)
        | (go_at_call 28; (with_reducible refine (HZ.out q _ hV2 hz).mono ?_); rintro e x3 ⟨rfl, hE9⟩))
      go_ret
      exact ⟨rfl, HE0.out.trans (hE6'.trans (hX2.trans hE9))⟩
    · have htl := txt_len mom_ok hv
      have hTq := HTq.out q x2 hV2 hv
      have hPq := fun W h => HPq.out q W h hv
      obtain ⟨tx, htx⟩ : ∃ tx, tx = txtZ momT q.D := ⟨_, rfl⟩
      rw [← htx] at htl hTq hPq
      have HTq' := Lib.hid hTq
      have HPq' := Lib.hid hPq
      clear hTq hPq HTq HPq htx
      have HB2 : Hid (RcB q D x2) := ⟨hl2, hr2⟩
      go_upto_region 14 with (first
        | (refine load_midg (by rfl) 25 _ rfl D 0 rfl q.vals _ hr2 Tryz.underlying25 rfl hrs ?_)
        | (go_at_call 13; (with_reducible refine HTq'.out.mono ?_); rintro e x3 ⟨rfl, hE9⟩)
        | (go_at_call 17; (with_reducible refine (HPq'.out x3 (HLm.out.ext (hE6'.trans (hX2.trans hE9)))).mono ?_); rintro e x4 ⟨q2, hD2, rfl, hV4, hE10⟩; have HV4 := Lib.hid hV4; have HD2 := Lib.hid hD2; have HE10 := Lib.hid hE10; clear hV4 hD2 hE10; have hrsb := rec_size q2; have hr1b := rec_all1 q2; have hTzb := thr_new x4 (#[.int .i64 0, .int .i64 0, .int .i64 0, .int .i64 0, .slice none 0 0, .slice none 0 0, .slice none 0 0, .slice none 0 0, .slice none 0 0, .slice none 0 0, .slice none 0 0, .slice none 0 0, .slice none 0 0, .int .i64 0]) 25 14 rfl; have hlzb : x4.heap.size < (x4.alloc (.cells #[.int .i64 0, .int .i64 0, .int .i64 0, .int .i64 0, .slice none 0 0, .slice none 0 0, .slice none 0 0, .slice none 0 0, .slice none 0 0, .slice none 0 0, .slice none 0 0, .slice none 0 0, .slice none 0 0, .int .i64 0] 25)).heap.size := by simp)
        | (refine wpList_store_gen (op := ⟨none, .store 25 (.tmp 15) (.tmp 72), _, _, _, _⟩) rfl 25 _ _ rfl x4.heap.size q2.vals rfl rfl hlzb hTzb hrsb hr1b ?_; intro x5 hF2b hl2b hr2b))
      have hE11 : Ext x4 x5 := Frm.far ((Ext.refl x4).alloc _) hF2b (fun k hk e => by omega)
      have hX5 := hE9.trans (HE10.out.trans hE11)
      have hV5 := HV4.out.ext hE11
      have hV2' := hV2.ext hX5
      have hB5 := (HB2.out.ext hX5).2
      clear hF2b hTzb hlzb hE11 hE9 hr2
      generalize x4.heap.size = F at *
      go_wp2_with (first
        | (refine load_midg (by rfl) 25 _ rfl D 0 rfl q.vals _ (by assumption) Tryz.underlying25 rfl hrs ?_)
        | (refine load_midg (by rfl) 25 _ rfl F 0 rfl q2.vals _ (by assumption) Tryz.underlying25 rfl hrsb ?_)
        | (go_at_call 19; (with_reducible refine (HSq.out q q2 _ hV2' hV5 HD2.out).mono ?_); rintro e x6 ⟨rfl, hE12⟩; have hB6 := ((HB2.out.ext hX5).ext hE12).2)
        | (go_at_call 27; (with_reducible refine (HVq.out q _ (hV2'.ext hE12) hv).mono ?_); rintro e x7 ⟨rfl, hE13⟩))
      go_ret
      exact ⟨rfl, HE0.out.trans (hE6'.trans (hX2.trans (hX5.trans (hE12.trans hE13))))⟩
theorem uniq30_c (r s : Rec) (t : List UInt8) (w : World) (hm : Lm w) (hV : RcV r w) (hU : RcV s w) (ht : t.length ≤ 9223372036854775807) :
    Calls Tryz.prog 8 #[.agg r.vals.toArray, .agg s.vals.toArray, .string ⟨t.toArray⟩] w fun e w' => e = .returned (.bool true) ∧ Ext w w' := by
  rcases Bool.eq_false_or_eq_true (greatR r.D) with h1 | h1
  · exact uniq_great r s t w hm hV hU ht (Or.inl h1)
  · rcases Bool.eq_false_or_eq_true (greatR s.D) with h2 | h2
    · exact uniq_great r s t w hm hV hU ht (Or.inr (Or.inl h2))
    · by_cases h3 : t.length ≤ 1000
      · exact uniq_go r s t w hm hV hU h1 h2 h3
      · exact uniq_great r s t w hm hV hU ht (Or.inr (Or.inr (by omega)))
theorem uniq30_walk (r s : Rec) (t : ByteArray) (w : World) (hm : Lm w) (hV : RcV r w) (hU : RcV s w) (ht : t.size ≤ 9223372036854775807) :
    Calls Tryz.prog 8 #[.agg r.vals.toArray, .agg s.vals.toArray, .string t] w fun e w' => e = .returned (.bool true) ∧ Ext w w' := by
  have := uniq30_c r s t.data.toList w hm hV hU (by rw [Array.length_toList]; exact ht)
  simpa using this
end Go.Proofs.YtgndogpgfgliaaaGreatDoor
