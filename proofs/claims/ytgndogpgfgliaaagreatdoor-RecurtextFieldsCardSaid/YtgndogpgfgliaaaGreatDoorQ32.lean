/- Recurrence rules: the walk of the law RecurtextFields. -/
import Derived.Test.YtgndogpgfgliaaaGreatDoorQ30
import Derived.Test.YtgndogpgfgliaaaGreatDoorQ31
namespace Go.Proofs.YtgndogpgfgliaaaGreatDoor
set_option linter.unusedVariables false
set_option linter.unnecessarySimpa false
set_option linter.unusedSimpArgs false
open Go.RowKit

theorem prt_er {nm s : List UInt8} {R : RecD} {c : Nat} (h : prtZ untZ nm s R = .er c) : c ≠ 0 := by
  unfold prtZ at h
  split at h
  · injection h with q; subst q; decide
  · split at h
    · cases h
    · injection h with q; subst q; decide
theorem upart_k (nm s : List UInt8) (r : Rec) (w : World) (hm : Lm w) (hs : s.length ≤ 50000) (hV : RcV r w) : Calls Tryz.prog 20 #[.string ⟨nm.toArray⟩, .string ⟨s.toArray⟩, .agg r.vals.toArray] w fun e w' =>
    ∃ (q : Rec) (k : Int), e = .returned (.tuple #[.agg q.vals.toArray, .int .i64 k]) ∧ RcV q w' ∧ Ext w w' ∧ (k ≠ 0 ∧ q.D = RecD.zero ∨ k = 0 ∧ prtZ untZ nm s r.D = .ok q.D) := by
  refine (part_c nm s r w hm hs hV).mono (fun e w' h => ?_)
  unfold PartR at h
  cases hp : prtZ untZ nm s r.D with
  | er c =>
    rw [hp] at h
    have hc := prt_er hp
    exact ⟨Rec.zero, _, h.1, rec_zero w', h.2, Or.inl ⟨by omega, rfl⟩⟩
  | ok D =>
    rw [hp] at h
    obtain ⟨q, h1, h2, h3, h4, -⟩ := h
    exact ⟨q, 0, h2, h3, h4, Or.inr ⟨rfl, by rw [h1]⟩⟩
theorem upart_ok (nm s : List UInt8) (r : Rec) (A : RecD) (w : World) (hm : Lm w) (hs : s.length ≤ 50000) (hV : RcV r w) (hp : prtZ untZ nm s r.D = .ok A) : Calls Tryz.prog 20 #[.string ⟨nm.toArray⟩, .string ⟨s.toArray⟩, .agg r.vals.toArray] w fun e w' =>
    ∃ q : Rec, q.D = A ∧ e = .returned (.tuple #[.agg q.vals.toArray, .int .i64 0]) ∧ RcV q w' ∧ Ext w w' := by
  refine (part_c nm s r w hm hs hV).mono (fun e w' h => ?_)
  unfold PartR at h
  rw [hp] at h
  obtain ⟨q, h1, h2, h3, h4, -⟩ := h
  exact ⟨q, h1, h2, h3, h4⟩
def cntF (L : List Bool) : Nat := (L.filter fun x => !x).length
theorem cntF_take (L : List Bool) (j : Nat) (h : j < L.length) : cntF (L.take (j + 1)) = cntF (L.take j) + if L[j] = true then 0 else 1 := by
  unfold cntF
  rw [List.take_add_one, List.filter_append, List.length_append, List.getElem?_eq_getElem h]
  congr 1
  cases hx : L[j] <;> simp
theorem cntF_le : ∀ (L : List Bool) (k : Nat), (∀ j (h : j < L.length), j ≠ k → L[j] = true) → cntF L ≤ 1
  | [], k, h => by simp [cntF]
  | x :: l, k, h => by
    unfold cntF
    cases k with
    | zero =>
      have hl : l.filter (fun x => !x) = [] := List.filter_eq_nil_iff.2 (fun y hy => by
        obtain ⟨i, hi, rfl⟩ := List.mem_iff_getElem.1 hy
        have := h (i + 1) (by simp; omega) (by omega)
        simp only [List.getElem_cons_succ] at this
        simp [this])
      rw [List.filter_cons]
      split
      · rw [hl]; simp
      · rw [hl]; simp
    | succ k =>
      have h0 := h 0 (by simp) (by omega)
      simp only [List.getElem_cons_zero] at h0
      rw [List.filter_cons, if_neg (by simp [h0])]
      exact cntF_le l k (fun j hj hk => by
        have := h (j + 1) (by simp; omega) (by omega)
        simpa using this)
/-- Which fields agree, in the law's order. -/
def agr (A B : RecD) : List Bool := [A.fr == B.fr, A.iv == B.iv, A.ct == B.ct, A.un == B.un, A.ws == B.ws, decide (A.mo = B.mo), decide (A.md = B.md), decide (A.yd = B.yd), decide (A.wk = B.wk), decide (A.da = B.da), decide (A.ho = B.ho), decide (A.mi = B.mi), decide (A.se = B.se), decide (A.po = B.po)]
def agK : Nat → Nat
  | 0 => 0
  | 1 => 1
  | 2 => 2
  | 3 => 3
  | 4 => 5
  | 5 => 8
  | 6 => 7
  | 7 => 6
  | 8 => 9
  | 9 => 10
  | 10 => 11
  | 11 => 12
  | 12 => 13
  | _ => 4
theorem agr_one {A B : RecD} {k : Nat} (hk : k < 14) (h : ∀ j, j < 14 → j ≠ k → fEq j A B) : cntF (agr A B) ≤ 1 := by
  refine cntF_le (agr A B) (agK k) (fun j hj hjk => ?_)
  have hj14 : j < 14 := hj
  have hf : ∀ i, i < 14 → agK i ≠ agK k → fEq i A B := fun i hi e => h i hi (fun q => e (by rw [q]))
  rcases (show j = 0 ∨ j = 1 ∨ j = 2 ∨ j = 3 ∨ j = 4 ∨ j = 5 ∨ j = 6 ∨ j = 7 ∨ j = 8 ∨ j = 9 ∨ j = 10 ∨ j = 11 ∨ j = 12 ∨ j = 13 by omega) with rfl | rfl | rfl | rfl | rfl | rfl | rfl | rfl | rfl | rfl | rfl | rfl | rfl | rfl
  · have q := hf 0 (by decide) (by intro e; exact hjk e); exact beq_iff_eq.2 (show A.fr = B.fr from q)
  · have q := hf 1 (by decide) (by intro e; exact hjk e); exact beq_iff_eq.2 (show A.iv = B.iv from q)
  · have q := hf 2 (by decide) (by intro e; exact hjk e); exact beq_iff_eq.2 (show A.ct = B.ct from q)
  · have q := hf 3 (by decide) (by intro e; exact hjk e); exact beq_iff_eq.2 (show A.un = B.un from q)
  · have q := hf 13 (by decide) (by intro e; exact hjk e); exact beq_iff_eq.2 (show A.ws = B.ws from q)
  · have q := hf 4 (by decide) (by intro e; exact hjk e); exact decide_eq_true (show A.mo = B.mo from q)
  · have q := hf 7 (by decide) (by intro e; exact hjk e); exact decide_eq_true (show A.md = B.md from q)
  · have q := hf 6 (by decide) (by intro e; exact hjk e); exact decide_eq_true (show A.yd = B.yd from q)
  · have q := hf 5 (by decide) (by intro e; exact hjk e); exact decide_eq_true (show A.wk = B.wk from q)
  · have q := hf 8 (by decide) (by intro e; exact hjk e); exact decide_eq_true (show A.da = B.da from q)
  · have q := hf 9 (by decide) (by intro e; exact hjk e); exact decide_eq_true (show A.ho = B.ho from q)
  · have q := hf 10 (by decide) (by intro e; exact hjk e); exact decide_eq_true (show A.mi = B.mi from q)
  · have q := hf 11 (by decide) (by intro e; exact hjk e); exact decide_eq_true (show A.se = B.se from q)
  · have q := hf 12 (by decide) (by intro e; exact hjk e); exact decide_eq_true (show A.po = B.po from q)
set_option maxRecDepth 100000 in
set_option maxHeartbeats 8000000 in
theorem fields_great (n1 v1 n2 v2 : List UInt8) (r : Rec) (w : World) (hm : Lm w) (hV : RcV r w) (hn1 : n1.length ≤ 9223372036854775807) (hv1 : v1.length ≤ 9223372036854775807) (hn2 : n2.length ≤ 9223372036854775807) (hv2 : v2.length ≤ 9223372036854775807) (hg : 500 < n1.length ∨ 500 < v1.length ∨ 500 < n2.length ∨ 500 < v2.length ∨ greatR r.D = true) :
    Calls Tryz.prog 9 #[.string ⟨n1.toArray⟩, .string ⟨v1.toArray⟩, .string ⟨n2.toArray⟩, .string ⟨v2.toArray⟩, .agg r.vals.toArray] w fun e w' => e = .returned (.bool true) ∧ Ext w w' := by
  have hE0 : Ext w (w.alloc (.cells r.vals.toArray 25)) := (Ext.refl w).alloc _
  have hB := RcB.new r w 25
  have hRs := rec_size r
  obtain ⟨W0, hW0⟩ : ∃ W0, W0 = w.alloc (.cells r.vals.toArray 25) := ⟨_, rfl⟩
  rw [← hW0] at hE0 hB
  have HE0 := Lib.hid hE0
  have HW0 := Lib.hid hW0
  have HB := Lib.hid hB
  have HG := Lib.hid (fun W (hE : Ext W0 W) => great30_c r (greatR r.D) W ((hV.ext hE0).ext hE) rfl)
  have HA := Lib.hid (awake30_c _ (hm.ext hE0))
  generalize greatR r.D = g at *
  clear hE0 hB hV hm hW0
  go_enter Tryz.func9, Tryz.ntmps9
  go_upto_region 1 with fail
  rw [← HW0.out]
  clear HW0
  generalize w.heap.size = B at *
  go_upto_region 3 with (go_at_call 11; (with_reducible refine HA.out.mono ?_); rintro e w1 ⟨rfl, hE1⟩)
  have hBr1 := (HB.out.ext hE1).2
  by_cases a1 : 500 < n1.length
  · clear hg
    have t1 : decide ((500 : Int) < (n1.length : Int)) = true := decide_eq_true (by omega)
    go_wp2_with fail
    go_ret
    exact ⟨rfl, HE0.out.trans hE1⟩
  have t1 : decide ((500 : Int) < (n1.length : Int)) = false := decide_eq_false (by omega)
  by_cases a2 : 500 < v1.length
  · clear hg
    have t2 : decide ((500 : Int) < (v1.length : Int)) = true := decide_eq_true (by omega)
    go_wp2_with fail
    go_ret
    exact ⟨rfl, HE0.out.trans hE1⟩
  have t2 : decide ((500 : Int) < (v1.length : Int)) = false := decide_eq_false (by omega)
  by_cases a3 : 500 < n2.length
  · clear hg
    have t3 : decide ((500 : Int) < (n2.length : Int)) = true := decide_eq_true (by omega)
    go_wp2_with fail
    go_ret
    exact ⟨rfl, HE0.out.trans hE1⟩
  have t3 : decide ((500 : Int) < (n2.length : Int)) = false := decide_eq_false (by omega)
  by_cases a4 : 500 < v2.length
  · clear hg
    have t4 : decide ((500 : Int) < (v2.length : Int)) = true := decide_eq_true (by omega)
    go_wp2_with fail
    go_ret
    exact ⟨rfl, HE0.out.trans hE1⟩
  have t4 : decide ((500 : Int) < (v2.length : Int)) = false := decide_eq_false (by omega)
  have hg1 : g = true := by
    rcases hg with q | q | q | q | q
    · exact absurd q a1
    · exact absurd q a2
    · exact absurd q a3
    · exact absurd q a4
    · exact q
  subst hg1
  clear hg
  go_wp2_with (first
    | (refine load_midg (by rfl) 25 _ rfl B 0 rfl r.vals _ hBr1 Tryz.underlying25 rfl hRs ?_)
    | (go_at_call 12; (with_reducible refine (HG.out _ hE1).mono ?_); rintro e w2 ⟨rfl, hE2⟩))
  go_ret
  exact ⟨rfl, HE0.out.trans (hE1.trans hE2)⟩
set_option maxRecDepth 100000 in
set_option maxHeartbeats 16000000 in
theorem fields_go (n1 v1 n2 v2 : List UInt8) (r : Rec) (w : World) (hm : Lm w) (hV : RcV r w) (hn1 : n1.length ≤ 500) (hv1 : v1.length ≤ 500) (hn2 : n2.length ≤ 500) (hv2 : v2.length ≤ 500) (hg : greatR r.D = false) :
    Calls Tryz.prog 9 #[.string ⟨n1.toArray⟩, .string ⟨v1.toArray⟩, .string ⟨n2.toArray⟩, .string ⟨v2.toArray⟩, .agg r.vals.toArray] w fun e w' => e = .returned (.bool true) ∧ Ext w w' := by
  have hE0 : Ext w (w.alloc (.cells r.vals.toArray 25)) := (Ext.refl w).alloc _
  have hB := RcB.new r w 25
  have hRs := rec_size r
  obtain ⟨W0, hW0⟩ : ∃ W0, W0 = w.alloc (.cells r.vals.toArray 25) := ⟨_, rfl⟩
  rw [← hW0] at hE0 hB
  have HE0 := Lib.hid hE0
  have HW0 := Lib.hid hW0
  have HB := Lib.hid hB
  have HG := Lib.hid (fun W (hE : Ext W0 W) => great30_c r (greatR r.D) W ((hV.ext hE0).ext hE) rfl)
  have HA := Lib.hid (awake30_c _ (hm.ext hE0))
  rw [hg] at HG
  have t1 : decide ((500 : Int) < (n1.length : Int)) = false := decide_eq_false (by omega)
  have t2 : decide ((500 : Int) < (v1.length : Int)) = false := decide_eq_false (by omega)
  have t3 : decide ((500 : Int) < (n2.length : Int)) = false := decide_eq_false (by omega)
  have t4 : decide ((500 : Int) < (v2.length : Int)) = false := decide_eq_false (by omega)
  have HV0 := Lib.hid (hV.ext hE0)
  have HLm := Lib.hid (hm.ext hE0)
  have HP1 := Lib.hid (fun W (hE : Ext W0 W) => upart_k n1 v1 r W ((hm.ext hE0).ext hE) (by omega) ((hV.ext hE0).ext hE))
  have HZ := Lib.hid (fun (q : Rec) W (hV : RcV q W) (hD : q.D = RecD.zero) => zero30_c q true W hV (by rw [hD]; exact sameR_iff.2 rfl))
  have HSq := Lib.hid (fun (q q' : Rec) W (hV : RcV q W) (hV' : RcV q' W) (hD : q'.D = q.D) => same30_c q q' true W hV hV' (by rw [hD]; exact sameR_iff.2 rfl))
  have Hl := Lib.hid (show n1.length ≤ 50000 ∧ v1.length ≤ 50000 ∧ n2.length ≤ 50000 ∧ v2.length ≤ 50000 from ⟨by omega, by omega, by omega, by omega⟩)
  clear hE0 hB hV hm hW0 hg
  go_enter Tryz.func9, Tryz.ntmps9
  go_upto_region 1 with fail
  rw [← HW0.out]
  clear HW0
  generalize w.heap.size = B at *
  go_upto_region 3 with (go_at_call 11; (with_reducible refine HA.out.mono ?_); rintro e w1 ⟨rfl, hE1⟩)
  have hBr1 := (HB.out.ext hE1).2
  go_upto_region 6 with (first
    | (refine load_midg (by rfl) 25 _ rfl B 0 rfl r.vals _ (by assumption) Tryz.underlying25 rfl hRs ?_)
    | (go_at_call 12; (with_reducible refine (HG.out _ hE1).mono ?_); rintro e w2 ⟨rfl, hE2⟩; have hE2' := hE1.trans hE2; have hBr2 := (HB.out.ext hE2').2)
    | (go_at_call 20; (with_reducible refine (HP1.out w2 hE2').mono ?_); rintro e x1 ⟨q, k, rfl, hVq, hE3, hqk⟩; have HVV := Lib.hid hVq; have HE3 := Lib.hid hE3; clear hVq hE3; have hrs := rec_size q; have hr1 := rec_all1 q; have hTz := thr_new x1 (#[.int .i64 0, .int .i64 0, .int .i64 0, .int .i64 0, .slice none 0 0, .slice none 0 0, .slice none 0 0, .slice none 0 0, .slice none 0 0, .slice none 0 0, .slice none 0 0, .slice none 0 0, .slice none 0 0, .int .i64 0]) 25 14 rfl; have hlz : x1.heap.size < (x1.alloc (.cells #[.int .i64 0, .int .i64 0, .int .i64 0, .int .i64 0, .slice none 0 0, .slice none 0 0, .slice none 0 0, .slice none 0 0, .slice none 0 0, .slice none 0 0, .slice none 0 0, .slice none 0 0, .slice none 0 0, .int .i64 0] 25)).heap.size := by simp)
    | (refine wpList_store_gen (op := ⟨none, .store 25 (.tmp 11) (.tmp 53), _, _, _, _⟩) rfl 25 _ _ rfl x1.heap.size q.vals rfl rfl hlz hTz hrs hr1 ?_; intro x2 hF2 hl2 hr2))
  have hE4 : Ext x1 x2 := Frm.far ((Ext.refl x1).alloc _) hF2 (fun k hk e => by omega)
  have hV2 := HVV.out.ext hE4
  have hX2 := hE2'.trans (HE3.out.trans hE4)
  clear hF2 hTz hlz hE4 hBr1 hBr2 hE1 hE2 hE2' HG HA
  have HQ : Hid (RcB q x1.heap.size x2) := ⟨hl2, hr2⟩
  generalize x1.heap.size = C at *
  rcases hqk with ⟨hk, hz⟩ | ⟨rfl, hp1⟩
  · go_wp2_with (first
      | (refine load_midg (by rfl) 25 _ rfl C 0 rfl q.vals _ hr2 Tryz.underlying25 rfl hrs ?_)
      | (go_at_call 28; (with_reducible refine (HZ.out q _ hV2 hz).mono ?_); rintro e x3 ⟨rfl, hE9⟩))
    go_ret
    exact ⟨rfl, HE0.out.trans (hX2.trans hE9)⟩
  have hp2 := prtZ_twice hp1
  obtain ⟨kf, hkf, hfld⟩ := prtZ_field hp1
  have HAg := Lib.hid (agr_one hkf hfld)
  have Hp1 := Lib.hid hp1
  have HP2 := Lib.hid (upart_ok n1 v1 q q.D x2 (HLm.out.ext hX2) Hl.out.2.1 hV2 hp2)
  have HVq := Lib.hid hV2
  have HX2 := Lib.hid hX2
  clear hfld hp1 hp2 hkf hV2 hX2
  go_upto_region 9 with (first
    | (refine load_midg (by rfl) 25 _ rfl C 0 rfl q.vals _ hr2 Tryz.underlying25 rfl hrs ?_)
    | (go_at_call 20; (with_reducible refine HP2.out.mono ?_); rintro e x3 ⟨q2, hD2, rfl, hV4, hE10⟩; have HV4 := Lib.hid hV4; have HD2 := Lib.hid hD2; have HE10 := Lib.hid hE10; clear hV4 hD2 hE10; have hrsb := rec_size q2; have hr1b := rec_all1 q2; have hTzb := thr_new x3 (#[.int .i64 0, .int .i64 0, .int .i64 0, .int .i64 0, .slice none 0 0, .slice none 0 0, .slice none 0 0, .slice none 0 0, .slice none 0 0, .slice none 0 0, .slice none 0 0, .slice none 0 0, .slice none 0 0, .int .i64 0]) 25 14 rfl; have hlzb : x3.heap.size < (x3.alloc (.cells #[.int .i64 0, .int .i64 0, .int .i64 0, .int .i64 0, .slice none 0 0, .slice none 0 0, .slice none 0 0, .slice none 0 0, .slice none 0 0, .slice none 0 0, .slice none 0 0, .slice none 0 0, .slice none 0 0, .int .i64 0] 25)).heap.size := by simp)
    | (refine wpList_store_gen (op := ⟨none, .store 25 (.tmp 13) (.tmp 64), _, _, _, _⟩) rfl 25 _ _ rfl x3.heap.size q2.vals rfl rfl hlzb hTzb hrsb hr1b ?_; intro x4 hF2b hl2b hr2b))
  have hE11 : Ext x3 x4 := Frm.far ((Ext.refl x3).alloc _) hF2b (fun k hk e => by omega)
  have hX4 := HE10.out.trans hE11
  have hV5 := HV4.out.ext hE11
  have hVq4 := HVq.out.ext hX4
  have hQ4 := (HQ.out.ext hX4).2
  clear hF2b hTzb hlzb hE11 hr2 hl2
  generalize x3.heap.size = F at *
  go_upto_region 11 with (first
    | (refine load_midg (by rfl) 25 _ rfl C 0 rfl q.vals _ hQ4 Tryz.underlying25 rfl hrs ?_)
    | (refine load_midg (by rfl) 25 _ rfl F 0 rfl q2.vals _ hr2b Tryz.underlying25 rfl hrsb ?_)
    | (go_at_call 19; (with_reducible refine (HSq.out q q2 _ hVq4 hV5 HD2.out).mono ?_); rintro e x5 ⟨rfl, hE12⟩))
  have hX5 := hX4.trans hE12
  have HX5 := Lib.hid hX5
  have hQ5 := HQ.out.ext hX5
  have hR5 := HB.out.ext (HX2.out.trans hX5)
  have hVq5 := HVq.out.ext hX5
  have hVr5 := (HV0.out.ext (HX2.out.trans hX5))
  obtain ⟨a0, a1, a2, a3, a4, a5, a6, a7, a8, a9, a10, a11, a12, a13⟩ := hQ5.all
  obtain ⟨b0, b1, b2, b3, b4, b5, b6, b7, b8, b9, b10, b11, b12, b13⟩ := hR5.all
  have hAl := hQ5.1
  have hBl := hR5.1
  clear hr2b hl2b hrsb hr1b hQ4 hVq4 hV5 hX4 hE12 HSq HP2 HP1 HZ
  obtain ⟨x0, hx0⟩ : ∃ x, (q.D.fr == r.D.fr) = x := ⟨_, rfl⟩
  obtain ⟨x1, hx1⟩ : ∃ x, (q.D.iv == r.D.iv) = x := ⟨_, rfl⟩
  obtain ⟨x2, hx2⟩ : ∃ x, (q.D.ct == r.D.ct) = x := ⟨_, rfl⟩
  obtain ⟨x3, hx3⟩ : ∃ x, (q.D.un == r.D.un) = x := ⟨_, rfl⟩
  obtain ⟨x4, hx4⟩ : ∃ x, (q.D.ws == r.D.ws) = x := ⟨_, rfl⟩
  obtain ⟨y0, hy0⟩ : ∃ y, decide (q.D.mo = r.D.mo) = y := ⟨_, rfl⟩
  have HY0 : Hid (∀ W, Ext x5 W → Calls Tryz.prog 29 #[.slice (q.a 0) q.D.mo.length (q.c 0), .slice (r.a 0) r.D.mo.length (r.c 0)] W fun e w' => e = .returned (.bool y0) ∧ Ext W w') := fun W hE => eqI_c q.D.mo r.D.mo _ _ _ _ y0 W (hVq5.mo.ext hE) (hVr5.mo.ext hE) hy0
  obtain ⟨y1, hy1⟩ : ∃ y, decide (q.D.md = r.D.md) = y := ⟨_, rfl⟩
  have HY1 : Hid (∀ W, Ext x5 W → Calls Tryz.prog 29 #[.slice (q.a 1) q.D.md.length (q.c 1), .slice (r.a 1) r.D.md.length (r.c 1)] W fun e w' => e = .returned (.bool y1) ∧ Ext W w') := fun W hE => eqI_c q.D.md r.D.md _ _ _ _ y1 W (hVq5.md.ext hE) (hVr5.md.ext hE) hy1
  obtain ⟨y2, hy2⟩ : ∃ y, decide (q.D.yd = r.D.yd) = y := ⟨_, rfl⟩
  have HY2 : Hid (∀ W, Ext x5 W → Calls Tryz.prog 29 #[.slice (q.a 2) q.D.yd.length (q.c 2), .slice (r.a 2) r.D.yd.length (r.c 2)] W fun e w' => e = .returned (.bool y2) ∧ Ext W w') := fun W hE => eqI_c q.D.yd r.D.yd _ _ _ _ y2 W (hVq5.yd.ext hE) (hVr5.yd.ext hE) hy2
  obtain ⟨y3, hy3⟩ : ∃ y, decide (q.D.wk = r.D.wk) = y := ⟨_, rfl⟩
  have HY3 : Hid (∀ W, Ext x5 W → Calls Tryz.prog 29 #[.slice (q.a 3) q.D.wk.length (q.c 3), .slice (r.a 3) r.D.wk.length (r.c 3)] W fun e w' => e = .returned (.bool y3) ∧ Ext W w') := fun W hE => eqI_c q.D.wk r.D.wk _ _ _ _ y3 W (hVq5.wk.ext hE) (hVr5.wk.ext hE) hy3
  obtain ⟨y4, hy4⟩ : ∃ y, decide (q.D.da = r.D.da) = y := ⟨_, rfl⟩
  have HY4 : Hid (∀ W, Ext x5 W → Calls Tryz.prog 24 #[.slice (q.a 4) q.D.da.length (q.c 4), .slice (r.a 4) r.D.da.length (r.c 4)] W fun e w' => e = .returned (.bool y4) ∧ Ext W w') := fun W hE => eqO_c q.D.da r.D.da _ _ _ _ y4 W (hVq5.da.ext hE) (hVr5.da.ext hE) hy4
  obtain ⟨y5, hy5⟩ : ∃ y, decide (q.D.ho = r.D.ho) = y := ⟨_, rfl⟩
  have HY5 : Hid (∀ W, Ext x5 W → Calls Tryz.prog 29 #[.slice (q.a 5) q.D.ho.length (q.c 5), .slice (r.a 5) r.D.ho.length (r.c 5)] W fun e w' => e = .returned (.bool y5) ∧ Ext W w') := fun W hE => eqI_c q.D.ho r.D.ho _ _ _ _ y5 W (hVq5.ho.ext hE) (hVr5.ho.ext hE) hy5
  obtain ⟨y6, hy6⟩ : ∃ y, decide (q.D.mi = r.D.mi) = y := ⟨_, rfl⟩
  have HY6 : Hid (∀ W, Ext x5 W → Calls Tryz.prog 29 #[.slice (q.a 6) q.D.mi.length (q.c 6), .slice (r.a 6) r.D.mi.length (r.c 6)] W fun e w' => e = .returned (.bool y6) ∧ Ext W w') := fun W hE => eqI_c q.D.mi r.D.mi _ _ _ _ y6 W (hVq5.mi.ext hE) (hVr5.mi.ext hE) hy6
  obtain ⟨y7, hy7⟩ : ∃ y, decide (q.D.se = r.D.se) = y := ⟨_, rfl⟩
  have HY7 : Hid (∀ W, Ext x5 W → Calls Tryz.prog 29 #[.slice (q.a 7) q.D.se.length (q.c 7), .slice (r.a 7) r.D.se.length (r.c 7)] W fun e w' => e = .returned (.bool y7) ∧ Ext W w') := fun W hE => eqI_c q.D.se r.D.se _ _ _ _ y7 W (hVq5.se.ext hE) (hVr5.se.ext hE) hy7
  obtain ⟨y8, hy8⟩ : ∃ y, decide (q.D.po = r.D.po) = y := ⟨_, rfl⟩
  have HY8 : Hid (∀ W, Ext x5 W → Calls Tryz.prog 29 #[.slice (q.a 8) q.D.po.length (q.c 8), .slice (r.a 8) r.D.po.length (r.c 8)] W fun e w' => e = .returned (.bool y8) ∧ Ext W w') := fun W hE => eqI_c q.D.po r.D.po _ _ _ _ y8 W (hVq5.po.ext hE) (hVr5.po.ext hE) hy8
  obtain ⟨L, hL⟩ : ∃ L, L = [x0, x1, x2, x3, x4, y0, y1, y2, y3, y4, y5, y6, y7, y8] := ⟨_, rfl⟩
  have HL1 : Hid (cntF L ≤ 1) := by
    have q := HAg.out
    unfold agr at q
    rw [hx0, hx1, hx2, hx3, hx4, hy0, hy1, hy2, hy3, hy4, hy5, hy6, hy7, hy8, ← hL] at q
    exact q
  have HL := Lib.hid hL
  clear hL hVq5 hVr5 HAg hy0 hy1 hy2 hy3 hy4 hy5 hy6 hy7 hy8
  go_upto_region 12 with fail
  refine wp_region_grow [74, 75, 76, 77, 78, 79, 80, 81, 82, 83, 84, 85, 86, 87, 88, 89, 90, 91, 92, 93, 94, 95, 96, 97, 98, 99, 100, 101, 102, 103, 104, 105, 106, 107, 108, 109, 110, 111, 112, 113, 114, 115, 116, 117, 118, 119, 120, 121, 122, 123, 124, 125, 126, 127, 128, 129, 130, 131, 132, 133, 134, 135, 136, 137, 138, 139, 140, 141, 142, 143, 144, 145, 146] [fun x _ => x = .pointer (some ⟨C, 0, none⟩), fun x _ => x = .int .i64 q.D.fr, fun x _ => x = .pointer (some ⟨B, 0, none⟩), fun x _ => x = .int .i64 r.D.fr, fun x _ => x = .bool x0, fun x _ => x = .pointer (some ⟨C, 1, none⟩), fun x _ => x = .int .i64 q.D.iv, fun x _ => x = .pointer (some ⟨B, 1, none⟩), fun x _ => x = .int .i64 r.D.iv, fun x _ => x = .bool x1, fun x _ => x = .pointer (some ⟨C, 2, none⟩), fun x _ => x = .int .i64 q.D.ct, fun x _ => x = .pointer (some ⟨B, 2, none⟩), fun x _ => x = .int .i64 r.D.ct, fun x _ => x = .bool x2, fun x _ => x = .pointer (some ⟨C, 3, none⟩), fun x _ => x = .int .i64 q.D.un, fun x _ => x = .pointer (some ⟨B, 3, none⟩), fun x _ => x = .int .i64 r.D.un, fun x _ => x = .bool x3, fun x _ => x = .pointer (some ⟨C, 13, none⟩), fun x _ => x = .int .i64 q.D.ws, fun x _ => x = .pointer (some ⟨B, 13, none⟩), fun x _ => x = .int .i64 r.D.ws, fun x _ => x = .bool x4, fun x _ => x = .pointer (some ⟨C, 4, none⟩), fun x _ => x = .slice (q.a 0) q.D.mo.length (q.c 0), fun x _ => x = .pointer (some ⟨B, 4, none⟩), fun x _ => x = .slice (r.a 0) r.D.mo.length (r.c 0), fun x _ => x = .bool y0, fun x _ => x = .pointer (some ⟨C, 5, none⟩), fun x _ => x = .slice (q.a 1) q.D.md.length (q.c 1), fun x _ => x = .pointer (some ⟨B, 5, none⟩), fun x _ => x = .slice (r.a 1) r.D.md.length (r.c 1), fun x _ => x = .bool y1, fun x _ => x = .pointer (some ⟨C, 6, none⟩), fun x _ => x = .slice (q.a 2) q.D.yd.length (q.c 2), fun x _ => x = .pointer (some ⟨B, 6, none⟩), fun x _ => x = .slice (r.a 2) r.D.yd.length (r.c 2), fun x _ => x = .bool y2, fun x _ => x = .pointer (some ⟨C, 7, none⟩), fun x _ => x = .slice (q.a 3) q.D.wk.length (q.c 3), fun x _ => x = .pointer (some ⟨B, 7, none⟩), fun x _ => x = .slice (r.a 3) r.D.wk.length (r.c 3), fun x _ => x = .bool y3, fun x _ => x = .pointer (some ⟨C, 8, none⟩), fun x _ => x = .slice (q.a 4) q.D.da.length (q.c 4), fun x _ => x = .pointer (some ⟨B, 8, none⟩), fun x _ => x = .slice (r.a 4) r.D.da.length (r.c 4), fun x _ => x = .bool y4, fun x _ => x = .pointer (some ⟨C, 9, none⟩), fun x _ => x = .slice (q.a 5) q.D.ho.length (q.c 5), fun x _ => x = .pointer (some ⟨B, 9, none⟩), fun x _ => x = .slice (r.a 5) r.D.ho.length (r.c 5), fun x _ => x = .bool y5, fun x _ => x = .pointer (some ⟨C, 10, none⟩), fun x _ => x = .slice (q.a 6) q.D.mi.length (q.c 6), fun x _ => x = .pointer (some ⟨B, 10, none⟩), fun x _ => x = .slice (r.a 6) r.D.mi.length (r.c 6), fun x _ => x = .bool y6, fun x _ => x = .pointer (some ⟨C, 11, none⟩), fun x _ => x = .slice (q.a 7) q.D.se.length (q.c 7), fun x _ => x = .pointer (some ⟨B, 11, none⟩), fun x _ => x = .slice (r.a 7) r.D.se.length (r.c 7), fun x _ => x = .bool y7, fun x _ => x = .pointer (some ⟨C, 12, none⟩), fun x _ => x = .slice (q.a 8) q.D.po.length (q.c 8), fun x _ => x = .pointer (some ⟨B, 12, none⟩), fun x _ => x = .slice (r.a 8) r.D.po.length (r.c 8), fun x _ => x = .bool y8, BsL [x0, x1, x2, x3, x4, y0, y1, y2, y3, y4, y5, y6, y7, y8], fun x _ => x = .int .i64 14, fun x _ => x = .int .i64 0] 0 (by kernel_rfl) (by kernel_rfl) (by kernel_rfl) (by kernel_rfl) ?_ ?_ ?_
  · intro Rl hRl
    simp only [List.mem_cons, List.not_mem_nil, or_false] at hRl
    rcases hRl with rfl | rfl | rfl | rfl | rfl | rfl | rfl | rfl | rfl | rfl | rfl | rfl | rfl | rfl | rfl | rfl | rfl | rfl | rfl | rfl | rfl | rfl | rfl | rfl | rfl | rfl | rfl | rfl | rfl | rfl | rfl | rfl | rfl | rfl | rfl | rfl | rfl | rfl | rfl | rfl | rfl | rfl | rfl | rfl | rfl | rfl | rfl | rfl | rfl | rfl | rfl | rfl | rfl | rfl | rfl | rfl | rfl | rfl | rfl | rfl | rfl | rfl | rfl | rfl | rfl | rfl | rfl | rfl | rfl | rfl | rfl | rfl | rfl
    all_goals first
      | exact fun _ _ _ h _ => h
      | exact fun _ _ _ h hE => BsL.ext h hE
  · refine ⟨?_, ?_, ?_, ?_, ?_, ?_, ?_, ?_, ?_, ?_, ?_, ?_, ?_, ?_, ?_, ?_, ?_, ?_, ?_, ?_, ?_, ?_, ?_, ?_, ?_, ?_, ?_, ?_, ?_, ?_, ?_, ?_, ?_, ?_, ?_, ?_, ?_, ?_, ?_, ?_, ?_, ?_, ?_, ?_, ?_, ?_, ?_, ?_, ?_, ?_, ?_, ?_, ?_, ?_, ?_, ?_, ?_, ?_, ?_, ?_, ?_, ?_, ?_, ?_, ?_, ?_, ?_, ?_, ?_, ?_, ?_, ?_, ?_, trivial⟩
    all_goals intro a w hE hF hD K hK
    · exact gs_val rfl (yr_field rfl ((hF 11 (fr_of rfl)).trans rfl) (by go_simp)) (hK _ _ rfl (Ext.refl _))
    · have u74 : a.eval (.tmp 74) = .pointer (some ⟨C, 0, none⟩) := hD 0 (by kernel_rfl)
      exact gs_val rfl (yr_load rfl u74 (ld_n _ _ _ ((hE.cells C 0 hAl).trans a0))) (hK _ _ rfl (Ext.refl _))
    · exact gs_val rfl (yr_field rfl ((hF 9 (fr_of rfl)).trans rfl) (by go_simp)) (hK _ _ rfl (Ext.refl _))
    · have u76 : a.eval (.tmp 76) = .pointer (some ⟨B, 0, none⟩) := hD 2 (by kernel_rfl)
      exact gs_val rfl (yr_load rfl u76 (ld_n _ _ _ ((hE.cells B 0 hBl).trans b0))) (hK _ _ rfl (Ext.refl _))
    · have u75 : a.eval (.tmp 75) = .int .i64 q.D.fr := hD 1 (by kernel_rfl)
      have u77 : a.eval (.tmp 77) = .int .i64 r.D.fr := hD 3 (by kernel_rfl)
      exact gs_val rfl (yr_eqi rfl u75 u77 hx0) (hK _ _ rfl (Ext.refl _))
    · exact gs_val rfl (yr_field rfl ((hF 11 (fr_of rfl)).trans rfl) (by go_simp)) (hK _ _ rfl (Ext.refl _))
    · have u79 : a.eval (.tmp 79) = .pointer (some ⟨C, 1, none⟩) := hD 5 (by kernel_rfl)
      exact gs_val rfl (yr_load rfl u79 (ld_n _ _ _ ((hE.cells C 1 hAl).trans a1))) (hK _ _ rfl (Ext.refl _))
    · exact gs_val rfl (yr_field rfl ((hF 9 (fr_of rfl)).trans rfl) (by go_simp)) (hK _ _ rfl (Ext.refl _))
    · have u81 : a.eval (.tmp 81) = .pointer (some ⟨B, 1, none⟩) := hD 7 (by kernel_rfl)
      exact gs_val rfl (yr_load rfl u81 (ld_n _ _ _ ((hE.cells B 1 hBl).trans b1))) (hK _ _ rfl (Ext.refl _))
    · have u80 : a.eval (.tmp 80) = .int .i64 q.D.iv := hD 6 (by kernel_rfl)
      have u82 : a.eval (.tmp 82) = .int .i64 r.D.iv := hD 8 (by kernel_rfl)
      exact gs_val rfl (yr_eqi rfl u80 u82 hx1) (hK _ _ rfl (Ext.refl _))
    · exact gs_val rfl (yr_field rfl ((hF 11 (fr_of rfl)).trans rfl) (by go_simp)) (hK _ _ rfl (Ext.refl _))
    · have u84 : a.eval (.tmp 84) = .pointer (some ⟨C, 2, none⟩) := hD 10 (by kernel_rfl)
      exact gs_val rfl (yr_load rfl u84 (ld_n _ _ _ ((hE.cells C 2 hAl).trans a2))) (hK _ _ rfl (Ext.refl _))
    · exact gs_val rfl (yr_field rfl ((hF 9 (fr_of rfl)).trans rfl) (by go_simp)) (hK _ _ rfl (Ext.refl _))
    · have u86 : a.eval (.tmp 86) = .pointer (some ⟨B, 2, none⟩) := hD 12 (by kernel_rfl)
      exact gs_val rfl (yr_load rfl u86 (ld_n _ _ _ ((hE.cells B 2 hBl).trans b2))) (hK _ _ rfl (Ext.refl _))
    · have u85 : a.eval (.tmp 85) = .int .i64 q.D.ct := hD 11 (by kernel_rfl)
      have u87 : a.eval (.tmp 87) = .int .i64 r.D.ct := hD 13 (by kernel_rfl)
      exact gs_val rfl (yr_eqi rfl u85 u87 hx2) (hK _ _ rfl (Ext.refl _))
    · exact gs_val rfl (yr_field rfl ((hF 11 (fr_of rfl)).trans rfl) (by go_simp)) (hK _ _ rfl (Ext.refl _))
    · have u89 : a.eval (.tmp 89) = .pointer (some ⟨C, 3, none⟩) := hD 15 (by kernel_rfl)
      exact gs_val rfl (yr_load rfl u89 (ld_n _ _ _ ((hE.cells C 3 hAl).trans a3))) (hK _ _ rfl (Ext.refl _))
    · exact gs_val rfl (yr_field rfl ((hF 9 (fr_of rfl)).trans rfl) (by go_simp)) (hK _ _ rfl (Ext.refl _))
    · have u91 : a.eval (.tmp 91) = .pointer (some ⟨B, 3, none⟩) := hD 17 (by kernel_rfl)
      exact gs_val rfl (yr_load rfl u91 (ld_n _ _ _ ((hE.cells B 3 hBl).trans b3))) (hK _ _ rfl (Ext.refl _))
    · have u90 : a.eval (.tmp 90) = .int .i64 q.D.un := hD 16 (by kernel_rfl)
      have u92 : a.eval (.tmp 92) = .int .i64 r.D.un := hD 18 (by kernel_rfl)
      exact gs_val rfl (yr_eqi rfl u90 u92 hx3) (hK _ _ rfl (Ext.refl _))
    · exact gs_val rfl (yr_field rfl ((hF 11 (fr_of rfl)).trans rfl) (by go_simp)) (hK _ _ rfl (Ext.refl _))
    · have u94 : a.eval (.tmp 94) = .pointer (some ⟨C, 13, none⟩) := hD 20 (by kernel_rfl)
      exact gs_val rfl (yr_load rfl u94 (ld_n _ _ _ ((hE.cells C 13 hAl).trans a13))) (hK _ _ rfl (Ext.refl _))
    · exact gs_val rfl (yr_field rfl ((hF 9 (fr_of rfl)).trans rfl) (by go_simp)) (hK _ _ rfl (Ext.refl _))
    · have u96 : a.eval (.tmp 96) = .pointer (some ⟨B, 13, none⟩) := hD 22 (by kernel_rfl)
      exact gs_val rfl (yr_load rfl u96 (ld_n _ _ _ ((hE.cells B 13 hBl).trans b13))) (hK _ _ rfl (Ext.refl _))
    · have u95 : a.eval (.tmp 95) = .int .i64 q.D.ws := hD 21 (by kernel_rfl)
      have u97 : a.eval (.tmp 97) = .int .i64 r.D.ws := hD 23 (by kernel_rfl)
      exact gs_val rfl (yr_eqi rfl u95 u97 hx4) (hK _ _ rfl (Ext.refl _))
    · exact gs_val rfl (yr_field rfl ((hF 11 (fr_of rfl)).trans rfl) (by go_simp)) (hK _ _ rfl (Ext.refl _))
    · have u99 : a.eval (.tmp 99) = .pointer (some ⟨C, 4, none⟩) := hD 25 (by kernel_rfl)
      exact gs_val rfl (yr_load rfl u99 (ld_is _ _ _ ((hE.cells C 4 hAl).trans a4))) (hK _ _ rfl (Ext.refl _))
    · exact gs_val rfl (yr_field rfl ((hF 9 (fr_of rfl)).trans rfl) (by go_simp)) (hK _ _ rfl (Ext.refl _))
    · have u101 : a.eval (.tmp 101) = .pointer (some ⟨B, 4, none⟩) := hD 27 (by kernel_rfl)
      exact gs_val rfl (yr_load rfl u101 (ld_is _ _ _ ((hE.cells B 4 hBl).trans b4))) (hK _ _ rfl (Ext.refl _))
    · have u100 : a.eval (.tmp 100) = .slice (q.a 0) q.D.mo.length (q.c 0) := hD 26 (by kernel_rfl)
      have u102 : a.eval (.tmp 102) = .slice (r.a 0) r.D.mo.length (r.c 0) := hD 28 (by kernel_rfl)
      have q0 : a.eval (.tmp 100) = .slice (q.a 0) q.D.mo.length (q.c 0) := u100
      have q1 : a.eval (.tmp 102) = .slice (r.a 0) r.D.mo.length (r.c 0) := u102
      exact gs_call rfl (yr_call rfl rfl (show (#[Operand.tmp 100, Operand.tmp 102] : Array Operand).map a.eval = #[.slice (q.a 0) q.D.mo.length (q.c 0), .slice (r.a 0) r.D.mo.length (r.c 0)] by simp only [List.map_toArray, List.map_cons, List.map_nil, q0, q1] <;> rfl) (by kernel_rfl)) ((HY0.out w hE).mono fun e w' ⟨h1, h2⟩ => ⟨_, h1, rfl, h2⟩) hK
    · exact gs_val rfl (yr_field rfl ((hF 11 (fr_of rfl)).trans rfl) (by go_simp)) (hK _ _ rfl (Ext.refl _))
    · have u104 : a.eval (.tmp 104) = .pointer (some ⟨C, 5, none⟩) := hD 30 (by kernel_rfl)
      exact gs_val rfl (yr_load rfl u104 (ld_is _ _ _ ((hE.cells C 5 hAl).trans a5))) (hK _ _ rfl (Ext.refl _))
    · exact gs_val rfl (yr_field rfl ((hF 9 (fr_of rfl)).trans rfl) (by go_simp)) (hK _ _ rfl (Ext.refl _))
    · have u106 : a.eval (.tmp 106) = .pointer (some ⟨B, 5, none⟩) := hD 32 (by kernel_rfl)
      exact gs_val rfl (yr_load rfl u106 (ld_is _ _ _ ((hE.cells B 5 hBl).trans b5))) (hK _ _ rfl (Ext.refl _))
    · have u105 : a.eval (.tmp 105) = .slice (q.a 1) q.D.md.length (q.c 1) := hD 31 (by kernel_rfl)
      have u107 : a.eval (.tmp 107) = .slice (r.a 1) r.D.md.length (r.c 1) := hD 33 (by kernel_rfl)
      have q0 : a.eval (.tmp 105) = .slice (q.a 1) q.D.md.length (q.c 1) := u105
      have q1 : a.eval (.tmp 107) = .slice (r.a 1) r.D.md.length (r.c 1) := u107
      exact gs_call rfl (yr_call rfl rfl (show (#[Operand.tmp 105, Operand.tmp 107] : Array Operand).map a.eval = #[.slice (q.a 1) q.D.md.length (q.c 1), .slice (r.a 1) r.D.md.length (r.c 1)] by simp only [List.map_toArray, List.map_cons, List.map_nil, q0, q1] <;> rfl) (by kernel_rfl)) ((HY1.out w hE).mono fun e w' ⟨h1, h2⟩ => ⟨_, h1, rfl, h2⟩) hK
    · exact gs_val rfl (yr_field rfl ((hF 11 (fr_of rfl)).trans rfl) (by go_simp)) (hK _ _ rfl (Ext.refl _))
    · have u109 : a.eval (.tmp 109) = .pointer (some ⟨C, 6, none⟩) := hD 35 (by kernel_rfl)
      exact gs_val rfl (yr_load rfl u109 (ld_is _ _ _ ((hE.cells C 6 hAl).trans a6))) (hK _ _ rfl (Ext.refl _))
    · exact gs_val rfl (yr_field rfl ((hF 9 (fr_of rfl)).trans rfl) (by go_simp)) (hK _ _ rfl (Ext.refl _))
    · have u111 : a.eval (.tmp 111) = .pointer (some ⟨B, 6, none⟩) := hD 37 (by kernel_rfl)
      exact gs_val rfl (yr_load rfl u111 (ld_is _ _ _ ((hE.cells B 6 hBl).trans b6))) (hK _ _ rfl (Ext.refl _))
    · have u110 : a.eval (.tmp 110) = .slice (q.a 2) q.D.yd.length (q.c 2) := hD 36 (by kernel_rfl)
      have u112 : a.eval (.tmp 112) = .slice (r.a 2) r.D.yd.length (r.c 2) := hD 38 (by kernel_rfl)
      have q0 : a.eval (.tmp 110) = .slice (q.a 2) q.D.yd.length (q.c 2) := u110
      have q1 : a.eval (.tmp 112) = .slice (r.a 2) r.D.yd.length (r.c 2) := u112
      exact gs_call rfl (yr_call rfl rfl (show (#[Operand.tmp 110, Operand.tmp 112] : Array Operand).map a.eval = #[.slice (q.a 2) q.D.yd.length (q.c 2), .slice (r.a 2) r.D.yd.length (r.c 2)] by simp only [List.map_toArray, List.map_cons, List.map_nil, q0, q1] <;> rfl) (by kernel_rfl)) ((HY2.out w hE).mono fun e w' ⟨h1, h2⟩ => ⟨_, h1, rfl, h2⟩) hK
    · exact gs_val rfl (yr_field rfl ((hF 11 (fr_of rfl)).trans rfl) (by go_simp)) (hK _ _ rfl (Ext.refl _))
    · have u114 : a.eval (.tmp 114) = .pointer (some ⟨C, 7, none⟩) := hD 40 (by kernel_rfl)
      exact gs_val rfl (yr_load rfl u114 (ld_is _ _ _ ((hE.cells C 7 hAl).trans a7))) (hK _ _ rfl (Ext.refl _))
    · exact gs_val rfl (yr_field rfl ((hF 9 (fr_of rfl)).trans rfl) (by go_simp)) (hK _ _ rfl (Ext.refl _))
    · have u116 : a.eval (.tmp 116) = .pointer (some ⟨B, 7, none⟩) := hD 42 (by kernel_rfl)
      exact gs_val rfl (yr_load rfl u116 (ld_is _ _ _ ((hE.cells B 7 hBl).trans b7))) (hK _ _ rfl (Ext.refl _))
    · have u115 : a.eval (.tmp 115) = .slice (q.a 3) q.D.wk.length (q.c 3) := hD 41 (by kernel_rfl)
      have u117 : a.eval (.tmp 117) = .slice (r.a 3) r.D.wk.length (r.c 3) := hD 43 (by kernel_rfl)
      have q0 : a.eval (.tmp 115) = .slice (q.a 3) q.D.wk.length (q.c 3) := u115
      have q1 : a.eval (.tmp 117) = .slice (r.a 3) r.D.wk.length (r.c 3) := u117
      exact gs_call rfl (yr_call rfl rfl (show (#[Operand.tmp 115, Operand.tmp 117] : Array Operand).map a.eval = #[.slice (q.a 3) q.D.wk.length (q.c 3), .slice (r.a 3) r.D.wk.length (r.c 3)] by simp only [List.map_toArray, List.map_cons, List.map_nil, q0, q1] <;> rfl) (by kernel_rfl)) ((HY3.out w hE).mono fun e w' ⟨h1, h2⟩ => ⟨_, h1, rfl, h2⟩) hK
    · exact gs_val rfl (yr_field rfl ((hF 11 (fr_of rfl)).trans rfl) (by go_simp)) (hK _ _ rfl (Ext.refl _))
    · have u119 : a.eval (.tmp 119) = .pointer (some ⟨C, 8, none⟩) := hD 45 (by kernel_rfl)
      exact gs_val rfl (yr_load rfl u119 (ld_os _ _ _ ((hE.cells C 8 hAl).trans a8))) (hK _ _ rfl (Ext.refl _))
    · exact gs_val rfl (yr_field rfl ((hF 9 (fr_of rfl)).trans rfl) (by go_simp)) (hK _ _ rfl (Ext.refl _))
    · have u121 : a.eval (.tmp 121) = .pointer (some ⟨B, 8, none⟩) := hD 47 (by kernel_rfl)
      exact gs_val rfl (yr_load rfl u121 (ld_os _ _ _ ((hE.cells B 8 hBl).trans b8))) (hK _ _ rfl (Ext.refl _))
    · have u120 : a.eval (.tmp 120) = .slice (q.a 4) q.D.da.length (q.c 4) := hD 46 (by kernel_rfl)
      have u122 : a.eval (.tmp 122) = .slice (r.a 4) r.D.da.length (r.c 4) := hD 48 (by kernel_rfl)
      have q0 : a.eval (.tmp 120) = .slice (q.a 4) q.D.da.length (q.c 4) := u120
      have q1 : a.eval (.tmp 122) = .slice (r.a 4) r.D.da.length (r.c 4) := u122
      exact gs_call rfl (yr_call rfl rfl (show (#[Operand.tmp 120, Operand.tmp 122] : Array Operand).map a.eval = #[.slice (q.a 4) q.D.da.length (q.c 4), .slice (r.a 4) r.D.da.length (r.c 4)] by simp only [List.map_toArray, List.map_cons, List.map_nil, q0, q1] <;> rfl) (by kernel_rfl)) ((HY4.out w hE).mono fun e w' ⟨h1, h2⟩ => ⟨_, h1, rfl, h2⟩) hK
    · exact gs_val rfl (yr_field rfl ((hF 11 (fr_of rfl)).trans rfl) (by go_simp)) (hK _ _ rfl (Ext.refl _))
    · have u124 : a.eval (.tmp 124) = .pointer (some ⟨C, 9, none⟩) := hD 50 (by kernel_rfl)
      exact gs_val rfl (yr_load rfl u124 (ld_is _ _ _ ((hE.cells C 9 hAl).trans a9))) (hK _ _ rfl (Ext.refl _))
    · exact gs_val rfl (yr_field rfl ((hF 9 (fr_of rfl)).trans rfl) (by go_simp)) (hK _ _ rfl (Ext.refl _))
    · have u126 : a.eval (.tmp 126) = .pointer (some ⟨B, 9, none⟩) := hD 52 (by kernel_rfl)
      exact gs_val rfl (yr_load rfl u126 (ld_is _ _ _ ((hE.cells B 9 hBl).trans b9))) (hK _ _ rfl (Ext.refl _))
    · have u125 : a.eval (.tmp 125) = .slice (q.a 5) q.D.ho.length (q.c 5) := hD 51 (by kernel_rfl)
      have u127 : a.eval (.tmp 127) = .slice (r.a 5) r.D.ho.length (r.c 5) := hD 53 (by kernel_rfl)
      have q0 : a.eval (.tmp 125) = .slice (q.a 5) q.D.ho.length (q.c 5) := u125
      have q1 : a.eval (.tmp 127) = .slice (r.a 5) r.D.ho.length (r.c 5) := u127
      exact gs_call rfl (yr_call rfl rfl (show (#[Operand.tmp 125, Operand.tmp 127] : Array Operand).map a.eval = #[.slice (q.a 5) q.D.ho.length (q.c 5), .slice (r.a 5) r.D.ho.length (r.c 5)] by simp only [List.map_toArray, List.map_cons, List.map_nil, q0, q1] <;> rfl) (by kernel_rfl)) ((HY5.out w hE).mono fun e w' ⟨h1, h2⟩ => ⟨_, h1, rfl, h2⟩) hK
    · exact gs_val rfl (yr_field rfl ((hF 11 (fr_of rfl)).trans rfl) (by go_simp)) (hK _ _ rfl (Ext.refl _))
    · have u129 : a.eval (.tmp 129) = .pointer (some ⟨C, 10, none⟩) := hD 55 (by kernel_rfl)
      exact gs_val rfl (yr_load rfl u129 (ld_is _ _ _ ((hE.cells C 10 hAl).trans a10))) (hK _ _ rfl (Ext.refl _))
    · exact gs_val rfl (yr_field rfl ((hF 9 (fr_of rfl)).trans rfl) (by go_simp)) (hK _ _ rfl (Ext.refl _))
    · have u131 : a.eval (.tmp 131) = .pointer (some ⟨B, 10, none⟩) := hD 57 (by kernel_rfl)
      exact gs_val rfl (yr_load rfl u131 (ld_is _ _ _ ((hE.cells B 10 hBl).trans b10))) (hK _ _ rfl (Ext.refl _))
    · have u130 : a.eval (.tmp 130) = .slice (q.a 6) q.D.mi.length (q.c 6) := hD 56 (by kernel_rfl)
      have u132 : a.eval (.tmp 132) = .slice (r.a 6) r.D.mi.length (r.c 6) := hD 58 (by kernel_rfl)
      have q0 : a.eval (.tmp 130) = .slice (q.a 6) q.D.mi.length (q.c 6) := u130
      have q1 : a.eval (.tmp 132) = .slice (r.a 6) r.D.mi.length (r.c 6) := u132
      exact gs_call rfl (yr_call rfl rfl (show (#[Operand.tmp 130, Operand.tmp 132] : Array Operand).map a.eval = #[.slice (q.a 6) q.D.mi.length (q.c 6), .slice (r.a 6) r.D.mi.length (r.c 6)] by simp only [List.map_toArray, List.map_cons, List.map_nil, q0, q1] <;> rfl) (by kernel_rfl)) ((HY6.out w hE).mono fun e w' ⟨h1, h2⟩ => ⟨_, h1, rfl, h2⟩) hK
    · exact gs_val rfl (yr_field rfl ((hF 11 (fr_of rfl)).trans rfl) (by go_simp)) (hK _ _ rfl (Ext.refl _))
    · have u134 : a.eval (.tmp 134) = .pointer (some ⟨C, 11, none⟩) := hD 60 (by kernel_rfl)
      exact gs_val rfl (yr_load rfl u134 (ld_is _ _ _ ((hE.cells C 11 hAl).trans a11))) (hK _ _ rfl (Ext.refl _))
    · exact gs_val rfl (yr_field rfl ((hF 9 (fr_of rfl)).trans rfl) (by go_simp)) (hK _ _ rfl (Ext.refl _))
    · have u136 : a.eval (.tmp 136) = .pointer (some ⟨B, 11, none⟩) := hD 62 (by kernel_rfl)
      exact gs_val rfl (yr_load rfl u136 (ld_is _ _ _ ((hE.cells B 11 hBl).trans b11))) (hK _ _ rfl (Ext.refl _))
    · have u135 : a.eval (.tmp 135) = .slice (q.a 7) q.D.se.length (q.c 7) := hD 61 (by kernel_rfl)
      have u137 : a.eval (.tmp 137) = .slice (r.a 7) r.D.se.length (r.c 7) := hD 63 (by kernel_rfl)
      have q0 : a.eval (.tmp 135) = .slice (q.a 7) q.D.se.length (q.c 7) := u135
      have q1 : a.eval (.tmp 137) = .slice (r.a 7) r.D.se.length (r.c 7) := u137
      exact gs_call rfl (yr_call rfl rfl (show (#[Operand.tmp 135, Operand.tmp 137] : Array Operand).map a.eval = #[.slice (q.a 7) q.D.se.length (q.c 7), .slice (r.a 7) r.D.se.length (r.c 7)] by simp only [List.map_toArray, List.map_cons, List.map_nil, q0, q1] <;> rfl) (by kernel_rfl)) ((HY7.out w hE).mono fun e w' ⟨h1, h2⟩ => ⟨_, h1, rfl, h2⟩) hK
    · exact gs_val rfl (yr_field rfl ((hF 11 (fr_of rfl)).trans rfl) (by go_simp)) (hK _ _ rfl (Ext.refl _))
    · have u139 : a.eval (.tmp 139) = .pointer (some ⟨C, 12, none⟩) := hD 65 (by kernel_rfl)
      exact gs_val rfl (yr_load rfl u139 (ld_is _ _ _ ((hE.cells C 12 hAl).trans a12))) (hK _ _ rfl (Ext.refl _))
    · exact gs_val rfl (yr_field rfl ((hF 9 (fr_of rfl)).trans rfl) (by go_simp)) (hK _ _ rfl (Ext.refl _))
    · have u141 : a.eval (.tmp 141) = .pointer (some ⟨B, 12, none⟩) := hD 67 (by kernel_rfl)
      exact gs_val rfl (yr_load rfl u141 (ld_is _ _ _ ((hE.cells B 12 hBl).trans b12))) (hK _ _ rfl (Ext.refl _))
    · have u140 : a.eval (.tmp 140) = .slice (q.a 8) q.D.po.length (q.c 8) := hD 66 (by kernel_rfl)
      have u142 : a.eval (.tmp 142) = .slice (r.a 8) r.D.po.length (r.c 8) := hD 68 (by kernel_rfl)
      have q0 : a.eval (.tmp 140) = .slice (q.a 8) q.D.po.length (q.c 8) := u140
      have q1 : a.eval (.tmp 142) = .slice (r.a 8) r.D.po.length (r.c 8) := u142
      exact gs_call rfl (yr_call rfl rfl (show (#[Operand.tmp 140, Operand.tmp 142] : Array Operand).map a.eval = #[.slice (q.a 8) q.D.po.length (q.c 8), .slice (r.a 8) r.D.po.length (r.c 8)] by simp only [List.map_toArray, List.map_cons, List.map_nil, q0, q1] <;> rfl) (by kernel_rfl)) ((HY8.out w hE).mono fun e w' ⟨h1, h2⟩ => ⟨_, h1, rfl, h2⟩) hK
    · have u78 : a.eval (.tmp 78) = .bool x0 := hD 4 (by kernel_rfl)
      have u83 : a.eval (.tmp 83) = .bool x1 := hD 9 (by kernel_rfl)
      have u88 : a.eval (.tmp 88) = .bool x2 := hD 14 (by kernel_rfl)
      have u93 : a.eval (.tmp 93) = .bool x3 := hD 19 (by kernel_rfl)
      have u98 : a.eval (.tmp 98) = .bool x4 := hD 24 (by kernel_rfl)
      have u103 : a.eval (.tmp 103) = .bool y0 := hD 29 (by kernel_rfl)
      have u108 : a.eval (.tmp 108) = .bool y1 := hD 34 (by kernel_rfl)
      have u113 : a.eval (.tmp 113) = .bool y2 := hD 39 (by kernel_rfl)
      have u118 : a.eval (.tmp 118) = .bool y3 := hD 44 (by kernel_rfl)
      have u123 : a.eval (.tmp 123) = .bool y4 := hD 49 (by kernel_rfl)
      have u128 : a.eval (.tmp 128) = .bool y5 := hD 54 (by kernel_rfl)
      have u133 : a.eval (.tmp 133) = .bool y6 := hD 59 (by kernel_rfl)
      have u138 : a.eval (.tmp 138) = .bool y7 := hD 64 (by kernel_rfl)
      have u143 : a.eval (.tmp 143) = .bool y8 := hD 69 (by kernel_rfl)
      exact gs_mkE rfl (yr_bsn rfl (show (#[(0, .tmp 78), (1, .tmp 83), (2, .tmp 88), (3, .tmp 93), (4, .tmp 98), (5, .tmp 103), (6, .tmp 108), (7, .tmp 113), (8, .tmp 118), (9, .tmp 123), (10, .tmp 128), (11, .tmp 133), (12, .tmp 138), (13, .tmp 143)] : Array (Nat × Operand)).map (fun e => (e.1, a.eval e.2)) = #[(0, .bool x0), (1, .bool x1), (2, .bool x2), (3, .bool x3), (4, .bool x4), (5, .bool y0), (6, .bool y1), (7, .bool y2), (8, .bool y3), (9, .bool y4), (10, .bool y5), (11, .bool y6), (12, .bool y7), (13, .bool y8)] by simp only [List.map_toArray, List.map_cons, List.map_nil, u78, u83, u88, u93, u98, u103, u108, u113, u118, u123, u128, u133, u138, u143]) (bs14_run x0 x1 x2 x3 x4 y0 y1 y2 y3 y4 y5 y6 y7 y8 w)) (hK _ _ (BsL.new [x0, x1, x2, x3, x4, y0, y1, y2, y3, y4, y5, y6, y7, y8] w 4) ((Ext.refl w).alloc _))
    · have u144 : (BsL [x0, x1, x2, x3, x4, y0, y1, y2, y3, y4, y5, y6, y7, y8]) (a.eval (.tmp 144)) w := hD 70 (by kernel_rfl)
      exact gs_val rfl (yr_lenB (L := [x0, x1, x2, x3, x4, y0, y1, y2, y3, y4, y5, y6, y7, y8]) rfl rfl u144) (hK _ _ rfl (Ext.refl _))
    · exact gs_val rfl (yr_move rfl rfl) (hK _ _ rfl (Ext.refl _))
  intro vals wz hEz hRz
  obtain ⟨-, -, -, -, -, -, -, -, -, -, -, -, -, -, -, -, -, -, -, -, -, -, -, -, -, -, -, -, -, -, -, -, -, -, -, -, -, -, -, -, -, -, -, -, -, -, -, -, -, -, -, -, -, -, -, -, -, -, -, -, -, -, -, -, -, -, -, -, -, -, h70, h71, h72, -⟩ := hRz
  obtain ⟨g, e144, hgl, hgc⟩ := h70
  have e145 : vals 71 = .int .i64 14 := h71
  have e146 : vals 72 = .int .i64 0 := h72
  refine wpAny_done (by kernel_rfl) ?_ _
  simp only [putF, Act.put, List.length_cons, List.length_nil, List.getD_cons_zero, List.getD_cons_succ, List.setIfInBounds_toArray, List.set_cons_zero, List.set_cons_succ, Nat.reduceAdd, e144, e145, e146]
  clear e144 e145 e146
  rw [← HL.out] at hgc
  have hLl : L.length = 14 := by rw [HL.out]; rfl
  have HQw := Lib.hid (HQ.out.ext (HX5.out.trans hEz))
  have HGc : Hid (∀ j (h : j < L.length), wz.cell? ⟨g, j, none⟩ = some (.bool L[j])) := fun j h => hgc j _ (List.getElem?_eq_getElem h)
  have HXz := Lib.hid ((HX2.out.trans HX5.out).trans hEz)
  have HV2 := Lib.hid (HVq.out.ext (HX5.out.trans hEz))
  have hc14 : ∀ j, cntF (L.take j) ≤ j := fun j => Nat.le_trans (List.length_filter_le _ _) (by rw [List.length_take]; omega)
  have hct := fun j (h : j < L.length) => cntF_take L j h
  have HC14 := Lib.hid hc14
  have HCt := Lib.hid hct
  have HLl := Lib.hid hLl
  have hc0 : cntF (L.take 0) = 0 := rfl
  clear HL hgc hEz hLl hc14 hct a0 b0 a1 b1 a2 b2 a3 b3 a4 b4 a5 b5 a6 b6 a7 b7 a8 b8 a9 b9 a10 b10 a11 b11 a12 b12 a13 b13 HY0 HY1 HY2 HY3 HY4 HY5 HY6 HY7 HY8 hx0 hx1 hx2 hx3 hx4 hQ5 hR5 HX5 hX5 HE3 HE10 HV4 HD2 hAl hBl
  go_wp2_with fail
  go_loopw [15, 146] (fun c i wr => ∃ j : Nat, j ≤ 14 ∧ c = .int .i64 (cntF (L.take j) : Int) ∧ i = .int .i64 (j : Int) ∧ Ext wz wr) (fun _ i _ => 14 - (intOf i).toNat)
  case atStart => exact ⟨0, Nat.zero_le _, by rw [hc0]; rfl, rfl, Ext.refl _⟩
  case round =>
    obtain ⟨j, hj, rfl, rfl, hE⟩ := hrel
    by_cases hlt : j < 14
    · have hcell := (hE.cells g j hgl).trans (HGc.out j (by rw [HLl.out]; exact hlt))
      have hgr := hE.lt hgl
      have hcs := HCt.out j (by rw [HLl.out]; exact hlt)
      have hc := HC14.out j
      obtain ⟨b, hb⟩ : ∃ b, b = L[j]'(by rw [HLl.out]; exact hlt) := ⟨_, rfl⟩
      rw [← hb] at hcell hcs
      have HCs := Lib.hid hcs
      clear hb hcs hc0
      cases b
      · have hn : cntF (L.take (j + 1)) = cntF (L.take j) + 1 := by rw [HCs.out]; rfl
        have Hn := Lib.hid hn
        clear hn HCs
        generalize cntF (L.take j) = c at *
        go_wp2_with fail
        go_roundw
        case rel => exact ⟨j + 1, by omega, by rw [Hn.out]; go_num, by go_num, hE⟩
        case measure => simp [intOf]; omega
      · have hn : cntF (L.take (j + 1)) = cntF (L.take j) := by rw [HCs.out]; rfl
        have Hn := Lib.hid hn
        clear hn HCs
        generalize cntF (L.take j) = c at *
        go_wp2_with fail
        go_roundw
        case rel => exact ⟨j + 1, by omega, by rw [Hn.out], by go_num, hE⟩
        case measure => simp [intOf]; omega
    · obtain rfl : j = 14 := by omega
      have hcL : cntF (L.take 14) ≤ 1 := by rw [List.take_of_length_le (by rw [HLl.out]; exact Nat.le_refl _)]; exact HL1.out
      generalize cntF (L.take 14) = c at *
      have t5 : decide ((1 : Int) < (c : Int)) = false := decide_eq_false (by omega)
      have t6 : decide ((c : Int) ≤ 1) = true := decide_eq_true (by omega)
      have HP3 := Lib.hid (upart_k n2 v2 r wr (HLm.out.ext (HXz.out.trans hE)) Hl.out.2.2.2 (HV0.out.ext (HXz.out.trans hE)))
      have HXr := Lib.hid (HXz.out.trans hE)
      have hBrr := (HB.out.ext HXr.out).2
      have HVr := Lib.hid (HV2.out.ext hE)
      have HQr := Lib.hid (HQw.out.ext hE)
      clear hE hgl
      generalize wr = V at *
      go_upto_region 19 with (first
        | (refine load_midg (by rfl) 25 _ rfl B 0 rfl r.vals _ hBrr Tryz.underlying25 rfl hRs ?_)
        | (go_at_call 20; (with_reducible refine HP3.out.mono ?_); rintro e u1 ⟨q3, k3, rfl, hV3, hE20, hqk3⟩; have HV3 := Lib.hid hV3; have HE20 := Lib.hid hE20; clear hV3 hE20; have hrsc := rec_size q3; have hr1c := rec_all1 q3; have hTzc := thr_new u1 (#[.int .i64 0, .int .i64 0, .int .i64 0, .int .i64 0, .slice none 0 0, .slice none 0 0, .slice none 0 0, .slice none 0 0, .slice none 0 0, .slice none 0 0, .slice none 0 0, .slice none 0 0, .slice none 0 0, .int .i64 0]) 25 14 rfl; have hlzc : u1.heap.size < (u1.alloc (.cells #[.int .i64 0, .int .i64 0, .int .i64 0, .int .i64 0, .slice none 0 0, .slice none 0 0, .slice none 0 0, .slice none 0 0, .slice none 0 0, .slice none 0 0, .slice none 0 0, .slice none 0 0, .slice none 0 0, .int .i64 0] 25)).heap.size := by simp)
        | (refine wpList_store_gen (op := ⟨none, .store 25 (.tmp 18) (.tmp 160), _, _, _, _⟩) rfl 25 _ _ rfl u1.heap.size q3.vals rfl rfl hlzc hTzc hrsc hr1c ?_; intro u2 hF2c hl2c hr2c))
      have hE21 : Ext u1 u2 := Frm.far ((Ext.refl u1).alloc _) hF2c (fun k hk e => by omega)
      have HX21 := Lib.hid (HE20.out.trans hE21)
      have HV3' := Lib.hid (HV3.out.ext hE21)
      have HG3 : Hid (RcB q3 u1.heap.size u2) := ⟨hl2c, hr2c⟩
      clear hF2c hTzc hlzc hE21 hBrr hr2c hl2c
      generalize u1.heap.size = G at *
      rcases hqk3 with ⟨hk3, -⟩ | ⟨rfl, hp3⟩
      · go_wp2_with fail
        go_ret
        exact ⟨rfl, HE0.out.trans (HXr.out.trans HX21.out)⟩
      by_cases hnn : n1 = n2
      · subst hnn
        go_wp2_with fail
        go_ret
        exact ⟨rfl, HE0.out.trans (HXr.out.trans HX21.out)⟩
      obtain ⟨D, hpa, hpb⟩ := prtZ_comm hnn Hp1.out hp3
      have HP4 := Lib.hid (upart_ok n2 v2 q D u2 (HLm.out.ext (HXr.out.trans HX21.out)) Hl.out.2.2.2 (HVr.out.ext HX21.out) hpa)
      have HP5 := Lib.hid (fun W (hE : Ext u2 W) => upart_ok n1 v1 q3 D W (HLm.out.ext ((HXr.out.trans HX21.out).trans hE)) Hl.out.2.1 (HV3'.out.ext hE) hpb)
      have hqr := (HQr.out.ext HX21.out).2
      clear hpa hpb hp3
      go_upto_region 21 with fail
      · exfalso; clear HP4 HP5; simp_all
      go_upto_region 22 with (first
        | (refine load_midg (by rfl) 25 _ rfl C 0 rfl q.vals _ hqr Tryz.underlying25 rfl hrs ?_)
        | (go_at_call 20; (with_reducible refine HP4.out.mono ?_); rintro e u3 ⟨q4, hD4, rfl, hV4, hE22⟩; have HV4 := Lib.hid hV4; have HD4 := Lib.hid hD4; have HE22 := Lib.hid hE22; clear hV4 hD4 hE22; have hrsd := rec_size q4; have hr1d := rec_all1 q4; have hTzd := thr_new u3 (#[.int .i64 0, .int .i64 0, .int .i64 0, .int .i64 0, .slice none 0 0, .slice none 0 0, .slice none 0 0, .slice none 0 0, .slice none 0 0, .slice none 0 0, .slice none 0 0, .slice none 0 0, .slice none 0 0, .int .i64 0]) 25 14 rfl; have hlzd : u3.heap.size < (u3.alloc (.cells #[.int .i64 0, .int .i64 0, .int .i64 0, .int .i64 0, .slice none 0 0, .slice none 0 0, .slice none 0 0, .slice none 0 0, .slice none 0 0, .slice none 0 0, .slice none 0 0, .slice none 0 0, .slice none 0 0, .int .i64 0] 25)).heap.size := by simp)
        | (refine wpList_store_gen (op := ⟨none, .store 25 (.tmp 20) (.tmp 180), _, _, _, _⟩) rfl 25 _ _ rfl u3.heap.size q4.vals rfl rfl hlzd hTzd hrsd hr1d ?_; intro u4 hF2d hl2d hr2d))
      have hE23 : Ext u3 u4 := Frm.far ((Ext.refl u3).alloc _) hF2d (fun k hk e => by omega)
      have HX23 := Lib.hid (HE22.out.trans hE23)
      have HV4' := Lib.hid (HV4.out.ext hE23)
      have HG4 : Hid (RcB q4 u3.heap.size u4) := ⟨hl2d, hr2d⟩
      have hg3 := (HG3.out.ext HX23.out).2
      have HP5' := Lib.hid (HP5.out u4 HX23.out)
      clear hF2d hTzd hlzd hE23 hr2d hl2d hqr
      generalize u3.heap.size = K at *
      go_upto_region 23 with (first
        | (refine load_midg (by rfl) 25 _ rfl G 0 rfl q3.vals _ hg3 Tryz.underlying25 rfl hrsc ?_)
        | (go_at_call 20; (with_reducible refine HP5'.out.mono ?_); rintro e u5 ⟨q5, hD5, rfl, hV5, hE24⟩; have HV5 := Lib.hid hV5; have HD5 := Lib.hid hD5; have HE24 := Lib.hid hE24; clear hV5 hD5 hE24; have hrse := rec_size q5; have hr1e := rec_all1 q5; have hTze := thr_new u5 (#[.int .i64 0, .int .i64 0, .int .i64 0, .int .i64 0, .slice none 0 0, .slice none 0 0, .slice none 0 0, .slice none 0 0, .slice none 0 0, .slice none 0 0, .slice none 0 0, .slice none 0 0, .slice none 0 0, .int .i64 0]) 25 14 rfl; have hlze : u5.heap.size < (u5.alloc (.cells #[.int .i64 0, .int .i64 0, .int .i64 0, .int .i64 0, .slice none 0 0, .slice none 0 0, .slice none 0 0, .slice none 0 0, .slice none 0 0, .slice none 0 0, .slice none 0 0, .slice none 0 0, .slice none 0 0, .int .i64 0] 25)).heap.size := by simp)
        | (refine wpList_store_gen (op := ⟨none, .store 25 (.tmp 22) (.tmp 187), _, _, _, _⟩) rfl 25 _ _ rfl u5.heap.size q5.vals rfl rfl hlze hTze hrse hr1e ?_; intro u6 hF2e hl2e hr2e))
      have hE25 : Ext u5 u6 := Frm.far ((Ext.refl u5).alloc _) hF2e (fun k hk e => by omega)
      have HX25 := Lib.hid (HE24.out.trans hE25)
      have HS := Lib.hid (same30_c q4 q5 true u6 (HV4'.out.ext HX25.out) (HV5.out.ext hE25) (by rw [HD4.out, HD5.out]; exact sameR_iff.2 rfl))
      have hg4 := (HG4.out.ext HX25.out).2
      clear hF2e hTze hlze hE25 hg3
      generalize u5.heap.size = M at *
      go_wp2_with (first
        | (refine load_midg (by rfl) 25 _ rfl K 0 rfl q4.vals _ hg4 Tryz.underlying25 rfl hrsd ?_)
        | (refine load_midg (by rfl) 25 _ rfl M 0 rfl q5.vals _ hr2e Tryz.underlying25 rfl hrse ?_)
        | (go_at_call 19; (with_reducible refine HS.out.mono ?_); rintro e u7 ⟨rfl, hE26⟩))
      go_ret
      exact ⟨rfl, HE0.out.trans (HXr.out.trans (HX21.out.trans (HX23.out.trans (HX25.out.trans hE26))))⟩
theorem fields30_walk (n1 v1 n2 v2 : ByteArray) (r : Rec) (w : World) (hm : Lm w) (hV : RcV r w) (h1 : n1.size ≤ 9223372036854775807) (h2 : v1.size ≤ 9223372036854775807) (h3 : n2.size ≤ 9223372036854775807) (h4 : v2.size ≤ 9223372036854775807) :
    Calls Tryz.prog 9 #[.string n1, .string v1, .string n2, .string v2, .agg r.vals.toArray] w fun e w' => e = .returned (.bool true) ∧ Ext w w' := by
  have e : ∀ b : ByteArray, b.data.toList.length = b.size := fun b => by rw [Array.length_toList]; rfl
  have e1 := e n1; have e2 := e v1; have e3 := e n2; have e4 := e v2
  by_cases hg : 500 < n1.size ∨ 500 < v1.size ∨ 500 < n2.size ∨ 500 < v2.size ∨ greatR r.D = true
  · have := fields_great n1.data.toList v1.data.toList n2.data.toList v2.data.toList r w hm hV (by omega) (by omega) (by omega) (by omega) (by rw [e1, e2, e3, e4]; exact hg)
    simpa using this
  · have hq : greatR r.D = false := by
      rw [← Bool.not_eq_true]
      exact fun q => hg (Or.inr (Or.inr (Or.inr (Or.inr q))))
    have := fields_go n1.data.toList v1.data.toList n2.data.toList v2.data.toList r w hm hV (by omega) (by omega) (by omega) (by omega) hq
    simpa using this
end Go.Proofs.YtgndogpgfgliaaaGreatDoor
