/- Recurrence rules, plainly: splitting byte by byte; equality of rules; what the laws need. No program in sight. -/
import Derived.Test.YtgndogpgfgliaaaGreatDoorQ02
import Derived.Test.YtgndogpgfgliaaaGreatDoorQ20
namespace Go.Proofs.YtgndogpgfgliaaaGreatDoor
set_option linter.unusedVariables false
set_option linter.unnecessarySimpa false
set_option linter.unusedSimpArgs false
open Go.RowKit

theorem spl_snoc (c d : UInt8) : ∀ l : List UInt8, spl c (l ++ [d]) = if d = c then spl c l ++ [[]] else (spl c l).dropLast ++ [(spl c l).getLastD [] ++ [d]]
  | [] => by
    rw [List.nil_append]
    by_cases h : d = c
    · rw [if_pos h, show spl c [d] = _ from (by rw [spl, if_pos h])]; rfl
    · rw [if_neg h]
      obtain ⟨x, t, e1, e2⟩ := spl_cons c d [] h
      rw [e2]
      have e1 : [[]] = x :: t := e1
      injection e1 with p q
      subst p; subst q
      rfl
  | a :: r => by
    have ih := spl_snoc c d r
    obtain ⟨y, t, hy⟩ := List.exists_cons_of_ne_nil (spl_ne c r)
    by_cases h : a = c
    · rw [List.cons_append, show spl c (a :: (r ++ [d])) = _ from (by rw [spl, if_pos h]), ih, show spl c (a :: r) = _ from (by rw [spl, if_pos h])]
      by_cases q : d = c
      · rw [if_pos q, if_pos q]; rfl
      · rw [if_neg q, if_neg q, hy]; simp [List.getLastD, List.getLast?]
    · obtain ⟨x1, t1, e1, e2⟩ := spl_cons c a r h
      obtain ⟨x2, t2, e3, e4⟩ := spl_cons c a (r ++ [d]) h
      rw [List.cons_append, e4, e2]
      rw [ih, e1] at e3
      by_cases q : d = c
      · rw [if_pos q] at e3 ⊢
        injection e3 with p1 p2
        subst p1; subst p2
        rfl
      · rw [if_neg q] at e3 ⊢
        cases t1 with
        | nil =>
          injection e3 with p1 p2
          subst p1; subst p2
          simp [List.getLastD, List.getLast?]
        | cons z u =>
          rw [List.dropLast_cons_of_ne_nil (by simp)] at e3 ⊢
          rw [List.cons_append] at e3 ⊢
          injection e3 with p1 p2
          subst p1; subst p2
          simp [List.getLastD, List.getLast?]
/-- Two rules with equal fields. -/
def sameR (A B : RecD) : Bool := decide (A.fr = B.fr ∧ A.iv = B.iv ∧ A.ct = B.ct ∧ A.un = B.un ∧ A.ws = B.ws ∧ A.mo = B.mo ∧ A.md = B.md ∧ A.yd = B.yd ∧ A.wk = B.wk ∧ A.da = B.da ∧ A.ho = B.ho ∧ A.mi = B.mi ∧ A.se = B.se ∧ A.po = B.po)
theorem sameR_iff {A B : RecD} : sameR A B = true ↔ A = B := by
  unfold sameR
  rw [decide_eq_true_eq]
  constructor
  · rintro ⟨e0, e1, e2, e3, e4, e5, e6, e7, e8, e9, ea, eb, ec, ed⟩
    obtain ⟨a0, a1, a2, a3, a4, a5, a6, a7, a8, a9, aa, ab, ac, ad⟩ := A
    obtain ⟨b0, b1, b2, b3, b4, b5, b6, b7, b8, b9, ba, bb, bc, bd⟩ := B
    simp only at e0 e1 e2 e3 e4 e5 e6 e7 e8 e9 ea eb ec ed
    subst e0 e1 e2 e3 e4 e5 e6 e7 e8 e9 ea eb ec ed
    rfl
  · rintro rfl
    exact ⟨rfl, rfl, rfl, rfl, rfl, rfl, rfl, rfl, rfl, rfl, rfl, rfl, rfl, rfl⟩
theorem sameR_refl (A : RecD) : sameR A A = true := sameR_iff.2 rfl
theorem foldl_val : ∀ (l : List UInt8) (acc : Nat), l.foldl (fun a c => 10 * a + (c.toNat - 48)) acc = acc * 10 ^ l.length + val l
  | [], acc => by simp [val]
  | c :: r, acc => by
    have h1 := foldl_val r (10 * acc + (c.toNat - 48))
    have h2 := foldl_val r (10 * 0 + (c.toNat - 48))
    have e : val (c :: r) = (c :: r).foldl (fun a c => 10 * a + (c.toNat - 48)) 0 := rfl
    rw [e, List.foldl_cons, List.foldl_cons, h1, h2, List.length_cons, Nat.pow_succ]
    rw [Nat.add_mul, Nat.add_mul, show 10 * acc * 10 ^ r.length = acc * (10 ^ r.length * 10) by rw [Nat.mul_comm 10 acc, Nat.mul_assoc, Nat.mul_comm 10]]
    simp
    omega
theorem val_ge (c : UInt8) (r : List UInt8) (hd : isDg c = true) (h : c ≠ 48) : 10 ^ r.length ≤ val (c :: r) := by
  have e : val (c :: r) = (c :: r).foldl (fun a c => 10 * a + (c.toNat - 48)) 0 := rfl
  rw [e, List.foldl_cons, foldl_val]
  have h1 := isDg_iff.1 hd
  have h2 : c.toNat ≠ 48 := fun q => h (UInt8.toNat_inj.1 q)
  have h3 : 1 ≤ 10 * 0 + (c.toNat - 48) := by omega
  have := Nat.mul_le_mul_right (10 ^ r.length) h3
  omega
/-- A number has at most ten bytes, and ten only with a minus sign. -/
theorem numZ_long {s : List UInt8} (h : 10 < s.length ∨ (s.length = 10 ∧ s.head? ≠ some 45)) : numZ s = none := by
  have hl : 10 ≤ (numT s).length := by
    unfold numT
    split
    · rename_i q
      rw [List.length_tail]
      rcases h with h | h
      · omega
      · exact absurd q h.2
    · omega
  unfold numZ
  rw [if_neg]
  intro hb
  unfold numZB at hb
  simp only [Bool.and_eq_true, decide_eq_true_eq] at hb
  obtain ⟨⟨⟨h1, h2⟩, h3⟩, h4⟩ := hb
  obtain ⟨c, r, hc⟩ := List.exists_cons_of_ne_nil h1
  rw [hc] at hl h2 h3 h4
  have hr : 9 ≤ r.length := by simpa using hl
  have h48 : c ≠ 48 := by
    rintro rfl
    have : decide (1 < (48 :: r : List UInt8).length) = true := by rw [decide_eq_true_eq, List.length_cons]; omega
    rw [this] at h2
    simp at h2
  have hd : isDg c = true := by
    rw [List.all_cons, Bool.and_eq_true] at h3
    exact h3.1
  have hge : 10 ^ r.length ≤ val (c :: r) := val_ge c r hd h48
  have := Nat.pow_le_pow_right (show 0 < 10 by decide) hr
  omega
end Go.Proofs.YtgndogpgfgliaaaGreatDoor
/- Recurrence rules: the walks of the law's own functions: same, great, zero; equality of lists. -/
namespace Go.Proofs.YtgndogpgfgliaaaGreatDoor
set_option linter.unusedVariables false
set_option linter.unnecessarySimpa false
set_option linter.unusedSimpArgs false
open Go.RowKit

theorem eqI_c (xs ys : List Int) (a1 a2 : Option Addr) (c1 c2 : Nat) (b : Bool) (w : World) (h1 : IsV a1 c1 xs w) (h2 : IsV a2 c2 ys w) (hb : decide (xs = ys) = b) :
    Calls Tryz.prog 29 #[.slice a1 xs.length c1, .slice a2 ys.length c2] w fun e w' => e = .returned (.bool b) ∧ Ext w w' := by
  have b1 := h1.1
  have b2 := h1.2.1
  have b3 := h2.1
  have b4 := h2.2.1
  unfold maxLen at b2 b4
  by_cases hl : xs.length = ys.length
  · by_cases h0 : xs = []
    · have h0' : ys = [] := List.length_eq_zero_iff.1 (by rw [← hl, h0]; rfl)
      subst h0; subst h0'
      subst hb
      refine (Tryz.slices_Equal_int_empty a1 a2 c1 0 c2 w (by omega)).mono ?_
      rintro e w' ⟨rfl, rfl⟩
      exact ⟨rfl, Ext.refl _⟩
    · obtain ⟨R1, o1, rfl, hR1, k1⟩ := h1.2.2 h0
      obtain ⟨R2, o2, rfl, hR2, k2⟩ := h2.2.2 (by intro e; rw [e] at hl; exact h0 (List.length_eq_zero_iff.1 hl))
      refine (Tryz.slices_Equal_int R1 o1 xs.length c1 R2 o2 ys.length c2 xs ys w (Nat.le_refl _) (Nat.le_refl _) (by omega) (by omega) (fun j hj => by rw [k1 j hj]; simp [List.getD, hj]) (fun j hj => by rw [k2 j hj]; simp [List.getD, hj])).mono ?_
      rintro e w' ⟨rfl, q, rfl⟩
      refine ⟨?_, (Ext.refl _).drewN q⟩
      rw [List.take_length, List.take_length, ← hb]
      congr 2
      rw [Bool.eq_iff_iff]
      simp
  · refine (Tryz.slices_Equal_int_lens a1 a2 xs.length c1 ys.length c2 w hl).mono ?_
    rintro e w' ⟨rfl, rfl⟩
    rw [← hb, decide_eq_false (fun e => hl (by rw [e]))]
    exact ⟨rfl, Ext.refl _⟩
set_option maxRecDepth 100000 in
set_option maxHeartbeats 1000000 in
theorem eqO_c (xs ys : List (Int × Int)) (a1 a2 : Option Addr) (c1 c2 : Nat) (b : Bool) (w : World) (h1 : OsV a1 c1 xs w) (h2 : OsV a2 c2 ys w) (hb : decide (xs = ys) = b) :
    Calls Tryz.prog 24 #[.slice a1 xs.length c1, .slice a2 ys.length c2] w fun e w' => e = .returned (.bool b) ∧ Ext w w' := by
  have b1 := h1.1
  have b2 := h1.2.1
  have b3 := h2.1
  have b4 := h2.2.1
  unfold maxLen at b2 b4
  by_cases hl : xs.length = ys.length
  · have HL1 := Lib.hid h1.2.2
    have HL2 := Lib.hid h2.2.2
    obtain ⟨n, hn⟩ : ∃ n, n = xs.length := ⟨_, rfl⟩
    have Hn := Lib.hid hn
    have Hn2 : Hid (n = ys.length) := hn.trans hl
    have HF : Hid (∀ j (h1 : j < xs.length) (h2 : j < ys.length), xs[j] ≠ ys[j] → b = false) := fun j h1 h2 q => by rw [← hb]; exact decide_eq_false (fun e => by subst e; exact q rfl)
    have HT : Hid ((∀ j (h1 : j < xs.length) (h2 : j < ys.length), xs[j] = ys[j]) → b = true) := fun q => by rw [← hb]; exact decide_eq_true (List.ext_getElem hl (fun i a c => q i a c))
    rw [← hl, ← hn]
    clear h1 h2 hb hl hn
    go_enter Tryz.func24, Tryz.ntmps24
    go_wp2_with fail
    go_loopw [13] (fun i wr => ∃ j : Nat, j ≤ n ∧ i = .int .i64 (j : Int) ∧ (∀ k (h1 : k < xs.length) (h2 : k < ys.length), k < j → xs[k] = ys[k]) ∧ Ext w wr) (fun i _ => n - (intOf i).toNat)
    case atStart => exact ⟨0, Nat.zero_le _, rfl, (fun k _ _ h => by omega), Ext.refl _⟩
    case round =>
      obtain ⟨j, hj, rfl, hall, hE⟩ := hrel
      have Hall := Lib.hid hall
      clear hall
      by_cases hlt : j < n
      · have l1 : j < xs.length := by rw [← Hn.out]; exact hlt
        have l2 : j < ys.length := by rw [← Hn2.out]; exact hlt
        obtain ⟨R1, o1, rfl, hR1⟩ := HL1.out (by intro e; rw [e] at l1; cases l1)
        obtain ⟨R2, o2, rfl, hR2⟩ := HL2.out (by intro e; rw [e] at l2; cases l2)
        have hRz1 := (hR1.ext hE).1
        have hRz2 := (hR2.ext hE).1
        obtain ⟨x0, x1⟩ := (hR1.ext hE).2 j l1
        obtain ⟨y0, y1⟩ := (hR2.ext hE).2 j l2
        have HF1 : Hid (xs[j] ≠ ys[j] → b = false) := HF.out j l1 l2
        have HA1 : Hid (xs[j] = ys[j] → ∀ k (h1 : k < xs.length) (h2 : k < ys.length), k < j + 1 → xs[k] = ys[k]) := fun q k a c h => by
          by_cases e : k = j
          · subst e; exact q
          · exact Hall.out k a c (by omega)
        obtain ⟨p, hp⟩ : ∃ p, p = xs[j] := ⟨_, rfl⟩
        obtain ⟨q, hq⟩ : ∃ q, q = ys[j] := ⟨_, rfl⟩
        rw [← hp, ← hq] at HF1 HA1
        rw [← hp] at x0 x1
        rw [← hq] at y0 y1
        obtain ⟨p1, p2⟩ := p
        obtain ⟨q1, q2⟩ := q
        simp only at x0 x1 y0 y1
        clear hp hq hR1 hR2
        by_cases he : p1 = q1 ∧ p2 = q2
        · obtain ⟨rfl, rfl⟩ := he
          have HA2 := Lib.hid (HA1.out rfl)
          go_upto_region 6 with fail
          go_quiet (fail)
          go_wp2_with fail
          go_roundw
          case rel => exact ⟨j + 1, by omega, by go_num, HA2.out, hE.drewN _⟩
          case measure => simp [intOf]; omega
        · have hf := HF1.out (fun e => he ⟨congrArg Prod.fst e, congrArg Prod.snd e⟩)
          subst hf
          by_cases e1 : p1 = q1
          · have e2 : ¬ p2 = q2 := fun e => he ⟨e1, e⟩
            have t1 : (p1 == q1) = true := by simpa using e1
            have t2 : (p2 == q2) = false := by simpa using e2
            clear he e1 e2
            go_upto_region 6 with fail
            go_quiet (fail)
            go_wp2_with fail
            go_ret
            exact ⟨rfl, hE.drewN _⟩
          · have t1 : (p1 == q1) = false := by simpa using e1
            clear he e1
            go_upto_region 6 with fail
            go_quiet (fail)
            go_wp2_with fail
            go_ret
            exact ⟨rfl, hE.drewN _⟩
      · obtain rfl : j = n := by omega
        have ht := HT.out (fun k a c => Hall.out k a c (by rw [Hn.out]; exact a))
        subst ht
        go_wp2_with fail
        go_ret
        exact ⟨rfl, hE⟩
  · have hb2 : b = false := by rw [← hb]; exact decide_eq_false (fun e => hl (by rw [e]))
    subst hb2
    have t1 : ((xs.length : Int) == (ys.length : Int)) = false := by rw [beq_eq_false_iff_ne]; omega
    have t2 : ((xs.length : Int) != (ys.length : Int)) = true := by rw [bne_iff_ne]; omega
    have t3 : (xs.length == ys.length) = false := by rw [beq_eq_false_iff_ne]; exact hl
    obtain ⟨m, hm⟩ : ∃ m, m = xs.length := ⟨_, rfl⟩
    obtain ⟨n, hn⟩ : ∃ n, n = ys.length := ⟨_, rfl⟩
    rw [← hm, ← hn] at t1 t2 t3 ⊢
    clear hm hn hl hb h1 h2
    go_enter Tryz.func24, Tryz.ntmps24
    go_wp2_with fail
    go_ret
    exact ⟨rfl, Ext.refl _⟩
set_option maxRecDepth 100000 in
set_option maxHeartbeats 8000000 in
theorem same30_c (r s : Rec) (b : Bool) (w : World) (hr : RcV r w) (hs : RcV s w) (hb : sameR r.D s.D = b) :
    Calls Tryz.prog 19 #[.agg r.vals.toArray, .agg s.vals.toArray] w fun e w' => e = .returned (.bool b) ∧ Ext w w' := by
  obtain ⟨W0, hW0⟩ : ∃ W0, W0 = (w.alloc (.cells r.vals.toArray 25)).alloc (.cells s.vals.toArray 25) := ⟨_, rfl⟩
  have hE0 : Ext w W0 := by rw [hW0]; exact ((Ext.refl w).alloc _).alloc _
  have hA : RcB r w.heap.size W0 := by rw [hW0]; exact (RcB.new r w 25).ext ((Ext.refl _).alloc _)
  have hB : RcB s (w.heap.size + 1) W0 := by
    rw [hW0]
    have := RcB.new s (w.alloc (.cells r.vals.toArray 25)) 25
    rwa [show (w.alloc (.cells r.vals.toArray 25)).heap.size = w.heap.size + 1 by simp] at this
  have HA := Lib.hid hA
  have HB := Lib.hid hB
  have HE0 := Lib.hid hE0
  have HW0 := Lib.hid hW0
  obtain ⟨a0, a1, a2, a3, a4, a5, a6, a7, a8, a9, a10, a11, a12, a13⟩ := hA.all
  obtain ⟨b0, b1, b2, b3, b4, b5, b6, b7, b8, b9, b10, b11, b12, b13⟩ := hB.all
  have hAl := hA.1
  have hBl := hB.1
  obtain ⟨x0, hx0⟩ : ∃ x, (r.D.fr == s.D.fr) = x := ⟨_, rfl⟩
  obtain ⟨x1, hx1⟩ : ∃ x, (r.D.iv == s.D.iv) = x := ⟨_, rfl⟩
  obtain ⟨x2, hx2⟩ : ∃ x, (r.D.ct == s.D.ct) = x := ⟨_, rfl⟩
  obtain ⟨x3, hx3⟩ : ∃ x, (r.D.un == s.D.un) = x := ⟨_, rfl⟩
  obtain ⟨x4, hx4⟩ : ∃ x, (r.D.ws == s.D.ws) = x := ⟨_, rfl⟩
  obtain ⟨y0, hy0⟩ : ∃ y, decide (r.D.mo = s.D.mo) = y := ⟨_, rfl⟩
  have HY0 : Hid (∀ W, Ext W0 W → Calls Tryz.prog 29 #[.slice (r.a 0) r.D.mo.length (r.c 0), .slice (s.a 0) s.D.mo.length (s.c 0)] W fun e w' => e = .returned (.bool y0) ∧ Ext W0 w') := fun W hE => (eqI_c r.D.mo s.D.mo _ _ _ _ y0 W (hr.mo.ext (hE0.trans hE)) (hs.mo.ext (hE0.trans hE)) hy0).mono fun e w' ⟨a, c⟩ => ⟨a, hE.trans c⟩
  obtain ⟨y1, hy1⟩ : ∃ y, decide (r.D.md = s.D.md) = y := ⟨_, rfl⟩
  have HY1 : Hid (∀ W, Ext W0 W → Calls Tryz.prog 29 #[.slice (r.a 1) r.D.md.length (r.c 1), .slice (s.a 1) s.D.md.length (s.c 1)] W fun e w' => e = .returned (.bool y1) ∧ Ext W0 w') := fun W hE => (eqI_c r.D.md s.D.md _ _ _ _ y1 W (hr.md.ext (hE0.trans hE)) (hs.md.ext (hE0.trans hE)) hy1).mono fun e w' ⟨a, c⟩ => ⟨a, hE.trans c⟩
  obtain ⟨y2, hy2⟩ : ∃ y, decide (r.D.yd = s.D.yd) = y := ⟨_, rfl⟩
  have HY2 : Hid (∀ W, Ext W0 W → Calls Tryz.prog 29 #[.slice (r.a 2) r.D.yd.length (r.c 2), .slice (s.a 2) s.D.yd.length (s.c 2)] W fun e w' => e = .returned (.bool y2) ∧ Ext W0 w') := fun W hE => (eqI_c r.D.yd s.D.yd _ _ _ _ y2 W (hr.yd.ext (hE0.trans hE)) (hs.yd.ext (hE0.trans hE)) hy2).mono fun e w' ⟨a, c⟩ => ⟨a, hE.trans c⟩
  obtain ⟨y3, hy3⟩ : ∃ y, decide (r.D.wk = s.D.wk) = y := ⟨_, rfl⟩
  have HY3 : Hid (∀ W, Ext W0 W → Calls Tryz.prog 29 #[.slice (r.a 3) r.D.wk.length (r.c 3), .slice (s.a 3) s.D.wk.length (s.c 3)] W fun e w' => e = .returned (.bool y3) ∧ Ext W0 w') := fun W hE => (eqI_c r.D.wk s.D.wk _ _ _ _ y3 W (hr.wk.ext (hE0.trans hE)) (hs.wk.ext (hE0.trans hE)) hy3).mono fun e w' ⟨a, c⟩ => ⟨a, hE.trans c⟩
  obtain ⟨y4, hy4⟩ : ∃ y, decide (r.D.da = s.D.da) = y := ⟨_, rfl⟩
  have HY4 : Hid (∀ W, Ext W0 W → Calls Tryz.prog 24 #[.slice (r.a 4) r.D.da.length (r.c 4), .slice (s.a 4) s.D.da.length (s.c 4)] W fun e w' => e = .returned (.bool y4) ∧ Ext W0 w') := fun W hE => (eqO_c r.D.da s.D.da _ _ _ _ y4 W (hr.da.ext (hE0.trans hE)) (hs.da.ext (hE0.trans hE)) hy4).mono fun e w' ⟨a, c⟩ => ⟨a, hE.trans c⟩
  obtain ⟨y5, hy5⟩ : ∃ y, decide (r.D.ho = s.D.ho) = y := ⟨_, rfl⟩
  have HY5 : Hid (∀ W, Ext W0 W → Calls Tryz.prog 29 #[.slice (r.a 5) r.D.ho.length (r.c 5), .slice (s.a 5) s.D.ho.length (s.c 5)] W fun e w' => e = .returned (.bool y5) ∧ Ext W0 w') := fun W hE => (eqI_c r.D.ho s.D.ho _ _ _ _ y5 W (hr.ho.ext (hE0.trans hE)) (hs.ho.ext (hE0.trans hE)) hy5).mono fun e w' ⟨a, c⟩ => ⟨a, hE.trans c⟩
  obtain ⟨y6, hy6⟩ : ∃ y, decide (r.D.mi = s.D.mi) = y := ⟨_, rfl⟩
  have HY6 : Hid (∀ W, Ext W0 W → Calls Tryz.prog 29 #[.slice (r.a 6) r.D.mi.length (r.c 6), .slice (s.a 6) s.D.mi.length (s.c 6)] W fun e w' => e = .returned (.bool y6) ∧ Ext W0 w') := fun W hE => (eqI_c r.D.mi s.D.mi _ _ _ _ y6 W (hr.mi.ext (hE0.trans hE)) (hs.mi.ext (hE0.trans hE)) hy6).mono fun e w' ⟨a, c⟩ => ⟨a, hE.trans c⟩
  obtain ⟨y7, hy7⟩ : ∃ y, decide (r.D.se = s.D.se) = y := ⟨_, rfl⟩
  have HY7 : Hid (∀ W, Ext W0 W → Calls Tryz.prog 29 #[.slice (r.a 7) r.D.se.length (r.c 7), .slice (s.a 7) s.D.se.length (s.c 7)] W fun e w' => e = .returned (.bool y7) ∧ Ext W0 w') := fun W hE => (eqI_c r.D.se s.D.se _ _ _ _ y7 W (hr.se.ext (hE0.trans hE)) (hs.se.ext (hE0.trans hE)) hy7).mono fun e w' ⟨a, c⟩ => ⟨a, hE.trans c⟩
  obtain ⟨y8, hy8⟩ : ∃ y, decide (r.D.po = s.D.po) = y := ⟨_, rfl⟩
  have HY8 : Hid (∀ W, Ext W0 W → Calls Tryz.prog 29 #[.slice (r.a 8) r.D.po.length (r.c 8), .slice (s.a 8) s.D.po.length (s.c 8)] W fun e w' => e = .returned (.bool y8) ∧ Ext W0 w') := fun W hE => (eqI_c r.D.po s.D.po _ _ _ _ y8 W (hr.po.ext (hE0.trans hE)) (hs.po.ext (hE0.trans hE)) hy8).mono fun e w' ⟨a, c⟩ => ⟨a, hE.trans c⟩
  have Hb : Hid (b = (x0 && x1 && x2 && x3 && x4 && (y0 && y1 && y2 && y3 && y4) && y5 && y6 && y7 && y8)) := by
    rw [Hid, ← hb, ← hx0, ← hx1, ← hx2, ← hx3, ← hx4, ← hy0, ← hy1, ← hy2, ← hy3, ← hy4, ← hy5, ← hy6, ← hy7, ← hy8]
    unfold sameR
    rw [Bool.eq_iff_iff]
    simp only [decide_eq_true_eq, Bool.and_eq_true, beq_iff_eq]
    constructor
    · rintro ⟨e0, e1, e2, e3, e4, e5, e6, e7, e8, e9, ea, eb, ec, ed⟩
      exact ⟨⟨⟨⟨⟨⟨⟨⟨⟨e0, e1⟩, e2⟩, e3⟩, e4⟩, ⟨⟨⟨e5, e6⟩, e7⟩, e8⟩, e9⟩, ea⟩, eb⟩, ec⟩, ed⟩
    · rintro ⟨⟨⟨⟨⟨⟨⟨⟨⟨e0, e1⟩, e2⟩, e3⟩, e4⟩, ⟨⟨⟨e5, e6⟩, e7⟩, e8⟩, e9⟩, ea⟩, eb⟩, ec⟩, ed⟩
      exact ⟨e0, e1, e2, e3, e4, e5, e6, e7, e8, e9, ea, eb, ec, ed⟩
  clear hW0 hE0 hA hB hr hs hb hy0 hy1 hy2 hy3 hy4 hy5 hy6 hy7 hy8
  go_enter Tryz.func19, Tryz.ntmps19
  go_upto_region 1 with fail
  rw [← HW0.out]
  generalize w.heap.size = A at *
  generalize hBe : A + 1 = B at *
  have HBe := Lib.hid hBe
  clear hBe HW0
  go_cut [5] from 7 to 39 (fun x wx => x = .bool (x0 && x1 && x2 && x3 && x4) ∧ W0 = wx)
  case first =>
    cases x0 with
    | false =>
      go_wp2_with fail
      go_meet
      exact ⟨by simp, rfl⟩
    | true =>
    cases x1 with
    | false =>
      go_wp2_with fail
      go_meet
      exact ⟨by simp, rfl⟩
    | true =>
    cases x2 with
    | false =>
      go_wp2_with fail
      go_meet
      exact ⟨by simp, rfl⟩
    | true =>
    cases x3 with
    | false =>
      go_wp2_with fail
      go_meet
      exact ⟨by simp, rfl⟩
    | true =>
    cases x4 with
    | false =>
      go_wp2_with fail
      go_meet
      exact ⟨by simp, rfl⟩
    | true =>
    go_wp2_with fail
    go_meet
    exact ⟨by simp, rfl⟩
  case rest =>
  obtain ⟨rfl, rfl⟩ := hcut
  obtain ⟨xx, hxx⟩ : ∃ xx, xx = (x0 && x1 && x2 && x3 && x4) := ⟨_, rfl⟩
  rw [← hxx]
  have Hxx := Lib.hid hxx
  clear hxx hx0 hx1 hx2 hx3 hx4 a0 a1 a2 a3 a13 b0 b1 b2 b3 b13
  go_upto_region 2 with fail
  go_cut [6] from 40 to 72 (fun x wx => x = .bool (y0 && y1 && y2 && y3 && y4) ∧ Ext W0 wx)
  case first =>
    cases y0 with
    | false =>
      go_wp2_with (first
        | (go_at_call 29; (with_reducible refine (HY0.out _ (Ext.refl _)).mono ?_); rintro e w1 ⟨rfl, hX1⟩; have p1 := (hX1.cells A 5 hAl).trans a5; have q1 := (hX1.cells B 5 hBl).trans b5; have hAl1 := hX1.lt hAl; have hBl1 := hX1.lt hBl))
      go_meet
      exact ⟨by simp, hX1⟩
    | true =>
    cases y1 with
    | false =>
      go_wp2_with (first
        | (go_at_call 29; (with_reducible refine (HY0.out _ (Ext.refl _)).mono ?_); rintro e w1 ⟨rfl, hX1⟩; have p1 := (hX1.cells A 5 hAl).trans a5; have q1 := (hX1.cells B 5 hBl).trans b5; have hAl1 := hX1.lt hAl; have hBl1 := hX1.lt hBl)
        | (go_at_call 29; (with_reducible refine (HY1.out _ hX1).mono ?_); rintro e w2 ⟨rfl, hX2⟩; have p2 := (hX2.cells A 6 hAl).trans a6; have q2 := (hX2.cells B 6 hBl).trans b6; have hAl2 := hX2.lt hAl; have hBl2 := hX2.lt hBl))
      go_meet
      exact ⟨by simp, hX2⟩
    | true =>
    cases y2 with
    | false =>
      go_wp2_with (first
        | (go_at_call 29; (with_reducible refine (HY0.out _ (Ext.refl _)).mono ?_); rintro e w1 ⟨rfl, hX1⟩; have p1 := (hX1.cells A 5 hAl).trans a5; have q1 := (hX1.cells B 5 hBl).trans b5; have hAl1 := hX1.lt hAl; have hBl1 := hX1.lt hBl)
        | (go_at_call 29; (with_reducible refine (HY1.out _ hX1).mono ?_); rintro e w2 ⟨rfl, hX2⟩; have p2 := (hX2.cells A 6 hAl).trans a6; have q2 := (hX2.cells B 6 hBl).trans b6; have hAl2 := hX2.lt hAl; have hBl2 := hX2.lt hBl)
        | (go_at_call 29; (with_reducible refine (HY2.out _ hX2).mono ?_); rintro e w3 ⟨rfl, hX3⟩; have p3 := (hX3.cells A 7 hAl).trans a7; have q3 := (hX3.cells B 7 hBl).trans b7; have hAl3 := hX3.lt hAl; have hBl3 := hX3.lt hBl))
      go_meet
      exact ⟨by simp, hX3⟩
    | true =>
    cases y3 with
    | false =>
      go_wp2_with (first
        | (go_at_call 29; (with_reducible refine (HY0.out _ (Ext.refl _)).mono ?_); rintro e w1 ⟨rfl, hX1⟩; have p1 := (hX1.cells A 5 hAl).trans a5; have q1 := (hX1.cells B 5 hBl).trans b5; have hAl1 := hX1.lt hAl; have hBl1 := hX1.lt hBl)
        | (go_at_call 29; (with_reducible refine (HY1.out _ hX1).mono ?_); rintro e w2 ⟨rfl, hX2⟩; have p2 := (hX2.cells A 6 hAl).trans a6; have q2 := (hX2.cells B 6 hBl).trans b6; have hAl2 := hX2.lt hAl; have hBl2 := hX2.lt hBl)
        | (go_at_call 29; (with_reducible refine (HY2.out _ hX2).mono ?_); rintro e w3 ⟨rfl, hX3⟩; have p3 := (hX3.cells A 7 hAl).trans a7; have q3 := (hX3.cells B 7 hBl).trans b7; have hAl3 := hX3.lt hAl; have hBl3 := hX3.lt hBl)
        | (go_at_call 29; (with_reducible refine (HY3.out _ hX3).mono ?_); rintro e w4 ⟨rfl, hX4⟩; have p4 := (hX4.cells A 8 hAl).trans a8; have q4 := (hX4.cells B 8 hBl).trans b8; have hAl4 := hX4.lt hAl; have hBl4 := hX4.lt hBl))
      go_meet
      exact ⟨by simp, hX4⟩
    | true =>
    cases y4 with
    | false =>
      go_wp2_with (first
        | (go_at_call 29; (with_reducible refine (HY0.out _ (Ext.refl _)).mono ?_); rintro e w1 ⟨rfl, hX1⟩; have p1 := (hX1.cells A 5 hAl).trans a5; have q1 := (hX1.cells B 5 hBl).trans b5; have hAl1 := hX1.lt hAl; have hBl1 := hX1.lt hBl)
        | (go_at_call 29; (with_reducible refine (HY1.out _ hX1).mono ?_); rintro e w2 ⟨rfl, hX2⟩; have p2 := (hX2.cells A 6 hAl).trans a6; have q2 := (hX2.cells B 6 hBl).trans b6; have hAl2 := hX2.lt hAl; have hBl2 := hX2.lt hBl)
        | (go_at_call 29; (with_reducible refine (HY2.out _ hX2).mono ?_); rintro e w3 ⟨rfl, hX3⟩; have p3 := (hX3.cells A 7 hAl).trans a7; have q3 := (hX3.cells B 7 hBl).trans b7; have hAl3 := hX3.lt hAl; have hBl3 := hX3.lt hBl)
        | (go_at_call 29; (with_reducible refine (HY3.out _ hX3).mono ?_); rintro e w4 ⟨rfl, hX4⟩; have p4 := (hX4.cells A 8 hAl).trans a8; have q4 := (hX4.cells B 8 hBl).trans b8; have hAl4 := hX4.lt hAl; have hBl4 := hX4.lt hBl)
        | (go_at_call 24; (with_reducible refine (HY4.out _ hX4).mono ?_); rintro e w5 ⟨rfl, hX5⟩))
      go_meet
      exact ⟨by simp, hX5⟩
    | true =>
    go_wp2_with (first
      | (go_at_call 29; (with_reducible refine (HY0.out _ (Ext.refl _)).mono ?_); rintro e w1 ⟨rfl, hX1⟩; have p1 := (hX1.cells A 5 hAl).trans a5; have q1 := (hX1.cells B 5 hBl).trans b5; have hAl1 := hX1.lt hAl; have hBl1 := hX1.lt hBl)
      | (go_at_call 29; (with_reducible refine (HY1.out _ hX1).mono ?_); rintro e w2 ⟨rfl, hX2⟩; have p2 := (hX2.cells A 6 hAl).trans a6; have q2 := (hX2.cells B 6 hBl).trans b6; have hAl2 := hX2.lt hAl; have hBl2 := hX2.lt hBl)
      | (go_at_call 29; (with_reducible refine (HY2.out _ hX2).mono ?_); rintro e w3 ⟨rfl, hX3⟩; have p3 := (hX3.cells A 7 hAl).trans a7; have q3 := (hX3.cells B 7 hBl).trans b7; have hAl3 := hX3.lt hAl; have hBl3 := hX3.lt hBl)
      | (go_at_call 29; (with_reducible refine (HY3.out _ hX3).mono ?_); rintro e w4 ⟨rfl, hX4⟩; have p4 := (hX4.cells A 8 hAl).trans a8; have q4 := (hX4.cells B 8 hBl).trans b8; have hAl4 := hX4.lt hAl; have hBl4 := hX4.lt hBl)
      | (go_at_call 24; (with_reducible refine (HY4.out _ hX4).mono ?_); rintro e w5 ⟨rfl, hX5⟩))
    go_meet
    exact ⟨by simp, hX5⟩
  case rest =>
  obtain ⟨rfl, hXw⟩ := hcut
  generalize wc = w5 at *
  obtain ⟨yy, hyy⟩ : ∃ yy, yy = (y0 && y1 && y2 && y3 && y4) := ⟨_, rfl⟩
  rw [← hyy]
  have Hyy := Lib.hid hyy
  have Hb2 : Hid (b = (xx && yy && y5 && y6 && y7 && y8)) := by rw [Hid, Hb.out, Hxx.out, hyy]
  have p0 := (hXw.cells A 9 hAl).trans a9
  have q0 := (hXw.cells B 9 hBl).trans b9
  have hAw := hXw.lt hAl
  have hBw := hXw.lt hBl
  clear hyy a4 a5 a6 a7 a8 b4 b5 b6 b7 b8 HY0 HY1 HY2 HY3 HY4
  cases xx with
  | false =>
    have hf : b = false := by rw [Hb2.out]; simp
    subst hf
    go_wp2_with fail
    go_ret
    exact ⟨rfl, HE0.out.trans hXw⟩
  | true =>
  cases yy with
  | false =>
    have hf : b = false := by rw [Hb2.out]; simp
    subst hf
    go_wp2_with fail
    go_ret
    exact ⟨rfl, HE0.out.trans hXw⟩
  | true =>
  cases y5 with
  | false =>
    have hf : b = false := by rw [Hb2.out]; simp
    subst hf
    go_wp2_with (first
      | (go_at_call 29; (with_reducible refine (HY5.out _ hXw).mono ?_); rintro e w6 ⟨rfl, hX6⟩; have p6 := (hX6.cells A 10 hAl).trans a10; have q6 := (hX6.cells B 10 hBl).trans b10; have hAl6 := hX6.lt hAl; have hBl6 := hX6.lt hBl))
    go_ret
    exact ⟨rfl, HE0.out.trans hX6⟩
  | true =>
  cases y6 with
  | false =>
    have hf : b = false := by rw [Hb2.out]; simp
    subst hf
    go_wp2_with (first
      | (go_at_call 29; (with_reducible refine (HY5.out _ hXw).mono ?_); rintro e w6 ⟨rfl, hX6⟩; have p6 := (hX6.cells A 10 hAl).trans a10; have q6 := (hX6.cells B 10 hBl).trans b10; have hAl6 := hX6.lt hAl; have hBl6 := hX6.lt hBl)
      | (go_at_call 29; (with_reducible refine (HY6.out _ hX6).mono ?_); rintro e w7 ⟨rfl, hX7⟩; have p7 := (hX7.cells A 11 hAl).trans a11; have q7 := (hX7.cells B 11 hBl).trans b11; have hAl7 := hX7.lt hAl; have hBl7 := hX7.lt hBl))
    go_ret
    exact ⟨rfl, HE0.out.trans hX7⟩
  | true =>
  cases y7 with
  | false =>
    have hf : b = false := by rw [Hb2.out]; simp
    subst hf
    go_wp2_with (first
      | (go_at_call 29; (with_reducible refine (HY5.out _ hXw).mono ?_); rintro e w6 ⟨rfl, hX6⟩; have p6 := (hX6.cells A 10 hAl).trans a10; have q6 := (hX6.cells B 10 hBl).trans b10; have hAl6 := hX6.lt hAl; have hBl6 := hX6.lt hBl)
      | (go_at_call 29; (with_reducible refine (HY6.out _ hX6).mono ?_); rintro e w7 ⟨rfl, hX7⟩; have p7 := (hX7.cells A 11 hAl).trans a11; have q7 := (hX7.cells B 11 hBl).trans b11; have hAl7 := hX7.lt hAl; have hBl7 := hX7.lt hBl)
      | (go_at_call 29; (with_reducible refine (HY7.out _ hX7).mono ?_); rintro e w8 ⟨rfl, hX8⟩; have p8 := (hX8.cells A 12 hAl).trans a12; have q8 := (hX8.cells B 12 hBl).trans b12; have hAl8 := hX8.lt hAl; have hBl8 := hX8.lt hBl))
    go_ret
    exact ⟨rfl, HE0.out.trans hX8⟩
  | true =>
  cases y8 with
  | false =>
    have hf : b = false := by rw [Hb2.out]; simp
    subst hf
    go_wp2_with (first
      | (go_at_call 29; (with_reducible refine (HY5.out _ hXw).mono ?_); rintro e w6 ⟨rfl, hX6⟩; have p6 := (hX6.cells A 10 hAl).trans a10; have q6 := (hX6.cells B 10 hBl).trans b10; have hAl6 := hX6.lt hAl; have hBl6 := hX6.lt hBl)
      | (go_at_call 29; (with_reducible refine (HY6.out _ hX6).mono ?_); rintro e w7 ⟨rfl, hX7⟩; have p7 := (hX7.cells A 11 hAl).trans a11; have q7 := (hX7.cells B 11 hBl).trans b11; have hAl7 := hX7.lt hAl; have hBl7 := hX7.lt hBl)
      | (go_at_call 29; (with_reducible refine (HY7.out _ hX7).mono ?_); rintro e w8 ⟨rfl, hX8⟩; have p8 := (hX8.cells A 12 hAl).trans a12; have q8 := (hX8.cells B 12 hBl).trans b12; have hAl8 := hX8.lt hAl; have hBl8 := hX8.lt hBl)
      | (go_at_call 29; (with_reducible refine (HY8.out _ hX8).mono ?_); rintro e w9 ⟨rfl, hX9⟩))
    go_ret
    exact ⟨rfl, HE0.out.trans hX9⟩
  | true =>
  have hf : b = true := by rw [Hb2.out]; rfl
  subst hf
  go_wp2_with (first
    | (go_at_call 29; (with_reducible refine (HY5.out _ hXw).mono ?_); rintro e w6 ⟨rfl, hX6⟩; have p6 := (hX6.cells A 10 hAl).trans a10; have q6 := (hX6.cells B 10 hBl).trans b10; have hAl6 := hX6.lt hAl; have hBl6 := hX6.lt hBl)
    | (go_at_call 29; (with_reducible refine (HY6.out _ hX6).mono ?_); rintro e w7 ⟨rfl, hX7⟩; have p7 := (hX7.cells A 11 hAl).trans a11; have q7 := (hX7.cells B 11 hBl).trans b11; have hAl7 := hX7.lt hAl; have hBl7 := hX7.lt hBl)
    | (go_at_call 29; (with_reducible refine (HY7.out _ hX7).mono ?_); rintro e w8 ⟨rfl, hX8⟩; have p8 := (hX8.cells A 12 hAl).trans a12; have q8 := (hX8.cells B 12 hBl).trans b12; have hAl8 := hX8.lt hAl; have hBl8 := hX8.lt hBl)
    | (go_at_call 29; (with_reducible refine (HY8.out _ hX8).mono ?_); rintro e w9 ⟨rfl, hX9⟩))
  go_ret
  exact ⟨rfl, HE0.out.trans hX9⟩
set_option maxRecDepth 100000 in
set_option maxHeartbeats 1000000 in
theorem zero30_c (r : Rec) (b : Bool) (w : World) (hr : RcV r w) (hb : sameR r.D RecD.zero = b) :
    Calls Tryz.prog 28 #[.agg r.vals.toArray] w fun e w' => e = .returned (.bool b) ∧ Ext w w' := by
  have hE0 : Ext w (w.alloc (.cells r.vals.toArray 25)) := (Ext.refl w).alloc _
  have HE0 := Lib.hid hE0
  have hB := RcB.new r w 25
  have hBr := hB.2
  have hRs := rec_size r
  have HS := Lib.hid (same30_c r Rec.zero b _ (hr.ext hE0) (rec_zero _) hb)
  have HS2 : Hid (Calls Tryz.prog 19 #[.agg r.vals.toArray, .agg #[.int .i64 0, .int .i64 0, .int .i64 0, .int .i64 0, .slice none 0 0, .slice none 0 0, .slice none 0 0, .slice none 0 0, .slice none 0 0, .slice none 0 0, .slice none 0 0, .slice none 0 0, .slice none 0 0, .int .i64 0]] (w.alloc (.cells r.vals.toArray 25)) fun e w' => e = .returned (.bool b) ∧ Ext (w.alloc (.cells r.vals.toArray 25)) w') := HS.out
  clear hE0 hB hr hb HS
  go_enter Tryz.func28, Tryz.ntmps28
  go_upto_region 1 with fail
  generalize w.alloc (.cells r.vals.toArray 25) = W0 at *
  generalize w.heap.size = B at *
  go_wp2_with (first
    | (refine load_midg (by rfl) 25 _ rfl B 0 rfl r.vals _ hBr Tryz.underlying25 rfl hRs ?_)
    | (go_at_call 19; (with_reducible refine HS2.out.mono ?_); rintro e w1 ⟨rfl, hE1⟩))
  go_ret
  exact ⟨rfl, HE0.out.trans hE1⟩
end Go.Proofs.YtgndogpgfgliaaaGreatDoor
