/- The walk of the reference's Format. -/
import Derived.Test.YticckkadmhklmaaGreatK31
import Derived.Test.YticckkadmhklmaaGreatK34
import Derived.Test.YticckkadmhklmaaGreatK33
import Derived.Test.YticckkadmhklmaaGreatK29
namespace Go.Proofs.YticckkadmhklmaaGreat
set_option linter.unusedVariables false
set_option linter.unusedSimpArgs false
open Go.RowKit Go.Maps

theorem off_data (o : Int) (ho : o.natAbs < 93600) : ∃ (N x1 x2 x3 : Nat) (L1 L2 L3 : List UInt8), N < 93600 ∧ ((o < 0 ∧ 0 - o = (N : Int)) ∨ (¬ o < 0 ∧ o = (N : Int))) ∧
    offT o = (if o < 0 then 45 else 43) :: (L1 ++ 58 :: (L2 ++ if x3 = 0 then [] else 58 :: L3)) ∧ (itx x1 2 = L1 ∧ itx x2 2 = L2 ∧ itx x3 2 = L3) ∧ (x1 ≤ 100 ∧ x2 ≤ 100 ∧ x3 ≤ 100) ∧ (L1.length ≤ 3 ∧ L2.length ≤ 3 ∧ L3.length ≤ 3) ∧
    ((N : Int).tdiv 3600 = (x1 : Int) ∧ ((N : Int).tdiv 60).tmod 60 = (x2 : Int) ∧ (N : Int).tmod 60 = (x3 : Int)) ∧ ((N : Int) / 3600 = (x1 : Int) ∧ (N : Int) / 60 % 60 = (x2 : Int) ∧ (N : Int) % 60 = (x3 : Int)) := by
  have l3 : ∀ x, x ≤ 100 → (itx x 2).length ≤ 3 := fun x hx => (itx_len_le (k := 2) (m := 3) (by decide) (by decide) (by show x < 1000; omega)).2.1
  refine ⟨o.natAbs, o.natAbs / 3600, o.natAbs / 60 % 60, o.natAbs % 60, _, _, _, ho, by omega, rfl, ⟨rfl, rfl, rfl⟩, ⟨by omega, by omega, by omega⟩, ⟨l3 _ (by omega), l3 _ (by omega), l3 _ (by omega)⟩, ⟨?_, ?_, ?_⟩, rfl, rfl, rfl⟩
  · rw [Int.tdiv_eq_ediv_of_nonneg (by omega)]; rfl
  · rw [Int.tdiv_eq_ediv_of_nonneg (by omega), Int.tmod_eq_emod_of_nonneg (by omega)]; rfl
  · rw [Int.tmod_eq_emod_of_nonneg (by omega)]; rfl
theorem rvalid_lit (l : List Prt) (b : Bool) (ao : Option Addr) (cap : Nat) (w : World) (h : PtV ao cap l w) (hl : ∀ p ∈ l, p.t.length ≤ 4000) (hv : validB l = b) :
    Calls Tryz.prog 27 #[.slice ao l.length cap] w fun e w' => e = .returned (.bool b) ∧ Ext w w' := by
  rw [← hv]; exact rpvalid_c l ao cap w h hl
theorem tyOk_zero {o : Int} {tn : List UInt8} {b : Bool} (h : (decide (-93600 < o) && decide (o < 93600) && typB tn) = b) : tyOk o 0 tn = b := by
  rw [← h]; unfold tyOk; simp
theorem rtype_l (o : Int) (tn : List UInt8) (b : Bool) (w : World) (hs : tn.length ≤ 100000) (h : tyOk o 0 tn = b) : Calls Tryz.prog 29 #[.agg #[.int .i64 o, .int .i64 0, .string ⟨tn.toArray⟩]] w fun e w' => e = .returned (.bool b) ∧ Ext w w' := by
  rw [← h]; exact rtype_c o 0 tn w (by omega)
theorem rvalue_l {F : Fv} {t : Int} (hF : IsF F t) (k : Int) (v : Nat) (w : World) (h : v = valK F k) : Calls Tryz.prog 32 #[.int .i64 k, .int .i64 t] w fun e w' => e = .returned (.int .i64 (v : Int)) ∧ Ext w w' := by
  rw [h]; exact rvalue_c hF k w
theorem rtext_2 (v : Nat) (X : List UInt8) (w : World) (hv : v ≤ 100000) (h : itx v 2 = X) : Calls Tryz.prog 30 #[.int .i64 (v : Int), .int .i64 2] w fun e w' => e = .returned (.string ⟨X.toArray⟩) ∧ Ext w w' :=
  rtext_c v 2 X w hv (by omega) h
theorem rtext_w (v : Nat) (wd : Int) (X : List UInt8) (w : World) (hv : v ≤ 100000) (h1 : 0 ≤ wd) (h2 : wd ≤ 20) (h : itx v wd.toNat = X) : Calls Tryz.prog 30 #[.int .i64 (v : Int), .int .i64 wd] w fun e w' => e = .returned (.string ⟨X.toArray⟩) ∧ Ext w w' := by
  have q := rtext_c v wd.toNat X w hv (by omega) h
  rw [show ((wd.toNat : Nat) : Int) = wd by omega] at q
  exact q
theorem rlist_l (N : Nms) (k : Int) (O n : Nat) (hO : O = offK k) (hn : n = (lstK N k).length) (w : World) (hN : N.ok) : Calls Tryz.prog 33 #[.agg (sv N.all).toArray, .int .i64 k] w fun e w' => ∃ x, e = .returned x ∧ LsK N O n x w' ∧ Ext w w' := by
  rw [hO, hn]; exact rList_c N k w hN
set_option maxRecDepth 100000 in
set_option maxHeartbeats 4000000 in
theorem rformat_ok (l : List Prt) (N : Nms) (F : Fv) (o sa l0 : Int) (tn : List UInt8) (ao : Option Addr) (cap : Nat) (w : World) (h : PtV ao cap l w) (hl : ∀ p ∈ l, p.t.length ≤ 4000) (hN : N.ok) (hNl : ∀ s ∈ N.all, s.length ≤ 100000)
    (hv : validB l = true) (hn : nmOk N = true) (ho1 : -93600 < o) (ho2 : o < 93600) (htl : tn.length ≤ 100000) (ht : typB tn = true) (hF : IsF F l0) :
    Calls Tryz.prog 9 #[.slice ao l.length cap, .agg (sv N.all).toArray, .int .i64 l0, .agg #[.int .i64 o, .int .i64 sa, .string ⟨tn.toArray⟩]] w fun e w' => e = .returned (.tuple #[.string ⟨(fmtL N F o tn l).toArray⟩, .int .i64 0]) ∧ Ext w w' := by
  have hI := names_size hN
  have hR : ((w.alloc (.cells (sv N.all).toArray 27)).alloc (.cells #[.int .i64 o, .int .i64 0, .string ⟨tn.toArray⟩] 29)).rangeAt w.heap.size 0 (sv N.all) := by
    intro j v hv
    rw [World.cell?_alloc_lt _ _ _ (by simp), Nat.zero_add, World.cell?_alloc_new]
    simpa using hv
  have hEW : Ext w ((w.alloc (.cells (sv N.all).toArray 27)).alloc (.cells #[.int .i64 o, .int .i64 0, .string ⟨tn.toArray⟩] 29)) := ((Ext.refl w).alloc _).alloc _
  have t0 : ((w.alloc (.cells (sv N.all).toArray 27)).alloc (.cells #[.int .i64 o, .int .i64 0, .string ⟨tn.toArray⟩] 29)).cell? ⟨w.heap.size + 1, 0, none⟩ = some (.int .i64 o) := by
    simp
  have t1 : ((w.alloc (.cells (sv N.all).toArray 27)).alloc (.cells #[.int .i64 o, .int .i64 0, .string ⟨tn.toArray⟩] 29)).cell? ⟨w.heap.size + 1, 1, none⟩ = some (.int .i64 0) := by
    simp
  have t2 : ((w.alloc (.cells (sv N.all).toArray 27)).alloc (.cells #[.int .i64 o, .int .i64 0, .string ⟨tn.toArray⟩] 29)).cell? ⟨w.heap.size + 1, 2, none⟩ = some (.string ⟨tn.toArray⟩) := by
    simp
  have hz1 : w.heap.size < ((w.alloc (.cells (sv N.all).toArray 27)).alloc (.cells #[.int .i64 o, .int .i64 0, .string ⟨tn.toArray⟩] 29)).heap.size := by simp; omega
  have hz2 : w.heap.size + 1 < ((w.alloc (.cells (sv N.all).toArray 27)).alloc (.cells #[.int .i64 o, .int .i64 0, .string ⟨tn.toArray⟩] 29)).heap.size := by simp
  have hins := insT_iff.1 hF.insT
  obtain ⟨r1, r2⟩ := hins
  have Hv := Lib.hid hv
  have Hn := Lib.hid hn
  have Ht := Lib.hid ht
  have Hty : Hid (tyOk o 0 tn = true) := tyOk_zero (by rw [decide_eq_true ho1, decide_eq_true ho2, ht]; rfl)
  have Hl := Lib.hid hl
  have HN := Lib.hid hN
  have HNl := Lib.hid hNl
  have HF := Lib.hid hF
  have Hpt := Lib.hid h
  clear hv hn ht hl hN hNl hF h
  go_enter Tryz.func9, Tryz.ntmps9
  go_upto_region 2 with fail
  generalize (w.alloc (.cells (sv N.all).toArray 27)).alloc (.cells #[.int .i64 o, .int .i64 0, .string ⟨tn.toArray⟩] 29) = W0 at hR hEW t0 t1 t2 hz1 hz2 ⊢
  generalize w.heap.size + 1 = T at t0 t1 t2 hz2 ⊢
  generalize hB : w.heap.size = B at hR hz1 ⊢
  have HB := Lib.hid hB
  clear hB
  go_upto_region 4 with (first
    | (go_at_call 27; (with_reducible refine (rvalid_lit l true ao cap _ (Hpt.out.ext hEW) Hl.out Hv.out).mono ?_); rintro e w1 ⟨rfl, hE1⟩; have hR1 := rangeAt_ext hR hz1 hE1)
    | (refine wpList_load_midg (by rfl) 27 _ rfl B 0 rfl (sv N.all) _ hR1 Tryz.underlying27 rfl hI ?_)
    | (go_at_call 28; (with_reducible refine (rvalidnames_c N true HN.out _ HNl.out Hn.out).mono ?_); rintro e w2 ⟨rfl, hE2⟩; have t0b := ((hE1.trans hE2).cells _ _ hz2).trans t0; have t1b := ((hE1.trans hE2).cells _ _ hz2).trans t1; have t2b := ((hE1.trans hE2).cells _ _ hz2).trans t2)
    | (go_at_call 29; (with_reducible refine (rtype_l o tn true _ htl Hty.out).mono ?_); rintro e w3 ⟨rfl, hE3⟩))
  have hE02 := (hE1.trans hE2).trans hE3
  have hR2 := rangeAt_ext (rangeAt_ext hR1 (hE1.lt hz1) hE2) ((hE1.trans hE2).lt hz1) hE3
  have hB2 := hE02.lt hz1
  have hT2 := hE02.lt hz2
  have t0c := (hE3.cells _ _ ((hE1.trans hE2).lt hz2)).trans t0b
  have t2c := (hE3.cells _ _ ((hE1.trans hE2).lt hz2)).trans t2b
  have h40 : l.length ≤ 40 := by
    have := Hv.out
    unfold validB at this
    simp only [Bool.and_eq_true, decide_eq_true_eq] at this
    exact this.1
  have HP : Hid (∀ p ∈ l, partB p = true) := by
    have := Hv.out
    unfold validB at this
    simp only [Bool.and_eq_true, decide_eq_true_eq] at this
    exact tailB_all l none this.2
  have hlen := Hpt.out.1
  have hcap := Hpt.out.2.1
  unfold maxLen at hcap
  have hEw2 := hEW.trans hE02
  have Hpt2 := Lib.hid (Hpt.out.ext hEw2)
  have ho : o.natAbs < 93600 := by omega
  clear hR hR1 hE1 hE2 hE3 hE02 t0 t1 t2 t0b t1b t2b hz1 hz2 hEW Hpt
  generalize W0.heap.size = z0 at *
  go_wp2_with fail
  go_loopw [10, 11] (fun out i wr => ∃ (j : Nat) (L : List UInt8), j ≤ l.length ∧ i = .int .i64 (j : Int) ∧ out = .string ⟨L.toArray⟩ ∧ Hid (L = fmtL N F o tn (l.take j)) ∧ L.length ≤ 200 * j ∧ Ext w3 wr) (fun _ i _ => l.length - (intOf i).toNat)
  case atStart => exact ⟨0, [], Nat.zero_le _, rfl, rfl, rfl, Nat.le_refl _, Ext.refl _⟩
  case round =>
    obtain ⟨j, L, hj, rfl, rfl, HL, hLl, hE⟩ := hrel
    have t0r := (hE.cells _ _ hT2).trans t0c
    have t2r := (hE.cells _ _ hT2).trans t2c
    have hTr := hE.lt hT2
    by_cases hlt : j < l.length
    · obtain ⟨R, off, rfl, hR0, hc⟩ := Hpt2.out.2.2 (by rintro rfl; simp at hlt)
      have hRr := hE.lt hR0
      obtain ⟨c0, c1, c2⟩ := hc j hlt
      replace c0 := (hE.cells R _ hR0).trans c0
      replace c1 := (hE.cells R _ hR0).trans c1
      replace c2 := (hE.cells R _ hR0).trans c2
      have hp := HP.out l[j] (List.getElem_mem _)
      have HS : Hid (fmtL N F o tn (l.take (j + 1)) = fmtL N F o tn (l.take j) ++ fmt1 N F o tn l[j]) := by
        unfold Hid fmtL
        rw [List.take_succ_eq_append_getElem hlt, List.flatMap_append]
        simp
      have hfl := fmt1_len (N := N) (F := F) (o := o) (tn := tn) HN.out Hn.out HF.out.ok ho Ht.out hp
      obtain ⟨p, hpp⟩ : ∃ p, p = l[j] := ⟨_, rfl⟩
      rw [← hpp] at c0 c1 c2 hp HS hfl
      clear hpp hc
      have hkk := kinds p hp
      have Hp := Lib.hid hp
      obtain ⟨k, wd, t⟩ := p
      simp only at c0 c1 c2 hkk
      clear hp
      obtain ⟨X, hX⟩ : ∃ X, X = fmt1 N F o tn ⟨k, wd, t⟩ := ⟨_, rfl⟩
      rw [← hX] at HS hfl
      have HX := Lib.hid hX
      clear hX
      have HLn : Hid (L ++ X = fmtL N F o tn (l.take (j + 1))) := by rw [Hid, HS.out, HL.out]
      have hLX : L.length + X.length ≤ 100000 := by omega
      have hLX2 : ¬ 9223372036854775807 < L.length + X.length := by omega
      have hEp : Ext w3 (wr.alloc (.cells #[.int .i64 k, .int .i64 wd, .string ⟨t.toArray⟩] 51)) := hE.trans ((Ext.refl wr).alloc _)
      rcases hkk with hk | hk | hk | hk | hk
      · subst hk
        have hXt : X = t := by rw [HX.out]; rfl
        subst hXt
        go_wp2_with fail
        go_roundw
        case rel => exact ⟨j + 1, L ++ X, by omega, by go_num, by rw [app_str], HLn, by rw [List.length_append]; omega, hEp⟩
        case measure => simp [intOf]; omega
      · subst hk
        have hXt : offT o = X := by rw [HX.out]; rfl
        obtain ⟨N', x1, x2, x3, L1, L2, L3, hN', hneg, hoff, ⟨i1, i2, i3⟩, ⟨u1, u2, u3⟩, ⟨v1, v2, v3⟩, ⟨q1, q2, q3⟩, ⟨p1, p2, p3⟩⟩ := off_data o ho
        rw [hoff] at hXt
        have A1 := Lib.hid i1
        have A2 := Lib.hid i2
        have A3 := Lib.hid i3
        have hL0 : L.length ≤ 50000 := by omega
        clear hoff i1 i2 i3
        rcases hneg with ⟨hs, hno⟩ | ⟨hs, hno⟩
        · have hno2 : -o = (N' : Int) := by omega
          rw [if_pos hs] at hXt
          by_cases h3 : x3 = 0
          · rw [if_pos h3, List.append_nil] at hXt
            have t3 : ((x3 : Int) != 0) = false := by simp [h3]
            have HXt := Lib.hid hXt
            clear hXt h3
            go_wp2_with (first
              | (go_at_call 30; (with_reducible refine (rtext_2 x1 L1 _ (by omega) A1.out).mono ?_); rintro e w4 ⟨rfl, hE4⟩)
              | (go_at_call 30; (with_reducible refine (rtext_2 x2 L2 _ (by omega) A2.out).mono ?_); rintro e w5 ⟨rfl, hE5⟩)
              | (go_at_call 30; (with_reducible refine (rtext_2 x3 L3 _ (by omega) A3.out).mono ?_); rintro e w6 ⟨rfl, hE6⟩))
            go_roundw
            case rel => exact ⟨j + 1, L ++ X, by omega, by go_num, by rw [← HXt.out]; exact congrArg Value.string (by apply ByteArray.ext; simp), HLn, by rw [List.length_append]; omega, hEp.trans (hE4.trans hE5)⟩
            case measure => simp [intOf]; omega
          · rw [if_neg h3] at hXt
            have t3 : ((x3 : Int) != 0) = true := by simp [h3]
            have HXt := Lib.hid hXt
            clear hXt h3
            go_wp2_with (first
              | (go_at_call 30; (with_reducible refine (rtext_2 x1 L1 _ (by omega) A1.out).mono ?_); rintro e w4 ⟨rfl, hE4⟩)
              | (go_at_call 30; (with_reducible refine (rtext_2 x2 L2 _ (by omega) A2.out).mono ?_); rintro e w5 ⟨rfl, hE5⟩)
              | (go_at_call 30; (with_reducible refine (rtext_2 x3 L3 _ (by omega) A3.out).mono ?_); rintro e w6 ⟨rfl, hE6⟩))
            go_roundw
            case rel => exact ⟨j + 1, L ++ X, by omega, by go_num, by rw [← HXt.out]; exact congrArg Value.string (by apply ByteArray.ext; simp), HLn, by rw [List.length_append]; omega, hEp.trans (hE4.trans (hE5.trans hE6))⟩
            case measure => simp [intOf]; omega
        · rw [if_neg hs] at hXt
          rw [← hno] at q1 q2 q3 p1 p2 p3
          have ho0 : 0 ≤ o := by omega
          clear hno
          by_cases h3 : x3 = 0
          · rw [if_pos h3, List.append_nil] at hXt
            have t3 : ((x3 : Int) != 0) = false := by simp [h3]
            have HXt := Lib.hid hXt
            clear hXt h3
            go_wp2_with (first
              | (go_at_call 30; (with_reducible refine (rtext_2 x1 L1 _ (by omega) A1.out).mono ?_); rintro e w4 ⟨rfl, hE4⟩)
              | (go_at_call 30; (with_reducible refine (rtext_2 x2 L2 _ (by omega) A2.out).mono ?_); rintro e w5 ⟨rfl, hE5⟩)
              | (go_at_call 30; (with_reducible refine (rtext_2 x3 L3 _ (by omega) A3.out).mono ?_); rintro e w6 ⟨rfl, hE6⟩))
            go_roundw
            case rel => exact ⟨j + 1, L ++ X, by omega, by go_num, by rw [← HXt.out]; exact congrArg Value.string (by apply ByteArray.ext; simp), HLn, by rw [List.length_append]; omega, hEp.trans (hE4.trans hE5)⟩
            case measure => simp [intOf]; omega
          · rw [if_neg h3] at hXt
            have t3 : ((x3 : Int) != 0) = true := by simp [h3]
            have HXt := Lib.hid hXt
            clear hXt h3
            go_wp2_with (first
              | (go_at_call 30; (with_reducible refine (rtext_2 x1 L1 _ (by omega) A1.out).mono ?_); rintro e w4 ⟨rfl, hE4⟩)
              | (go_at_call 30; (with_reducible refine (rtext_2 x2 L2 _ (by omega) A2.out).mono ?_); rintro e w5 ⟨rfl, hE5⟩)
              | (go_at_call 30; (with_reducible refine (rtext_2 x3 L3 _ (by omega) A3.out).mono ?_); rintro e w6 ⟨rfl, hE6⟩))
            go_roundw
            case rel => exact ⟨j + 1, L ++ X, by omega, by go_num, by rw [← HXt.out]; exact congrArg Value.string (by apply ByteArray.ext; simp), HLn, by rw [List.length_append]; omega, hEp.trans (hE4.trans (hE5.trans hE6))⟩
            case measure => simp [intOf]; omega
      · subst hk
        have hXt : X = tn := by rw [HX.out]; rfl
        subst hXt
        go_wp2_with fail
        go_roundw
        case rel => exact ⟨j + 1, L ++ X, by omega, by go_num, by rw [app_str], HLn, by rw [List.length_append]; omega, hEp⟩
        case measure => simp [intOf]; omega
      · obtain ⟨n1, n2, n3⟩ := num_not hk
        obtain ⟨w1, w2⟩ := num_width Hp.out hk
        have hz : fullZ k ≤ 4 := by unfold fullZ; split <;> (try split) <;> omega
        have hXt : itx (valK F k) wd.toNat = X := by rw [HX.out]; unfold fmt1; rw [if_neg n1, if_neg n2, if_neg n3, if_pos hk]
        have hval := num_val HF.out.ok hk
        obtain ⟨v, hv⟩ : ∃ v, v = valK F k := ⟨_, rfl⟩
        rw [← hv] at hXt hval
        have HV := Lib.hid hv
        have HXt := Lib.hid hXt
        have hv1 : v ≤ 100000 := by
          have : (10 : Nat) ^ (fullZ k).toNat ≤ 10 ^ 4 := Nat.pow_le_pow_right (by decide) (by omega)
          omega
        have b1 : (k == 1) = false := by simpa using n1
        have b2 : (k == 14) = false := by simpa using n2
        have b3 : (k == 15) = false := by simpa using n3
        obtain ⟨f, hf⟩ : ∃ f, fullZ k = f := ⟨_, rfl⟩
        rw [hf] at hk hz w2
        have Hf := Lib.hid hf
        clear hval hXt hv hf n1 n2 n3
        go_upto_region 26 with (first
          | (go_at_call 31; (with_reducible refine (rFul_c k f _ Hf.out).mono ?_); rintro e w4 ⟨rfl, rfl⟩))
        have y0 : (wr.alloc (.cells #[.int .i64 k, .int .i64 wd, .string ⟨t.toArray⟩] 51)).cell? ⟨wr.heap.size, 0, none⟩ = some (.int .i64 k) := by rw [World.cell?_alloc_new]; rfl
        have y1 : (wr.alloc (.cells #[.int .i64 k, .int .i64 wd, .string ⟨t.toArray⟩] 51)).cell? ⟨wr.heap.size, 1, none⟩ = some (.int .i64 wd) := by rw [World.cell?_alloc_new]; rfl
        have yz : wr.heap.size < (wr.alloc (.cells #[.int .i64 k, .int .i64 wd, .string ⟨t.toArray⟩] 51)).heap.size := by simp
        generalize wr.alloc (.cells #[.int .i64 k, .int .i64 wd, .string ⟨t.toArray⟩] 51) = V at hEp y0 y1 yz ⊢
        generalize wr.heap.size = D at y0 y1 yz ⊢
        first
          | (go_region_held3 (fun w' => w'.cell? ⟨D, 0, none⟩ = some (.int .i64 k) ∧ w'.cell? ⟨D, 1, none⟩ = some (.int .i64 wd) ∧ D < w'.heap.size) (first | go_keep | exact S1.out | exact S2.out)
              (first
                | (go_at_call 32; (with_reducible refine (rvalue_l HF.out k v _ HV.out).mono ?_); rintro e w5 ⟨rfl, hE5⟩; have S1 := Lib.hid (show w5.cell? ⟨D, 0, none⟩ = some (.int .i64 k) ∧ w5.cell? ⟨D, 1, none⟩ = some (.int .i64 wd) ∧ D < w5.heap.size from ⟨(hE5.cells _ _ yz).trans y0, (hE5.cells _ _ yz).trans y1, hE5.lt yz⟩))
                | (go_at_call 30; (with_reducible refine (rtext_w v wd X _ hv1 (by omega) (by omega) HXt.out).mono ?_); rintro e w6 ⟨rfl, hE6⟩; have S2 := Lib.hid (show w6.cell? ⟨D, 0, none⟩ = some (.int .i64 k) ∧ w6.cell? ⟨D, 1, none⟩ = some (.int .i64 wd) ∧ D < w6.heap.size from ⟨(hE6.cells _ _ S1.out.2.2).trans S1.out.1, (hE6.cells _ _ S1.out.2.2).trans S1.out.2.1, hE6.lt S1.out.2.2⟩))))
          | fail "region"
        all_goals
          go_wp2_with fail
          go_roundw
          case rel => exact ⟨j + 1, L ++ X, by omega, by go_num, by rw [app_str], HLn, by rw [List.length_append]; omega, hEp.trans ((Ext.refl V).drew.trans (hE5.trans hE6))⟩
          case measure => simp [intOf]; omega
      · have HKK := Lib.hid hk
        obtain ⟨n1, n2, n3, n4⟩ := nam_not hk
        have hvn := names_len N HN.out F HF.out.ok k hk
        have hXt : X = (lstK N k)[valK F k] := by rw [HX.out]; unfold fmt1; rw [if_neg n1, if_neg n2, if_neg n3, if_neg n4]; simp [List.getD, hvn]
        have HNM : Hid (∀ (B' : Nat) (W : World), RdS N.all B' 0 W → W.cell? ⟨B', offK k + valK F k, none⟩ = some (.string ⟨X.toArray⟩)) := fun B' W h => by
          have := (names_at HN.out h hk).2 (valK F k) hvn
          rw [this, hXt]
        obtain ⟨n, hn⟩ : ∃ n, n = (lstK N k).length := ⟨_, rfl⟩
        obtain ⟨O, hO⟩ : ∃ O, O = offK k := ⟨_, rfl⟩
        obtain ⟨v, hv⟩ : ∃ v, v = valK F k := ⟨_, rfl⟩
        have HV := Lib.hid hv
        have HNN := Lib.hid hn
        have HOO := Lib.hid hO
        rw [← hO, ← hv] at HNM
        rw [← hn, ← hv] at hvn
        have hvn2 : (v : Int) < (n : Int) := by omega
        have b1 : (k == 1) = false := by simpa using n1
        have b2 : (k == 14) = false := by simpa using n2
        have b3 : (k == 15) = false := by simpa using n3
        have Hf : Hid (fullZ k = 0) := by have := fullZ_nonneg k; unfold Hid; omega
        clear hXt hn hO hv n1 n2 n3 n4 hk
        go_upto_region 11 with (first
          | (go_at_call 31; (with_reducible refine (rFul_c k 0 _ Hf.out).mono ?_); rintro e w4 ⟨rfl, rfl⟩))
        have y0 : (wr.alloc (.cells #[.int .i64 k, .int .i64 wd, .string ⟨t.toArray⟩] 51)).cell? ⟨wr.heap.size, 0, none⟩ = some (.int .i64 k) := by rw [World.cell?_alloc_new]; rfl
        have yz : wr.heap.size < (wr.alloc (.cells #[.int .i64 k, .int .i64 wd, .string ⟨t.toArray⟩] 51)).heap.size := by simp
        have yR := rangeAt_ext hR2 hB2 hEp
        have yB := hEp.lt hB2
        generalize wr.alloc (.cells #[.int .i64 k, .int .i64 wd, .string ⟨t.toArray⟩] 51) = V at hEp y0 yz yR yB ⊢
        generalize wr.heap.size = D at y0 yz ⊢
        refine wp_region_grow [45, 46, 47, 48, 49, 50, 51, 52, 53, 54, 55, 56] [fun x _ => x = .string ⟨L.toArray⟩, fun x _ => x = .agg (sv N.all).toArray, fun x _ => x = .pointer (some ⟨D, 0, none⟩), fun x _ => x = .int .i64 k, LsK N O n, fun x _ => x = .pointer (some ⟨D, 0, none⟩), fun x _ => x = .int .i64 k, fun x _ => x = .int .i64 l0, fun x _ => x = .int .i64 (v : Int), LsP N (O + v), fun x _ => x = .string ⟨X.toArray⟩, fun x _ => x = .string (⟨L.toArray⟩ ++ ⟨X.toArray⟩)] 1 (by kernel_rfl) (by kernel_rfl) (by kernel_rfl) (by kernel_rfl) ?_ ?_ ?_
        · intro R hR
          simp only [List.mem_cons, List.not_mem_nil, or_false] at hR
          rcases hR with rfl | rfl | rfl | rfl | rfl | rfl | rfl | rfl | rfl | rfl | rfl | rfl
          all_goals first
            | exact fun _ _ _ h _ => h
            | exact fun _ _ _ h hE => LsK.ext h hE
            | exact fun _ _ _ h hE => LsP.ext h hE
        · refine ⟨?_, ?_, ?_, ?_, ?_, ?_, ?_, ?_, ?_, ?_, ?_, ?_, trivial⟩
          all_goals intro a w hE hF hD K hK
          · exact gs_val rfl (yr_move rfl ((hF 10 (fr_of rfl)).trans rfl)) (hK _ _ rfl (Ext.refl _))
          · exact gs_val rfl (yr_load rfl ((hF 5 (fr_of rfl)).trans rfl) (run_loadAt_mid w B 0 _ _ _ (rangeAt_ext yR yB hE) Tryz.underlying27 rfl hI)) (hK _ _ rfl (Ext.refl _))
          · exact gs_val rfl (yr_field rfl ((hF 12 (fr_of rfl)).trans rfl) (by go_simp)) (hK _ _ rfl (Ext.refl _))
          · have h1 : a.eval (.tmp 47) = .pointer (some ⟨D, 0, none⟩) := hD 2 (by kernel_rfl)
            exact gs_val rfl (yr_load rfl h1 (ld_int _ _ _ ((hE.cells _ _ yz).trans y0))) (hK _ _ rfl (Ext.refl _))
          · have h1 : a.eval (.tmp 46) = .agg (sv N.all).toArray := hD 1 (by kernel_rfl)
            have h2 : a.eval (.tmp 48) = .int .i64 k := hD 3 (by kernel_rfl)
            exact gs_call rfl (yr_call rfl rfl (show (#[Operand.tmp 46, Operand.tmp 48] : Array Operand).map a.eval = #[.agg (sv N.all).toArray, .int .i64 k] by simp [h1, h2]) (by kernel_rfl)) (rlist_l N k O n HOO.out HNN.out w HN.out) hK
          · exact gs_val rfl (yr_field rfl ((hF 12 (fr_of rfl)).trans rfl) (by go_simp)) (hK _ _ rfl (Ext.refl _))
          · have h1 : a.eval (.tmp 50) = .pointer (some ⟨D, 0, none⟩) := hD 5 (by kernel_rfl)
            exact gs_val rfl (yr_load rfl h1 (ld_int _ _ _ ((hE.cells _ _ yz).trans y0))) (hK _ _ rfl (Ext.refl _))
          · exact gs_val rfl (yr_move rfl ((hF 2 (fr_of rfl)).trans rfl)) (hK _ _ rfl (Ext.refl _))
          · have h1 : a.eval (.tmp 51) = .int .i64 k := hD 6 (by kernel_rfl)
            have h2 : a.eval (.tmp 52) = .int .i64 l0 := hD 7 (by kernel_rfl)
            exact gs_call rfl (yr_call rfl rfl (show (#[Operand.tmp 51, Operand.tmp 52] : Array Operand).map a.eval = #[.int .i64 k, .int .i64 l0] by simp [h1, h2]) (by kernel_rfl)) ((rvalue_l HF.out k v w HV.out).mono fun e w' ⟨h1, h2⟩ => ⟨_, h1, rfl, h2⟩) hK
          · have h1 : LsK N O n (a.eval (.tmp 49)) w := hD 4 (by kernel_rfl)
            have h2 : a.eval (.tmp 53) = .int .i64 (v : Int) := hD 8 (by kernel_rfl)
            obtain ⟨B5, e1, e2⟩ := h1
            exact gs_val rfl (yr_idxa rfl e1 h2 (ix_str B5 O n v w (by omega))) (hK _ _ ⟨B5, rfl, e2⟩ (Ext.refl _))
          · have h1 : LsP N (O + v) (a.eval (.tmp 54)) w := hD 9 (by kernel_rfl)
            obtain ⟨B5, e1, e2⟩ := h1
            exact gs_val rfl (yr_load rfl e1 (ld_str _ _ _ (HNM.out B5 w e2))) (hK _ _ rfl (Ext.refl _))
          · have h1 : a.eval (.tmp 45) = .string ⟨L.toArray⟩ := hD 0 (by kernel_rfl)
            have h2 : a.eval (.tmp 55) = .string ⟨X.toArray⟩ := hD 10 (by kernel_rfl)
            exact gs_val rfl (yr_adds rfl h1 h2 (show L.toArray.size + X.toArray.size ≤ _ by simp; omega)) (hK _ _ rfl (Ext.refl _))
        · intro vals w6 hE6 hR
          obtain ⟨h0, h1, h2, h3, -, h5, h6, h7, h8, -, h10, h11, -⟩ := hR
          have e11 : vals 11 = .string (⟨L.toArray⟩ ++ ⟨X.toArray⟩) := h11
          simp only [putF, Act.put, List.length_cons, List.length_nil, List.getD_cons_zero, List.getD_cons_succ, List.setIfInBounds_toArray, List.set_cons_zero, List.set_cons_succ, Nat.reduceAdd]
          refine wpAny_one (i := 12) (v := .string (⟨L.toArray⟩ ++ ⟨X.toArray⟩)) (w' := w6) (by kernel_rfl) rfl (by rfl) (by exact yr_assign rfl e11) ?_
          refine wpAny_done (by kernel_rfl) ?_ _
          simp only [Act.put, List.setIfInBounds_toArray, List.set_cons_zero, List.set_cons_succ]
          go_wp2_with fail
          go_roundw
          case rel => exact ⟨j + 1, L ++ X, by omega, by go_num, by rw [app_str], HLn, by rw [List.length_append]; omega, hEp.trans hE6⟩
          case measure => simp [intOf]; omega
    · obtain rfl : j = l.length := by omega
      have HV : Hid (L = fmtL N F o tn l) := by rw [Hid, HL.out, List.take_length]
      go_wp2_with fail
      go_ret2
      exact ⟨by rw [HV.out]; rfl, hEw2.trans hE⟩
end Go.Proofs.YticckkadmhklmaaGreat
/- The reference's Format, where something is not valid. -/
namespace Go.Proofs.YticckkadmhklmaaGreat
set_option linter.unusedVariables false
set_option linter.unusedSimpArgs false
open Go.RowKit Go.Maps

set_option maxRecDepth 100000 in
set_option maxHeartbeats 2000000 in
theorem rformat_e (l : List Prt) (N : Nms) (o sa l0 : Int) (tn : List UInt8) (ao : Option Addr) (cap : Nat) (w : World) (h : PtV ao cap l w) (hl : ∀ p ∈ l, p.t.length ≤ 4000) (hN : N.ok) (hNl : ∀ s ∈ N.all, s.length ≤ 100000)
    (htl : tn.length ≤ 100000) (hbad : ¬ (validB l = true ∧ nmOk N = true ∧ -93600 < o ∧ o < 93600 ∧ typB tn = true ∧ -62135596800 ≤ l0 ∧ l0 < 253402300800)) :
    Calls Tryz.prog 9 #[.slice ao l.length cap, .agg (sv N.all).toArray, .int .i64 l0, .agg #[.int .i64 o, .int .i64 sa, .string ⟨tn.toArray⟩]] w fun e w' => e = .returned (.tuple #[.string .empty, .int .i64 (fmtE l N o tn)]) ∧ Ext w w' := by
  have hI := names_size hN
  have hR : ((w.alloc (.cells (sv N.all).toArray 27)).alloc (.cells #[.int .i64 o, .int .i64 0, .string ⟨tn.toArray⟩] 29)).rangeAt w.heap.size 0 (sv N.all) := by
    intro j v hv
    rw [World.cell?_alloc_lt _ _ _ (by simp), Nat.zero_add, World.cell?_alloc_new]
    simpa using hv
  have hEW : Ext w ((w.alloc (.cells (sv N.all).toArray 27)).alloc (.cells #[.int .i64 o, .int .i64 0, .string ⟨tn.toArray⟩] 29)) := ((Ext.refl w).alloc _).alloc _
  have t0 : ((w.alloc (.cells (sv N.all).toArray 27)).alloc (.cells #[.int .i64 o, .int .i64 0, .string ⟨tn.toArray⟩] 29)).cell? ⟨w.heap.size + 1, 0, none⟩ = some (.int .i64 o) := by
    simp
  have t1 : ((w.alloc (.cells (sv N.all).toArray 27)).alloc (.cells #[.int .i64 o, .int .i64 0, .string ⟨tn.toArray⟩] 29)).cell? ⟨w.heap.size + 1, 1, none⟩ = some (.int .i64 0) := by
    simp
  have t2 : ((w.alloc (.cells (sv N.all).toArray 27)).alloc (.cells #[.int .i64 o, .int .i64 0, .string ⟨tn.toArray⟩] 29)).cell? ⟨w.heap.size + 1, 2, none⟩ = some (.string ⟨tn.toArray⟩) := by
    simp
  have hz1 : w.heap.size < ((w.alloc (.cells (sv N.all).toArray 27)).alloc (.cells #[.int .i64 o, .int .i64 0, .string ⟨tn.toArray⟩] 29)).heap.size := by simp; omega
  have hz2 : w.heap.size + 1 < ((w.alloc (.cells (sv N.all).toArray 27)).alloc (.cells #[.int .i64 o, .int .i64 0, .string ⟨tn.toArray⟩] 29)).heap.size := by simp
  have Hl := Lib.hid hl
  have HN := Lib.hid hN
  have HNl := Lib.hid hNl
  have Hpt := Lib.hid h
  clear hl hN hNl h
  obtain ⟨b1, hv⟩ : ∃ b, validB l = b := ⟨_, rfl⟩
  obtain ⟨b2, hn⟩ : ∃ b, nmOk N = b := ⟨_, rfl⟩
  obtain ⟨b3, ht⟩ : ∃ b, (decide (-93600 < o) && decide (o < 93600) && typB tn) = b := ⟨_, rfl⟩
  have Hv := Lib.hid hv
  have Hn := Lib.hid hn
  have Hty : Hid (tyOk o 0 tn = b3) := tyOk_zero ht
  have HE : Hid (fmtE l N o tn = if b1 = true ∧ b2 = true ∧ b3 = true then 2 else 1) := by
    unfold Hid fmtE
    rw [hv, hn]
    have : (b1 = true ∧ b2 = true ∧ -93600 < o ∧ o < 93600 ∧ typB tn = true) ↔ (b1 = true ∧ b2 = true ∧ b3 = true) := by
      rw [← ht]; simp only [Bool.and_eq_true, decide_eq_true_eq]
      constructor
      · rintro ⟨a, b, c, d, e⟩; exact ⟨a, b, ⟨c, d⟩, e⟩
      · rintro ⟨a, b, ⟨c, d⟩, e⟩; exact ⟨a, b, c, d, e⟩
    by_cases q : b1 = true ∧ b2 = true ∧ b3 = true
    · rw [if_pos q, if_pos (this.2 q)]
    · rw [if_neg q, if_neg (fun e => q (this.1 e))]
  have HB : Hid (b1 = true → b2 = true → b3 = true → ¬ (-62135596800 ≤ l0 ∧ l0 < 253402300800)) := fun e1 e2 e3 q => hbad (by
    rw [e3] at ht
    simp only [Bool.and_eq_true, decide_eq_true_eq] at ht
    exact ⟨hv.trans e1, hn.trans e2, ht.1.1, ht.1.2, ht.2, q⟩)
  clear hbad hv hn ht
  cases b1 with
  | false =>
    have HE2 : Hid (fmtE l N o tn = 1) := HE.out
    go_enter Tryz.func9, Tryz.ntmps9
    go_upto_region 2 with fail
    generalize (w.alloc (.cells (sv N.all).toArray 27)).alloc (.cells #[.int .i64 o, .int .i64 0, .string ⟨tn.toArray⟩] 29) = W0 at hR hEW t0 t1 t2 hz1 hz2 ⊢
    generalize w.heap.size + 1 = T at t0 t1 t2 hz2 ⊢
    generalize hB : w.heap.size = B at hR hz1 ⊢
    have HB2 := Lib.hid hB
    clear hB
    go_wp2_with (first
      | (go_at_call 27; (with_reducible refine (rvalid_lit l false ao cap _ (Hpt.out.ext hEW) Hl.out Hv.out).mono ?_); rintro e w1 ⟨rfl, hE1⟩; have hEE := hEW.trans hE1; have hR1 := rangeAt_ext hR hz1 hE1)
      | (refine wpList_load_midg (by rfl) 27 _ rfl B 0 rfl (sv N.all) _ hR1 Tryz.underlying27 rfl hI ?_)
      | (go_at_call 28; (with_reducible refine (rvalidnames_c N b2 HN.out _ HNl.out Hn.out).mono ?_); rintro e w2 ⟨rfl, hE2⟩; have hEE := hEW.trans (hE1.trans hE2); have t0b := ((hE1.trans hE2).cells _ _ hz2).trans t0; have t1b := ((hE1.trans hE2).cells _ _ hz2).trans t1; have t2b := ((hE1.trans hE2).cells _ _ hz2).trans t2)
      | (go_at_call 29; (with_reducible refine (rtype_l o tn b3 _ htl Hty.out).mono ?_); rintro e w3 ⟨rfl, hE3⟩; have hEE := hEW.trans ((hE1.trans hE2).trans hE3)))
    go_ret2
    exact ⟨by rw [HE2.out]; rfl, hEE⟩
  | true =>
    cases b2 with
    | false =>
      have HE2 : Hid (fmtE l N o tn = 1) := HE.out
      go_enter Tryz.func9, Tryz.ntmps9
      go_upto_region 2 with fail
      generalize (w.alloc (.cells (sv N.all).toArray 27)).alloc (.cells #[.int .i64 o, .int .i64 0, .string ⟨tn.toArray⟩] 29) = W0 at hR hEW t0 t1 t2 hz1 hz2 ⊢
      generalize w.heap.size + 1 = T at t0 t1 t2 hz2 ⊢
      generalize hB : w.heap.size = B at hR hz1 ⊢
      have HB2 := Lib.hid hB
      clear hB
      go_wp2_with (first
        | (go_at_call 27; (with_reducible refine (rvalid_lit l true ao cap _ (Hpt.out.ext hEW) Hl.out Hv.out).mono ?_); rintro e w1 ⟨rfl, hE1⟩; have hEE := hEW.trans hE1; have hR1 := rangeAt_ext hR hz1 hE1)
        | (refine wpList_load_midg (by rfl) 27 _ rfl B 0 rfl (sv N.all) _ hR1 Tryz.underlying27 rfl hI ?_)
        | (go_at_call 28; (with_reducible refine (rvalidnames_c N false HN.out _ HNl.out Hn.out).mono ?_); rintro e w2 ⟨rfl, hE2⟩; have hEE := hEW.trans (hE1.trans hE2); have t0b := ((hE1.trans hE2).cells _ _ hz2).trans t0; have t1b := ((hE1.trans hE2).cells _ _ hz2).trans t1; have t2b := ((hE1.trans hE2).cells _ _ hz2).trans t2)
        | (go_at_call 29; (with_reducible refine (rtype_l o tn b3 _ htl Hty.out).mono ?_); rintro e w3 ⟨rfl, hE3⟩; have hEE := hEW.trans ((hE1.trans hE2).trans hE3)))
      go_ret2
      exact ⟨by rw [HE2.out]; rfl, hEE⟩
    | true =>
      cases b3 with
      | false =>
        have HE2 : Hid (fmtE l N o tn = 1) := HE.out
        go_enter Tryz.func9, Tryz.ntmps9
        go_upto_region 2 with fail
        generalize (w.alloc (.cells (sv N.all).toArray 27)).alloc (.cells #[.int .i64 o, .int .i64 0, .string ⟨tn.toArray⟩] 29) = W0 at hR hEW t0 t1 t2 hz1 hz2 ⊢
        generalize w.heap.size + 1 = T at t0 t1 t2 hz2 ⊢
        generalize hB : w.heap.size = B at hR hz1 ⊢
        have HB2 := Lib.hid hB
        clear hB
        go_wp2_with (first
          | (go_at_call 27; (with_reducible refine (rvalid_lit l true ao cap _ (Hpt.out.ext hEW) Hl.out Hv.out).mono ?_); rintro e w1 ⟨rfl, hE1⟩; have hEE := hEW.trans hE1; have hR1 := rangeAt_ext hR hz1 hE1)
          | (refine wpList_load_midg (by rfl) 27 _ rfl B 0 rfl (sv N.all) _ hR1 Tryz.underlying27 rfl hI ?_)
          | (go_at_call 28; (with_reducible refine (rvalidnames_c N true HN.out _ HNl.out Hn.out).mono ?_); rintro e w2 ⟨rfl, hE2⟩; have hEE := hEW.trans (hE1.trans hE2); have t0b := ((hE1.trans hE2).cells _ _ hz2).trans t0; have t1b := ((hE1.trans hE2).cells _ _ hz2).trans t1; have t2b := ((hE1.trans hE2).cells _ _ hz2).trans t2)
          | (go_at_call 29; (with_reducible refine (rtype_l o tn false _ htl Hty.out).mono ?_); rintro e w3 ⟨rfl, hE3⟩; have hEE := hEW.trans ((hE1.trans hE2).trans hE3)))
        go_ret2
        exact ⟨by rw [HE2.out]; rfl, hEE⟩
      | true =>
        have HE2 : Hid (fmtE l N o tn = 2) := HE.out
        have hr := HB.out rfl rfl rfl
        by_cases r1 : -62135596800 ≤ l0
        · have r2 : ¬ l0 < 253402300800 := fun q => hr ⟨r1, q⟩
          clear hr
          go_enter Tryz.func9, Tryz.ntmps9
          go_upto_region 2 with fail
          generalize (w.alloc (.cells (sv N.all).toArray 27)).alloc (.cells #[.int .i64 o, .int .i64 0, .string ⟨tn.toArray⟩] 29) = W0 at hR hEW t0 t1 t2 hz1 hz2 ⊢
          generalize w.heap.size + 1 = T at t0 t1 t2 hz2 ⊢
          generalize hB : w.heap.size = B at hR hz1 ⊢
          have HB2 := Lib.hid hB
          clear hB
          go_wp2_with (first
            | (go_at_call 27; (with_reducible refine (rvalid_lit l true ao cap _ (Hpt.out.ext hEW) Hl.out Hv.out).mono ?_); rintro e w1 ⟨rfl, hE1⟩; have hEE := hEW.trans hE1; have hR1 := rangeAt_ext hR hz1 hE1)
            | (refine wpList_load_midg (by rfl) 27 _ rfl B 0 rfl (sv N.all) _ hR1 Tryz.underlying27 rfl hI ?_)
            | (go_at_call 28; (with_reducible refine (rvalidnames_c N true HN.out _ HNl.out Hn.out).mono ?_); rintro e w2 ⟨rfl, hE2⟩; have hEE := hEW.trans (hE1.trans hE2); have t0b := ((hE1.trans hE2).cells _ _ hz2).trans t0; have t1b := ((hE1.trans hE2).cells _ _ hz2).trans t1; have t2b := ((hE1.trans hE2).cells _ _ hz2).trans t2)
            | (go_at_call 29; (with_reducible refine (rtype_l o tn true _ htl Hty.out).mono ?_); rintro e w3 ⟨rfl, hE3⟩; have hEE := hEW.trans ((hE1.trans hE2).trans hE3)))
          go_ret2
          exact ⟨by rw [HE2.out]; rfl, hEE⟩
        · clear hr
          go_enter Tryz.func9, Tryz.ntmps9
          go_upto_region 2 with fail
          generalize (w.alloc (.cells (sv N.all).toArray 27)).alloc (.cells #[.int .i64 o, .int .i64 0, .string ⟨tn.toArray⟩] 29) = W0 at hR hEW t0 t1 t2 hz1 hz2 ⊢
          generalize w.heap.size + 1 = T at t0 t1 t2 hz2 ⊢
          generalize hB : w.heap.size = B at hR hz1 ⊢
          have HB2 := Lib.hid hB
          clear hB
          go_wp2_with (first
            | (go_at_call 27; (with_reducible refine (rvalid_lit l true ao cap _ (Hpt.out.ext hEW) Hl.out Hv.out).mono ?_); rintro e w1 ⟨rfl, hE1⟩; have hEE := hEW.trans hE1; have hR1 := rangeAt_ext hR hz1 hE1)
            | (refine wpList_load_midg (by rfl) 27 _ rfl B 0 rfl (sv N.all) _ hR1 Tryz.underlying27 rfl hI ?_)
            | (go_at_call 28; (with_reducible refine (rvalidnames_c N true HN.out _ HNl.out Hn.out).mono ?_); rintro e w2 ⟨rfl, hE2⟩; have hEE := hEW.trans (hE1.trans hE2); have t0b := ((hE1.trans hE2).cells _ _ hz2).trans t0; have t1b := ((hE1.trans hE2).cells _ _ hz2).trans t1; have t2b := ((hE1.trans hE2).cells _ _ hz2).trans t2)
            | (go_at_call 29; (with_reducible refine (rtype_l o tn true _ htl Hty.out).mono ?_); rintro e w3 ⟨rfl, hE3⟩; have hEE := hEW.trans ((hE1.trans hE2).trans hE3)))
          go_ret2
          exact ⟨by rw [HE2.out]; rfl, hEE⟩
end Go.Proofs.YticckkadmhklmaaGreat
