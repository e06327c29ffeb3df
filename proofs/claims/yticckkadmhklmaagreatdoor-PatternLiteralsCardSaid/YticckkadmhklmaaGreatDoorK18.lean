/- Patterns: the walk of reader.moment. -/
import Derived.Test.YticckkadmhklmaaGreatDoorK17
import Derived.Test.YticckkadmhklmaaGreatDoorK12
import Derived.Deep.Cut
namespace Go.Proofs.YticckkadmhklmaaGreatDoor
set_option linter.unusedVariables false
set_option linter.unusedSimpArgs false
open Go.RowKit Go.Maps

theorem Rdr.ext {N : Nms} {B b : Nat} {s : List UInt8} {vs : List (Int × Nat)} {w w' : World} (h : Rdr N B b s vs w) (hE : Ext w w') : Rdr N B b s vs w' := by
  obtain ⟨c, D, n, h1, h2⟩ := h
  exact ⟨c, D, n, h1.ext hE, h2⟩
theorem RdI.new3 (w : World) (x y z : Int) (t : TypeId) : RdI [x, y, z] w.heap.size 0 (w.alloc (.cells #[.int .i64 x, .int .i64 y, .int .i64 z] t)) :=
  ⟨by simp, fun i hi => by
    rw [World.cell?_alloc_new, Nat.zero_add]
    match i, hi with
    | 0, _ => rfl
    | 1, _ => rfl
    | 2, _ => rfl⟩
theorem RdI.new2 (w : World) (x y : Int) (t : TypeId) : RdI [x, y] w.heap.size 0 (w.alloc (.cells #[.int .i64 x, .int .i64 y] t)) :=
  ⟨by simp, fun i hi => by
    rw [World.cell?_alloc_new, Nat.zero_add]
    match i, hi with
    | 0, _ => rfl
    | 1, _ => rfl⟩
theorem same3_l (N : Nms) (B b : Nat) (s : List UInt8) (vs : List (Int × Nat)) (w W : World) (h : Rdr N B b s vs w) (hvb : ∀ x ∈ vs, x.2 ≤ 100000) (X : Int) (Y : Bool) (he : sameF (gotK vs) 1 false [3, 4, 5] = (X, Y)) (hW : W = w.alloc (.cells #[.int .i64 3, .int .i64 4, .int .i64 5] 3)) (g : Nat) (hg : g = w.heap.size) :
    Calls Tryz.prog 94 #[.pointer (some ⟨B, 0, none⟩), .int .i64 1, .slice (some ⟨g, 0, none⟩) 3 3] W fun e w' => e = .returned (.tuple #[.int .i64 X, .bool Y]) ∧ W = w' := by
  subst hW
  subst hg
  have q := same_c N B b s vs _ (h.ext ((Ext.refl w).alloc (.cells #[.int .i64 3, .int .i64 4, .int .i64 5] 3))) hvb 1 (by decide) (by decide) [3, 4, 5] (by intro k hk; simp at hk; omega) w.heap.size 0 3 (RdI.new3 w 3 4 5 3) (by decide) (by decide) (by decide)
  rw [he] at q
  exact q
theorem same2_l (N : Nms) (B b : Nat) (s : List UInt8) (vs : List (Int × Nat)) (w W : World) (h : Rdr N B b s vs w) (hvb : ∀ x ∈ vs, x.2 ≤ 100000) (X : Int) (Y : Bool) (he : sameF (gotK vs) 0 false [7, 8] = (X, Y)) (hW : W = w.alloc (.cells #[.int .i64 7, .int .i64 8] 3)) (g : Nat) (hg : g = w.heap.size) :
    Calls Tryz.prog 94 #[.pointer (some ⟨B, 0, none⟩), .int .i64 0, .slice (some ⟨g, 0, none⟩) 2 2] W fun e w' => e = .returned (.tuple #[.int .i64 X, .bool Y]) ∧ W = w' := by
  subst hW
  subst hg
  have q := same_c N B b s vs _ (h.ext ((Ext.refl w).alloc (.cells #[.int .i64 7, .int .i64 8] 3))) hvb 0 (by decide) (by decide) [7, 8] (by intro k hk; simp at hk; omega) w.heap.size 0 2 (RdI.new2 w 7 8 3) (by decide) (by decide) (by decide)
  rw [he] at q
  exact q
theorem hour_l (N : Nms) (B b : Nat) (s : List UInt8) (vs : List (Int × Nat)) (w : World) (h : Rdr N B b s vs w) (hvb : ∀ x ∈ vs, x.2 ≤ 100000) (X : Nat) (Y : Bool) (he : hourP (gotK vs) = (X, Y)) :
    Calls Tryz.prog 95 #[.pointer (some ⟨B, 0, none⟩)] w fun e w' => e = .returned (.tuple #[.int .i64 (X : Int), .bool Y]) ∧ w = w' := by
  have q := hour_c N B b s vs w h hvb
  rw [he] at q
  exact q
theorem inst_ok {y m d h mi s : Int} (hv : vldB y m d = true) (ht : tmB h mi s = true) : insT (inst y m d h mi s) = true ∧ inst y m d h mi s / 86400 = dn y m d ∧ insB (dn y m d) = true := by
  obtain ⟨q1, q2⟩ := secs_bd ht
  obtain ⟨q3, q4⟩ := dn_bd hv
  unfold inst
  exact ⟨insT_iff.2 (by omega), by omega, ins_of_vld hv⟩
set_option maxRecDepth 100000 in
theorem lk_run {D : DataW Unit} {b n x : Nat} {f : Bool} {k : Int} {W : World} (hown : W.ownsMap Tryz.prog 3 (plainElem Tryz.prog 3) b n D) (hk : (Lit.int .i64 k).wf = true) (h : Lk D k x f) :
    (Instr.lookup 91 (.map (some b)) (.int .i64 k) false).run Tryz.prog W = .ok (.int .i64 (x : Int)) W := by
  obtain ⟨c, hrun, hat, hwc⟩ := hown.lookup_int mkeyI Tryz.underlying91 Tryz.underlying3 (zeroR W) (keyOf_int_mk Tryz.underlying3 hk)
  have h2 := (Lit.int.inj (DataW.lit.inj (h.1.symm.trans hat))).2
  subst h2
  exact hrun
set_option maxRecDepth 100000 in
set_option maxHeartbeats 4000000 in
theorem rmom_c (N : Nms) (B b : Nat) (s : List UInt8) (vs : List (Int × Nat)) (w : World) (h : Rdr N B b s vs w) (hvb : ∀ x ∈ vs, x.2 ≤ 100000) :
    Calls Tryz.prog 65 #[.pointer (some ⟨B, 0, none⟩)] w fun e w' => ∃ c, (c = false ↔ Cons vs) ∧ e = .returned (.tuple #[.int .i64 (momP (gotK vs) c).1, .bool (momP (gotK vs) c).2]) ∧ Ext w w' := by
  have HR := Lib.hid h
  have HB := Lib.hid hvb
  obtain ⟨c, D, n, hM, hD, hnn, hcl⟩ := h
  have hrd : momP (gotK vs) c = momP (gotK vs) c := rfl
  refine Calls.mono (R := fun e w' => e = .returned (.tuple #[.int .i64 (momP (gotK vs) c).1, .bool (momP (gotK vs) c).2]) ∧ Ext w w') ?_ (fun e w' h => ⟨c, hcl, h⟩)
  obtain ⟨mo, ok1, h1⟩ : ∃ X Y, sameF (gotK vs) 1 false [3, 4, 5] = (X, Y) := ⟨_, _, rfl⟩
  obtain ⟨wd, ok2, h2⟩ : ∃ X Y, sameF (gotK vs) 0 false [7, 8] = (X, Y) := ⟨_, _, rfl⟩
  obtain ⟨hr, ok3, h3⟩ : ∃ X Y, hourP (gotK vs) = (X, Y) := ⟨_, _, rfl⟩
  have HP : Hid (momP (gotK vs) c = if c = true ∨ ok1 = false ∨ ok2 = false ∨ ok3 = false then (0, false) else
      if vldB (((gotK vs 2).getD 1970 : Nat) : Int) mo (((gotK vs 6).getD 1 : Nat) : Int) = true ∧ tmB (hr : Int) (((gotK vs 11).getD 0 : Nat) : Int) (((gotK vs 12).getD 0 : Nat) : Int) = true then
        (inst (((gotK vs 2).getD 1970 : Nat) : Int) mo (((gotK vs 6).getD 1 : Nat) : Int) (hr : Int) (((gotK vs 11).getD 0 : Nat) : Int) (((gotK vs 12).getD 0 : Nat) : Int), decide (wd = 0) || decide (wdZ (dn (((gotK vs 2).getD 1970 : Nat) : Int) mo (((gotK vs 6).getD 1 : Nat) : Int)) = wd)) else (0, false)) := by
    unfold Hid momP
    rw [h1, h2, h3]
  have H1 := Lib.hid h1
  have H2 := Lib.hid h2
  have H3 := Lib.hid h3
  have c42 := hM.cls
  have ltB := hM.lt
  have HM := Lib.hid hM
  have HD := Lib.hid hD
  clear hM hD hcl hvb h1 h2 h3 hrd hnn
  by_cases hbad : c = true ∨ ok1 = false ∨ ok2 = false ∨ ok3 = false
  · have HO : Hid (momP (gotK vs) c = (0, false)) := by rw [Hid, HP.out, if_pos hbad]
    clear HP HD HM
    cases c with
    | true => clear hbad
              go_enter Tryz.func65, Tryz.ntmps65
              go_wp2_with (first
                | (go_at_call 94; (with_reducible refine (same3_l N B b s vs w _ HR.out HB.out mo _ H1.out rfl w.heap.size rfl).mono ?_); rintro e w1 ⟨rfl, rfl⟩)
                | (go_at_call 94; (with_reducible refine (same2_l N B b s vs (w.alloc (.cells #[.int .i64 3, .int .i64 4, .int .i64 5] 3)) _ (HR.out.ext ((Ext.refl w).alloc _)) HB.out wd _ H2.out rfl (w.heap.size + 1) (by simp)).mono ?_); rintro e w1 ⟨rfl, rfl⟩)
                | (go_at_call 95; (with_reducible refine (hour_l N B b s vs _ (HR.out.ext (((Ext.refl w).alloc _).alloc _)) HB.out hr _ H3.out).mono ?_); rintro e w1 ⟨rfl, rfl⟩)
                | go_in)
              go_ret2
              exact ⟨by rw [HO.out]; rfl, ((Ext.refl w).alloc _).alloc _⟩
    | false =>
      cases ok1 with
      | false => clear hbad
                 go_enter Tryz.func65, Tryz.ntmps65
                 go_wp2_with (first
                   | (go_at_call 94; (with_reducible refine (same3_l N B b s vs w _ HR.out HB.out mo _ H1.out rfl w.heap.size rfl).mono ?_); rintro e w1 ⟨rfl, rfl⟩)
                   | (go_at_call 94; (with_reducible refine (same2_l N B b s vs (w.alloc (.cells #[.int .i64 3, .int .i64 4, .int .i64 5] 3)) _ (HR.out.ext ((Ext.refl w).alloc _)) HB.out wd _ H2.out rfl (w.heap.size + 1) (by simp)).mono ?_); rintro e w1 ⟨rfl, rfl⟩)
                   | (go_at_call 95; (with_reducible refine (hour_l N B b s vs _ (HR.out.ext (((Ext.refl w).alloc _).alloc _)) HB.out hr _ H3.out).mono ?_); rintro e w1 ⟨rfl, rfl⟩)
                   | go_in)
                 go_ret2
                 exact ⟨by rw [HO.out]; rfl, ((Ext.refl w).alloc _).alloc _⟩
      | true =>
        cases ok2 with
        | false => clear hbad
                   go_enter Tryz.func65, Tryz.ntmps65
                   go_wp2_with (first
                     | (go_at_call 94; (with_reducible refine (same3_l N B b s vs w _ HR.out HB.out mo _ H1.out rfl w.heap.size rfl).mono ?_); rintro e w1 ⟨rfl, rfl⟩)
                     | (go_at_call 94; (with_reducible refine (same2_l N B b s vs (w.alloc (.cells #[.int .i64 3, .int .i64 4, .int .i64 5] 3)) _ (HR.out.ext ((Ext.refl w).alloc _)) HB.out wd _ H2.out rfl (w.heap.size + 1) (by simp)).mono ?_); rintro e w1 ⟨rfl, rfl⟩)
                     | (go_at_call 95; (with_reducible refine (hour_l N B b s vs _ (HR.out.ext (((Ext.refl w).alloc _).alloc _)) HB.out hr _ H3.out).mono ?_); rintro e w1 ⟨rfl, rfl⟩)
                     | go_in)
                   go_ret2
                   exact ⟨by rw [HO.out]; rfl, ((Ext.refl w).alloc _).alloc _⟩
        | true =>
          cases ok3 with
          | false => clear hbad
                     go_enter Tryz.func65, Tryz.ntmps65
                     go_wp2_with (first
                       | (go_at_call 94; (with_reducible refine (same3_l N B b s vs w _ HR.out HB.out mo _ H1.out rfl w.heap.size rfl).mono ?_); rintro e w1 ⟨rfl, rfl⟩)
                       | (go_at_call 94; (with_reducible refine (same2_l N B b s vs (w.alloc (.cells #[.int .i64 3, .int .i64 4, .int .i64 5] 3)) _ (HR.out.ext ((Ext.refl w).alloc _)) HB.out wd _ H2.out rfl (w.heap.size + 1) (by simp)).mono ?_); rintro e w1 ⟨rfl, rfl⟩)
                       | (go_at_call 95; (with_reducible refine (hour_l N B b s vs _ (HR.out.ext (((Ext.refl w).alloc _).alloc _)) HB.out hr _ H3.out).mono ?_); rintro e w1 ⟨rfl, rfl⟩)
                       | go_in)
                     go_ret2
                     exact ⟨by rw [HO.out]; rfl, ((Ext.refl w).alloc _).alloc _⟩
          | true => simp at hbad
  · have hg : c = false ∧ ok1 = true ∧ ok2 = true ∧ ok3 = true := by
      cases c <;> cases ok1 <;> cases ok2 <;> cases ok3 <;> simp at hbad ⊢
    obtain ⟨rfl, rfl, rfl, rfl⟩ := hg
    clear hbad
    have HQ : Hid (momP (gotK vs) false = if vldB (((gotK vs 2).getD 1970 : Nat) : Int) mo (((gotK vs 6).getD 1 : Nat) : Int) = true ∧ tmB (hr : Int) (((gotK vs 11).getD 0 : Nat) : Int) (((gotK vs 12).getD 0 : Nat) : Int) = true then
        (inst (((gotK vs 2).getD 1970 : Nat) : Int) mo (((gotK vs 6).getD 1 : Nat) : Int) (hr : Int) (((gotK vs 11).getD 0 : Nat) : Int) (((gotK vs 12).getD 0 : Nat) : Int), decide (wd = 0) || decide (wdZ (dn (((gotK vs 2).getD 1970 : Nat) : Int) mo (((gotK vs 6).getD 1 : Nat) : Int)) = wd)) else (0, false)) := by
      rw [Hid, HP.out, if_neg (by simp)]
    clear HP
    have HL : Hid (∀ k, Lk D k ((gotK vs k).getD 0) (gotK vs k).isSome) := fun k => HD.out.lk k rfl
    have hE0 : Ext w ((w.alloc (.cells #[.int .i64 3, .int .i64 4, .int .i64 5] 3)).alloc (.cells #[.int .i64 7, .int .i64 8] 3)) := ((Ext.refl w).alloc _).alloc _
    obtain ⟨o2, e2⟩ : ∃ o, gotK vs 2 = o := ⟨_, rfl⟩
    obtain ⟨o6, e6⟩ : ∃ o, gotK vs 6 = o := ⟨_, rfl⟩
    have hm11 : Lk D 11 ((gotK vs 11).getD 0) (gotK vs 11).isSome := HL.out 11
    have hm12 : Lk D 12 ((gotK vs 12).getD 0) (gotK vs 12).isSome := HL.out 12
    have hm2 : Lk D 2 (o2.getD 0) o2.isSome := by rw [← e2]; exact HL.out 2
    have hm6 : Lk D 6 (o6.getD 0) o6.isSome := by rw [← e6]; exact HL.out 6
    rw [e2, e6] at HQ
    have bd : ∀ k v, gotK vs k = some v → v ≤ 100000 := fun k v e => gotK_bd HB.out e
    have b11 : (gotK vs 11).getD 0 ≤ 100000 := by cases e : gotK vs 11 with | none => simp | some v => exact bd 11 v e
    have b12 : (gotK vs 12).getD 0 ≤ 100000 := by cases e : gotK vs 12 with | none => simp | some v => exact bd 12 v e
    have b2 : ∀ v, o2 = some v → v ≤ 100000 := fun v e => bd 2 v (e2.trans e)
    have b6 : ∀ v, o6 = some v → v ≤ 100000 := fun v e => bd 6 v (e6.trans e)
    obtain ⟨mi, hmi⟩ : ∃ m, m = (gotK vs 11).getD 0 := ⟨_, rfl⟩
    obtain ⟨se, hse⟩ : ∃ m, m = (gotK vs 12).getD 0 := ⟨_, rfl⟩
    rw [← hmi] at HQ hm11 b11
    rw [← hse] at HQ hm12 b12
    generalize (gotK vs 11).isSome = f11 at hm11
    generalize (gotK vs 12).isSome = f12 at hm12
    have H11 := Lib.hid hm11
    have H12 := Lib.hid hm12
    clear hmi hse bd e2 e6 HL HD hm11 hm12
    cases o2 with
    | none =>
      have HK2 := Lib.hid (show Lk D 2 0 false from hm2)
      cases o6 with
      | none =>
        have HK6 := Lib.hid (show Lk D 6 0 false from hm6)
        have HQ2 : Hid (momP (gotK vs) false = if vldB 1970 mo 1 = true ∧ tmB (hr : Int) (mi : Int) (se : Int) = true then (inst 1970 mo 1 (hr : Int) (mi : Int) (se : Int), decide (wd = 0) || decide (wdZ (dn 1970 mo 1) = wd)) else (0, false)) := HQ.out
        clear HQ hm2 hm6 b2 b6
        by_cases hv : vldB 1970 mo 1 = true ∧ tmB (hr : Int) (mi : Int) (se : Int) = true
        · obtain ⟨hv1, hv2⟩ := hv
          have HX := Lib.hid (inst_ok hv1 hv2)
          have HO := Lib.hid (fun w => of_yes 1970 mo 1 (hr : Int) (mi : Int) (se : Int) w hv1 hv2)
          have HQ3 : Hid (momP (gotK vs) false = (inst 1970 mo 1 (hr : Int) (mi : Int) (se : Int), decide (wd = 0) || decide (wdZ (dn 1970 mo 1) = wd))) := by rw [Hid, HQ2.out, if_pos ⟨hv1, hv2⟩]
          obtain ⟨tt, htt⟩ : ∃ tt, tt = inst 1970 mo 1 (hr : Int) (mi : Int) (se : Int) := ⟨_, rfl⟩
          obtain ⟨dd0, hdd⟩ : ∃ dd0, dd0 = dn 1970 mo 1 := ⟨_, rfl⟩
          rw [← htt, ← hdd] at HX HQ3
          rw [← htt] at HO
          have HS := Lib.hid (fun w => split_yes tt w HX.out.1)
          rw [HX.out.2.1] at HS
          have HW := Lib.hid (fun w => weekday_c dd0 w HX.out.2.2)
          obtain ⟨z, hz⟩ : ∃ z, z = wdZ dd0 := ⟨_, rfl⟩
          rw [← hz] at HW HQ3
          clear htt hdd hz HX hv1 hv2 HQ2
          by_cases hw0 : wd = 0
          · have HQ4 : Hid (momP (gotK vs) false = (tt, true)) := by rw [Hid, HQ3.out]; simp [hw0]
            have tw : (wd == 0) = true := by simpa using hw0
            clear HQ3 hw0
            go_enter Tryz.func65, Tryz.ntmps65
            go_upto_region 4 with (first
              | (go_at_call 94; (with_reducible refine (same3_l N B b s vs w _ HR.out HB.out mo _ H1.out rfl w.heap.size rfl).mono ?_); rintro e w1 ⟨rfl, rfl⟩)
              | (go_at_call 94; (with_reducible refine (same2_l N B b s vs (w.alloc (.cells #[.int .i64 3, .int .i64 4, .int .i64 5] 3)) _ (HR.out.ext ((Ext.refl w).alloc _)) HB.out wd _ H2.out rfl (w.heap.size + 1) (by simp)).mono ?_); rintro e w1 ⟨rfl, rfl⟩)
              | (go_at_call 95; (with_reducible refine (hour_l N B b s vs _ (HR.out.ext (((Ext.refl w).alloc _).alloc _)) HB.out hr _ H3.out).mono ?_); rintro e w1 ⟨rfl, rfl⟩)
              | go_in)
            have hMW := HM.out.ext hE0
            generalize (w.alloc (.cells #[.int .i64 3, .int .i64 4, .int .i64 5] 3)).alloc (.cells #[.int .i64 7, .int .i64 8] 3) = W at hE0 hMW ⊢
            have hown := hMW.own
            have d41 := hMW.fnd
            have d42 := hMW.cls
            have ltW := hMW.lt
            have HMW := Lib.hid hMW
            clear hMW
            go_upto_region 12 with (first
              | (at_lookup; refine wpList_lookup_own_ok_int _ rfl _ _ 91 rfl 3 3 .i64 mkeyI Tryz.underlying91 Tryz.underlying3 (zeroR _) _ n D rfl hown _ _ rfl (keyOf_int_mk Tryz.underlying3 (show (Lit.int .i64 2).wf = true by decide)) ?_; intro cc hat hwc; rw [HK2.out.1] at hat; injection hat with hat; injection hat with _ hat; subst hat; rw [HK2.out.2])
              | (at_lookup; refine wpList_lookup_own_ok_int _ rfl _ _ 91 rfl 3 3 .i64 mkeyI Tryz.underlying91 Tryz.underlying3 (zeroR _) _ n D rfl hown _ _ rfl (keyOf_int_mk Tryz.underlying3 (show (Lit.int .i64 6).wf = true by decide)) ?_; intro cc hat hwc; rw [HK6.out.1] at hat; injection hat with hat; injection hat with _ hat; subst hat; rw [HK6.out.2])
              | go_in)
            have hl11 : ∀ W', Ext W W' → (Instr.lookup 91 (.map (some b)) (.int .i64 11) false).run Tryz.prog W' = .ok (.int .i64 (mi : Int)) W' := fun W' hW' => lk_run (HMW.out.own.kept (grown_ext hW' none) (by simp)) (by decide) H11.out
            have hl12 : ∀ W', Ext W W' → (Instr.lookup 91 (.map (some b)) (.int .i64 12) false).run Tryz.prog W' = .ok (.int .i64 (se : Int)) W' := fun W' hW' => lk_run (HMW.out.own.kept (grown_ext hW' none) (by simp)) (by decide) H12.out
            have hEd : Ext W W.drew := (Ext.refl W).drew
            have hEd2 : Ext W (W.alloc (.cells #[.int .i64 0, .int .i64 0, .int .i64 0, .int .i64 0, .int .i64 0, .int .i64 0] 128)).drew := ((Ext.refl W).alloc _).drew
            go_region
            clear hl11 hl12 hEd hEd2 hown
            go_wp2_with (first
              | (go_at_call 96; (with_reducible refine (HO.out _).mono ?_); rintro e w3 ⟨rfl, hE3⟩)
              | (go_at_call 87; (with_reducible refine (HS.out _).mono ?_); rintro e w4 ⟨rfl, ⟨nq4, rfl⟩⟩)
              | go_in)
            go_ret2
            exact ⟨by rw [HQ4.out]; rfl, hE0.trans (((Ext.refl W).alloc _).drew.trans (hE3.drewN _))⟩
          · have HQ4 : Hid (momP (gotK vs) false = (tt, decide (z = wd))) := by rw [Hid, HQ3.out]; simp [hw0]
            have tw : (wd == 0) = false := by simpa using hw0
            have HB2 : Hid (∀ x : Bool, (z == wd) = x → decide (z = wd) = x) := fun x h => by rw [← h]; rfl
            clear HQ3 hw0
            go_enter Tryz.func65, Tryz.ntmps65
            go_upto_region 4 with (first
              | (go_at_call 94; (with_reducible refine (same3_l N B b s vs w _ HR.out HB.out mo _ H1.out rfl w.heap.size rfl).mono ?_); rintro e w1 ⟨rfl, rfl⟩)
              | (go_at_call 94; (with_reducible refine (same2_l N B b s vs (w.alloc (.cells #[.int .i64 3, .int .i64 4, .int .i64 5] 3)) _ (HR.out.ext ((Ext.refl w).alloc _)) HB.out wd _ H2.out rfl (w.heap.size + 1) (by simp)).mono ?_); rintro e w1 ⟨rfl, rfl⟩)
              | (go_at_call 95; (with_reducible refine (hour_l N B b s vs _ (HR.out.ext (((Ext.refl w).alloc _).alloc _)) HB.out hr _ H3.out).mono ?_); rintro e w1 ⟨rfl, rfl⟩)
              | go_in)
            have hMW := HM.out.ext hE0
            generalize (w.alloc (.cells #[.int .i64 3, .int .i64 4, .int .i64 5] 3)).alloc (.cells #[.int .i64 7, .int .i64 8] 3) = W at hE0 hMW ⊢
            have hown := hMW.own
            have d41 := hMW.fnd
            have d42 := hMW.cls
            have ltW := hMW.lt
            have HMW := Lib.hid hMW
            clear hMW
            go_upto_region 12 with (first
              | (at_lookup; refine wpList_lookup_own_ok_int _ rfl _ _ 91 rfl 3 3 .i64 mkeyI Tryz.underlying91 Tryz.underlying3 (zeroR _) _ n D rfl hown _ _ rfl (keyOf_int_mk Tryz.underlying3 (show (Lit.int .i64 2).wf = true by decide)) ?_; intro cc hat hwc; rw [HK2.out.1] at hat; injection hat with hat; injection hat with _ hat; subst hat; rw [HK2.out.2])
              | (at_lookup; refine wpList_lookup_own_ok_int _ rfl _ _ 91 rfl 3 3 .i64 mkeyI Tryz.underlying91 Tryz.underlying3 (zeroR _) _ n D rfl hown _ _ rfl (keyOf_int_mk Tryz.underlying3 (show (Lit.int .i64 6).wf = true by decide)) ?_; intro cc hat hwc; rw [HK6.out.1] at hat; injection hat with hat; injection hat with _ hat; subst hat; rw [HK6.out.2])
              | go_in)
            have hl11 : ∀ W', Ext W W' → (Instr.lookup 91 (.map (some b)) (.int .i64 11) false).run Tryz.prog W' = .ok (.int .i64 (mi : Int)) W' := fun W' hW' => lk_run (HMW.out.own.kept (grown_ext hW' none) (by simp)) (by decide) H11.out
            have hl12 : ∀ W', Ext W W' → (Instr.lookup 91 (.map (some b)) (.int .i64 12) false).run Tryz.prog W' = .ok (.int .i64 (se : Int)) W' := fun W' hW' => lk_run (HMW.out.own.kept (grown_ext hW' none) (by simp)) (by decide) H12.out
            have hEd : Ext W W.drew := (Ext.refl W).drew
            have hEd2 : Ext W (W.alloc (.cells #[.int .i64 0, .int .i64 0, .int .i64 0, .int .i64 0, .int .i64 0, .int .i64 0] 128)).drew := ((Ext.refl W).alloc _).drew
            go_region
            clear hl11 hl12 hEd hEd2 hown
            go_wp2_with (first
              | (go_at_call 96; (with_reducible refine (HO.out _).mono ?_); rintro e w3 ⟨rfl, hE3⟩)
              | (go_at_call 87; (with_reducible refine (HS.out _).mono ?_); rintro e w4 ⟨rfl, ⟨nq4, rfl⟩⟩)
              | (go_at_call 88; (with_reducible refine (HW.out _).mono ?_); rintro e w5 ⟨rfl, hE5⟩)
              | go_in)
            go_ret2
            exact ⟨by rw [HQ4.out]; rfl, hE0.trans (((Ext.refl W).alloc _).drew.trans ((hE3.drewN _).trans hE5))⟩
        · have HO := Lib.hid (fun w => of_no 1970 mo 1 (hr : Int) (mi : Int) (se : Int) w hv)
          have HQ3 : Hid (momP (gotK vs) false = (0, false)) := by rw [Hid, HQ2.out, if_neg hv]
          clear hv HQ2
          go_enter Tryz.func65, Tryz.ntmps65
          go_upto_region 4 with (first
            | (go_at_call 94; (with_reducible refine (same3_l N B b s vs w _ HR.out HB.out mo _ H1.out rfl w.heap.size rfl).mono ?_); rintro e w1 ⟨rfl, rfl⟩)
            | (go_at_call 94; (with_reducible refine (same2_l N B b s vs (w.alloc (.cells #[.int .i64 3, .int .i64 4, .int .i64 5] 3)) _ (HR.out.ext ((Ext.refl w).alloc _)) HB.out wd _ H2.out rfl (w.heap.size + 1) (by simp)).mono ?_); rintro e w1 ⟨rfl, rfl⟩)
            | (go_at_call 95; (with_reducible refine (hour_l N B b s vs _ (HR.out.ext (((Ext.refl w).alloc _).alloc _)) HB.out hr _ H3.out).mono ?_); rintro e w1 ⟨rfl, rfl⟩)
            | go_in)
          have hMW := HM.out.ext hE0
          generalize (w.alloc (.cells #[.int .i64 3, .int .i64 4, .int .i64 5] 3)).alloc (.cells #[.int .i64 7, .int .i64 8] 3) = W at hE0 hMW ⊢
          have hown := hMW.own
          have d41 := hMW.fnd
          have d42 := hMW.cls
          have ltW := hMW.lt
          have HMW := Lib.hid hMW
          clear hMW
          go_upto_region 12 with (first
            | (at_lookup; refine wpList_lookup_own_ok_int _ rfl _ _ 91 rfl 3 3 .i64 mkeyI Tryz.underlying91 Tryz.underlying3 (zeroR _) _ n D rfl hown _ _ rfl (keyOf_int_mk Tryz.underlying3 (show (Lit.int .i64 2).wf = true by decide)) ?_; intro cc hat hwc; rw [HK2.out.1] at hat; injection hat with hat; injection hat with _ hat; subst hat; rw [HK2.out.2])
            | (at_lookup; refine wpList_lookup_own_ok_int _ rfl _ _ 91 rfl 3 3 .i64 mkeyI Tryz.underlying91 Tryz.underlying3 (zeroR _) _ n D rfl hown _ _ rfl (keyOf_int_mk Tryz.underlying3 (show (Lit.int .i64 6).wf = true by decide)) ?_; intro cc hat hwc; rw [HK6.out.1] at hat; injection hat with hat; injection hat with _ hat; subst hat; rw [HK6.out.2])
            | go_in)
          have hl11 : ∀ W', Ext W W' → (Instr.lookup 91 (.map (some b)) (.int .i64 11) false).run Tryz.prog W' = .ok (.int .i64 (mi : Int)) W' := fun W' hW' => lk_run (HMW.out.own.kept (grown_ext hW' none) (by simp)) (by decide) H11.out
          have hl12 : ∀ W', Ext W W' → (Instr.lookup 91 (.map (some b)) (.int .i64 12) false).run Tryz.prog W' = .ok (.int .i64 (se : Int)) W' := fun W' hW' => lk_run (HMW.out.own.kept (grown_ext hW' none) (by simp)) (by decide) H12.out
          have hEd : Ext W W.drew := (Ext.refl W).drew
          have hEd2 : Ext W (W.alloc (.cells #[.int .i64 0, .int .i64 0, .int .i64 0, .int .i64 0, .int .i64 0, .int .i64 0] 128)).drew := ((Ext.refl W).alloc _).drew
          go_region
          clear hl11 hl12 hEd hEd2 hown
          go_wp2_with (first
            | (go_at_call 96; (with_reducible refine (HO.out _).mono ?_); rintro e w3 ⟨rfl, hE3⟩)
            | go_in)
          go_ret2
          exact ⟨by rw [HQ3.out]; rfl, hE0.trans (((Ext.refl W).alloc _).drew.trans hE3)⟩
      | some dd =>
        have HK6 := Lib.hid (show Lk D 6 dd true from hm6)
        have hdb := b6 dd rfl
        have HQ2 : Hid (momP (gotK vs) false = if vldB 1970 mo (dd : Int) = true ∧ tmB (hr : Int) (mi : Int) (se : Int) = true then (inst 1970 mo (dd : Int) (hr : Int) (mi : Int) (se : Int), decide (wd = 0) || decide (wdZ (dn 1970 mo (dd : Int)) = wd)) else (0, false)) := HQ.out
        clear HQ hm2 hm6 b2 b6
        by_cases hv : vldB 1970 mo (dd : Int) = true ∧ tmB (hr : Int) (mi : Int) (se : Int) = true
        · obtain ⟨hv1, hv2⟩ := hv
          have HX := Lib.hid (inst_ok hv1 hv2)
          have HO := Lib.hid (fun w => of_yes 1970 mo (dd : Int) (hr : Int) (mi : Int) (se : Int) w hv1 hv2)
          have HQ3 : Hid (momP (gotK vs) false = (inst 1970 mo (dd : Int) (hr : Int) (mi : Int) (se : Int), decide (wd = 0) || decide (wdZ (dn 1970 mo (dd : Int)) = wd))) := by rw [Hid, HQ2.out, if_pos ⟨hv1, hv2⟩]
          obtain ⟨tt, htt⟩ : ∃ tt, tt = inst 1970 mo (dd : Int) (hr : Int) (mi : Int) (se : Int) := ⟨_, rfl⟩
          obtain ⟨dd0, hdd⟩ : ∃ dd0, dd0 = dn 1970 mo (dd : Int) := ⟨_, rfl⟩
          rw [← htt, ← hdd] at HX HQ3
          rw [← htt] at HO
          have HS := Lib.hid (fun w => split_yes tt w HX.out.1)
          rw [HX.out.2.1] at HS
          have HW := Lib.hid (fun w => weekday_c dd0 w HX.out.2.2)
          obtain ⟨z, hz⟩ : ∃ z, z = wdZ dd0 := ⟨_, rfl⟩
          rw [← hz] at HW HQ3
          clear htt hdd hz HX hv1 hv2 HQ2
          by_cases hw0 : wd = 0
          · have HQ4 : Hid (momP (gotK vs) false = (tt, true)) := by rw [Hid, HQ3.out]; simp [hw0]
            have tw : (wd == 0) = true := by simpa using hw0
            clear HQ3 hw0
            go_enter Tryz.func65, Tryz.ntmps65
            go_upto_region 4 with (first
              | (go_at_call 94; (with_reducible refine (same3_l N B b s vs w _ HR.out HB.out mo _ H1.out rfl w.heap.size rfl).mono ?_); rintro e w1 ⟨rfl, rfl⟩)
              | (go_at_call 94; (with_reducible refine (same2_l N B b s vs (w.alloc (.cells #[.int .i64 3, .int .i64 4, .int .i64 5] 3)) _ (HR.out.ext ((Ext.refl w).alloc _)) HB.out wd _ H2.out rfl (w.heap.size + 1) (by simp)).mono ?_); rintro e w1 ⟨rfl, rfl⟩)
              | (go_at_call 95; (with_reducible refine (hour_l N B b s vs _ (HR.out.ext (((Ext.refl w).alloc _).alloc _)) HB.out hr _ H3.out).mono ?_); rintro e w1 ⟨rfl, rfl⟩)
              | go_in)
            have hMW := HM.out.ext hE0
            generalize (w.alloc (.cells #[.int .i64 3, .int .i64 4, .int .i64 5] 3)).alloc (.cells #[.int .i64 7, .int .i64 8] 3) = W at hE0 hMW ⊢
            have hown := hMW.own
            have d41 := hMW.fnd
            have d42 := hMW.cls
            have ltW := hMW.lt
            have HMW := Lib.hid hMW
            clear hMW
            go_upto_region 12 with (first
              | (at_lookup; refine wpList_lookup_own_ok_int _ rfl _ _ 91 rfl 3 3 .i64 mkeyI Tryz.underlying91 Tryz.underlying3 (zeroR _) _ n D rfl hown _ _ rfl (keyOf_int_mk Tryz.underlying3 (show (Lit.int .i64 2).wf = true by decide)) ?_; intro cc hat hwc; rw [HK2.out.1] at hat; injection hat with hat; injection hat with _ hat; subst hat; rw [HK2.out.2])
              | (at_lookup; refine wpList_lookup_own_ok_int _ rfl _ _ 91 rfl 3 3 .i64 mkeyI Tryz.underlying91 Tryz.underlying3 (zeroR _) _ n D rfl hown _ _ rfl (keyOf_int_mk Tryz.underlying3 (show (Lit.int .i64 6).wf = true by decide)) ?_; intro cc hat hwc; rw [HK6.out.1] at hat; injection hat with hat; injection hat with _ hat; subst hat; rw [HK6.out.2])
              | go_in)
            have hl11 : ∀ W', Ext W W' → (Instr.lookup 91 (.map (some b)) (.int .i64 11) false).run Tryz.prog W' = .ok (.int .i64 (mi : Int)) W' := fun W' hW' => lk_run (HMW.out.own.kept (grown_ext hW' none) (by simp)) (by decide) H11.out
            have hl12 : ∀ W', Ext W W' → (Instr.lookup 91 (.map (some b)) (.int .i64 12) false).run Tryz.prog W' = .ok (.int .i64 (se : Int)) W' := fun W' hW' => lk_run (HMW.out.own.kept (grown_ext hW' none) (by simp)) (by decide) H12.out
            have hEd : Ext W W.drew := (Ext.refl W).drew
            have hEd2 : Ext W (W.alloc (.cells #[.int .i64 0, .int .i64 0, .int .i64 0, .int .i64 0, .int .i64 0, .int .i64 0] 128)).drew := ((Ext.refl W).alloc _).drew
            go_region
            clear hl11 hl12 hEd hEd2 hown
            go_wp2_with (first
              | (go_at_call 96; (with_reducible refine (HO.out _).mono ?_); rintro e w3 ⟨rfl, hE3⟩)
              | (go_at_call 87; (with_reducible refine (HS.out _).mono ?_); rintro e w4 ⟨rfl, ⟨nq4, rfl⟩⟩)
              | go_in)
            go_ret2
            exact ⟨by rw [HQ4.out]; rfl, hE0.trans (((Ext.refl W).alloc _).drew.trans (hE3.drewN _))⟩
          · have HQ4 : Hid (momP (gotK vs) false = (tt, decide (z = wd))) := by rw [Hid, HQ3.out]; simp [hw0]
            have tw : (wd == 0) = false := by simpa using hw0
            have HB2 : Hid (∀ x : Bool, (z == wd) = x → decide (z = wd) = x) := fun x h => by rw [← h]; rfl
            clear HQ3 hw0
            go_enter Tryz.func65, Tryz.ntmps65
            go_upto_region 4 with (first
              | (go_at_call 94; (with_reducible refine (same3_l N B b s vs w _ HR.out HB.out mo _ H1.out rfl w.heap.size rfl).mono ?_); rintro e w1 ⟨rfl, rfl⟩)
              | (go_at_call 94; (with_reducible refine (same2_l N B b s vs (w.alloc (.cells #[.int .i64 3, .int .i64 4, .int .i64 5] 3)) _ (HR.out.ext ((Ext.refl w).alloc _)) HB.out wd _ H2.out rfl (w.heap.size + 1) (by simp)).mono ?_); rintro e w1 ⟨rfl, rfl⟩)
              | (go_at_call 95; (with_reducible refine (hour_l N B b s vs _ (HR.out.ext (((Ext.refl w).alloc _).alloc _)) HB.out hr _ H3.out).mono ?_); rintro e w1 ⟨rfl, rfl⟩)
              | go_in)
            have hMW := HM.out.ext hE0
            generalize (w.alloc (.cells #[.int .i64 3, .int .i64 4, .int .i64 5] 3)).alloc (.cells #[.int .i64 7, .int .i64 8] 3) = W at hE0 hMW ⊢
            have hown := hMW.own
            have d41 := hMW.fnd
            have d42 := hMW.cls
            have ltW := hMW.lt
            have HMW := Lib.hid hMW
            clear hMW
            go_upto_region 12 with (first
              | (at_lookup; refine wpList_lookup_own_ok_int _ rfl _ _ 91 rfl 3 3 .i64 mkeyI Tryz.underlying91 Tryz.underlying3 (zeroR _) _ n D rfl hown _ _ rfl (keyOf_int_mk Tryz.underlying3 (show (Lit.int .i64 2).wf = true by decide)) ?_; intro cc hat hwc; rw [HK2.out.1] at hat; injection hat with hat; injection hat with _ hat; subst hat; rw [HK2.out.2])
              | (at_lookup; refine wpList_lookup_own_ok_int _ rfl _ _ 91 rfl 3 3 .i64 mkeyI Tryz.underlying91 Tryz.underlying3 (zeroR _) _ n D rfl hown _ _ rfl (keyOf_int_mk Tryz.underlying3 (show (Lit.int .i64 6).wf = true by decide)) ?_; intro cc hat hwc; rw [HK6.out.1] at hat; injection hat with hat; injection hat with _ hat; subst hat; rw [HK6.out.2])
              | go_in)
            have hl11 : ∀ W', Ext W W' → (Instr.lookup 91 (.map (some b)) (.int .i64 11) false).run Tryz.prog W' = .ok (.int .i64 (mi : Int)) W' := fun W' hW' => lk_run (HMW.out.own.kept (grown_ext hW' none) (by simp)) (by decide) H11.out
            have hl12 : ∀ W', Ext W W' → (Instr.lookup 91 (.map (some b)) (.int .i64 12) false).run Tryz.prog W' = .ok (.int .i64 (se : Int)) W' := fun W' hW' => lk_run (HMW.out.own.kept (grown_ext hW' none) (by simp)) (by decide) H12.out
            have hEd : Ext W W.drew := (Ext.refl W).drew
            have hEd2 : Ext W (W.alloc (.cells #[.int .i64 0, .int .i64 0, .int .i64 0, .int .i64 0, .int .i64 0, .int .i64 0] 128)).drew := ((Ext.refl W).alloc _).drew
            go_region
            clear hl11 hl12 hEd hEd2 hown
            go_wp2_with (first
              | (go_at_call 96; (with_reducible refine (HO.out _).mono ?_); rintro e w3 ⟨rfl, hE3⟩)
              | (go_at_call 87; (with_reducible refine (HS.out _).mono ?_); rintro e w4 ⟨rfl, ⟨nq4, rfl⟩⟩)
              | (go_at_call 88; (with_reducible refine (HW.out _).mono ?_); rintro e w5 ⟨rfl, hE5⟩)
              | go_in)
            go_ret2
            exact ⟨by rw [HQ4.out]; rfl, hE0.trans (((Ext.refl W).alloc _).drew.trans ((hE3.drewN _).trans hE5))⟩
        · have HO := Lib.hid (fun w => of_no 1970 mo (dd : Int) (hr : Int) (mi : Int) (se : Int) w hv)
          have HQ3 : Hid (momP (gotK vs) false = (0, false)) := by rw [Hid, HQ2.out, if_neg hv]
          clear hv HQ2
          go_enter Tryz.func65, Tryz.ntmps65
          go_upto_region 4 with (first
            | (go_at_call 94; (with_reducible refine (same3_l N B b s vs w _ HR.out HB.out mo _ H1.out rfl w.heap.size rfl).mono ?_); rintro e w1 ⟨rfl, rfl⟩)
            | (go_at_call 94; (with_reducible refine (same2_l N B b s vs (w.alloc (.cells #[.int .i64 3, .int .i64 4, .int .i64 5] 3)) _ (HR.out.ext ((Ext.refl w).alloc _)) HB.out wd _ H2.out rfl (w.heap.size + 1) (by simp)).mono ?_); rintro e w1 ⟨rfl, rfl⟩)
            | (go_at_call 95; (with_reducible refine (hour_l N B b s vs _ (HR.out.ext (((Ext.refl w).alloc _).alloc _)) HB.out hr _ H3.out).mono ?_); rintro e w1 ⟨rfl, rfl⟩)
            | go_in)
          have hMW := HM.out.ext hE0
          generalize (w.alloc (.cells #[.int .i64 3, .int .i64 4, .int .i64 5] 3)).alloc (.cells #[.int .i64 7, .int .i64 8] 3) = W at hE0 hMW ⊢
          have hown := hMW.own
          have d41 := hMW.fnd
          have d42 := hMW.cls
          have ltW := hMW.lt
          have HMW := Lib.hid hMW
          clear hMW
          go_upto_region 12 with (first
            | (at_lookup; refine wpList_lookup_own_ok_int _ rfl _ _ 91 rfl 3 3 .i64 mkeyI Tryz.underlying91 Tryz.underlying3 (zeroR _) _ n D rfl hown _ _ rfl (keyOf_int_mk Tryz.underlying3 (show (Lit.int .i64 2).wf = true by decide)) ?_; intro cc hat hwc; rw [HK2.out.1] at hat; injection hat with hat; injection hat with _ hat; subst hat; rw [HK2.out.2])
            | (at_lookup; refine wpList_lookup_own_ok_int _ rfl _ _ 91 rfl 3 3 .i64 mkeyI Tryz.underlying91 Tryz.underlying3 (zeroR _) _ n D rfl hown _ _ rfl (keyOf_int_mk Tryz.underlying3 (show (Lit.int .i64 6).wf = true by decide)) ?_; intro cc hat hwc; rw [HK6.out.1] at hat; injection hat with hat; injection hat with _ hat; subst hat; rw [HK6.out.2])
            | go_in)
          have hl11 : ∀ W', Ext W W' → (Instr.lookup 91 (.map (some b)) (.int .i64 11) false).run Tryz.prog W' = .ok (.int .i64 (mi : Int)) W' := fun W' hW' => lk_run (HMW.out.own.kept (grown_ext hW' none) (by simp)) (by decide) H11.out
          have hl12 : ∀ W', Ext W W' → (Instr.lookup 91 (.map (some b)) (.int .i64 12) false).run Tryz.prog W' = .ok (.int .i64 (se : Int)) W' := fun W' hW' => lk_run (HMW.out.own.kept (grown_ext hW' none) (by simp)) (by decide) H12.out
          have hEd : Ext W W.drew := (Ext.refl W).drew
          have hEd2 : Ext W (W.alloc (.cells #[.int .i64 0, .int .i64 0, .int .i64 0, .int .i64 0, .int .i64 0, .int .i64 0] 128)).drew := ((Ext.refl W).alloc _).drew
          go_region
          clear hl11 hl12 hEd hEd2 hown
          go_wp2_with (first
            | (go_at_call 96; (with_reducible refine (HO.out _).mono ?_); rintro e w3 ⟨rfl, hE3⟩)
            | go_in)
          go_ret2
          exact ⟨by rw [HQ3.out]; rfl, hE0.trans (((Ext.refl W).alloc _).drew.trans hE3)⟩
    | some yy =>
      have HK2 := Lib.hid (show Lk D 2 yy true from hm2)
      have hyb := b2 yy rfl
      cases o6 with
      | none =>
        have HK6 := Lib.hid (show Lk D 6 0 false from hm6)
        have HQ2 : Hid (momP (gotK vs) false = if vldB (yy : Int) mo 1 = true ∧ tmB (hr : Int) (mi : Int) (se : Int) = true then (inst (yy : Int) mo 1 (hr : Int) (mi : Int) (se : Int), decide (wd = 0) || decide (wdZ (dn (yy : Int) mo 1) = wd)) else (0, false)) := HQ.out
        clear HQ hm2 hm6 b2 b6
        by_cases hv : vldB (yy : Int) mo 1 = true ∧ tmB (hr : Int) (mi : Int) (se : Int) = true
        · obtain ⟨hv1, hv2⟩ := hv
          have HX := Lib.hid (inst_ok hv1 hv2)
          have HO := Lib.hid (fun w => of_yes (yy : Int) mo 1 (hr : Int) (mi : Int) (se : Int) w hv1 hv2)
          have HQ3 : Hid (momP (gotK vs) false = (inst (yy : Int) mo 1 (hr : Int) (mi : Int) (se : Int), decide (wd = 0) || decide (wdZ (dn (yy : Int) mo 1) = wd))) := by rw [Hid, HQ2.out, if_pos ⟨hv1, hv2⟩]
          obtain ⟨tt, htt⟩ : ∃ tt, tt = inst (yy : Int) mo 1 (hr : Int) (mi : Int) (se : Int) := ⟨_, rfl⟩
          obtain ⟨dd0, hdd⟩ : ∃ dd0, dd0 = dn (yy : Int) mo 1 := ⟨_, rfl⟩
          rw [← htt, ← hdd] at HX HQ3
          rw [← htt] at HO
          have HS := Lib.hid (fun w => split_yes tt w HX.out.1)
          rw [HX.out.2.1] at HS
          have HW := Lib.hid (fun w => weekday_c dd0 w HX.out.2.2)
          obtain ⟨z, hz⟩ : ∃ z, z = wdZ dd0 := ⟨_, rfl⟩
          rw [← hz] at HW HQ3
          clear htt hdd hz HX hv1 hv2 HQ2
          by_cases hw0 : wd = 0
          · have HQ4 : Hid (momP (gotK vs) false = (tt, true)) := by rw [Hid, HQ3.out]; simp [hw0]
            have tw : (wd == 0) = true := by simpa using hw0
            clear HQ3 hw0
            go_enter Tryz.func65, Tryz.ntmps65
            go_upto_region 4 with (first
              | (go_at_call 94; (with_reducible refine (same3_l N B b s vs w _ HR.out HB.out mo _ H1.out rfl w.heap.size rfl).mono ?_); rintro e w1 ⟨rfl, rfl⟩)
              | (go_at_call 94; (with_reducible refine (same2_l N B b s vs (w.alloc (.cells #[.int .i64 3, .int .i64 4, .int .i64 5] 3)) _ (HR.out.ext ((Ext.refl w).alloc _)) HB.out wd _ H2.out rfl (w.heap.size + 1) (by simp)).mono ?_); rintro e w1 ⟨rfl, rfl⟩)
              | (go_at_call 95; (with_reducible refine (hour_l N B b s vs _ (HR.out.ext (((Ext.refl w).alloc _).alloc _)) HB.out hr _ H3.out).mono ?_); rintro e w1 ⟨rfl, rfl⟩)
              | go_in)
            have hMW := HM.out.ext hE0
            generalize (w.alloc (.cells #[.int .i64 3, .int .i64 4, .int .i64 5] 3)).alloc (.cells #[.int .i64 7, .int .i64 8] 3) = W at hE0 hMW ⊢
            have hown := hMW.own
            have d41 := hMW.fnd
            have d42 := hMW.cls
            have ltW := hMW.lt
            have HMW := Lib.hid hMW
            clear hMW
            go_upto_region 12 with (first
              | (at_lookup; refine wpList_lookup_own_ok_int _ rfl _ _ 91 rfl 3 3 .i64 mkeyI Tryz.underlying91 Tryz.underlying3 (zeroR _) _ n D rfl hown _ _ rfl (keyOf_int_mk Tryz.underlying3 (show (Lit.int .i64 2).wf = true by decide)) ?_; intro cc hat hwc; rw [HK2.out.1] at hat; injection hat with hat; injection hat with _ hat; subst hat; rw [HK2.out.2])
              | (at_lookup; refine wpList_lookup_own_ok_int _ rfl _ _ 91 rfl 3 3 .i64 mkeyI Tryz.underlying91 Tryz.underlying3 (zeroR _) _ n D rfl hown _ _ rfl (keyOf_int_mk Tryz.underlying3 (show (Lit.int .i64 6).wf = true by decide)) ?_; intro cc hat hwc; rw [HK6.out.1] at hat; injection hat with hat; injection hat with _ hat; subst hat; rw [HK6.out.2])
              | go_in)
            have hl11 : ∀ W', Ext W W' → (Instr.lookup 91 (.map (some b)) (.int .i64 11) false).run Tryz.prog W' = .ok (.int .i64 (mi : Int)) W' := fun W' hW' => lk_run (HMW.out.own.kept (grown_ext hW' none) (by simp)) (by decide) H11.out
            have hl12 : ∀ W', Ext W W' → (Instr.lookup 91 (.map (some b)) (.int .i64 12) false).run Tryz.prog W' = .ok (.int .i64 (se : Int)) W' := fun W' hW' => lk_run (HMW.out.own.kept (grown_ext hW' none) (by simp)) (by decide) H12.out
            have hEd : Ext W W.drew := (Ext.refl W).drew
            have hEd2 : Ext W (W.alloc (.cells #[.int .i64 0, .int .i64 0, .int .i64 0, .int .i64 0, .int .i64 0, .int .i64 0] 128)).drew := ((Ext.refl W).alloc _).drew
            go_region
            clear hl11 hl12 hEd hEd2 hown
            go_wp2_with (first
              | (go_at_call 96; (with_reducible refine (HO.out _).mono ?_); rintro e w3 ⟨rfl, hE3⟩)
              | (go_at_call 87; (with_reducible refine (HS.out _).mono ?_); rintro e w4 ⟨rfl, ⟨nq4, rfl⟩⟩)
              | go_in)
            go_ret2
            exact ⟨by rw [HQ4.out]; rfl, hE0.trans (((Ext.refl W).alloc _).drew.trans (hE3.drewN _))⟩
          · have HQ4 : Hid (momP (gotK vs) false = (tt, decide (z = wd))) := by rw [Hid, HQ3.out]; simp [hw0]
            have tw : (wd == 0) = false := by simpa using hw0
            have HB2 : Hid (∀ x : Bool, (z == wd) = x → decide (z = wd) = x) := fun x h => by rw [← h]; rfl
            clear HQ3 hw0
            go_enter Tryz.func65, Tryz.ntmps65
            go_upto_region 4 with (first
              | (go_at_call 94; (with_reducible refine (same3_l N B b s vs w _ HR.out HB.out mo _ H1.out rfl w.heap.size rfl).mono ?_); rintro e w1 ⟨rfl, rfl⟩)
              | (go_at_call 94; (with_reducible refine (same2_l N B b s vs (w.alloc (.cells #[.int .i64 3, .int .i64 4, .int .i64 5] 3)) _ (HR.out.ext ((Ext.refl w).alloc _)) HB.out wd _ H2.out rfl (w.heap.size + 1) (by simp)).mono ?_); rintro e w1 ⟨rfl, rfl⟩)
              | (go_at_call 95; (with_reducible refine (hour_l N B b s vs _ (HR.out.ext (((Ext.refl w).alloc _).alloc _)) HB.out hr _ H3.out).mono ?_); rintro e w1 ⟨rfl, rfl⟩)
              | go_in)
            have hMW := HM.out.ext hE0
            generalize (w.alloc (.cells #[.int .i64 3, .int .i64 4, .int .i64 5] 3)).alloc (.cells #[.int .i64 7, .int .i64 8] 3) = W at hE0 hMW ⊢
            have hown := hMW.own
            have d41 := hMW.fnd
            have d42 := hMW.cls
            have ltW := hMW.lt
            have HMW := Lib.hid hMW
            clear hMW
            go_upto_region 12 with (first
              | (at_lookup; refine wpList_lookup_own_ok_int _ rfl _ _ 91 rfl 3 3 .i64 mkeyI Tryz.underlying91 Tryz.underlying3 (zeroR _) _ n D rfl hown _ _ rfl (keyOf_int_mk Tryz.underlying3 (show (Lit.int .i64 2).wf = true by decide)) ?_; intro cc hat hwc; rw [HK2.out.1] at hat; injection hat with hat; injection hat with _ hat; subst hat; rw [HK2.out.2])
              | (at_lookup; refine wpList_lookup_own_ok_int _ rfl _ _ 91 rfl 3 3 .i64 mkeyI Tryz.underlying91 Tryz.underlying3 (zeroR _) _ n D rfl hown _ _ rfl (keyOf_int_mk Tryz.underlying3 (show (Lit.int .i64 6).wf = true by decide)) ?_; intro cc hat hwc; rw [HK6.out.1] at hat; injection hat with hat; injection hat with _ hat; subst hat; rw [HK6.out.2])
              | go_in)
            have hl11 : ∀ W', Ext W W' → (Instr.lookup 91 (.map (some b)) (.int .i64 11) false).run Tryz.prog W' = .ok (.int .i64 (mi : Int)) W' := fun W' hW' => lk_run (HMW.out.own.kept (grown_ext hW' none) (by simp)) (by decide) H11.out
            have hl12 : ∀ W', Ext W W' → (Instr.lookup 91 (.map (some b)) (.int .i64 12) false).run Tryz.prog W' = .ok (.int .i64 (se : Int)) W' := fun W' hW' => lk_run (HMW.out.own.kept (grown_ext hW' none) (by simp)) (by decide) H12.out
            have hEd : Ext W W.drew := (Ext.refl W).drew
            have hEd2 : Ext W (W.alloc (.cells #[.int .i64 0, .int .i64 0, .int .i64 0, .int .i64 0, .int .i64 0, .int .i64 0] 128)).drew := ((Ext.refl W).alloc _).drew
            go_region
            clear hl11 hl12 hEd hEd2 hown
            go_wp2_with (first
              | (go_at_call 96; (with_reducible refine (HO.out _).mono ?_); rintro e w3 ⟨rfl, hE3⟩)
              | (go_at_call 87; (with_reducible refine (HS.out _).mono ?_); rintro e w4 ⟨rfl, ⟨nq4, rfl⟩⟩)
              | (go_at_call 88; (with_reducible refine (HW.out _).mono ?_); rintro e w5 ⟨rfl, hE5⟩)
              | go_in)
            go_ret2
            exact ⟨by rw [HQ4.out]; rfl, hE0.trans (((Ext.refl W).alloc _).drew.trans ((hE3.drewN _).trans hE5))⟩
        · have HO := Lib.hid (fun w => of_no (yy : Int) mo 1 (hr : Int) (mi : Int) (se : Int) w hv)
          have HQ3 : Hid (momP (gotK vs) false = (0, false)) := by rw [Hid, HQ2.out, if_neg hv]
          clear hv HQ2
          go_enter Tryz.func65, Tryz.ntmps65
          go_upto_region 4 with (first
            | (go_at_call 94; (with_reducible refine (same3_l N B b s vs w _ HR.out HB.out mo _ H1.out rfl w.heap.size rfl).mono ?_); rintro e w1 ⟨rfl, rfl⟩)
            | (go_at_call 94; (with_reducible refine (same2_l N B b s vs (w.alloc (.cells #[.int .i64 3, .int .i64 4, .int .i64 5] 3)) _ (HR.out.ext ((Ext.refl w).alloc _)) HB.out wd _ H2.out rfl (w.heap.size + 1) (by simp)).mono ?_); rintro e w1 ⟨rfl, rfl⟩)
            | (go_at_call 95; (with_reducible refine (hour_l N B b s vs _ (HR.out.ext (((Ext.refl w).alloc _).alloc _)) HB.out hr _ H3.out).mono ?_); rintro e w1 ⟨rfl, rfl⟩)
            | go_in)
          have hMW := HM.out.ext hE0
          generalize (w.alloc (.cells #[.int .i64 3, .int .i64 4, .int .i64 5] 3)).alloc (.cells #[.int .i64 7, .int .i64 8] 3) = W at hE0 hMW ⊢
          have hown := hMW.own
          have d41 := hMW.fnd
          have d42 := hMW.cls
          have ltW := hMW.lt
          have HMW := Lib.hid hMW
          clear hMW
          go_upto_region 12 with (first
            | (at_lookup; refine wpList_lookup_own_ok_int _ rfl _ _ 91 rfl 3 3 .i64 mkeyI Tryz.underlying91 Tryz.underlying3 (zeroR _) _ n D rfl hown _ _ rfl (keyOf_int_mk Tryz.underlying3 (show (Lit.int .i64 2).wf = true by decide)) ?_; intro cc hat hwc; rw [HK2.out.1] at hat; injection hat with hat; injection hat with _ hat; subst hat; rw [HK2.out.2])
            | (at_lookup; refine wpList_lookup_own_ok_int _ rfl _ _ 91 rfl 3 3 .i64 mkeyI Tryz.underlying91 Tryz.underlying3 (zeroR _) _ n D rfl hown _ _ rfl (keyOf_int_mk Tryz.underlying3 (show (Lit.int .i64 6).wf = true by decide)) ?_; intro cc hat hwc; rw [HK6.out.1] at hat; injection hat with hat; injection hat with _ hat; subst hat; rw [HK6.out.2])
            | go_in)
          have hl11 : ∀ W', Ext W W' → (Instr.lookup 91 (.map (some b)) (.int .i64 11) false).run Tryz.prog W' = .ok (.int .i64 (mi : Int)) W' := fun W' hW' => lk_run (HMW.out.own.kept (grown_ext hW' none) (by simp)) (by decide) H11.out
          have hl12 : ∀ W', Ext W W' → (Instr.lookup 91 (.map (some b)) (.int .i64 12) false).run Tryz.prog W' = .ok (.int .i64 (se : Int)) W' := fun W' hW' => lk_run (HMW.out.own.kept (grown_ext hW' none) (by simp)) (by decide) H12.out
          have hEd : Ext W W.drew := (Ext.refl W).drew
          have hEd2 : Ext W (W.alloc (.cells #[.int .i64 0, .int .i64 0, .int .i64 0, .int .i64 0, .int .i64 0, .int .i64 0] 128)).drew := ((Ext.refl W).alloc _).drew
          go_region
          clear hl11 hl12 hEd hEd2 hown
          go_wp2_with (first
            | (go_at_call 96; (with_reducible refine (HO.out _).mono ?_); rintro e w3 ⟨rfl, hE3⟩)
            | go_in)
          go_ret2
          exact ⟨by rw [HQ3.out]; rfl, hE0.trans (((Ext.refl W).alloc _).drew.trans hE3)⟩
      | some dd =>
        have HK6 := Lib.hid (show Lk D 6 dd true from hm6)
        have hdb := b6 dd rfl
        have HQ2 : Hid (momP (gotK vs) false = if vldB (yy : Int) mo (dd : Int) = true ∧ tmB (hr : Int) (mi : Int) (se : Int) = true then (inst (yy : Int) mo (dd : Int) (hr : Int) (mi : Int) (se : Int), decide (wd = 0) || decide (wdZ (dn (yy : Int) mo (dd : Int)) = wd)) else (0, false)) := HQ.out
        clear HQ hm2 hm6 b2 b6
        by_cases hv : vldB (yy : Int) mo (dd : Int) = true ∧ tmB (hr : Int) (mi : Int) (se : Int) = true
        · obtain ⟨hv1, hv2⟩ := hv
          have HX := Lib.hid (inst_ok hv1 hv2)
          have HO := Lib.hid (fun w => of_yes (yy : Int) mo (dd : Int) (hr : Int) (mi : Int) (se : Int) w hv1 hv2)
          have HQ3 : Hid (momP (gotK vs) false = (inst (yy : Int) mo (dd : Int) (hr : Int) (mi : Int) (se : Int), decide (wd = 0) || decide (wdZ (dn (yy : Int) mo (dd : Int)) = wd))) := by rw [Hid, HQ2.out, if_pos ⟨hv1, hv2⟩]
          obtain ⟨tt, htt⟩ : ∃ tt, tt = inst (yy : Int) mo (dd : Int) (hr : Int) (mi : Int) (se : Int) := ⟨_, rfl⟩
          obtain ⟨dd0, hdd⟩ : ∃ dd0, dd0 = dn (yy : Int) mo (dd : Int) := ⟨_, rfl⟩
          rw [← htt, ← hdd] at HX HQ3
          rw [← htt] at HO
          have HS := Lib.hid (fun w => split_yes tt w HX.out.1)
          rw [HX.out.2.1] at HS
          have HW := Lib.hid (fun w => weekday_c dd0 w HX.out.2.2)
          obtain ⟨z, hz⟩ : ∃ z, z = wdZ dd0 := ⟨_, rfl⟩
          rw [← hz] at HW HQ3
          clear htt hdd hz HX hv1 hv2 HQ2
          by_cases hw0 : wd = 0
          · have HQ4 : Hid (momP (gotK vs) false = (tt, true)) := by rw [Hid, HQ3.out]; simp [hw0]
            have tw : (wd == 0) = true := by simpa using hw0
            clear HQ3 hw0
            go_enter Tryz.func65, Tryz.ntmps65
            go_upto_region 4 with (first
              | (go_at_call 94; (with_reducible refine (same3_l N B b s vs w _ HR.out HB.out mo _ H1.out rfl w.heap.size rfl).mono ?_); rintro e w1 ⟨rfl, rfl⟩)
              | (go_at_call 94; (with_reducible refine (same2_l N B b s vs (w.alloc (.cells #[.int .i64 3, .int .i64 4, .int .i64 5] 3)) _ (HR.out.ext ((Ext.refl w).alloc _)) HB.out wd _ H2.out rfl (w.heap.size + 1) (by simp)).mono ?_); rintro e w1 ⟨rfl, rfl⟩)
              | (go_at_call 95; (with_reducible refine (hour_l N B b s vs _ (HR.out.ext (((Ext.refl w).alloc _).alloc _)) HB.out hr _ H3.out).mono ?_); rintro e w1 ⟨rfl, rfl⟩)
              | go_in)
            have hMW := HM.out.ext hE0
            generalize (w.alloc (.cells #[.int .i64 3, .int .i64 4, .int .i64 5] 3)).alloc (.cells #[.int .i64 7, .int .i64 8] 3) = W at hE0 hMW ⊢
            have hown := hMW.own
            have d41 := hMW.fnd
            have d42 := hMW.cls
            have ltW := hMW.lt
            have HMW := Lib.hid hMW
            clear hMW
            go_upto_region 12 with (first
              | (at_lookup; refine wpList_lookup_own_ok_int _ rfl _ _ 91 rfl 3 3 .i64 mkeyI Tryz.underlying91 Tryz.underlying3 (zeroR _) _ n D rfl hown _ _ rfl (keyOf_int_mk Tryz.underlying3 (show (Lit.int .i64 2).wf = true by decide)) ?_; intro cc hat hwc; rw [HK2.out.1] at hat; injection hat with hat; injection hat with _ hat; subst hat; rw [HK2.out.2])
              | (at_lookup; refine wpList_lookup_own_ok_int _ rfl _ _ 91 rfl 3 3 .i64 mkeyI Tryz.underlying91 Tryz.underlying3 (zeroR _) _ n D rfl hown _ _ rfl (keyOf_int_mk Tryz.underlying3 (show (Lit.int .i64 6).wf = true by decide)) ?_; intro cc hat hwc; rw [HK6.out.1] at hat; injection hat with hat; injection hat with _ hat; subst hat; rw [HK6.out.2])
              | go_in)
            have hl11 : ∀ W', Ext W W' → (Instr.lookup 91 (.map (some b)) (.int .i64 11) false).run Tryz.prog W' = .ok (.int .i64 (mi : Int)) W' := fun W' hW' => lk_run (HMW.out.own.kept (grown_ext hW' none) (by simp)) (by decide) H11.out
            have hl12 : ∀ W', Ext W W' → (Instr.lookup 91 (.map (some b)) (.int .i64 12) false).run Tryz.prog W' = .ok (.int .i64 (se : Int)) W' := fun W' hW' => lk_run (HMW.out.own.kept (grown_ext hW' none) (by simp)) (by decide) H12.out
            have hEd : Ext W W.drew := (Ext.refl W).drew
            have hEd2 : Ext W (W.alloc (.cells #[.int .i64 0, .int .i64 0, .int .i64 0, .int .i64 0, .int .i64 0, .int .i64 0] 128)).drew := ((Ext.refl W).alloc _).drew
            go_region
            clear hl11 hl12 hEd hEd2 hown
            go_wp2_with (first
              | (go_at_call 96; (with_reducible refine (HO.out _).mono ?_); rintro e w3 ⟨rfl, hE3⟩)
              | (go_at_call 87; (with_reducible refine (HS.out _).mono ?_); rintro e w4 ⟨rfl, ⟨nq4, rfl⟩⟩)
              | go_in)
            go_ret2
            exact ⟨by rw [HQ4.out]; rfl, hE0.trans (((Ext.refl W).alloc _).drew.trans (hE3.drewN _))⟩
          · have HQ4 : Hid (momP (gotK vs) false = (tt, decide (z = wd))) := by rw [Hid, HQ3.out]; simp [hw0]
            have tw : (wd == 0) = false := by simpa using hw0
            have HB2 : Hid (∀ x : Bool, (z == wd) = x → decide (z = wd) = x) := fun x h => by rw [← h]; rfl
            clear HQ3 hw0
            go_enter Tryz.func65, Tryz.ntmps65
            go_upto_region 4 with (first
              | (go_at_call 94; (with_reducible refine (same3_l N B b s vs w _ HR.out HB.out mo _ H1.out rfl w.heap.size rfl).mono ?_); rintro e w1 ⟨rfl, rfl⟩)
              | (go_at_call 94; (with_reducible refine (same2_l N B b s vs (w.alloc (.cells #[.int .i64 3, .int .i64 4, .int .i64 5] 3)) _ (HR.out.ext ((Ext.refl w).alloc _)) HB.out wd _ H2.out rfl (w.heap.size + 1) (by simp)).mono ?_); rintro e w1 ⟨rfl, rfl⟩)
              | (go_at_call 95; (with_reducible refine (hour_l N B b s vs _ (HR.out.ext (((Ext.refl w).alloc _).alloc _)) HB.out hr _ H3.out).mono ?_); rintro e w1 ⟨rfl, rfl⟩)
              | go_in)
            have hMW := HM.out.ext hE0
            generalize (w.alloc (.cells #[.int .i64 3, .int .i64 4, .int .i64 5] 3)).alloc (.cells #[.int .i64 7, .int .i64 8] 3) = W at hE0 hMW ⊢
            have hown := hMW.own
            have d41 := hMW.fnd
            have d42 := hMW.cls
            have ltW := hMW.lt
            have HMW := Lib.hid hMW
            clear hMW
            go_upto_region 12 with (first
              | (at_lookup; refine wpList_lookup_own_ok_int _ rfl _ _ 91 rfl 3 3 .i64 mkeyI Tryz.underlying91 Tryz.underlying3 (zeroR _) _ n D rfl hown _ _ rfl (keyOf_int_mk Tryz.underlying3 (show (Lit.int .i64 2).wf = true by decide)) ?_; intro cc hat hwc; rw [HK2.out.1] at hat; injection hat with hat; injection hat with _ hat; subst hat; rw [HK2.out.2])
              | (at_lookup; refine wpList_lookup_own_ok_int _ rfl _ _ 91 rfl 3 3 .i64 mkeyI Tryz.underlying91 Tryz.underlying3 (zeroR _) _ n D rfl hown _ _ rfl (keyOf_int_mk Tryz.underlying3 (show (Lit.int .i64 6).wf = true by decide)) ?_; intro cc hat hwc; rw [HK6.out.1] at hat; injection hat with hat; injection hat with _ hat; subst hat; rw [HK6.out.2])
              | go_in)
            have hl11 : ∀ W', Ext W W' → (Instr.lookup 91 (.map (some b)) (.int .i64 11) false).run Tryz.prog W' = .ok (.int .i64 (mi : Int)) W' := fun W' hW' => lk_run (HMW.out.own.kept (grown_ext hW' none) (by simp)) (by decide) H11.out
            have hl12 : ∀ W', Ext W W' → (Instr.lookup 91 (.map (some b)) (.int .i64 12) false).run Tryz.prog W' = .ok (.int .i64 (se : Int)) W' := fun W' hW' => lk_run (HMW.out.own.kept (grown_ext hW' none) (by simp)) (by decide) H12.out
            have hEd : Ext W W.drew := (Ext.refl W).drew
            have hEd2 : Ext W (W.alloc (.cells #[.int .i64 0, .int .i64 0, .int .i64 0, .int .i64 0, .int .i64 0, .int .i64 0] 128)).drew := ((Ext.refl W).alloc _).drew
            go_region
            clear hl11 hl12 hEd hEd2 hown
            go_wp2_with (first
              | (go_at_call 96; (with_reducible refine (HO.out _).mono ?_); rintro e w3 ⟨rfl, hE3⟩)
              | (go_at_call 87; (with_reducible refine (HS.out _).mono ?_); rintro e w4 ⟨rfl, ⟨nq4, rfl⟩⟩)
              | (go_at_call 88; (with_reducible refine (HW.out _).mono ?_); rintro e w5 ⟨rfl, hE5⟩)
              | go_in)
            go_ret2
            exact ⟨by rw [HQ4.out]; rfl, hE0.trans (((Ext.refl W).alloc _).drew.trans ((hE3.drewN _).trans hE5))⟩
        · have HO := Lib.hid (fun w => of_no (yy : Int) mo (dd : Int) (hr : Int) (mi : Int) (se : Int) w hv)
          have HQ3 : Hid (momP (gotK vs) false = (0, false)) := by rw [Hid, HQ2.out, if_neg hv]
          clear hv HQ2
          go_enter Tryz.func65, Tryz.ntmps65
          go_upto_region 4 with (first
            | (go_at_call 94; (with_reducible refine (same3_l N B b s vs w _ HR.out HB.out mo _ H1.out rfl w.heap.size rfl).mono ?_); rintro e w1 ⟨rfl, rfl⟩)
            | (go_at_call 94; (with_reducible refine (same2_l N B b s vs (w.alloc (.cells #[.int .i64 3, .int .i64 4, .int .i64 5] 3)) _ (HR.out.ext ((Ext.refl w).alloc _)) HB.out wd _ H2.out rfl (w.heap.size + 1) (by simp)).mono ?_); rintro e w1 ⟨rfl, rfl⟩)
            | (go_at_call 95; (with_reducible refine (hour_l N B b s vs _ (HR.out.ext (((Ext.refl w).alloc _).alloc _)) HB.out hr _ H3.out).mono ?_); rintro e w1 ⟨rfl, rfl⟩)
            | go_in)
          have hMW := HM.out.ext hE0
          generalize (w.alloc (.cells #[.int .i64 3, .int .i64 4, .int .i64 5] 3)).alloc (.cells #[.int .i64 7, .int .i64 8] 3) = W at hE0 hMW ⊢
          have hown := hMW.own
          have d41 := hMW.fnd
          have d42 := hMW.cls
          have ltW := hMW.lt
          have HMW := Lib.hid hMW
          clear hMW
          go_upto_region 12 with (first
            | (at_lookup; refine wpList_lookup_own_ok_int _ rfl _ _ 91 rfl 3 3 .i64 mkeyI Tryz.underlying91 Tryz.underlying3 (zeroR _) _ n D rfl hown _ _ rfl (keyOf_int_mk Tryz.underlying3 (show (Lit.int .i64 2).wf = true by decide)) ?_; intro cc hat hwc; rw [HK2.out.1] at hat; injection hat with hat; injection hat with _ hat; subst hat; rw [HK2.out.2])
            | (at_lookup; refine wpList_lookup_own_ok_int _ rfl _ _ 91 rfl 3 3 .i64 mkeyI Tryz.underlying91 Tryz.underlying3 (zeroR _) _ n D rfl hown _ _ rfl (keyOf_int_mk Tryz.underlying3 (show (Lit.int .i64 6).wf = true by decide)) ?_; intro cc hat hwc; rw [HK6.out.1] at hat; injection hat with hat; injection hat with _ hat; subst hat; rw [HK6.out.2])
            | go_in)
          have hl11 : ∀ W', Ext W W' → (Instr.lookup 91 (.map (some b)) (.int .i64 11) false).run Tryz.prog W' = .ok (.int .i64 (mi : Int)) W' := fun W' hW' => lk_run (HMW.out.own.kept (grown_ext hW' none) (by simp)) (by decide) H11.out
          have hl12 : ∀ W', Ext W W' → (Instr.lookup 91 (.map (some b)) (.int .i64 12) false).run Tryz.prog W' = .ok (.int .i64 (se : Int)) W' := fun W' hW' => lk_run (HMW.out.own.kept (grown_ext hW' none) (by simp)) (by decide) H12.out
          have hEd : Ext W W.drew := (Ext.refl W).drew
          have hEd2 : Ext W (W.alloc (.cells #[.int .i64 0, .int .i64 0, .int .i64 0, .int .i64 0, .int .i64 0, .int .i64 0] 128)).drew := ((Ext.refl W).alloc _).drew
          go_region
          clear hl11 hl12 hEd hEd2 hown
          go_wp2_with (first
            | (go_at_call 96; (with_reducible refine (HO.out _).mono ?_); rintro e w3 ⟨rfl, hE3⟩)
            | go_in)
          go_ret2
          exact ⟨by rw [HQ3.out]; rfl, hE0.trans (((Ext.refl W).alloc _).drew.trans hE3)⟩
end Go.Proofs.YticckkadmhklmaaGreatDoor
