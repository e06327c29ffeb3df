/- The walk of the reference's Parse of moments. -/
import Derived.Test.YtgndogpgfgliaaaGreatDoorQ09
import Derived.Test.YtgndogpgfgliaaaGreatDoorQ00
import Derived.Test.YtgndogpgfgliaaaGreatDoorQ01
import Derived.Deep.RegionWith
import Derived.Deep.DeepCutAuto
import Derived.Test.YtgndogpgfgliaaaGreatDoorShelf
import Derived.Deep.CutRange
namespace Go.Proofs.YtgndogpgfgliaaaGreatDoor
set_option linter.unusedVariables false
set_option linter.unnecessarySimpa false
set_option linter.unusedSimpArgs false
open Go.RowKit

theorem rnum_x (l f : List UInt8) (a b : Nat) (v : Int) (w : World) (hf : (l.drop a).take (b - a) = f) (h1 : f.length ≤ 9) (hd : ∀ c ∈ f, isDg c = true) (hv : (val f : Int) = v) :
    Calls Tryz.prog 111 #[.string ((⟨l.toArray⟩ : ByteArray).extract a b)] w fun e w' => e = .returned (.int .i64 v) ∧ w = w' := by
  rw [bmid, hf, ← hv]
  exact rnumber_c f w h1 hd
/-- What the reference's Parse gives at a text of the form. -/
def prsR (y m d hh mi s : Int) : Value := if vldB y m d = true ∧ tmB hh mi s = true then .tuple #[.agg #[.int .i64 y, .int .i64 m, .int .i64 d, .int .i64 hh, .int .i64 mi, .int .i64 s], .int .i64 0] else .tuple #[mom0, .int .i64 1]
set_option maxRecDepth 100000 in
set_option maxHeartbeats 4000000 in
theorem rparse_f (y m d hh mi s : Int) (w : World) (y0 : 0 ≤ y) (y1 : y ≤ 9999) (m0 : 0 ≤ m) (m1 : m ≤ 99) (d0 : 0 ≤ d) (d1 : d ≤ 99) (h0 : 0 ≤ hh) (h1 : hh ≤ 99) (i0 : 0 ≤ mi) (i1 : mi ≤ 99) (s0 : 0 ≤ s) (s1 : s ≤ 99) :
    Calls Tryz.prog 61 #[.string ⟨(mtx y m d hh mi s).toArray⟩] w fun e w' => e = .returned (prsR y m d hh mi s) ∧ Ext w w' := by
  have HF := Lib.hid (mtx_form y m d hh mi s)
  have hl := mtx_length y m d hh mi s
  have P0 := Lib.hid (mtx_s0 y m d hh mi s)
  have P1 := Lib.hid (mtx_s1 y m d hh mi s)
  have P2 := Lib.hid (mtx_s2 y m d hh mi s)
  have P3 := Lib.hid (mtx_s3 y m d hh mi s)
  have P4 := Lib.hid (mtx_s4 y m d hh mi s)
  have P5 := Lib.hid (mtx_s5 y m d hh mi s)
  have V0 : Hid ((val (padN 4 y.toNat) : Int) = y) := by rw [Hid, val_padN 4 y.toNat (by omega)]; omega
  have V1 : Hid ((val (padN 2 m.toNat) : Int) = m) := by rw [Hid, val_padN 2 m.toNat (by omega)]; omega
  have V2 : Hid ((val (padN 2 d.toNat) : Int) = d) := by rw [Hid, val_padN 2 d.toNat (by omega)]; omega
  have V3 : Hid ((val (padN 2 hh.toNat) : Int) = hh) := by rw [Hid, val_padN 2 hh.toNat (by omega)]; omega
  have V4 : Hid ((val (padN 2 mi.toNat) : Int) = mi) := by rw [Hid, val_padN 2 mi.toNat (by omega)]; omega
  have V5 : Hid ((val (padN 2 s.toNat) : Int) = s) := by rw [Hid, val_padN 2 s.toNat (by omega)]; omega
  have Hl := Lib.hid hl
  generalize mtx y m d hh mi s = l at hl HF P0 P1 P2 P3 P4 P5 Hl ⊢
  go_enter Tryz.func61, Tryz.ntmps61
  go_wp2_with (go_at_call 110; refine (rform_y l _ HF.out).mono ?_; rintro e w' ⟨rfl, rfl⟩)
  go_cut [4] (fun a wx => a = .pointer (some ⟨w.heap.size + 1, 0, none⟩) ∧ wx = ((w.alloc (.cells #[.int .i64 0, .int .i64 0, .int .i64 0, .int .i64 0, .int .i64 0, .int .i64 0] 98)).alloc (.cells #[.int .i64 y, .int .i64 m, .int .i64 d, .int .i64 hh, .int .i64 mi, .int .i64 s] 98)).drew)
  case first =>
    go_region_with (first
      | (go_at_call 111; (with_reducible refine (rnum_x l _ 0 4 _ _ P0.out (by rw [padN_length]; omega) (padN_dg _ _) V0.out).mono ?_); rintro e w' ⟨rfl, rfl⟩)
      | (go_at_call 111; (with_reducible refine (rnum_x l _ 5 7 _ _ P1.out (by rw [padN_length]; omega) (padN_dg _ _) V1.out).mono ?_); rintro e w' ⟨rfl, rfl⟩)
      | (go_at_call 111; (with_reducible refine (rnum_x l _ 8 10 _ _ P2.out (by rw [padN_length]; omega) (padN_dg _ _) V2.out).mono ?_); rintro e w' ⟨rfl, rfl⟩)
      | (go_at_call 111; (with_reducible refine (rnum_x l _ 11 13 _ _ P3.out (by rw [padN_length]; omega) (padN_dg _ _) V3.out).mono ?_); rintro e w' ⟨rfl, rfl⟩)
      | (go_at_call 111; (with_reducible refine (rnum_x l _ 14 16 _ _ P4.out (by rw [padN_length]; omega) (padN_dg _ _) V4.out).mono ?_); rintro e w' ⟨rfl, rfl⟩)
      | (go_at_call 111; (with_reducible refine (rnum_x l _ 17 19 _ _ P5.out (by rw [padN_length]; omega) (padN_dg _ _) V5.out).mono ?_); rintro e w' ⟨rfl, rfl⟩))
    all_goals
      go_wp2_with fail
      go_meet
      exact ⟨rfl, rfl⟩
  case rest =>
    obtain ⟨rfl, rfl⟩ := hcut
    by_cases hv : vldB y m d = true ∧ tmB hh mi s = true
    · obtain ⟨hv1, hv2⟩ := hv
      have HR : Hid (prsR y m d hh mi s = .tuple #[.agg #[.int .i64 y, .int .i64 m, .int .i64 d, .int .i64 hh, .int .i64 mi, .int .i64 s], .int .i64 0]) := if_pos ⟨hv1, hv2⟩
      go_wp2_with (go_at_call 112; (with_reducible refine (rvalidm_yes y m d hh mi s _ hv1 hv2).mono ?_); rintro e w9 ⟨rfl, hE9⟩; have k9 := hE9.cells; have f9 := hE9.frozens; have z9 : w.heap.size + 1 < w9.heap.size := (by have := hE9.size; simp at this; omega))
      refine bodyPost_ret (v := prsR y m d hh mi s) ?_ rfl ⟨rfl, ?_⟩
      · rw [HR.out]
        have r0 : w9.cell? ⟨w.heap.size, 0, none⟩ = some (.int .i64 0) := by rw [k9 _ _ (by simp; omega)]; simp
        have r1 : w9.cell? ⟨w.heap.size, 1, none⟩ = some (.int .i64 0) := by rw [k9 _ _ (by simp; omega)]; simp
        have r2 : w9.cell? ⟨w.heap.size, 2, none⟩ = some (.int .i64 0) := by rw [k9 _ _ (by simp; omega)]; simp
        have r3 : w9.cell? ⟨w.heap.size, 3, none⟩ = some (.int .i64 0) := by rw [k9 _ _ (by simp; omega)]; simp
        have r4 : w9.cell? ⟨w.heap.size, 4, none⟩ = some (.int .i64 0) := by rw [k9 _ _ (by simp; omega)]; simp
        have r5 : w9.cell? ⟨w.heap.size, 5, none⟩ = some (.int .i64 0) := by rw [k9 _ _ (by simp; omega)]; simp
        obtain ⟨s0, s1, s2, s3, s4, s5⟩ := set6 w9 w.heap.size (v0 := .int .i64 y) (v1 := .int .i64 m) (v2 := .int .i64 d) (v3 := .int .i64 hh) (v4 := .int .i64 mi) (v5 := .int .i64 s) r0 r1 r2 r3 r4 r5
        simp [results, Tryz.results61, go_sem, s0, s1, s2, s3, s4, s5]
      · iterate 6 refine Ext.setCell ?_ (by simp) _
        exact (((((Ext.refl w).alloc _).alloc _).drew).trans hE9)
    · have HR : Hid (prsR y m d hh mi s = .tuple #[mom0, .int .i64 1]) := if_neg hv
      have Hv := Lib.hid hv
      clear hv
      go_wp2_with (go_at_call 112; (with_reducible refine (rvalidm_no y m d hh mi s _ Hv.out).mono ?_); rintro e w9 ⟨rfl, hE9⟩; have k9 := hE9.cells; have f9 := hE9.frozens; have z9 : w.heap.size + 1 < w9.heap.size := (by have := hE9.size; simp at this; omega))
      refine bodyPost_ret (v := prsR y m d hh mi s) ?_ rfl ⟨rfl, ?_⟩
      · rw [HR.out]
        unfold mom0
        have r0 : w9.cell? ⟨w.heap.size, 0, none⟩ = some (.int .i64 0) := by rw [k9 _ _ (by simp; omega)]; simp
        have r1 : w9.cell? ⟨w.heap.size, 1, none⟩ = some (.int .i64 0) := by rw [k9 _ _ (by simp; omega)]; simp
        have r2 : w9.cell? ⟨w.heap.size, 2, none⟩ = some (.int .i64 0) := by rw [k9 _ _ (by simp; omega)]; simp
        have r3 : w9.cell? ⟨w.heap.size, 3, none⟩ = some (.int .i64 0) := by rw [k9 _ _ (by simp; omega)]; simp
        have r4 : w9.cell? ⟨w.heap.size, 4, none⟩ = some (.int .i64 0) := by rw [k9 _ _ (by simp; omega)]; simp
        have r5 : w9.cell? ⟨w.heap.size, 5, none⟩ = some (.int .i64 0) := by rw [k9 _ _ (by simp; omega)]; simp
        obtain ⟨s0, s1, s2, s3, s4, s5⟩ := set6 w9 w.heap.size (v0 := .int .i64 0) (v1 := .int .i64 0) (v2 := .int .i64 0) (v3 := .int .i64 0) (v4 := .int .i64 0) (v5 := .int .i64 0) r0 r1 r2 r3 r4 r5
        simp [results, Tryz.results61, go_sem, s0, s1, s2, s3, s4, s5]
      · iterate 6 refine Ext.setCell ?_ (by simp) _
        exact (((((Ext.refl w).alloc _).alloc _).drew).trans hE9)
set_option maxRecDepth 100000 in
theorem rparse_n (l : List UInt8) (w : World) (h : ¬ formL l) (hb : l.length ≤ 9223372036854775807) :
    Calls Tryz.prog 61 #[.string ⟨l.toArray⟩] w fun e w' => e = .returned (.tuple #[mom0, .int .i64 3]) ∧ Ext w w' := by
  have Hf := Lib.hid h
  clear h
  go_enter Tryz.func61, Tryz.ntmps61
  go_wp2_with (go_at_call 110; refine (rform_n l _ Hf.out hb).mono ?_; rintro e w' ⟨rfl, rfl⟩)
  refine bodyPost_ret (v := .tuple #[mom0, .int .i64 3]) ?_ rfl ⟨rfl, ?_⟩
  · simp [results, Tryz.results61, go_sem, mom0]
  · (repeat (with_reducible (first | assumption | exact Ext.refl _ | refine Ext.alloc ?_ _ | refine Ext.setCell ?_ (by simp) _ | refine Ext.setCell ?_ (by simp; omega) _ | refine Ext.drewN ?_ _ | refine Ext.drew ?_)))
end Go.Proofs.YtgndogpgfgliaaaGreatDoor
/- Frames: what stays as it was outside some blocks. -/
namespace Go.Proofs.YtgndogpgfgliaaaGreatDoor
open Go.RowKit

/-- Outside S, and apart from what is new, the world w' is as w. -/
structure Frm (S : Nat → Prop) (w w' : World) : Prop where
  os : w'.os = w.os
  tape : w'.tape = w.tape
  output : w'.output = w.output
  size : w.heap.size ≤ w'.heap.size
  block : ∀ k, k < w.heap.size → ¬ S k → w'.heap[k]? = w.heap[k]?
theorem Frm.refl (S : Nat → Prop) (w : World) : Frm S w w := ⟨rfl, rfl, rfl, Nat.le_refl _, fun _ _ _ => rfl⟩
theorem Frm.trans {S : Nat → Prop} {a b c : World} (h : Frm S a b) (k : Frm S b c) : Frm S a c :=
  ⟨k.os.trans h.os, k.tape.trans h.tape, k.output.trans h.output, Nat.le_trans h.size k.size, fun i hi hs => (k.block i (Nat.lt_of_lt_of_le hi h.size) hs).trans (h.block i hi hs)⟩
theorem Frm.mono {S T : Nat → Prop} {a b : World} (h : Frm S a b) (hs : ∀ k, k < a.heap.size → S k → T k) : Frm T a b :=
  ⟨h.os, h.tape, h.output, h.size, fun i hi ht => h.block i hi fun q => ht (hs i hi q)⟩
theorem Frm.of_ext {S : Nat → Prop} {a b : World} (h : Ext a b) : Frm S a b := ⟨h.os, h.tape, h.output, h.size, fun i hi _ => h.block i hi⟩
theorem Frm.ext {S : Nat → Prop} {a b : World} (h : Frm S a b) (hs : ∀ k, S k → a.heap.size ≤ k) : Ext a b :=
  ⟨h.os, h.tape, h.output, h.size, fun i hi => h.block i hi fun q => by have := hs i q; omega⟩
theorem Frm.drewN {S : Nat → Prop} {a b : World} (h : Frm S a b) (n : Nat) : Frm S a (b.drewN n) := ⟨h.os, h.tape, h.output, h.size, h.block⟩
theorem Frm.drew {S : Nat → Prop} {a b : World} (h : Frm S a b) : Frm S a b.drew := ⟨h.os, h.tape, h.output, h.size, h.block⟩
theorem Frm.alloc {S : Nat → Prop} {a b : World} (h : Frm S a b) (o : Obj) : Frm S a (b.alloc o) :=
  h.trans (Frm.of_ext ((Ext.refl b).alloc o))
theorem Frm.setCell {S : Nat → Prop} {a b : World} (h : Frm S a b) {p : Addr} (hp : S p.block ∨ a.heap.size ≤ p.block) (u : Value) : Frm S a (b.setCell p u) :=
  ⟨h.os, h.tape, h.output, by simpa [World.setCell] using h.size, fun i hi hs => (Below.heap_setCell b p u i (by rintro rfl; rcases hp with q | q; exact hs q; omega)).trans (h.block i hi hs)⟩
theorem Frm.grown {S : Nat → Prop} {a b c : World} {row : Option Nat} (h : Frm S a b) (hg : b.grownBy c row) (hr : ∀ k, row = some k → S k ∨ a.heap.size ≤ k) : Frm S a c :=
  ⟨hg.os.trans h.os, hg.tape.trans h.tape, hg.output.trans h.output, Nat.le_trans h.size hg.size, fun i hi hs => (hg.block i (Nat.lt_of_lt_of_le hi h.size) (fun e => by rcases hr i e.symm with q | q; exact hs q; omega)).trans (h.block i hi hs)⟩

theorem Frm.cel {S : Nat → Prop} {w w' : World} (h : Frm S w w') {b : Nat} (hb : b < w.heap.size) (hs : ¬ S b) (o : Nat) : w'.cell? ⟨b, o, none⟩ = w.cell? ⟨b, o, none⟩ := by
  unfold World.cell?
  rw [h.block b hb hs]
theorem Frm.frz {S : Nat → Prop} {w w' : World} (h : Frm S w w') {b : Nat} (hb : b < w.heap.size) (hs : ¬ S b) (o : Nat) : w'.frozen? ⟨b, o, none⟩ = w.frozen? ⟨b, o, none⟩ := by
  unfold World.frozen?
  rw [h.block b hb hs]
theorem Frm.lt {S : Nat → Prop} {w w' : World} (h : Frm S w w') {n : Nat} (hn : n < w.heap.size) : n < w'.heap.size := Nat.lt_of_lt_of_le hn h.size
theorem Frm.far {S : Nat → Prop} {a w w' : World} (hE : Ext a w) (h : Frm S w w') (hS : ∀ k, k < a.heap.size → ¬ S k) : Ext a w' :=
  ⟨h.os.trans hE.os, h.tape.trans hE.tape, h.output.trans hE.output, Nat.le_trans hE.size h.size, fun k hk => (h.block k (Nat.lt_of_lt_of_le hk hE.size) (hS k hk)).trans (hE.block k hk)⟩
end Go.Proofs.YtgndogpgfgliaaaGreatDoor
/- Recurrence rules: the walk of zonelex.Number, between -999999999 and 999999999. -/
namespace Go.Proofs.YtgndogpgfgliaaaGreatDoor
set_option linter.unusedVariables false
set_option linter.unnecessarySimpa false
set_option linter.unusedSimpArgs false
open Go.RowKit

theorem uCutP_c (s p X : List UInt8) (b : Bool) (w : World) (hb : p.isPrefixOf s = b) (hX : (if b then s.drop p.length else s) = X) : Calls Tryz.prog 158 #[.string ⟨s.toArray⟩, .string ⟨p.toArray⟩] w fun e w' => e = .returned (.tuple #[.string ⟨X.toArray⟩, .bool b]) ∧ w = w' := by
  refine (Tryz.strings_CutPrefix ⟨s.toArray⟩ ⟨p.toArray⟩ w).mono ?_
  rintro e w' ⟨rfl, rfl⟩
  refine ⟨?_, rfl⟩
  have h1 : (⟨s.toArray⟩ : ByteArray).data.toList = s := by simp
  have h2 : (⟨p.toArray⟩ : ByteArray).data.toList = p := by simp
  rw [h1, h2]
  subst hb
  subst hX
  rfl
theorem zdigit_c (c : UInt8) (w : World) : Calls Tryz.prog 159 #[.int .u8 c.toNat] w fun e w' => e = .returned (.bool (isDg c)) ∧ w = w' := by
  have e1 : isDg c = (decide ((48 : Int) ≤ (c.toNat : Int)) && decide ((c.toNat : Int) ≤ 57)) := by
    unfold isDg
    rw [Bool.eq_iff_iff]
    simp
    omega
  rw [e1]
  go_enter Tryz.func159, Tryz.ntmps159
  go_wp2
  all_goals
    go_ret
    first
      | (simp_all; done)
      | (simp_all; omega)
theorem numT_cut (s : List UInt8) : (if [45].isPrefixOf s then s.drop ([45] : List UInt8).length else s) = numT s ∧ [45].isPrefixOf s = (s.head? == some 45) := by
  cases s with
  | nil => exact ⟨rfl, rfl⟩
  | cons a r =>
    by_cases h : a = 45
    · subst h; exact ⟨rfl, rfl⟩
    · have h1 : ([45] : List UInt8).isPrefixOf (a :: r) = false := by simp [List.isPrefixOf, Ne.symm h]
      refine ⟨?_, ?_⟩
      · rw [h1, if_neg (by simp)]
        unfold numT
        rw [List.head?_cons, if_neg (fun q => h (by injection q))]
      · rw [h1, List.head?_cons]
        symm
        simpa using h
/-- What the digits so far leave: the number's negative, or that it is great. -/
def NumI (t : List UInt8) (i : Nat) (n : Int) (g : Bool) : Prop :=
  (g = false ∧ n = -(val (t.take i) : Int) ∧ val (t.take i) ≤ 9223372036854775808) ∨ (g = true ∧ 999999999 < val (t.take i) ∧ -9223372036854775808 ≤ n ∧ n ≤ 0)
theorem tdiv_dg (d : Nat) (h : d ≤ 9) : Int.tdiv (-9223372036854775808 + (d : Int)) 10 = -(((9223372036854775808 - d) / 10 : Nat) : Int) := by
  obtain rfl | rfl | rfl | rfl | rfl | rfl | rfl | rfl | rfl | rfl : d = 0 ∨ d = 1 ∨ d = 2 ∨ d = 3 ∨ d = 4 ∨ d = 5 ∨ d = 6 ∨ d = 7 ∨ d = 8 ∨ d = 9 := by omega
  all_goals rfl
set_option maxRecDepth 100000 in
set_option maxHeartbeats 2000000 in
theorem znum_c (s : List UInt8) (w : World) (hs : s.length ≤ 100000) :
    Calls Tryz.prog 115 #[.string ⟨s.toArray⟩, .int .i64 (-999999999), .int .i64 999999999] w fun e w' => (∃ ec : Int, e = .returned (.tuple #[.int .i64 ((numZ s).getD 0), .int .i64 ec]) ∧ (ec == 0) = (numZ s).isSome) ∧ w = w' := by
  obtain ⟨c1, c2⟩ := numT_cut s
  obtain ⟨b, hb⟩ : ∃ b, (s.head? == some 45) = b := ⟨_, rfl⟩
  obtain ⟨T, hT⟩ : ∃ T, numT s = T := ⟨_, rfl⟩
  have HCu : Hid (∀ w', Calls Tryz.prog 158 #[.string ⟨s.toArray⟩, .string ⟨#[45]⟩] w' fun e w'' => e = .returned (.tuple #[.string ⟨T.toArray⟩, .bool b]) ∧ w' = w'') := fun w' => uCutP_c s [45] T b w' (c2.trans hb) (by rw [← hT, ← c1, c2.trans hb])
  have hTl : T.length ≤ s.length := by
    rw [← hT]; unfold numT
    split
    · simp
    · exact Nat.le_refl _
  have HB0 : numZB s = (!(decide (T = []) || (T.head? == some 48 && (decide (1 < T.length) || b))) && T.all isDg && decide (val T ≤ 999999999)) := by
    unfold numZB
    rw [hT, hb]
    by_cases q : T = []
    · simp [q]
    · simp [q]
  have HV0 : ∀ n : Int, numZB s = true → (n = if b then -(val T : Int) else (val T : Int)) → numZ s = some n := fun n q1 q2 => by
    unfold numZ
    rw [if_pos q1, hT, q2, ← hb]
    congr 1
    by_cases q : s.head? = some 45
    · simp [q]
    · simp [q]
  have HN0 : numZB s = false → numZ s = none := fun q => by unfold numZ; rw [q]; simp
  have HV := Lib.hid HV0
  have HN := Lib.hid HN0
  have HB := Lib.hid HB0
  have Hb := Lib.hid hb
  clear HV0 HN0 HB0
  have HT := Lib.hid hT
  clear hb hT c1 c2
  go_enter Tryz.func115, Tryz.ntmps115
  go_upto_region 2 with (first
    | (go_at_call 158; (with_reducible refine (HCu.out _).mono ?_); rintro e w1 ⟨rfl, rfl⟩))
  obtain ⟨bd, hbd⟩ : ∃ bd : Bool, bd = (decide (T = []) || (T.head? == some 48 && (decide (1 < T.length) || b))) := ⟨_, rfl⟩
  go_cut [33] from 19 to 33 (fun x wx => x = .bool bd ∧ w = wx)
  case first =>
    by_cases h0 : T = []
    · have tT : (T == []) = true := by simpa using h0
      have tT3 : T.isEmpty = true := by simpa using h0
      have hd : bd = true := by rw [hbd]; simp [h0]
      clear h0
      go_wp2_with fail
      go_meet
      exact ⟨by rw [hd], rfl⟩
    · have tT : (T == []) = false := by simpa using h0
      have tT3 : T.isEmpty = false := by simpa using h0
      obtain ⟨c, r, hcr⟩ := List.exists_cons_of_ne_nil h0
      have hz : 0 < T.length := List.length_pos_iff.2 h0
      have bg := bget T 0 hz c (by subst hcr; rfl)
      have hh : T.head? = some c := by rw [hcr]; rfl
      by_cases h48 : c = 48
      · have z1 : ((c.toNat : Int) == 48) = true := by rw [h48]; rfl
        obtain ⟨g1, hg1⟩ : ∃ g1 : Bool, decide ((1 : Int) < (T.length : Int)) = g1 := ⟨_, rfl⟩
        have hd : bd = (g1 || b) := by
          rw [hbd, hh, h48, ← hg1, show decide ((1 : Int) < (T.length : Int)) = decide (1 < T.length) from decide_eq_decide.2 (by omega)]
          simp [h0]
        clear hcr hh h48
        cases g1
        all_goals
          go_wp2_with fail
          go_meet
          exact ⟨by rw [hd]; simp, rfl⟩
      · have z1 : ((c.toNat : Int) == 48) = false := by
          rw [beq_eq_false_iff_ne]
          intro q
          exact h48 (UInt8.toNat_inj.1 (by have : (48 : UInt8).toNat = 48 := rfl; omega))
        have hd : bd = false := by
          rw [hbd, hh]
          simp [h0, h48]
        clear hcr hh h48
        go_wp2_with fail
        go_meet
        exact ⟨by rw [hd], rfl⟩
  case rest =>
    obtain ⟨rfl, rfl⟩ := hcut
    have HB1 := Lib.hid HB.out
    rw [← hbd] at HB1
    clear hbd HB
    cases bd with
    | true =>
      have hn := HN.out (by rw [HB1.out]; rfl)
      go_wp2_with fail
      go_ret2
      exact ⟨⟨3, by rw [hn]; rfl, by rw [hn]; rfl⟩, rfl⟩
    | false =>
      go_wp2_with fail
      go_loopw [10, 11, 36] (fun n g i wr => ∃ (j : Nat) (v : Int) (gb : Bool), j ≤ T.length ∧ n = .int .i64 v ∧ g = .bool gb ∧ i = .int .i64 (j : Int) ∧ NumI T j v gb ∧ (∀ c ∈ T.take j, isDg c = true) ∧ w = wr) (fun _ _ i _ => T.length - (intOf i).toNat)
      case atStart => exact ⟨0, 0, false, Nat.zero_le _, rfl, rfl, rfl, .inl ⟨rfl, by simp [val], by simp [val]⟩, by simp, rfl⟩
      case round =>
        obtain ⟨j, v, gb, hj, rfl, rfl, rfl, hI, hD, rfl⟩ := hrel
        by_cases hlt : j < T.length
        · obtain ⟨c, hc⟩ : ∃ c, c = T[j] := ⟨_, rfl⟩
          have bg := bget T j hlt c hc
          have Hc := Lib.hid hc
          have Hmem : Hid (c ∈ T) := by rw [Hid, hc]; exact List.getElem_mem hlt
          have hv0 := val_take_succ T j hlt
          have htk := List.take_succ_eq_append_getElem hlt
          rw [← hc] at hv0 htk
          clear hc
          rcases Bool.eq_false_or_eq_true (isDg c) with hd | hd
          · have hcd := isDg_iff.1 hd
            obtain ⟨d, hdd⟩ : ∃ d : Nat, c.toNat = d + 48 := ⟨c.toNat - 48, by omega⟩
            have hd9 : d ≤ 9 := by omega
            have hv1 : val (T.take (j + 1)) = 10 * val (T.take j) + d := by rw [hv0, hdd, Nat.add_sub_cancel]
            have Hdc : Hid (∀ w', Calls Tryz.prog 159 #[.int .u8 ((d : Int) + 48)] w' fun e w'' => e = .returned (.bool true) ∧ w' = w'') := fun w' => by
              have := zdigit_c c w'
              rw [hd, show ((c.toNat : Nat) : Int) = (d : Int) + 48 by omega] at this
              exact this
            have hD2 : ∀ x ∈ T.take (j + 1), isDg x = true := fun x hx => by
              rw [htk, List.mem_append, List.mem_singleton] at hx
              rcases hx with q | q
              · exact hD x q
              · rw [q]; exact hd
            have HD2 := Lib.hid hD2
            have Hv1 := Lib.hid hv1
            clear hv0 htk hD2
            have hsub : (c.toNat : Int) - 48 = (d : Int) := by omega
            rcases hI with ⟨rfl, hv, hvle⟩ | ⟨rfl, hvg, hv2, hv3⟩
            · go_upto_region 11 with (go_at_call 159; (with_reducible refine (Hdc.out _).mono ?_); rintro e w1 ⟨rfl, rfl⟩)
              subst hv
              obtain ⟨V, hV⟩ : ∃ V, V = val (T.take j) := ⟨_, rfl⟩
              rw [← hV] at Hv1 hvle ⊢
              clear hV
              have htd := tdiv_dg d hd9
              obtain ⟨q, hq⟩ : ∃ q, q = Int.tdiv (-9223372036854775808 + (d : Int)) 10 := ⟨_, rfl⟩
              by_cases hlq : -(V : Int) < q
              · have tq : decide (-(V : Int) < q) = true := by simpa using hlq
                rw [hq] at tq
                have hbig : 999999999 < 10 * V + d := by rw [hq, htd] at hlq; omega
                have Hbig := Lib.hid hbig
                clear hlq hbig htd hq
                go_wp2_with fail
                go_roundw
                case rel => exact ⟨j + 1, -(V : Int), true, by omega, rfl, rfl, by go_num, .inr ⟨rfl, by rw [Hv1.out]; exact Hbig.out, by omega, by omega⟩, HD2.out, by first | rfl | trivial⟩
                case measure => simp [intOf]; omega
              · have tq : decide (-(V : Int) < q) = false := by simpa using hlq
                rw [hq] at tq
                have hsm : 10 * V + d ≤ 9223372036854775808 := by rw [hq, htd] at hlq; omega
                clear hlq htd hq
                go_wp2_with fail
                go_roundw
                case rel => exact ⟨j + 1, -((10 * V + d : Nat) : Int), false, by omega, by go_num, rfl, by go_num, .inl ⟨rfl, by rw [Hv1.out], by rw [Hv1.out]; exact hsm⟩, HD2.out, by first | rfl | trivial⟩
                case measure => simp [intOf]; omega
            · go_wp2_with (go_at_call 159; (with_reducible refine (Hdc.out _).mono ?_); rintro e w1 ⟨rfl, rfl⟩)
              go_roundw
              case rel => exact ⟨j + 1, v, true, by omega, rfl, rfl, by go_num, .inr ⟨rfl, by rw [Hv1.out]; omega, hv2, hv3⟩, HD2.out, by first | rfl | trivial⟩
              case measure => simp [intOf]; omega
          · have hn := HN.out (by rw [HB1.out]; have : T.all isDg = false := by
                                    rw [List.all_eq_false]
                                    exact ⟨c, Hmem.out, by rw [hd]; simp⟩
                                  rw [this]; simp)
            have Hdc : Hid (∀ w', Calls Tryz.prog 159 #[.int .u8 c.toNat] w' fun e w'' => e = .returned (.bool false) ∧ w' = w'') := fun w' => by
              have := zdigit_c c w'
              rwa [hd] at this
            go_wp2_with (go_at_call 159; (with_reducible refine (Hdc.out _).mono ?_); rintro e w1 ⟨rfl, rfl⟩)
            go_ret2
            exact ⟨⟨3, by rw [hn]; rfl, by rw [hn]; rfl⟩, rfl⟩
        · obtain rfl : j = T.length := by omega
          unfold NumI at hI
          rw [List.take_length] at hI hD
          have hal : T.all isDg = true := List.all_eq_true.2 hD
          have hB2 : numZB s = decide (val T ≤ 999999999) := by rw [HB1.out, hal]; simp
          have hV1 := HV.out
          obtain ⟨V, hV⟩ : ∃ V, V = val T := ⟨_, rfl⟩
          rw [← hV] at hI hB2
          simp only [← hV] at hV1
          have HB2 := Lib.hid hB2
          have HV1 := Lib.hid hV1
          clear hV hB2 hV1 hal hD HV HB1
          rcases hI with ⟨rfl, rfl, hle⟩ | ⟨rfl, hg, h2, h3⟩
          · by_cases hs9 : V ≤ 999999999
            · have hZ : numZB s = true := by rw [HB2.out]; simpa using hs9
              have tm : ((-(V : Int)) == -9223372036854775808) = false := by rw [beq_eq_false_iff_ne]; omega
              cases b
              · have hn := HV1.out (V : Int) hZ (by simp)
                have Hn := Lib.hid hn
                have d1 : decide ((V : Int) < -999999999) = false := decide_eq_false (by omega)
                have d2 : decide ((999999999 : Int) < (V : Int)) = false := decide_eq_false (by omega)
                have hV9 : (V : Int) ≤ 999999999 := by omega
                clear hn hs9
                go_wp2_with fail
                go_ret2
                exact ⟨⟨0, by rw [Hn.out]; rfl, by rw [Hn.out]; rfl⟩, rfl⟩
              · have hn := HV1.out (-(V : Int)) hZ (by simp)
                have Hn := Lib.hid hn
                have d1 : decide (-(V : Int) < -999999999) = false := decide_eq_false (by omega)
                have d2 : decide ((999999999 : Int) < -(V : Int)) = false := decide_eq_false (by omega)
                have hV9 : (V : Int) ≤ 999999999 := by omega
                clear hn hs9
                go_wp2_with fail
                go_ret2
                exact ⟨⟨0, by rw [Hn.out]; rfl, by rw [Hn.out]; rfl⟩, rfl⟩
            · have hn := HN.out (by rw [HB2.out]; simpa using hs9)
              have Hn := Lib.hid hn
              clear hn
              cases b
              · by_cases h63 : V = 9223372036854775808
                · have tm : ((-(V : Int)) == -9223372036854775808) = true := by rw [beq_iff_eq]; omega
                  clear hs9 h63
                  go_wp2_with fail
                  go_ret2
                  exact ⟨⟨2, by rw [Hn.out]; rfl, by rw [Hn.out]; rfl⟩, rfl⟩
                · have tm : ((-(V : Int)) == -9223372036854775808) = false := by rw [beq_eq_false_iff_ne]; omega
                  have d1 : decide ((V : Int) < -999999999) = false := decide_eq_false (by omega)
                  have d2 : decide ((999999999 : Int) < (V : Int)) = true := decide_eq_true (by omega)
                  have hV63 : (V : Int) ≤ 9223372036854775807 := by omega
                  clear hs9 h63
                  go_wp2_with fail
                  go_ret2
                  exact ⟨⟨2, by rw [Hn.out]; rfl, by rw [Hn.out]; rfl⟩, rfl⟩
              · have hV63 : (V : Int) ≤ 9223372036854775808 := by omega
                have d1 : decide (-(V : Int) < -999999999) = true := decide_eq_true (by omega)
                have d3 : decide ((999999999 : Int) < (V : Int)) = true := decide_eq_true (by omega)
                have d4 : (999999999 : Int) < (V : Int) := by omega
                clear hs9
                go_wp2_with fail
                go_ret2
                exact ⟨⟨2, by rw [Hn.out]; rfl, by rw [Hn.out]; rfl⟩, rfl⟩
          · have hn := HN.out (by rw [HB2.out]; simp; omega)
            have Hn := Lib.hid hn
            clear hn
            go_wp2_with fail
            go_ret2
            exact ⟨⟨2, by rw [Hn.out]; rfl, by rw [Hn.out]; rfl⟩, rfl⟩
end Go.Proofs.YtgndogpgfgliaaaGreatDoor
