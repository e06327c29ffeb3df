/- Recurrence rules: the map of the names seen, as the walk meets it. -/
import Derived.Test.YtgndogpgfgliaaaGreatDoorQ17
import Derived.Test.YtgndogpgfgliaaaGreatDoorQ20
import Derived.Maps.OwnSet
import Derived.StringKeys
namespace Go.Proofs.YtgndogpgfgliaaaGreatDoor
set_option linter.unusedVariables false
set_option linter.unnecessarySimpa false
set_option linter.unusedSimpArgs false
open Go.RowKit Go.Maps

def SeenD (seen : List (List UInt8)) (D : DataW Unit) : Prop := ∀ nm : List UInt8, D.atKey (.string nm) (.lit (.bool false)) = .lit (.bool (decide (nm ∈ seen)))
theorem skey : Keyed Tryz.prog 9 := string_keyed Tryz.underlying9
theorem bool_false : plainElem (H := Unit) Tryz.prog 4 (.bool false) = some (.lit (.bool false), []) := plainElem_bool Tryz.underlying4 false
/-- Block M is the map of the names seen, at most n of them. -/
def SeenM (M n : Nat) (seen : List (List UInt8)) (w : World) : Prop := ∃ Dm : DataW Unit, w.ownsMap Tryz.prog 9 (plainElem Tryz.prog 4) M n Dm ∧ SeenD seen Dm
theorem SeenM.made (w : World) : SeenM w.heap.size 0 [] (w.alloc (.map #[] 0)) := ⟨.map [], World.ownsMap_made w _ _ _, fun nm => rfl⟩
theorem SeenM.lt {M n : Nat} {seen : List (List UInt8)} {w : World} (h : SeenM M n seen w) : M < w.heap.size := by
  obtain ⟨D, ho, -⟩ := h
  exact ho.lt
theorem SeenM.ext {M n : Nat} {seen : List (List UInt8)} {w w' : World} (h : SeenM M n seen w) (hE : Ext w w') : SeenM M n seen w' := by
  obtain ⟨D, ho, hs⟩ := h
  exact ⟨D, ho.kept (grown_ext hE none) (by simp), hs⟩
theorem SeenM.frm {M n : Nat} {F : Nat → Prop} {seen : List (List UInt8)} {w w' : World} (h : SeenM M n seen w) (hF : Frm F w w') (hM : ¬ F M) : SeenM M n seen w' := by
  obtain ⟨D, ho, hs⟩ := h
  have hlt := ho.lt
  obtain ⟨es, clock, hb, G, hsz, hD⟩ := ho
  exact ⟨D, ⟨es, clock, (hF.block M hlt hM).trans hb, G, hsz, hD⟩, hs⟩
set_option maxRecDepth 100000 in
theorem SeenM.look {M n : Nat} {seen : List (List UInt8)} {w : World} (h : SeenM M n seen w) (nm : List UInt8) (hn : nm.length ≤ 100000) (b : Bool) (hb : decide (nm ∈ seen) = b) :
    (Instr.lookup 81 (.map (some M)) (.string ⟨nm.toArray⟩) false).run Tryz.prog w = .ok (.bool b) w := by
  obtain ⟨D, ho, hs⟩ := h
  have hk : keyOf Tryz.prog 9 (.string ⟨nm.toArray⟩) = some (.string nm) := by
    have := WideMaps.keyOf_string_mk (P := Tryz.prog) (k := 9) Tryz.underlying9 (s := ⟨nm.toArray⟩) (by show nm.toArray.size ≤ _; unfold maxLen; simp; omega)
    simpa using this
  obtain ⟨v, ps, hrun, hv⟩ := ho.lookup (t := 81) (e := 4) skey Tryz.underlying81 (z := .bool false) (by go_simp) bool_false hk
  rw [hs nm, hb] at hv
  have hvb : v = .bool b := by
    unfold plainElem at hv
    rw [Tryz.underlying4] at hv
    cases v <;> simp at hv
    rw [hv.1]
  rw [hrun, hvb]
theorem SeenD.put {seen : List (List UInt8)} {D : DataW Unit} {nm : List UInt8} (h : SeenD seen D) (hD : IsMap D) (hk : WideAt.IsKeyLit (.string nm)) : SeenD (nm :: seen) (D.put (.string nm) (.lit (.bool true))) := by
  intro x
  by_cases e : x = nm
  · subst e
    rw [atKey_put_same hD hk]
    simp
  · rw [atKey_put_other (by intro q; injection q with q; exact e q), h x]
    simp [e]
/-- The map's store, at the operation. -/
theorem wpList_seen {ops : Array Oper} {rest : List Oper} {o : Oper} {a : Act} {w : World} {Q : Exit → Act → World → Prop} (hg : o.guard = none) (m x v : Operand) (hop : o.op = Op.mapUpdate 81 m x v) (M n : Nat) (seen : List (List UInt8)) (nm : List UInt8)
    (hm : a.eval m = .map (some M)) (hx : a.eval x = .string ⟨nm.toArray⟩) (hv : a.eval v = .bool true) (hS : SeenM M n seen w) (hn : n ≤ 100000) (hl : nm.length ≤ 100000)
    (hK : ∀ w', SeenM M (n + 1) (nm :: seen) w' → Frm (fun b => b = M) w w' → wpList Tryz.prog ops Q rest (a.put o.dst undef) w') : wpList Tryz.prog ops Q (o :: rest) a w := by
  obtain ⟨D, ho, hs⟩ := hS
  have hk : keyOf Tryz.prog 9 (.string ⟨nm.toArray⟩) = some (.string nm) := by
    have := WideMaps.keyOf_string_mk (P := Tryz.prog) (k := 9) Tryz.underlying9 (s := ⟨nm.toArray⟩) (by show nm.toArray.size ≤ _; unfold maxLen; simp; omega)
    simpa using this
  have hkl : WideAt.IsKeyLit (.string nm) := by
    rw [keyOf_string (P := Tryz.prog) (k := 9) Tryz.underlying9] at hk
    obtain ⟨-, -, -, q⟩ := WideShapes.mapKey_isKey hk
    exact q
  refine wpList_mapUpdate_own w hg m x v 81 hop 9 4 skey Tryz.underlying81 (plainElem Tryz.prog 4) M n D hm ho (by unfold maxLen; omega) _ _ (.string nm) hx hv hk (.lit (.bool true)) [] (plainElem_bool Tryz.underlying4 true) ?_
  intro w' ho' hg'
  refine hK w' ⟨_, ho', hs.put ho.isMap hkl⟩ ⟨hg'.os, hg'.tape, hg'.output, hg'.size, fun i hi hn => hg'.block i hi (by intro e; injection e with e; exact hn e)⟩
end Go.Proofs.YtgndogpgfgliaaaGreatDoor
/- Recurrence rules: the walk of Parse. -/
namespace Go.Proofs.YtgndogpgfgliaaaGreatDoor
set_option linter.unusedVariables false
set_option linter.unnecessarySimpa false
set_option linter.unusedSimpArgs false
open Go.RowKit

theorem frozen_sets (w : World) (b : Nat) : ∀ (vs : List Value) (o : Nat) (a : Addr), (w.setCells b o vs).frozen? a = w.frozen? a := by
  intro vs
  induction vs generalizing w with
  | nil => intro o a; rfl
  | cons v r ih =>
    intro o a
    rw [World.setCells, ih, World.frozen?_setCell]
/-- A store into a variable of its own: what is known behind it, and that it may be stored into again. -/
theorem wpList_store_gen2 {P : Program} {ops : Array Oper} {rest : List Oper} {op : Oper} {a : Act} {w : World} {Q : Exit → Act → World → Prop} (hgd : op.guard = none) (ty : TypeId) (x y : Operand) (ho : op.op = .store ty x y)
    (B : Nat) (vs : List Value) (hx : a.eval x = .pointer (some ⟨B, 0, none⟩)) (hy : a.eval y = .agg vs.toArray) (hB : B < w.heap.size)
    (ht : w.there B 0 vs.length) (hi : (P.info? ty).map (·.size) = some vs.length) (h1 : vs.all (·.oneCell') = true)
    (h : ∀ W, Frm (fun k => k = B) w W → B < W.heap.size → W.rangeAt B 0 vs → W.there B 0 vs.length → wpList P ops Q rest (a.put op.dst undef) W) : wpList P ops Q (op :: rest) a w := by
  refine wpList_store_mid hgd ty x y ho B 0 vs.toArray hx hy (by simpa using ht) (by simpa using hi) (by rw [List.all_toArray]; exact h1) ?_
  have hf := frm_sets (S := fun k => k = B) w B vs 0 rfl
  obtain ⟨r1, r2⟩ := range_set w B vs hB ht
  refine h _ hf r1 r2 (fun j hj => ⟨?_, ?_⟩)
  · rw [r2 j _ (List.getElem?_eq_getElem hj)]; rfl
  · exact (frozen_sets w B vs 0 _).trans (ht j hj).2
theorem cut_len (s : List UInt8) (c : UInt8) : (Lib.cut s [c]).1.length ≤ s.length ∧ (Lib.cut s [c]).2.1.length ≤ s.length := by
  unfold Lib.cut
  split
  · simp only [List.length_take, List.length_drop]
    omega
  · simp
theorem ucut_c (s : List UInt8) (c : UInt8) (A V : List UInt8) (b : Bool) (w : World) (hm : Lm w) (hs : s.length ≤ 100000) (h : Lib.cut s [c] = (A, V, b)) :
    Calls Tryz.prog 54 #[.string ⟨s.toArray⟩, .string ⟨#[c]⟩] w fun e w' => e = .returned (.tuple #[.string ⟨A.toArray⟩, .string ⟨V.toArray⟩, .bool b]) ∧ Ext w w' := by
  obtain ⟨m, hm⟩ := hm
  refine (Tryz.strings_Cut ⟨s.toArray⟩ ⟨#[c]⟩ m w (by show s.toArray.size < _; simp; omega) hm).mono ?_
  rintro e w' ⟨rfl, n, rfl⟩
  have e1 : (⟨s.toArray⟩ : ByteArray).data.toList = s := by simp
  have e2 : (⟨#[c]⟩ : ByteArray).data.toList = [c] := rfl
  rw [e1, e2, h]
  exact ⟨rfl, (Ext.refl _).drewN _⟩
theorem prtZ_er {u : List UInt8 → Option Int} {nm v : List UInt8} {R : RecD} {c : Nat} (h : prtZ u nm v R = .er c) : c = 7 ∨ c = 3 := by
  unfold prtZ at h
  split at h
  · injection h with h; exact .inl h.symm
  · split at h
    · cases h
    · injection h with h; exact .inr h.symm
def ParR (s : List UInt8) (w : World) (e : Ending) (w' : World) : Prop :=
  match parZ untZ vldR s with
  | .er c => e = .returned (.tuple #[.agg Rec.zero.vals.toArray, .int .i64 (c : Int)]) ∧ Ext w w'
  | .ok D' => ∃ r' : Rec, r'.D = D' ∧ e = .returned (.tuple #[.agg r'.vals.toArray, .int .i64 0]) ∧ RcV r' w' ∧ Ext w w'
def Rec.strt : Rec := ⟨RecD.start, fun _ => none, fun _ => 0⟩
theorem strt_v (w : World) : RcV Rec.strt w := ⟨IsV.nil w, IsV.nil w, IsV.nil w, IsV.nil w, OsV.nil w, IsV.nil w, IsV.nil w, IsV.nil w, IsV.nil w⟩
set_option maxRecDepth 100000 in
set_option maxHeartbeats 8000000 in
theorem uparse_c (s : List UInt8) (w : World) (hm : Lm w) (hs : s.length ≤ 1000000) : Calls Tryz.prog 17 #[.string ⟨s.toArray⟩] w (ParR s w) := by
  have hmm := @run_makeMap Tryz.prog
  have hzs := rec_size Rec.zero
  have hz1 := rec_all1 Rec.zero
  obtain ⟨WA, hWA⟩ : ∃ WA, WA = w.alloc (.cells #[.int .i64 0, .int .i64 0, .int .i64 0, .int .i64 0, .slice none 0 0, .slice none 0 0, .slice none 0 0, .slice none 0 0, .slice none 0 0, .slice none 0 0, .slice none 0 0, .slice none 0 0, .slice none 0 0, .int .i64 0] 25) := ⟨_, rfl⟩
  have hEA : Ext w WA := by rw [hWA]; exact (Ext.refl w).alloc _
  have hTA : WA.there w.heap.size 0 14 := by rw [hWA]; exact thr_new w _ _ 14 rfl
  have hzA : WA.heap.size = w.heap.size + 1 := by rw [hWA]; simp
  have HWA := Lib.hid hWA
  by_cases h4 : 4000 < s.length
  · have HR : Hid (∀ e w', e = .returned (.tuple #[.agg Rec.zero.vals.toArray, .int .i64 5]) ∧ Ext w w' → ParR s w e w') := fun e w' h => by
      unfold ParR parZ; rw [if_pos h4]; exact h
    have t1 : decide ((4000 : Int) < (s.length : Int)) = true := decide_eq_true (by omega)
    have t0 : decide (4000 < s.length) = true := decide_eq_true h4
    have HEA := Lib.hid hEA
    clear hWA hm hEA h4
    go_enter Tryz.func17, Tryz.ntmps17
    go_upto_region 1 with fail
    rw [← HWA.out]
    have hlA : w.heap.size < WA.heap.size := by omega
    go_wp2_with (refine wpList_store_gen (op := ⟨none, .store 25 (.tmp 2) (.tmp 16), _, _, _, _⟩) rfl 25 _ _ rfl w.heap.size Rec.zero.vals rfl rfl hlA hTA hzs hz1 ?_; intro W3 hF3 hl3 hr3)
    refine bodyPost_ret (results_ct rfl rfl rfl (run_loadVar_mid W3 w.heap.size 0 25 _ _ hr3 Tryz.underlying25 rfl hzs)) rfl (HR.out _ _ ⟨rfl, Frm.far HEA.out hF3 (fun k hk e => by omega)⟩)
  · have hcnt := spl_count 59 s
    have hlen := spl_len 59 s
    have HPz : Hid (parZ untZ vldR s = runZ untZ vldR (spl 59 s) [] RecD.start) := by rw [Hid]; unfold parZ; rw [if_neg h4]
    obtain ⟨S, hS⟩ : ∃ S, S = spl 59 s := ⟨_, rfl⟩
    obtain ⟨W0, hW0⟩ : ∃ W0, W0 = (WA.alloc (.cells #[.int .i64 0, .int .i64 1, .int .i64 0, .int .i64 0, .slice none 0 0, .slice none 0 0, .slice none 0 0, .slice none 0 0, .slice none 0 0, .slice none 0 0, .slice none 0 0, .slice none 0 0, .slice none 0 0, .int .i64 1] 25)).alloc (.map #[] 0) := ⟨_, rfl⟩
    have hzB : (WA.alloc (.cells #[.int .i64 0, .int .i64 1, .int .i64 0, .int .i64 0, .slice none 0 0, .slice none 0 0, .slice none 0 0, .slice none 0 0, .slice none 0 0, .slice none 0 0, .slice none 0 0, .slice none 0 0, .slice none 0 0, .int .i64 1] 25)).heap.size = w.heap.size + 2 := by simp [hzA]
    have hz0 : W0.heap.size = w.heap.size + 3 := by rw [hW0]; simp [hzA]
    have hEA0 : Ext WA W0 := by rw [hW0]; exact ((Ext.refl _).alloc _).alloc _
    have hEB0 : Ext (WA.alloc (.cells #[.int .i64 0, .int .i64 1, .int .i64 0, .int .i64 0, .slice none 0 0, .slice none 0 0, .slice none 0 0, .slice none 0 0, .slice none 0 0, .slice none 0 0, .slice none 0 0, .slice none 0 0, .slice none 0 0, .int .i64 1] 25)) W0 := by rw [hW0]; exact (Ext.refl _).alloc _
    have hE0 := hEA.trans hEA0
    have hTC : W0.there w.heap.size 0 14 := thr_ext hTA (by omega) hEA0
    have hBD : RcB Rec.strt (w.heap.size + 1) W0 := by
      have := (RcB.new Rec.strt WA 25).ext hEB0
      rwa [hzA] at this
    have hTD : W0.there (w.heap.size + 1) 0 14 := by
      have h1 := thr_new WA (#[.int .i64 0, .int .i64 1, .int .i64 0, .int .i64 0, .slice none 0 0, .slice none 0 0, .slice none 0 0, .slice none 0 0, .slice none 0 0, .slice none 0 0, .slice none 0 0, .slice none 0 0, .slice none 0 0, .int .i64 1]) 25 14 rfl
      have h2 := thr_ext h1 (by simp) hEB0
      rwa [hzA] at h2
    have hSM : SeenM (w.heap.size + 2) 0 [] W0 := by
      have := SeenM.made (WA.alloc (.cells #[.int .i64 0, .int .i64 1, .int .i64 0, .int .i64 0, .slice none 0 0, .slice none 0 0, .slice none 0 0, .slice none 0 0, .slice none 0 0, .slice none 0 0, .slice none 0 0, .slice none 0 0, .slice none 0 0, .int .i64 1] 25))
      rw [hzB] at this
      rw [hW0]
      exact this
    have HSp : Hid (Calls Tryz.prog 31 #[.string ⟨s.toArray⟩, .string ⟨#[59]⟩] W0 fun e w' => e = .returned (.slice (some ⟨W0.heap.size, 0, none⟩) S.length S.length) ∧ RdS S W0.heap.size 0 w' ∧ Ext W0 w') := by
      rw [hS]
      refine (split_c s 59 W0 (hm.ext hE0) (by omega)).mono ?_
      rintro e w' ⟨rfl, rfl⟩
      refine ⟨rfl, ⟨by simp, fun i hi => ?_⟩, (Ext.refl W0).alloc _⟩
      rw [Nat.zero_add, World.cell?_alloc_new]
      simp [hi]
    rw [← hS] at hcnt hlen HPz
    have HW0 := Lib.hid hW0
    have HL := Lib.hid hlen
    have Hm := Lib.hid hm
    have HE0 := Lib.hid hE0
    have HTC := Lib.hid hTC
    have HTD := Lib.hid hTD
    have HBD := Lib.hid hBD
    have HSM := Lib.hid hSM
    have Hz0 := Lib.hid hz0
    obtain ⟨Rz, hRz⟩ : ∃ Rz, Rz = parZ untZ vldR s := ⟨_, rfl⟩
    have HRun0 : Hid (runZ untZ vldR S [] RecD.start = Rz) := by rw [Hid, hRz]; exact HPz.out.symm
    have HEr : Hid (∀ c : Nat, Rz = .er c → ∀ e w', e = .returned (.tuple #[.agg Rec.zero.vals.toArray, .int .i64 (c : Int)]) ∧ Ext w w' → ParR s w e w') := fun c q e w' h => by unfold ParR; rw [← hRz, q]; exact h
    have HOk : Hid (∀ D', Rz = .ok D' → ∀ (e : Ending) (w' : World) (r' : Rec), r'.D = D' → e = .returned (.tuple #[.agg r'.vals.toArray, .int .i64 0]) → RcV r' w' → Ext w w' → ParR s w e w') := fun D' q e w' r' h1 h2 h3 h4 => by unfold ParR; rw [← hRz, q]; exact ⟨r', h1, h2, h3, h4⟩
    have t1 : decide ((4000 : Int) < (s.length : Int)) = false := decide_eq_false (by omega)
    have t0 : decide (4000 < s.length) = false := decide_eq_false h4
    have hS4 : S.length ≤ 4001 := by omega
    have hs4 : s.length ≤ 4000 := by omega
    obtain ⟨D, hD⟩ : ∃ D, D = WA.heap.size := ⟨_, rfl⟩
    have hD1 : w.heap.size + 1 ≤ D ∧ D ≤ w.heap.size + 1 := by omega
    have hDe : w.heap.size + 1 = D := by omega
    have hDe2 : w.heap.size + 2 = D + 1 := by omega
    rw [hDe] at HTD HBD
    rw [hDe2] at HSM
    have HD := Lib.hid hD
    clear hDe hDe2 hD
    clear hWA hm hEA h4 hW0 hzB hz0 hEA0 hEB0 hE0 hTC hTD hBD hSM hlen hS hTA hzA hcnt hRz HPz
    go_enter Tryz.func17, Tryz.ntmps17
    go_upto_region 1 with fail
    rw [← HWA.out]
    go_upto_region 5 with fail
    rw [← HW0.out]
    rw [← HD.out]
    clear hmm
    go_upto_region 6 with (go_at_call 31; (with_reducible refine HSp.out.mono ?_); rintro e w1 ⟨rfl, hR, hE1⟩)
    have HR0 := Lib.hid hR
    have HE1 := Lib.hid hE1
    have hHW : w.heap.size + 3 = W0.heap.size := Hz0.out.symm
    generalize hHe : W0.heap.size = H at *
    have HHe := Lib.hid hHe
    clear hHe
    clear hR hE1
    go_loopw [22] (fun i wr => ∃ (j : Nat) (seen : List (List UInt8)) (r : Rec), j ≤ S.length ∧ i = .int .i64 (j : Int) ∧ SeenM (D + 1) j seen wr ∧ RcB r D wr ∧ wr.there D 0 14 ∧ wr.there w.heap.size 0 14 ∧ (∀ W, Frm (fun b => w.heap.size ≤ b ∧ b ≤ D + 1) wr W → RcV r W) ∧ RdS S H 0 wr ∧ Ext w wr ∧ H ≤ wr.heap.size ∧ runZ untZ vldR (S.drop j) seen r.D = Rz) (fun i _ => S.length - (intOf i).toNat)
    case atStart => exact ⟨0, [], Rec.strt, Nat.zero_le _, rfl, HSM.out.ext HE1.out, HBD.out.ext HE1.out, thr_ext HTD.out (by have := HHe.out; omega) HE1.out, thr_ext HTC.out (by have := HHe.out; omega) HE1.out, (fun W _ => strt_v W), HR0.out, HE0.out.trans HE1.out, by have := HE1.out.size; have := HHe.out; omega, HRun0.out⟩
    case round =>
      obtain ⟨j, seen, r, hj, rfl, hSM, hBD, hTD, hTC, hSt, hRd, hE, hHw, hRun⟩ := hrel
      have hCl : w.heap.size < wr.heap.size := by omega
      have hDl := hBD.1
      have hBr := hBD.2
      have hrs := rec_size r
      by_cases hlt : j < S.length
      · have hRz := hRd.1
        have x0 := hRd.2 j hlt
        rw [Nat.zero_add] at x0
        have hpl := HL.out _ (List.getElem_mem hlt)
        have hrc := hRun
        rw [List.drop_eq_getElem_cons hlt, runZ_cons] at hrc
        replace hrc := hrc.symm
        obtain ⟨p, hp⟩ : ∃ p, p = S[j] := ⟨_, rfl⟩
        rw [← hp] at x0 hpl hrc
        obtain ⟨hA1, hA2⟩ := cut_len p 61
        obtain ⟨A, V, b, hcut⟩ : ∃ A V b, Lib.cut p [61] = (A, V, b) := ⟨_, _, _, rfl⟩
        rw [hcut] at hA1 hA2 hrc
        simp only at hA1 hA2 hrc
        have HCu := Lib.hid (ucut_c p 61 A V b wr (Hm.out.ext hE) (by omega) hcut)
        have HSM := Lib.hid hSM
        have HBD := Lib.hid hBD
        have HTD := Lib.hid hTD
        have HTC := Lib.hid hTC
        have HSt := Lib.hid hSt
        have HRd := Lib.hid hRd
        have HE := Lib.hid hE
        clear hp hcut hSM hTD hTC hSt hRd hRun
        cases b with
        | false =>
          rw [if_pos rfl] at hrc
          have HR := Lib.hid (HEr.out 3 hrc)
          clear hrc
          go_upto_region 10 with (go_at_call 54; (with_reducible refine HCu.out.mono ?_); rintro e w2 ⟨rfl, hE2⟩)
          have hT2 := thr_ext HTC.out hCl hE2
          have hC2 := hE2.lt hCl
          go_wp2_with (refine wpList_store_gen (op := ⟨none, .store 25 (.tmp 2) (.tmp 34), _, _, _, _⟩) rfl 25 _ _ rfl (w.heap.size) Rec.zero.vals rfl rfl hC2 hT2 hzs hz1 ?_; intro W9 hFW9 hlW9 hrW9)
          refine bodyPost_ret (results_ct rfl rfl rfl (run_loadVar_mid W9 w.heap.size 0 25 _ _ hrW9 Tryz.underlying25 rfl hzs)) rfl (HR.out _ _ ⟨rfl, Frm.far (HE.out.trans hE2) hFW9 (fun k hk e => by omega)⟩)
        | true =>
          rw [if_neg (by simp)] at hrc
          have Hrc := Lib.hid hrc
          clear hrc
          go_upto_region 11 with (go_at_call 54; (with_reducible refine HCu.out.mono ?_); rintro e w2 ⟨rfl, hE2⟩)
          have hBD2 := HBD.out.ext hE2
          have hBr2 := hBD2.2
          have HPt := Lib.hid (part_c A V r w2 (Hm.out.ext (HE.out.trans hE2)) (by omega) (HSt.out w2 (Frm.of_ext hE2)))
          have HE2 := Lib.hid hE2
          have hC2 := hE2.lt hCl
          have hD2 := hBD2.1
          clear hBD2 hE2 hBr x0 HCu hRz
          cases hpr : prtZ untZ A V r.D with
          | er c =>
            have hq := Hrc.out
            rw [hpr] at hq
            have HR := Lib.hid (HEr.out c hq)
            have hc0 := prtZ_er hpr
            have t2 : ((c : Int) != 0) = true := by rw [bne_iff_ne]; omega
            have t3 : ((c : Int) == 0) = false := by rw [beq_eq_false_iff_ne]; omega
            have HPt2 : Hid (Calls Tryz.prog 20 #[.string ⟨A.toArray⟩, .string ⟨V.toArray⟩, .agg r.vals.toArray] w2 fun e w' => e = .returned (.tuple #[.agg Rec.zero.vals.toArray, .int .i64 (c : Int)]) ∧ Ext w2 w') := HPt.out.mono (fun e w' h => by unfold PartR at h; rw [hpr] at h; exact h)
            clear hq hpr hc0 HPt
            go_upto_region 12 with (first
              | (refine load_midg (by rfl) 25 _ rfl D 0 rfl r.vals _ hBr2 Tryz.underlying25 rfl hrs ?_)
              | (go_at_call 20; (with_reducible refine HPt2.out.mono ?_); rintro e w3 ⟨rfl, hE3⟩; have hTz := thr_new w3 (#[.int .i64 0, .int .i64 0, .int .i64 0, .int .i64 0, .slice none 0 0, .slice none 0 0, .slice none 0 0, .slice none 0 0, .slice none 0 0, .slice none 0 0, .slice none 0 0, .slice none 0 0, .slice none 0 0, .int .i64 0]) 25 14 rfl; have hlz : w3.heap.size < (w3.alloc (.cells #[.int .i64 0, .int .i64 0, .int .i64 0, .int .i64 0, .slice none 0 0, .slice none 0 0, .slice none 0 0, .slice none 0 0, .slice none 0 0, .slice none 0 0, .slice none 0 0, .slice none 0 0, .slice none 0 0, .int .i64 0] 25)).heap.size := by simp)
              | (refine wpList_store_gen (op := ⟨none, .store 25 (.tmp 11) (.tmp 40), _, _, _, _⟩) rfl 25 _ _ rfl (w3.heap.size) Rec.zero.vals rfl rfl hlz hTz hzs hz1 ?_; intro W4 hFW4 hlW4 hrW4))
            have hE4 : Ext w3 W4 := Frm.far ((Ext.refl w3).alloc _) hFW4 (fun k hk e => by omega)
            have hEx := HE2.out.trans (hE3.trans hE4)
            have hT4 := thr_ext HTC.out hCl hEx
            have hC4 := hEx.lt hCl
            clear hrW4 hlW4 hFW4 hTz hlz
            go_wp2_with (refine wpList_store_gen (op := ⟨none, .store 25 (.tmp 2) (.tmp 44), _, _, _, _⟩) rfl 25 _ _ rfl (w.heap.size) Rec.zero.vals rfl rfl hC4 hT4 hzs hz1 ?_; intro W9 hFW9 hlW9 hrW9)
            refine bodyPost_ret (results_ct rfl rfl rfl (run_loadVar_mid W9 w.heap.size 0 25 _ _ hrW9 Tryz.underlying25 rfl hzs)) rfl (HR.out _ _ ⟨rfl, Frm.far (HE.out.trans hEx) hFW9 (fun k hk e => by omega)⟩)
          | ok D' =>
            have hq := Hrc.out
            rw [hpr] at hq
            simp only at hq
            have HPt2 : Hid (Calls Tryz.prog 20 #[.string ⟨A.toArray⟩, .string ⟨V.toArray⟩, .agg r.vals.toArray] w2 fun e w' => ∃ r' : Rec, r'.D = D' ∧ e = .returned (.tuple #[.agg r'.vals.toArray, .int .i64 0]) ∧ RcV r' w' ∧ Ext w2 w' ∧ (∀ F : Nat → Prop, (∀ b, F b → b < w2.heap.size) → (∀ W, Frm F w2 W → RcV r W) → ∀ W, Frm F w' W → RcV r' W)) := HPt.out.mono (fun e w' h => by unfold PartR at h; rw [hpr] at h; exact h)
            have Hq := Lib.hid hq
            clear hq hpr HPt
            go_upto_region 12 with (first
              | (refine load_midg (by rfl) 25 _ rfl D 0 rfl r.vals _ hBr2 Tryz.underlying25 rfl hrs ?_)
              | (go_at_call 20; (with_reducible refine HPt2.out.mono ?_); rintro e w3 ⟨r', hD', rfl, -, hE3, hStb⟩; have HStb := Lib.hid hStb; have HD' := Lib.hid hD'; have hrs2 := rec_size r'; have hr1 := rec_all1 r'; clear hStb hD'; have hTz := thr_new w3 (#[.int .i64 0, .int .i64 0, .int .i64 0, .int .i64 0, .slice none 0 0, .slice none 0 0, .slice none 0 0, .slice none 0 0, .slice none 0 0, .slice none 0 0, .slice none 0 0, .slice none 0 0, .slice none 0 0, .int .i64 0]) 25 14 rfl; have hlz : w3.heap.size < (w3.alloc (.cells #[.int .i64 0, .int .i64 0, .int .i64 0, .int .i64 0, .slice none 0 0, .slice none 0 0, .slice none 0 0, .slice none 0 0, .slice none 0 0, .slice none 0 0, .slice none 0 0, .slice none 0 0, .slice none 0 0, .int .i64 0] 25)).heap.size := by simp)
              | (refine wpList_store_gen (op := ⟨none, .store 25 (.tmp 11) (.tmp 40), _, _, _, _⟩) rfl 25 _ _ rfl (w3.heap.size) r'.vals rfl rfl hlz hTz hrs2 hr1 ?_; intro W4 hFW4 hlW4 hrW4))
            have hE4 : Ext w3 W4 := Frm.far ((Ext.refl w3).alloc _) hFW4 (fun k hk e => by omega)
            have hEx := HE2.out.trans (hE3.trans hE4)
            have hT4 := thr_ext HTC.out hCl hEx
            have hC4 := hEx.lt hCl
            have hg3 : wr.heap.size ≤ w3.heap.size := (HE2.out.trans hE3).size
            have hg2 := HE2.out.size
            have hSM4 := HSM.out.ext hEx
            have HSt4 : Hid (∀ W, Frm (fun b => w.heap.size ≤ b ∧ b ≤ D + 1) W4 W → RcV r' W) := fun W hF => HStb.out (fun b => w.heap.size ≤ b ∧ b ≤ D + 1) (fun b q => by omega) (fun W' h' => HSt.out W' (Frm.below HE2.out h' (fun _ _ q => q))) W ((Frm.of_ext hE4).trans hF)
            have hTD4 := thr_ext HTD.out hDl hEx
            have hD4 := hEx.lt hDl
            have HEx := Lib.hid hEx
            clear hFW4 hTz hlz HStb HPt2 hE3 hE4 hEx hBr2
            generalize w3.heap.size = E at *
            by_cases hsn : A ∈ seen
            · have hq := Hq.out
              rw [if_pos hsn] at hq
              have HR := Lib.hid (HEr.out 8 hq)
              have hlk := hSM4.look A (by omega) true (decide_eq_true hsn)
              clear hq hsn hSM4
              go_wp2_with (refine wpList_store_gen (op := ⟨none, .store 25 (.tmp 2) (.tmp 49), _, _, _, _⟩) rfl 25 _ _ rfl (w.heap.size) Rec.zero.vals rfl rfl hC4 hT4 hzs hz1 ?_; intro W9 hFW9 hlW9 hrW9)
              refine bodyPost_ret (results_ct rfl rfl rfl (run_loadVar_mid W9 w.heap.size 0 25 _ _ hrW9 Tryz.underlying25 rfl hzs)) rfl (HR.out _ _ ⟨rfl, Frm.far (HE.out.trans HEx.out) hFW9 (fun k hk e => by omega)⟩)
            · have hq := Hq.out
              rw [if_neg hsn] at hq
              have HRun := Lib.hid hq
              have hlk := hSM4.look A (by omega) false (decide_eq_false hsn)
              have HSM4 := Lib.hid hSM4
              clear hq hsn hSM4
              go_upto_region 17 with (refine wpList_seen (o := ⟨none, .mapUpdate 81 (.tmp 50) (.tmp 51) (.const (.bool true)), _, _, _, _⟩) rfl _ _ _ rfl (D + 1) j seen A rfl rfl rfl HSM4.out (by omega) (by omega) ?_; intro W5 hSM5 hF5)
              have hT5 := there_frm hTD4 hD4 hF5 (by omega)
              have hTC5 := there_frm hT4 hC4 hF5 (by omega)
              have hD5 := hF5.lt hD4
              have hC5 := hF5.lt hC4
              have hE5 := range_frm ⟨hlW4, hrW4⟩ hF5 (by omega)
              have hrE5 := hE5.2
              have HSM5 := Lib.hid hSM5
              have HF5 := Lib.hid hF5
              clear hSM5 hlk hrW4 hE5
              go_wp2_with (first
                | (refine load_midg (by rfl) 25 _ rfl E 0 rfl r'.vals _ hrE5 Tryz.underlying25 rfl hrs2 ?_)
                | (refine wpList_store_gen2 (op := ⟨none, .store 25 (.tmp 4) (.tmp 52), _, _, _, _⟩) rfl 25 _ _ rfl D r'.vals rfl rfl hD5 hT5 hrs2 hr1 ?_; intro W6 hFW6 hlW6 hrW6 hthW6))
              have HEz : Hid (Ext w W6) := Frm.far (Frm.far (HE.out.trans HEx.out) HF5.out (fun k hk e => by omega)) hFW6 (fun k hk e => by omega)
              have HRdz : Hid (RdS S H 0 W6) := by
                have h1 := HRd.out.ext HEx.out
                have h2 : RdS S H 0 W5 := ⟨HF5.out.lt h1.1, fun i hi => (HF5.out.cel h1.1 (by omega) _).trans (h1.2 i hi)⟩
                exact ⟨hFW6.lt h2.1, fun i hi => (hFW6.cel h2.1 (by omega) _).trans (h2.2 i hi)⟩
              have HStz : Hid (∀ W, Frm (fun b => w.heap.size ≤ b ∧ b ≤ D + 1) W6 W → RcV r' W) := fun W hF => HSt4.out W (((HF5.out.mono (fun _ _ q => by omega)).trans (hFW6.mono (fun _ _ q => by omega))).trans hF)
              have HTz : Hid (W6.there D 0 14) := by
                exact hthW6
              go_roundw
              case rel => exact ⟨j + 1, A :: seen, r', by omega, by go_num, HSM5.out.frm hFW6 (by omega), ⟨hlW6, hrW6⟩, HTz.out, there_frm hTC5 hC5 hFW6 (by omega), HStz.out, HRdz.out, HEz.out, by have := HEx.out.size; have := HF5.out.size; have := hFW6.size; omega, by rw [HD'.out]; exact HRun.out.symm⟩
              case measure => simp [intOf]; omega
      · obtain rfl : j = S.length := by omega
        rw [List.drop_length] at hRun
        have hrn : Rz = if ptW.getD 0 [] ∈ seen then (if vldR r.D = true then .ok r.D else .er 1) else .er 4 := hRun.symm
        have hSt0 := hSt wr (Frm.refl _ _)
        by_cases hsn : ptW.getD 0 [] ∈ seen
        · rw [if_pos hsn] at hrn
          have hlk := hSM.look (ptW.getD 0 []) (by decide) true (decide_eq_true hsn)
          have hlk2 : (Instr.lookup 81 (.map (some (D + 1))) (.string ⟨#[70, 82, 69, 81]⟩) false).run Tryz.prog wr = .ok (.bool true) wr := hlk
          rcases Bool.eq_false_or_eq_true (vldR r.D) with hv | hv
          · rw [if_pos hv] at hrn
            have HO := Lib.hid (HOk.out r.D hrn)
            have HV := Lib.hid (uvalid_c r true wr hSt0 hv)
            have HE := Lib.hid hE
            have HSt := Lib.hid hSt
            have hr1 := rec_all1 r
            clear hrn hv hlk hsn hSM hRun hSt0 hSt hTD hRd
            go_wp2_with (first
              | (refine load_midg (by rfl) 25 _ rfl D 0 rfl r.vals _ hBr2 Tryz.underlying25 rfl hrs ?_)
              | (refine load_midg (by rfl) 25 _ rfl D 0 rfl r.vals _ hBr Tryz.underlying25 rfl hrs ?_)
              | (go_at_call 27; (with_reducible refine HV.out.mono ?_); rintro e w2 ⟨rfl, hE2⟩; have hB2 := hBD.ext hE2; have hBr2 := hB2.2; have hT2 := thr_ext hTC hCl hE2; have hC2 := hE2.lt hCl)
              | (refine wpList_store_gen (op := ⟨none, .store 25 (.tmp 2) (.tmp 64), _, _, _, _⟩) rfl 25 _ _ rfl (w.heap.size) r.vals rfl rfl hC2 hT2 hrs hr1 ?_; intro W9 hFW9 hlW9 hrW9))
            refine bodyPost_ret (results_ct rfl rfl rfl (run_loadVar_mid W9 w.heap.size 0 25 _ _ hrW9 Tryz.underlying25 rfl hrs)) rfl (HO.out _ _ r rfl rfl (HSt.out W9 ((Frm.of_ext hE2).trans (hFW9.mono (fun _ _ q => by omega)))) (Frm.far (HE.out.trans hE2) hFW9 (fun k hk e => by omega)))
          · rw [if_neg (by rw [hv]; simp)] at hrn
            have HR := Lib.hid (HEr.out 1 hrn)
            have HV := Lib.hid (uvalid_c r false wr hSt0 hv)
            have HE := Lib.hid hE
            clear hrn hv hlk hsn hSM hRun hSt0 hSt hTD hRd
            go_wp2_with (first
              | (refine load_midg (by rfl) 25 _ rfl D 0 rfl r.vals _ hBr Tryz.underlying25 rfl hrs ?_)
              | (go_at_call 27; (with_reducible refine HV.out.mono ?_); rintro e w2 ⟨rfl, hE2⟩; have hT2 := thr_ext hTC hCl hE2; have hC2 := hE2.lt hCl)
              | (refine wpList_store_gen (op := ⟨none, .store 25 (.tmp 2) (.tmp 63), _, _, _, _⟩) rfl 25 _ _ rfl (w.heap.size) Rec.zero.vals rfl rfl hC2 hT2 hzs hz1 ?_; intro W9 hFW9 hlW9 hrW9))
            refine bodyPost_ret (results_ct rfl rfl rfl (run_loadVar_mid W9 w.heap.size 0 25 _ _ hrW9 Tryz.underlying25 rfl hzs)) rfl (HR.out _ _ ⟨rfl, Frm.far (HE.out.trans hE2) hFW9 (fun k hk e => by omega)⟩)
        · rw [if_neg hsn] at hrn
          have HR := Lib.hid (HEr.out 4 hrn)
          have hlk := hSM.look (ptW.getD 0 []) (by decide) false (decide_eq_false hsn)
          have hlk2 : (Instr.lookup 81 (.map (some (D + 1))) (.string ⟨#[70, 82, 69, 81]⟩) false).run Tryz.prog wr = .ok (.bool false) wr := hlk
          have HE := Lib.hid hE
          clear hrn hlk hsn hSM hRun hSt0 hSt hTD hRd
          go_wp2_with (refine wpList_store_gen (op := ⟨none, .store 25 (.tmp 2) (.tmp 58), _, _, _, _⟩) rfl 25 _ _ rfl (w.heap.size) Rec.zero.vals rfl rfl hCl hTC hzs hz1 ?_; intro W9 hFW9 hlW9 hrW9)
          refine bodyPost_ret (results_ct rfl rfl rfl (run_loadVar_mid W9 w.heap.size 0 25 _ _ hrW9 Tryz.underlying25 rfl hzs)) rfl (HR.out _ _ ⟨rfl, Frm.far HE.out hFW9 (fun k hk e => by omega)⟩)
end Go.Proofs.YtgndogpgfgliaaaGreatDoor
