/- Recurrence rules: the walk of Part. -/
import Derived.Test.YtgndogpgfgliaaaGreatDoorQ16
import Derived.Test.YtgndogpgfgliaaaGreatDoorQ02
import Derived.Test.YtgndogpgfgliaaaGreatDoorQ00
import Derived.Deep.MidRow
import Derived.Lib.SlicesCompact
import Derived.Test.YtgndogpgfgliaaaGreatDoorShelf2
import Derived.Maps.RangeWalk
import Derived.Maps.Own
namespace Go.Proofs.YtgndogpgfgliaaaGreatDoor
set_option linter.unusedVariables false
set_option linter.unnecessarySimpa false
set_option linter.unusedSimpArgs false
open Go.RowKit

theorem load_midg {P : Program} {ops : Array Oper} {rest : List Oper} {op : Oper} {a : Act} {w : World} {Q : Exit → Act → World → Prop} (hw : Region.wanted op (yielded ops a.tmps) = true) (ty : TypeId) (x : Operand) (ho : op.op = .load ty x)
    (b o : Nat) (hx : a.eval x = .pointer (some ⟨b, o, none⟩)) (cs : List Value) (d : TypeDesc) (hc : w.rangeAt b o cs)
    (hu : P.underlying ty = some d) (hd : d.isRow = true) (hi : (P.info? ty).map (·.size) = some cs.length)
    (h : wpList P ops Q rest (a.put op.dst (.agg cs.toArray)) w) : wpList P ops Q (op :: rest) a w := by
  unfold wpList
  rw [if_pos hw]
  exact .inl (wp_load_mid ty x ho b o hx cs d hc hu hd hi h)
theorem rec_size (r : Rec) : (Tryz.prog.info? 25).map (·.size) = some r.vals.length := by
  rw [Rec.len]; kernel_rfl
theorem rec_all1 (r : Rec) : r.vals.all (·.oneCell') = true := List.all_eq_true.2 (rec_one r)
theorem results_ct {fn : Func} {tmps : Array Value} {w : World} {a b : Tmp} {t : TypeId} {v1 v2 : Value} {p : Addr} (h : fn.results = #[.cell a t, .tmp b]) (h2 : tmps.getD b undef = v2) (hp : tmps.getD a undef = .pointer (some p)) (h1 : (loadVar t p).run Tryz.prog w = .ok v1 w) :
    (results fn tmps).run Tryz.prog w = .ok (.tuple #[v1, v2]) w := by
  unfold results
  rw [h]
  subst h2
  have hp2 : tmps[a]?.getD undef = .pointer (some p) := by rw [← hp]; simp
  simp [hp2, h1, asAddr]
def PartR (nm s : List UInt8) (r : Rec) (w : World) (e : Ending) (w' : World) : Prop :=
  match prtZ untZ nm s r.D with
  | .er c => e = .returned (.tuple #[.agg Rec.zero.vals.toArray, .int .i64 (c : Int)]) ∧ Ext w w'
  | .ok D' => ∃ r' : Rec, r'.D = D' ∧ e = .returned (.tuple #[.agg r'.vals.toArray, .int .i64 0]) ∧ RcV r' w' ∧ Ext w w' ∧ (∀ F : Nat → Prop, (∀ b, F b → b < w.heap.size) → (∀ W, Frm F w W → RcV r W) → ∀ W, Frm F w' W → RcV r' W)
theorem thr_ext {w w' : World} {R n : Nat} (h : w.there R 0 n) (hl : R < w.heap.size) (hE : Ext w w') : w'.there R 0 n := there_frm h hl (Frm.of_ext (S := fun _ => False) hE) (fun q => q)
set_option maxRecDepth 100000 in
set_option maxHeartbeats 4000000 in
theorem part_c (nm s : List UInt8) (r : Rec) (w : World) (hm : Lm w) (hs : s.length ≤ 50000) (hV : RcV r w) :
    Calls Tryz.prog 20 #[.string ⟨nm.toArray⟩, .string ⟨s.toArray⟩, .agg r.vals.toArray] w (PartR nm s r w) := by
  have hp14 : plW ptW nm ≤ 14 := plW_le ptW nm
  have hIdx := fun (H Z : Nat) (y z v : Nat → Nat) (w : World) => idxfld_c nm H Z y z v w
  obtain ⟨p, hp⟩ : ∃ p, p = plW ptW nm := ⟨_, rfl⟩
  rw [← hp] at hp14 hIdx
  have HPr : Hid (prtZ untZ nm s r.D = if p = 0 then .er 7 else match partZ untZ (p - 1) s r.D with
      | some R' => .ok R'
      | none => .er 3) := by rw [Hid, hp]; rfl
  clear hp
  obtain ⟨W0, hW0⟩ : ∃ W0, W0 = ((w.alloc (.cells #[.string ⟨nm.toArray⟩] 9)).alloc (.cells r.vals.toArray 25)).alloc (.cells #[.int .i64 0, .int .i64 0, .int .i64 0, .int .i64 0, .slice none 0 0, .slice none 0 0, .slice none 0 0, .slice none 0 0, .slice none 0 0, .slice none 0 0, .slice none 0 0, .slice none 0 0, .slice none 0 0, .int .i64 0] 25) := ⟨_, rfl⟩
  have hz0 : (w.alloc (.cells #[.string ⟨nm.toArray⟩] 9)).heap.size = w.heap.size + 1 := by simp
  have hz1 : ((w.alloc (.cells #[.string ⟨nm.toArray⟩] 9)).alloc (.cells r.vals.toArray 25)).heap.size = w.heap.size + 2 := by simp
  have hz2 : W0.heap.size = w.heap.size + 3 := by rw [hW0]; simp
  have hE0 : Ext w W0 := by rw [hW0]; exact (((Ext.refl w).alloc _).alloc _).alloc _
  have hEa : Ext (w.alloc (.cells #[.string ⟨nm.toArray⟩] 9)) W0 := by rw [hW0]; exact ((Ext.refl _).alloc _).alloc _
  have hEb : Ext ((w.alloc (.cells #[.string ⟨nm.toArray⟩] 9)).alloc (.cells r.vals.toArray 25)) W0 := by rw [hW0]; exact (Ext.refl _).alloc _
  have hZ : BxV w.heap.size (.string ⟨nm.toArray⟩) W0 := BxV.ext ⟨by simp, by rw [World.cell?_alloc_new]; rfl⟩ hEa
  have hB : RcB r (w.heap.size + 1) W0 := by
    have := (RcB.new r (w.alloc (.cells #[.string ⟨nm.toArray⟩] 9)) 25).ext hEb
    rwa [hz0] at this
  have hF : ∀ o, W0.frozen? ⟨w.heap.size + 1, o, none⟩ = false := fun o => by
    have h1 : ((w.alloc (.cells #[.string ⟨nm.toArray⟩] 9)).alloc (.cells r.vals.toArray 25)).frozen? ⟨w.heap.size + 1, o, none⟩ = false := by
      have := World.frozen?_alloc_new (w.alloc (.cells #[.string ⟨nm.toArray⟩] 9)) r.vals.toArray 25 o
      rwa [hz0] at this
    exact (hEb.frozens _ o (by rw [hz1]; omega)).trans h1
  have hT : W0.there (w.heap.size + 2) 0 14 := by
    have := thr_new ((w.alloc (.cells #[.string ⟨nm.toArray⟩] 9)).alloc (.cells r.vals.toArray 25)) Rec.zero.vals.toArray 25 14 rfl
    rw [hz1] at this
    rw [hW0]
    exact this
  have hO : RcO r (w.heap.size + 1) w W0 := ⟨hB, hV, hE0, by omega, hF⟩
  have HO := Lib.hid hO
  have HT := Lib.hid hT
  have HZ := Lib.hid hZ
  have HE0 := Lib.hid hE0
  have Hm := Lib.hid (hm.ext hE0)
  have HW0 := Lib.hid hW0
  have hz2' := Lib.hid hz2
  clear hm hV hW0 hz0 hz1 hE0 hEa hEb hZ hB hF hT hO hz2
  by_cases h0 : p = 0
  · subst h0
    have HR : Hid (∀ e w', e = .returned (.tuple #[.agg Rec.zero.vals.toArray, .int .i64 7]) ∧ Ext w w' → PartR nm s r w e w') := fun e w' h => by
      unfold PartR; rw [HPr.out]; exact h
    have HIx : Hid (∀ (H Z : Nat) (y z v : Nat → Nat) (w : World), H < w.heap.size → w.rangeAt H 0 (fldV y z v) → BxV Z (.string ⟨nm.toArray⟩) w → Calls Tryz.prog 57 #[.slice (some ⟨H, 0, none⟩) 14 14, .func (.func 58) #[] #[.pointer (some ⟨Z, 0, none⟩)]] w fun e w' => e = .returned (.int .i64 (-1)) ∧ Ext w w') := fun H Z y z v w a b c => by
      have := hIdx H Z y z v w a b c
      simpa using this
    clear hIdx HPr
    go_enter Tryz.func20, Tryz.ntmps20
    go_upto_region 1 with fail
    rw [← HW0.out]
    go_upto_region 4 with (first
      | (go_at_call 35; (with_reducible refine (fields_c _).mono ?_); rintro e w1 ⟨⟨H, h0, h13, y, z, v, rfl, hHl, hHr, hBx⟩, hE1⟩; have HI := Lib.hid (HIx.out H w.heap.size y z v w1 hHl hHr (HZ.out.ext hE1)); clear hHr hBx)
      | (go_at_call 57; (with_reducible refine HI.out.mono ?_); rintro e w2 ⟨rfl, hE2⟩))
    have hEx : Ext W0 w2 := hE1.trans hE2
    have hz2 := hz2'.out
    have ht2 := thr_ext HT.out (by omega) hEx
    have hl2 := hEx.lt (show w.heap.size + 2 < W0.heap.size by omega)
    go_wp2_with (refine wpList_store_gen (op := ⟨none, .store 25 (.tmp 6) (.tmp 16), _, _, _, _⟩) rfl 25 _ _ rfl (w.heap.size + 2) Rec.zero.vals rfl rfl hl2 ht2 (rec_size Rec.zero) (rec_all1 _) ?_; intro W3 hF3 hl3 hr3)
    refine bodyPost_ret (results_ct rfl rfl rfl (run_loadVar_mid W3 (w.heap.size + 2) 0 25 _ _ hr3 Tryz.underlying25 rfl (rec_size Rec.zero))) rfl (HR.out _ _ ⟨rfl, Frm.far (HE0.out.trans hEx) hF3 (fun k hk e => by omega)⟩)
  · obtain ⟨k, rfl⟩ : ∃ k, p = k + 1 := ⟨p - 1, by omega⟩
    have hk14 : k < 14 := by omega
    have hP2 := HPr.out
    rw [if_neg (by omega), show k + 1 - 1 = k by omega] at hP2
    have HRe : Hid (partZ untZ k s r.D = none → ∀ e w', e = .returned (.tuple #[.agg Rec.zero.vals.toArray, .int .i64 3]) ∧ Ext w w' → PartR nm s r w e w') := fun q e w' h => by
      unfold PartR; rw [hP2, q]; exact h
    have HRo : Hid (∀ D', partZ untZ k s r.D = some D' → ∀ (e : Ending) (w' : World) (r' : Rec), r'.D = D' → e = .returned (.tuple #[.agg r'.vals.toArray, .int .i64 0]) → RcV r' w' → Ext w w' → (∀ F : Nat → Prop, (∀ b, F b → b < w.heap.size) → (∀ W, Frm F w W → RcV r W) → ∀ W, Frm F w' W → RcV r' W) → PartR nm s r w e w') := fun D' q e w' r' h1 h2 h3 h4 h5 => by
      unfold PartR; rw [hP2, q]; exact ⟨r', h1, h2, h3, h4, h5⟩
    have HIx : Hid (∀ (H Z : Nat) (y z v : Nat → Nat) (w : World), H < w.heap.size → w.rangeAt H 0 (fldV y z v) → BxV Z (.string ⟨nm.toArray⟩) w → Calls Tryz.prog 57 #[.slice (some ⟨H, 0, none⟩) 14 14, .func (.func 58) #[] #[.pointer (some ⟨Z, 0, none⟩)]] w fun e w' => e = .returned (.int .i64 (k : Int)) ∧ Ext w w') := fun H Z y z v w a b c => by
      have := hIdx H Z y z v w a b c
      rwa [show ((k + 1 : Nat) : Int) - 1 = (k : Int) by omega] at this
    have t1 : decide ((k : Int) < 0) = false := decide_eq_false (by omega)
    have hk0 : (0 : Int) ≤ (k : Int) := by omega
    have hk1 : (k : Int) < 14 := by omega
    clear hIdx HPr hP2 h0 hp14
    go_enter Tryz.func20, Tryz.ntmps20
    go_upto_region 1 with fail
    rw [← HW0.out]
    go_upto_region 5 with (first
      | (go_at_call 35; (with_reducible refine (fields_c _).mono ?_); rintro e w1 ⟨⟨H, h0, h13, y, z, v, rfl, hHl, hHr, hBx⟩, hE1⟩; have HI := Lib.hid (HIx.out H w.heap.size y z v w1 hHl hHr (HZ.out.ext hE1)); have HBx := Lib.hid hBx; have HHr := Lib.hid (fld_at hHr k hk14); clear hHr hBx)
      | (go_at_call 57; (with_reducible refine HI.out.mono ?_); rintro e w2 ⟨rfl, hE2⟩))
    have hEx : Ext W0 w2 := hE1.trans hE2
    obtain ⟨fid, caps, hrd, hcf, hC⟩ := rd_all W0.heap.size y z v h0 h13 k hk14
    have c1 := (hE2.cells H (k * 3 + 1) hHl).trans HHr.out.2.1
    rw [hrd] at c1
    have HC := Lib.hid (hC s r (w.heap.size + 1) w w2 (HBx.out.ext hE2) (Hm.out.ext hEx) hs (HO.out.ext hEx))
    have hHl2 := hE2.lt hHl
    clear hrd hC
    have hz2 := hz2'.out
    have ht2 := thr_ext HT.out (by omega) hEx
    have hl2 := hEx.lt (show w.heap.size + 2 < W0.heap.size by omega)
    go_wp2_with fail
    refine HC.out.mono ?_
    intro e w3 q
    unfold RdR at q
    cases hz : partZ untZ k s r.D with
    | none =>
      have HRe2 := Lib.hid (HRe.out hz)
      rw [hz] at q
      obtain ⟨rfl, hE3⟩ := q
      have hEy := hEx.trans hE3
      have ht3 := thr_ext ht2 hl2 hE3
      have hl3 := hE3.lt hl2
      clear hz HRe HRo HC ht2 hl2
      go_wp2_with (refine wpList_store_gen (op := ⟨none, .store 25 (.tmp 6) (.tmp 25), _, _, _, _⟩) rfl 25 _ _ rfl (w.heap.size + 2) Rec.zero.vals rfl rfl hl3 ht3 (rec_size Rec.zero) (rec_all1 _) ?_; intro W3 hF3 hl4 hr3)
      refine bodyPost_ret (results_ct rfl rfl rfl (run_loadVar_mid W3 (w.heap.size + 2) 0 25 _ _ hr3 Tryz.underlying25 rfl (rec_size Rec.zero))) rfl (HRe2.out _ _ ⟨rfl, Frm.far (HE0.out.trans hEy) hF3 (fun k hk e => by omega)⟩)
    | some D' =>
      have HRo2 := Lib.hid (HRo.out D' hz)
      rw [hz] at q
      obtain ⟨rfl, r', hD, hB3, hV3, hF3⟩ := q
      have ht3 := there_frm ht2 hl2 hF3 (show ¬ (w.heap.size + 2 = w.heap.size + 1) by omega)
      have hl3 := hF3.lt hl2
      have HD := Lib.hid hD
      have hStb : ∀ F : Nat → Prop, (∀ b, F b → b < w.heap.size) → (∀ W, Frm F w W → RcV r W) → ∀ W3, Frm (fun b => b = w.heap.size + 2) w3 W3 → ∀ W, Frm F W3 W → RcV r' W := fun F f1 f2 W3 hF4 W hF => by
        refine hV3 (fun b => F b ∨ b = w.heap.size + 2) W (fun b q => ?_) (fun W' hF' => f2 W' ?_) ((hF4.mono (fun _ _ q => .inr q)).trans (hF.mono (fun _ _ q => .inl q)))
        · have h1 := hEx.size
          rcases q with q | q
          · have := f1 b q; omega
          · omega
        · exact Frm.below (HE0.out.trans hEx) hF' (fun k hk q => by
            rcases q with (q | q) | q
            · exact q
            · omega
            · omega)
      have HStb := Lib.hid hStb
      have HV3 := Lib.hid (fun W hF => hStb (fun _ => False) (fun b q => q.elim) (fun W h => (HO.out.v.ext (Frm.ext h (fun k q => q.elim)))) W hF W (Frm.refl _ _))
      have HX3 : Hid (Ext w w3) := Frm.far (HE0.out.trans hEx) hF3 (fun k hk e => by omega)
      have hr2 := hB3.2
      have hRs := rec_size r'
      clear hz HRe HRo HC ht2 hl2 hD hB3 hV3 hF3 hStb
      go_wp2_with (first
        | (refine load_midg (by rfl) 25 _ rfl (w.heap.size + 1) 0 rfl r'.vals _ hr2 Tryz.underlying25 rfl hRs ?_)
        | (refine wpList_store_gen (op := ⟨none, .store 25 (.tmp 6) (.tmp 26), _, _, _, _⟩) rfl 25 _ _ rfl (w.heap.size + 2) r'.vals rfl rfl hl3 ht3 hRs (rec_all1 _) ?_; intro W3 hF4 hl4 hr3))
      refine bodyPost_ret (results_ct rfl rfl rfl (run_loadVar_mid W3 (w.heap.size + 2) 0 25 _ _ hr3 Tryz.underlying25 rfl hRs)) rfl (HRo2.out _ _ r' HD.out rfl (HV3.out W3 hF4) (Frm.far HX3.out hF4 (fun k hk e => by omega)) (fun F f1 f2 W hF => HStb.out F f1 f2 W3 hF4 W hF))
end Go.Proofs.YtgndogpgfgliaaaGreatDoor
/- Recurrence rules, plainly: how many different numbers a list has, counted by insertion and by sorting. No program in sight. -/
namespace Go.Proofs.YtgndogpgfgliaaaGreatDoor
set_option linter.unusedVariables false
set_option linter.unnecessarySimpa false
set_option linter.unusedSimpArgs false
open Go.RowKit

def Asc (l : List Int) : Prop := l.Pairwise (· < ·)
theorem ins_mem (x : Int) : ∀ (l : List Int) (z : Int), z ∈ insZ x l ↔ z = x ∨ z ∈ l
  | [], z => by simp [insZ]
  | y :: r, z => by
    have ih := ins_mem x r z
    unfold insZ
    split
    · simp only [List.mem_cons, ih]
      constructor
      · rintro (q | q | q) <;> simp [q]
      · rintro (q | q | q) <;> simp [q]
    · split
      · rename_i e
        subst e
        simp
      · simp
theorem ins_asc (x : Int) : ∀ l : List Int, Asc l → Asc (insZ x l)
  | [], _ => List.pairwise_singleton _ _
  | y :: r, h => by
    obtain ⟨h1, h2⟩ := List.pairwise_cons.1 h
    unfold insZ
    split
    · rename_i e
      refine List.pairwise_cons.2 ⟨fun z hz => ?_, ins_asc x r h2⟩
      rcases (ins_mem x r z).1 hz with q | q
      · rw [q]; exact e
      · exact h1 z q
    · split
      · exact h
      · rename_i e1 e2
        refine List.pairwise_cons.2 ⟨fun z hz => ?_, h⟩
        rcases List.mem_cons.1 hz with q | q
        · rw [q]; omega
        · have := h1 z q; omega
theorem asc_nodup {l : List Int} (h : Asc l) : l.Nodup := List.Pairwise.imp (fun {a b} (q : a < b) => by omega) h
theorem set_asc : ∀ (l out : List Int), Asc out → Asc (setZ out l) ∧ ∀ z, z ∈ setZ out l ↔ z ∈ out ∨ z ∈ l
  | [], out, h => ⟨h, fun z => by simp [setZ]⟩
  | x :: r, out, h => by
    obtain ⟨h1, h2⟩ := set_asc r (insZ x out) (ins_asc x out h)
    refine ⟨h1, fun z => ?_⟩
    show z ∈ setZ (insZ x out) r ↔ _
    rw [h2, ins_mem, List.mem_cons]
    constructor
    · rintro ((q | q) | q) <;> simp [q]
    · rintro (q | q | q) <;> simp [q]
theorem nd_of {l m : List Int} (hm : m.Nodup) (h : ∀ x, x ∈ m ↔ x ∈ l) : m.length = ndZ l := by
  unfold ndZ
  obtain ⟨h1, h2⟩ := set_asc l [] List.Pairwise.nil
  exact List.Perm.length_eq ((List.perm_ext_iff_of_nodup hm (asc_nodup h1)).2 (fun a => by rw [h, h2]; simp))
theorem nd_pos {l : List Int} (h : l ≠ []) : 1 ≤ ndZ l := by
  unfold ndZ
  obtain ⟨h1, h2⟩ := set_asc l [] List.Pairwise.nil
  cases l with
  | nil => exact absurd rfl h
  | cons a r => exact List.length_pos_of_mem ((h2 a).2 (.inr (by simp)))
end Go.Proofs.YtgndogpgfgliaaaGreatDoor
/- Recurrence rules, plainly: sorting and leaving out what follows its like leaves as many numbers as are different. No program in sight. -/
namespace Go.Proofs.YtgndogpgfgliaaaGreatDoor
set_option linter.unusedVariables false
set_option linter.unnecessarySimpa false
set_option linter.unusedSimpArgs false
open Go.RowKit

theorem cmp_all (zs : List Int) (hs : zs.Pairwise (· ≤ ·)) : ∀ m, m ≤ zs.length → Asc (Lib.compactUpTo zs.toArray m) ∧ ∀ x, x ∈ Lib.compactUpTo zs.toArray m ↔ x ∈ zs.take m
  | 0, _ => ⟨List.Pairwise.nil, fun x => by simp [Lib.compactUpTo]⟩
  | m + 1, h => by
    have hm : m < zs.length := h
    obtain ⟨a, c⟩ := cmp_all zs hs m (by omega)
    have hp := List.pairwise_iff_getElem.1 hs
    have e : ∀ j (hj : j < zs.length), zs.toArray[j]! = zs[j] := fun j hj => by simp [hj]
    have hle : ∀ x, x ∈ zs.take m → 0 < m → ∀ (h0 : m - 1 < zs.length), x ≤ zs[m - 1] := fun x hx h1 h0 => by
      obtain ⟨j, hj, rfl⟩ := List.mem_iff_getElem.1 hx
      rw [List.length_take] at hj
      rw [List.getElem_take]
      rcases Nat.lt_or_ge j (m - 1) with q | q
      · exact hp j (m - 1) (by omega) h0 q
      · have : j = m - 1 := by omega
        subst this
        exact Int.le_refl _
    rw [Lib.compactUpTo_succ, List.take_succ_eq_append_getElem hm, e m hm]
    by_cases k : Lib.keeps zs.toArray m = true
    · rw [if_pos k]
      refine ⟨List.pairwise_append.2 ⟨a, List.pairwise_singleton _ _, fun x hx y hy => ?_⟩, fun x => by rw [List.mem_append, List.mem_append, c]⟩
      rw [List.mem_singleton.1 hy]
      have hx := (c x).1 hx
      have h1 : 0 < m := by
        rcases Nat.eq_zero_or_pos m with q | q
        · subst q; simp at hx
        · exact q
      have h2 := hle x hx h1 (by omega)
      have h3 := hp (m - 1) m (by omega) hm (by omega)
      unfold Lib.keeps at k
      rw [decide_eq_true_eq] at k
      rcases k with q | q
      · omega
      · rw [e m hm, e (m - 1) (by omega)] at q
        omega
    · rw [if_neg k, List.append_nil]
      refine ⟨a, fun x => ?_⟩
      rw [c, List.mem_append, List.mem_singleton]
      unfold Lib.keeps at k
      rw [decide_eq_true_eq] at k
      have h1 : 0 < m := by omega
      have h2 : zs[m] = zs[m - 1]'(by omega) := by
        rw [e m hm, e (m - 1) (by omega)] at k
        exact Classical.byContradiction fun q => k (.inr q)
      constructor
      · exact .inl
      · rintro (q | q)
        · exact q
        · rw [q, h2]
          refine List.mem_iff_getElem.2 ⟨m - 1, by rw [List.length_take]; omega, ?_⟩
          rw [List.getElem_take]
/-- Sorted, and without repetitions: so many are different. -/
theorem cmp_len (l : List Int) : (Lib.compact (l.mergeSort fun x y => decide (x ≤ y))).length = ndZ l := by
  have hs : (l.mergeSort fun x y => decide (x ≤ y)).Pairwise (· ≤ ·) := by
    have := List.pairwise_mergeSort (le := fun (x y : Int) => decide (x ≤ y)) (fun a b c h1 h2 => by simp at *; omega) (fun a b => by simp; omega) l
    exact this.imp (fun {a b} q => by simpa using q)
  have hperm : (l.mergeSort fun x y => decide (x ≤ y)).Perm l := List.mergeSort_perm l _
  generalize (l.mergeSort fun x y => decide (x ≤ y)) = zs at hs hperm
  obtain ⟨a, c⟩ := cmp_all zs hs zs.length (Nat.le_refl _)
  unfold Lib.compact
  refine nd_of (asc_nodup a) (fun x => ?_)
  rw [c, List.take_length]
  exact hperm.mem_iff
end Go.Proofs.YtgndogpgfgliaaaGreatDoor
/- Recurrence rules: the walks of between, local, set. -/
namespace Go.Proofs.YtgndogpgfgliaaaGreatDoor
set_option linter.unusedVariables false
set_option linter.unnecessarySimpa false
set_option linter.unusedSimpArgs false
open Go.RowKit

theorem btw1_c (n lo hi : Int) (sg : Bool) (A B C : Nat) (w : World) (hA : w.cell? ⟨A, 0, none⟩ = some (.int .i64 lo)) (hB : w.cell? ⟨B, 0, none⟩ = some (.int .i64 hi)) (hC : w.cell? ⟨C, 0, none⟩ = some (.bool sg)) (h0 : 0 ≤ lo) (h1 : lo ≤ hi) (h2 : hi ≤ 999) :
    Calls Tryz.prog 117 #[.int .i64 n, .pointer (some ⟨A, 0, none⟩), .pointer (some ⟨B, 0, none⟩), .pointer (some ⟨C, 0, none⟩)] w fun e w' => e = .returned (.bool (!(inZ lo hi sg n))) ∧ w = w' := by
  have w1 : IntKind.i64.wrap (-hi) = -hi := IntWalk.i64_in _ (by omega)
  have w2 : IntKind.i64.wrap (-lo) = -lo := IntWalk.i64_in _ (by omega)
  obtain ⟨R, hR⟩ : ∃ R, R = !(inZ lo hi sg n) := ⟨_, rfl⟩
  rw [← hR]
  unfold inZ at hR
  have HR := Lib.hid hR
  clear hR
  by_cases q1 : n < lo
  · have t1 : decide (n < lo) = true := decide_eq_true q1
    cases sg
    · have hr : R = true := by
        rw [HR.out]; simp; omega
      subst hr
      go_enter Tryz.func117, Tryz.ntmps117
      go_wp2_with fail
      go_ret
      exact ⟨rfl, rfl⟩
    · by_cases q3 : -hi ≤ n
      · have t3 : decide (-hi ≤ n) = true := decide_eq_true q3
        by_cases q4 : n ≤ -lo
        · have t4 : decide (n ≤ -lo) = true := decide_eq_true q4
          have hr : R = false := by
            rw [HR.out]; simp; omega
          subst hr
          go_enter Tryz.func117, Tryz.ntmps117
          go_wp2_with fail
          go_ret
          exact ⟨rfl, rfl⟩
        · have t4 : decide (n ≤ -lo) = false := decide_eq_false q4
          have hr : R = true := by
            rw [HR.out]; simp; omega
          subst hr
          go_enter Tryz.func117, Tryz.ntmps117
          go_wp2_with fail
          go_ret
          exact ⟨rfl, rfl⟩
      · have t3 : decide (-hi ≤ n) = false := decide_eq_false q3
        have hr : R = true := by
          rw [HR.out]; simp; omega
        subst hr
        go_enter Tryz.func117, Tryz.ntmps117
        go_wp2_with fail
        go_ret
        exact ⟨rfl, rfl⟩
  · have t1 : decide (n < lo) = false := decide_eq_false q1
    by_cases q2 : hi < n
    · have t2 : decide (hi < n) = true := decide_eq_true q2
      cases sg
      · have hr : R = true := by
          rw [HR.out]; simp; omega
        subst hr
        go_enter Tryz.func117, Tryz.ntmps117
        go_wp2_with fail
        go_ret
        exact ⟨rfl, rfl⟩
      · have t3 : decide (-hi ≤ n) = true := decide_eq_true (by omega)
        have t4 : decide (n ≤ -lo) = false := decide_eq_false (by omega)
        have hr : R = true := by
          rw [HR.out]; simp; omega
        subst hr
        go_enter Tryz.func117, Tryz.ntmps117
        go_wp2_with fail
        go_ret
        exact ⟨rfl, rfl⟩
    · have t2 : decide (hi < n) = false := decide_eq_false q2
      have hr : R = false := by
        rw [HR.out]; simp; omega
      subst hr
      go_enter Tryz.func117, Tryz.ntmps117
      go_wp2_with fail
      go_ret
      exact ⟨rfl, rfl⟩
set_option maxRecDepth 100000 in
set_option maxHeartbeats 1000000 in
theorem idxI_c (zs : List Int) (ao : Option Addr) (cap : Nat) (lo hi : Int) (sg : Bool) (A B C : Nat) (w : World) (hV : IsV ao cap zs w) (hA : w.cell? ⟨A, 0, none⟩ = some (.int .i64 lo)) (hB : w.cell? ⟨B, 0, none⟩ = some (.int .i64 hi)) (hC : w.cell? ⟨C, 0, none⟩ = some (.bool sg)) (h0 : 0 ≤ lo) (h1 : lo ≤ hi) (h2 : hi ≤ 999) :
    Calls Tryz.prog 160 #[.slice ao zs.length cap, .func (.func 117) #[] #[.pointer (some ⟨A, 0, none⟩), .pointer (some ⟨B, 0, none⟩), .pointer (some ⟨C, 0, none⟩)]] w fun e w' => (∃ z : Int, e = .returned (.int .i64 z) ∧ decide (0 ≤ z) = !(zs.all (inZ lo hi sg))) ∧ w = w' := by
  have hlen := hV.1
  have hcap := hV.2.1
  unfold maxLen at hcap
  have HL := Lib.hid hV.2.2
  have HF : Hid (∀ n, Calls Tryz.prog 117 #[.int .i64 n, .pointer (some ⟨A, 0, none⟩), .pointer (some ⟨B, 0, none⟩), .pointer (some ⟨C, 0, none⟩)] w fun e w' => e = .returned (.bool (!(inZ lo hi sg n))) ∧ w = w') := fun n => btw1_c n lo hi sg A B C w hA hB hC h0 h1 h2
  obtain ⟨f, hf⟩ : ∃ f, f = inZ lo hi sg := ⟨_, rfl⟩
  rw [← hf] at HF ⊢
  obtain ⟨G, hG⟩ : ∃ G, G = !(zs.all f) := ⟨_, rfl⟩
  have HG := Lib.hid hG
  rw [← hG]
  clear hV hA hB hC hG hf
  go_enter Tryz.func160, Tryz.ntmps160
  go_wp2_with fail
  go_loop [8] (fun i => ∃ j : Nat, j ≤ zs.length ∧ i = .int .i64 (j : Int) ∧ Hid ((zs.take j).all f = true)) (fun i => zs.length - (intOf i).toNat)
  case atStart => exact ⟨0, Nat.zero_le _, rfl, rfl⟩
  case round =>
    obtain ⟨j, hj, rfl, Hall⟩ := hrel
    by_cases hlt : j < zs.length
    · obtain ⟨R, off, rfl, hR⟩ := HL.out (by rintro rfl; simp at hlt)
      have hRz := hR.1
      have x0 := hR.2 j hlt
      have Hs : Hid ((zs.take (j + 1)).all f = ((zs.take j).all f && f zs[j])) := by rw [Hid, List.take_succ_eq_append_getElem hlt, List.all_append]; simp
      have hmem : zs[j] ∈ zs := List.getElem_mem _
      obtain ⟨n, hn⟩ : ∃ n, n = zs[j] := ⟨_, rfl⟩
      rw [← hn] at x0 Hs hmem
      have HF2 : Hid (Calls Tryz.prog 117 #[.int .i64 n, .pointer (some ⟨A, 0, none⟩), .pointer (some ⟨B, 0, none⟩), .pointer (some ⟨C, 0, none⟩)] w fun e w' => e = .returned (.bool (!(f n))) ∧ w = w') := HF.out n
      clear hn hR
      cases hq : f n
      · have HV : Hid (G = true) := by rw [Hid, HG.out]; simp only [Bool.not_eq_true', List.all_eq_false]; exact ⟨n, hmem, by simp [hq]⟩
        rw [hq] at HF2
        clear hq hmem
        go_wp2_with (go_at_call 117; (with_reducible refine HF2.out.mono ?_); rintro e w1 ⟨rfl, rfl⟩)
        go_ret
        exact ⟨⟨(j : Int), rfl, by rw [HV.out]; simp⟩, rfl⟩
      · have Hn : Hid ((zs.take (j + 1)).all f = true) := by rw [Hid, Hs.out, Hall.out, hq]; rfl
        rw [hq] at HF2
        clear hq hmem
        go_wp2_with (go_at_call 117; (with_reducible refine HF2.out.mono ?_); rintro e w1 ⟨rfl, rfl⟩)
        go_round
        case rel => exact ⟨j + 1, by omega, by go_num, Hn⟩
        case measure => simp [intOf]; omega
    · obtain rfl : j = zs.length := by omega
      have HV : Hid (G = false) := by rw [Hid, HG.out]; have := Hall.out; rw [List.take_length] at this; rw [this]; rfl
      go_wp2_with fail
      go_ret
      exact ⟨⟨-1, rfl, by rw [HV.out]; rfl⟩, rfl⟩
theorem cfI_c (zs : List Int) (ao : Option Addr) (cap : Nat) (lo hi : Int) (sg : Bool) (A B C : Nat) (w : World) (hV : IsV ao cap zs w) (hA : w.cell? ⟨A, 0, none⟩ = some (.int .i64 lo)) (hB : w.cell? ⟨B, 0, none⟩ = some (.int .i64 hi)) (hC : w.cell? ⟨C, 0, none⟩ = some (.bool sg)) (h0 : 0 ≤ lo) (h1 : lo ≤ hi) (h2 : hi ≤ 999) :
    Calls Tryz.prog 116 #[.slice ao zs.length cap, .func (.func 117) #[] #[.pointer (some ⟨A, 0, none⟩), .pointer (some ⟨B, 0, none⟩), .pointer (some ⟨C, 0, none⟩)]] w fun e w' => e = .returned (.bool (!(zs.all (inZ lo hi sg)))) ∧ w = w' := by
  have HC := Lib.hid (idxI_c zs ao cap lo hi sg A B C w hV hA hB hC h0 h1 h2)
  clear hV hA hB hC
  go_enter Tryz.func116, Tryz.ntmps116
  go_wp2_with (go_at_call 160; (with_reducible refine HC.out.mono ?_); rintro e w1 ⟨⟨z, rfl, hz⟩, rfl⟩)
  go_ret
  exact ⟨rfl, rfl⟩
set_option maxRecDepth 100000 in
theorem between_c (zs : List Int) (ao : Option Addr) (cap : Nat) (lo hi : Int) (sg b : Bool) (w : World) (hV : IsV ao cap zs w) (h0 : 0 ≤ lo) (h1 : lo ≤ hi) (h2 : hi ≤ 999) (hb : btwZ zs lo hi sg = b) :
    Calls Tryz.prog 67 #[.slice ao zs.length cap, .int .i64 lo, .int .i64 hi, .bool sg] w fun e w' => e = .returned (.bool b) ∧ Ext w w' := by
  obtain ⟨W0, hW0⟩ : ∃ W0, W0 = ((w.alloc (.cells #[.int .i64 lo] 3)).alloc (.cells #[.int .i64 hi] 3)).alloc (.cells #[.bool sg] 4) := ⟨_, rfl⟩
  have hE0 : Ext w W0 := by rw [hW0]; exact (((Ext.refl w).alloc _).alloc _).alloc _
  have k0 : W0.cell? ⟨w.heap.size, 0, none⟩ = some (.int .i64 lo) := by rw [hW0, World.cell?_alloc_lt _ _ _ (by simp; omega), World.cell?_alloc_lt _ _ _ (by simp), World.cell?_alloc_new]; rfl
  have k1 : W0.cell? ⟨w.heap.size + 1, 0, none⟩ = some (.int .i64 hi) := by
    rw [hW0, World.cell?_alloc_lt _ _ _ (by simp)]; have h := World.cell?_alloc_new (w.alloc (.cells #[.int .i64 lo] 3)) #[.int .i64 hi] 3 0; simpa using h
  have k2 : W0.cell? ⟨w.heap.size + 1 + 1, 0, none⟩ = some (.bool sg) := by
    rw [hW0]; have h := World.cell?_alloc_new ((w.alloc (.cells #[.int .i64 lo] 3)).alloc (.cells #[.int .i64 hi] 3)) #[.bool sg] 4 0; simpa using h
  have HC := Lib.hid (cfI_c zs ao cap lo hi sg w.heap.size (w.heap.size + 1) (w.heap.size + 1 + 1) W0 (hV.ext hE0) k0 k1 k2 h0 h1 h2)
  have HW0 := Lib.hid hW0
  unfold btwZ at hb
  clear hW0 k0 k1 k2 hV
  by_cases hl : zs.length ≤ 60
  · rw [decide_eq_true hl, Bool.true_and] at hb
    have t1 : decide ((zs.length : Int) ≤ 60) = true := decide_eq_true (by omega)
    rw [hb] at HC
    clear hb hl
    go_enter Tryz.func67, Tryz.ntmps67
    go_upto_region 1 with fail
    rw [← HW0.out]
    go_wp2_with (go_at_call 116; (with_reducible refine HC.out.mono ?_); rintro e w1 ⟨rfl, rfl⟩)
    go_ret
    exact ⟨by simp, hE0⟩
  · rw [decide_eq_false hl, Bool.false_and] at hb
    have t1 : decide ((zs.length : Int) ≤ 60) = false := decide_eq_false (by omega)
    subst hb
    clear hl
    go_enter Tryz.func67, Tryz.ntmps67
    go_upto_region 1 with fail
    rw [← HW0.out]
    go_wp2_with fail
    go_ret
    exact ⟨rfl, hE0⟩
theorem local_c (n : Int) (b : Bool) (w : World) (hb : locZ n = b) : Calls Tryz.prog 66 #[.int .i64 n] w fun e w' => e = .returned (.bool b) ∧ w = w' := by
  unfold locZ at hb
  by_cases q1 : -62135596800 ≤ n
  · have t1 : decide (-62135596800 ≤ n) = true := decide_eq_true q1
    by_cases q2 : n < 253402300800
    · have t2 : decide (n < 253402300800) = true := decide_eq_true q2
      rw [decide_eq_true ⟨q1, q2⟩] at hb
      subst hb
      clear q1 q2
      go_enter Tryz.func66, Tryz.ntmps66
      go_wp2_with fail
      go_ret
      exact ⟨rfl, rfl⟩
    · have t2 : decide (n < 253402300800) = false := decide_eq_false q2
      rw [decide_eq_false (fun h => q2 h.2)] at hb
      subst hb
      clear q1 q2
      go_enter Tryz.func66, Tryz.ntmps66
      go_wp2_with fail
      go_ret
      exact ⟨rfl, rfl⟩
  · have t1 : decide (-62135596800 ≤ n) = false := decide_eq_false q1
    rw [decide_eq_false (fun h => q1 h.1)] at hb
    subst hb
    clear q1
    go_enter Tryz.func66, Tryz.ntmps66
    go_wp2_with fail
    go_ret
    exact ⟨rfl, rfl⟩
end Go.Proofs.YtgndogpgfgliaaaGreatDoor
/- A map literal's entries; plain laws at the operations. -/
namespace Go.Proofs.YtgndogpgfgliaaaGreatDoor
set_option linter.unusedVariables false
set_option linter.unnecessarySimpa false
set_option linter.unusedSimpArgs false
open Go.RowKit Go.Maps

theorem wpList_insert_own {H : Type} {P : Program} (w : World) {ops : Array Oper} {rest : List Oper} {o : Oper} {a : Act} {Q : Exit → Act → World → Prop}
    (hg : o.guard = none) (m x v : Operand) (t : TypeId) (hop : o.op = Op.insert t m x v)
    (k e : TypeId) (K : Keyed P k) (ht : P.underlying t = some (.map k e)) (R : Value → Option (DataW H × List MemPlace)) (b n : Nat) (D : DataW H)
    (hm : a.eval m = .map (some b)) (hown : w.ownsMap P k R b n D) (hn : n < maxLen) (key val : Value) (kl : Lit) (hx : a.eval x = key) (hv : a.eval v = val) (hkey : keyOf P k key = some kl)
    (d : DataW H) (ps : List MemPlace) (hval : R val = some (d, ps))
    (hK : ∀ w', w'.ownsMap P k R b (n + 1) (D.put kl d) → w.grownBy w' (some b) → wpList P ops Q rest (a.put o.dst undef) w') :
    wpList P ops Q (o :: rest) a w := by
  refine wpList_plain hg fun K' hK' => ?_
  obtain ⟨w', hrun, r1, r2⟩ := hown.update K ht hn hkey hval
  unfold Oper.wp
  simp [execOp, hop, hm, hx, hv, hrun, Result.andThen]
  exact hK' _ _ (hK w' r1 r2)
theorem ext_grown_at {a b c : World} {g : Nat} (h : Ext a b) (hg : b.grownBy c (some g)) (hb : a.heap.size ≤ g) : Ext a c := by
  refine ⟨hg.os.trans h.os, hg.tape.trans h.tape, hg.output.trans h.output, Nat.le_trans h.size hg.size, fun k hk => ?_⟩
  rw [hg.block k (Nat.lt_of_lt_of_le hk h.size) (by intro e; injection e with e; omega)]
  exact h.block k hk
theorem ext_grown_none {a b c : World} (h : Ext a b) (hg : b.grownBy c none) : Ext a c := by
  refine ⟨hg.os.trans h.os, hg.tape.trans h.tape, hg.output.trans h.output, Nat.le_trans h.size hg.size, fun k hk => ?_⟩
  rw [hg.block k (Nat.lt_of_lt_of_le hk h.size) (by intro e; cases e)]
  exact h.block k hk
theorem grown_ext {a b : World} (h : Ext a b) (row : Option Nat) : a.grownBy b row := ⟨h.os, h.tape, h.output, h.size, fun k hk _ => h.block k hk⟩
end Go.Proofs.YtgndogpgfgliaaaGreatDoor
