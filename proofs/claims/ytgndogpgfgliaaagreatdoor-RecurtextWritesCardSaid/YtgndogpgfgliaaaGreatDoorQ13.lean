/- Recurrence rules: the walks of the readers of fields: listed$1, counted$1, worded$1. -/
import Derived.Test.YtgndogpgfgliaaaGreatDoorQ12
import Derived.Test.YtgndogpgfgliaaaGreatDoorQ08
import Derived.Test.YtgndogpgfgliaaaGreatDoorQ10
import Derived.Test.YtgndogpgfgliaaaGreatDoorQ07
import Derived.Test.YtgndogpgfgliaaaGreatDoorQ06
import Derived.Test.YtgndogpgfgliaaaGreatDoorQ11
import Derived.Test.YtgndogpgfgliaaaGreatDoorQ05
import Derived.Test.YtgndogpgfgliaaaGreatDoorShelf
namespace Go.Proofs.YtgndogpgfgliaaaGreatDoor
set_option linter.unusedVariables false
set_option linter.unnecessarySimpa false
set_option linter.unusedSimpArgs false
open Go.RowKit

def LReadR (s : List UInt8) (B off : Nat) (w : World) (e : Ending) (w' : World) : Prop :=
  match numsZ s with
  | some l => e = .returned (.bool true) ∧ ∃ ao cap w1, Ext w w1 ∧ IsV ao cap l w1 ∧ (∀ R o m, ao = some ⟨R, o, m⟩ → w.heap.size ≤ R) ∧ w' = w1.setCell ⟨B, off, none⟩ (.slice ao l.length cap)
  | none => e = .returned (.bool false) ∧ Ext w w'
def CReadR (x : Option Int) (B off : Nat) (w : World) (e : Ending) (w' : World) : Prop :=
  match x with
  | some n => e = .returned (.bool true) ∧ ∃ w1, Ext w w1 ∧ w' = w1.setCell ⟨B, off, none⟩ (.int .i64 n)
  | none => e = .returned (.bool false) ∧ Ext w w'
set_option maxRecDepth 100000 in
set_option maxHeartbeats 2000000 in
theorem lread_c (f off B Y : Nat) (s : List UInt8) (u : Value) (w : World) (hm : Lm w) (hs : s.length ≤ 50000) (hA : AtC f off) (hY : BxV Y (fnA f) w) (hB : B < w.heap.size) (hu : w.cell? ⟨B, off, none⟩ = some u) (hf : w.frozen? ⟨B, off, none⟩ = false) :
    Calls Tryz.prog 136 #[.pointer (some ⟨B, 0, none⟩), .string ⟨s.toArray⟩, .pointer (some ⟨Y, 0, none⟩)] w (LReadR s B off w) := by
  have HN := Lib.hid (unumbers_c s w hm hs)
  have hcf := hA.1
  have HA := Lib.hid hA.2
  have HY := Lib.hid hY
  have HU := Lib.hid hu
  have HF := Lib.hid hf
  have HS : Hid (LReadR s B off w = LReadR s B off w) := rfl
  unfold NumsR at HN
  cases hn : numsZ s with
  | none =>
    have HR : Hid (∀ e w', e = .returned (.bool false) ∧ Ext w w' → LReadR s B off w e w') := fun e w' h => by unfold LReadR; rw [hn]; exact h
    rw [hn] at HN
    clear hn hm hs hA hu hf hY
    go_enter Tryz.func136, Tryz.ntmps136
    go_wp2_with (go_at_call 137; (with_reducible refine HN.out.mono ?_); rintro e w1 ⟨rfl, hE1⟩)
    go_ret
    exact HR.out _ _ ⟨rfl, hE1⟩
  | some l =>
    have HR : Hid (∀ e w', (e = .returned (.bool true) ∧ ∃ ao cap w1, Ext w w1 ∧ IsV ao cap l w1 ∧ (∀ R o m, ao = some ⟨R, o, m⟩ → w.heap.size ≤ R) ∧ w' = w1.setCell ⟨B, off, none⟩ (.slice ao l.length cap)) → LReadR s B off w e w') := fun e w' h => by unfold LReadR; rw [hn]; exact h
    rw [hn] at HN
    clear hn hm hs hA hu hf hY
    go_enter Tryz.func136, Tryz.ntmps136
    go_wp2_with (go_at_call 137; (with_reducible refine HN.out.mono ?_); rintro e w1 ⟨ao, cap, rfl, hV, hbs, hE1⟩; have y1 : w1.cell? ⟨Y, 0, none⟩ = some (.func (.func f) #[] #[]) := (HY.out.ext hE1).2; have u1 := (hE1.cells _ off hB).trans HU.out; have f1 : w1.frozen? ⟨B, off, none⟩ = false := (hE1.frozens B off hB).trans HF.out)
    refine (HA.out _ _).mono ?_
    rintro e w2 ⟨rfl, rfl⟩
    go_wp2_with fail
    go_ret
    exact HR.out _ _ ⟨rfl, ao, cap, _, hE1, hV, hbs, rfl⟩
/-- slices.Index at texts. -/
theorem idx_plW (L : List (List UInt8)) (s : List UInt8) : Lib.idxOfS (L.map fun l => ⟨l.toArray⟩) ⟨s.toArray⟩ = (plW L s : Int) - 1 := by
  have hg : ∀ j, j < L.length → (L.map fun l => (⟨l.toArray⟩ : ByteArray)).getD j ByteArray.empty = ⟨(L.getD j []).toArray⟩ := fun j hj => by
    simp [List.getD, hj]
  have he : ∀ a b : List UInt8, ((⟨a.toArray⟩ : ByteArray) = ⟨b.toArray⟩) → a = b := fun a b h => by
    injection h with h
    simpa using h
  have hn : (L.map fun l => (⟨l.toArray⟩ : ByteArray)).take L.length = L.map fun l => (⟨l.toArray⟩ : ByteArray) := List.take_of_length_le (by simp)
  rw [← hn]
  unfold plW
  by_cases h : s ∈ L
  · rw [if_pos h]
    have hk := List.idxOf_lt_length_iff.2 h
    have := Lib.idxOfS_hit (L.map fun l => (⟨l.toArray⟩ : ByteArray)) L.length (L.idxOf s) ⟨s.toArray⟩ hk (by simp) (by rw [hg _ hk]; simp [List.getD, hk]) (fun j hj e => by
      rw [hg j (by omega)] at e
      have e := he _ _ e
      have hj2 : j < L.length := by omega
      rw [show L.getD j [] = L[j] by simp [List.getD, hj2]] at e
      have := List.not_of_lt_findIdx (p := (· == s)) hj
      simp [e] at this)
    rw [this]
    omega
  · rw [if_neg h]
    rw [Lib.idxOfS_miss _ _ _ (fun j hj e => by
      rw [hg j hj] at e
      have e := he _ _ e
      rw [show L.getD j [] = L[j] by simp [List.getD, hj]] at e
      exact h (e ▸ List.getElem_mem hj))]
    rfl
theorem index_c (L : List (List UInt8)) (s : List UInt8) (R off c : Nat) (w : World) (hb : L.length ≤ 1000) (h : RdS L R off w) :
    Calls Tryz.prog 63 #[.slice (some ⟨R, off, none⟩) L.length c, .string ⟨s.toArray⟩] w fun e w' => e = .returned (.int .i64 ((plW L s : Int) - 1)) ∧ w = w' := by
  have := Tryz.slices_Index_string R off L.length c (L.map fun l => ⟨l.toArray⟩) ⟨s.toArray⟩ w (by simp) (by omega) (fun j hj => by
    have hj2 : j < L.length := by simpa using hj
    rw [h.2 j hj2]
    simp [List.getD, hj2])
  refine this.mono ?_
  rintro e w' ⟨rfl, rfl⟩
  rw [List.take_of_length_le (by simp), idx_plW]
  exact ⟨rfl, rfl⟩
set_option maxRecDepth 100000 in
set_option maxHeartbeats 2000000 in
theorem cread_c (f off B Y : Nat) (s : List UInt8) (u : Value) (w : World) (hs : s.length ≤ 50000) (hA : AtC f off) (hY : BxV Y (fnA f) w) (hB : B < w.heap.size) (hu : w.cell? ⟨B, off, none⟩ = some u) (hf : w.frozen? ⟨B, off, none⟩ = false) :
    Calls Tryz.prog 129 #[.pointer (some ⟨B, 0, none⟩), .string ⟨s.toArray⟩, .pointer (some ⟨Y, 0, none⟩)] w (CReadR (numZ s) B off w) := by
  have HN := Lib.hid (unumber_c s w (by omega))
  have hcf := hA.1
  have HA := Lib.hid hA.2
  have hy : w.cell? ⟨Y, 0, none⟩ = some (.func (.func f) #[] #[]) := hY.2
  cases hn : numZ s with
  | none =>
    rw [hn] at HN
    have HN : Hid (Calls Tryz.prog 65 #[.string ⟨s.toArray⟩] w fun e w' => e = .returned (.tuple #[.int .i64 0, .bool false]) ∧ w = w') := HN
    clear hn hs hA
    go_enter Tryz.func129, Tryz.ntmps129
    go_wp2_with (go_at_call 65; (with_reducible refine HN.out.mono ?_); rintro e w1 ⟨rfl, rfl⟩)
    go_ret
    exact ⟨rfl, Ext.refl _⟩
  | some n =>
    rw [hn] at HN
    have HN : Hid (Calls Tryz.prog 65 #[.string ⟨s.toArray⟩] w fun e w' => e = .returned (.tuple #[.int .i64 n, .bool true]) ∧ w = w') := HN
    clear hn hs hA
    go_enter Tryz.func129, Tryz.ntmps129
    go_wp2_with (go_at_call 65; (with_reducible refine HN.out.mono ?_); rintro e w1 ⟨rfl, rfl⟩)
    refine (HA.out _ _).mono ?_
    rintro e w2 ⟨rfl, rfl⟩
    go_wp2_with fail
    go_ret
    exact ⟨rfl, _, Ext.refl _, rfl⟩
/-- A word's place. -/
def plO (L : List (List UInt8)) (s : List UInt8) : Option Int := if plW L s = 0 then none else some (plW L s : Int)
set_option maxRecDepth 100000 in
set_option maxHeartbeats 2000000 in
theorem wread_c (L : List (List UInt8)) (f off B Y V H n : Nat) (s : List UInt8) (u : Value) (w : World) (hl : L.length = n) (hn : n ≤ 100) (hA : AtC f off) (hY : BxV Y (fnA f) w) (hV : BxV V (.slice (some ⟨H, 0, none⟩) n n) w) (hH : RdS L H 0 w) (hB : B < w.heap.size) (hu : w.cell? ⟨B, off, none⟩ = some u) (hf : w.frozen? ⟨B, off, none⟩ = false) :
    Calls Tryz.prog 127 #[.pointer (some ⟨B, 0, none⟩), .string ⟨s.toArray⟩, .pointer (some ⟨V, 0, none⟩), .pointer (some ⟨Y, 0, none⟩)] w (CReadR (plO L s) B off w) := by
  subst hl
  have HI := Lib.hid (index_c L s H 0 L.length w (by omega) hH)
  have hp := plW_le L s
  obtain ⟨p, hpe⟩ : ∃ p, p = plW L s := ⟨_, rfl⟩
  unfold plO
  rw [← hpe] at HI hp ⊢
  have hcf := hA.1
  have HA := Lib.hid hA.2
  have hy : w.cell? ⟨Y, 0, none⟩ = some (.func (.func f) #[] #[]) := hY.2
  have hv := hV.2
  clear hpe hA hH hY hV
  by_cases h0 : p = 0
  · subst h0
    go_enter Tryz.func127, Tryz.ntmps127
    go_wp2_with (go_at_call 63; (with_reducible refine HI.out.mono ?_); rintro e w1 ⟨rfl, rfl⟩)
    go_ret
    exact ⟨rfl, Ext.refl _⟩
  · rw [if_neg h0]
    have h1 : IntKind.i64.wrap ((p : Int) - 1 + 1) = (p : Int) := by rw [IntWalk.i64_in _ (by omega)]; omega
    go_enter Tryz.func127, Tryz.ntmps127
    go_wp2_with (go_at_call 63; (with_reducible refine HI.out.mono ?_); rintro e w1 ⟨rfl, rfl⟩)
    refine (HA.out _ _).mono ?_
    rintro e w2 ⟨rfl, rfl⟩
    go_wp2_with fail
    go_ret
    exact ⟨rfl, _, Ext.refl _, rfl⟩
end Go.Proofs.YtgndogpgfgliaaaGreatDoor
/- Recurrence rules: moments: the walks of UNTIL's reader, of moment on both sides, of the reference's Parse of a moment. -/
namespace Go.Proofs.YtgndogpgfgliaaaGreatDoor
set_option linter.unusedVariables false
set_option linter.unnecessarySimpa false
set_option linter.unusedSimpArgs false
open Go.RowKit

theorem form_int {s : List UInt8} (h : formL s) : ∃ y m d hh mi se : Int, (0 ≤ y ∧ y ≤ 9999 ∧ 0 ≤ m ∧ m ≤ 99 ∧ 0 ≤ d ∧ d ≤ 99 ∧ 0 ≤ hh ∧ hh ≤ 99 ∧ 0 ≤ mi ∧ mi ≤ 99 ∧ 0 ≤ se ∧ se ≤ 99) ∧ s = mtx y m d hh mi se := by
  obtain ⟨y, m, d, hh, mi, se, a, b, c, e, f, g, rfl⟩ := form_mtx h
  exact ⟨y, m, d, hh, mi, se, by omega, rfl⟩
theorem vld_000 : ¬ (vldB 0 0 0 = true ∧ tmB 0 0 0 = true) := fun h => by
  have := vld_parts h.1
  omega
theorem vld_99b {y m d h mi s : Int} (v : vldB y m d = true) (t : tmB h mi s = true) : 0 ≤ y ∧ y ≤ 9999 ∧ 0 ≤ m ∧ m ≤ 99 ∧ 0 ≤ d ∧ d ≤ 99 ∧ 0 ≤ h ∧ h ≤ 99 ∧ 0 ≤ mi ∧ mi ≤ 99 ∧ 0 ≤ s ∧ s ≤ 99 := by
  obtain ⟨a1, a2, a3, a4, a5, a6, _⟩ := vld_parts v
  obtain ⟨c1, c2, c3, c4, c5, c6⟩ := tm_iff.1 t
  omega
/-- A moment's six numbers. -/
def momA (y m d h mi s : Int) : Value := .agg #[.int .i64 y, .int .i64 m, .int .i64 d, .int .i64 h, .int .i64 mi, .int .i64 s]
theorem cparse_c (s : List UInt8) (w : World) (hs : s.length ≤ 50000) :
    Calls Tryz.prog 84 #[.string ⟨s.toArray⟩] w fun e w' => (∃ (y m d h mi se er : Int), e = .returned (.tuple #[momA y m d h mi se, .int .i64 er]) ∧ ((er = 0 ∧ vldB y m d = true ∧ tmB h mi se = true ∧ untZ s = some (inst y m d h mi se)) ∨ (0 < er ∧ untZ s = none ∧ ¬ (vldB y m d = true ∧ tmB h mi se = true)))) ∧ Ext w w' := by
  by_cases hF : formL s
  · obtain ⟨y, m, d, hh, mi, se, hb, rfl⟩ := form_int hF
    have hb2 := hb
    obtain ⟨a1, a2, a3, a4, a5, a6, a7, a8, a9, b1, b2, b3⟩ := hb2
    by_cases q : vldB y m d = true ∧ tmB hh mi se = true
    · refine (parse_v y m d hh mi se w a1 a2 a3 a4 a5 a6 a7 a8 a9 b1 b2 b3 q.1 q.2).mono ?_
      rintro e w' ⟨rfl, hE⟩
      exact ⟨⟨y, m, d, hh, mi, se, 0, rfl, .inl ⟨rfl, q.1, q.2, by rw [untZ_mtx hb, if_pos q]⟩⟩, hE⟩
    · refine (parse_i y m d hh mi se w a1 a2 a3 a4 a5 a6 a7 a8 a9 b1 b2 b3 q).mono ?_
      rintro e w' ⟨rfl, hE⟩
      exact ⟨⟨0, 0, 0, 0, 0, 0, 1, rfl, .inr ⟨by decide, by rw [untZ_mtx hb, if_neg q], vld_000⟩⟩, hE⟩
  · refine (parse_n s w hF (by omega)).mono ?_
    rintro e w' ⟨rfl, hE⟩
    exact ⟨⟨0, 0, 0, 0, 0, 0, 3, rfl, .inr ⟨by decide, untZ_no hF, vld_000⟩⟩, hE⟩
theorem rcparse_c (s : List UInt8) (w : World) (hs : s.length ≤ 50000) :
    Calls Tryz.prog 61 #[.string ⟨s.toArray⟩] w fun e w' => (∃ (y m d h mi se er : Int), e = .returned (.tuple #[momA y m d h mi se, .int .i64 er]) ∧ ((er = 0 ∧ vldB y m d = true ∧ tmB h mi se = true ∧ untZ s = some (inst y m d h mi se)) ∨ (0 < er ∧ untZ s = none))) ∧ Ext w w' := by
  by_cases hF : formL s
  · obtain ⟨y, m, d, hh, mi, se, hb, rfl⟩ := form_int hF
    have hb2 := hb
    obtain ⟨a1, a2, a3, a4, a5, a6, a7, a8, a9, b1, b2, b3⟩ := hb2
    have h := rparse_f y m d hh mi se w a1 a2 a3 a4 a5 a6 a7 a8 a9 b1 b2 b3
    by_cases q : vldB y m d = true ∧ tmB hh mi se = true
    · rw [show prsR y m d hh mi se = _ from if_pos q] at h
      refine h.mono ?_
      rintro e w' ⟨rfl, hE⟩
      exact ⟨⟨y, m, d, hh, mi, se, 0, rfl, .inl ⟨rfl, q.1, q.2, by rw [untZ_mtx hb, if_pos q]⟩⟩, hE⟩
    · rw [show prsR y m d hh mi se = _ from if_neg q] at h
      refine h.mono ?_
      rintro e w' ⟨rfl, hE⟩
      exact ⟨⟨0, 0, 0, 0, 0, 0, 1, rfl, .inr ⟨by decide, by rw [untZ_mtx hb, if_neg q]⟩⟩, hE⟩
  · refine (rparse_n s w hF (by omega)).mono ?_
    rintro e w' ⟨rfl, hE⟩
    exact ⟨⟨0, 0, 0, 0, 0, 0, 3, rfl, .inr ⟨by decide, untZ_no hF⟩⟩, hE⟩
set_option maxRecDepth 100000 in
set_option maxHeartbeats 1000000 in
theorem uread_c (B : Nat) (s : List UInt8) (u : Value) (w : World) (hs : s.length ≤ 50000) (hB : B < w.heap.size) (hu : w.cell? ⟨B, 3, none⟩ = some u) (hf : w.frozen? ⟨B, 3, none⟩ = false) :
    Calls Tryz.prog 83 #[.pointer (some ⟨B, 0, none⟩), .string ⟨s.toArray⟩] w (CReadR (untZ s) B 3 w) := by
  have HP := Lib.hid (cparse_c s w hs)
  have HU := Lib.hid hu
  have HF := Lib.hid hf
  clear hu hf hs
  go_enter Tryz.func83, Tryz.ntmps83
  go_upto_region 2 with (go_at_call 84; (with_reducible refine HP.out.mono ?_); rintro e w1 ⟨⟨y, m, d, hh, mi, se, er, rfl, hor⟩, hE1⟩; have Hor := Lib.hid hor; clear hor; unfold momA)
  have hE2 : Ext w (w1.alloc (.cells #[.int .i64 y, .int .i64 m, .int .i64 d, .int .i64 hh, .int .i64 mi, .int .i64 se] 98)) := hE1.alloc _
  have HE2 := Lib.hid hE2
  have hc : ∀ o, (w1.alloc (.cells #[.int .i64 y, .int .i64 m, .int .i64 d, .int .i64 hh, .int .i64 mi, .int .i64 se] 98)).cell? ⟨w1.heap.size, o, none⟩ = (#[.int .i64 y, .int .i64 m, .int .i64 d, .int .i64 hh, .int .i64 mi, .int .i64 se] : Array Value)[o]? := fun o => World.cell?_alloc_new _ _ _ _
  have k0 := hc 0
  have k1 := hc 1
  have k2 := hc 2
  have k3 := hc 3
  have k4 := hc 4
  have k5 := hc 5
  simp only [List.getElem?_toArray, List.getElem?_cons_zero, List.getElem?_cons_succ] at k0 k1 k2 k3 k4 k5
  generalize w1.alloc (.cells #[.int .i64 y, .int .i64 m, .int .i64 d, .int .i64 hh, .int .i64 mi, .int .i64 se] 98) = W2 at *
  generalize w1.heap.size = B1 at *
  clear hc hE2 hE1
  rcases Hor.out with ⟨rfl, hv, ht, hz⟩ | ⟨her, hz, hv⟩
  · have HZ := Lib.hid hz
    have HO := Lib.hid (of_yes y m d hh mi se W2 hv ht)
    clear hv ht hz
    go_wp2_with (go_at_call 85; (with_reducible refine HO.out.mono ?_); rintro e w3 ⟨rfl, hE3⟩; have hE4 := HE2.out.trans hE3; have u1 := (hE4.cells _ 3 hB).trans HU.out; have f1 : w3.frozen? ⟨B, 3, none⟩ = false := (hE4.frozens B 3 hB).trans HF.out; have hB1 := hE4.lt hB)
    go_ret
    show CReadR (untZ s) B 3 w _ _
    rw [HZ.out]
    exact ⟨rfl, _, hE4, rfl⟩
  · have HZ := Lib.hid hz
    have t1 : (er != 0) = true := by rw [bne_iff_ne]; omega
    have t2 : (er == 0) = false := by rw [beq_eq_false_iff_ne]; omega
    have HO := Lib.hid (of_no y m d hh mi se W2 hv)
    clear hv hz her
    go_wp2_with (go_at_call 85; (with_reducible refine HO.out.mono ?_); rintro e w3 ⟨rfl, hE3⟩)
    go_ret
    show CReadR (untZ s) B 3 w _ _
    rw [HZ.out]
    exact ⟨rfl, HE2.out.trans hE3⟩
theorem momT_insT {t : Int} (h : locZ t = true) : insT t = true := by
  unfold locZ at h
  rw [decide_eq_true_eq] at h
  exact insT_iff.2 h
set_option maxRecDepth 100000 in
set_option maxHeartbeats 1000000 in
theorem umoment_c (t : Int) (X : List UInt8) (w : World) (h : locZ t = true) (hX : momT t = X) :
    Calls Tryz.prog 48 #[.int .i64 t] w fun e w' => e = .returned (.string ⟨X.toArray⟩) ∧ Ext w w' := by
  have hh := hms_99 t
  have HM := Lib.hid (moment_yes t w (momT_insT h))
  have HX : Hid (∀ y m d, IsDate (t / 86400) y m d → ∀ w', Calls Tryz.prog 107 #[momv t y m d] w' fun e w'' => e = .returned (.string ⟨X.toArray⟩) ∧ Ext w' w'') := fun y m d hd w' => by
    rw [← hX, momT_is hd]
    exact mtext_yes y m d _ _ _ w' hd.1 (tm_iff.2 hh)
  unfold momv at HM HX
  generalize t % 86400 / 3600 = H at *
  generalize t % 86400 / 60 % 60 = M at *
  generalize t % 86400 % 60 = E at *
  clear h hX
  go_enter Tryz.func48, Tryz.ntmps48
  go_wp2_with (first
    | (go_at_call 106; (with_reducible refine HM.out.mono ?_); rintro e w1 ⟨y, m, d, rfl, hD, hE1⟩; have HT := Lib.hid (HX.out y m d hD); clear hD)
    | (go_at_call 107; (with_reducible refine (HT.out _).mono ?_); rintro e w2 ⟨rfl, hE2⟩))
  go_ret
  exact ⟨rfl, hE1.trans (((Ext.refl _).alloc _).trans hE2)⟩
set_option maxRecDepth 100000 in
set_option maxHeartbeats 1000000 in
theorem rumoment_c (t : Int) (X : List UInt8) (w : World) (h : locZ t = true) (hX : momT t = X) :
    Calls Tryz.prog 38 #[.int .i64 t] w fun e w' => e = .returned (.string ⟨X.toArray⟩) ∧ Ext w w' := by
  have hh := hms_99 t
  have HM := Lib.hid (rmoment_yes t w (momT_insT h))
  have HX : Hid (∀ y m d, IsDate (t / 86400) y m d → ∀ w', Calls Tryz.prog 99 #[momv t y m d] w' fun e w'' => e = .returned (.string ⟨X.toArray⟩) ∧ Ext w' w'') := fun y m d hd w' => by
    rw [← hX, momT_is hd]
    exact rmtext_yes y m d _ _ _ w' hd.1 (tm_iff.2 hh)
  unfold momv at HM HX
  generalize t % 86400 / 3600 = H at *
  generalize t % 86400 / 60 % 60 = M at *
  generalize t % 86400 % 60 = E at *
  clear h hX
  go_enter Tryz.func38, Tryz.ntmps38
  go_wp2_with (first
    | (go_at_call 100; (with_reducible refine HM.out.mono ?_); rintro e w1 ⟨y, m, d, rfl, hD, hE1⟩; have HT := Lib.hid (HX.out y m d hD); clear hD)
    | (go_at_call 99; (with_reducible refine (HT.out _).mono ?_); rintro e w2 ⟨rfl, hE2⟩))
  go_ret
  exact ⟨rfl, hE1.trans hE2⟩
end Go.Proofs.YtgndogpgfgliaaaGreatDoor
/- Slices of strings that a call makes; strings.Join; plain lemmas on joined texts. -/
namespace Go.Proofs.YtgndogpgfgliaaaGreatDoor
set_option linter.unusedVariables false
set_option linter.unnecessarySimpa false
set_option linter.unusedSimpArgs false
open Go.RowKit

theorem lens_le : ∀ (l : List (List UInt8)) (m : Nat), (∀ a ∈ l, a.length ≤ m) → Lib.lens l ≤ m * l.length
  | [], m, _ => by simp [Lib.lens]
  | a :: r, m, h => by
    have h1 := h a (by simp)
    have h2 := lens_le r m fun x hx => h x (by simp [hx])
    simp only [Lib.lens, List.map_cons, List.sum_cons, List.length_cons, Nat.mul_succ] at *
    omega
theorem join_le (l : List (List UInt8)) (sep : List UInt8) (m : Nat) (h : ∀ a ∈ l, a.length ≤ m) : (Lib.join l sep).length ≤ (m + sep.length) * l.length := by
  cases l with
  | nil => simp [Lib.join]
  | cons x r =>
    rw [Lib.join_length]
    have := lens_le (x :: r) m h
    rw [Nat.add_mul]
    have := Nat.mul_le_mul_left sep.length (show r.length ≤ (x :: r).length by simp)
    omega
theorem join_take_succ (ws : List (List UInt8)) (sep : List UInt8) (k : Nat) (h : k < ws.length) : Lib.join (ws.take (k + 1)) sep = Lib.join (ws.take k) sep ++ ((if k = 0 then [] else sep) ++ ws[k]) := by
  cases ws with
  | nil => simp at h
  | cons x r =>
    rw [List.take_succ_cons, Lib.join_cons]
    cases k with
    | zero => simp [Lib.joinTail, Lib.join_nil]
    | succ j =>
      have hj : j < r.length := by simpa using h
      rw [List.take_succ_cons, Lib.join_cons, Lib.joinTail_take_succ sep r j r[j] (List.getElem?_eq_getElem hj), if_neg (Nat.succ_ne_zero j)]
      simp
theorem own_ext {w w' : World} {base size n : Nat} {e : TypeId} {v : Value} {xs : List Value} (h : w.ownsRow base e size v n xs) (hE : Ext w w') : w'.ownsRow base e size v n xs := by
  obtain ⟨h1, h2⟩ := h
  refine ⟨h1, ?_⟩
  rcases h2 with q | ⟨g, cap, cur, e0, hb, hg, hr⟩
  · exact .inl q
  · refine .inr ⟨g, cap, cur, e0, hb, ?_, hr⟩
    have hlt : g < w.heap.size := by
      rcases Nat.lt_or_ge g w.heap.size with q | q
      · exact q
      · rw [Array.getElem?_eq_none q] at hg; cases hg
    rw [← hg]
    exact hE.block g hlt
theorem sjoin_c (ws : List (List UInt8)) (R off cap : Nat) (sep X : List UInt8) (w : World) (h : RdS ws R off w) (hc : ws.length ≤ cap) (hn : ws.length ≤ 1000000) (hl : (Lib.join ws sep).length ≤ 140737488355328) (hX : Lib.join ws sep = X) :
    Calls Tryz.prog 34 #[.slice (some ⟨R, off, none⟩) ws.length cap, .string ⟨sep.toArray⟩] w fun e w' => e = .returned (.string ⟨X.toArray⟩) ∧ Ext w w' := by
  have e1 : (ws.map fun l => (⟨l.toArray⟩ : ByteArray)).map (·.data.toList) = ws := by
    rw [List.map_map]
    exact (List.map_congr_left (fun a _ => by simp)).trans (List.map_id ws)
  have e2 : (⟨sep.toArray⟩ : ByteArray).data.toList = sep := by simp
  have h1 := Tryz.strings_Join R off cap (ws.map fun l => (⟨l.toArray⟩ : ByteArray)) ⟨sep.toArray⟩ w (fun j x hx => by
    rw [List.getElem?_map] at hx
    obtain ⟨l, hl, rfl⟩ := Option.map_eq_some_iff.1 hx
    obtain ⟨hj, rfl⟩ := List.getElem?_eq_some_iff.1 hl
    exact h.2 j hj) h.1 (by rw [List.length_map]; omega) (by rw [List.length_map]; exact hc) (by rw [e1, e2]; exact hl)
  rw [e1, e2, List.length_map, hX] at h1
  exact h1
/-- strings.Join of a slice that the call itself has made. -/
theorem ojoin_c (ws : List (List UInt8)) (base : Nat) (t : TypeId) (ao : Option Addr) (cap : Nat) (sep X : List UInt8) (w : World) (h : w.ownsRow base t 1 (.slice ao ws.length cap) ws.length (sv ws)) (hn : ws.length ≤ 1000000) (hl : (Lib.join ws sep).length ≤ 140737488355328) (hX : Lib.join ws sep = X) :
    Calls Tryz.prog 34 #[.slice ao ws.length cap, .string ⟨sep.toArray⟩] w fun e w' => e = .returned (.string ⟨X.toArray⟩) ∧ Ext w w' := by
  by_cases h0 : ws = []
  · subst h0
    subst hX
    refine (Tryz.strings_Join_none ao cap ⟨sep.toArray⟩ w).mono ?_
    rintro e w' ⟨rfl, rfl⟩
    exact ⟨rfl, Ext.refl _⟩
  · obtain ⟨R, cp, e, h1, h2, h3, -⟩ := RdS.of_own h rfl h0
    injection e with e1 e2 e3
    subst e1; subst e3
    exact sjoin_c ws R 0 cap sep X w h3 h1 hn hl hX
theorem infoStr : (Tryz.prog.info? 9).map (fun i => (i.zero, i.size, i.bytes)) = some (some (.string .empty), 1, 16) := by kernel_rfl
end Go.Proofs.YtgndogpgfgliaaaGreatDoor
/- Recurrence rules: the walks of decimal, numbersText, DaysText. -/
namespace Go.Proofs.YtgndogpgfgliaaaGreatDoor
set_option linter.unusedVariables false
set_option linter.unnecessarySimpa false
set_option linter.unusedSimpArgs false
open Go.RowKit

theorem udec_c (n : Int) (X : List UInt8) (w : World) (h : i64 n) (hX : decZ n = X) :
    Calls Tryz.prog 42 #[.int .i64 n] w fun e w' => e = .returned (.string ⟨X.toArray⟩) ∧ Ext w w' := by
  have HT : Hid (∀ w', Calls Tryz.prog 101 #[.int .i64 n, .int .i64 1] w' fun e w'' => e = .returned (.string ⟨X.toArray⟩) ∧ Ext w' w'') := fun w' => by
    have := text_c n 1 w' h.1 h.2 (by decide) (by decide)
    rwa [show itxI n (1 : Int).toNat = X from hX] at this
  clear h hX
  go_enter Tryz.func42, Tryz.ntmps42
  go_wp2_with (go_at_call 101; (with_reducible refine (HT.out _).mono ?_); rintro e w1 ⟨rfl, hE⟩)
  go_ret
  exact ⟨rfl, hE⟩
theorem decZ_20 {n : Int} (h : i64 n) : (decZ n).length ≤ 20 := decZ_len 19 (by decide) (by unfold i64 at h; omega)
set_option maxRecDepth 100000 in
set_option maxHeartbeats 2000000 in
theorem unumsT_c (zs : List Int) (ao : Option Addr) (cap : Nat) (X : List UInt8) (w : World) (h : IsV ao cap zs w) (hi : ∀ n ∈ zs, i64 n) (hn : zs.length ≤ 100000) (hX : numsT zs = X) :
    Calls Tryz.prog 139 #[.slice ao zs.length cap] w fun e w' => e = .returned (.string ⟨X.toArray⟩) ∧ Ext w w' := by
  obtain ⟨h0, hcap, hL⟩ := h
  unfold maxLen at hcap
  have HL := Lib.hid hL
  have HI := Lib.hid hi
  have HJ : Hid (∀ (ao : Option Addr) (cap : Nat) (W : World), W.ownsRow w.heap.size 9 1 (.slice ao zs.length cap) zs.length (sv (zs.map decZ)) → Calls Tryz.prog 34 #[.slice ao zs.length cap, .string ⟨#[44]⟩] W fun e w' => e = .returned (.string ⟨X.toArray⟩) ∧ Ext W w') := fun ao cap W q => by
    have e : zs.length = (zs.map decZ).length := by rw [List.length_map]
    rw [e] at q ⊢
    refine ojoin_c (zs.map decZ) w.heap.size 9 ao cap [44] X W q (by rw [List.length_map]; omega) ?_ hX
    refine Nat.le_trans (join_le _ _ 20 (fun a ha => ?_)) ?_
    · obtain ⟨n, hn, rfl⟩ := List.mem_map.1 ha
      exact decZ_20 (hi n hn)
    · rw [List.length_map]; simp; omega
  obtain ⟨i0, hif, hz0, hz1, hz2⟩ := info_parts infoStr
  have Hi := Lib.hid hif
  have Hz0 := Lib.hid hz0
  have Hz1 := Lib.hid hz1
  have Hz2 := Lib.hid hz2
  clear hif hz0 hz1 hz2 hX hi hL
  go_enter Tryz.func139, Tryz.ntmps139
  go_wp2_with fail
  go_loopw [3, 8] (fun o i wr => ∃ (j : Nat) (ao2 : Option Addr) (cv : Nat), j ≤ zs.length ∧ o = .slice ao2 j cv ∧ i = .int .i64 (j : Int) ∧ wr.ownsRow w.heap.size 9 1 o j (sv ((zs.take j).map decZ)) ∧ Ext w wr) (fun _ i _ => zs.length - (intOf i).toNat)
  case atStart => exact ⟨0, none, 0, Nat.zero_le _, rfl, rfl, World.ownsRow_nil _ _ _ _, Ext.refl _⟩
  case round =>
    obtain ⟨j, ao2, cv, hj, rfl, rfl, hown, hE⟩ := hrel
    by_cases hlt : j < zs.length
    · obtain ⟨R, off, rfl, hR⟩ := HL.out (by rintro rfl; simp at hlt)
      have hRr := hR.ext hE
      have hRz := hRr.1
      have x0 := hRr.2 j hlt
      have hn5 := HI.out _ (List.getElem_mem hlt)
      have htk : sv ((zs.take (j + 1)).map decZ) = sv ((zs.take j).map decZ) ++ [.string ⟨(decZ zs[j]).toArray⟩] := by rw [List.take_succ_eq_append_getElem hlt, List.map_append, ← sv_app]; rfl
      have Htk := Lib.hid htk
      obtain ⟨n, hn⟩ : ∃ n, n = zs[j] := ⟨_, rfl⟩
      rw [← hn] at x0 hn5 Htk
      obtain ⟨Y, hY⟩ : ∃ Y, Y = decZ n := ⟨_, rfl⟩
      rw [← hY] at Htk
      have HD : Hid (∀ w', Calls Tryz.prog 42 #[.int .i64 n] w' fun e w'' => e = .returned (.string ⟨Y.toArray⟩) ∧ Ext w' w'') := fun w' => udec_c n Y w' hn5 hY.symm
      clear hn htk hY hn5 hR hRr
      go_wp2_with (first
        | (go_at_call 42; (with_reducible refine (HD.out _).mono ?_); rintro e w2 ⟨rfl, hE2⟩; have hE3 := hE.trans hE2; have hown2 := own_ext hown hE2)
        | (at_builtin; refine wpList_append_own _ rfl _ _ 55 rfl w.heap.size 9 i0 (.string .empty) 1 16 Tryz.underlying55 Hi.out Hz0.out Hz1.out Hz2.out rfl (by decide) _ _ _ rfl (hown2.alloc _) ⟨w2.heap.size, 0, none⟩ 1 1 [.string ⟨Y.toArray⟩] rfl rfl (cell_one_new _ _ _) (fun x hx => by simp at hx; subst hx; rfl) (by unfold maxLen; omega) (by omega) (by have := hE3.size; simp; omega) ?_; intro v' w3 hown' hgrow3 hnil3))
      have hExt := ext_grown (v := .slice ao2 j cv) (hE3.alloc _) (hown2.alloc _) hgrow3
      obtain ⟨ao3, cv3, rfl⟩ := own_slice hown'
      go_roundw
      case rel => exact ⟨j + 1, ao3, cv3, by omega, rfl, by go_num, by rw [Htk.out]; exact hown', hExt⟩
      case measure => simp [intOf]; omega
    · obtain rfl : j = zs.length := by omega
      rw [List.take_length] at hown
      have HJ2 := Lib.hid (HJ.out ao2 cv wr hown)
      clear hown
      go_wp2_with (go_at_call 34; (with_reducible refine HJ2.out.mono ?_); rintro e w2 ⟨rfl, hE2⟩)
      go_ret
      exact ⟨rfl, hE.trans hE2⟩
end Go.Proofs.YtgndogpgfgliaaaGreatDoor
