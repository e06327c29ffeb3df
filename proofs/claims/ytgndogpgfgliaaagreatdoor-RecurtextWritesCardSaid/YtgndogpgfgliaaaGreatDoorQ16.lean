/- Recurrence rules: the readers of the fields, as the plain law says. -/
import Derived.Test.YtgndogpgfgliaaaGreatDoorQ13
import Derived.Test.YtgndogpgfgliaaaGreatDoorQ15
namespace Go.Proofs.YtgndogpgfgliaaaGreatDoor
set_option linter.unusedVariables false
set_option linter.unnecessarySimpa false
set_option linter.unusedSimpArgs false
open Go.RowKit

theorem range_setAt {w : World} {B off : Nat} {vs : List Value} {v u : Value} (h : w.rangeAt B 0 vs) (hu : vs[off]? = some u) : (w.setCell ⟨B, off, none⟩ v).rangeAt B 0 (vs.set off v) := by
  intro j x hx
  rw [Nat.zero_add]
  by_cases e : off = j
  · subst e
    have hl : off < vs.length := by
      rcases Nat.lt_or_ge off vs.length with q | q
      · exact q
      · rw [List.getElem?_eq_none q] at hu; cases hu
    rw [List.getElem?_set_self hl] at hx
    injection hx with hx
    subst hx
    have := h off u hu
    rw [Nat.zero_add] at this
    exact World.cell?_setCell_same _ _ _ this
  · rw [List.getElem?_set_ne e] at hx
    have := h j x hx
    rw [Nat.zero_add] at this
    rw [World.cell?_setCell_other _ _ _ _ (by simp [e])]
    exact this
theorem IsV.frm {ao : Option Addr} {cap B : Nat} {zs : List Int} {w w' : World} (h : IsV ao cap zs w) (hb : ∀ R o m, ao = some ⟨R, o, m⟩ → R ≠ B) (hF : Frm (fun b => b = B) w w') : IsV ao cap zs w' := by
  refine ⟨h.1, h.2.1, fun hl => ?_⟩
  obtain ⟨R, off, e, h1, h2⟩ := h.2.2 hl
  exact ⟨R, off, e, hF.lt h1, fun i hi => (hF.cel h1 (hb R off none e) _).trans (h2 i hi)⟩
theorem OsV.frm {ao : Option Addr} {cap B : Nat} {l : List (Int × Int)} {w w' : World} (h : OsV ao cap l w) (hb : ∀ R o m, ao = some ⟨R, o, m⟩ → R ≠ B) (hF : Frm (fun b => b = B) w w') : OsV ao cap l w' := by
  refine ⟨h.1, h.2.1, fun hl => ?_⟩
  obtain ⟨R, off, e, h1, h2⟩ := h.2.2 hl
  exact ⟨R, off, e, hF.lt h1, fun i hi => ⟨(hF.cel h1 (hb R off none e) _).trans (h2 i hi).1, (hF.cel h1 (hb R off none e) _).trans (h2 i hi).2⟩⟩
theorem IsV.frmF {ao : Option Addr} {cap : Nat} {F : Nat → Prop} {zs : List Int} {w w' : World} (h : IsV ao cap zs w) (hb : ∀ R o m, ao = some ⟨R, o, m⟩ → ¬ F R) (hF : Frm F w w') : IsV ao cap zs w' := by
  refine ⟨h.1, h.2.1, fun hl => ?_⟩
  obtain ⟨R, off, e, h1, h2⟩ := h.2.2 hl
  exact ⟨R, off, e, hF.lt h1, fun i hi => (hF.cel h1 (hb R off none e) _).trans (h2 i hi)⟩
theorem OsV.frmF {ao : Option Addr} {cap : Nat} {F : Nat → Prop} {l : List (Int × Int)} {w w' : World} (h : OsV ao cap l w) (hb : ∀ R o m, ao = some ⟨R, o, m⟩ → ¬ F R) (hF : Frm F w w') : OsV ao cap l w' := by
  refine ⟨h.1, h.2.1, fun hl => ?_⟩
  obtain ⟨R, off, e, h1, h2⟩ := h.2.2 hl
  exact ⟨R, off, e, hF.lt h1, fun i hi => ⟨(hF.cel h1 (hb R off none e) _).trans (h2 i hi).1, (hF.cel h1 (hb R off none e) _).trans (h2 i hi).2⟩⟩
theorem Frm.below {F G : Nat → Prop} {a b c : World} (hE : Ext a b) (hF : Frm G b c) (h : ∀ k, k < a.heap.size → G k → F k) : Frm F a c :=
  ⟨hF.os.trans hE.os, hF.tape.trans hE.tape, hF.output.trans hE.output, Nat.le_trans hE.size hF.size, fun i hi hn => (hF.block i (Nat.lt_of_lt_of_le hi hE.size) (fun q => hn (h i hi q))).trans (hE.block i hi)⟩
/-- What reading a part does to the rule in block B. -/
def RdR (k : Nat) (s : List UInt8) (r : Rec) (B : Nat) (w0 w : World) (e : Ending) (w' : World) : Prop :=
  match partZ untZ k s r.D with
  | some D' => e = .returned (.bool true) ∧ ∃ r' : Rec, r'.D = D' ∧ RcB r' B w' ∧ (∀ (F : Nat → Prop) W, (∀ b, F b → b < w.heap.size) → (∀ W', Frm (fun b => F b ∨ b = B) w W' → RcV r W') → Frm F w' W → RcV r' W) ∧ Frm (fun b => b = B) w w'
  | none => e = .returned (.bool false) ∧ Ext w w'
/-- The rule lies in block B of its own, its slices elsewhere. -/
structure RcO (r : Rec) (B : Nat) (w0 w : World) : Prop where
  b : RcB r B w
  v : RcV r w0
  e : Ext w0 w
  n : w0.heap.size ≤ B
  f : ∀ o, w.frozen? ⟨B, o, none⟩ = false
theorem RcO.ext {r : Rec} {B : Nat} {w0 w w' : World} (h : RcO r B w0 w) (hE : Ext w w') : RcO r B w0 w' :=
  ⟨h.b.ext hE, h.v, h.e.trans hE, h.n, fun o => (hE.frozens B o h.b.1).trans (h.f o)⟩
theorem RcO.set {r : Rec} {B off : Nat} {w0 w w1 : World} {u v : Value} (h : RcO r B w0 w) (hE : Ext w w1) (hu : r.vals[off]? = some u) :
    B < (w1.setCell ⟨B, off, none⟩ v).heap.size ∧ (w1.setCell ⟨B, off, none⟩ v).rangeAt B 0 (r.vals.set off v) ∧ (∀ (F : Nat → Prop) W, (∀ b, F b → b < w.heap.size) → (∀ W', Frm (fun b => F b ∨ b = B) w W' → RcV r W') → Frm F (w1.setCell ⟨B, off, none⟩ v) W → RcV r W) ∧ Frm (fun b => b = B) w1 (w1.setCell ⟨B, off, none⟩ v) ∧ Frm (fun b => b = B) w (w1.setCell ⟨B, off, none⟩ v) := by
  have hF1 : Frm (fun b => b = B) w1 (w1.setCell ⟨B, off, none⟩ v) := (Frm.refl (fun b => b = B) w1).setCell (p := ⟨B, off, none⟩) (.inl rfl) v
  have hB1 := h.b.ext hE
  exact ⟨hF1.lt hB1.1, range_setAt hB1.2 hu, (fun F W f1 f2 hF => f2 W (((Frm.of_ext hE).trans (hF1.mono (fun _ _ q => .inr q))).trans (hF.mono (fun _ _ q => .inl q)))), hF1, (Frm.of_ext hE).trans hF1⟩
set_option maxRecDepth 100000 in
theorem rd4_c (r : Rec) (B Y : Nat) (s : List UInt8) (w0 w : World) (hm : Lm w) (hs : s.length ≤ 50000) (hR : RcO r B w0 w) (hY : BxV Y (fnA (atF 4)) w) :
    Calls Tryz.prog 136 #[.pointer (some ⟨B, 0, none⟩), .string ⟨s.toArray⟩, .pointer (some ⟨Y, 0, none⟩)] w (RdR 4 s r B w0 w) := by
  refine (lread_c (atF 4) (offF 4) B Y s (.slice (r.a 0) r.D.mo.length (r.c 0)) w hm hs at4_c hY hR.b.1 (hR.b.at_ rfl) (hR.f _)).mono ?_
  intro e w' q
  show RdR 4 s r B w0 w e w'
  unfold LReadR at q
  unfold RdR partZ
  cases hz : numsZ s with
  | none =>
    rw [hz] at q
    exact q
  | some l =>
    rw [hz] at q
    obtain ⟨rfl, ao, cap, w1, hE, hV, hb, rfl⟩ := q
    obtain ⟨h1, h2, hO, h4, h5⟩ := RcO.set (v := .slice ao l.length cap) (off := 4) hR hE (u := .slice (r.a 0) r.D.mo.length (r.c 0)) rfl
    have hV2 := hV.frm (fun R o m e q => by have := hb R o m e; have := hR.b.1; omega) h4
    have hV3 := fun (F : Nat → Prop) (W : World) (f1 : ∀ b, F b → b < w.heap.size) (hF : Frm F _ W) => hV2.frmF (fun R o m e q => by have := hb R o m e; have := f1 R q; omega) hF
    exact ⟨rfl, ⟨{ r.D with mo := l }, fun j => if j = 0 then ao else r.a j, fun j => if j = 0 then cap else r.c j⟩, rfl, ⟨h1, h2⟩, (fun F W f1 f2 hF => ⟨hV3 F W f1 hF, (hO F W f1 f2 hF).md, (hO F W f1 f2 hF).yd, (hO F W f1 f2 hF).wk, (hO F W f1 f2 hF).da, (hO F W f1 f2 hF).ho, (hO F W f1 f2 hF).mi, (hO F W f1 f2 hF).se, (hO F W f1 f2 hF).po⟩), h5⟩
set_option maxRecDepth 100000 in
theorem rd5_c (r : Rec) (B Y : Nat) (s : List UInt8) (w0 w : World) (hm : Lm w) (hs : s.length ≤ 50000) (hR : RcO r B w0 w) (hY : BxV Y (fnA (atF 5)) w) :
    Calls Tryz.prog 136 #[.pointer (some ⟨B, 0, none⟩), .string ⟨s.toArray⟩, .pointer (some ⟨Y, 0, none⟩)] w (RdR 5 s r B w0 w) := by
  refine (lread_c (atF 5) (offF 5) B Y s (.slice (r.a 3) r.D.wk.length (r.c 3)) w hm hs at5_c hY hR.b.1 (hR.b.at_ rfl) (hR.f _)).mono ?_
  intro e w' q
  show RdR 5 s r B w0 w e w'
  unfold LReadR at q
  unfold RdR partZ
  cases hz : numsZ s with
  | none =>
    rw [hz] at q
    exact q
  | some l =>
    rw [hz] at q
    obtain ⟨rfl, ao, cap, w1, hE, hV, hb, rfl⟩ := q
    obtain ⟨h1, h2, hO, h4, h5⟩ := RcO.set (v := .slice ao l.length cap) (off := 7) hR hE (u := .slice (r.a 3) r.D.wk.length (r.c 3)) rfl
    have hV2 := hV.frm (fun R o m e q => by have := hb R o m e; have := hR.b.1; omega) h4
    have hV3 := fun (F : Nat → Prop) (W : World) (f1 : ∀ b, F b → b < w.heap.size) (hF : Frm F _ W) => hV2.frmF (fun R o m e q => by have := hb R o m e; have := f1 R q; omega) hF
    exact ⟨rfl, ⟨{ r.D with wk := l }, fun j => if j = 3 then ao else r.a j, fun j => if j = 3 then cap else r.c j⟩, rfl, ⟨h1, h2⟩, (fun F W f1 f2 hF => ⟨(hO F W f1 f2 hF).mo, (hO F W f1 f2 hF).md, (hO F W f1 f2 hF).yd, hV3 F W f1 hF, (hO F W f1 f2 hF).da, (hO F W f1 f2 hF).ho, (hO F W f1 f2 hF).mi, (hO F W f1 f2 hF).se, (hO F W f1 f2 hF).po⟩), h5⟩
set_option maxRecDepth 100000 in
theorem rd6_c (r : Rec) (B Y : Nat) (s : List UInt8) (w0 w : World) (hm : Lm w) (hs : s.length ≤ 50000) (hR : RcO r B w0 w) (hY : BxV Y (fnA (atF 6)) w) :
    Calls Tryz.prog 136 #[.pointer (some ⟨B, 0, none⟩), .string ⟨s.toArray⟩, .pointer (some ⟨Y, 0, none⟩)] w (RdR 6 s r B w0 w) := by
  refine (lread_c (atF 6) (offF 6) B Y s (.slice (r.a 2) r.D.yd.length (r.c 2)) w hm hs at6_c hY hR.b.1 (hR.b.at_ rfl) (hR.f _)).mono ?_
  intro e w' q
  show RdR 6 s r B w0 w e w'
  unfold LReadR at q
  unfold RdR partZ
  cases hz : numsZ s with
  | none =>
    rw [hz] at q
    exact q
  | some l =>
    rw [hz] at q
    obtain ⟨rfl, ao, cap, w1, hE, hV, hb, rfl⟩ := q
    obtain ⟨h1, h2, hO, h4, h5⟩ := RcO.set (v := .slice ao l.length cap) (off := 6) hR hE (u := .slice (r.a 2) r.D.yd.length (r.c 2)) rfl
    have hV2 := hV.frm (fun R o m e q => by have := hb R o m e; have := hR.b.1; omega) h4
    have hV3 := fun (F : Nat → Prop) (W : World) (f1 : ∀ b, F b → b < w.heap.size) (hF : Frm F _ W) => hV2.frmF (fun R o m e q => by have := hb R o m e; have := f1 R q; omega) hF
    exact ⟨rfl, ⟨{ r.D with yd := l }, fun j => if j = 2 then ao else r.a j, fun j => if j = 2 then cap else r.c j⟩, rfl, ⟨h1, h2⟩, (fun F W f1 f2 hF => ⟨(hO F W f1 f2 hF).mo, (hO F W f1 f2 hF).md, hV3 F W f1 hF, (hO F W f1 f2 hF).wk, (hO F W f1 f2 hF).da, (hO F W f1 f2 hF).ho, (hO F W f1 f2 hF).mi, (hO F W f1 f2 hF).se, (hO F W f1 f2 hF).po⟩), h5⟩
set_option maxRecDepth 100000 in
theorem rd7_c (r : Rec) (B Y : Nat) (s : List UInt8) (w0 w : World) (hm : Lm w) (hs : s.length ≤ 50000) (hR : RcO r B w0 w) (hY : BxV Y (fnA (atF 7)) w) :
    Calls Tryz.prog 136 #[.pointer (some ⟨B, 0, none⟩), .string ⟨s.toArray⟩, .pointer (some ⟨Y, 0, none⟩)] w (RdR 7 s r B w0 w) := by
  refine (lread_c (atF 7) (offF 7) B Y s (.slice (r.a 1) r.D.md.length (r.c 1)) w hm hs at7_c hY hR.b.1 (hR.b.at_ rfl) (hR.f _)).mono ?_
  intro e w' q
  show RdR 7 s r B w0 w e w'
  unfold LReadR at q
  unfold RdR partZ
  cases hz : numsZ s with
  | none =>
    rw [hz] at q
    exact q
  | some l =>
    rw [hz] at q
    obtain ⟨rfl, ao, cap, w1, hE, hV, hb, rfl⟩ := q
    obtain ⟨h1, h2, hO, h4, h5⟩ := RcO.set (v := .slice ao l.length cap) (off := 5) hR hE (u := .slice (r.a 1) r.D.md.length (r.c 1)) rfl
    have hV2 := hV.frm (fun R o m e q => by have := hb R o m e; have := hR.b.1; omega) h4
    have hV3 := fun (F : Nat → Prop) (W : World) (f1 : ∀ b, F b → b < w.heap.size) (hF : Frm F _ W) => hV2.frmF (fun R o m e q => by have := hb R o m e; have := f1 R q; omega) hF
    exact ⟨rfl, ⟨{ r.D with md := l }, fun j => if j = 1 then ao else r.a j, fun j => if j = 1 then cap else r.c j⟩, rfl, ⟨h1, h2⟩, (fun F W f1 f2 hF => ⟨(hO F W f1 f2 hF).mo, hV3 F W f1 hF, (hO F W f1 f2 hF).yd, (hO F W f1 f2 hF).wk, (hO F W f1 f2 hF).da, (hO F W f1 f2 hF).ho, (hO F W f1 f2 hF).mi, (hO F W f1 f2 hF).se, (hO F W f1 f2 hF).po⟩), h5⟩
set_option maxRecDepth 100000 in
theorem rd9_c (r : Rec) (B Y : Nat) (s : List UInt8) (w0 w : World) (hm : Lm w) (hs : s.length ≤ 50000) (hR : RcO r B w0 w) (hY : BxV Y (fnA (atF 9)) w) :
    Calls Tryz.prog 136 #[.pointer (some ⟨B, 0, none⟩), .string ⟨s.toArray⟩, .pointer (some ⟨Y, 0, none⟩)] w (RdR 9 s r B w0 w) := by
  refine (lread_c (atF 9) (offF 9) B Y s (.slice (r.a 5) r.D.ho.length (r.c 5)) w hm hs at9_c hY hR.b.1 (hR.b.at_ rfl) (hR.f _)).mono ?_
  intro e w' q
  show RdR 9 s r B w0 w e w'
  unfold LReadR at q
  unfold RdR partZ
  cases hz : numsZ s with
  | none =>
    rw [hz] at q
    exact q
  | some l =>
    rw [hz] at q
    obtain ⟨rfl, ao, cap, w1, hE, hV, hb, rfl⟩ := q
    obtain ⟨h1, h2, hO, h4, h5⟩ := RcO.set (v := .slice ao l.length cap) (off := 9) hR hE (u := .slice (r.a 5) r.D.ho.length (r.c 5)) rfl
    have hV2 := hV.frm (fun R o m e q => by have := hb R o m e; have := hR.b.1; omega) h4
    have hV3 := fun (F : Nat → Prop) (W : World) (f1 : ∀ b, F b → b < w.heap.size) (hF : Frm F _ W) => hV2.frmF (fun R o m e q => by have := hb R o m e; have := f1 R q; omega) hF
    exact ⟨rfl, ⟨{ r.D with ho := l }, fun j => if j = 5 then ao else r.a j, fun j => if j = 5 then cap else r.c j⟩, rfl, ⟨h1, h2⟩, (fun F W f1 f2 hF => ⟨(hO F W f1 f2 hF).mo, (hO F W f1 f2 hF).md, (hO F W f1 f2 hF).yd, (hO F W f1 f2 hF).wk, (hO F W f1 f2 hF).da, hV3 F W f1 hF, (hO F W f1 f2 hF).mi, (hO F W f1 f2 hF).se, (hO F W f1 f2 hF).po⟩), h5⟩
set_option maxRecDepth 100000 in
theorem rd10_c (r : Rec) (B Y : Nat) (s : List UInt8) (w0 w : World) (hm : Lm w) (hs : s.length ≤ 50000) (hR : RcO r B w0 w) (hY : BxV Y (fnA (atF 10)) w) :
    Calls Tryz.prog 136 #[.pointer (some ⟨B, 0, none⟩), .string ⟨s.toArray⟩, .pointer (some ⟨Y, 0, none⟩)] w (RdR 10 s r B w0 w) := by
  refine (lread_c (atF 10) (offF 10) B Y s (.slice (r.a 6) r.D.mi.length (r.c 6)) w hm hs at10_c hY hR.b.1 (hR.b.at_ rfl) (hR.f _)).mono ?_
  intro e w' q
  show RdR 10 s r B w0 w e w'
  unfold LReadR at q
  unfold RdR partZ
  cases hz : numsZ s with
  | none =>
    rw [hz] at q
    exact q
  | some l =>
    rw [hz] at q
    obtain ⟨rfl, ao, cap, w1, hE, hV, hb, rfl⟩ := q
    obtain ⟨h1, h2, hO, h4, h5⟩ := RcO.set (v := .slice ao l.length cap) (off := 10) hR hE (u := .slice (r.a 6) r.D.mi.length (r.c 6)) rfl
    have hV2 := hV.frm (fun R o m e q => by have := hb R o m e; have := hR.b.1; omega) h4
    have hV3 := fun (F : Nat → Prop) (W : World) (f1 : ∀ b, F b → b < w.heap.size) (hF : Frm F _ W) => hV2.frmF (fun R o m e q => by have := hb R o m e; have := f1 R q; omega) hF
    exact ⟨rfl, ⟨{ r.D with mi := l }, fun j => if j = 6 then ao else r.a j, fun j => if j = 6 then cap else r.c j⟩, rfl, ⟨h1, h2⟩, (fun F W f1 f2 hF => ⟨(hO F W f1 f2 hF).mo, (hO F W f1 f2 hF).md, (hO F W f1 f2 hF).yd, (hO F W f1 f2 hF).wk, (hO F W f1 f2 hF).da, (hO F W f1 f2 hF).ho, hV3 F W f1 hF, (hO F W f1 f2 hF).se, (hO F W f1 f2 hF).po⟩), h5⟩
set_option maxRecDepth 100000 in
theorem rd11_c (r : Rec) (B Y : Nat) (s : List UInt8) (w0 w : World) (hm : Lm w) (hs : s.length ≤ 50000) (hR : RcO r B w0 w) (hY : BxV Y (fnA (atF 11)) w) :
    Calls Tryz.prog 136 #[.pointer (some ⟨B, 0, none⟩), .string ⟨s.toArray⟩, .pointer (some ⟨Y, 0, none⟩)] w (RdR 11 s r B w0 w) := by
  refine (lread_c (atF 11) (offF 11) B Y s (.slice (r.a 7) r.D.se.length (r.c 7)) w hm hs at11_c hY hR.b.1 (hR.b.at_ rfl) (hR.f _)).mono ?_
  intro e w' q
  show RdR 11 s r B w0 w e w'
  unfold LReadR at q
  unfold RdR partZ
  cases hz : numsZ s with
  | none =>
    rw [hz] at q
    exact q
  | some l =>
    rw [hz] at q
    obtain ⟨rfl, ao, cap, w1, hE, hV, hb, rfl⟩ := q
    obtain ⟨h1, h2, hO, h4, h5⟩ := RcO.set (v := .slice ao l.length cap) (off := 11) hR hE (u := .slice (r.a 7) r.D.se.length (r.c 7)) rfl
    have hV2 := hV.frm (fun R o m e q => by have := hb R o m e; have := hR.b.1; omega) h4
    have hV3 := fun (F : Nat → Prop) (W : World) (f1 : ∀ b, F b → b < w.heap.size) (hF : Frm F _ W) => hV2.frmF (fun R o m e q => by have := hb R o m e; have := f1 R q; omega) hF
    exact ⟨rfl, ⟨{ r.D with se := l }, fun j => if j = 7 then ao else r.a j, fun j => if j = 7 then cap else r.c j⟩, rfl, ⟨h1, h2⟩, (fun F W f1 f2 hF => ⟨(hO F W f1 f2 hF).mo, (hO F W f1 f2 hF).md, (hO F W f1 f2 hF).yd, (hO F W f1 f2 hF).wk, (hO F W f1 f2 hF).da, (hO F W f1 f2 hF).ho, (hO F W f1 f2 hF).mi, hV3 F W f1 hF, (hO F W f1 f2 hF).po⟩), h5⟩
set_option maxRecDepth 100000 in
theorem rd12_c (r : Rec) (B Y : Nat) (s : List UInt8) (w0 w : World) (hm : Lm w) (hs : s.length ≤ 50000) (hR : RcO r B w0 w) (hY : BxV Y (fnA (atF 12)) w) :
    Calls Tryz.prog 136 #[.pointer (some ⟨B, 0, none⟩), .string ⟨s.toArray⟩, .pointer (some ⟨Y, 0, none⟩)] w (RdR 12 s r B w0 w) := by
  refine (lread_c (atF 12) (offF 12) B Y s (.slice (r.a 8) r.D.po.length (r.c 8)) w hm hs at12_c hY hR.b.1 (hR.b.at_ rfl) (hR.f _)).mono ?_
  intro e w' q
  show RdR 12 s r B w0 w e w'
  unfold LReadR at q
  unfold RdR partZ
  cases hz : numsZ s with
  | none =>
    rw [hz] at q
    exact q
  | some l =>
    rw [hz] at q
    obtain ⟨rfl, ao, cap, w1, hE, hV, hb, rfl⟩ := q
    obtain ⟨h1, h2, hO, h4, h5⟩ := RcO.set (v := .slice ao l.length cap) (off := 12) hR hE (u := .slice (r.a 8) r.D.po.length (r.c 8)) rfl
    have hV2 := hV.frm (fun R o m e q => by have := hb R o m e; have := hR.b.1; omega) h4
    have hV3 := fun (F : Nat → Prop) (W : World) (f1 : ∀ b, F b → b < w.heap.size) (hF : Frm F _ W) => hV2.frmF (fun R o m e q => by have := hb R o m e; have := f1 R q; omega) hF
    exact ⟨rfl, ⟨{ r.D with po := l }, fun j => if j = 8 then ao else r.a j, fun j => if j = 8 then cap else r.c j⟩, rfl, ⟨h1, h2⟩, (fun F W f1 f2 hF => ⟨(hO F W f1 f2 hF).mo, (hO F W f1 f2 hF).md, (hO F W f1 f2 hF).yd, (hO F W f1 f2 hF).wk, (hO F W f1 f2 hF).da, (hO F W f1 f2 hF).ho, (hO F W f1 f2 hF).mi, (hO F W f1 f2 hF).se, hV3 F W f1 hF⟩), h5⟩
set_option maxRecDepth 100000 in
theorem rd8_c (r : Rec) (B : Nat) (s : List UInt8) (w0 w : World) (hm : Lm w) (hs : s.length ≤ 50000) (hR : RcO r B w0 w) :
    Calls Tryz.prog 92 #[.pointer (some ⟨B, 0, none⟩), .string ⟨s.toArray⟩] w (RdR 8 s r B w0 w) := by
  refine (dread_c B s (.slice (r.a 4) r.D.da.length (r.c 4)) w hm hs hR.b.1 (hR.b.at_ rfl) (hR.f _)).mono ?_
  intro e w' q
  show RdR 8 s r B w0 w e w'
  unfold DReadR at q
  unfold RdR partZ
  cases hz : daysZ s with
  | none =>
    rw [hz] at q
    exact q
  | some l =>
    rw [hz] at q
    obtain ⟨rfl, ao, cap, w1, hE, hV, hb, rfl⟩ := q
    obtain ⟨h1, h2, hO, h4, h5⟩ := RcO.set (v := .slice ao l.length cap) (off := 8) hR hE (u := .slice (r.a 4) r.D.da.length (r.c 4)) rfl
    have hV2 := hV.frm (fun R o m e q => by have := hb R o m e; have := hR.b.1; omega) h4
    have hV3 := fun (F : Nat → Prop) (W : World) (f1 : ∀ b, F b → b < w.heap.size) (hF : Frm F _ W) => hV2.frmF (fun R o m e q => by have := hb R o m e; have := f1 R q; omega) hF
    exact ⟨rfl, ⟨{ r.D with da := l }, fun j => if j = 4 then ao else r.a j, fun j => if j = 4 then cap else r.c j⟩, rfl, ⟨h1, h2⟩, (fun F W f1 f2 hF => ⟨(hO F W f1 f2 hF).mo, (hO F W f1 f2 hF).md, (hO F W f1 f2 hF).yd, (hO F W f1 f2 hF).wk, hV3 F W f1 hF, (hO F W f1 f2 hF).ho, (hO F W f1 f2 hF).mi, (hO F W f1 f2 hF).se, (hO F W f1 f2 hF).po⟩), h5⟩
set_option maxRecDepth 100000 in
theorem rd1_c (r : Rec) (B Y : Nat) (s : List UInt8) (w0 w : World) (hs : s.length ≤ 50000) (hR : RcO r B w0 w) (hY : BxV Y (fnA (atF 1)) w) :
    Calls Tryz.prog 129 #[.pointer (some ⟨B, 0, none⟩), .string ⟨s.toArray⟩, .pointer (some ⟨Y, 0, none⟩)] w (RdR 1 s r B w0 w) := by
  refine (cread_c (atF 1) (offF 1) B Y s (.int .i64 r.D.iv) w hs at1_c hY hR.b.1 (hR.b.at_ rfl) (hR.f _)).mono ?_
  intro e w' q
  show RdR 1 s r B w0 w e w'
  unfold CReadR at q
  unfold RdR partZ

  cases hz : numZ s with
  | none =>
    rw [hz] at q
    exact q
  | some n =>
    rw [hz] at q
    obtain ⟨rfl, w1, hE, rfl⟩ := q
    obtain ⟨h1, h2, hO, h4, h5⟩ := RcO.set (v := .int .i64 n) (off := 1) hR hE (u := .int .i64 r.D.iv) rfl
    exact ⟨rfl, ⟨{ r.D with iv := n }, r.a, r.c⟩, rfl, ⟨h1, h2⟩, (fun F W f1 f2 hF => ⟨(hO F W f1 f2 hF).mo, (hO F W f1 f2 hF).md, (hO F W f1 f2 hF).yd, (hO F W f1 f2 hF).wk, (hO F W f1 f2 hF).da, (hO F W f1 f2 hF).ho, (hO F W f1 f2 hF).mi, (hO F W f1 f2 hF).se, (hO F W f1 f2 hF).po⟩), h5⟩
set_option maxRecDepth 100000 in
theorem rd2_c (r : Rec) (B Y : Nat) (s : List UInt8) (w0 w : World) (hs : s.length ≤ 50000) (hR : RcO r B w0 w) (hY : BxV Y (fnA (atF 2)) w) :
    Calls Tryz.prog 129 #[.pointer (some ⟨B, 0, none⟩), .string ⟨s.toArray⟩, .pointer (some ⟨Y, 0, none⟩)] w (RdR 2 s r B w0 w) := by
  refine (cread_c (atF 2) (offF 2) B Y s (.int .i64 r.D.ct) w hs at2_c hY hR.b.1 (hR.b.at_ rfl) (hR.f _)).mono ?_
  intro e w' q
  show RdR 2 s r B w0 w e w'
  unfold CReadR at q
  unfold RdR partZ

  cases hz : numZ s with
  | none =>
    rw [hz] at q
    exact q
  | some n =>
    rw [hz] at q
    obtain ⟨rfl, w1, hE, rfl⟩ := q
    obtain ⟨h1, h2, hO, h4, h5⟩ := RcO.set (v := .int .i64 n) (off := 2) hR hE (u := .int .i64 r.D.ct) rfl
    exact ⟨rfl, ⟨{ r.D with ct := n }, r.a, r.c⟩, rfl, ⟨h1, h2⟩, (fun F W f1 f2 hF => ⟨(hO F W f1 f2 hF).mo, (hO F W f1 f2 hF).md, (hO F W f1 f2 hF).yd, (hO F W f1 f2 hF).wk, (hO F W f1 f2 hF).da, (hO F W f1 f2 hF).ho, (hO F W f1 f2 hF).mi, (hO F W f1 f2 hF).se, (hO F W f1 f2 hF).po⟩), h5⟩
set_option maxRecDepth 100000 in
theorem rd3_c (r : Rec) (B : Nat) (s : List UInt8) (w0 w : World) (hs : s.length ≤ 50000) (hR : RcO r B w0 w) :
    Calls Tryz.prog 83 #[.pointer (some ⟨B, 0, none⟩), .string ⟨s.toArray⟩] w (RdR 3 s r B w0 w) := by
  refine (uread_c B s (.int .i64 r.D.un) w hs hR.b.1 (hR.b.at_ rfl) (hR.f _)).mono ?_
  intro e w' q
  show RdR 3 s r B w0 w e w'
  unfold CReadR at q
  unfold RdR partZ

  cases hz : untZ s with
  | none =>
    rw [hz] at q
    exact q
  | some n =>
    rw [hz] at q
    obtain ⟨rfl, w1, hE, rfl⟩ := q
    obtain ⟨h1, h2, hO, h4, h5⟩ := RcO.set (v := .int .i64 n) (off := 3) hR hE (u := .int .i64 r.D.un) rfl
    exact ⟨rfl, ⟨{ r.D with un := n }, r.a, r.c⟩, rfl, ⟨h1, h2⟩, (fun F W f1 f2 hF => ⟨(hO F W f1 f2 hF).mo, (hO F W f1 f2 hF).md, (hO F W f1 f2 hF).yd, (hO F W f1 f2 hF).wk, (hO F W f1 f2 hF).da, (hO F W f1 f2 hF).ho, (hO F W f1 f2 hF).mi, (hO F W f1 f2 hF).se, (hO F W f1 f2 hF).po⟩), h5⟩
set_option maxRecDepth 100000 in
theorem rd0_c (r : Rec) (B Y V H : Nat) (s : List UInt8) (w0 w : World) (hs : s.length ≤ 50000) (hR : RcO r B w0 w) (hY : BxV Y (fnA (atF 0)) w) (hV : BxV V (.slice (some ⟨H, 0, none⟩) 5 5) w) (hH : RdS frW H 0 w) :
    Calls Tryz.prog 127 #[.pointer (some ⟨B, 0, none⟩), .string ⟨s.toArray⟩, .pointer (some ⟨V, 0, none⟩), .pointer (some ⟨Y, 0, none⟩)] w (RdR 0 s r B w0 w) := by
  refine (wread_c frW (atF 0) (offF 0) B Y V H 5 s (.int .i64 r.D.fr) w rfl (by decide) at0_c hY hV hH hR.b.1 (hR.b.at_ rfl) (hR.f _)).mono ?_
  intro e w' q
  show RdR 0 s r B w0 w e w'
  unfold CReadR plO at q
  unfold RdR partZ
  by_cases hz : plW frW s = 0
  · rw [if_pos hz] at q
    simp only [hz, if_true]
    exact q
  · rw [if_neg hz] at q
    simp only [hz, if_false]
    obtain ⟨rfl, w1, hE, rfl⟩ := q
    obtain ⟨h1, h2, hO, h4, h5⟩ := RcO.set (v := .int .i64 (plW frW s : Int)) (off := 0) hR hE (u := .int .i64 r.D.fr) rfl
    exact ⟨rfl, ⟨{ r.D with fr := (plW frW s : Int) }, r.a, r.c⟩, rfl, ⟨h1, h2⟩, (fun F W f1 f2 hF => ⟨(hO F W f1 f2 hF).mo, (hO F W f1 f2 hF).md, (hO F W f1 f2 hF).yd, (hO F W f1 f2 hF).wk, (hO F W f1 f2 hF).da, (hO F W f1 f2 hF).ho, (hO F W f1 f2 hF).mi, (hO F W f1 f2 hF).se, (hO F W f1 f2 hF).po⟩), h5⟩
set_option maxRecDepth 100000 in
theorem rd13_c (r : Rec) (B Y V H : Nat) (s : List UInt8) (w0 w : World) (hs : s.length ≤ 50000) (hR : RcO r B w0 w) (hY : BxV Y (fnA (atF 13)) w) (hV : BxV V (.slice (some ⟨H, 0, none⟩) 7 7) w) (hH : RdS wkW H 0 w) :
    Calls Tryz.prog 127 #[.pointer (some ⟨B, 0, none⟩), .string ⟨s.toArray⟩, .pointer (some ⟨V, 0, none⟩), .pointer (some ⟨Y, 0, none⟩)] w (RdR 13 s r B w0 w) := by
  refine (wread_c wkW (atF 13) (offF 13) B Y V H 7 s (.int .i64 r.D.ws) w rfl (by decide) at13_c hY hV hH hR.b.1 (hR.b.at_ rfl) (hR.f _)).mono ?_
  intro e w' q
  show RdR 13 s r B w0 w e w'
  unfold CReadR plO at q
  unfold RdR partZ
  by_cases hz : plW wkW s = 0
  · rw [if_pos hz] at q
    simp only [hz, if_true]
    exact q
  · rw [if_neg hz] at q
    simp only [hz, if_false]
    obtain ⟨rfl, w1, hE, rfl⟩ := q
    obtain ⟨h1, h2, hO, h4, h5⟩ := RcO.set (v := .int .i64 (plW wkW s : Int)) (off := 13) hR hE (u := .int .i64 r.D.ws) rfl
    exact ⟨rfl, ⟨{ r.D with ws := (plW wkW s : Int) }, r.a, r.c⟩, rfl, ⟨h1, h2⟩, (fun F W f1 f2 hF => ⟨(hO F W f1 f2 hF).mo, (hO F W f1 f2 hF).md, (hO F W f1 f2 hF).yd, (hO F W f1 f2 hF).wk, (hO F W f1 f2 hF).da, (hO F W f1 f2 hF).ho, (hO F W f1 f2 hF).mi, (hO F W f1 f2 hF).se, (hO F W f1 f2 hF).po⟩), h5⟩
theorem app_0 (a b : Value) : #[a, b] ++ (#[] : Array Value) = #[a, b] := by simp
theorem app_1 (a b c : Value) : #[a, b] ++ #[c] = #[a, b, c] := by simp
theorem app_2 (a b c d : Value) : #[a, b] ++ #[c, d] = #[a, b, c, d] := by simp
/-- Reading field k, as it stands among the fields. -/
def RdAll (b : Nat) (y z v : Nat → Nat) (h0 h13 k : Nat) : Prop := ∃ fid caps, rdV y z v k = .func (.func fid) #[] caps ∧ (∀ xs w', (callFunc fid xs).run Tryz.prog w' = .ok (.enter fid xs) w') ∧
    ∀ (s : List UInt8) (r : Rec) (B : Nat) (w0 w : World), Bxs b y z v h0 h13 w → Lm w → s.length ≤ 50000 → RcO r B w0 w → Calls Tryz.prog fid (#[.pointer (some ⟨B, 0, none⟩), .string ⟨s.toArray⟩] ++ caps) w (RdR k s r B w0 w)
theorem rda0 (b : Nat) (y z v : Nat → Nat) (h0 h13 : Nat) : RdAll b y z v h0 h13 0 := ⟨127, #[.pointer (some ⟨v 0, 0, none⟩), .pointer (some ⟨y 0, 0, none⟩)], rfl, fun xs w' => by kernel_rfl, fun s r B w0 w hx hm hs hR => by rw [app_2]; exact rd0_c r B (y 0) (v 0) h0 s w0 w hs hR hx.y0.1 hx.v0.1 hx.h0⟩
theorem rda1 (b : Nat) (y z v : Nat → Nat) (h0 h13 : Nat) : RdAll b y z v h0 h13 1 := ⟨129, #[.pointer (some ⟨y 1, 0, none⟩)], rfl, fun xs w' => by kernel_rfl, fun s r B w0 w hx hm hs hR => by rw [app_1]; exact rd1_c r B (y 1) s w0 w hs hR hx.y1.1⟩
theorem rda2 (b : Nat) (y z v : Nat → Nat) (h0 h13 : Nat) : RdAll b y z v h0 h13 2 := ⟨129, #[.pointer (some ⟨y 2, 0, none⟩)], rfl, fun xs w' => by kernel_rfl, fun s r B w0 w hx hm hs hR => by rw [app_1]; exact rd2_c r B (y 2) s w0 w hs hR hx.y2.1⟩
theorem rda3 (b : Nat) (y z v : Nat → Nat) (h0 h13 : Nat) : RdAll b y z v h0 h13 3 := ⟨83, #[], rfl, fun xs w' => by kernel_rfl, fun s r B w0 w hx hm hs hR => by rw [app_0]; exact rd3_c r B s w0 w hs hR⟩
theorem rda4 (b : Nat) (y z v : Nat → Nat) (h0 h13 : Nat) : RdAll b y z v h0 h13 4 := ⟨136, #[.pointer (some ⟨y 4, 0, none⟩)], rfl, fun xs w' => by kernel_rfl, fun s r B w0 w hx hm hs hR => by rw [app_1]; exact rd4_c r B (y 4) s w0 w hm hs hR hx.y4.1⟩
theorem rda5 (b : Nat) (y z v : Nat → Nat) (h0 h13 : Nat) : RdAll b y z v h0 h13 5 := ⟨136, #[.pointer (some ⟨y 5, 0, none⟩)], rfl, fun xs w' => by kernel_rfl, fun s r B w0 w hx hm hs hR => by rw [app_1]; exact rd5_c r B (y 5) s w0 w hm hs hR hx.y5.1⟩
theorem rda6 (b : Nat) (y z v : Nat → Nat) (h0 h13 : Nat) : RdAll b y z v h0 h13 6 := ⟨136, #[.pointer (some ⟨y 6, 0, none⟩)], rfl, fun xs w' => by kernel_rfl, fun s r B w0 w hx hm hs hR => by rw [app_1]; exact rd6_c r B (y 6) s w0 w hm hs hR hx.y6.1⟩
theorem rda7 (b : Nat) (y z v : Nat → Nat) (h0 h13 : Nat) : RdAll b y z v h0 h13 7 := ⟨136, #[.pointer (some ⟨y 7, 0, none⟩)], rfl, fun xs w' => by kernel_rfl, fun s r B w0 w hx hm hs hR => by rw [app_1]; exact rd7_c r B (y 7) s w0 w hm hs hR hx.y7.1⟩
theorem rda8 (b : Nat) (y z v : Nat → Nat) (h0 h13 : Nat) : RdAll b y z v h0 h13 8 := ⟨92, #[], rfl, fun xs w' => by kernel_rfl, fun s r B w0 w hx hm hs hR => by rw [app_0]; exact rd8_c r B s w0 w hm hs hR⟩
theorem rda9 (b : Nat) (y z v : Nat → Nat) (h0 h13 : Nat) : RdAll b y z v h0 h13 9 := ⟨136, #[.pointer (some ⟨y 9, 0, none⟩)], rfl, fun xs w' => by kernel_rfl, fun s r B w0 w hx hm hs hR => by rw [app_1]; exact rd9_c r B (y 9) s w0 w hm hs hR hx.y9.1⟩
theorem rda10 (b : Nat) (y z v : Nat → Nat) (h0 h13 : Nat) : RdAll b y z v h0 h13 10 := ⟨136, #[.pointer (some ⟨y 10, 0, none⟩)], rfl, fun xs w' => by kernel_rfl, fun s r B w0 w hx hm hs hR => by rw [app_1]; exact rd10_c r B (y 10) s w0 w hm hs hR hx.y10.1⟩
theorem rda11 (b : Nat) (y z v : Nat → Nat) (h0 h13 : Nat) : RdAll b y z v h0 h13 11 := ⟨136, #[.pointer (some ⟨y 11, 0, none⟩)], rfl, fun xs w' => by kernel_rfl, fun s r B w0 w hx hm hs hR => by rw [app_1]; exact rd11_c r B (y 11) s w0 w hm hs hR hx.y11.1⟩
theorem rda12 (b : Nat) (y z v : Nat → Nat) (h0 h13 : Nat) : RdAll b y z v h0 h13 12 := ⟨136, #[.pointer (some ⟨y 12, 0, none⟩)], rfl, fun xs w' => by kernel_rfl, fun s r B w0 w hx hm hs hR => by rw [app_1]; exact rd12_c r B (y 12) s w0 w hm hs hR hx.y12.1⟩
theorem rda13 (b : Nat) (y z v : Nat → Nat) (h0 h13 : Nat) : RdAll b y z v h0 h13 13 := ⟨127, #[.pointer (some ⟨v 13, 0, none⟩), .pointer (some ⟨y 13, 0, none⟩)], rfl, fun xs w' => by kernel_rfl, fun s r B w0 w hx hm hs hR => by rw [app_2]; exact rd13_c r B (y 13) (v 13) h13 s w0 w hs hR hx.y13.1 hx.v13.1 hx.h13⟩
theorem rd_all (b : Nat) (y z v : Nat → Nat) (h0 h13 k : Nat) (hk : k < 14) : RdAll b y z v h0 h13 k :=
  lt14 (P := RdAll b y z v h0 h13) ⟨rda0 b y z v h0 h13, rda1 b y z v h0 h13, rda2 b y z v h0 h13, rda3 b y z v h0 h13, rda4 b y z v h0 h13, rda5 b y z v h0 h13, rda6 b y z v h0 h13, rda7 b y z v h0 h13, rda8 b y z v h0 h13, rda9 b y z v h0 h13, rda10 b y z v h0 h13, rda11 b y z v h0 h13, rda12 b y z v h0 h13, rda13 b y z v h0 h13⟩ k hk
end Go.Proofs.YtgndogpgfgliaaaGreatDoor
