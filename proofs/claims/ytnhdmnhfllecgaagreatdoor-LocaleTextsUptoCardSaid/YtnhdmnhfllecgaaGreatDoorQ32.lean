/- Locales: a locale in the making: its object, its slices, each owned. -/
import Derived.Test.YtnhdmnhfllecgaaGreatDoorQ09
import Derived.Test.YtnhdmnhfllecgaaGreatDoorQ25
import Derived.Test.YtnhdmnhfllecgaaGreatDoorQ01
import Derived.Deep.AppendLies
import Derived.Laws.OwnMore
namespace Go.Proofs.YtnhdmnhfllecgaaGreatDoor
set_option linter.unusedVariables false
set_option linter.unusedSimpArgs false
open Go.RowKit

def plc (p : Plu) : List Value := [.string ⟨p.c.toArray⟩, .string ⟨p.r.toArray⟩]
def unc (u : Uni) : List Value := [.int .i64 u.s, .slice u.ao u.f.length u.cap]
def plcs (l : List Plu) : List Value := l.flatMap plc
def uncs (l : List Uni) : List Value := l.flatMap unc
def bk (a : Option Addr) : Option Nat := a.map (·.block)
/-- The block of the k-th slice. -/
def blk (L : Loc) : Nat → Option Nat
  | 0 => bk L.pa
  | 1 => bk L.oa
  | 2 => bk L.ua
  | k + 3 => (L.U[k]?).bind fun u => bk u.ao
theorem blk3 (L : Loc) (k : Nat) : blk L (k + 3) = (L.U[k]?).bind fun u => bk u.ao := rfl
/-- The locale L lies in the object B, its slices are its own. -/
structure LSw (L : Loc) (b B : Nat) (w : World) : Prop where
  ok : L.N.ok
  bB : b ≤ B
  obj : w.heap[B]? = some (.cells L.vals.toArray 30 (0, 0))
  oP : w.ownsRow b 50 2 (.slice L.pa L.P.length L.pc) L.P.length (plcs L.P)
  oO : w.ownsRow b 50 2 (.slice L.oa L.O.length L.oc) L.O.length (plcs L.O)
  oU : w.ownsRow b 53 2 (.slice L.ua L.U.length L.uc) L.U.length (uncs L.U)
  oF : ∀ u ∈ L.U, w.ownsRow b 50 2 (.slice u.ao u.f.length u.cap) u.f.length (plcs u.f)
  nB : ∀ k, blk L k ≠ some B
  dif : ∀ i j x, i ≠ j → blk L i = some x → blk L j ≠ some x
theorem own_bk (ao : Option Addr) (n c : Nat) : (Value.slice ao n c).ownBlock = bk ao := by cases ao <;> rfl
theorem own_frm {S : Nat → Prop} {w w' : World} {base size n : Nat} {e : TypeId} {ao : Option Addr} {m c : Nat} {xs : List Value} (h : w.ownsRow base e size (.slice ao m c) n xs) (hF : Frm S w w') (hS : ∀ x, bk ao = some x → ¬ S x) : w'.ownsRow base e size (.slice ao m c) n xs := by
  obtain ⟨h1, h2⟩ := h
  refine ⟨h1, ?_⟩
  rcases h2 with q | ⟨g, cap, cur, e0, hb, hg, hr⟩
  · exact .inl q
  · refine .inr ⟨g, cap, cur, e0, hb, ?_, hr⟩
    have hlt : g < w.heap.size := by
      rcases Nat.lt_or_ge g w.heap.size with q | q
      · exact q
      · rw [Array.getElem?_eq_none q] at hg; cases hg
    rw [← hg]
    refine hF.block g hlt (hS g ?_)
    injection e0 with e1
    rw [e1]; rfl
theorem LSw.lt {L : Loc} {b B : Nat} {w : World} (h : LSw L b B w) : B < w.heap.size := by
  rcases Nat.lt_or_ge B w.heap.size with q | q
  · exact q
  · have := h.obj; rw [Array.getElem?_eq_none q] at this; cases this
theorem LSw.blk_in {L : Loc} {b B : Nat} {w : World} (h : LSw L b B w) (k x : Nat) (hx : blk L k = some x) : b ≤ x ∧ x < w.heap.size := by
  match k, hx with
  | 0, hx => exact h.oP.lt x (by rw [own_bk]; exact hx)
  | 1, hx => exact h.oO.lt x (by rw [own_bk]; exact hx)
  | 2, hx => exact h.oU.lt x (by rw [own_bk]; exact hx)
  | k + 3, hx =>
    rw [blk3] at hx
    cases hu : L.U[k]? with
    | none => rw [hu] at hx; cases hx
    | some u =>
      rw [hu] at hx
      exact (h.oF u (List.mem_of_getElem? hu)).lt x (by rw [own_bk]; exact hx)
theorem LSw.frm {L : Loc} {b B : Nat} {S : Nat → Prop} {w w' : World} (h : LSw L b B w) (hF : Frm S w w') (hB : ¬ S B) (hS : ∀ k x, blk L k = some x → ¬ S x) : LSw L b B w' where
  ok := h.ok
  bB := h.bB
  obj := (hF.block B h.lt hB).trans h.obj
  oP := own_frm h.oP hF (fun x hx => hS 0 x hx)
  oO := own_frm h.oO hF (fun x hx => hS 1 x hx)
  oU := own_frm h.oU hF (fun x hx => hS 2 x hx)
  oF := fun u hu => own_frm (h.oF u hu) hF (fun x hx => by
    obtain ⟨k, hk, e⟩ := List.mem_iff_getElem.1 hu
    exact hS (k + 3) x (by rw [blk3]; rw [List.getElem?_eq_getElem hk, e]; exact hx))
  nB := h.nB
  dif := h.dif
theorem LSw.ext {L : Loc} {b B : Nat} {w w' : World} (h : LSw L b B w) (hE : Ext w w') : LSw L b B w' :=
  h.frm (S := fun _ => False) (Frm.of_ext hE) id (fun _ _ _ => id)
/-- What another object's change leaves. -/
theorem LSw.far {L : Loc} {b B : Nat} {w w' : World} (h : LSw L b B w) {X : Nat} (hF : Frm (fun k => k = X) w w') (hX : X ≠ B) (hX2 : X < b) : LSw L b B w' :=
  h.frm hF (fun e => hX e.symm) (fun k x hx e => by have := (h.blk_in k x hx).1; omega)
theorem LSw.lcb {L : Loc} {b B : Nat} {w : World} (h : LSw L b B w) : LcB L B w := by
  refine ⟨h.lt, fun j v hv => ?_⟩
  rw [Nat.zero_add, cell_of_row w B j _ _ (0, 0) h.obj]
  simpa using hv
theorem plc_at (l : List Plu) : ∀ i (h : i < l.length), (plcs l)[i * 2]? = some (.string ⟨l[i].c.toArray⟩) ∧ (plcs l)[i * 2 + 1]? = some (.string ⟨l[i].r.toArray⟩) := by
  induction l with
  | nil => intro i h; cases h
  | cons p r ih =>
    intro i h
    have e : plcs (p :: r) = .string ⟨p.c.toArray⟩ :: .string ⟨p.r.toArray⟩ :: plcs r := rfl
    rw [e]
    cases i with
    | zero => exact ⟨rfl, rfl⟩
    | succ i =>
      obtain ⟨a, c⟩ := ih i (by simpa using h)
      rw [show (i + 1) * 2 = i * 2 + 1 + 1 by omega]
      exact ⟨a, c⟩
theorem unc_at (l : List Uni) : ∀ i (h : i < l.length), (uncs l)[i * 2]? = some (.int .i64 l[i].s) ∧ (uncs l)[i * 2 + 1]? = some (.slice l[i].ao l[i].f.length l[i].cap) := by
  induction l with
  | nil => intro i h; cases h
  | cons p r ih =>
    intro i h
    have e : uncs (p :: r) = .int .i64 p.s :: .slice p.ao p.f.length p.cap :: uncs r := rfl
    rw [e]
    cases i with
    | zero => exact ⟨rfl, rfl⟩
    | succ i =>
      obtain ⟨a, c⟩ := ih i (by simpa using h)
      rw [show (i + 1) * 2 = i * 2 + 1 + 1 by omega]
      exact ⟨a, c⟩
theorem own_plv {b : Nat} {ao : Option Addr} {cap : Nat} {l : List Plu} {w : World} (h : w.ownsRow b 50 2 (.slice ao l.length cap) l.length (plcs l)) : PlV ao cap l w := by
  obtain ⟨h1, h2⟩ := h
  rcases h2 with ⟨e, e0⟩ | ⟨g, c, cur, e, hb, hg, hn, hm, hs, ht⟩
  · injection e with e1 e2 e3
    refine ⟨by omega, by subst e3; exact Nat.zero_le _, fun hne => absurd (List.length_eq_zero_iff.1 e0) hne⟩
  · injection e with e1 e2 e3
    subst e3
    refine ⟨hn, hm, fun _ => ⟨g, 0, e1, (Array.getElem?_eq_some_iff.1 hg).1, fun i hi => ?_⟩⟩
    obtain ⟨a, c⟩ := plc_at l i hi
    rw [← ht, List.getElem?_take] at a c
    rw [if_pos (by omega)] at a c
    rw [Nat.zero_add, cell_of_row w g _ cur _ (0, 0) hg, cell_of_row w g _ cur _ (0, 0) hg]
    exact ⟨by simpa using a, by simpa using c⟩
theorem own_unv {b : Nat} {ao : Option Addr} {cap : Nat} {l : List Uni} {w : World} (h : w.ownsRow b 53 2 (.slice ao l.length cap) l.length (uncs l)) (hF : ∀ u ∈ l, PlV u.ao u.cap u.f w) : UnV ao cap l w := by
  obtain ⟨h1, h2⟩ := h
  rcases h2 with ⟨e, e0⟩ | ⟨g, c, cur, e, hb, hg, hn, hm, hs, ht⟩
  · injection e with e1 e2 e3
    refine ⟨by omega, by subst e3; exact Nat.zero_le _, fun hne => absurd (List.length_eq_zero_iff.1 e0) hne, hF⟩
  · injection e with e1 e2 e3
    subst e3
    refine ⟨hn, hm, fun _ => ⟨g, 0, e1, (Array.getElem?_eq_some_iff.1 hg).1, fun i hi => ?_⟩, hF⟩
    obtain ⟨a, c⟩ := unc_at l i hi
    rw [← ht, List.getElem?_take] at a c
    rw [if_pos (by omega)] at a c
    rw [Nat.zero_add, cell_of_row w g _ cur _ (0, 0) hg, cell_of_row w g _ cur _ (0, 0) hg]
    exact ⟨by simpa using a, by simpa using c⟩
theorem LSw.lcv {L : Loc} {b B : Nat} {w : World} (h : LSw L b B w) : LcV L w :=
  ⟨h.ok, own_plv h.oP, own_plv h.oO, own_unv h.oU fun u hu => own_plv (h.oF u hu)⟩
/-- A block apart from the locale's. -/
def Far (L : Loc) (B x : Nat) : Prop := x ≠ B ∧ ∀ i, blk L i ≠ some x
/-- A step: only the locale's blocks are written, its new ones are new. -/
structure Stp (L L' : Loc) (B : Nat) (w w' : World) : Prop where
  frm : Frm (fun k => k = B ∨ ∃ i, blk L i = some k) w w'
  new : ∀ i x, blk L' i = some x → (∃ j, blk L j = some x) ∨ w.heap.size ≤ x
theorem Stp.of_ext (L : Loc) (B : Nat) {w w' : World} (hE : Ext w w') : Stp L L B w w' := ⟨Frm.of_ext hE, fun i x h => .inl ⟨i, h⟩⟩
theorem Stp.far {L L' : Loc} {B x : Nat} {w w' : World} (h : Stp L L' B w w') (hx : Far L B x) (hz : x < w.heap.size) : Far L' B x ∧ w'.heap[x]? = w.heap[x]? := by
  refine ⟨⟨hx.1, fun i e => ?_⟩, h.frm.block x hz ?_⟩
  · rcases h.new i x e with ⟨j, q⟩ | q
    · exact hx.2 j q
    · omega
  · rintro (e | ⟨i, e⟩)
    · exact hx.1 e
    · exact hx.2 i e
theorem Stp.trans {L L1 L2 : Loc} {B : Nat} {w w1 w2 : World} (h : Stp L L1 B w w1) (k : Stp L1 L2 B w1 w2) : Stp L L2 B w w2 := by
  refine ⟨⟨k.frm.os.trans h.frm.os, k.frm.tape.trans h.frm.tape, k.frm.output.trans h.frm.output, Nat.le_trans h.frm.size k.frm.size, fun x hx hs => ?_⟩, fun i x e => ?_⟩
  · refine (k.frm.block x (Nat.lt_of_lt_of_le hx h.frm.size) ?_).trans (h.frm.block x hx hs)
    rintro (e | ⟨i, e⟩)
    · exact hs (.inl e)
    · rcases h.new i x e with ⟨j, q⟩ | q
      · exact hs (.inr ⟨j, q⟩)
      · omega
  · rcases k.new i x e with ⟨j, q⟩ | q
    · exact h.new j x q
    · right; have := h.frm.size; omega
theorem Stp.ext {L L' : Loc} {b B : Nat} {w0 w w' : World} (h : Stp L L' B w w') (hL : LSw L b B w) (hE : Ext w0 w) (hb : w0.heap.size ≤ b) : Ext w0 w' :=
  Frm.far hE h.frm (by
    rintro k hk (e | ⟨i, e⟩)
    · have := hL.bB; omega
    · have := (hL.blk_in i k e).1; omega)
end Go.Proofs.YtnhdmnhfllecgaaGreatDoor
/- Locales: a locale in the making: its steps. -/
namespace Go.Proofs.YtnhdmnhfllecgaaGreatDoor
set_option linter.unusedVariables false
set_option linter.unusedSimpArgs false
open Go.RowKit

/-- Cells of the locale's object itself are written. -/
theorem LSw.re {L : Loc} {b B : Nat} {w w' : World} (h : LSw L b B w) (nm : List UInt8) (N : Nms) (pt : List UInt8) (hN : N.ok) (hF : Frm (fun k => k = B) w w')
    (ho : w'.heap[B]? = some (.cells ({ L with nm := nm, N := N, pt := pt } : Loc).vals.toArray 30 (0, 0))) :
    LSw { L with nm := nm, N := N, pt := pt } b B w' ∧ Stp L { L with nm := nm, N := N, pt := pt } B w w' := by
  have hn : ∀ k x, blk L k = some x → ¬ x = B := fun k x e q => h.nB k (by rw [e, q])
  have eb : ∀ k, blk { L with nm := nm, N := N, pt := pt } k = blk L k := fun k => by
    match k with
    | 0 => rfl
    | 1 => rfl
    | 2 => rfl
    | k + 3 => rfl
  refine ⟨⟨hN, h.bB, ho, own_frm h.oP hF (fun x hx => hn 0 x hx), own_frm h.oO hF (fun x hx => hn 1 x hx), own_frm h.oU hF (fun x hx => hn 2 x hx), fun u hu => own_frm (h.oF u hu) hF (fun x hx => ?_), fun k => by rw [eb]; exact h.nB k, fun i j x => by rw [eb, eb]; exact h.dif i j x⟩, ⟨hF.mono (fun k _ e => .inl e), fun i x e => by rw [eb] at e; exact .inl ⟨i, e⟩⟩⟩
  obtain ⟨k, hk, e⟩ := List.mem_iff_getElem.1 hu
  exact hn (k + 3) x (by rw [blk3]; rw [List.getElem?_eq_getElem hk, e]; exact hx)
theorem frm_set {w : World} {B j : Nat} (v : Value) : Frm (fun k => k = B) w (w.setCell ⟨B, j, none⟩ v) := (Frm.refl (fun k => k = B) w).setCell (p := ⟨B, j, none⟩) (.inl rfl) v
theorem LSw.set_nm {L : Loc} {b B : Nat} {w : World} (h : LSw L b B w) (t : List UInt8) : LSw { L with nm := t } b B (w.setCell ⟨B, 0, none⟩ (.string ⟨t.toArray⟩)) ∧ Stp L { L with nm := t } B w (w.setCell ⟨B, 0, none⟩ (.string ⟨t.toArray⟩)) := by
  refine h.re t L.N L.pt h.ok (frm_set _) ?_
  rw [heap_setCell_same w B 0 _ _ _ h.obj]
  simp [Loc.vals]
theorem vals_set {L : Loc} (h : L.N.ok) (k : Nat) (v : Value) : L.vals.set (41 + k) v = .string ⟨L.nm.toArray⟩ :: (sv L.N.all ++ ([.slice L.pa L.P.length L.pc, .slice L.oa L.O.length L.oc, .slice L.ua L.U.length L.uc, .string ⟨L.pt.toArray⟩] : List Value).set k v) := by
  unfold Loc.vals
  rw [show 41 + k = (40 + k) + 1 by omega, List.set_cons_succ, List.set_append_right _ _ (by rw [sv40 h]; omega), sv40 h, show 40 + k - 40 = k by omega]
theorem LSw.set_pt {L : Loc} {b B : Nat} {w : World} (h : LSw L b B w) (t : List UInt8) : LSw { L with pt := t } b B (w.setCell ⟨B, 44, none⟩ (.string ⟨t.toArray⟩)) ∧ Stp L { L with pt := t } B w (w.setCell ⟨B, 44, none⟩ (.string ⟨t.toArray⟩)) := by
  refine h.re L.nm L.N t h.ok (frm_set _) ?_
  rw [heap_setCell_same w B 44 _ _ _ h.obj, List.setIfInBounds_toArray, vals_set h.ok 3]
  rfl
/-- One of the names is written. -/
theorem LSw.set_name {L : Loc} {b B : Nat} {w : World} (h : LSw L b B w) (N : Nms) (hN : N.ok) (k : Nat) (t : List UInt8) (e : N.all = L.N.all.set k t) (hk : k < 40) :
    LSw { L with N := N } b B (w.setCell ⟨B, k + 1, none⟩ (.string ⟨t.toArray⟩)) ∧ Stp L { L with N := N } B w (w.setCell ⟨B, k + 1, none⟩ (.string ⟨t.toArray⟩)) := by
  refine h.re L.nm N L.pt hN (frm_set _) ?_
  rw [heap_setCell_same w B (k + 1) _ _ _ h.obj, List.setIfInBounds_toArray]
  have e2 : sv N.all = (sv L.N.all).set k (.string ⟨t.toArray⟩) := by rw [e]; unfold sv; rw [List.map_set]
  congr 3
  unfold Loc.vals
  rw [List.set_cons_succ, List.set_append_left _ _ (by rw [sv40 h.ok]; exact hk), ← e2]
theorem plcs_app (l : List Plu) (p : Plu) : plcs (l ++ [p]) = plcs l ++ plc p := by unfold plcs; simp
theorem uncs_app (l : List Uni) (u : Uni) : uncs (l ++ [u]) = uncs l ++ unc u := by unfold uncs; simp
theorem own_cast {w : World} {b : Nat} {e : TypeId} {size n m : Nat} {ao : Option Addr} {c : Nat} {xs ys : List Value} (h : w.ownsRow b e size (.slice ao n c) n xs) (hn : n = m) (hx : xs = ys) : w.ownsRow b e size (.slice ao m c) m ys := by subst hn; subst hx; exact h
theorem frm_grow {w w1 : World} {B : Nat} {r : Option Nat} (hg : w.grownBy w1 r) (j : Nat) (v : Value) : Frm (fun k => k = B ∨ r = some k) w (w1.setCell ⟨B, j, none⟩ v) :=
  ((Frm.refl _ w).grown hg (fun k e => .inl (.inr e))).setCell (.inl (.inl rfl)) v
theorem own_at {w : World} {b : Nat} {e : TypeId} {size n c g : Nat} {xs : List Value} (h : w.ownsRow b e size (.slice (some ⟨g, 0, none⟩) n c) n xs) : b ≤ g ∧ g < w.heap.size := h.lt g rfl
section
variable {L : Loc} {b B : Nat} {w w1 : World} (h : LSw L b B w) {g cap : Nat}
include h
theorem LSw.app_P (p : Plu) (hown : w1.ownsRow b 50 2 (.slice (some ⟨g, 0, none⟩) (L.P.length + 1) cap) (L.P.length + 1) (plcs L.P ++ plc p)) (hg : w.grownBy w1 (bk L.pa)) (hl : bk L.pa = some g ∨ w.heap.size ≤ g) :
    LSw { L with pa := some ⟨g, 0, none⟩, pc := cap, P := L.P ++ [p] } b B (w1.setCell ⟨B, 41, none⟩ (.slice (some ⟨g, 0, none⟩) (L.P.length + 1) cap)) ∧
      Stp L { L with pa := some ⟨g, 0, none⟩, pc := cap, P := L.P ++ [p] } B w (w1.setCell ⟨B, 41, none⟩ (.slice (some ⟨g, 0, none⟩) (L.P.length + 1) cap)) := by
  have hBk : ∀ k, blk L k ≠ some B := h.nB
  have hF := frm_grow (B := B) hg 41 (.slice (some ⟨g, 0, none⟩) (L.P.length + 1) cap)
  have hgB : g ≠ B := by
    rintro rfl
    rcases hl with q | q
    · exact h.nB 0 q
    · have := h.lt; omega
  have hgk : ∀ k, k ≠ 0 → blk L k ≠ some g := fun k hk e => by
    rcases hl with q | q
    · exact h.dif k 0 g hk e q
    · have := (h.blk_in k g e).2; omega
  have hne : ∀ k x, k ≠ 0 → blk L k = some x → ¬ (x = B ∨ bk L.pa = some x) := fun k x hk e q => by
    rcases q with q | q
    · exact h.nB k (by rw [e, q])
    · exact h.dif k 0 x hk e q
  have hob : w1.heap[B]? = some (.cells L.vals.toArray 30 (0, 0)) := (hg.block B h.lt (fun e => h.nB 0 e.symm)).trans h.obj
  have eb : ∀ k, k ≠ 0 → blk { L with pa := some ⟨g, 0, none⟩, pc := cap, P := L.P ++ [p] } k = blk L k := fun k hk => by
    match k, hk with
    | 1, _ => rfl
    | 2, _ => rfl
    | k + 3, _ => rfl
  have e0 : blk { L with pa := some ⟨g, 0, none⟩, pc := cap, P := L.P ++ [p] } 0 = some g := rfl
  refine ⟨⟨h.ok, h.bB, ?_, ?_, own_frm h.oO hF (fun x hx => hne 1 x (by decide) hx), own_frm h.oU hF (fun x hx => hne 2 x (by decide) hx), fun u hu => own_frm (h.oF u hu) hF (fun x hx => ?_), fun k => ?_, fun i j x hij hi hj => ?_⟩, ⟨hF.mono (fun k _ e => e.imp id fun q => ⟨0, q⟩), fun i x e => ?_⟩⟩
  · rw [heap_setCell_same w1 B 41 _ _ _ hob, List.setIfInBounds_toArray, vals_set h.ok 0]
    simp [Loc.vals]
  · exact own_cast (own_frm (hown) (frm_set (B := B) _) (fun x hx => by
      rintro rfl
      exact hgB (by injection hx))) (by simp) (plcs_app _ _).symm
  · obtain ⟨k, hk, e⟩ := List.mem_iff_getElem.1 hu
    exact hne (k + 3) x (by omega) (by rw [blk3]; rw [List.getElem?_eq_getElem hk, e]; exact hx)
  · by_cases hk : k = 0
    · subst hk; rw [e0]; intro e; exact hgB (by injection e)
    · rw [eb k hk]; exact h.nB k
  · by_cases h1 : i = 0
    · subst h1
      rw [e0] at hi
      rw [eb j (by omega)] at hj
      injection hi with hi
      subst hi
      exact hgk j (by omega) hj
    · by_cases h2 : j = 0
      · subst h2
        rw [e0] at hj
        rw [eb i h1] at hi
        injection hj with hj
        subst hj
        exact hgk i h1 hi
      · rw [eb i h1] at hi
        rw [eb j h2] at hj
        exact h.dif i j x hij hi hj
  · by_cases hk : i = 0
    · subst hk
      rw [e0] at e
      injection e with e
      subst e
      exact hl.imp (fun q => ⟨0, q⟩) id
    · rw [eb i hk] at e; exact .inl ⟨i, e⟩
theorem LSw.app_O (p : Plu) (hown : w1.ownsRow b 50 2 (.slice (some ⟨g, 0, none⟩) (L.O.length + 1) cap) (L.O.length + 1) (plcs L.O ++ plc p)) (hg : w.grownBy w1 (bk L.oa)) (hl : bk L.oa = some g ∨ w.heap.size ≤ g) :
    LSw { L with oa := some ⟨g, 0, none⟩, oc := cap, O := L.O ++ [p] } b B (w1.setCell ⟨B, 42, none⟩ (.slice (some ⟨g, 0, none⟩) (L.O.length + 1) cap)) ∧
      Stp L { L with oa := some ⟨g, 0, none⟩, oc := cap, O := L.O ++ [p] } B w (w1.setCell ⟨B, 42, none⟩ (.slice (some ⟨g, 0, none⟩) (L.O.length + 1) cap)) := by
  have hBk : ∀ k, blk L k ≠ some B := h.nB
  have hF := frm_grow (B := B) hg 42 (.slice (some ⟨g, 0, none⟩) (L.O.length + 1) cap)
  have hgB : g ≠ B := by
    rintro rfl
    rcases hl with q | q
    · exact h.nB 1 q
    · have := h.lt; omega
  have hgk : ∀ k, k ≠ 1 → blk L k ≠ some g := fun k hk e => by
    rcases hl with q | q
    · exact h.dif k 1 g hk e q
    · have := (h.blk_in k g e).2; omega
  have hne : ∀ k x, k ≠ 1 → blk L k = some x → ¬ (x = B ∨ bk L.oa = some x) := fun k x hk e q => by
    rcases q with q | q
    · exact h.nB k (by rw [e, q])
    · exact h.dif k 1 x hk e q
  have hob : w1.heap[B]? = some (.cells L.vals.toArray 30 (0, 0)) := (hg.block B h.lt (fun e => h.nB 1 e.symm)).trans h.obj
  have eb : ∀ k, k ≠ 1 → blk { L with oa := some ⟨g, 0, none⟩, oc := cap, O := L.O ++ [p] } k = blk L k := fun k hk => by
    match k, hk with
    | 0, _ => rfl
    | 2, _ => rfl
    | k + 3, _ => rfl
  have e0 : blk { L with oa := some ⟨g, 0, none⟩, oc := cap, O := L.O ++ [p] } 1 = some g := rfl
  refine ⟨⟨h.ok, h.bB, ?_, own_frm h.oP hF (fun x hx => hne 0 x (by decide) hx), ?_, own_frm h.oU hF (fun x hx => hne 2 x (by decide) hx), fun u hu => own_frm (h.oF u hu) hF (fun x hx => ?_), fun k => ?_, fun i j x hij hi hj => ?_⟩, ⟨hF.mono (fun k _ e => e.imp id fun q => ⟨1, q⟩), fun i x e => ?_⟩⟩
  · rw [heap_setCell_same w1 B 42 _ _ _ hob, List.setIfInBounds_toArray, vals_set h.ok 1]
    simp [Loc.vals]
  · exact own_cast (own_frm (hown) (frm_set (B := B) _) (fun x hx => by
      rintro rfl
      exact hgB (by injection hx))) (by simp) (plcs_app _ _).symm
  · obtain ⟨k, hk, e⟩ := List.mem_iff_getElem.1 hu
    exact hne (k + 3) x (by omega) (by rw [blk3]; rw [List.getElem?_eq_getElem hk, e]; exact hx)
  · by_cases hk : k = 1
    · subst hk; rw [e0]; intro e; exact hgB (by injection e)
    · rw [eb k hk]; exact h.nB k
  · by_cases h1 : i = 1
    · subst h1
      rw [e0] at hi
      rw [eb j (by omega)] at hj
      injection hi with hi
      subst hi
      exact hgk j (by omega) hj
    · by_cases h2 : j = 1
      · subst h2
        rw [e0] at hj
        rw [eb i h1] at hi
        injection hj with hj
        subst hj
        exact hgk i h1 hi
      · rw [eb i h1] at hi
        rw [eb j h2] at hj
        exact h.dif i j x hij hi hj
  · by_cases hk : i = 1
    · subst hk
      rw [e0] at e
      injection e with e
      subst e
      exact hl.imp (fun q => ⟨1, q⟩) id
    · rw [eb i hk] at e; exact .inl ⟨i, e⟩
theorem LSw.app_U (u : Uni) (hown : w1.ownsRow b 53 2 (.slice (some ⟨g, 0, none⟩) (L.U.length + 1) cap) (L.U.length + 1) (uncs L.U ++ unc u)) (hg : w.grownBy w1 (bk L.ua)) (hl : bk L.ua = some g ∨ w.heap.size ≤ g)
    (hf : w.ownsRow b 50 2 (.slice u.ao u.f.length u.cap) u.f.length (plcs u.f)) (hfar : ∀ x, bk u.ao = some x → Far L B x) :
    LSw { L with ua := some ⟨g, 0, none⟩, uc := cap, U := L.U ++ [u] } b B (w1.setCell ⟨B, 43, none⟩ (.slice (some ⟨g, 0, none⟩) (L.U.length + 1) cap)) ∧
      Frm (fun k => k = B ∨ bk L.ua = some k) w (w1.setCell ⟨B, 43, none⟩ (.slice (some ⟨g, 0, none⟩) (L.U.length + 1) cap)) ∧
      ∀ i x, blk { L with ua := some ⟨g, 0, none⟩, uc := cap, U := L.U ++ [u] } i = some x → (∃ j, blk L j = some x) ∨ bk u.ao = some x ∨ w.heap.size ≤ x := by
  have hF := frm_grow (B := B) hg 43 (.slice (some ⟨g, 0, none⟩) (L.U.length + 1) cap)
  have hgB : g ≠ B := by
    rintro rfl
    rcases hl with q | q
    · exact h.nB 2 q
    · have := h.lt; omega
  have hgk : ∀ k, k ≠ 2 → blk L k ≠ some g := fun k hk e => by
    rcases hl with q | q
    · exact h.dif k 2 g hk e q
    · have := (h.blk_in k g e).2; omega
  have hne : ∀ k x, k ≠ 2 → blk L k = some x → ¬ (x = B ∨ bk L.ua = some x) := fun k x hk e q => by
    rcases q with q | q
    · exact h.nB k (by rw [e, q])
    · exact h.dif k 2 x hk e q
  have hflt : ∀ x, bk u.ao = some x → x < w.heap.size := fun x e => (hf.lt x (by rw [own_bk]; exact e)).2
  have hug : bk u.ao ≠ some g := fun e => by
    rcases hl with q | q
    · exact (hfar g e).2 2 q
    · have := hflt g e; omega
  have hob : w1.heap[B]? = some (.cells L.vals.toArray 30 (0, 0)) := (hg.block B h.lt (fun e => h.nB 2 e.symm)).trans h.obj
  generalize hL' : ({ L with ua := some ⟨g, 0, none⟩, uc := cap, U := L.U ++ [u] } : Loc) = L'
  have eb : ∀ k, (k = 2 ∧ blk L' k = some g) ∨ (k ≠ 2 ∧ k ≠ L.U.length + 3 ∧ blk L' k = blk L k) ∨ (k = L.U.length + 3 ∧ blk L' k = bk u.ao) := fun k => by
    subst hL'
    match k with
    | 0 => exact .inr (.inl ⟨by decide, by omega, rfl⟩)
    | 1 => exact .inr (.inl ⟨by decide, by omega, rfl⟩)
    | 2 => exact .inl ⟨rfl, rfl⟩
    | k + 3 =>
      by_cases hk : k = L.U.length
      · subst hk
        exact .inr (.inr ⟨rfl, by rw [blk3]; simp⟩)
      · refine .inr (.inl ⟨by omega, by omega, ?_⟩)
        rw [blk3, blk3]
        by_cases h2 : k < L.U.length
        · simp only [List.getElem?_append_left h2]
        · rw [List.getElem?_eq_none (by simp; omega), List.getElem?_eq_none (by omega)]
  have hq : ∀ i j x, i ≠ j → blk L' i = some x → blk L' j = some x → False := fun i j x hij hi hj => by
    rcases eb i with ⟨a1, a2⟩ | ⟨a1, a2, a3⟩ | ⟨a1, a2⟩ <;> rcases eb j with ⟨c1, c2⟩ | ⟨c1, c2, c3⟩ | ⟨c1, c2⟩
    · omega
    · rw [a2] at hi; rw [c3] at hj; injection hi with hi; subst hi; exact hgk j c1 hj
    · rw [a2] at hi; rw [c2] at hj; injection hi with hi; subst hi; exact hug hj
    · rw [a3] at hi; rw [c2] at hj; injection hj with hj; subst hj; exact hgk i a1 hi
    · rw [a3] at hi; rw [c3] at hj; exact h.dif i j x hij hi hj
    · rw [a3] at hi; rw [c2] at hj; exact (hfar x hj).2 i hi
    · rw [a2] at hi; rw [c2] at hj; injection hj with hj; subst hj; exact hug hi
    · rw [a2] at hi; rw [c3] at hj; exact (hfar x hi).2 j hj
    · omega
  have hv : (L.vals.toArray.setIfInBounds 43 (.slice (some ⟨g, 0, none⟩) (L.U.length + 1) cap)) = L'.vals.toArray := by
    subst hL'
    rw [List.setIfInBounds_toArray, vals_set h.ok 2]
    simp [Loc.vals]
  refine ⟨⟨?_, h.bB, ?_, ?_, ?_, ?_, fun v hv => ?_, fun k => ?_, fun i j x hij hi hj => hq i j x hij hi hj⟩, hF, fun i x e => ?_⟩
  · subst hL'; exact h.ok
  · rw [heap_setCell_same w1 B 43 _ _ _ hob, hv]
  · subst hL'; exact own_frm h.oP hF (fun x hx => hne 0 x (by decide) hx)
  · subst hL'; exact own_frm h.oO hF (fun x hx => hne 1 x (by decide) hx)
  · subst hL'
    exact own_cast (own_frm (hown) (frm_set (B := B) _) (fun x hx => by
      rintro rfl
      exact hgB (by injection hx))) (by simp) (uncs_app _ _).symm
  · subst hL'
    rcases List.mem_append.1 hv with q | q
    · refine own_frm (h.oF v q) hF (fun x hx => ?_)
      obtain ⟨k, hk, e⟩ := List.mem_iff_getElem.1 q
      exact hne (k + 3) x (by omega) (by rw [blk3]; rw [List.getElem?_eq_getElem hk, e]; exact hx)
    · have := List.mem_singleton.1 q
      subst this
      refine own_frm hf hF (fun x hx => ?_)
      rintro (e | e)
      · exact (hfar x hx).1 e
      · exact (hfar x hx).2 2 e
  · intro e
    rcases eb k with ⟨a1, a2⟩ | ⟨a1, a2, a3⟩ | ⟨a1, a2⟩
    · rw [a2] at e; exact hgB (by injection e)
    · rw [a3] at e; exact h.nB k e
    · rw [a2] at e; exact (hfar B e).1 rfl
  · rcases eb i with ⟨a1, a2⟩ | ⟨a1, a2, a3⟩ | ⟨a1, a2⟩
    · rw [a2] at e
      injection e with e
      subst e
      rcases hl with q | q
      · exact .inl ⟨2, q⟩
      · exact .inr (.inr q)
    · rw [a3] at e; exact .inl ⟨i, e⟩
    · rw [a2] at e; exact .inr (.inl e)
end
end Go.Proofs.YtnhdmnhfllecgaaGreatDoor
