/- Locales: a locale in the making: its steps. -/
import Derived.Test.YtnhdmnhfllecgaaGreatDoorQ25
import Derived.Test.YtnhdmnhfllecgaaGreatDoorQ09
namespace Go.Proofs.YtnhdmnhfllecgaaGreatDoor
set_option linter.unusedVariables false
set_option linter.unusedSimpArgs false
open Go.RowKit

/-- Cells of the locale's object itself are written. -/
theorem LSw.re {L : Loc} {b B : Nat} {w w' : World} (h : LSw L b B w) (nm : List UInt8) (N : Nms) (pt : List UInt8) (hN : N.ok) (hF : Frm (fun k => k = B) w w')
    (ho : w'.heap[B]? = some (.cells ({ L with nm := nm, N := N, pt := pt } : Loc).vals.toArray 30 (0, 0))) :
    LSw { L with nm := nm, N := N, pt := pt } b B w' ∧ Stp L { L with nm := nm, N := N, pt := pt } B w w' := by
  have hn : ∀ k x, blk L k = some x → ¬ x = B := fun k x e q => h.nB k (by rw [e, q])
  have eb : ∀ k, blk { L with nm := nm, N := N, pt := pt } k = blk L k := fun k => by
    match k with
    | 0 => rfl
    | 1 => rfl
    | 2 => rfl
    | k + 3 => rfl
  refine ⟨⟨hN, h.bB, ho, own_frm h.oP hF (fun x hx => hn 0 x hx), own_frm h.oO hF (fun x hx => hn 1 x hx), own_frm h.oU hF (fun x hx => hn 2 x hx), fun u hu => own_frm (h.oF u hu) hF (fun x hx => ?_), fun k => by rw [eb]; exact h.nB k, fun i j x => by rw [eb, eb]; exact h.dif i j x⟩, ⟨hF.mono (fun k _ e => .inl e), fun i x e => by rw [eb] at e; exact .inl ⟨i, e⟩⟩⟩
  obtain ⟨k, hk, e⟩ := List.mem_iff_getElem.1 hu
  exact hn (k + 3) x (by rw [blk3]; rw [List.getElem?_eq_getElem hk, e]; exact hx)
theorem frm_set {w : World} {B j : Nat} (v : Value) : Frm (fun k => k = B) w (w.setCell ⟨B, j, none⟩ v) := (Frm.refl (fun k => k = B) w).setCell (p := ⟨B, j, none⟩) (.inl rfl) v
theorem LSw.set_nm {L : Loc} {b B : Nat} {w : World} (h : LSw L b B w) (t : List UInt8) : LSw { L with nm := t } b B (w.setCell ⟨B, 0, none⟩ (.string ⟨t.toArray⟩)) ∧ Stp L { L with nm := t } B w (w.setCell ⟨B, 0, none⟩ (.string ⟨t.toArray⟩)) := by
  refine h.re t L.N L.pt h.ok (frm_set _) ?_
  rw [heap_setCell_same w B 0 _ _ _ h.obj]
  simp [Loc.vals]
theorem vals_set {L : Loc} (h : L.N.ok) (k : Nat) (v : Value) : L.vals.set (41 + k) v = .string ⟨L.nm.toArray⟩ :: (sv L.N.all ++ ([.slice L.pa L.P.length L.pc, .slice L.oa L.O.length L.oc, .slice L.ua L.U.length L.uc, .string ⟨L.pt.toArray⟩] : List Value).set k v) := by
  unfold Loc.vals
  rw [show 41 + k = (40 + k) + 1 by omega, List.set_cons_succ, List.set_append_right _ _ (by rw [sv40 h]; omega), sv40 h, show 40 + k - 40 = k by omega]
theorem LSw.set_pt {L : Loc} {b B : Nat} {w : World} (h : LSw L b B w) (t : List UInt8) : LSw { L with pt := t } b B (w.setCell ⟨B, 44, none⟩ (.string ⟨t.toArray⟩)) ∧ Stp L { L with pt := t } B w (w.setCell ⟨B, 44, none⟩ (.string ⟨t.toArray⟩)) := by
  refine h.re L.nm L.N t h.ok (frm_set _) ?_
  rw [heap_setCell_same w B 44 _ _ _ h.obj, List.setIfInBounds_toArray, vals_set h.ok 3]
  rfl
/-- One of the names is written. -/
theorem LSw.set_name {L : Loc} {b B : Nat} {w : World} (h : LSw L b B w) (N : Nms) (hN : N.ok) (k : Nat) (t : List UInt8) (e : N.all = L.N.all.set k t) (hk : k < 40) :
    LSw { L with N := N } b B (w.setCell ⟨B, k + 1, none⟩ (.string ⟨t.toArray⟩)) ∧ Stp L { L with N := N } B w (w.setCell ⟨B, k + 1, none⟩ (.string ⟨t.toArray⟩)) := by
  refine h.re L.nm N L.pt hN (frm_set _) ?_
  rw [heap_setCell_same w B (k + 1) _ _ _ h.obj, List.setIfInBounds_toArray]
  have e2 : sv N.all = (sv L.N.all).set k (.string ⟨t.toArray⟩) := by rw [e]; unfold sv; rw [List.map_set]
  congr 3
  unfold Loc.vals
  rw [List.set_cons_succ, List.set_append_left _ _ (by rw [sv40 h.ok]; exact hk), ← e2]
theorem plcs_app (l : List Plu) (p : Plu) : plcs (l ++ [p]) = plcs l ++ plc p := by unfold plcs; simp
theorem uncs_app (l : List Uni) (u : Uni) : uncs (l ++ [u]) = uncs l ++ unc u := by unfold uncs; simp
theorem own_cast {w : World} {b : Nat} {e : TypeId} {size n m : Nat} {ao : Option Addr} {c : Nat} {xs ys : List Value} (h : w.ownsRow b e size (.slice ao n c) n xs) (hn : n = m) (hx : xs = ys) : w.ownsRow b e size (.slice ao m c) m ys := by subst hn; subst hx; exact h
theorem frm_grow {w w1 : World} {B : Nat} {r : Option Nat} (hg : w.grownBy w1 r) (j : Nat) (v : Value) : Frm (fun k => k = B ∨ r = some k) w (w1.setCell ⟨B, j, none⟩ v) :=
  ((Frm.refl _ w).grown hg (fun k e => .inl (.inr e))).setCell (.inl (.inl rfl)) v
theorem own_at {w : World} {b : Nat} {e : TypeId} {size n c g : Nat} {xs : List Value} (h : w.ownsRow b e size (.slice (some ⟨g, 0, none⟩) n c) n xs) : b ≤ g ∧ g < w.heap.size := h.lt g rfl
section
variable {L : Loc} {b B : Nat} {w w1 : World} (h : LSw L b B w) {g cap : Nat}
include h
theorem LSw.app_P (p : Plu) (hown : w1.ownsRow b 50 2 (.slice (some ⟨g, 0, none⟩) (L.P.length + 1) cap) (L.P.length + 1) (plcs L.P ++ plc p)) (hg : w.grownBy w1 (bk L.pa)) (hl : bk L.pa = some g ∨ w.heap.size ≤ g) :
    LSw { L with pa := some ⟨g, 0, none⟩, pc := cap, P := L.P ++ [p] } b B (w1.setCell ⟨B, 41, none⟩ (.slice (some ⟨g, 0, none⟩) (L.P.length + 1) cap)) ∧
      Stp L { L with pa := some ⟨g, 0, none⟩, pc := cap, P := L.P ++ [p] } B w (w1.setCell ⟨B, 41, none⟩ (.slice (some ⟨g, 0, none⟩) (L.P.length + 1) cap)) := by
  have hBk : ∀ k, blk L k ≠ some B := h.nB
  have hF := frm_grow (B := B) hg 41 (.slice (some ⟨g, 0, none⟩) (L.P.length + 1) cap)
  have hgB : g ≠ B := by
    rintro rfl
    rcases hl with q | q
    · exact h.nB 0 q
    · have := h.lt; omega
  have hgk : ∀ k, k ≠ 0 → blk L k ≠ some g := fun k hk e => by
    rcases hl with q | q
    · exact h.dif k 0 g hk e q
    · have := (h.blk_in k g e).2; omega
  have hne : ∀ k x, k ≠ 0 → blk L k = some x → ¬ (x = B ∨ bk L.pa = some x) := fun k x hk e q => by
    rcases q with q | q
    · exact h.nB k (by rw [e, q])
    · exact h.dif k 0 x hk e q
  have hob : w1.heap[B]? = some (.cells L.vals.toArray 30 (0, 0)) := (hg.block B h.lt (fun e => h.nB 0 e.symm)).trans h.obj
  have eb : ∀ k, k ≠ 0 → blk { L with pa := some ⟨g, 0, none⟩, pc := cap, P := L.P ++ [p] } k = blk L k := fun k hk => by
    match k, hk with
    | 1, _ => rfl
    | 2, _ => rfl
    | k + 3, _ => rfl
  have e0 : blk { L with pa := some ⟨g, 0, none⟩, pc := cap, P := L.P ++ [p] } 0 = some g := rfl
  refine ⟨⟨h.ok, h.bB, ?_, ?_, own_frm h.oO hF (fun x hx => hne 1 x (by decide) hx), own_frm h.oU hF (fun x hx => hne 2 x (by decide) hx), fun u hu => own_frm (h.oF u hu) hF (fun x hx => ?_), fun k => ?_, fun i j x hij hi hj => ?_⟩, ⟨hF.mono (fun k _ e => e.imp id fun q => ⟨0, q⟩), fun i x e => ?_⟩⟩
  · rw [heap_setCell_same w1 B 41 _ _ _ hob, List.setIfInBounds_toArray, vals_set h.ok 0]
    simp [Loc.vals]
  · exact own_cast (own_frm (hown) (frm_set (B := B) _) (fun x hx => by
      rintro rfl
      exact hgB (by injection hx))) (by simp) (plcs_app _ _).symm
  · obtain ⟨k, hk, e⟩ := List.mem_iff_getElem.1 hu
    exact hne (k + 3) x (by omega) (by rw [blk3]; rw [List.getElem?_eq_getElem hk, e]; exact hx)
  · by_cases hk : k = 0
    · subst hk; rw [e0]; intro e; exact hgB (by injection e)
    · rw [eb k hk]; exact h.nB k
  · by_cases h1 : i = 0
    · subst h1
      rw [e0] at hi
      rw [eb j (by omega)] at hj
      injection hi with hi
      subst hi
      exact hgk j (by omega) hj
    · by_cases h2 : j = 0
      · subst h2
        rw [e0] at hj
        rw [eb i h1] at hi
        injection hj with hj
        subst hj
        exact hgk i h1 hi
      · rw [eb i h1] at hi
        rw [eb j h2] at hj
        exact h.dif i j x hij hi hj
  · by_cases hk : i = 0
    · subst hk
      rw [e0] at e
      injection e with e
      subst e
      exact hl.imp (fun q => ⟨0, q⟩) id
    · rw [eb i hk] at e; exact .inl ⟨i, e⟩
theorem LSw.app_O (p : Plu) (hown : w1.ownsRow b 50 2 (.slice (some ⟨g, 0, none⟩) (L.O.length + 1) cap) (L.O.length + 1) (plcs L.O ++ plc p)) (hg : w.grownBy w1 (bk L.oa)) (hl : bk L.oa = some g ∨ w.heap.size ≤ g) :
    LSw { L with oa := some ⟨g, 0, none⟩, oc := cap, O := L.O ++ [p] } b B (w1.setCell ⟨B, 42, none⟩ (.slice (some ⟨g, 0, none⟩) (L.O.length + 1) cap)) ∧
      Stp L { L with oa := some ⟨g, 0, none⟩, oc := cap, O := L.O ++ [p] } B w (w1.setCell ⟨B, 42, none⟩ (.slice (some ⟨g, 0, none⟩) (L.O.length + 1) cap)) := by
  have hBk : ∀ k, blk L k ≠ some B := h.nB
  have hF := frm_grow (B := B) hg 42 (.slice (some ⟨g, 0, none⟩) (L.O.length + 1) cap)
  have hgB : g ≠ B := by
    rintro rfl
    rcases hl with q | q
    · exact h.nB 1 q
    · have := h.lt; omega
  have hgk : ∀ k, k ≠ 1 → blk L k ≠ some g := fun k hk e => by
    rcases hl with q | q
    · exact h.dif k 1 g hk e q
    · have := (h.blk_in k g e).2; omega
  have hne : ∀ k x, k ≠ 1 → blk L k = some x → ¬ (x = B ∨ bk L.oa = some x) := fun k x hk e q => by
    rcases q with q | q
    · exact h.nB k (by rw [e, q])
    · exact h.dif k 1 x hk e q
  have hob : w1.heap[B]? = some (.cells L.vals.toArray 30 (0, 0)) := (hg.block B h.lt (fun e => h.nB 1 e.symm)).trans h.obj
  have eb : ∀ k, k ≠ 1 → blk { L with oa := some ⟨g, 0, none⟩, oc := cap, O := L.O ++ [p] } k = blk L k := fun k hk => by
    match k, hk with
    | 0, _ => rfl
    | 2, _ => rfl
    | k + 3, _ => rfl
  have e0 : blk { L with oa := some ⟨g, 0, none⟩, oc := cap, O := L.O ++ [p] } 1 = some g := rfl
  refine ⟨⟨h.ok, h.bB, ?_, own_frm h.oP hF (fun x hx => hne 0 x (by decide) hx), ?_, own_frm h.oU hF (fun x hx => hne 2 x (by decide) hx), fun u hu => own_frm (h.oF u hu) hF (fun x hx => ?_), fun k => ?_, fun i j x hij hi hj => ?_⟩, ⟨hF.mono (fun k _ e => e.imp id fun q => ⟨1, q⟩), fun i x e => ?_⟩⟩
  · rw [heap_setCell_same w1 B 42 _ _ _ hob, List.setIfInBounds_toArray, vals_set h.ok 1]
    simp [Loc.vals]
  · exact own_cast (own_frm (hown) (frm_set (B := B) _) (fun x hx => by
      rintro rfl
      exact hgB (by injection hx))) (by simp) (plcs_app _ _).symm
  · obtain ⟨k, hk, e⟩ := List.mem_iff_getElem.1 hu
    exact hne (k + 3) x (by omega) (by rw [blk3]; rw [List.getElem?_eq_getElem hk, e]; exact hx)
  · by_cases hk : k = 1
    · subst hk; rw [e0]; intro e; exact hgB (by injection e)
    · rw [eb k hk]; exact h.nB k
  · by_cases h1 : i = 1
    · subst h1
      rw [e0] at hi
      rw [eb j (by omega)] at hj
      injection hi with hi
      subst hi
      exact hgk j (by omega) hj
    · by_cases h2 : j = 1
      · subst h2
        rw [e0] at hj
        rw [eb i h1] at hi
        injection hj with hj
        subst hj
        exact hgk i h1 hi
      · rw [eb i h1] at hi
        rw [eb j h2] at hj
        exact h.dif i j x hij hi hj
  · by_cases hk : i = 1
    · subst hk
      rw [e0] at e
      injection e with e
      subst e
      exact hl.imp (fun q => ⟨1, q⟩) id
    · rw [eb i hk] at e; exact .inl ⟨i, e⟩
theorem LSw.app_U (u : Uni) (hown : w1.ownsRow b 53 2 (.slice (some ⟨g, 0, none⟩) (L.U.length + 1) cap) (L.U.length + 1) (uncs L.U ++ unc u)) (hg : w.grownBy w1 (bk L.ua)) (hl : bk L.ua = some g ∨ w.heap.size ≤ g)
    (hf : w.ownsRow b 50 2 (.slice u.ao u.f.length u.cap) u.f.length (plcs u.f)) (hfar : ∀ x, bk u.ao = some x → Far L B x) :
    LSw { L with ua := some ⟨g, 0, none⟩, uc := cap, U := L.U ++ [u] } b B (w1.setCell ⟨B, 43, none⟩ (.slice (some ⟨g, 0, none⟩) (L.U.length + 1) cap)) ∧
      Frm (fun k => k = B ∨ bk L.ua = some k) w (w1.setCell ⟨B, 43, none⟩ (.slice (some ⟨g, 0, none⟩) (L.U.length + 1) cap)) ∧
      ∀ i x, blk { L with ua := some ⟨g, 0, none⟩, uc := cap, U := L.U ++ [u] } i = some x → (∃ j, blk L j = some x) ∨ bk u.ao = some x ∨ w.heap.size ≤ x := by
  have hF := frm_grow (B := B) hg 43 (.slice (some ⟨g, 0, none⟩) (L.U.length + 1) cap)
  have hgB : g ≠ B := by
    rintro rfl
    rcases hl with q | q
    · exact h.nB 2 q
    · have := h.lt; omega
  have hgk : ∀ k, k ≠ 2 → blk L k ≠ some g := fun k hk e => by
    rcases hl with q | q
    · exact h.dif k 2 g hk e q
    · have := (h.blk_in k g e).2; omega
  have hne : ∀ k x, k ≠ 2 → blk L k = some x → ¬ (x = B ∨ bk L.ua = some x) := fun k x hk e q => by
    rcases q with q | q
    · exact h.nB k (by rw [e, q])
    · exact h.dif k 2 x hk e q
  have hflt : ∀ x, bk u.ao = some x → x < w.heap.size := fun x e => (hf.lt x (by rw [own_bk]; exact e)).2
  have hug : bk u.ao ≠ some g := fun e => by
    rcases hl with q | q
    · exact (hfar g e).2 2 q
    · have := hflt g e; omega
  have hob : w1.heap[B]? = some (.cells L.vals.toArray 30 (0, 0)) := (hg.block B h.lt (fun e => h.nB 2 e.symm)).trans h.obj
  generalize hL' : ({ L with ua := some ⟨g, 0, none⟩, uc := cap, U := L.U ++ [u] } : Loc) = L'
  have eb : ∀ k, (k = 2 ∧ blk L' k = some g) ∨ (k ≠ 2 ∧ k ≠ L.U.length + 3 ∧ blk L' k = blk L k) ∨ (k = L.U.length + 3 ∧ blk L' k = bk u.ao) := fun k => by
    subst hL'
    match k with
    | 0 => exact .inr (.inl ⟨by decide, by omega, rfl⟩)
    | 1 => exact .inr (.inl ⟨by decide, by omega, rfl⟩)
    | 2 => exact .inl ⟨rfl, rfl⟩
    | k + 3 =>
      by_cases hk : k = L.U.length
      · subst hk
        exact .inr (.inr ⟨rfl, by rw [blk3]; simp⟩)
      · refine .inr (.inl ⟨by omega, by omega, ?_⟩)
        rw [blk3, blk3]
        by_cases h2 : k < L.U.length
        · simp only [List.getElem?_append_left h2]
        · rw [List.getElem?_eq_none (by simp; omega), List.getElem?_eq_none (by omega)]
  have hq : ∀ i j x, i ≠ j → blk L' i = some x → blk L' j = some x → False := fun i j x hij hi hj => by
    rcases eb i with ⟨a1, a2⟩ | ⟨a1, a2, a3⟩ | ⟨a1, a2⟩ <;> rcases eb j with ⟨c1, c2⟩ | ⟨c1, c2, c3⟩ | ⟨c1, c2⟩
    · omega
    · rw [a2] at hi; rw [c3] at hj; injection hi with hi; subst hi; exact hgk j c1 hj
    · rw [a2] at hi; rw [c2] at hj; injection hi with hi; subst hi; exact hug hj
    · rw [a3] at hi; rw [c2] at hj; injection hj with hj; subst hj; exact hgk i a1 hi
    · rw [a3] at hi; rw [c3] at hj; exact h.dif i j x hij hi hj
    · rw [a3] at hi; rw [c2] at hj; exact (hfar x hj).2 i hi
    · rw [a2] at hi; rw [c2] at hj; injection hj with hj; subst hj; exact hug hi
    · rw [a2] at hi; rw [c3] at hj; exact (hfar x hi).2 j hj
    · omega
  have hv : (L.vals.toArray.setIfInBounds 43 (.slice (some ⟨g, 0, none⟩) (L.U.length + 1) cap)) = L'.vals.toArray := by
    subst hL'
    rw [List.setIfInBounds_toArray, vals_set h.ok 2]
    simp [Loc.vals]
  refine ⟨⟨?_, h.bB, ?_, ?_, ?_, ?_, fun v hv => ?_, fun k => ?_, fun i j x hij hi hj => hq i j x hij hi hj⟩, hF, fun i x e => ?_⟩
  · subst hL'; exact h.ok
  · rw [heap_setCell_same w1 B 43 _ _ _ hob, hv]
  · subst hL'; exact own_frm h.oP hF (fun x hx => hne 0 x (by decide) hx)
  · subst hL'; exact own_frm h.oO hF (fun x hx => hne 1 x (by decide) hx)
  · subst hL'
    exact own_cast (own_frm (hown) (frm_set (B := B) _) (fun x hx => by
      rintro rfl
      exact hgB (by injection hx))) (by simp) (uncs_app _ _).symm
  · subst hL'
    rcases List.mem_append.1 hv with q | q
    · refine own_frm (h.oF v q) hF (fun x hx => ?_)
      obtain ⟨k, hk, e⟩ := List.mem_iff_getElem.1 q
      exact hne (k + 3) x (by omega) (by rw [blk3]; rw [List.getElem?_eq_getElem hk, e]; exact hx)
    · have := List.mem_singleton.1 q
      subst this
      refine own_frm hf hF (fun x hx => ?_)
      rintro (e | e)
      · exact (hfar x hx).1 e
      · exact (hfar x hx).2 2 e
  · intro e
    rcases eb k with ⟨a1, a2⟩ | ⟨a1, a2, a3⟩ | ⟨a1, a2⟩
    · rw [a2] at e; exact hgB (by injection e)
    · rw [a3] at e; exact h.nB k e
    · rw [a2] at e; exact (hfar B e).1 rfl
  · rcases eb i with ⟨a1, a2⟩ | ⟨a1, a2, a3⟩ | ⟨a1, a2⟩
    · rw [a2] at e
      injection e with e
      subst e
      rcases hl with q | q
      · exact .inl ⟨2, q⟩
      · exact .inr (.inr q)
    · rw [a3] at e; exact .inl ⟨i, e⟩
    · rw [a2] at e; exact .inr (.inl e)
end
end Go.Proofs.YtnhdmnhfllecgaaGreatDoor
/- Locales: what was read has the text from which it was, plainly. -/
namespace Go.Proofs.YtnhdmnhfllecgaaGreatDoor
set_option linter.unusedVariables false
set_option linter.unusedSimpArgs false
open Go.RowKit

theorem dg1_of {c : UInt8} (h : isDg c = true) (v : Nat) : dg1 (10 * v + (c.toNat - 48)) = c := by
  have := isDg_iff.1 h
  apply UInt8.toNat_inj.1
  rw [dg1_toNat]; omega
theorem padN_of (l : List UInt8) : (∀ c ∈ l, isDg c = true) → padN l.length (val l) = l := by
  refine snoc_ind (P := fun l => (∀ c ∈ l, isDg c = true) → padN l.length (val l) = l) (fun _ => rfl) ?_ l
  intro l c ih h
  have hc := h c (by simp)
  have := isDg_iff.1 hc
  rw [List.length_append, List.length_singleton, padN, val_snoc, dg1_of hc, show (10 * val l + (c.toNat - 48)) / 10 = val l by omega, ih (fun x hx => h x (by simp [hx]))]
/-- A number without a zero ahead is written as it was. -/
theorem itx_of {s : List UInt8} (hd : ∀ c ∈ s, isDg c = true) (h1 : 1 ≤ s.length) (hz : ¬ (s.head? = some 48 ∧ 1 < s.length)) : itx (val s) 1 = s := by
  have hv := val_lt s hd
  have hn := nDigits_le h1 hv
  have hp := padN_of s hd
  have hpos := Lib.nDigits_pos (val s)
  have e : max (Lib.nDigits (val s)) 1 = s.length := by
    by_cases h2 : s.length = 1
    · omega
    · obtain ⟨k, hk⟩ : ∃ k, s.length = k + 1 := ⟨s.length - 1, by omega⟩
      rcases Nat.lt_or_ge k (Lib.nDigits (val s)) with q | q
      · omega
      · exfalso
        apply hz
        refine ⟨?_, by omega⟩
        rw [hk, padN_cons] at hp
        have h0 : val s / 10 ^ k = 0 := Nat.div_eq_of_lt (Nat.lt_of_lt_of_le (Lib.lt_pow_nDigits (val s)) (Nat.pow_le_pow_right (by decide) q))
        rw [h0] at hp
        rw [← hp]; rfl
  unfold itx
  rw [e, hp]
theorem join_spl (c : UInt8) : ∀ s : List UInt8, Lib.join (spl c s) [c] = s
  | [] => by rw [spl, Lib.join_one]
  | d :: r => by
    have ih := join_spl c r
    by_cases h : d = c
    · subst h
      rw [spl_hit, Lib.join_cons]
      obtain ⟨x, t, e⟩ := List.exists_cons_of_ne_nil (spl_ne d r)
      rw [e, Lib.join_cons] at ih
      rw [e]
      show [] ++ (([d] ++ x) ++ Lib.joinTail [d] t) = _
      rw [← ih]; simp
    · obtain ⟨x, t, e1, e2⟩ := spl_cons c d r h
      rw [e2, Lib.join_cons, List.cons_append, ← Lib.join_cons, ← e1, ih]
theorem lines_spl (c : UInt8) : ∀ s : List UInt8, ((spl c s).dropLast.map (· ++ [c])).flatten ++ (spl c s).getLastD [] = s
  | [] => rfl
  | d :: r => by
    have ih := lines_spl c r
    obtain ⟨x, t, e⟩ := List.exists_cons_of_ne_nil (spl_ne c r)
    by_cases h : d = c
    · subst h
      rw [spl_hit, e]
      rw [e] at ih
      simp only [List.dropLast_cons_cons, List.map_cons, List.flatten_cons, List.getLastD_cons] at ih ⊢
      rw [List.nil_append, List.append_assoc]
      exact congrArg (d :: ·) ih
    · obtain ⟨x', t', e1, e2⟩ := spl_cons c d r h
      rw [e1] at e
      injection e with ea eb
      subst ea eb
      rw [e1] at ih
      rw [e2]
      cases t' with
      | nil => simpa using ih
      | cons y t2 =>
        simp only [List.dropLast_cons_cons, List.map_cons, List.flatten_cons, List.getLastD_cons, List.cons_append] at ih ⊢
        rw [ih]
/-- The text of what is read at a stage. -/
def preL (st : Nat) (D : LocD) : List UInt8 :=
  (if 1 ≤ st then wLocale ++ (32 :: (D.nm ++ [10])) else []) ++ ((if 2 ≤ st then lnN wMonths D.N.mo else []) ++ ((if 3 ≤ st then lnN wShort D.N.sh else []) ++
  ((if 4 ≤ st then lnN wDays D.N.da else []) ++ ((if 5 ≤ st then lnN wShortdays D.N.sd else []) ++ ((if 6 ≤ st then lnN wHalves D.N.ha else []) ++
  (lnsC wPlural D.P ++ (lnsC wOrdinal D.O ++ (lnsU (D.U.map UniD.uni) ++ (if 10 ≤ st then wPattern ++ (32 :: (D.pt ++ [10])) else [])))))))))
structure InvL (st : Nat) (D : LocD) : Prop where
  P : st < 6 → D.P = []
  O : st < 7 → D.O = []
  U : st < 8 → D.U = []
theorem InvL.up {st : Nat} {D : LocD} (h : InvL st D) : InvL (st + 1) D := ⟨fun q => h.P (by omega), fun q => h.O (by omega), fun q => h.U (by omega)⟩
theorem pre_10 (D : LocD) : preL 10 D = txL D.loc := by
  unfold preL txL LocD.loc
  simp
theorem pre_mid (D : LocD) (st : Nat) (h1 : 6 ≤ st) (h2 : st ≤ 8) : preL st D = preL (st + 1) D := by
  obtain rfl | rfl | rfl : st = 6 ∨ st = 7 ∨ st = 8 := by omega
  all_goals rfl
theorem lnsC_snoc (w : List UInt8) (l : List Plu) (p : Plu) : lnsC w (l ++ [p]) = lnsC w l ++ lnC w p := by unfold lnsC; simp
theorem lnsU_snoc (l : List Uni) (p : Uni) : lnsU (l ++ [p]) = lnsU l ++ lnU p := by unfold lnsU; simp
theorem lnC_cut (w t : List UInt8) (h : ¬ ((cut1 t).1 = [] ∨ ((cut1 t).2.2 = true ∧ (cut1 t).2.1 = []))) : lnC w ⟨(cut1 t).1, (cut1 t).2.1⟩ = w ++ (32 :: (t ++ [10])) := by
  unfold lnC
  simp only
  rcases split_first 32 t with q | ⟨a, r, e, q⟩
  · rw [cut1_no t q]; simp
  · subst e
    rw [cut1_at a r q] at h ⊢
    simp only [true_and, not_or] at h
    rw [if_neg h.2]; simp
theorem zip_r (P : List Plu) : ∀ (l : List (List UInt8)), l.length = P.length → ((P.zip l).map (fun q : Plu × List UInt8 => (⟨q.1.c, q.2⟩ : Plu))).map (·.r) = l := by
  induction P with
  | nil => intro l h; cases l with
    | nil => rfl
    | cons x t => simp at h
  | cons p P ih => intro l h; cases l with
    | nil => simp at h
    | cons x t =>
      simp only [List.zip_cons_cons, List.map_cons]
      rw [ih t (by simpa using h)]
def nxtL (st : Nat) : Nat := if st < 6 ∨ st = 9 then st + 1 else st
theorem add_pre (st : Nat) (D D' : LocD) (t : List UInt8) (hs : st ≤ 9) (hi : InvL st D) (ha : addL st D t = some D') : preL (nxtL st) D' = preL st D ++ (wrd st ++ (32 :: (t ++ [10]))) ∧ InvL (nxtL st) D' := by
  obtain ⟨hP, hO, hU⟩ := hi
  have hj := join_spl 44 t
  obtain rfl | ⟨h1, h2⟩ | rfl | rfl | rfl | rfl : st = 0 ∨ (1 ≤ st ∧ st ≤ 5) ∨ st = 6 ∨ st = 7 ∨ st = 8 ∨ st = 9 := by omega
  · rw [addL, if_pos rfl] at ha
    injection ha with ha
    subst ha
    refine ⟨?_, ⟨fun _ => hP (by decide), fun _ => hO (by decide), fun _ => hU (by decide)⟩⟩
    simp [preL, nxtL, wrd, hP, hO, hU, lnsC, lnsU]
  · have hP := hP (by omega)
    have hO := hO (by omega)
    have hU := hU (by omega)
    rw [addL, if_neg (by omega), if_pos h2] at ha
    split at ha
    · injection ha with ha
      subst ha
      refine ⟨?_, ⟨fun _ => hP, fun _ => hO, fun _ => hU⟩⟩
      obtain rfl | rfl | rfl | rfl | rfl : st = 1 ∨ st = 2 ∨ st = 3 ∨ st = 4 ∨ st = 5 := by omega
      all_goals simp [preL, nxtL, wrd, hP, hO, hU, lnsC, lnsU, setN, lnN, hj]
    · cases ha
  · have hO := hO (by omega)
    have hU := hU (by omega)
    rw [addL, if_neg (by omega), if_neg (by omega), if_pos (by omega)] at ha
    split at ha
    · cases ha
    · rename_i hq
      injection ha with ha
      rw [if_pos rfl] at ha
      subst ha
      refine ⟨?_, ⟨fun q => by simp [nxtL] at q, fun _ => hO, fun _ => hU⟩⟩
      have e := lnC_cut wPlural t hq
      simp [preL, nxtL, wrd, hO, hU, lnsU, lnsC_snoc, e]
      simp [lnsC]
  · have hU := hU (by omega)
    rw [addL, if_neg (by omega), if_neg (by omega), if_pos (by omega)] at ha
    split at ha
    · cases ha
    · rename_i hq
      injection ha with ha
      rw [if_neg (by omega)] at ha
      subst ha
      refine ⟨?_, ⟨fun q => by simp [nxtL] at q, fun q => by simp [nxtL] at q, fun _ => hU⟩⟩
      have e := lnC_cut wOrdinal t hq
      simp [preL, nxtL, wrd, hU, lnsU, lnsC_snoc, e]
  · rw [addL, if_neg (by omega), if_neg (by omega), if_neg (by omega), if_pos rfl] at ha
    split at ha
    · cases ha
    · rename_i hq
      simp only [not_or, Bool.not_eq_false, ne_eq, Decidable.not_not] at hq
      obtain ⟨q1, q2, q3, q4⟩ := hq
      injection ha with ha
      subst ha
      refine ⟨?_, ⟨fun q => by simp [nxtL] at q, fun q => by simp [nxtL] at q, fun q => by simp [nxtL] at q⟩⟩
      obtain ⟨e1, -⟩ := cut1_t q1
      have hz : itx (val (cut1 t).1) 1 = (cut1 t).1 := by
        unfold numM at q2
        simp only [Bool.and_eq_true, decide_eq_true_eq, Bool.not_eq_true', Bool.and_eq_false_iff, beq_eq_false_iff_ne, decide_eq_false_iff_not] at q2
        obtain ⟨⟨⟨a1, a2⟩, a3⟩, a4⟩ := q2
        refine itx_of (fun c hc => List.all_eq_true.1 a4 c hc) a1 ?_
        rintro ⟨b1, b2⟩
        rcases a3 with a3 | a3
        · exact a3 b1
        · exact a3 b2
      have e : lnU (UniD.uni ⟨val (cut1 t).1, (D.P.zip (spl 44 (cut1 t).2.1)).map fun q => ⟨q.1.c, q.2⟩⟩) = wUnit ++ (32 :: (t ++ [10])) := by
        unfold lnU UniD.uni
        simp only
        rw [zip_r D.P _ q4, join_spl, Int.natAbs_natCast, hz]
        conv => rhs; rw [e1]
        simp
      simp [preL, nxtL, wrd, lnsU_snoc, e]
  · rw [addL, if_neg (by omega), if_neg (by omega), if_neg (by omega), if_neg (by omega)] at ha
    injection ha with ha
    subst ha
    refine ⟨?_, ⟨fun q => by simp [nxtL] at q, fun q => by simp [nxtL] at q, fun q => by simp [nxtL] at q⟩⟩
    simp [preL, nxtL, wrd]
theorem cut_line {l w : List UInt8} (h1 : ¬ ((cut1 l).2.2 = false ∨ (cut1 l).1 ≠ w)) : l = w ++ 32 :: (cut1 l).2.1 := by
  rw [not_or, ne_eq, Decidable.not_not] at h1
  obtain ⟨h1, h2⟩ := h1
  have h3 : (cut1 l).2.2 = true := by simpa using h1
  obtain ⟨e, -⟩ := cut1_t h3
  rw [h2] at e
  exact e
theorem run_ok : ∀ (ls : List (List UInt8)) (st cnt at_ : Nat) (D D' : LocD), st ≤ 10 → InvL st D → runL false st cnt at_ D ls = .ok D' → preL st D ++ (ls.map (· ++ [10])).flatten = txL D'.loc ∧ validLB D'.loc = true
  | [], st, cnt, at_, D, D', hs, hi, h => by
    rw [runL] at h
    split at h
    · rename_i h10
      simp only [Bool.false_eq_true, if_false] at h
      unfold finL at h
      split at h
      · rename_i hv
        injection h with h
        subst h
        obtain rfl : st = 10 := by omega
        rw [pre_10]
        exact ⟨by simp, hv⟩
      · cases h
    · cases h
  | l :: ls, st, cnt, at_, D, D', hs, hi, h => by
    rw [runL] at h
    split at h
    · cases h
    · rename_i h10
      have hst : stgL st cnt l = st ∨ (6 ≤ st ∧ st ≤ 8 ∧ stgL st cnt l = st + 1) := by
        unfold stgL
        split
        · rename_i q; exact .inr ⟨q.1, q.2.1, rfl⟩
        · exact .inl rfl
      have hst2 : stgL st cnt l ≤ 9 ∧ InvL (stgL st cnt l) D ∧ preL (stgL st cnt l) D = preL st D := by
        rcases hst with q | ⟨a, b, q⟩
        · rw [q]; exact ⟨by omega, hi, rfl⟩
        · rw [q]; exact ⟨by omega, hi.up, (pre_mid D st a b).symm⟩
      generalize stgL st cnt l = s2 at h hst2
      obtain ⟨b1, b2, b3⟩ := hst2
      split at h
      · cases h
      · rename_i hw
        have el := cut_line hw
        split at h
        · cases h
        · rename_i D2 ha
          obtain ⟨c1, c2⟩ := add_pre s2 D D2 _ b1 b2 ha
          have key : ∀ c, runL false (nxtL s2) c (at_ + 1) D2 ls = .ok D' → preL st D ++ ((l :: ls).map (· ++ [10])).flatten = txL D'.loc ∧ validLB D'.loc = true := by
            intro c hr
            have hn : nxtL s2 ≤ 10 := by unfold nxtL; split <;> omega
            obtain ⟨r1, r2⟩ := run_ok ls (nxtL s2) c (at_ + 1) D2 D' hn c2 hr
            refine ⟨?_, r2⟩
            rw [← r1, c1, b3]
            conv => lhs; rw [el]
            simp
          split at h
          · rename_i q
            refine key 0 ?_
            unfold nxtL
            rw [if_pos q]; exact h
          · rename_i q
            refine key (cntL st cnt l + 1) ?_
            unfold nxtL
            rw [if_neg q]; exact h
theorem run_tl : ∀ (ls : List (List UInt8)) (st cnt at_ : Nat) (D D' : LocD), runL true st cnt at_ D ls = .ok D' → False
  | [], st, cnt, at_, D, D', h => by
    rw [runL] at h
    split at h
    · simp at h
    · cases h
  | l :: ls, st, cnt, at_, D, D', h => by
    rw [runL] at h
    split at h
    · cases h
    · split at h
      · cases h
      · split at h
        · cases h
        · split at h
          · exact run_tl ls _ _ _ _ _ h
          · exact run_tl ls _ _ _ _ _ h
/-- What was read has the text from which it was. -/
theorem par_back {s : List UInt8} {D : LocD} (h : parL s = .ok D) : txL D.loc = s ∧ validLB D.loc = true := by
  unfold parL at h
  by_cases hl : (spl 10 s).getLastD [] = []
  · have hb : (!((spl 10 s).getLastD [] == [])) = false := by rw [hl]; rfl
    rw [hb] at h
    obtain ⟨r1, r2⟩ := run_ok _ 0 0 0 _ _ (by decide) ⟨fun _ => rfl, fun _ => rfl, fun _ => rfl⟩ h
    refine ⟨?_, r2⟩
    rw [← r1]
    have := lines_spl 10 s
    rw [hl, List.append_nil] at this
    rw [this]
    simp [preL, LocD.zero, lnsC, lnsU]
  · have hb : (!((spl 10 s).getLastD [] == [])) = true := by
      have : ((spl 10 s).getLastD [] == []) = false := by simpa using hl
      rw [this]; rfl
    rw [hb] at h
    exact (run_tl _ _ _ _ _ _ h).elim
end Go.Proofs.YtnhdmnhfllecgaaGreatDoor
