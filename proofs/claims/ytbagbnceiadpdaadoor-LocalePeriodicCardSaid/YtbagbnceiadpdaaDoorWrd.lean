/- The walks of the reader of words. -/
import Derived.Test.YtbagbnceiadpdaaDoorRul
import Derived.Test.YtbagbnceiadpdaaDoorFra
import Derived.Test.YtbagbnceiadpdaaDoorAto
namespace Go.Proofs.YtbagbnceiadpdaaDoor
set_option linter.unusedVariables false
set_option linter.unusedSimpArgs false
open Go.RowKit

/-- The reader in block B: the words still to come, its number, whether all was well so far. -/
structure WS (B : Nat) (ws : List (List UInt8)) (n : Int) (b : Bool) (w : World) : Prop where
  cells : ∃ R off : Nat, w.cell? ⟨B, 0, none⟩ = some (.slice (some ⟨R, off, none⟩) ws.length ws.length) ∧ R < w.heap.size ∧ R ≠ B ∧ ∀ i (h : i < ws.length), w.cell? ⟨R, off + i, none⟩ = some (.string ⟨ws[i].toArray⟩)
  num : w.cell? ⟨B, 1, none⟩ = some (.int .i64 n)
  fail : w.cell? ⟨B, 2, none⟩ = some (.bool (!b))
  free : ∀ o, w.frozen? ⟨B, o, none⟩ = false
  lt : B < w.heap.size
  short : ∀ x ∈ ws, x.length ≤ 4000
  few : ws.length ≤ 1000000
theorem WS.frm {B : Nat} {ws : List (List UInt8)} {n : Int} {b : Bool} {w w' : World} (h : WS B ws n b w) (hE : Ext w w') : WS B ws n b w' := by
  obtain ⟨⟨R, off, c0, hR, hRB, hc⟩, c1, c2, hf, hB, hs, hw⟩ := h
  refine ⟨⟨R, off, (hE.cells _ _ hB).trans c0, hE.lt hR, hRB, fun i hi => (hE.cells _ _ hR).trans (hc i hi)⟩, (hE.cells _ _ hB).trans c1, (hE.cells _ _ hB).trans c2, fun o => (hE.frozens _ _ hB).trans (hf o), hE.lt hB, hs, hw⟩
/-- The words' cell is written. -/
theorem WS.adv {B : Nat} {x : List UInt8} {r : List (List UInt8)} {n : Int} {b : Bool} {w : World} (h : WS B (x :: r) n b w) {R off : Nat} (c0 : w.cell? ⟨B, 0, none⟩ = some (.slice (some ⟨R, off, none⟩) (r.length + 1) (r.length + 1))) {off' : Nat} (ho : off' = off + 1 ∨ r = []) :
    WS B r n b (w.setCell ⟨B, 0, none⟩ (.slice (some ⟨R, off', none⟩) r.length r.length)) := by
  obtain ⟨⟨R', o2, c0', hR, hRB, hc⟩, c1, c2, hf, hB, hs, hw⟩ := h
  rw [c0'] at c0
  injection c0 with c0
  injection c0 with c0
  injection c0 with c0
  injection c0 with e1 e2
  subst e1 e2
  refine ⟨⟨R', off', World.cell?_setCell_same _ _ _ c0', by simpa using hR, hRB, fun i hi => ?_⟩, (World.cell?_setCell_other _ _ _ _ (by simp)).trans c1, (World.cell?_setCell_other _ _ _ _ (by simp)).trans c2, fun o => by rw [World.frozen?_setCell]; exact hf o, by simpa using hB, fun y hy => hs y (by simp [hy]), by simp at hw; omega⟩
  rcases ho with rfl | rfl
  · rw [World.cell?_setCell_other _ _ _ _ (by simp <;> omega)]
    have := hc (i + 1) (Nat.succ_lt_succ hi)
    rw [Nat.add_right_comm, Nat.add_assoc]
    exact this
  · simp at hi
/-- A fault is noted. -/
theorem WS.bad {B : Nat} {ws : List (List UInt8)} {n : Int} {b : Bool} {w : World} (h : WS B ws n b w) : WS B ws n false (w.setCell ⟨B, 2, none⟩ (.bool true)) := by
  obtain ⟨⟨R, off, c0, hR, hRB, hc⟩, c1, c2, hf, hB, hs, hw⟩ := h
  refine ⟨⟨R, off, (World.cell?_setCell_other _ _ _ _ (by simp)).trans c0, by simpa using hR, hRB, fun i hi => (World.cell?_setCell_other _ _ _ _ (by simp <;> omega)).trans (hc i hi)⟩, (World.cell?_setCell_other _ _ _ _ (by simp)).trans c1, World.cell?_setCell_same _ _ _ c2, fun o => by rw [World.frozen?_setCell]; exact hf o, by simpa using hB, hs, hw⟩
def isB (s : List UInt8) (ws : List (List UInt8)) : Bool := decide (ws.head? = some s)
def isR (s : List UInt8) (ws : List (List UInt8)) : List (List UInt8) := if ws.head? = some s then ws.tail else ws
def At (B : Nat) (k : Nat) : Prop := k = B
theorem frm_at (w : World) (B o : Nat) (u : Value) : Frm (At B) w (w.setCell ⟨B, o, none⟩ u) := (Frm.refl (At B) w).setCell (p := ⟨B, o, none⟩) (.inl rfl) u
set_option maxHeartbeats 1000000 in
theorem is_c (B : Nat) (ws : List (List UInt8)) (n : Int) (b : Bool) (s : List UInt8) (w : World) (h : WS B ws n b w) :
    Calls Tryd.prog 44 #[.pointer (some ⟨B, 0, none⟩), .string ⟨s.toArray⟩] w fun e w' => e = .returned (.bool (isB s ws)) ∧ WS B (isR s ws) n b w' ∧ Frm (At B) w w' := by
  have H := Lib.hid h
  obtain ⟨⟨R, off, c0, hR, hRB, hc⟩, c1, c2, hf, hB, hs, hw⟩ := h
  have f0 := hf 0
  clear hf hs
  cases ws with
  | nil =>
    clear hc
    have c0 : w.cell? ⟨B, 0, none⟩ = some (.slice (some ⟨R, off, none⟩) 0 0) := c0
    go_enter Tryd.func44, Tryd.ntmps44
    go_wp2
    go_ret
    exact ⟨rfl, H.out, Frm.refl _ _⟩
  | cons x r =>
    have hx := hc 0 (by simp)
    rw [Nat.add_zero, List.getElem_cons_zero] at hx
    have c0 : w.cell? ⟨B, 0, none⟩ = some (.slice (some ⟨R, off, none⟩) (r.length + 1) (r.length + 1)) := c0
    have HA := Lib.hid c0
    have hlen : r.length + 1 ≤ 1000000 := by simpa using hw
    clear hc hw
    by_cases hxs : x = s
    · have t1 : (x == s) = true := by simpa using hxs
      have t2 : (x != s) = false := by simpa using hxs
      have HB : Hid (isB s (x :: r) = true) := by unfold Hid isB; simp [hxs]
      have HR : Hid (isR s (x :: r) = r) := by unfold Hid isR; simp [hxs]
      clear hxs
      by_cases hr : r = []
      · subst hr
        go_enter Tryd.func44, Tryd.ntmps44
        go_wp2
        go_ret
        exact ⟨ret_b HB.out.symm, by rw [HR.out]; exact H.out.adv HA.out (.inr rfl), frm_at _ _ _ _⟩
      · go_enter Tryd.func44, Tryd.ntmps44
        go_wp2
        go_ret
        exact ⟨ret_b HB.out.symm, by rw [HR.out]; exact H.out.adv HA.out (.inl rfl), frm_at _ _ _ _⟩
    · have t1 : (x == s) = false := by simpa using hxs
      have t2 : (x != s) = true := by simpa using hxs
      have HB : Hid (isB s (x :: r) = false) := by unfold Hid isB; simp [hxs]
      have HR : Hid (isR s (x :: r) = x :: r) := by unfold Hid isR; simp [hxs]
      clear hxs
      go_enter Tryd.func44, Tryd.ntmps44
      go_wp2
      go_ret
      exact ⟨ret_b HB.out.symm, by rw [HR.out]; exact H.out, Frm.refl _ _⟩
set_option maxHeartbeats 1000000 in
theorem next_c (B : Nat) (ws : List (List UInt8)) (n : Int) (b : Bool) (w : World) (h : WS B ws n b w) :
    Calls Tryd.prog 64 #[.pointer (some ⟨B, 0, none⟩)] w fun e w' => e = .returned (.string ⟨(hd1 ws).toArray⟩) ∧ WS B (tl1 ws) n b w' ∧ Frm (At B) w w' := by
  have H := Lib.hid h
  obtain ⟨⟨R, off, c0, hR, hRB, hc⟩, c1, c2, hf, hB, hs, hw⟩ := h
  have f0 := hf 0
  clear hf hs
  cases ws with
  | nil =>
    clear hc
    have c0 : w.cell? ⟨B, 0, none⟩ = some (.slice (some ⟨R, off, none⟩) 0 0) := c0
    go_enter Tryd.func64, Tryd.ntmps64
    go_wp2
    go_ret
    exact ⟨rfl, H.out, Frm.refl _ _⟩
  | cons x r =>
    have hx := hc 0 (by simp)
    rw [Nat.add_zero, List.getElem_cons_zero] at hx
    have c0 : w.cell? ⟨B, 0, none⟩ = some (.slice (some ⟨R, off, none⟩) (r.length + 1) (r.length + 1)) := c0
    have HA := Lib.hid c0
    have hlen : r.length + 1 ≤ 1000000 := by simpa using hw
    clear hc hw
    by_cases hr : r = []
    · subst hr
      go_enter Tryd.func64, Tryd.ntmps64
      go_wp2
      go_ret
      exact ⟨rfl, H.out.adv HA.out (.inr rfl), frm_at _ _ _ _⟩
    · go_enter Tryd.func64, Tryd.ntmps64
      go_wp2
      go_ret
      exact ⟨rfl, H.out.adv HA.out (.inl rfl), frm_at _ _ _ _⟩
def digs : List UInt8 := [48, 49, 50, 51, 52, 53, 54, 55, 56, 57]
theorem digs_dg (c : UInt8) : digs.contains c = isDg c := by
  rw [Bool.eq_iff_iff, isDg_iff]
  unfold digs
  simp only [List.contains_iff_mem, List.mem_cons, List.not_mem_nil, or_false, ← UInt8.toNat_inj]
  show (c.toNat = 48 ∨ c.toNat = 49 ∨ c.toNat = 50 ∨ c.toNat = 51 ∨ c.toNat = 52 ∨ c.toNat = 53 ∨ c.toNat = 54 ∨ c.toNat = 55 ∨ c.toNat = 56 ∨ c.toNat = 57) ↔ _
  omega
theorem dropWhile_nil_all {p : UInt8 → Bool} : ∀ l : List UInt8, l.dropWhile p = [] ↔ l.all p = true
  | [] => by simp
  | c :: r => by
    by_cases h : p c = true
    · simp [List.dropWhile_cons, h, dropWhile_nil_all r]
    · simp [List.dropWhile_cons, h]
theorem trim_digs (l : List UInt8) : (Lib.trimS l digs).isEmpty = l.all isDg := by
  have hp : (fun c => digs.contains c) = isDg := by funext c; exact digs_dg c
  unfold Lib.trimS Lib.trimLeftS Lib.trimRightS
  rw [hp, Bool.eq_iff_iff, List.isEmpty_iff, dropWhile_nil_all]
  constructor
  · intro h
    cases hd : l.reverse.dropWhile isDg with
    | nil =>
      have := (dropWhile_nil_all l.reverse).1 hd
      simpa using this
    | cons c r =>
      have h1 : isDg c = false := by
        have := List.head?_dropWhile_not isDg l.reverse
        rw [hd] at this
        simpa using this
      rw [hd] at h
      simp [h1] at h
  · intro h
    have : l.reverse.dropWhile isDg = [] := (dropWhile_nil_all _).2 (by simpa using h)
    rw [this]; rfl
theorem trim_c (s : List UInt8) (w : World) (hs : s.length ≤ 4000) :
    Calls Tryd.prog 73 #[.string ⟨s.toArray⟩, .string ⟨#[48, 49, 50, 51, 52, 53, 54, 55, 56, 57]⟩] w fun e w' => e = .returned (.string ⟨(Lib.trimS s digs).toArray⟩) ∧ Ext w w' :=
  Go.Proofs.Any.strings_Trim_laid Tryd.lays160 (by kernel_rfl) ⟨s.toArray⟩ ⟨#[48, 49, 50, 51, 52, 53, 54, 55, 56, 57]⟩ w (by show s.toArray.size ≤ _; simp; omega) (by decide) (ascii_of_all (by decide))
end Go.Proofs.YtbagbnceiadpdaaDoor
