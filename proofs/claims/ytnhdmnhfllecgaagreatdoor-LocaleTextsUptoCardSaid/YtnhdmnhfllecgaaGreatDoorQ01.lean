/- Names, plainly: valid lists of names, as the program and as the reference ask. No program in sight. -/
import Derived.Test.YtnhdmnhfllecgaaGreatDoorQ00
import Derived.Lib.TrimByte
import Derived.Test.YtnhdmnhfllecgaaGreatDoorShelf
import Derived.Lib.AtoiErrMem
import Derived.Shelf.Strings.SlTrimAscii
namespace Go.Proofs.YtnhdmnhfllecgaaGreatDoor
set_option linter.unusedVariables false
set_option linter.unusedSimpArgs false

def nmC (c : UInt8) : Bool := isLt c || decide (c = 32) || decide (c = 46) || decide (c = 45)
/-- A name, of at most M bytes. -/
def nameB (M : Nat) (s : List UInt8) : Bool := decide (1 ≤ s.length) && decide (s.length ≤ M) && isLt (s.headD 0) && s.all nmC
/-- Neither begins with the other. -/
def apt (a b : List UInt8) : Prop := a.isPrefixOf b = false ∧ b.isPrefixOf a = false
def preB (d : List (List UInt8)) (s : List UInt8) : Bool := d.any fun t => t.isPrefixOf s || s.isPrefixOf t
/-- As the program goes through a list. -/
def nmsL (M : Nat) : List (List UInt8) → List (List UInt8) → Bool
  | _, [] => true
  | d, s :: r => nameB M s && !preB d s && nmsL M (d ++ [s]) r
theorem preB_iff (d : List (List UInt8)) (s : List UInt8) : preB d s = false ↔ ∀ t ∈ d, apt t s := by
  unfold preB
  rw [List.any_eq_false]
  constructor
  · intro h t ht
    have := h t ht
    simp only [Bool.or_eq_true, not_or, Bool.not_eq_true] at this
    exact this
  · intro h t ht
    obtain ⟨a, b⟩ := h t ht
    simp [a, b]
theorem nmsL_iff (M : Nat) : ∀ (r d : List (List UInt8)), nmsL M d r = true ↔ (∀ s ∈ r, nameB M s = true) ∧ r.Pairwise apt ∧ ∀ a ∈ d, ∀ b ∈ r, apt a b
  | [], d => by simp [nmsL]
  | s :: r, d => by
    rw [nmsL, Bool.and_eq_true, Bool.and_eq_true, Bool.not_eq_true', preB_iff, nmsL_iff M r]
    constructor
    · rintro ⟨⟨h1, h2⟩, h3, h4, h5⟩
      refine ⟨fun x hx => ?_, List.pairwise_cons.2 ⟨fun b hb => h5 s (by simp) b hb, h4⟩, fun a ha b hb => ?_⟩
      · rcases List.mem_cons.1 hx with rfl | hx
        · exact h1
        · exact h3 x hx
      · rcases List.mem_cons.1 hb with rfl | hb
        · exact h2 a ha
        · exact h5 a (by simp [ha]) b hb
    · rintro ⟨h1, h2, h3⟩
      obtain ⟨h4, h5⟩ := List.pairwise_cons.1 h2
      refine ⟨⟨h1 s (by simp), fun t ht => h3 t ht s (by simp)⟩, fun x hx => h1 x (by simp [hx]), h5, fun a ha b hb => ?_⟩
      rcases List.mem_append.1 ha with ha | ha
      · exact h3 a ha b (by simp [hb])
      · rw [List.mem_singleton.1 ha]; exact h4 b hb
/-- A valid list of names. -/
def nmsB (M : Nat) (l : List (List UInt8)) : Bool := nmsL M [] l
/-- What the reference asks of the name at place i. -/
def nmAt (M : Nat) (l : List (List UInt8)) (i : Nat) : Bool := nameB M (l.getD i []) && (List.range l.length).all fun k => decide (k = i) || !(l.getD i []).isPrefixOf (l.getD k [])
theorem nmsB_ref (M : Nat) (l : List (List UInt8)) : nmsB M l = (List.range l.length).all (nmAt M l) := by
  rw [Bool.eq_iff_iff]
  unfold nmsB
  rw [nmsL_iff, List.all_eq_true, List.pairwise_iff_getElem]
  have hg : ∀ i (h : i < l.length), l.getD i [] = l[i] := fun i h => by simp [List.getD, h]
  constructor
  · rintro ⟨h1, h2, _⟩ i hi
    have hi' : i < l.length := by simpa using hi
    unfold nmAt
    rw [Bool.and_eq_true, List.all_eq_true]
    refine ⟨by rw [hg i hi']; exact h1 _ (List.getElem_mem _), fun k hk => ?_⟩
    have hk' : k < l.length := by simpa using hk
    rw [hg i hi', hg k hk', Bool.or_eq_true, decide_eq_true_eq, Bool.not_eq_true']
    rcases Nat.lt_trichotomy i k with q | q | q
    · exact .inr (h2 i k hi' hk' q).1
    · exact .inl q.symm
    · exact .inr (h2 k i hk' hi' q).2
  · intro h
    have h' : ∀ i (hi : i < l.length), nameB M l[i] = true ∧ ∀ k (hk : k < l.length), k = i ∨ l[i].isPrefixOf l[k] = false := by
      intro i hi
      have := h i (by simpa using hi)
      unfold nmAt at this
      rw [Bool.and_eq_true, List.all_eq_true, hg i hi] at this
      refine ⟨this.1, fun k hk => ?_⟩
      have := this.2 k (by simpa using hk)
      rw [hg k hk, Bool.or_eq_true, decide_eq_true_eq, Bool.not_eq_true'] at this
      exact this
    refine ⟨fun s hs => ?_, fun i j hi hj hij => ⟨?_, ?_⟩, fun a ha => by simp at ha⟩
    · obtain ⟨i, hi, rfl⟩ := List.getElem_of_mem hs
      exact (h' i hi).1
    · rcases (h' i hi).2 j hj with q | q
      · omega
      · exact q
    · rcases (h' j hj).2 i hi with q | q
      · omega
      · exact q
end Go.Proofs.YtnhdmnhfllecgaaGreatDoor
/- Locales, plainly: texts, categories, units; what is valid. No program in sight. -/
namespace Go.Proofs.YtnhdmnhfllecgaaGreatDoor
set_option linter.unusedVariables false
set_option linter.unusedSimpArgs false

def smC (c : UInt8) : Bool := decide (97 ≤ c.toNat ∧ c.toNat ≤ 122)
def sfC (c : UInt8) : Bool := isLt c || decide (c.toNat = 46)
def frC (c : UInt8) : Bool := decide (32 ≤ c.toNat ∧ c.toNat ≤ 126 ∧ ¬ c.toNat = 44 ∧ (c.toNat < 48 ∨ 57 < c.toNat))
def onlyB (f : UInt8 → Bool) (m : Int) (s : List UInt8) : Bool := decide (1 ≤ s.length) && decide ((s.length : Int) ≤ m) && s.all f
def wordB (s : List UInt8) : Bool := onlyB smC 10 s
def suffB (s : List UInt8) : Bool := onlyB sfC 8 s
def trimOk (s : List UInt8) : Bool := !(s.head? == some 32) && !(s.getLast? == some 32)
def formB (s : List UInt8) : Bool := onlyB frC 30 s && trimOk s
def zmC (c : UInt8) : Bool := isLt c || isDg c || decide (c.toNat = 95 ∨ c.toNat = 47 ∨ c.toNat = 43 ∨ c.toNat = 45)
def zNameB (s : List UInt8) : Bool := decide (1 ≤ s.length) && decide (s.length ≤ 30) && isLt (s.headD 0) && s.all zmC
theorem all_take {α : Type} (f : α → Bool) (l : List α) (j : Nat) (hj : j < l.length) : (l.take (j + 1)).all f = ((l.take j).all f && f l[j]) := by
  rw [List.take_succ_eq_append_getElem hj, List.all_append]; simp
theorem all_no {α : Type} {f : α → Bool} {l : List α} (j : Nat) (hj : j < l.length) (h : f l[j] = false) : l.all f = false := by
  rw [List.all_eq_false]; exact ⟨l[j], List.getElem_mem _, by simp [h]⟩
/-- A text that strings.Trim leaves alone at the blank. -/
theorem trim_id (s : List UInt8) (hs : s ≠ []) : decide (Lib.trimB s 32 = s) = trimOk s := by
  have len : ∀ l : List UInt8, (l.dropWhile (· == 32)).length ≤ l.length := fun l => (List.dropWhile_sublist _).length_le
  unfold Lib.trimB Lib.trimLeftB Lib.trimRightB trimOk
  obtain ⟨r, x, rfl⟩ : ∃ r x, s = r ++ [x] := by
    rcases List.eq_nil_or_concat s with h | ⟨r, x, h⟩
    · exact absurd h hs
    · exact ⟨r, x, by simpa using h⟩
  rw [List.reverse_append, List.reverse_singleton, List.singleton_append, List.dropWhile_cons, List.getLast?_append]
  by_cases hx : x = 32
  · subst hx
    rw [if_pos (by decide)]
    have h : ¬ (List.dropWhile (· == 32) (List.dropWhile (· == 32) r.reverse).reverse = r ++ [32]) := by
      intro e
      have h1 := len (List.dropWhile (· == 32) r.reverse).reverse
      have h2 := len r.reverse
      rw [e, List.length_reverse, List.length_append] at h1
      rw [List.length_reverse] at h2
      simp at h1
      omega
    simp [h]
  · rw [if_neg (by simpa using hx), List.reverse_cons, List.reverse_reverse]
    have hx2 : ¬ (x == 32) = true := by simpa using hx
    cases hr : r ++ [x] with
    | nil => simp at hr
    | cons y t =>
      rw [List.dropWhile_cons]
      by_cases hy : y = 32
      · subst hy
        rw [if_pos (by decide)]
        have h : ¬ (List.dropWhile (· == 32) t = 32 :: t) := by
          intro e
          have h1 := len t
          rw [e] at h1
          simp at h1
          omega
        simp [h]
      · rw [if_neg (by simpa using hy)]
        simp [hx, hy]
end Go.Proofs.YtnhdmnhfllecgaaGreatDoor
/- Frames: what stays as it was outside some blocks. -/
namespace Go.Proofs.YtnhdmnhfllecgaaGreatDoor
open Go.RowKit

/-- Outside S, and apart from what is new, the world w' is as w. -/
structure Frm (S : Nat → Prop) (w w' : World) : Prop where
  os : w'.os = w.os
  tape : w'.tape = w.tape
  output : w'.output = w.output
  size : w.heap.size ≤ w'.heap.size
  block : ∀ k, k < w.heap.size → ¬ S k → w'.heap[k]? = w.heap[k]?
theorem Frm.refl (S : Nat → Prop) (w : World) : Frm S w w := ⟨rfl, rfl, rfl, Nat.le_refl _, fun _ _ _ => rfl⟩
theorem Frm.trans {S : Nat → Prop} {a b c : World} (h : Frm S a b) (k : Frm S b c) : Frm S a c :=
  ⟨k.os.trans h.os, k.tape.trans h.tape, k.output.trans h.output, Nat.le_trans h.size k.size, fun i hi hs => (k.block i (Nat.lt_of_lt_of_le hi h.size) hs).trans (h.block i hi hs)⟩
theorem Frm.mono {S T : Nat → Prop} {a b : World} (h : Frm S a b) (hs : ∀ k, k < a.heap.size → S k → T k) : Frm T a b :=
  ⟨h.os, h.tape, h.output, h.size, fun i hi ht => h.block i hi fun q => ht (hs i hi q)⟩
theorem Frm.of_ext {S : Nat → Prop} {a b : World} (h : Ext a b) : Frm S a b := ⟨h.os, h.tape, h.output, h.size, fun i hi _ => h.block i hi⟩
theorem Frm.ext {S : Nat → Prop} {a b : World} (h : Frm S a b) (hs : ∀ k, S k → a.heap.size ≤ k) : Ext a b :=
  ⟨h.os, h.tape, h.output, h.size, fun i hi => h.block i hi fun q => by have := hs i q; omega⟩
theorem Frm.drewN {S : Nat → Prop} {a b : World} (h : Frm S a b) (n : Nat) : Frm S a (b.drewN n) := ⟨h.os, h.tape, h.output, h.size, h.block⟩
theorem Frm.drew {S : Nat → Prop} {a b : World} (h : Frm S a b) : Frm S a b.drew := ⟨h.os, h.tape, h.output, h.size, h.block⟩
theorem Frm.alloc {S : Nat → Prop} {a b : World} (h : Frm S a b) (o : Obj) : Frm S a (b.alloc o) :=
  h.trans (Frm.of_ext ((Ext.refl b).alloc o))
theorem Frm.setCell {S : Nat → Prop} {a b : World} (h : Frm S a b) {p : Addr} (hp : S p.block ∨ a.heap.size ≤ p.block) (u : Value) : Frm S a (b.setCell p u) :=
  ⟨h.os, h.tape, h.output, by simpa [World.setCell] using h.size, fun i hi hs => (Below.heap_setCell b p u i (by rintro rfl; rcases hp with q | q; exact hs q; omega)).trans (h.block i hi hs)⟩
theorem Frm.grown {S : Nat → Prop} {a b c : World} {row : Option Nat} (h : Frm S a b) (hg : b.grownBy c row) (hr : ∀ k, row = some k → S k ∨ a.heap.size ≤ k) : Frm S a c :=
  ⟨hg.os.trans h.os, hg.tape.trans h.tape, hg.output.trans h.output, Nat.le_trans h.size hg.size, fun i hi hs => (hg.block i (Nat.lt_of_lt_of_le hi h.size) (fun e => by rcases hr i e.symm with q | q; exact hs q; omega)).trans (h.block i hi hs)⟩

theorem Frm.cel {S : Nat → Prop} {w w' : World} (h : Frm S w w') {b : Nat} (hb : b < w.heap.size) (hs : ¬ S b) (o : Nat) : w'.cell? ⟨b, o, none⟩ = w.cell? ⟨b, o, none⟩ := by
  unfold World.cell?
  rw [h.block b hb hs]
theorem Frm.frz {S : Nat → Prop} {w w' : World} (h : Frm S w w') {b : Nat} (hb : b < w.heap.size) (hs : ¬ S b) (o : Nat) : w'.frozen? ⟨b, o, none⟩ = w.frozen? ⟨b, o, none⟩ := by
  unfold World.frozen?
  rw [h.block b hb hs]
theorem Frm.lt {S : Nat → Prop} {w w' : World} (h : Frm S w w') {n : Nat} (hn : n < w.heap.size) : n < w'.heap.size := Nat.lt_of_lt_of_le hn h.size
theorem Frm.far {S : Nat → Prop} {a w w' : World} (hE : Ext a w) (h : Frm S w w') (hS : ∀ k, k < a.heap.size → ¬ S k) : Ext a w' :=
  ⟨h.os.trans hE.os, h.tape.trans hE.tape, h.output.trans hE.output, Nat.le_trans hE.size h.size, fun k hk => (h.block k (Nat.lt_of_lt_of_le hk hE.size) (hS k hk)).trans (hE.block k hk)⟩
end Go.Proofs.YtnhdmnhfllecgaaGreatDoor
/- strconv.Atoi at a few digits. -/
namespace Go.Proofs.YtnhdmnhfllecgaaGreatDoor
set_option linter.unusedVariables false
set_option linter.unusedSimpArgs false
open Go.RowKit

theorem ext_bytes (w : World) (e : TypeId) (s : ByteArray) : Ext w (Lib.bytesWorld w e s) := by
  exact Lib.bytesWorld_below w e s
theorem atoi_c (f : List UInt8) (w : World) (h1 : 1 ≤ f.length) (h2 : f.length ≤ 9) (hd : ∀ c ∈ f, isDg c = true) :
    Calls Tryz.prog 96 #[.string ⟨f.toArray⟩] w fun e w' => e = .returned (.tuple #[.int .i64 (val f : Nat), .nilIface]) ∧ Ext w w' := by
  refine (Tryz.strconv_Atoi_ok ⟨f.toArray⟩ (by show f.toArray.size ≤ _; simp; omega) _ (atoi_val f h1 h2 hd) w).mono ?_
  rintro e w' ⟨rfl, rfl | ⟨t, rfl⟩⟩
  · exact ⟨rfl, Ext.refl _⟩
  · exact ⟨rfl, ext_bytes _ _ _⟩
end Go.Proofs.YtnhdmnhfllecgaaGreatDoor
/- The walks of the reader of words. -/
namespace Go.Proofs.YtnhdmnhfllecgaaGreatDoor
set_option linter.unusedVariables false
set_option linter.unusedSimpArgs false
open Go.RowKit

/-- The reader in block B: the words still to come, its number, whether all was well so far. -/
structure WS (B : Nat) (ws : List (List UInt8)) (n : Int) (b : Bool) (w : World) : Prop where
  cells : ∃ R off : Nat, w.cell? ⟨B, 0, none⟩ = some (.slice (some ⟨R, off, none⟩) ws.length ws.length) ∧ R < w.heap.size ∧ R ≠ B ∧ ∀ i (h : i < ws.length), w.cell? ⟨R, off + i, none⟩ = some (.string ⟨ws[i].toArray⟩)
  num : w.cell? ⟨B, 1, none⟩ = some (.int .i64 n)
  fail : w.cell? ⟨B, 2, none⟩ = some (.bool (!b))
  free : ∀ o, w.frozen? ⟨B, o, none⟩ = false
  lt : B < w.heap.size
  short : ∀ x ∈ ws, x.length ≤ 7000
  few : ws.length ≤ 1000000
theorem WS.frm {B : Nat} {ws : List (List UInt8)} {n : Int} {b : Bool} {w w' : World} (h : WS B ws n b w) (hE : Ext w w') : WS B ws n b w' := by
  obtain ⟨⟨R, off, c0, hR, hRB, hc⟩, c1, c2, hf, hB, hs, hw⟩ := h
  refine ⟨⟨R, off, (hE.cells _ _ hB).trans c0, hE.lt hR, hRB, fun i hi => (hE.cells _ _ hR).trans (hc i hi)⟩, (hE.cells _ _ hB).trans c1, (hE.cells _ _ hB).trans c2, fun o => (hE.frozens _ _ hB).trans (hf o), hE.lt hB, hs, hw⟩
/-- The words' cell is written. -/
theorem WS.adv {B : Nat} {x : List UInt8} {r : List (List UInt8)} {n : Int} {b : Bool} {w : World} (h : WS B (x :: r) n b w) {R off : Nat} (c0 : w.cell? ⟨B, 0, none⟩ = some (.slice (some ⟨R, off, none⟩) (r.length + 1) (r.length + 1))) {off' : Nat} (ho : off' = off + 1 ∨ r = []) :
    WS B r n b (w.setCell ⟨B, 0, none⟩ (.slice (some ⟨R, off', none⟩) r.length r.length)) := by
  obtain ⟨⟨R', o2, c0', hR, hRB, hc⟩, c1, c2, hf, hB, hs, hw⟩ := h
  rw [c0'] at c0
  injection c0 with c0
  injection c0 with c0
  injection c0 with c0
  injection c0 with e1 e2
  subst e1 e2
  refine ⟨⟨R', off', World.cell?_setCell_same _ _ _ c0', by simpa using hR, hRB, fun i hi => ?_⟩, (World.cell?_setCell_other _ _ _ _ (by simp)).trans c1, (World.cell?_setCell_other _ _ _ _ (by simp)).trans c2, fun o => by rw [World.frozen?_setCell]; exact hf o, by simpa using hB, fun y hy => hs y (by simp [hy]), by simp at hw; omega⟩
  rcases ho with rfl | rfl
  · rw [World.cell?_setCell_other _ _ _ _ (by simp <;> omega)]
    have := hc (i + 1) (Nat.succ_lt_succ hi)
    rw [Nat.add_right_comm, Nat.add_assoc]
    exact this
  · simp at hi
/-- A fault is noted. -/
theorem WS.bad {B : Nat} {ws : List (List UInt8)} {n : Int} {b : Bool} {w : World} (h : WS B ws n b w) : WS B ws n false (w.setCell ⟨B, 2, none⟩ (.bool true)) := by
  obtain ⟨⟨R, off, c0, hR, hRB, hc⟩, c1, c2, hf, hB, hs, hw⟩ := h
  refine ⟨⟨R, off, (World.cell?_setCell_other _ _ _ _ (by simp)).trans c0, by simpa using hR, hRB, fun i hi => (World.cell?_setCell_other _ _ _ _ (by simp <;> omega)).trans (hc i hi)⟩, (World.cell?_setCell_other _ _ _ _ (by simp)).trans c1, World.cell?_setCell_same _ _ _ c2, fun o => by rw [World.frozen?_setCell]; exact hf o, by simpa using hB, hs, hw⟩
def isB (s : List UInt8) (ws : List (List UInt8)) : Bool := decide (ws.head? = some s)
def isR (s : List UInt8) (ws : List (List UInt8)) : List (List UInt8) := if ws.head? = some s then ws.tail else ws
def At (B : Nat) (k : Nat) : Prop := k = B
theorem frm_at (w : World) (B o : Nat) (u : Value) : Frm (At B) w (w.setCell ⟨B, o, none⟩ u) := (Frm.refl (At B) w).setCell (p := ⟨B, o, none⟩) (.inl rfl) u
set_option maxHeartbeats 1000000 in
theorem is_c (B : Nat) (ws : List (List UInt8)) (n : Int) (b : Bool) (s : List UInt8) (w : World) (h : WS B ws n b w) :
    Calls Tryz.prog 125 #[.pointer (some ⟨B, 0, none⟩), .string ⟨s.toArray⟩] w fun e w' => e = .returned (.bool (isB s ws)) ∧ WS B (isR s ws) n b w' ∧ Frm (At B) w w' := by
  have H := Lib.hid h
  obtain ⟨⟨R, off, c0, hR, hRB, hc⟩, c1, c2, hf, hB, hs, hw⟩ := h
  have f0 := hf 0
  clear hf hs
  cases ws with
  | nil =>
    clear hc
    have c0 : w.cell? ⟨B, 0, none⟩ = some (.slice (some ⟨R, off, none⟩) 0 0) := c0
    go_enter Tryz.func125, Tryz.ntmps125
    go_wp2
    go_ret
    exact ⟨rfl, H.out, Frm.refl _ _⟩
  | cons x r =>
    have hx := hc 0 (by simp)
    rw [Nat.add_zero, List.getElem_cons_zero] at hx
    have c0 : w.cell? ⟨B, 0, none⟩ = some (.slice (some ⟨R, off, none⟩) (r.length + 1) (r.length + 1)) := c0
    have HA := Lib.hid c0
    have hlen : r.length + 1 ≤ 1000000 := by simpa using hw
    clear hc hw
    by_cases hxs : x = s
    · have t1 : (x == s) = true := by simpa using hxs
      have t2 : (x != s) = false := by simpa using hxs
      have HB : Hid (isB s (x :: r) = true) := by unfold Hid isB; simp [hxs]
      have HR : Hid (isR s (x :: r) = r) := by unfold Hid isR; simp [hxs]
      clear hxs
      by_cases hr : r = []
      · subst hr
        go_enter Tryz.func125, Tryz.ntmps125
        go_wp2
        go_ret
        exact ⟨ret_b HB.out.symm, by rw [HR.out]; exact H.out.adv HA.out (.inr rfl), frm_at _ _ _ _⟩
      · go_enter Tryz.func125, Tryz.ntmps125
        go_wp2
        go_ret
        exact ⟨ret_b HB.out.symm, by rw [HR.out]; exact H.out.adv HA.out (.inl rfl), frm_at _ _ _ _⟩
    · have t1 : (x == s) = false := by simpa using hxs
      have t2 : (x != s) = true := by simpa using hxs
      have HB : Hid (isB s (x :: r) = false) := by unfold Hid isB; simp [hxs]
      have HR : Hid (isR s (x :: r) = x :: r) := by unfold Hid isR; simp [hxs]
      clear hxs
      go_enter Tryz.func125, Tryz.ntmps125
      go_wp2
      go_ret
      exact ⟨ret_b HB.out.symm, by rw [HR.out]; exact H.out, Frm.refl _ _⟩
set_option maxHeartbeats 1000000 in
theorem next_c (B : Nat) (ws : List (List UInt8)) (n : Int) (b : Bool) (w : World) (h : WS B ws n b w) :
    Calls Tryz.prog 166 #[.pointer (some ⟨B, 0, none⟩)] w fun e w' => e = .returned (.string ⟨(hd1 ws).toArray⟩) ∧ WS B (tl1 ws) n b w' ∧ Frm (At B) w w' := by
  have H := Lib.hid h
  obtain ⟨⟨R, off, c0, hR, hRB, hc⟩, c1, c2, hf, hB, hs, hw⟩ := h
  have f0 := hf 0
  clear hf hs
  cases ws with
  | nil =>
    clear hc
    have c0 : w.cell? ⟨B, 0, none⟩ = some (.slice (some ⟨R, off, none⟩) 0 0) := c0
    go_enter Tryz.func166, Tryz.ntmps166
    go_wp2
    go_ret
    exact ⟨rfl, H.out, Frm.refl _ _⟩
  | cons x r =>
    have hx := hc 0 (by simp)
    rw [Nat.add_zero, List.getElem_cons_zero] at hx
    have c0 : w.cell? ⟨B, 0, none⟩ = some (.slice (some ⟨R, off, none⟩) (r.length + 1) (r.length + 1)) := c0
    have HA := Lib.hid c0
    have hlen : r.length + 1 ≤ 1000000 := by simpa using hw
    clear hc hw
    by_cases hr : r = []
    · subst hr
      go_enter Tryz.func166, Tryz.ntmps166
      go_wp2
      go_ret
      exact ⟨rfl, H.out.adv HA.out (.inr rfl), frm_at _ _ _ _⟩
    · go_enter Tryz.func166, Tryz.ntmps166
      go_wp2
      go_ret
      exact ⟨rfl, H.out.adv HA.out (.inl rfl), frm_at _ _ _ _⟩
def digs : List UInt8 := [48, 49, 50, 51, 52, 53, 54, 55, 56, 57]
theorem digs_dg (c : UInt8) : digs.contains c = isDg c := by
  rw [Bool.eq_iff_iff, isDg_iff]
  unfold digs
  simp only [List.contains_iff_mem, List.mem_cons, List.not_mem_nil, or_false, ← UInt8.toNat_inj]
  show (c.toNat = 48 ∨ c.toNat = 49 ∨ c.toNat = 50 ∨ c.toNat = 51 ∨ c.toNat = 52 ∨ c.toNat = 53 ∨ c.toNat = 54 ∨ c.toNat = 55 ∨ c.toNat = 56 ∨ c.toNat = 57) ↔ _
  omega
theorem dropWhile_nil_all {p : UInt8 → Bool} : ∀ l : List UInt8, l.dropWhile p = [] ↔ l.all p = true
  | [] => by simp
  | c :: r => by
    by_cases h : p c = true
    · simp [List.dropWhile_cons, h, dropWhile_nil_all r]
    · simp [List.dropWhile_cons, h]
theorem trim_digs (l : List UInt8) : (Lib.trimS l digs).isEmpty = l.all isDg := by
  have hp : (fun c => digs.contains c) = isDg := by funext c; exact digs_dg c
  unfold Lib.trimS Lib.trimLeftS Lib.trimRightS
  rw [hp, Bool.eq_iff_iff, List.isEmpty_iff, dropWhile_nil_all]
  constructor
  · intro h
    cases hd : l.reverse.dropWhile isDg with
    | nil =>
      have := (dropWhile_nil_all l.reverse).1 hd
      simpa using this
    | cons c r =>
      have h1 : isDg c = false := by
        have := List.head?_dropWhile_not isDg l.reverse
        rw [hd] at this
        simpa using this
      rw [hd] at h
      simp [h1] at h
  · intro h
    have : l.reverse.dropWhile isDg = [] := (dropWhile_nil_all _).2 (by simpa using h)
    rw [this]; rfl
theorem trim_c (s : List UInt8) (w : World) (hs : s.length ≤ 7000) :
    Calls Tryz.prog 95 #[.string ⟨s.toArray⟩, .string ⟨#[48, 49, 50, 51, 52, 53, 54, 55, 56, 57]⟩] w fun e w' => e = .returned (.string ⟨(Lib.trimS s digs).toArray⟩) ∧ Ext w w' :=
  Go.Proofs.Any.strings_Trim_laid Tryz.lays160 (by kernel_rfl) ⟨s.toArray⟩ ⟨#[48, 49, 50, 51, 52, 53, 54, 55, 56, 57]⟩ w (by show s.toArray.size ≤ _; simp; omega) (by decide) (ascii_of_all (by decide))
end Go.Proofs.YtnhdmnhfllecgaaGreatDoor
