/- Patterns: the reader's memory; the walk of reader.set. -/
import Derived.Test.YticckkadmhklmaaGreatDoorK03
import Derived.Test.YticckkadmhklmaaGreatDoorK00
import Derived.Maps.OwnSet
import Derived.Deep.MidRow
namespace Go.Proofs.YticckkadmhklmaaGreatDoor
set_option linter.unusedVariables false
set_option linter.unusedSimpArgs false
open Go.RowKit Go.Maps

theorem zeroR (w : World) : (zeroValue 3).run Tryz.prog w = .ok (.int .i64 0) w := by simp [go_sem]
/-- A reader at block B with its map at block b. -/
structure RdM (N : Nms) (B b : Nat) (s : List UInt8) (c : Bool) (D : DataW Unit) (n : Nat) (w : World) : Prop where
  nms : w.rangeAt B 0 (sv N.all)
  rest : w.cell? ⟨B, 40, none⟩ = some (.string ⟨s.toArray⟩)
  fnd : w.cell? ⟨B, 41, none⟩ = some (.map (some b))
  cls : w.cell? ⟨B, 42, none⟩ = some (.bool c)
  own : w.ownsMap Tryz.prog 3 (plainElem Tryz.prog 3) b n D
  free : ∀ o, w.frozen? ⟨B, o, none⟩ = false
  lt : B < w.heap.size
  blt : b < w.heap.size
  ne : b ≠ B
/-- What the map of values holds. -/
def RdD (vs : List (Int × Nat)) (D : DataW Unit) : Prop := IsMap D ∧ (∀ (k : Int) zd, D.atKey (.int .i64 k) zd = match gotK vs k with | none => zd | some v => .lit (.int .i64 (v : Int))) ∧ ∀ k : Int, Maps.has D (.int .i64 k) = (gotK vs k).isSome
/-- A reader that has read vs. -/
def Rdr (N : Nms) (B b : Nat) (s : List UInt8) (vs : List (Int × Nat)) (w : World) : Prop := ∃ c D n, RdM N B b s c D n w ∧ RdD vs D ∧ n ≤ vs.length ∧ (c = false ↔ Cons vs)
theorem RdD.nil : RdD [] (.map []) := ⟨isMap_empty, fun _ _ => rfl, fun _ => rfl⟩
theorem RdD.put {vs : List (Int × Nat)} {D : DataW Unit} (h : RdD vs D) (k : Int) (v : Nat) : RdD (vs ++ [(k, v)]) (D.put (.int .i64 k) (.lit (.int .i64 (v : Int)))) := by
  obtain ⟨h1, h2, h3⟩ := h
  refine ⟨h1.put _ _, fun j zd => ?_, fun j => ?_⟩
  · rw [gotK_snoc]
    by_cases e : j = k
    · subst e
      rw [if_pos rfl, atKey_put_same (k := .int .i64 j) h1 trivial]
    · rw [if_neg e, atKey_put_other (by intro q; injection q with _ q; exact e q), h2]
  · rw [gotK_snoc]
    by_cases e : j = k
    · subst e
      rw [if_pos rfl, has_put_same (k := .int .i64 j) h1 trivial]; rfl
    · rw [if_neg e, has_put_other (by intro q; injection q with _ q; exact e q), h3]
theorem RdM.ext {N : Nms} {B b n : Nat} {s : List UInt8} {c : Bool} {D : DataW Unit} {w w' : World} (h : RdM N B b s c D n w) (hE : Ext w w') : RdM N B b s c D n w' :=
  ⟨fun j v hv => (hE.cells _ _ h.lt).trans (h.nms j v hv), (hE.cells _ _ h.lt).trans h.rest, (hE.cells _ _ h.lt).trans h.fnd, (hE.cells _ _ h.lt).trans h.cls, h.own.kept (grown_ext hE none) (by simp), fun o => (hE.frozens _ o h.lt).trans (h.free o), hE.lt h.lt, hE.lt h.blt, h.ne⟩
theorem sv_all_len {N : Nms} (h : N.ok) : (sv N.all).length = 40 := by
  obtain ⟨a, b, c, d, e⟩ := h
  unfold Nms.all
  simp [sv, a, b, c, d, e]
/-- A store into one of the reader's own cells. -/
theorem RdM.set {N : Nms} {B b n : Nat} {s s' : List UInt8} {c c' : Bool} {D : DataW Unit} {w : World} (h : RdM N B b s c D n w) (hN : N.ok) (o : Nat) (u : Value) (ho : (o = 40 ∧ u = .string ⟨s'.toArray⟩ ∧ c' = c) ∨ (o = 42 ∧ u = .bool c' ∧ s' = s)) :
    RdM N B b s' c' D n (w.setCell ⟨B, o, none⟩ u) := by
  have ho2 : 40 ≤ o := by rcases ho with ho | ho <;> omega
  have far : ∀ j, j ≠ o → (w.setCell ⟨B, o, none⟩ u).cell? ⟨B, j, none⟩ = w.cell? ⟨B, j, none⟩ := fun j hj => World.cell?_setCell_other _ _ _ _ (by intro e; injection e with _ e; exact hj e.symm)
  refine ⟨fun j v hv => ?_, ?_, ?_, ?_, ?_, ?_, by simpa using h.lt, by simpa using h.blt, h.ne⟩
  · have hj : j < 40 := by
      have := (List.getElem?_eq_some_iff.1 hv).1
      rw [sv_all_len hN] at this
      exact this
    rw [far _ (by omega)]
    exact h.nms j v hv
  · rcases ho with ⟨rfl, rfl, rfl⟩ | ⟨rfl, rfl, rfl⟩
    · exact World.cell?_setCell_same _ _ _ h.rest
    · rw [far _ (by decide)]; exact h.rest
  · rw [far _ (by rcases ho with ho | ho <;> omega)]; exact h.fnd
  · rcases ho with ⟨rfl, rfl, rfl⟩ | ⟨rfl, rfl, rfl⟩
    · rw [far _ (by decide)]; exact h.cls
    · exact World.cell?_setCell_same _ _ _ h.cls
  · exact h.own.kept (row := some B) ⟨rfl, rfl, rfl, by simp [World.setCell], fun i hi hne => Below.heap_setCell _ _ _ i (by rintro rfl; exact hne rfl)⟩ (by intro e; injection e with e; exact h.ne e)
  · intro o'
    simp [h.free o']
theorem RdM.put {N : Nms} {B b n : Nat} {s : List UInt8} {c : Bool} {D D' : DataW Unit} {w w' : World} (h : RdM N B b s c D n w) (hown : w'.ownsMap Tryz.prog 3 (plainElem Tryz.prog 3) b (n + 1) D') (hg : w.grownBy w' (some b)) : RdM N B b s c D' (n + 1) w' := by
  have hb : w'.heap[B]? = w.heap[B]? := hg.block B h.lt (fun e => by injection e with e; exact h.ne e.symm)
  have hc : ∀ o, w'.cell? ⟨B, o, none⟩ = w.cell? ⟨B, o, none⟩ := fun o => by unfold World.cell?; rw [hb]
  have hf : ∀ o, w'.frozen? ⟨B, o, none⟩ = w.frozen? ⟨B, o, none⟩ := fun o => by unfold World.frozen?; rw [hb]
  exact ⟨fun j v hv => (hc _).trans (h.nms j v hv), (hc _).trans h.rest, (hc _).trans h.fnd, (hc _).trans h.cls, hown, fun o => (hf o).trans (h.free o), Nat.lt_of_lt_of_le h.lt hg.size, Nat.lt_of_lt_of_le h.blt hg.size, h.ne⟩
/-- What a reader may change. -/
abbrev RdS2 (B b : Nat) : Nat → Prop := fun j => j = B ∨ j = b
theorem Frm.put {B b : Nat} {w w' : World} (hg : w.grownBy w' (some b)) : Frm (RdS2 B b) w w' := (Frm.refl _ w).grown hg (fun k hk => by injection hk with hk; exact .inl (.inr hk.symm))
theorem int_wf {k : Int} (h1 : 0 ≤ k) (h2 : k ≤ 1000000) : (Lit.int .i64 k).wf = true := by
  simp [Lit.wf, IntKind.min, IntKind.max, IntKind.bits, IntKind.signed]; omega
set_option maxRecDepth 100000 in
set_option maxHeartbeats 1000000 in
theorem set_c (N : Nms) (hN : N.ok) (B b : Nat) (s : List UInt8) (vs : List (Int × Nat)) (k : Int) (v : Nat) (w : World) (h : Rdr N B b s vs w) (hk1 : 1 ≤ k) (hk2 : k ≤ 15) (hv : v ≤ 100000) (hn : vs.length ≤ 1000) :
    Calls Tryz.prog 93 #[.pointer (some ⟨B, 0, none⟩), .int .i64 k, .int .i64 (v : Int)] w fun e w' => e = .returned (.tuple #[]) ∧ Rdr N B b s (vs ++ [(k, v)]) w' ∧ Frm (RdS2 B b) w w' := by
  obtain ⟨c, D, n, hM, hD, hnn, hcl⟩ := h
  have Hk := Lib.hid (int_wf (k := k) (by omega) (by omega))
  have Hv := Lib.hid (int_wf (k := (v : Int)) (by omega) (by omega))
  have hown := hM.own
  have c41 := hM.fnd
  have f42 := hM.free
  have c42 := hM.cls
  have HM := Lib.hid hM
  have HN := Lib.hid hN
  have hml : n < maxLen := by unfold maxLen; omega
  have HD := Lib.hid hD
  have HC := Lib.hid hcl
  have HCS := Lib.hid (cons_snoc vs k v)
  clear hM hD hcl hN
  cases e : gotK vs k with
  | none =>
    have Hhas : Hid (Maps.has D (.int .i64 k) = false) := by rw [Hid, HD.out.2.2, e]; rfl
    have HCn : Hid (c = false ↔ Cons (vs ++ [(k, v)])) := by rw [Hid, HC.out, HCS.out]; simp [e]
    clear e
    go_enter Tryz.func93, Tryz.ntmps93
    go_wp2_with (first
      | (at_lookup; refine wpList_lookup_own_ok_int _ rfl _ _ 91 rfl 3 3 .i64 mkeyI Tryz.underlying91 Tryz.underlying3 (zeroR _) _ n D rfl hown _ _ rfl (keyOf_int_mk Tryz.underlying3 Hk.out) ?_; intro cc hat hwc; rw [Hhas.out])
      | (refine wpList_mapUpdate_own _ rfl _ _ _ 91 rfl 3 3 mkeyI Tryz.underlying91 _ _ n D rfl hown hml _ _ _ rfl rfl (keyOf_int_mk Tryz.underlying3 Hk.out) _ [] (plainElem_int Tryz.underlying3 Hv.out) ?_; intro w9 u1 u2)
      | go_in)
    refine bodyPost_end (v := .tuple #[]) (by simp [results, Tryz.results93, go_sem]) rfl ⟨rfl, ⟨c, _, _, HM.out.put u1 u2, HD.out.put k v, by simp; omega, HCn.out⟩, Frm.put u2⟩
  | some x =>
    have Hhas : Hid (Maps.has D (.int .i64 k) = true) := by rw [Hid, HD.out.2.2, e]; rfl
    have Hat : Hid (∀ zd, D.atKey (.int .i64 k) zd = .lit (.int .i64 (x : Int))) := fun zd => by rw [HD.out.2.1, e]
    by_cases hxv : x = v
    · subst hxv
      have HCn : Hid (c = false ↔ Cons (vs ++ [(k, x)])) := by rw [Hid, HC.out, HCS.out]; simp [e]
      clear e
      go_enter Tryz.func93, Tryz.ntmps93
      go_wp2_with (first
        | (at_lookup; refine wpList_lookup_own_ok_int _ rfl _ _ 91 rfl 3 3 .i64 mkeyI Tryz.underlying91 Tryz.underlying3 (zeroR _) _ n D rfl hown _ _ rfl (keyOf_int_mk Tryz.underlying3 Hk.out) ?_; intro cc hat hwc; rw [Hat.out] at hat; injection hat with hat; injection hat with _ hat; subst hat; rw [Hhas.out])
        | (refine wpList_mapUpdate_own _ rfl _ _ _ 91 rfl 3 3 mkeyI Tryz.underlying91 _ _ n D rfl hown hml _ _ _ rfl rfl (keyOf_int_mk Tryz.underlying3 Hk.out) _ [] (plainElem_int Tryz.underlying3 Hv.out) ?_; intro w9 u1 u2)
        | go_in)
      refine bodyPost_end (v := .tuple #[]) (by simp [results, Tryz.results93, go_sem]) rfl ⟨rfl, ⟨c, _, _, HM.out.put u1 u2, HD.out.put k x, by simp; omega, HCn.out⟩, Frm.put u2⟩
    · have HCn : Hid ((true : Bool) = false ↔ Cons (vs ++ [(k, v)])) := by
        rw [Hid, HCS.out]
        constructor
        · intro q; cases q
        · rintro ⟨_, q⟩
          rw [e] at q
          rcases q with q | q
          · cases q
          · exact absurd (Option.some.inj q) hxv
      have t1 : ((x : Int) != (v : Int)) = true := by rw [bne_iff_ne]; omega
      have HM2 := Lib.hid (HM.out.set HN.out (s' := s) (c' := true) 42 (.bool true) (.inr ⟨rfl, rfl, rfl⟩))
      have hown2 := HM2.out.own
      have d41 := HM2.out.fnd
      have HF2 : Hid (Frm (RdS2 B b) w (w.setCell ⟨B, 42, none⟩ (.bool true))) := (Frm.refl _ w).setCell (.inl (.inl rfl)) _
      clear e hxv
      go_enter Tryz.func93, Tryz.ntmps93
      go_wp2_with (first
        | (at_lookup; refine wpList_lookup_own_ok_int _ rfl _ _ 91 rfl 3 3 .i64 mkeyI Tryz.underlying91 Tryz.underlying3 (zeroR _) _ n D rfl hown _ _ rfl (keyOf_int_mk Tryz.underlying3 Hk.out) ?_; intro cc hat hwc; rw [Hat.out] at hat; injection hat with hat; injection hat with _ hat; subst hat; rw [Hhas.out])
        | (refine wpList_mapUpdate_own _ rfl _ _ _ 91 rfl 3 3 mkeyI Tryz.underlying91 _ _ n D rfl hown2 hml _ _ _ rfl rfl (keyOf_int_mk Tryz.underlying3 Hk.out) _ [] (plainElem_int Tryz.underlying3 Hv.out) ?_; intro w9 u1 u2)
        | go_in)
      refine bodyPost_end (v := .tuple #[]) (by simp [results, Tryz.results93, go_sem]) rfl ⟨rfl, ⟨true, _, _, HM2.out.put u1 u2, HD.out.put k v, by simp; omega, HCn.out⟩, HF2.out.trans (Frm.put u2)⟩
end Go.Proofs.YticckkadmhklmaaGreatDoor
