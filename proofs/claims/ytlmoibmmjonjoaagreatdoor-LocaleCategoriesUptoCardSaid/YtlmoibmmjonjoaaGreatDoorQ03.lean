/- The walks of the reader of words: rules. -/
import Derived.Test.YtlmoibmmjonjoaaGreatDoorQ02
import Derived.Test.YtlmoibmmjonjoaaGreatDoorQ00
import Derived.Maps.RangeWalk
import Derived.Maps.Own
import Derived.Maps.Views
import Derived.Maps.OwnSet
import Derived.RegionTactic
import Derived.Laws.AppendOwn
import Derived.Maps.AppendAt
namespace Go.Proofs.YtlmoibmmjonjoaaGreatDoor
set_option linter.unusedVariables false
set_option linter.unusedSimpArgs false
open Go.RowKit

theorem WS.put {B : Nat} {ws : List (List UInt8)} {n : Int} {b : Bool} {w : World} (h : WS B ws n b w) (b' : Bool) : WS B ws n b' (w.setCell ⟨B, 2, none⟩ (.bool (!b'))) := by
  obtain ⟨⟨R, off, c0, hR, hRB, hc⟩, c1, c2, hf, hB, hs, hw⟩ := h
  refine ⟨⟨R, off, (World.cell?_setCell_other _ _ _ _ (by simp)).trans c0, by simpa using hR, hRB, fun i hi => (World.cell?_setCell_other _ _ _ _ (by simp <;> omega)).trans (hc i hi)⟩, (World.cell?_setCell_other _ _ _ _ (by simp)).trans c1, World.cell?_setCell_same _ _ _ c2, fun o => by rw [World.frozen?_setCell]; exact hf o, by simpa using hB, hs, hw⟩
set_option maxRecDepth 100000 in
set_option maxHeartbeats 1000000 in
theorem rule_c (B : Nat) (ws : List (List UInt8)) (N : Nat) (w : World) (h : WS B ws N true w) (hN : (N : Int) ≤ 4611686018427387904) (hm : Lm w) (hG : 0 ≠ B) :
    Calls Tryz.prog 88 #[.pointer (some ⟨B, 0, none⟩)] w fun e w' => e = .returned (.bool (rul N ws).1) ∧ (∃ r, WS B r N (rul N ws).2 w') ∧ Frm (At B) w w' := by
  have H := Lib.hid h
  have Hm := Lib.hid hm
  clear h hm
  obtain ⟨T, hT⟩ : ∃ T, T = ruL N (grp N ws true).1 (grp N ws true).2.1 (grp N ws true).2.2 := ⟨_, rfl⟩
  have HT := Lib.hid hT.symm
  have HU : Hid (rul N ws = (T.1, T.2.2 && T.2.1.isEmpty)) := by rw [Hid, hT]; rfl
  clear hT
  go_enter Tryz.func88, Tryz.ntmps88
  go_wp2_with (go_at_call 119; (with_reducible refine (group_c B ws N true _ H.out hN Hm.out hG).mono ?_); rintro e w1 ⟨rfl, h1, hF1⟩; have H1 := Lib.hid h1; clear h1; have Hm1 := Lib.hid (lm_at Hm.out hF1 hG))
  go_loopw [3] (fun hv wr => ∃ (hb b' : Bool) (ws' : List (List UInt8)), hv = .bool hb ∧ Hid (WS B ws' N b' wr) ∧ Hid (ruL N hb ws' b' = T) ∧ Frm (At B) w wr ∧ Hid (Lm wr)) (fun _ wr => wlen B wr)
  case atStart => exact ⟨_, _, _, rfl, H1, HT, hF1, Hm1⟩
  case round =>
    obtain ⟨hb, b', ws', rfl, hr, HTr, hFr, Hmr⟩ := hrel
    by_cases ha : ws'.head? = some wOr
    · obtain ⟨e1, e2⟩ := isB_true ha
      obtain ⟨r, hr2⟩ : ∃ r, ws' = wOr :: r := by
        cases ws' with
        | nil => cases ha
        | cons x r => exact ⟨r, by rw [Option.some.inj ha]⟩
      have HT2 : Hid (ruL N ((grp N r b').1 || hb) (grp N r b').2.1 (grp N r b').2.2 = T) := by
        have := HTr.out
        rw [hr2, ruL_or] at this
        exact this
      have e3 : tl1 ws' = r := by rw [hr2]; rfl
      rw [e3] at e2
      have E1 := Lib.hid e1
      have E2 := Lib.hid e2
      have Hlen : Hid (wlen B wr = r.length + 1) := by rw [Hid, wlen_eq hr.out, hr2]; rfl
      clear ha e1 e2 e3 hr2 HT H H1 Hm Hm1 HTr
      obtain ⟨tv, htv⟩ : ∃ tv, tv = (grp N r b').1 := ⟨_, rfl⟩
      have Htv := Lib.hid htv
      rw [← htv] at HT2
      clear htv
      cases tv
      all_goals
        go_wp2_with (first
          | (go_at_call 120; (with_reducible refine (is_or B ws' N b' _ hr.out).mono ?_); (with_reducible rw [E1.out, E2.out]); rintro e w2 ⟨rfl, h2, hF2⟩; have H2 := Lib.hid h2; clear h2; have Hm2 := Lib.hid (lm_at Hmr.out hF2 hG))
          | (go_at_call 119; (with_reducible refine (group_c B r N b' _ H2.out hN Hm2.out hG).mono ?_); (with_reducible rw [← Htv.out]); rintro e w3 ⟨rfl, h3, hF3⟩))
        go_roundw
        case rel => exact ⟨_, _, _, rfl, h3, HT2, (hFr.trans hF2).trans hF3, lm_at Hm2.out hF3 hG⟩
        case measure =>
          rw [wlen_eq h3, Hlen.out]
          have := grp_len N r b'
          omega
    · obtain ⟨e1, e2⟩ := isB_false ha
      have HT2 : Hid (T = (hb, ws', b')) := by
        rw [Hid, ← HTr.out]
        cases ws' with
        | nil => rw [ruL_nil]
        | cons x r => rw [ruL_no _ _ _ _ _ (fun q => ha (by rw [q]; rfl))]
      have E1 := Lib.hid e1
      have E2 := Lib.hid e2
      clear ha e1 e2 HT H H1 Hm Hm1 HTr
      have HU2 : Hid (rul N ws = (hb, b' && ws'.isEmpty)) := by rw [Hid, HU.out, HT2.out]
      clear HU HT2
      cases ws' with
      | nil =>
        cases b'
        all_goals
          go_wp2_with (go_at_call 120; (with_reducible refine (is_or B _ N _ _ hr.out).mono ?_); (with_reducible rw [E1.out, E2.out]); rintro e w2 ⟨rfl, h2, hF2⟩; have H2 := Lib.hid h2; obtain ⟨⟨R, off, c0, _⟩, c1, c2, f2, z2, _, few⟩ := h2; have g2 := f2 2; clear f2)
          go_ret
          exact ⟨ret_b (by rw [HU2.out]), ⟨[], by rw [HU2.out]; exact H2.out.put _⟩, (hFr.trans hF2).trans (frm_at _ _ _ _)⟩
      | cons x r =>
        cases b'
        all_goals
          go_wp2_with (go_at_call 120; (with_reducible refine (is_or B _ N _ _ hr.out).mono ?_); (with_reducible rw [E1.out, E2.out]); rintro e w2 ⟨rfl, h2, hF2⟩; have H2 := Lib.hid h2; obtain ⟨⟨R, off, c0, _⟩, c1, c2, f2, z2, _, few⟩ := h2; have g2 := f2 2; clear f2; rw [List.length_cons] at c0 few)
          go_ret
          exact ⟨ret_b (by rw [HU2.out]), ⟨x :: r, by rw [HU2.out]; exact H2.out.put _⟩, (hFr.trans hF2).trans (frm_at _ _ _ _)⟩
/-- What the parts of a rule's text are. -/
def wds (s : List UInt8) : List (List UInt8) := spl 32 s
theorem ws_new (w : World) (P : List (List UInt8)) (n : Int) (h1 : ∀ x ∈ P, x.length ≤ 4000) (h2 : P.length ≤ 1000000) :
    WS (w.heap.size + 1) P n true ((w.alloc (.cells (P.map fun l => Value.string ⟨l.toArray⟩).toArray 9)).alloc (.cells #[.slice (some ⟨w.heap.size, 0, none⟩) P.length P.length, .int .i64 n, .bool false] 112)) := by
  refine ⟨⟨w.heap.size, 0, by simp, by simp; omega, by omega, fun i hi => ?_⟩, by simp, by simp, fun o => by simp, by simp, h1, h2⟩
  rw [World.cell?_alloc_lt _ _ _ (by simp), World.cell?_alloc_new]
  simp [hi]
set_option maxRecDepth 100000 in
set_option maxHeartbeats 1000000 in
theorem read_c (s : List UInt8) (N : Nat) (w : World) (hN : (N : Int) ≤ 4611686018427387904) (hm : Lm w) (hs : s.length ≤ 4000) :
    Calls Tryz.prog 45 #[.string ⟨s.toArray⟩, .int .i64 (N : Int)] w fun e w' => e = .returned (.tuple #[.bool (rul N (wds s)).1, .bool ((rul N (wds s)).2 && decide (s.length ≤ 200))]) ∧ Ext w w' := by
  have Hm := Lib.hid hm
  have hlt := hm.lt
  have hPc := spl_count 32 s
  have HN := Lib.hid (ws_new w (spl 32 s) N (fun x hx => Nat.le_trans (spl_len 32 s x hx) hs) (by omega))
  have Hm2 := Lib.hid (hm.ext (((Ext.refl w).alloc (.cells ((spl 32 s).map fun l => Value.string ⟨l.toArray⟩).toArray 9)).alloc (.cells #[.slice (some ⟨w.heap.size, 0, none⟩) (spl 32 s).length (spl 32 s).length, .int .i64 (N : Int), .bool false] 112)))
  have HG : Hid (0 ≠ w.heap.size + 1) := by unfold Hid; omega
  unfold wds
  generalize hrv : (rul N (spl 32 s)).2 = rv
  have Hrv := Lib.hid hrv
  clear hm hrv
  cases rv
  all_goals
    go_enter Tryz.func45, Tryz.ntmps45
    go_wp2_with (first
      | (go_at_call 22; (with_reducible refine (split_c s 32 _ Hm.out (by omega)).mono ?_); rintro e w2 ⟨rfl, rfl⟩)
      | (go_at_call 88; (with_reducible refine (rule_c (w.heap.size + 1) (spl 32 s) N _ HN.out hN Hm2.out HG.out).mono ?_); (with_reducible rw [Hrv.out]); rintro e w3 ⟨rfl, ⟨r, h3⟩, hF3⟩; have c2 := h3.fail; have z2 := h3.lt; clear h3))
    go_ret2
    refine ⟨?_, Frm.far (((Ext.refl w).alloc _).alloc _) hF3 (by intro k hk; unfold At; omega)⟩
    first | rfl | (congr 3; simp <;> omega)
theorem size_c (n : Int) (w : World) (h1 : -4611686018427387904 ≤ n) (h2 : n ≤ 4611686018427387904) :
    Calls Tryz.prog 46 #[.int .i64 n] w fun e w' => e = .returned (.int .i64 (n.natAbs : Nat)) ∧ w = w' := by
  have Hz : Hid (((n.natAbs : Nat) : Int) = if -n < n then n else -n) := by unfold Hid; split <;> omega
  by_cases h : -n < n
  all_goals
    go_enter Tryz.func46, Tryz.ntmps46
    go_wp2
    go_ret
    exact ⟨ret_i (by rw [Hz.out]; first | (split <;> omega) | (simp [h] <;> omega)), rfl⟩
def inrB (n : Int) : Bool := decide (-4611686018427387904 ≤ n ∧ n ≤ 4611686018427387904)
theorem inr_c (n : Int) (w : World) : Calls Tryz.prog 27 #[.int .i64 n] w fun e w' => e = .returned (.bool (inrB n)) ∧ w = w' := by
  by_cases a : -4611686018427387904 ≤ n
  · by_cases c : n ≤ 4611686018427387904
    all_goals
      go_enter Tryz.func27, Tryz.ntmps27
      go_wp2
      go_ret
      exact ⟨ret_b (by simp [inrB, a, c]), rfl⟩
  · have d : decide (-4611686018427387904 ≤ n) = false := by simp; omega
    go_enter Tryz.func27, Tryz.ntmps27
    go_wp2
    go_ret
    exact ⟨ret_b (by simp [inrB] <;> omega), rfl⟩
/-- Whether a text is a rule. -/
def okR (s : List UInt8) : Bool := (rul 0 (wds s)).2 && decide (s.length ≤ 200)
theorem isRule_c (s : List UInt8) (w : World) (hm : Lm w) (hs : s.length ≤ 4000) :
    Calls Tryz.prog 44 #[.string ⟨s.toArray⟩] w fun e w' => e = .returned (.bool (okR s)) ∧ Ext w w' := by
  have Hm := Lib.hid hm
  clear hm
  have HO : Hid (((rul 0 (wds s)).2 && decide (s.length ≤ 200)) = okR s) := rfl
  go_enter Tryz.func44, Tryz.ntmps44
  go_wp2_with (go_at_call 45; refine (read_c s 0 _ (by omega) Hm.out hs).mono ?_; (with_reducible rw [HO.out]); rintro e w1 ⟨rfl, hE1⟩)
  go_ret
  exact ⟨rfl, hE1⟩
def hoE (s : List UInt8) (n : Int) : Int := if okR s = false then 3 else if inrB n = false then 2 else 0
def hoV (s : List UInt8) (n : Int) : Bool := if hoE s n = 0 then (rul n.natAbs (wds s)).1 else false
theorem holds_c (s : List UInt8) (n : Int) (w : World) (hm : Lm w) (hs : s.length ≤ 4000) :
    Calls Tryz.prog 17 #[.string ⟨s.toArray⟩, .int .i64 n] w fun e w' => e = .returned (.tuple #[.bool (hoV s n), .int .i64 (hoE s n)]) ∧ Ext w w' := by
  have Hm := Lib.hid hm
  clear hm
  rcases Bool.eq_false_or_eq_true (okR s) with h1 | h1
  · rcases Bool.eq_false_or_eq_true (inrB n) with h2 | h2
    · have HE : Hid (hoE s n = 0) := by simp [Hid, hoE, h1, h2]
      have HV : Hid (hoV s n = (rul n.natAbs (wds s)).1) := by simp [Hid, hoV, HE.out]
      obtain ⟨a, c⟩ : -4611686018427387904 ≤ n ∧ n ≤ 4611686018427387904 := of_decide_eq_true h2
      go_enter Tryz.func17, Tryz.ntmps17
      go_wp2_with (first
        | (go_at_call 44; refine (isRule_c s _ Hm.out hs).mono ?_; rw [h1]; rintro e w1 ⟨rfl, hE1⟩; have Hm1 := Lib.hid (Hm.out.ext hE1))
        | (go_at_call 27; refine (inr_c n _).mono ?_; rw [h2]; rintro e w2 ⟨rfl, rfl⟩)
        | (go_at_call 46; refine (size_c n _ a c).mono ?_; rintro e w3 ⟨rfl, rfl⟩)
        | (go_at_call 45; refine (read_c s n.natAbs _ (by omega) Hm1.out hs).mono ?_; rintro e w4 ⟨rfl, hE4⟩))
      go_ret2
      exact ⟨by rw [HE.out, HV.out]; rfl, hE1.trans hE4⟩
    · have HE : Hid (hoE s n = 2) := by simp [Hid, hoE, h1, h2]
      have HV : Hid (hoV s n = false) := by simp [Hid, hoV, HE.out]
      go_enter Tryz.func17, Tryz.ntmps17
      go_wp2_with (first
        | (go_at_call 44; refine (isRule_c s _ Hm.out hs).mono ?_; rw [h1]; rintro e w1 ⟨rfl, hE1⟩; have Hm1 := Lib.hid (Hm.out.ext hE1))
        | (go_at_call 27; refine (inr_c n _).mono ?_; rw [h2]; rintro e w2 ⟨rfl, rfl⟩))
      go_ret2
      exact ⟨by rw [HE.out, HV.out]; rfl, hE1⟩
  · have HE : Hid (hoE s n = 3) := by simp [Hid, hoE, h1]
    have HV : Hid (hoV s n = false) := by simp [Hid, hoV, HE.out]
    go_enter Tryz.func17, Tryz.ntmps17
    go_wp2_with (first
      | (go_at_call 44; refine (isRule_c s _ Hm.out hs).mono ?_; rw [h1]; rintro e w1 ⟨rfl, hE1⟩; have Hm1 := Lib.hid (Hm.out.ext hE1)))
    go_ret2
    exact ⟨by rw [HE.out, HV.out]; rfl, hE1⟩
end Go.Proofs.YtlmoibmmjonjoaaGreatDoor
/- Locales: slices of categories in a world; what is a valid list of them. -/
namespace Go.Proofs.YtlmoibmmjonjoaaGreatDoor
set_option linter.unusedVariables false
set_option linter.unusedSimpArgs false
open Go.RowKit

structure Plu where
  c : List UInt8
  r : List UInt8
def RdPl (l : List Plu) (R off : Nat) (w : World) : Prop := R < w.heap.size ∧ ∀ i (h : i < l.length),
  w.cell? ⟨R, off + i * 2, none⟩ = some (.string ⟨l[i].c.toArray⟩) ∧ w.cell? ⟨R, off + i * 2 + 1, none⟩ = some (.string ⟨l[i].r.toArray⟩)
theorem RdPl.ext {l : List Plu} {R off : Nat} {w w' : World} (h : RdPl l R off w) (hE : Ext w w') : RdPl l R off w' := by
  refine ⟨hE.lt h.1, fun i hi => ?_⟩
  obtain ⟨a, b⟩ := h.2 i hi
  exact ⟨(hE.cells _ _ h.1).trans a, (hE.cells _ _ h.1).trans b⟩
/-- A slice of categories. -/
def PlV (ao : Option Addr) (cap : Nat) (l : List Plu) (w : World) : Prop :=
  l.length ≤ cap ∧ cap ≤ maxLen ∧ (l ≠ [] → ∃ R off, ao = some ⟨R, off, none⟩ ∧ RdPl l R off w)
theorem PlV.ext {ao : Option Addr} {cap : Nat} {l : List Plu} {w w' : World} (h : PlV ao cap l w) (hE : Ext w w') : PlV ao cap l w' := by
  refine ⟨h.1, h.2.1, fun hl => ?_⟩
  obtain ⟨R, off, e, hR⟩ := h.2.2 hl
  exact ⟨R, off, e, hR.ext hE⟩
theorem PlV.nil (w : World) : PlV none 0 [] w := ⟨Nat.le_refl _, by decide, fun h => absurd rfl h⟩
/-- Texts of a moderate length. -/
def shP (l : List Plu) : Prop := ∀ p ∈ l, p.c.length ≤ 4000 ∧ p.r.length ≤ 4000
/-- The rule at a place: empty at the end, a rule elsewhere. -/
def rdAt (l : List Plu) (i : Nat) : Prop := ∀ h : i < l.length, (i + 1 = l.length → l[i].r = []) ∧ (i + 1 ≠ l.length → okR l[i].r = true)
instance (l : List Plu) (i : Nat) : Decidable (rdAt l i) := by unfold rdAt; exact inferInstance
def ruledB (l : List Plu) : Bool := decide (1 ≤ l.length) && decide (l.length ≤ 8) && decide (∀ i, i < l.length → rdAt l i)
def rulB (good : List UInt8 → Bool) (l : List Plu) : Bool := ruledB l && l.all fun p => good p.c
theorem ruled_no {l : List Plu} (i : Nat) (hi : i < l.length) (h : ¬ rdAt l i) : ruledB l = false := by
  unfold ruledB
  have e : decide (∀ i, i < l.length → rdAt l i) = false := decide_eq_false (fun q => h (q i hi))
  rw [e]
  simp
theorem ruled_yes {l : List Plu} (h1 : 1 ≤ l.length) (h2 : l.length ≤ 8) (h : ∀ i, i < l.length → rdAt l i) : ruledB l = true := by
  unfold ruledB
  have e : decide (∀ i, i < l.length → rdAt l i) = true := decide_eq_true h
  rw [decide_eq_true h1, decide_eq_true h2, e]; rfl
theorem all_plu {good : List UInt8 → Bool} {l : List Plu} (h : ∀ i (hi : i < l.length), good l[i].c = true) : (l.all fun p => good p.c) = true := by
  rw [List.all_eq_true]
  intro p hp
  obtain ⟨i, hi, rfl⟩ := List.mem_iff_getElem.1 hp
  exact h i hi
theorem all_plu_no {good : List UInt8 → Bool} {l : List Plu} (i : Nat) (hi : i < l.length) (h : good l[i].c = false) : (l.all fun p => good p.c) = false := by
  rw [List.all_eq_false]; exact ⟨l[i], List.getElem_mem _, by simp [h]⟩
end Go.Proofs.YtlmoibmmjonjoaaGreatDoor
/- A map literal's entries; plain laws at the operations. -/
namespace Go.Proofs.YtlmoibmmjonjoaaGreatDoor
set_option linter.unusedVariables false
set_option linter.unusedSimpArgs false
open Go.RowKit Go.Maps

theorem wpList_insert_own {H : Type} {P : Program} (w : World) {ops : Array Oper} {rest : List Oper} {o : Oper} {a : Act} {Q : Exit → Act → World → Prop}
    (hg : o.guard = none) (m x v : Operand) (t : TypeId) (hop : o.op = Op.insert t m x v)
    (k e : TypeId) (K : Keyed P k) (ht : P.underlying t = some (.map k e)) (R : Value → Option (DataW H × List MemPlace)) (b n : Nat) (D : DataW H)
    (hm : a.eval m = .map (some b)) (hown : w.ownsMap P k R b n D) (hn : n < maxLen) (key val : Value) (kl : Lit) (hx : a.eval x = key) (hv : a.eval v = val) (hkey : keyOf P k key = some kl)
    (d : DataW H) (ps : List MemPlace) (hval : R val = some (d, ps))
    (hK : ∀ w', w'.ownsMap P k R b (n + 1) (D.put kl d) → w.grownBy w' (some b) → wpList P ops Q rest (a.put o.dst undef) w') :
    wpList P ops Q (o :: rest) a w := by
  refine wpList_plain hg fun K' hK' => ?_
  obtain ⟨w', hrun, r1, r2⟩ := hown.update K ht hn hkey hval
  unfold Oper.wp
  simp [execOp, hop, hm, hx, hv, hrun, Result.andThen]
  exact hK' _ _ (hK w' r1 r2)
theorem ext_grown_at {a b c : World} {g : Nat} (h : Ext a b) (hg : b.grownBy c (some g)) (hb : a.heap.size ≤ g) : Ext a c := by
  refine ⟨hg.os.trans h.os, hg.tape.trans h.tape, hg.output.trans h.output, Nat.le_trans h.size hg.size, fun k hk => ?_⟩
  rw [hg.block k (Nat.lt_of_lt_of_le hk h.size) (by intro e; injection e with e; omega)]
  exact h.block k hk
theorem ext_grown_none {a b c : World} (h : Ext a b) (hg : b.grownBy c none) : Ext a c := by
  refine ⟨hg.os.trans h.os, hg.tape.trans h.tape, hg.output.trans h.output, Nat.le_trans h.size hg.size, fun k hk => ?_⟩
  rw [hg.block k (Nat.lt_of_lt_of_le hk h.size) (by intro e; cases e)]
  exact h.block k hk
theorem grown_ext {a b : World} (h : Ext a b) (row : Option Nat) : a.grownBy b row := ⟨h.os, h.tape, h.output, h.size, fun k hk _ => h.block k hk⟩
end Go.Proofs.YtlmoibmmjonjoaaGreatDoor
/- A region that lays several entries into one map, in whatever order: a plain law over any program. -/
namespace Go.Proofs.YtlmoibmmjonjoaaGreatDoor
set_option linter.unusedVariables false
set_option linter.unusedSimpArgs false
open Go Go.Maps Go.RowKit

/-- An entry to be laid: the operation, its key, the key's datum, its value, the value's datum. -/
structure InsE where
  i : Nat
  kz : Int
  val : Value
  d : DataW Unit
/-- Whichever of J comes next, the others may come behind it; in the end L. -/
def insChk (md : Region.Mode) (ops : Array Oper) : Nat → List Nat → Array Bool → Array Bool → Bool
  | 0, J, listed, L => J.isEmpty && listed == L
  | f + 1, J, listed, L => decide (Region.ready md ops listed = J) && J.all fun i => insChk md ops f (J.filter (fun j => j != i)) (listed.setIfInBounds i true) L
/-- What stands at a key behind the entries J. -/
def insAt (J : List InsE) (kl : Int) (z : DataW Unit) : DataW Unit := match J.find? (fun j => decide (j.kz = kl)) with | some j => j.d | none => z
def InsOk (P : Program) (ops : Array Oper) (t k : TypeId) (R : Value → Option (DataW Unit × List MemPlace)) (m : Operand) (a : Act) (j : InsE) : Prop :=
  ∃ (o : Oper) (x v : Operand), ops[j.i]? = some o ∧ o.guard = none ∧ o.dst = none ∧ o.op = .insert t m x v ∧ a.eval x = .int .i64 j.kz ∧ a.eval v = j.val ∧ keyOf P k (.int .i64 j.kz) = some (.int .i64 j.kz) ∧ ∃ ps, R j.val = some (j.d, ps)
theorem find_filter_ne (J : List InsE) (i : Nat) (kl ki : Int) (hk : kl ≠ ki) (h : ∀ j ∈ J, j.i = i → j.kz = ki) :
    (J.filter (fun j => j.i != i)).find? (fun j => decide (j.kz = kl)) = J.find? (fun j => decide (j.kz = kl)) := by
  induction J with
  | nil => rfl
  | cons j r ih =>
    have ih := ih (fun j hj => h j (by simp [hj]))
    by_cases e : j.i = i
    · have e2 := h j (by simp) e
      rw [List.filter_cons_of_neg (by simp [e]), ih, List.find?_cons_of_neg (by rw [e2]; simpa using Ne.symm hk)]
    · rw [List.filter_cons_of_pos (by simpa using e)]
      by_cases q : j.kz = kl
      · rw [List.find?_cons_of_pos (by simpa using q), List.find?_cons_of_pos (by simpa using q)]
      · rw [List.find?_cons_of_neg (by simpa using q), List.find?_cons_of_neg (by simpa using q), ih]
theorem ins_inj : ∀ (l : List InsE), (l.map (·.i)).Nodup → ∀ p ∈ l, ∀ q ∈ l, p.i = q.i → p = q
  | [], _, p, hp, _, _, _ => by cases hp
  | z :: r, hl, p, hp, q, hq, hpq => by
    rw [List.map_cons, List.nodup_cons] at hl
    rcases List.mem_cons.1 hp with e1 | hp
    · rcases List.mem_cons.1 hq with e2 | hq
      · rw [e1, e2]
      · exact absurd (List.mem_map.2 ⟨q, hq, by rw [← hpq, e1]⟩) hl.1
    · rcases List.mem_cons.1 hq with e2 | hq
      · exact absurd (List.mem_map.2 ⟨p, hp, by rw [hpq, e2]⟩) hl.1
      · exact ins_inj r hl.2 p hp q hq hpq
theorem wpAny_inserts {P : Program} {md : Region.Mode} {ops : Array Oper} {Q : Exit → Act → World → Prop} {t k e : TypeId} (K : Keyed P k) (ht : P.underlying t = some (.map k e)) (R : Value → Option (DataW Unit × List MemPlace))
    {m : Operand} {b fuel : Nat} {L : Array Bool} {a : Act} (hm : a.eval m = .map (some b)) :
    ∀ (n : Nat) (J : List InsE) (listed : Array Bool) (w : World) (c : Nat) (D : DataW Unit), J.length = n → insChk md ops n (J.map (·.i)) listed L = true → (∀ j ∈ J, InsOk P ops t k R m a j) →
    (J.map (·.i)).Nodup → (∀ j ∈ J, ∀ j' ∈ J, j.kz = j'.kz → j.i = j'.i) → w.ownsMap P k R b c D → IsMap D → c + n < maxLen →
    (∀ w' D', w'.ownsMap P k R b (c + n) D' → w.grownBy w' (some b) → (∀ (kl : Int) zd, D'.atKey (.int .i64 kl) zd = insAt J kl (D.atKey (.int .i64 kl) zd)) → wpAny P md ops Q fuel L a w') →
    wpAny P md ops Q (n + fuel) listed a w
  | 0, J, listed, w, c, D, hJ, hchk, hok, hnd, hkk, hown, hmap, hc, hend => by
    obtain rfl : J = [] := List.length_eq_zero_iff.1 hJ
    simp only [insChk, Bool.and_eq_true, beq_iff_eq] at hchk
    rw [Nat.zero_add, hchk.2]
    exact hend w D hown ⟨rfl, rfl, rfl, Nat.le_refl _, fun _ _ _ => rfl⟩ (fun kl zd => rfl)
  | n + 1, J, listed, w, c, D, hJ, hchk, hok, hnd, hkk, hown, hmap, hc, hend => by
    simp only [insChk, Bool.and_eq_true, decide_eq_true_eq, List.all_eq_true] at hchk
    obtain ⟨hready, hall⟩ := hchk
    have hne : J.map (·.i) ≠ [] := by
      intro q
      have := congrArg List.length q
      simp at this
      rw [this] at hJ
      cases hJ
    rw [show n + 1 + fuel = (n + fuel) + 1 by omega]
    refine ⟨fun h0 => absurd (hready.symm.trans h0) hne, fun i hi => ?_⟩
    rw [hready] at hi
    obtain ⟨j, hj, rfl⟩ := List.mem_map.1 hi
    obtain ⟨o, x, v, ho, hg, hd, hop, hx, hv, hkl, ps, hR⟩ := hok j hj
    have hw : Region.wanted o (yielded ops a.tmps) = true := by simp [Region.wanted, hg]
    unfold wpOp
    simp only [ho, hw, if_true]
    left
    obtain ⟨w1, hrun, hown1, hg1⟩ := hown.update K ht (by omega) hkl hR
    unfold Oper.wp
    simp [execOp, hop, hm, hx, hv, hrun, Result.andThen]
    rw [Oper.upon_skip, hd]
    show wpAny P md ops Q (n + fuel) (listed.setIfInBounds j.i true) a w1
    have hf : (J.filter (fun y => y.i != j.i)).map (·.i) = (J.map (·.i)).filter (fun y => y != j.i) := by
      rw [List.filter_map]; rfl
    have hlen : (J.filter (fun y => y.i != j.i)).length = n := by
      have h1 : ((J.map (·.i)).filter (fun y => y != j.i)) = (J.map (·.i)).erase j.i := by rw [hnd.erase_eq_filter]
      have h2 := congrArg List.length h1
      rw [← hf, List.length_map, List.length_erase_of_mem (List.mem_map.2 ⟨j, hj, rfl⟩), List.length_map, hJ] at h2
      omega
    refine wpAny_inserts (L := L) K ht R hm n (J.filter (fun y => y.i != j.i)) (listed.setIfInBounds j.i true) w1 (c + 1) (D.put (.int .i64 j.kz) j.d) hlen ?_ (fun y hy => hok y (List.mem_filter.1 hy).1) ?_ (fun y hy z hz => hkk y (List.mem_filter.1 hy).1 z (List.mem_filter.1 hz).1) hown1 (hmap.put _ _) (by omega) ?_
    · rw [hf]; exact hall _ hi
    · rw [hf]; exact hnd.filter _
    · intro w' D' hown' hg' hat
      refine hend w' D' (by rw [show c + (n + 1) = c + 1 + n by omega]; exact hown') ?_ ?_
      · exact ⟨hg'.os.trans hg1.os, hg'.tape.trans hg1.tape, hg'.output.trans hg1.output, Nat.le_trans hg1.size hg'.size, fun q hq hne => (hg'.block q (Nat.lt_of_lt_of_le hq hg1.size) hne).trans (hg1.block q hq hne)⟩
      · intro kl zd
        rw [hat kl zd]
        by_cases e : kl = j.kz
        · subst e
          rw [atKey_put_same (k := .int .i64 j.kz) hmap trivial]
          have e1 : (J.filter (fun y => y.i != j.i)).find? (fun y => decide (y.kz = j.kz)) = none := by
            rw [List.find?_eq_none]
            intro y hy
            obtain ⟨y1, y2⟩ := List.mem_filter.1 hy
            have y2 : y.i ≠ j.i := by simpa using y2
            simpa using fun q => y2 (hkk y y1 j hj q)
          have e2 : ∃ y, J.find? (fun y => decide (y.kz = j.kz)) = some y ∧ y = j := by
            cases q : J.find? (fun y => decide (y.kz = j.kz)) with
            | none => exact absurd (List.find?_eq_none.1 q j hj) (by simp)
            | some y =>
              refine ⟨y, rfl, ?_⟩
              have hy := List.mem_of_find?_eq_some q
              have hp := List.find?_some q
              have hp : y.kz = j.kz := by simpa using hp
              have hi2 := hkk y hy j hj hp
              exact ins_inj J hnd y hy j hj hi2
          obtain ⟨y, e2, rfl⟩ := e2
          unfold insAt
          rw [e1, e2]
        · rw [atKey_put_other (by intro q; injection q with _ q; exact e q)]
          unfold insAt
          rw [find_filter_ne J j.i kl j.kz e (fun y hy q => by
            have : y.kz = j.kz := by
              rw [ins_inj J hnd y hy j hj q]
            exact this)]
theorem yl_field {P : Program} {o : Oper} {a : Act} {s : TypeId} {x : Operand} {f : Nat} {u v : Value} (hop : o.op = .fieldAddr s x f) (hx : a.eval x = u) (hrun : ∀ w, (Instr.fieldAt s u f).run P w = .ok v w) : ∀ w, (execOp a.eval o).run P w = .ok (.value v) w := by
  intro w
  unfold execOp
  simp [hop, hx, hrun, Result.andThen]
theorem yl_slice {P : Program} {o : Oper} {a : Act} {s : TypeId} {x : Operand} {u v : Value} (hop : o.op = .slice s x none none none) (hx : a.eval x = u) (hrun : ∀ w, (Instr.sliceAt s u none none none).run P w = .ok v w) : ∀ w, (execOp a.eval o).run P w = .ok (.value v) w := by
  intro w
  unfold execOp
  simp [hop, hx, hrun, Result.andThen]
theorem yl_move {P : Program} {o : Oper} {a : Act} {x : Operand} {u : Value} (hop : o.op = .move x) (hx : a.eval x = u) : ∀ w, (execOp a.eval o).run P w = .ok (.value u) w := by
  intro w
  unfold execOp
  simp [hop, hx, Result.andThen]
theorem yl_assign {P : Program} {o : Oper} {a : Act} {x : Operand} {u : Value} (hop : o.op = .assign x) (hx : a.eval x = u) : ∀ w, (execOp a.eval o).run P w = .ok (.value u) w := by
  intro w
  unfold execOp
  simp [hop, hx, Result.andThen]
theorem yl_make {P : Program} {o : Oper} {a : Act} {t : TypeId} (hop : o.op = .makeMap t none) (w : World) : (execOp a.eval o).run P w = .ok (.value (.map (some w.heap.size))) (w.alloc (.map #[] 0)) := by
  have hmm := @run_makeMap P
  unfold execOp
  simp [hop, hmm, Result.andThen]
theorem wpAny_one {P : Program} {md : Region.Mode} {ops : Array Oper} {Q : Exit → Act → World → Prop} {fuel i : Nat} {listed : Array Bool} {a : Act} {w w' : World} {o : Oper} {v : Value} (hr : Region.ready md ops listed = [i]) (ho : ops[i]? = some o)
    (hw : Region.wanted o (yielded ops a.tmps) = true) (hrun : (execOp a.eval o).run P w = .ok (.value v) w') (h : wpAny P md ops Q fuel (listed.setIfInBounds i true) (a.put o.dst v) w') : wpAny P md ops Q (fuel + 1) listed a w := by
  refine wpAny_all hr (by simp) (fun j hj => ?_)
  obtain rfl : j = i := by simpa using hj
  unfold wpOp
  simp only [ho, hw, if_true]
  left
  unfold Oper.wp
  rw [hrun]
  exact h
end Go.Proofs.YtlmoibmmjonjoaaGreatDoor
/- Slices of strings that a function makes; plain lemmas. -/
namespace Go.Proofs.YtlmoibmmjonjoaaGreatDoor
set_option linter.unusedVariables false
set_option linter.unusedSimpArgs false
open Go.RowKit

theorem ext_grown {a b c : World} {v : Value} {e : TypeId} {size n : Nat} {xs : List Value} (h : Ext a b) (hown : b.ownsRow a.heap.size e size v n xs) (hg : b.grownBy c v.ownBlock) : Ext a c := by
  have q := (Frm.of_ext (S := fun _ => False) h).grown hg (by
    intro k hk
    right
    rcases hown with ⟨_, ⟨rfl, _⟩ | ⟨g, cap, cur, rfl, hb, _⟩⟩
    · cases hk
    · have : g = k := Option.some.inj hk
      omega)
  exact q.ext (fun k hk => hk.elim)
theorem own_slice {w : World} {base size n : Nat} {e : TypeId} {v : Value} {xs : List Value} (h : w.ownsRow base e size v n xs) : ∃ ao cv, v = .slice ao n cv := by
  obtain ⟨_, ⟨rfl, rfl⟩ | ⟨g, cap, cur, rfl, _⟩⟩ := h
  · exact ⟨_, _, rfl⟩
  · exact ⟨_, _, rfl⟩
/-- The strings' values. -/
def sv (P : List (List UInt8)) : List Value := P.map fun l => Value.string ⟨l.toArray⟩
theorem sv_app (P : List (List UInt8)) (x : List UInt8) : sv (P ++ [x]) = sv P ++ [.string ⟨x.toArray⟩] := by simp [sv]
/-- A readable row of strings. -/
def RdS (ws : List (List UInt8)) (R off : Nat) (w : World) : Prop := R < w.heap.size ∧ ∀ i (h : i < ws.length), w.cell? ⟨R, off + i, none⟩ = some (.string ⟨ws[i].toArray⟩)
theorem RdS.ext {ws : List (List UInt8)} {R off : Nat} {w w' : World} (h : RdS ws R off w) (hE : Ext w w') : RdS ws R off w' := ⟨hE.lt h.1, fun i hi => (hE.cells _ _ h.1).trans (h.2 i hi)⟩
theorem RdS.drop {ws : List (List UInt8)} {R off : Nat} {w : World} (h : RdS ws R off w) (k : Nat) : RdS (ws.drop k) R (off + k) w := by
  refine ⟨h.1, fun i hi => ?_⟩
  rw [List.length_drop] at hi
  have := h.2 (k + i) (by omega)
  rw [← Nat.add_assoc] at this
  rw [List.getElem_drop]
  exact this
theorem RdS.of_own {w : World} {base n : Nat} {e : TypeId} {v : Value} {P : List (List UInt8)} (h : w.ownsRow base e 1 v n (sv P)) (hn : n = P.length) (hp : P ≠ []) : ∃ R cap, v = .slice (some ⟨R, 0, none⟩) P.length cap ∧ P.length ≤ cap ∧ cap ≤ maxLen ∧ RdS P R 0 w ∧ base ≤ R := by
  subst hn
  obtain ⟨_, ⟨_, h0⟩ | ⟨g, cap, cur, rfl, hb, hg, hc, hm, hs, ht⟩⟩ := h
  · exact absurd (List.length_eq_zero_iff.1 h0) hp
  · refine ⟨g, cap, rfl, hc, hm, ⟨?_, fun i hi => ?_⟩, hb⟩
    · rcases Nat.lt_or_ge g w.heap.size with q | q
      · exact q
      · rw [Array.getElem?_eq_none q] at hg; cases hg
    · have e1 : cur[i]? = (sv P)[i]? := by
        rw [← ht, Nat.mul_one, List.getElem?_take_of_lt hi, Array.getElem?_toList]
      have e2 : w.cell? ⟨g, 0 + i, none⟩ = cur[i]? := by simp [World.cell?, hg]
      rw [e2, e1]
      simp [sv, hi]
theorem spl_no (c : UInt8) : ∀ a : List UInt8, (∀ x ∈ a, x ≠ c) → spl c a = [a]
  | [], _ => rfl
  | d :: r, h => by rw [spl, if_neg (h d (by simp)), spl_no c r (fun x hx => h x (by simp [hx]))]
theorem spl_step (c : UInt8) (b : List UInt8) : ∀ a : List UInt8, (∀ x ∈ a, x ≠ c) → spl c (a ++ c :: b) = a :: spl c b
  | [], _ => spl_hit c b
  | d :: r, h => by rw [List.cons_append, spl, if_neg (h d (by simp)), spl_step c b r (fun x hx => h x (by simp [hx]))]
end Go.Proofs.YtlmoibmmjonjoaaGreatDoor
/- Patterns, plainly: valid lists of parts, as the program and as the reference ask. No program in sight. -/
namespace Go.Proofs.YtlmoibmmjonjoaaGreatDoor
set_option linter.unusedVariables false
set_option linter.unusedSimpArgs false

/-- The full width of whatever kind. -/
def fullZ (k : Int) : Int := if k = 2 then 4 else if k = 3 ∨ k = 6 ∨ k = 9 ∨ k = 10 ∨ k = 11 ∨ k = 12 then 2 else 0
theorem fullZ_nat (k : Nat) : fullZ (k : Int) = (fullN k : Int) := by
  unfold fullZ fullN
  by_cases h : k = 2
  · subst h; rfl
  · have h' : ¬ (k : Int) = 2 := by omega
    rw [if_neg h, if_neg h']
    by_cases q : k = 3 ∨ k = 6 ∨ k = 9 ∨ k = 10 ∨ k = 11 ∨ k = 12
    · rw [if_pos q, if_pos (by omega)]; rfl
    · rw [if_neg q, if_neg (by omega)]; rfl
/-- The program's letters. -/
def letP : List UInt8 := [63, 39, 121, 77, 77, 77, 100, 69, 69, 72, 104, 109, 115, 97, 90, 122]
def lpK (k : Int) : UInt8 := letP.getD k.toNat 0
/-- A part that a pattern can have. -/
def partB (p : Prt) : Bool :=
  if p.k = 1 then decide (p.w = 0) && decide (1 ≤ p.t.length) && decide (p.t.length ≤ 100) && p.t.all prn
  else decide (1 ≤ p.k) && decide (p.k ≤ 15) && p.t.isEmpty && (if 0 < fullZ p.k then decide (1 ≤ p.w) && decide (p.w ≤ fullZ p.k) else decide (p.w = 0))
/-- Behind the part q (none: the first one) all is well. -/
def tailB : Option Prt → List Prt → Bool
  | _, [] => true
  | none, p :: r => partB p && tailB (some p) r
  | some q, p :: r => partB p && !(lpK p.k == lpK q.k) && tailB (some p) r
def validB (l : List Prt) : Bool := decide (l.length ≤ 40) && tailB none l
theorem partB_kind {p : Prt} (h : partB p = true) : 1 ≤ p.k ∧ p.k ≤ 15 := by
  unfold partB at h
  by_cases hk : p.k = 1
  · omega
  · rw [if_neg hk] at h
    simp only [Bool.and_eq_true, decide_eq_true_eq] at h
    exact h.1.1
/-- As the reference asks of a part behind another one. -/
def refB (q : Option Prt) (p : Prt) : Bool :=
  decide (1 ≤ p.k ∧ p.k ≤ 15) &&
  (if p.k = 1 then !(decide (p.w ≠ 0) || decide (p.t.length < 1) || decide (100 < p.t.length) || (match q with | some q => decide (q.k = 1) | none => false)) && p.t.all prn
   else !(!p.t.isEmpty || decide (fullZ p.k = 0 ∧ p.w ≠ 0) || decide (0 < fullZ p.k ∧ (p.w < 1 ∨ fullZ p.k < p.w))) &&
    !(match q with | some q => decide (q.k ≠ 1) && (lpK q.k == lpK p.k) | none => false))
theorem fullZ_nonneg (k : Int) : 0 ≤ fullZ k := by
  unfold fullZ; split <;> (try split) <;> omega
theorem lpK_one : ∀ k : Nat, k < 16 → (lpK (k : Int) = 39 ↔ k = 1) := by decide
theorem lpK_lit {k : Int} (h1 : 1 ≤ k) (h2 : k ≤ 15) : lpK k = 39 ↔ k = 1 := by
  obtain ⟨n, rfl⟩ : ∃ n : Nat, k = n := ⟨k.toNat, by omega⟩
  rw [lpK_one n (by omega)]; omega
theorem refB_none (p : Prt) : refB none p = partB p := by
  unfold refB partB
  by_cases hk : p.k = 1
  · rw [if_pos hk, if_pos hk]
    have e : decide (1 ≤ p.k ∧ p.k ≤ 15) = true := decide_eq_true (by omega)
    rw [e, Bool.eq_iff_iff]
    simp only [Bool.true_and, Bool.and_eq_true, Bool.not_eq_true', Bool.or_eq_false_iff, decide_eq_false_iff_not, decide_eq_true_eq, and_true, Bool.or_false]
    constructor
    · rintro ⟨⟨⟨a, b⟩, c⟩, d⟩
      exact ⟨⟨⟨by omega, by omega⟩, by omega⟩, d⟩
    · rintro ⟨⟨⟨a, b⟩, c⟩, d⟩
      exact ⟨⟨⟨by omega, by omega⟩, by omega⟩, d⟩
  · rw [if_neg hk, if_neg hk]
    have hf := fullZ_nonneg p.k
    rw [Bool.eq_iff_iff]
    simp only [Bool.and_eq_true, Bool.not_eq_true', Bool.or_eq_false_iff, Bool.not_eq_false', decide_eq_false_iff_not, decide_eq_true_eq, Bool.and_true, Bool.not_false]
    by_cases q : 0 < fullZ p.k
    · simp only [if_pos q, Bool.and_eq_true, decide_eq_true_eq]
      constructor
      · rintro ⟨a, ⟨b, c⟩, d⟩
        exact ⟨⟨a, b⟩, by omega, by omega⟩
      · rintro ⟨⟨a, b⟩, c, d⟩
        exact ⟨a, ⟨b, by omega⟩, by omega⟩
    · simp only [if_neg q, decide_eq_true_eq]
      constructor
      · rintro ⟨a, ⟨b, c⟩, d⟩
        exact ⟨⟨a, b⟩, by omega⟩
      · rintro ⟨⟨a, b⟩, c⟩
        exact ⟨a, ⟨b, by omega⟩, by omega⟩
theorem refB_some (q p : Prt) (hq : 1 ≤ q.k ∧ q.k ≤ 15) : refB (some q) p = (partB p && !(lpK p.k == lpK q.k)) := by
  rw [← refB_none]
  by_cases hr : 1 ≤ p.k ∧ p.k ≤ 15
  · have l1 := lpK_lit hr.1 hr.2
    have l2 := lpK_lit hq.1 hq.2
    unfold refB
    rw [decide_eq_true hr]
    by_cases hk : p.k = 1
    · rw [if_pos hk, if_pos hk, hk]
      have e1 : lpK 1 = 39 := by decide
      by_cases hq1 : q.k = 1
      · simp [hq1]
      · have : ¬ lpK q.k = 39 := fun e => hq1 (l2.1 e)
        have e2 : (lpK 1 == lpK q.k) = false := by rw [beq_eq_false_iff_ne, e1]; exact fun e => this e.symm
        rw [e2]
        simp [hq1]
    · rw [if_neg hk, if_neg hk]
      by_cases hq1 : q.k = 1
      · have e1 : lpK q.k = 39 := l2.2 hq1
        have e2 : (lpK p.k == lpK q.k) = false := by rw [beq_eq_false_iff_ne, e1]; exact fun e => hk (l1.1 e)
        rw [e2]
        simp [hq1]
      · have e2 : (lpK q.k == lpK p.k) = (lpK p.k == lpK q.k) := Bool.beq_comm
        simp [hq1, e2]
  · unfold refB
    rw [decide_eq_false hr]
    simp
end Go.Proofs.YtlmoibmmjonjoaaGreatDoor
/- Patterns, plainly: reading a text by parts. No program in sight. -/
namespace Go.Proofs.YtlmoibmmjonjoaaGreatDoor
set_option linter.unusedVariables false
set_option linter.unusedSimpArgs false

/-- The five lists of names. -/
structure Nms where
  mo : List (List UInt8)
  sh : List (List UInt8)
  da : List (List UInt8)
  sd : List (List UInt8)
  ha : List (List UInt8)
def nmOk (N : Nms) : Bool := nmsB 30 N.mo && nmsB 30 N.sh && nmsB 30 N.da && nmsB 30 N.sd && nmsB 30 N.ha
def lstK (N : Nms) (k : Int) : List (List UInt8) := if k = 4 then N.sh else if k = 5 then N.mo else if k = 7 then N.sd else if k = 8 then N.da else N.ha
/-- How many digits a text begins with, at most some number. -/
def digN (s : List UInt8) (most : Nat) : Nat := ((s.take most).takeWhile isDg).length
theorem digN_le (s : List UInt8) (most : Nat) : digN s most ≤ most ∧ digN s most ≤ s.length := by
  unfold digN
  have h := (List.takeWhile_sublist (isDg) (l := s.take most)).length_le
  rw [List.length_take] at h
  omega
def colB (s : List UInt8) (i : Nat) : Bool := decide (i + 3 ≤ s.length) && decide (s.getD i 0 = 58) && isDg (s.getD (i + 1) 0) && isDg (s.getD (i + 2) 0)
def tyC (c : UInt8) : Bool := isLt c || isDg c || decide (c = 43) || decide (c = 45)
def tyN (s : List UInt8) : Nat := ((s.take 8).takeWhile tyC).length
def offB (s : List UInt8) : Bool := decide (6 ≤ s.length) && (decide (s.headD 0 = 43) || decide (s.headD 0 = 45)) && decide (digN (s.drop 1) 2 = 2) && colB s 3
/-- The first name with which a text begins: its index. -/
def namI (l : List (List UInt8)) (s : List UInt8) : Nat := l.findIdx fun x => x.isPrefixOf s
/-- How many digits are read for p before q. -/
def mostN (p : Prt) (q : Option Prt) : Nat := if (match q with | some q => decide (0 < fullZ q.k) | none => false) then p.w.toNat else (fullZ p.k).toNat
/-- A part is read: how many bytes, and the value of its field. -/
def rd1 (N : Nms) (p : Prt) (q : Option Prt) (s : List UInt8) : Option (Nat × List (Int × Nat)) :=
  if p.k = 1 then (if p.t.isPrefixOf s then some (p.t.length, []) else none)
  else if p.k = 14 then (if offB s then some (if colB s 6 then 9 else 6, []) else none)
  else if p.k = 15 then (if tyN s = 0 then none else some (tyN s, []))
  else if 0 < fullZ p.k then
    (if (digN s (mostN p q) : Int) < p.w then none else some (digN s (mostN p q), [(p.k, val (s.take (digN s (mostN p q))))]))
  else if namI (lstK N p.k) s < (lstK N p.k).length then some (((lstK N p.k).getD (namI (lstK N p.k) s) []).length, [(p.k, namI (lstK N p.k) s)]) else none
/-- All parts: the place of an error, or the values of the fields in the order in which they were read. -/
def rdL (N : Nms) : List Prt → List UInt8 → Nat → List (Int × Nat) → Nat ⊕ List (Int × Nat)
  | [], s, i, vs => if s.isEmpty then .inr vs else .inl (i + 1)
  | p :: r, s, i, vs => match rd1 N p r.head? s with
    | none => .inl (i + 1)
    | some (n, v) => rdL N r (s.drop n) (i + n) (vs ++ v)
end Go.Proofs.YtlmoibmmjonjoaaGreatDoor
