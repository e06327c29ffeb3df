/- A map literal's entries; plain laws at the operations. -/
import Derived.Test.YticckkadmhklmaaGreatDoorK00
import Derived.Test.YticckkadmhklmaaGreatDoorK02
import Derived.Maps.RangeWalk
import Derived.Maps.Own
import Derived.Maps.Views
import Derived.Maps.OwnSet
import Derived.RegionTactic
import Derived.Laws.AppendOwn
import Derived.Maps.AppendAt
import Derived.Laws.Slices
namespace Go.Proofs.YticckkadmhklmaaGreatDoor
set_option linter.unusedVariables false
set_option linter.unusedSimpArgs false
open Go.RowKit Go.Maps

theorem wpList_insert_own {H : Type} {P : Program} (w : World) {ops : Array Oper} {rest : List Oper} {o : Oper} {a : Act} {Q : Exit → Act → World → Prop}
    (hg : o.guard = none) (m x v : Operand) (t : TypeId) (hop : o.op = Op.insert t m x v)
    (k e : TypeId) (K : Keyed P k) (ht : P.underlying t = some (.map k e)) (R : Value → Option (DataW H × List MemPlace)) (b n : Nat) (D : DataW H)
    (hm : a.eval m = .map (some b)) (hown : w.ownsMap P k R b n D) (hn : n < maxLen) (key val : Value) (kl : Lit) (hx : a.eval x = key) (hv : a.eval v = val) (hkey : keyOf P k key = some kl)
    (d : DataW H) (ps : List MemPlace) (hval : R val = some (d, ps))
    (hK : ∀ w', w'.ownsMap P k R b (n + 1) (D.put kl d) → w.grownBy w' (some b) → wpList P ops Q rest (a.put o.dst undef) w') :
    wpList P ops Q (o :: rest) a w := by
  refine wpList_plain hg fun K' hK' => ?_
  obtain ⟨w', hrun, r1, r2⟩ := hown.update K ht hn hkey hval
  unfold Oper.wp
  simp [execOp, hop, hm, hx, hv, hrun, Result.andThen]
  exact hK' _ _ (hK w' r1 r2)
theorem ext_grown_at {a b c : World} {g : Nat} (h : Ext a b) (hg : b.grownBy c (some g)) (hb : a.heap.size ≤ g) : Ext a c := by
  refine ⟨hg.os.trans h.os, hg.tape.trans h.tape, hg.output.trans h.output, Nat.le_trans h.size hg.size, fun k hk => ?_⟩
  rw [hg.block k (Nat.lt_of_lt_of_le hk h.size) (by intro e; injection e with e; omega)]
  exact h.block k hk
theorem ext_grown_none {a b c : World} (h : Ext a b) (hg : b.grownBy c none) : Ext a c := by
  refine ⟨hg.os.trans h.os, hg.tape.trans h.tape, hg.output.trans h.output, Nat.le_trans h.size hg.size, fun k hk => ?_⟩
  rw [hg.block k (Nat.lt_of_lt_of_le hk h.size) (by intro e; cases e)]
  exact h.block k hk
theorem grown_ext {a b : World} (h : Ext a b) (row : Option Nat) : a.grownBy b row := ⟨h.os, h.tape, h.output, h.size, fun k hk _ => h.block k hk⟩
end Go.Proofs.YticckkadmhklmaaGreatDoor
/- A region that lays several entries into one map, in whatever order: a plain law over any program. -/
namespace Go.Proofs.YticckkadmhklmaaGreatDoor
set_option linter.unusedVariables false
set_option linter.unusedSimpArgs false
open Go Go.Maps Go.RowKit

/-- An entry to be laid: the operation, its key, the key's datum, its value, the value's datum. -/
structure InsE where
  i : Nat
  kz : Int
  val : Value
  d : DataW Unit
/-- Whichever of J comes next, the others may come behind it; in the end L. -/
def insChk (md : Region.Mode) (ops : Array Oper) : Nat → List Nat → Array Bool → Array Bool → Bool
  | 0, J, listed, L => J.isEmpty && listed == L
  | f + 1, J, listed, L => decide (Region.ready md ops listed = J) && J.all fun i => insChk md ops f (J.filter (fun j => j != i)) (listed.setIfInBounds i true) L
/-- What stands at a key behind the entries J. -/
def insAt (J : List InsE) (kl : Int) (z : DataW Unit) : DataW Unit := match J.find? (fun j => decide (j.kz = kl)) with | some j => j.d | none => z
def InsOk (P : Program) (ops : Array Oper) (t k : TypeId) (R : Value → Option (DataW Unit × List MemPlace)) (m : Operand) (a : Act) (j : InsE) : Prop :=
  ∃ (o : Oper) (x v : Operand), ops[j.i]? = some o ∧ o.guard = none ∧ o.dst = none ∧ o.op = .insert t m x v ∧ a.eval x = .int .i64 j.kz ∧ a.eval v = j.val ∧ keyOf P k (.int .i64 j.kz) = some (.int .i64 j.kz) ∧ ∃ ps, R j.val = some (j.d, ps)
theorem find_filter_ne (J : List InsE) (i : Nat) (kl ki : Int) (hk : kl ≠ ki) (h : ∀ j ∈ J, j.i = i → j.kz = ki) :
    (J.filter (fun j => j.i != i)).find? (fun j => decide (j.kz = kl)) = J.find? (fun j => decide (j.kz = kl)) := by
  induction J with
  | nil => rfl
  | cons j r ih =>
    have ih := ih (fun j hj => h j (by simp [hj]))
    by_cases e : j.i = i
    · have e2 := h j (by simp) e
      rw [List.filter_cons_of_neg (by simp [e]), ih, List.find?_cons_of_neg (by rw [e2]; simpa using Ne.symm hk)]
    · rw [List.filter_cons_of_pos (by simpa using e)]
      by_cases q : j.kz = kl
      · rw [List.find?_cons_of_pos (by simpa using q), List.find?_cons_of_pos (by simpa using q)]
      · rw [List.find?_cons_of_neg (by simpa using q), List.find?_cons_of_neg (by simpa using q), ih]
theorem ins_inj : ∀ (l : List InsE), (l.map (·.i)).Nodup → ∀ p ∈ l, ∀ q ∈ l, p.i = q.i → p = q
  | [], _, p, hp, _, _, _ => by cases hp
  | z :: r, hl, p, hp, q, hq, hpq => by
    rw [List.map_cons, List.nodup_cons] at hl
    rcases List.mem_cons.1 hp with e1 | hp
    · rcases List.mem_cons.1 hq with e2 | hq
      · rw [e1, e2]
      · exact absurd (List.mem_map.2 ⟨q, hq, by rw [← hpq, e1]⟩) hl.1
    · rcases List.mem_cons.1 hq with e2 | hq
      · exact absurd (List.mem_map.2 ⟨p, hp, by rw [hpq, e2]⟩) hl.1
      · exact ins_inj r hl.2 p hp q hq hpq
theorem wpAny_inserts {P : Program} {md : Region.Mode} {ops : Array Oper} {Q : Exit → Act → World → Prop} {t k e : TypeId} (K : Keyed P k) (ht : P.underlying t = some (.map k e)) (R : Value → Option (DataW Unit × List MemPlace))
    {m : Operand} {b fuel : Nat} {L : Array Bool} {a : Act} (hm : a.eval m = .map (some b)) :
    ∀ (n : Nat) (J : List InsE) (listed : Array Bool) (w : World) (c : Nat) (D : DataW Unit), J.length = n → insChk md ops n (J.map (·.i)) listed L = true → (∀ j ∈ J, InsOk P ops t k R m a j) →
    (J.map (·.i)).Nodup → (∀ j ∈ J, ∀ j' ∈ J, j.kz = j'.kz → j.i = j'.i) → w.ownsMap P k R b c D → IsMap D → c + n < maxLen →
    (∀ w' D', w'.ownsMap P k R b (c + n) D' → w.grownBy w' (some b) → (∀ (kl : Int) zd, D'.atKey (.int .i64 kl) zd = insAt J kl (D.atKey (.int .i64 kl) zd)) → wpAny P md ops Q fuel L a w') →
    wpAny P md ops Q (n + fuel) listed a w
  | 0, J, listed, w, c, D, hJ, hchk, hok, hnd, hkk, hown, hmap, hc, hend => by
    obtain rfl : J = [] := List.length_eq_zero_iff.1 hJ
    simp only [insChk, Bool.and_eq_true, beq_iff_eq] at hchk
    rw [Nat.zero_add, hchk.2]
    exact hend w D hown ⟨rfl, rfl, rfl, Nat.le_refl _, fun _ _ _ => rfl⟩ (fun kl zd => rfl)
  | n + 1, J, listed, w, c, D, hJ, hchk, hok, hnd, hkk, hown, hmap, hc, hend => by
    simp only [insChk, Bool.and_eq_true, decide_eq_true_eq, List.all_eq_true] at hchk
    obtain ⟨hready, hall⟩ := hchk
    have hne : J.map (·.i) ≠ [] := by
      intro q
      have := congrArg List.length q
      simp at this
      rw [this] at hJ
      cases hJ
    rw [show n + 1 + fuel = (n + fuel) + 1 by omega]
    refine ⟨fun h0 => absurd (hready.symm.trans h0) hne, fun i hi => ?_⟩
    rw [hready] at hi
    obtain ⟨j, hj, rfl⟩ := List.mem_map.1 hi
    obtain ⟨o, x, v, ho, hg, hd, hop, hx, hv, hkl, ps, hR⟩ := hok j hj
    have hw : Region.wanted o (yielded ops a.tmps) = true := by simp [Region.wanted, hg]
    unfold wpOp
    simp only [ho, hw, if_true]
    left
    obtain ⟨w1, hrun, hown1, hg1⟩ := hown.update K ht (by omega) hkl hR
    unfold Oper.wp
    simp [execOp, hop, hm, hx, hv, hrun, Result.andThen]
    rw [Oper.upon_skip, hd]
    show wpAny P md ops Q (n + fuel) (listed.setIfInBounds j.i true) a w1
    have hf : (J.filter (fun y => y.i != j.i)).map (·.i) = (J.map (·.i)).filter (fun y => y != j.i) := by
      rw [List.filter_map]; rfl
    have hlen : (J.filter (fun y => y.i != j.i)).length = n := by
      have h1 : ((J.map (·.i)).filter (fun y => y != j.i)) = (J.map (·.i)).erase j.i := by rw [hnd.erase_eq_filter]
      have h2 := congrArg List.length h1
      rw [← hf, List.length_map, List.length_erase_of_mem (List.mem_map.2 ⟨j, hj, rfl⟩), List.length_map, hJ] at h2
      omega
    refine wpAny_inserts (L := L) K ht R hm n (J.filter (fun y => y.i != j.i)) (listed.setIfInBounds j.i true) w1 (c + 1) (D.put (.int .i64 j.kz) j.d) hlen ?_ (fun y hy => hok y (List.mem_filter.1 hy).1) ?_ (fun y hy z hz => hkk y (List.mem_filter.1 hy).1 z (List.mem_filter.1 hz).1) hown1 (hmap.put _ _) (by omega) ?_
    · rw [hf]; exact hall _ hi
    · rw [hf]; exact hnd.filter _
    · intro w' D' hown' hg' hat
      refine hend w' D' (by rw [show c + (n + 1) = c + 1 + n by omega]; exact hown') ?_ ?_
      · exact ⟨hg'.os.trans hg1.os, hg'.tape.trans hg1.tape, hg'.output.trans hg1.output, Nat.le_trans hg1.size hg'.size, fun q hq hne => (hg'.block q (Nat.lt_of_lt_of_le hq hg1.size) hne).trans (hg1.block q hq hne)⟩
      · intro kl zd
        rw [hat kl zd]
        by_cases e : kl = j.kz
        · subst e
          rw [atKey_put_same (k := .int .i64 j.kz) hmap trivial]
          have e1 : (J.filter (fun y => y.i != j.i)).find? (fun y => decide (y.kz = j.kz)) = none := by
            rw [List.find?_eq_none]
            intro y hy
            obtain ⟨y1, y2⟩ := List.mem_filter.1 hy
            have y2 : y.i ≠ j.i := by simpa using y2
            simpa using fun q => y2 (hkk y y1 j hj q)
          have e2 : ∃ y, J.find? (fun y => decide (y.kz = j.kz)) = some y ∧ y = j := by
            cases q : J.find? (fun y => decide (y.kz = j.kz)) with
            | none => exact absurd (List.find?_eq_none.1 q j hj) (by simp)
            | some y =>
              refine ⟨y, rfl, ?_⟩
              have hy := List.mem_of_find?_eq_some q
              have hp := List.find?_some q
              have hp : y.kz = j.kz := by simpa using hp
              have hi2 := hkk y hy j hj hp
              exact ins_inj J hnd y hy j hj hi2
          obtain ⟨y, e2, rfl⟩ := e2
          unfold insAt
          rw [e1, e2]
        · rw [atKey_put_other (by intro q; injection q with _ q; exact e q)]
          unfold insAt
          rw [find_filter_ne J j.i kl j.kz e (fun y hy q => by
            have : y.kz = j.kz := by
              rw [ins_inj J hnd y hy j hj q]
            exact this)]
theorem yl_field {P : Program} {o : Oper} {a : Act} {s : TypeId} {x : Operand} {f : Nat} {u v : Value} (hop : o.op = .fieldAddr s x f) (hx : a.eval x = u) (hrun : ∀ w, (Instr.fieldAt s u f).run P w = .ok v w) : ∀ w, (execOp a.eval o).run P w = .ok (.value v) w := by
  intro w
  unfold execOp
  simp [hop, hx, hrun, Result.andThen]
theorem yl_slice {P : Program} {o : Oper} {a : Act} {s : TypeId} {x : Operand} {u v : Value} (hop : o.op = .slice s x none none none) (hx : a.eval x = u) (hrun : ∀ w, (Instr.sliceAt s u none none none).run P w = .ok v w) : ∀ w, (execOp a.eval o).run P w = .ok (.value v) w := by
  intro w
  unfold execOp
  simp [hop, hx, hrun, Result.andThen]
theorem yl_move {P : Program} {o : Oper} {a : Act} {x : Operand} {u : Value} (hop : o.op = .move x) (hx : a.eval x = u) : ∀ w, (execOp a.eval o).run P w = .ok (.value u) w := by
  intro w
  unfold execOp
  simp [hop, hx, Result.andThen]
theorem yl_assign {P : Program} {o : Oper} {a : Act} {x : Operand} {u : Value} (hop : o.op = .assign x) (hx : a.eval x = u) : ∀ w, (execOp a.eval o).run P w = .ok (.value u) w := by
  intro w
  unfold execOp
  simp [hop, hx, Result.andThen]
theorem yl_make {P : Program} {o : Oper} {a : Act} {t : TypeId} (hop : o.op = .makeMap t none) (w : World) : (execOp a.eval o).run P w = .ok (.value (.map (some w.heap.size))) (w.alloc (.map #[] 0)) := by
  have hmm := @run_makeMap P
  unfold execOp
  simp [hop, hmm, Result.andThen]
theorem wpAny_one {P : Program} {md : Region.Mode} {ops : Array Oper} {Q : Exit → Act → World → Prop} {fuel i : Nat} {listed : Array Bool} {a : Act} {w w' : World} {o : Oper} {v : Value} (hr : Region.ready md ops listed = [i]) (ho : ops[i]? = some o)
    (hw : Region.wanted o (yielded ops a.tmps) = true) (hrun : (execOp a.eval o).run P w = .ok (.value v) w') (h : wpAny P md ops Q fuel (listed.setIfInBounds i true) (a.put o.dst v) w') : wpAny P md ops Q (fuel + 1) listed a w := by
  refine wpAny_all hr (by simp) (fun j hj => ?_)
  obtain rfl : j = i := by simpa using hj
  unfold wpOp
  simp only [ho, hw, if_true]
  left
  unfold Oper.wp
  rw [hrun]
  exact h
end Go.Proofs.YticckkadmhklmaaGreatDoor
/- Frames: what stays as it was outside some blocks. -/
namespace Go.Proofs.YticckkadmhklmaaGreatDoor
open Go.RowKit

/-- Outside S, and apart from what is new, the world w' is as w. -/
structure Frm (S : Nat → Prop) (w w' : World) : Prop where
  os : w'.os = w.os
  tape : w'.tape = w.tape
  output : w'.output = w.output
  size : w.heap.size ≤ w'.heap.size
  block : ∀ k, k < w.heap.size → ¬ S k → w'.heap[k]? = w.heap[k]?
theorem Frm.refl (S : Nat → Prop) (w : World) : Frm S w w := ⟨rfl, rfl, rfl, Nat.le_refl _, fun _ _ _ => rfl⟩
theorem Frm.trans {S : Nat → Prop} {a b c : World} (h : Frm S a b) (k : Frm S b c) : Frm S a c :=
  ⟨k.os.trans h.os, k.tape.trans h.tape, k.output.trans h.output, Nat.le_trans h.size k.size, fun i hi hs => (k.block i (Nat.lt_of_lt_of_le hi h.size) hs).trans (h.block i hi hs)⟩
theorem Frm.mono {S T : Nat → Prop} {a b : World} (h : Frm S a b) (hs : ∀ k, k < a.heap.size → S k → T k) : Frm T a b :=
  ⟨h.os, h.tape, h.output, h.size, fun i hi ht => h.block i hi fun q => ht (hs i hi q)⟩
theorem Frm.of_ext {S : Nat → Prop} {a b : World} (h : Ext a b) : Frm S a b := ⟨h.os, h.tape, h.output, h.size, fun i hi _ => h.block i hi⟩
theorem Frm.ext {S : Nat → Prop} {a b : World} (h : Frm S a b) (hs : ∀ k, S k → a.heap.size ≤ k) : Ext a b :=
  ⟨h.os, h.tape, h.output, h.size, fun i hi => h.block i hi fun q => by have := hs i q; omega⟩
theorem Frm.drewN {S : Nat → Prop} {a b : World} (h : Frm S a b) (n : Nat) : Frm S a (b.drewN n) := ⟨h.os, h.tape, h.output, h.size, h.block⟩
theorem Frm.drew {S : Nat → Prop} {a b : World} (h : Frm S a b) : Frm S a b.drew := ⟨h.os, h.tape, h.output, h.size, h.block⟩
theorem Frm.alloc {S : Nat → Prop} {a b : World} (h : Frm S a b) (o : Obj) : Frm S a (b.alloc o) :=
  h.trans (Frm.of_ext ((Ext.refl b).alloc o))
theorem Frm.setCell {S : Nat → Prop} {a b : World} (h : Frm S a b) {p : Addr} (hp : S p.block ∨ a.heap.size ≤ p.block) (u : Value) : Frm S a (b.setCell p u) :=
  ⟨h.os, h.tape, h.output, by simpa [World.setCell] using h.size, fun i hi hs => (Below.heap_setCell b p u i (by rintro rfl; rcases hp with q | q; exact hs q; omega)).trans (h.block i hi hs)⟩
theorem Frm.grown {S : Nat → Prop} {a b c : World} {row : Option Nat} (h : Frm S a b) (hg : b.grownBy c row) (hr : ∀ k, row = some k → S k ∨ a.heap.size ≤ k) : Frm S a c :=
  ⟨hg.os.trans h.os, hg.tape.trans h.tape, hg.output.trans h.output, Nat.le_trans h.size hg.size, fun i hi hs => (hg.block i (Nat.lt_of_lt_of_le hi h.size) (fun e => by rcases hr i e.symm with q | q; exact hs q; omega)).trans (h.block i hi hs)⟩

theorem Frm.cel {S : Nat → Prop} {w w' : World} (h : Frm S w w') {b : Nat} (hb : b < w.heap.size) (hs : ¬ S b) (o : Nat) : w'.cell? ⟨b, o, none⟩ = w.cell? ⟨b, o, none⟩ := by
  unfold World.cell?
  rw [h.block b hb hs]
theorem Frm.frz {S : Nat → Prop} {w w' : World} (h : Frm S w w') {b : Nat} (hb : b < w.heap.size) (hs : ¬ S b) (o : Nat) : w'.frozen? ⟨b, o, none⟩ = w.frozen? ⟨b, o, none⟩ := by
  unfold World.frozen?
  rw [h.block b hb hs]
theorem Frm.lt {S : Nat → Prop} {w w' : World} (h : Frm S w w') {n : Nat} (hn : n < w.heap.size) : n < w'.heap.size := Nat.lt_of_lt_of_le hn h.size
theorem Frm.far {S : Nat → Prop} {a w w' : World} (hE : Ext a w) (h : Frm S w w') (hS : ∀ k, k < a.heap.size → ¬ S k) : Ext a w' :=
  ⟨h.os.trans hE.os, h.tape.trans hE.tape, h.output.trans hE.output, Nat.le_trans hE.size h.size, fun k hk => (h.block k (Nat.lt_of_lt_of_le hk hE.size) (hS k hk)).trans (hE.block k hk)⟩
end Go.Proofs.YticckkadmhklmaaGreatDoor
/- Slices of strings that a function makes; plain lemmas. -/
namespace Go.Proofs.YticckkadmhklmaaGreatDoor
set_option linter.unusedVariables false
set_option linter.unusedSimpArgs false
open Go.RowKit

theorem ext_grown {a b c : World} {v : Value} {e : TypeId} {size n : Nat} {xs : List Value} (h : Ext a b) (hown : b.ownsRow a.heap.size e size v n xs) (hg : b.grownBy c v.ownBlock) : Ext a c := by
  have q := (Frm.of_ext (S := fun _ => False) h).grown hg (by
    intro k hk
    right
    rcases hown with ⟨_, ⟨rfl, _⟩ | ⟨g, cap, cur, rfl, hb, _⟩⟩
    · cases hk
    · have : g = k := Option.some.inj hk
      omega)
  exact q.ext (fun k hk => hk.elim)
theorem own_slice {w : World} {base size n : Nat} {e : TypeId} {v : Value} {xs : List Value} (h : w.ownsRow base e size v n xs) : ∃ ao cv, v = .slice ao n cv := by
  obtain ⟨_, ⟨rfl, rfl⟩ | ⟨g, cap, cur, rfl, _⟩⟩ := h
  · exact ⟨_, _, rfl⟩
  · exact ⟨_, _, rfl⟩
/-- The strings' values. -/
def sv (P : List (List UInt8)) : List Value := P.map fun l => Value.string ⟨l.toArray⟩
theorem sv_app (P : List (List UInt8)) (x : List UInt8) : sv (P ++ [x]) = sv P ++ [.string ⟨x.toArray⟩] := by simp [sv]
/-- A readable row of strings. -/
def RdS (ws : List (List UInt8)) (R off : Nat) (w : World) : Prop := R < w.heap.size ∧ ∀ i (h : i < ws.length), w.cell? ⟨R, off + i, none⟩ = some (.string ⟨ws[i].toArray⟩)
theorem RdS.ext {ws : List (List UInt8)} {R off : Nat} {w w' : World} (h : RdS ws R off w) (hE : Ext w w') : RdS ws R off w' := ⟨hE.lt h.1, fun i hi => (hE.cells _ _ h.1).trans (h.2 i hi)⟩
theorem RdS.drop {ws : List (List UInt8)} {R off : Nat} {w : World} (h : RdS ws R off w) (k : Nat) : RdS (ws.drop k) R (off + k) w := by
  refine ⟨h.1, fun i hi => ?_⟩
  rw [List.length_drop] at hi
  have := h.2 (k + i) (by omega)
  rw [← Nat.add_assoc] at this
  rw [List.getElem_drop]
  exact this
theorem RdS.of_own {w : World} {base n : Nat} {e : TypeId} {v : Value} {P : List (List UInt8)} (h : w.ownsRow base e 1 v n (sv P)) (hn : n = P.length) (hp : P ≠ []) : ∃ R cap, v = .slice (some ⟨R, 0, none⟩) P.length cap ∧ P.length ≤ cap ∧ cap ≤ maxLen ∧ RdS P R 0 w ∧ base ≤ R := by
  subst hn
  obtain ⟨_, ⟨_, h0⟩ | ⟨g, cap, cur, rfl, hb, hg, hc, hm, hs, ht⟩⟩ := h
  · exact absurd (List.length_eq_zero_iff.1 h0) hp
  · refine ⟨g, cap, rfl, hc, hm, ⟨?_, fun i hi => ?_⟩, hb⟩
    · rcases Nat.lt_or_ge g w.heap.size with q | q
      · exact q
      · rw [Array.getElem?_eq_none q] at hg; cases hg
    · have e1 : cur[i]? = (sv P)[i]? := by
        rw [← ht, Nat.mul_one, List.getElem?_take_of_lt hi, Array.getElem?_toList]
      have e2 : w.cell? ⟨g, 0 + i, none⟩ = cur[i]? := by simp [World.cell?, hg]
      rw [e2, e1]
      simp [sv, hi]
theorem spl_no (c : UInt8) : ∀ a : List UInt8, (∀ x ∈ a, x ≠ c) → spl c a = [a]
  | [], _ => rfl
  | d :: r, h => by rw [spl, if_neg (h d (by simp)), spl_no c r (fun x hx => h x (by simp [hx]))]
theorem spl_step (c : UInt8) (b : List UInt8) : ∀ a : List UInt8, (∀ x ∈ a, x ≠ c) → spl c (a ++ c :: b) = a :: spl c b
  | [], _ => spl_hit c b
  | d :: r, h => by rw [List.cons_append, spl, if_neg (h d (by simp)), spl_step c b r (fun x hx => h x (by simp [hx]))]
end Go.Proofs.YticckkadmhklmaaGreatDoor
/- Patterns: the walk of lists. -/
namespace Go.Proofs.YticckkadmhklmaaGreatDoor
set_option linter.unusedVariables false
set_option linter.unusedSimpArgs false
open Go.RowKit Go.Maps

def Nms.all (N : Nms) : List (List UInt8) := N.mo ++ (N.sh ++ (N.da ++ (N.sd ++ N.ha)))
/-- The names' value. -/
def nmV (N : Nms) : Value := .agg (sv N.all).toArray
/-- A slice of the block B, as a datum: its offset and its length. -/
def slR (B : Nat) (v : Value) : Option (DataW Unit × List MemPlace) :=
  match v with
  | .slice (some ⟨b, o, none⟩) n c => if b = B ∧ c = n then some (.agg [.lit (.int .i64 o), .lit (.int .i64 n)], []) else none
  | .slice none 0 0 => some (.nil, [])
  | _ => none
theorem mkeyI : Keyed Tryz.prog 3 := int_keyed Tryz.underlying3
set_option maxRecDepth 100000 in
theorem sl33 (B o : Nat) (w : World) : (Instr.sliceAt 23 (.pointer (some ⟨B, o, none⟩)) none none none).run Tryz.prog w = .ok (.slice (some ⟨B, o, none⟩) 12 12) w := by
  rw [run_sliceAt_array_all (P := Tryz.prog) w 23 ⟨B, o, none⟩ (by kernel_rfl)]
  have e1 : (sizeOf (Tryz.prog.elem 23)).run Tryz.prog w = .ok 1 w := by kernel_rfl
  rw [e1]
  rfl
set_option maxRecDepth 100000 in
theorem sl34 (B o : Nat) (w : World) : (Instr.sliceAt 24 (.pointer (some ⟨B, o, none⟩)) none none none).run Tryz.prog w = .ok (.slice (some ⟨B, o, none⟩) 7 7) w := by
  rw [run_sliceAt_array_all (P := Tryz.prog) w 24 ⟨B, o, none⟩ (by kernel_rfl)]
  have e1 : (sizeOf (Tryz.prog.elem 24)).run Tryz.prog w = .ok 1 w := by kernel_rfl
  rw [e1]
  rfl
set_option maxRecDepth 100000 in
theorem sl35 (B o : Nat) (w : World) : (Instr.sliceAt 25 (.pointer (some ⟨B, o, none⟩)) none none none).run Tryz.prog w = .ok (.slice (some ⟨B, o, none⟩) 2 2) w := by
  rw [run_sliceAt_array_all (P := Tryz.prog) w 25 ⟨B, o, none⟩ (by kernel_rfl)]
  have e1 : (sizeOf (Tryz.prog.elem 25)).run Tryz.prog w = .ok 1 w := by kernel_rfl
  rw [e1]
  rfl
set_option maxRecDepth 100000 in
theorem fa_0 (B : Nat) (w : World) : (Instr.fieldAt 27 (.pointer (some ⟨B, 0, none⟩)) 0).run Tryz.prog w = .ok (.pointer (some ⟨B, 0, none⟩)) w := by
  go_simp
set_option maxRecDepth 100000 in
theorem fa_1 (B : Nat) (w : World) : (Instr.fieldAt 27 (.pointer (some ⟨B, 0, none⟩)) 1).run Tryz.prog w = .ok (.pointer (some ⟨B, 12, none⟩)) w := by
  go_simp
set_option maxRecDepth 100000 in
theorem fa_2 (B : Nat) (w : World) : (Instr.fieldAt 27 (.pointer (some ⟨B, 0, none⟩)) 2).run Tryz.prog w = .ok (.pointer (some ⟨B, 24, none⟩)) w := by
  go_simp
set_option maxRecDepth 100000 in
theorem fa_3 (B : Nat) (w : World) : (Instr.fieldAt 27 (.pointer (some ⟨B, 0, none⟩)) 3).run Tryz.prog w = .ok (.pointer (some ⟨B, 31, none⟩)) w := by
  go_simp
set_option maxRecDepth 100000 in
theorem fa_4 (B : Nat) (w : World) : (Instr.fieldAt 27 (.pointer (some ⟨B, 0, none⟩)) 4).run Tryz.prog w = .ok (.pointer (some ⟨B, 38, none⟩)) w := by
  go_simp
/-- The five entries. -/
def lsJ (B : Nat) : List InsE := [⟨3, 5, .slice (some ⟨B, 0, none⟩) 12 12, .agg [.lit (.int .i64 0), .lit (.int .i64 12)]⟩, ⟨6, 4, .slice (some ⟨B, 12, none⟩) 12 12, .agg [.lit (.int .i64 12), .lit (.int .i64 12)]⟩, ⟨9, 8, .slice (some ⟨B, 24, none⟩) 7 7, .agg [.lit (.int .i64 24), .lit (.int .i64 7)]⟩, ⟨12, 7, .slice (some ⟨B, 31, none⟩) 7 7, .agg [.lit (.int .i64 31), .lit (.int .i64 7)]⟩, ⟨15, 13, .slice (some ⟨B, 38, none⟩) 2 2, .agg [.lit (.int .i64 38), .lit (.int .i64 2)]⟩]
set_option maxRecDepth 100000 in
set_option maxHeartbeats 1000000 in
theorem lists_c (A : Array Value) (w : World) : Calls Tryz.prog 36 #[.agg A] w fun e w' => ∃ b D, e = .returned (.map (some b)) ∧ w'.ownsMap Tryz.prog 3 (slR w.heap.size) b 5 D ∧ (∀ (z : Int) zd, D.atKey (.int .i64 z) zd = insAt (lsJ w.heap.size) z zd) ∧ w.heap.size < w'.heap.size ∧ (∀ o, w'.cell? ⟨w.heap.size, o, none⟩ = A[o]?) ∧ Ext w w' := by
  have hmm := @run_makeMap Tryz.prog
  go_enter Tryz.func36, Tryz.ntmps36
  go_wp2_with fail
  have hE : Ext w (w.alloc (.cells A 27)) := (Ext.refl w).alloc _
  have hA : ∀ o, (w.alloc (.cells A 27)).cell? ⟨w.heap.size, o, none⟩ = A[o]? := fun o => World.cell?_alloc_new _ _ _ _
  have hz : w.heap.size < (w.alloc (.cells A 27)).heap.size := by simp
  generalize hV : w.alloc (.cells A 27) = V at hE hA hz ⊢
  clear hV
  obtain ⟨B, hB⟩ : ∃ B, B = w.heap.size := ⟨_, rfl⟩
  rw [← hB] at hA hz ⊢
  have hs3 := sl33 B
  have hs4 := sl34 B
  have hs5 := sl35 B
  have hmp : (V.drew.alloc (.map #[] 0)).ownsMap (H := Unit) Tryz.prog 3 (slR B) V.heap.size 0 (.map []) := World.ownsMap_made (H := Unit) V.drew Tryz.prog 3 (slR B)
  have hVd : Ext V (V.drew.alloc (.map #[] 0)) := (Ext.refl V).drew.alloc _
  have hbV : V.heap.size ≤ V.heap.size := Nat.le_refl _
  refine wp_region_any (by kernel_rfl) ?_
  refine wpAny_take (i := 1) (v := .pointer (some ⟨B, 0, none⟩)) rfl (by kernel_rfl) (by kernel_rfl) (by kernel_rfl) (fun _ _ _ h => h) (Or.inl ⟨by rfl, yl_field rfl rfl (fa_0 B)⟩) ?_
  change wpAny _ _ _ _ _ _ ⟨#[.agg A, .pointer (some ⟨B, 0, none⟩), .map none, undef, .pointer (some ⟨B, 0, none⟩), undef, undef, undef, undef, undef, undef, undef, undef, undef, undef], []⟩ _
  refine wpAny_take (i := 2) (v := .slice (some ⟨B, 0, none⟩) 12 12) rfl (by kernel_rfl) (by kernel_rfl) (by kernel_rfl) (fun _ _ _ h => h) (Or.inl ⟨by rfl, yl_slice rfl rfl (sl33 B 0)⟩) ?_
  change wpAny _ _ _ _ _ _ ⟨#[.agg A, .pointer (some ⟨B, 0, none⟩), .map none, undef, .pointer (some ⟨B, 0, none⟩), .slice (some ⟨B, 0, none⟩) 12 12, undef, undef, undef, undef, undef, undef, undef, undef, undef], []⟩ _
  refine wpAny_take (i := 4) (v := .pointer (some ⟨B, 12, none⟩)) rfl (by kernel_rfl) (by kernel_rfl) (by kernel_rfl) (fun _ _ _ h => h) (Or.inl ⟨by rfl, yl_field rfl rfl (fa_1 B)⟩) ?_
  change wpAny _ _ _ _ _ _ ⟨#[.agg A, .pointer (some ⟨B, 0, none⟩), .map none, undef, .pointer (some ⟨B, 0, none⟩), .slice (some ⟨B, 0, none⟩) 12 12, .pointer (some ⟨B, 12, none⟩), undef, undef, undef, undef, undef, undef, undef, undef], []⟩ _
  refine wpAny_take (i := 5) (v := .slice (some ⟨B, 12, none⟩) 12 12) rfl (by kernel_rfl) (by kernel_rfl) (by kernel_rfl) (fun _ _ _ h => h) (Or.inl ⟨by rfl, yl_slice rfl rfl (sl33 B 12)⟩) ?_
  change wpAny _ _ _ _ _ _ ⟨#[.agg A, .pointer (some ⟨B, 0, none⟩), .map none, undef, .pointer (some ⟨B, 0, none⟩), .slice (some ⟨B, 0, none⟩) 12 12, .pointer (some ⟨B, 12, none⟩), .slice (some ⟨B, 12, none⟩) 12 12, undef, undef, undef, undef, undef, undef, undef], []⟩ _
  refine wpAny_take (i := 7) (v := .pointer (some ⟨B, 24, none⟩)) rfl (by kernel_rfl) (by kernel_rfl) (by kernel_rfl) (fun _ _ _ h => h) (Or.inl ⟨by rfl, yl_field rfl rfl (fa_2 B)⟩) ?_
  change wpAny _ _ _ _ _ _ ⟨#[.agg A, .pointer (some ⟨B, 0, none⟩), .map none, undef, .pointer (some ⟨B, 0, none⟩), .slice (some ⟨B, 0, none⟩) 12 12, .pointer (some ⟨B, 12, none⟩), .slice (some ⟨B, 12, none⟩) 12 12, .pointer (some ⟨B, 24, none⟩), undef, undef, undef, undef, undef, undef], []⟩ _
  refine wpAny_take (i := 8) (v := .slice (some ⟨B, 24, none⟩) 7 7) rfl (by kernel_rfl) (by kernel_rfl) (by kernel_rfl) (fun _ _ _ h => h) (Or.inl ⟨by rfl, yl_slice rfl rfl (sl34 B 24)⟩) ?_
  change wpAny _ _ _ _ _ _ ⟨#[.agg A, .pointer (some ⟨B, 0, none⟩), .map none, undef, .pointer (some ⟨B, 0, none⟩), .slice (some ⟨B, 0, none⟩) 12 12, .pointer (some ⟨B, 12, none⟩), .slice (some ⟨B, 12, none⟩) 12 12, .pointer (some ⟨B, 24, none⟩), .slice (some ⟨B, 24, none⟩) 7 7, undef, undef, undef, undef, undef], []⟩ _
  refine wpAny_take (i := 10) (v := .pointer (some ⟨B, 31, none⟩)) rfl (by kernel_rfl) (by kernel_rfl) (by kernel_rfl) (fun _ _ _ h => h) (Or.inl ⟨by rfl, yl_field rfl rfl (fa_3 B)⟩) ?_
  change wpAny _ _ _ _ _ _ ⟨#[.agg A, .pointer (some ⟨B, 0, none⟩), .map none, undef, .pointer (some ⟨B, 0, none⟩), .slice (some ⟨B, 0, none⟩) 12 12, .pointer (some ⟨B, 12, none⟩), .slice (some ⟨B, 12, none⟩) 12 12, .pointer (some ⟨B, 24, none⟩), .slice (some ⟨B, 24, none⟩) 7 7, .pointer (some ⟨B, 31, none⟩), undef, undef, undef, undef], []⟩ _
  refine wpAny_take (i := 11) (v := .slice (some ⟨B, 31, none⟩) 7 7) rfl (by kernel_rfl) (by kernel_rfl) (by kernel_rfl) (fun _ _ _ h => h) (Or.inl ⟨by rfl, yl_slice rfl rfl (sl34 B 31)⟩) ?_
  change wpAny _ _ _ _ _ _ ⟨#[.agg A, .pointer (some ⟨B, 0, none⟩), .map none, undef, .pointer (some ⟨B, 0, none⟩), .slice (some ⟨B, 0, none⟩) 12 12, .pointer (some ⟨B, 12, none⟩), .slice (some ⟨B, 12, none⟩) 12 12, .pointer (some ⟨B, 24, none⟩), .slice (some ⟨B, 24, none⟩) 7 7, .pointer (some ⟨B, 31, none⟩), .slice (some ⟨B, 31, none⟩) 7 7, undef, undef, undef], []⟩ _
  refine wpAny_take (i := 13) (v := .pointer (some ⟨B, 38, none⟩)) rfl (by kernel_rfl) (by kernel_rfl) (by kernel_rfl) (fun _ _ _ h => h) (Or.inl ⟨by rfl, yl_field rfl rfl (fa_4 B)⟩) ?_
  change wpAny _ _ _ _ _ _ ⟨#[.agg A, .pointer (some ⟨B, 0, none⟩), .map none, undef, .pointer (some ⟨B, 0, none⟩), .slice (some ⟨B, 0, none⟩) 12 12, .pointer (some ⟨B, 12, none⟩), .slice (some ⟨B, 12, none⟩) 12 12, .pointer (some ⟨B, 24, none⟩), .slice (some ⟨B, 24, none⟩) 7 7, .pointer (some ⟨B, 31, none⟩), .slice (some ⟨B, 31, none⟩) 7 7, .pointer (some ⟨B, 38, none⟩), undef, undef], []⟩ _
  refine wpAny_take (i := 14) (v := .slice (some ⟨B, 38, none⟩) 2 2) rfl (by kernel_rfl) (by kernel_rfl) (by kernel_rfl) (fun _ _ _ h => h) (Or.inl ⟨by rfl, yl_slice rfl rfl (sl35 B 38)⟩) ?_
  change wpAny _ _ _ _ _ _ ⟨#[.agg A, .pointer (some ⟨B, 0, none⟩), .map none, undef, .pointer (some ⟨B, 0, none⟩), .slice (some ⟨B, 0, none⟩) 12 12, .pointer (some ⟨B, 12, none⟩), .slice (some ⟨B, 12, none⟩) 12 12, .pointer (some ⟨B, 24, none⟩), .slice (some ⟨B, 24, none⟩) 7 7, .pointer (some ⟨B, 31, none⟩), .slice (some ⟨B, 31, none⟩) 7 7, .pointer (some ⟨B, 38, none⟩), .slice (some ⟨B, 38, none⟩) 2 2, undef], []⟩ _
  refine wpAny_one (i := 0) (v := .map (some V.heap.size)) (w' := V.drew.alloc (.map #[] 0)) (by kernel_rfl) rfl (by rfl) (yl_make rfl _) ?_
  change wpAny _ _ _ _ _ _ ⟨#[.agg A, .pointer (some ⟨B, 0, none⟩), .map none, .map (some V.heap.size), .pointer (some ⟨B, 0, none⟩), .slice (some ⟨B, 0, none⟩) 12 12, .pointer (some ⟨B, 12, none⟩), .slice (some ⟨B, 12, none⟩) 12 12, .pointer (some ⟨B, 24, none⟩), .slice (some ⟨B, 24, none⟩) 7 7, .pointer (some ⟨B, 31, none⟩), .slice (some ⟨B, 31, none⟩) 7 7, .pointer (some ⟨B, 38, none⟩), .slice (some ⟨B, 38, none⟩) 2 2, undef], []⟩ _
  obtain ⟨b, hb⟩ : ∃ b, V.heap.size = b := ⟨_, rfl⟩
  rw [hb] at hz hmp ⊢
  show wpAny _ _ _ _ (5 + 2) _ _ _
  refine wpAny_inserts (m := .tmp 3) (fuel := 2) (L := #[true, true, true, true, true, true, true, true, true, true, true, true, true, true, true, true, false, false]) mkeyI Tryz.underlying66 (slR B) rfl 5 (lsJ B) _ _ 0 (.map []) rfl (by kernel_rfl) ?_ (by show [3, 6, 9, 12, 15].Nodup; decide) ?_ hmp isMap_empty (by decide) ?_
  · intro j hj
    simp only [lsJ, List.mem_cons, List.not_mem_nil, or_false] at hj
    rcases hj with rfl | rfl | rfl | rfl | rfl
    all_goals exact ⟨_, _, _, rfl, rfl, rfl, rfl, rfl, rfl, keyOf_int_mk Tryz.underlying3 (by rfl), [], by simp [slR]⟩
  · intro j hj j' hj'
    simp only [lsJ, List.mem_cons, List.not_mem_nil, or_false] at hj hj'
    rcases hj with rfl | rfl | rfl | rfl | rfl <;> rcases hj' with rfl | rfl | rfl | rfl | rfl <;> simp
  · intro w' D' hown' hg' hat'
    refine wpAny_one (i := 16) (v := .map (some b)) (w' := w') (by kernel_rfl) rfl (by rfl) (yl_move (x := .tmp 3) (u := .map (some b)) rfl rfl _) ?_
    change wpAny _ _ _ _ _ _ ⟨#[.agg A, .pointer (some ⟨B, 0, none⟩), .map none, .map (some b), .pointer (some ⟨B, 0, none⟩), .slice (some ⟨B, 0, none⟩) 12 12, .pointer (some ⟨B, 12, none⟩), .slice (some ⟨B, 12, none⟩) 12 12, .pointer (some ⟨B, 24, none⟩), .slice (some ⟨B, 24, none⟩) 7 7, .pointer (some ⟨B, 31, none⟩), .slice (some ⟨B, 31, none⟩) 7 7, .pointer (some ⟨B, 38, none⟩), .slice (some ⟨B, 38, none⟩) 2 2, .map (some b)], []⟩ _
    refine wpAny_one (i := 17) (v := .map (some b)) (w' := w') (by kernel_rfl) rfl (by rfl) (yl_assign (x := .tmp 14) (u := .map (some b)) rfl rfl _) ?_
    change wpAny _ _ _ _ _ _ ⟨#[.agg A, .pointer (some ⟨B, 0, none⟩), .map (some b), .map (some b), .pointer (some ⟨B, 0, none⟩), .slice (some ⟨B, 0, none⟩) 12 12, .pointer (some ⟨B, 12, none⟩), .slice (some ⟨B, 12, none⟩) 12 12, .pointer (some ⟨B, 24, none⟩), .slice (some ⟨B, 24, none⟩) 7 7, .pointer (some ⟨B, 31, none⟩), .slice (some ⟨B, 31, none⟩) 7 7, .pointer (some ⟨B, 38, none⟩), .slice (some ⟨B, 38, none⟩) 2 2, .map (some b)], []⟩ _
    refine wpAny_done (by kernel_rfl) ?_ _
    have hEw : Ext V w' := ext_grown_at hVd hg' (by omega)
    go_wp2_with fail
    refine bodyPost_ret (v := .map (some b)) (by simp [results, Tryz.results36, go_sem]) rfl ⟨b, D', rfl, ?_, ?_, ?_, ?_, hE.trans hEw⟩
    · rw [← hB]; exact hown'
    · rw [← hB]; exact hat'
    · rw [← hB]; exact Nat.lt_of_lt_of_le (by omega) hEw.size
    · rw [← hB]; exact fun o => (hEw.cells B o (by omega)).trans (hA o)
end Go.Proofs.YticckkadmhklmaaGreatDoor
/- The English names; the chapter's example, plainly. -/
namespace Go.Proofs.YticckkadmhklmaaGreatDoor
set_option linter.unusedVariables false
set_option linter.unusedSimpArgs false

def engN : Nms where
  mo := [[74, 97, 110, 117, 97, 114, 121], [70, 101, 98, 114, 117, 97, 114, 121], [77, 97, 114, 99, 104], [65, 112, 114, 105, 108], [77, 97, 121], [74, 117, 110, 101], [74, 117, 108, 121], [65, 117, 103, 117, 115, 116], [83, 101, 112, 116, 101, 109, 98, 101, 114], [79, 99, 116, 111, 98, 101, 114], [78, 111, 118, 101, 109, 98, 101, 114], [68, 101, 99, 101, 109, 98, 101, 114]]
  sh := [[74, 97, 110], [70, 101, 98], [77, 97, 114], [65, 112, 114], [77, 97, 121], [74, 117, 110], [74, 117, 108], [65, 117, 103], [83, 101, 112], [79, 99, 116], [78, 111, 118], [68, 101, 99]]
  da := [[77, 111, 110, 100, 97, 121], [84, 117, 101, 115, 100, 97, 121], [87, 101, 100, 110, 101, 115, 100, 97, 121], [84, 104, 117, 114, 115, 100, 97, 121], [70, 114, 105, 100, 97, 121], [83, 97, 116, 117, 114, 100, 97, 121], [83, 117, 110, 100, 97, 121]]
  sd := [[77, 111, 110], [84, 117, 101], [87, 101, 100], [84, 104, 117], [70, 114, 105], [83, 97, 116], [83, 117, 110]]
  ha := [[65, 77], [80, 77]]
def exPat : List UInt8 := [69, 69, 69, 44, 32, 100, 32, 77, 77, 77, 32, 121, 121, 121, 121, 32, 72, 72, 58, 109, 109, 58, 115, 115]
def exL : List Prt := [⟨7, 0, []⟩, ⟨1, 0, [44, 32]⟩, ⟨6, 1, []⟩, ⟨1, 0, [32]⟩, ⟨4, 0, []⟩, ⟨1, 0, [32]⟩, ⟨2, 4, []⟩, ⟨1, 0, [32]⟩, ⟨9, 2, []⟩, ⟨1, 0, [58]⟩, ⟨11, 2, []⟩, ⟨1, 0, [58]⟩, ⟨12, 2, []⟩]
def exF : Fv := ⟨2026, 2, 28, 23, 59, 59, 6⟩
def exS : List UInt8 := [83, 97, 116, 44, 32, 50, 56, 32, 70, 101, 98, 32, 50, 48, 50, 54, 32, 50, 51, 58, 53, 57, 58, 53, 57]
theorem eng_ok : engN.ok := ⟨rfl, rfl, rfl, rfl, rfl⟩
theorem eng_nm : nmOk engN = true := by kernel_rfl
theorem eng_len : ∀ s ∈ engN.all, s.length ≤ 100000 := by
  have : engN.all.all (fun s => decide (s.length ≤ 100000)) = true := by kernel_rfl
  intro s hs
  simpa using List.all_eq_true.1 this s hs
theorem ex_valid : validB exL = true := by kernel_rfl
theorem ex_los : losB exL = true := by kernel_rfl
theorem ex_isF : IsF exF 1772323199 := ⟨by kernel_rfl, by kernel_rfl, by kernel_rfl, by kernel_rfl, by kernel_rfl, by kernel_rfl⟩
theorem ex_fmt : fmtL engN exF 0 [85, 84, 67] exL = exS := by kernel_rfl
theorem ex_prs : prsT engN exL exS = (1772323199, 0, 0) := by kernel_rfl
theorem ex_cmp : cmpT exPat = (exL, 0, 0) := by kernel_rfl
end Go.Proofs.YticckkadmhklmaaGreatDoor
