/- A region that lays several entries into one map, in whatever order: a plain law over any program. -/
import Derived.Test.YtnhdmnhfllecgaaGreatDoorQ04
import Derived.Test.YtnhdmnhfllecgaaGreatDoorQ00
import Derived.Test.YtnhdmnhfllecgaaGreatDoorQ01
import Derived.Maps.Views
import Derived.Maps.OwnSet
import Derived.RegionTactic
import Derived.Laws.AppendOwn
import Derived.Maps.AppendAt
import Derived.Laws.Slices
namespace Go.Proofs.YtnhdmnhfllecgaaGreatDoor
set_option linter.unusedVariables false
set_option linter.unusedSimpArgs false
open Go Go.Maps Go.RowKit

/-- An entry to be laid: the operation, its key, the key's datum, its value, the value's datum. -/
structure InsE where
  i : Nat
  kz : Int
  val : Value
  d : DataW Unit
/-- Whichever of J comes next, the others may come behind it; in the end L. -/
def insChk (md : Region.Mode) (ops : Array Oper) : Nat → List Nat → Array Bool → Array Bool → Bool
  | 0, J, listed, L => J.isEmpty && listed == L
  | f + 1, J, listed, L => decide (Region.ready md ops listed = J) && J.all fun i => insChk md ops f (J.filter (fun j => j != i)) (listed.setIfInBounds i true) L
/-- What stands at a key behind the entries J. -/
def insAt (J : List InsE) (kl : Int) (z : DataW Unit) : DataW Unit := match J.find? (fun j => decide (j.kz = kl)) with | some j => j.d | none => z
def InsOk (P : Program) (ops : Array Oper) (t k : TypeId) (R : Value → Option (DataW Unit × List MemPlace)) (m : Operand) (a : Act) (j : InsE) : Prop :=
  ∃ (o : Oper) (x v : Operand), ops[j.i]? = some o ∧ o.guard = none ∧ o.dst = none ∧ o.op = .insert t m x v ∧ a.eval x = .int .i64 j.kz ∧ a.eval v = j.val ∧ keyOf P k (.int .i64 j.kz) = some (.int .i64 j.kz) ∧ ∃ ps, R j.val = some (j.d, ps)
theorem find_filter_ne (J : List InsE) (i : Nat) (kl ki : Int) (hk : kl ≠ ki) (h : ∀ j ∈ J, j.i = i → j.kz = ki) :
    (J.filter (fun j => j.i != i)).find? (fun j => decide (j.kz = kl)) = J.find? (fun j => decide (j.kz = kl)) := by
  induction J with
  | nil => rfl
  | cons j r ih =>
    have ih := ih (fun j hj => h j (by simp [hj]))
    by_cases e : j.i = i
    · have e2 := h j (by simp) e
      rw [List.filter_cons_of_neg (by simp [e]), ih, List.find?_cons_of_neg (by rw [e2]; simpa using Ne.symm hk)]
    · rw [List.filter_cons_of_pos (by simpa using e)]
      by_cases q : j.kz = kl
      · rw [List.find?_cons_of_pos (by simpa using q), List.find?_cons_of_pos (by simpa using q)]
      · rw [List.find?_cons_of_neg (by simpa using q), List.find?_cons_of_neg (by simpa using q), ih]
theorem ins_inj : ∀ (l : List InsE), (l.map (·.i)).Nodup → ∀ p ∈ l, ∀ q ∈ l, p.i = q.i → p = q
  | [], _, p, hp, _, _, _ => by cases hp
  | z :: r, hl, p, hp, q, hq, hpq => by
    rw [List.map_cons, List.nodup_cons] at hl
    rcases List.mem_cons.1 hp with e1 | hp
    · rcases List.mem_cons.1 hq with e2 | hq
      · rw [e1, e2]
      · exact absurd (List.mem_map.2 ⟨q, hq, by rw [← hpq, e1]⟩) hl.1
    · rcases List.mem_cons.1 hq with e2 | hq
      · exact absurd (List.mem_map.2 ⟨p, hp, by rw [hpq, e2]⟩) hl.1
      · exact ins_inj r hl.2 p hp q hq hpq
theorem wpAny_inserts {P : Program} {md : Region.Mode} {ops : Array Oper} {Q : Exit → Act → World → Prop} {t k e : TypeId} (K : Keyed P k) (ht : P.underlying t = some (.map k e)) (R : Value → Option (DataW Unit × List MemPlace))
    {m : Operand} {b fuel : Nat} {L : Array Bool} {a : Act} (hm : a.eval m = .map (some b)) :
    ∀ (n : Nat) (J : List InsE) (listed : Array Bool) (w : World) (c : Nat) (D : DataW Unit), J.length = n → insChk md ops n (J.map (·.i)) listed L = true → (∀ j ∈ J, InsOk P ops t k R m a j) →
    (J.map (·.i)).Nodup → (∀ j ∈ J, ∀ j' ∈ J, j.kz = j'.kz → j.i = j'.i) → w.ownsMap P k R b c D → IsMap D → c + n < maxLen →
    (∀ w' D', w'.ownsMap P k R b (c + n) D' → w.grownBy w' (some b) → (∀ (kl : Int) zd, D'.atKey (.int .i64 kl) zd = insAt J kl (D.atKey (.int .i64 kl) zd)) → wpAny P md ops Q fuel L a w') →
    wpAny P md ops Q (n + fuel) listed a w
  | 0, J, listed, w, c, D, hJ, hchk, hok, hnd, hkk, hown, hmap, hc, hend => by
    obtain rfl : J = [] := List.length_eq_zero_iff.1 hJ
    simp only [insChk, Bool.and_eq_true, beq_iff_eq] at hchk
    rw [Nat.zero_add, hchk.2]
    exact hend w D hown ⟨rfl, rfl, rfl, Nat.le_refl _, fun _ _ _ => rfl⟩ (fun kl zd => rfl)
  | n + 1, J, listed, w, c, D, hJ, hchk, hok, hnd, hkk, hown, hmap, hc, hend => by
    simp only [insChk, Bool.and_eq_true, decide_eq_true_eq, List.all_eq_true] at hchk
    obtain ⟨hready, hall⟩ := hchk
    have hne : J.map (·.i) ≠ [] := by
      intro q
      have := congrArg List.length q
      simp at this
      rw [this] at hJ
      cases hJ
    rw [show n + 1 + fuel = (n + fuel) + 1 by omega]
    refine ⟨fun h0 => absurd (hready.symm.trans h0) hne, fun i hi => ?_⟩
    rw [hready] at hi
    obtain ⟨j, hj, rfl⟩ := List.mem_map.1 hi
    obtain ⟨o, x, v, ho, hg, hd, hop, hx, hv, hkl, ps, hR⟩ := hok j hj
    have hw : Region.wanted o (yielded ops a.tmps) = true := by simp [Region.wanted, hg]
    unfold wpOp
    simp only [ho, hw, if_true]
    left
    obtain ⟨w1, hrun, hown1, hg1⟩ := hown.update K ht (by omega) hkl hR
    unfold Oper.wp
    simp [execOp, hop, hm, hx, hv, hrun, Result.andThen]
    rw [Oper.upon_skip, hd]
    show wpAny P md ops Q (n + fuel) (listed.setIfInBounds j.i true) a w1
    have hf : (J.filter (fun y => y.i != j.i)).map (·.i) = (J.map (·.i)).filter (fun y => y != j.i) := by
      rw [List.filter_map]; rfl
    have hlen : (J.filter (fun y => y.i != j.i)).length = n := by
      have h1 : ((J.map (·.i)).filter (fun y => y != j.i)) = (J.map (·.i)).erase j.i := by rw [hnd.erase_eq_filter]
      have h2 := congrArg List.length h1
      rw [← hf, List.length_map, List.length_erase_of_mem (List.mem_map.2 ⟨j, hj, rfl⟩), List.length_map, hJ] at h2
      omega
    refine wpAny_inserts (L := L) K ht R hm n (J.filter (fun y => y.i != j.i)) (listed.setIfInBounds j.i true) w1 (c + 1) (D.put (.int .i64 j.kz) j.d) hlen ?_ (fun y hy => hok y (List.mem_filter.1 hy).1) ?_ (fun y hy z hz => hkk y (List.mem_filter.1 hy).1 z (List.mem_filter.1 hz).1) hown1 (hmap.put _ _) (by omega) ?_
    · rw [hf]; exact hall _ hi
    · rw [hf]; exact hnd.filter _
    · intro w' D' hown' hg' hat
      refine hend w' D' (by rw [show c + (n + 1) = c + 1 + n by omega]; exact hown') ?_ ?_
      · exact ⟨hg'.os.trans hg1.os, hg'.tape.trans hg1.tape, hg'.output.trans hg1.output, Nat.le_trans hg1.size hg'.size, fun q hq hne => (hg'.block q (Nat.lt_of_lt_of_le hq hg1.size) hne).trans (hg1.block q hq hne)⟩
      · intro kl zd
        rw [hat kl zd]
        by_cases e : kl = j.kz
        · subst e
          rw [atKey_put_same (k := .int .i64 j.kz) hmap trivial]
          have e1 : (J.filter (fun y => y.i != j.i)).find? (fun y => decide (y.kz = j.kz)) = none := by
            rw [List.find?_eq_none]
            intro y hy
            obtain ⟨y1, y2⟩ := List.mem_filter.1 hy
            have y2 : y.i ≠ j.i := by simpa using y2
            simpa using fun q => y2 (hkk y y1 j hj q)
          have e2 : ∃ y, J.find? (fun y => decide (y.kz = j.kz)) = some y ∧ y = j := by
            cases q : J.find? (fun y => decide (y.kz = j.kz)) with
            | none => exact absurd (List.find?_eq_none.1 q j hj) (by simp)
            | some y =>
              refine ⟨y, rfl, ?_⟩
              have hy := List.mem_of_find?_eq_some q
              have hp := List.find?_some q
              have hp : y.kz = j.kz := by simpa using hp
              have hi2 := hkk y hy j hj hp
              exact ins_inj J hnd y hy j hj hi2
          obtain ⟨y, e2, rfl⟩ := e2
          unfold insAt
          rw [e1, e2]
        · rw [atKey_put_other (by intro q; injection q with _ q; exact e q)]
          unfold insAt
          rw [find_filter_ne J j.i kl j.kz e (fun y hy q => by
            have : y.kz = j.kz := by
              rw [ins_inj J hnd y hy j hj q]
            exact this)]
theorem yl_field {P : Program} {o : Oper} {a : Act} {s : TypeId} {x : Operand} {f : Nat} {u v : Value} (hop : o.op = .fieldAddr s x f) (hx : a.eval x = u) (hrun : ∀ w, (Instr.fieldAt s u f).run P w = .ok v w) : ∀ w, (execOp a.eval o).run P w = .ok (.value v) w := by
  intro w
  unfold execOp
  simp [hop, hx, hrun, Result.andThen]
theorem yl_slice {P : Program} {o : Oper} {a : Act} {s : TypeId} {x : Operand} {u v : Value} (hop : o.op = .slice s x none none none) (hx : a.eval x = u) (hrun : ∀ w, (Instr.sliceAt s u none none none).run P w = .ok v w) : ∀ w, (execOp a.eval o).run P w = .ok (.value v) w := by
  intro w
  unfold execOp
  simp [hop, hx, hrun, Result.andThen]
theorem yl_move {P : Program} {o : Oper} {a : Act} {x : Operand} {u : Value} (hop : o.op = .move x) (hx : a.eval x = u) : ∀ w, (execOp a.eval o).run P w = .ok (.value u) w := by
  intro w
  unfold execOp
  simp [hop, hx, Result.andThen]
theorem yl_assign {P : Program} {o : Oper} {a : Act} {x : Operand} {u : Value} (hop : o.op = .assign x) (hx : a.eval x = u) : ∀ w, (execOp a.eval o).run P w = .ok (.value u) w := by
  intro w
  unfold execOp
  simp [hop, hx, Result.andThen]
theorem yl_make {P : Program} {o : Oper} {a : Act} {t : TypeId} (hop : o.op = .makeMap t none) (w : World) : (execOp a.eval o).run P w = .ok (.value (.map (some w.heap.size))) (w.alloc (.map #[] 0)) := by
  have hmm := @run_makeMap P
  unfold execOp
  simp [hop, hmm, Result.andThen]
theorem wpAny_one {P : Program} {md : Region.Mode} {ops : Array Oper} {Q : Exit → Act → World → Prop} {fuel i : Nat} {listed : Array Bool} {a : Act} {w w' : World} {o : Oper} {v : Value} (hr : Region.ready md ops listed = [i]) (ho : ops[i]? = some o)
    (hw : Region.wanted o (yielded ops a.tmps) = true) (hrun : (execOp a.eval o).run P w = .ok (.value v) w') (h : wpAny P md ops Q fuel (listed.setIfInBounds i true) (a.put o.dst v) w') : wpAny P md ops Q (fuel + 1) listed a w := by
  refine wpAny_all hr (by simp) (fun j hj => ?_)
  obtain rfl : j = i := by simpa using hj
  unfold wpOp
  simp only [ho, hw, if_true]
  left
  unfold Oper.wp
  rw [hrun]
  exact h
end Go.Proofs.YtnhdmnhfllecgaaGreatDoor
/- Slices of strings that a function makes; plain lemmas. -/
namespace Go.Proofs.YtnhdmnhfllecgaaGreatDoor
set_option linter.unusedVariables false
set_option linter.unusedSimpArgs false
open Go.RowKit

theorem ext_grown {a b c : World} {v : Value} {e : TypeId} {size n : Nat} {xs : List Value} (h : Ext a b) (hown : b.ownsRow a.heap.size e size v n xs) (hg : b.grownBy c v.ownBlock) : Ext a c := by
  have q := (Frm.of_ext (S := fun _ => False) h).grown hg (by
    intro k hk
    right
    rcases hown with ⟨_, ⟨rfl, _⟩ | ⟨g, cap, cur, rfl, hb, _⟩⟩
    · cases hk
    · have : g = k := Option.some.inj hk
      omega)
  exact q.ext (fun k hk => hk.elim)
theorem own_slice {w : World} {base size n : Nat} {e : TypeId} {v : Value} {xs : List Value} (h : w.ownsRow base e size v n xs) : ∃ ao cv, v = .slice ao n cv := by
  obtain ⟨_, ⟨rfl, rfl⟩ | ⟨g, cap, cur, rfl, _⟩⟩ := h
  · exact ⟨_, _, rfl⟩
  · exact ⟨_, _, rfl⟩
/-- The strings' values. -/
def sv (P : List (List UInt8)) : List Value := P.map fun l => Value.string ⟨l.toArray⟩
theorem sv_app (P : List (List UInt8)) (x : List UInt8) : sv (P ++ [x]) = sv P ++ [.string ⟨x.toArray⟩] := by simp [sv]
/-- A readable row of strings. -/
def RdS (ws : List (List UInt8)) (R off : Nat) (w : World) : Prop := R < w.heap.size ∧ ∀ i (h : i < ws.length), w.cell? ⟨R, off + i, none⟩ = some (.string ⟨ws[i].toArray⟩)
theorem RdS.ext {ws : List (List UInt8)} {R off : Nat} {w w' : World} (h : RdS ws R off w) (hE : Ext w w') : RdS ws R off w' := ⟨hE.lt h.1, fun i hi => (hE.cells _ _ h.1).trans (h.2 i hi)⟩
theorem RdS.drop {ws : List (List UInt8)} {R off : Nat} {w : World} (h : RdS ws R off w) (k : Nat) : RdS (ws.drop k) R (off + k) w := by
  refine ⟨h.1, fun i hi => ?_⟩
  rw [List.length_drop] at hi
  have := h.2 (k + i) (by omega)
  rw [← Nat.add_assoc] at this
  rw [List.getElem_drop]
  exact this
theorem RdS.of_own {w : World} {base n : Nat} {e : TypeId} {v : Value} {P : List (List UInt8)} (h : w.ownsRow base e 1 v n (sv P)) (hn : n = P.length) (hp : P ≠ []) : ∃ R cap, v = .slice (some ⟨R, 0, none⟩) P.length cap ∧ P.length ≤ cap ∧ cap ≤ maxLen ∧ RdS P R 0 w ∧ base ≤ R := by
  subst hn
  obtain ⟨_, ⟨_, h0⟩ | ⟨g, cap, cur, rfl, hb, hg, hc, hm, hs, ht⟩⟩ := h
  · exact absurd (List.length_eq_zero_iff.1 h0) hp
  · refine ⟨g, cap, rfl, hc, hm, ⟨?_, fun i hi => ?_⟩, hb⟩
    · rcases Nat.lt_or_ge g w.heap.size with q | q
      · exact q
      · rw [Array.getElem?_eq_none q] at hg; cases hg
    · have e1 : cur[i]? = (sv P)[i]? := by
        rw [← ht, Nat.mul_one, List.getElem?_take_of_lt hi, Array.getElem?_toList]
      have e2 : w.cell? ⟨g, 0 + i, none⟩ = cur[i]? := by simp [World.cell?, hg]
      rw [e2, e1]
      simp [sv, hi]
theorem spl_no (c : UInt8) : ∀ a : List UInt8, (∀ x ∈ a, x ≠ c) → spl c a = [a]
  | [], _ => rfl
  | d :: r, h => by rw [spl, if_neg (h d (by simp)), spl_no c r (fun x hx => h x (by simp [hx]))]
theorem spl_step (c : UInt8) (b : List UInt8) : ∀ a : List UInt8, (∀ x ∈ a, x ≠ c) → spl c (a ++ c :: b) = a :: spl c b
  | [], _ => spl_hit c b
  | d :: r, h => by rw [List.cons_append, spl, if_neg (h d (by simp)), spl_step c b r (fun x hx => h x (by simp [hx]))]
end Go.Proofs.YtnhdmnhfllecgaaGreatDoor
/- Patterns, plainly: valid lists of parts, as the program and as the reference ask. No program in sight. -/
namespace Go.Proofs.YtnhdmnhfllecgaaGreatDoor
set_option linter.unusedVariables false
set_option linter.unusedSimpArgs false

/-- The full width of whatever kind. -/
def fullZ (k : Int) : Int := if k = 2 then 4 else if k = 3 ∨ k = 6 ∨ k = 9 ∨ k = 10 ∨ k = 11 ∨ k = 12 then 2 else 0
theorem fullZ_nat (k : Nat) : fullZ (k : Int) = (fullN k : Int) := by
  unfold fullZ fullN
  by_cases h : k = 2
  · subst h; rfl
  · have h' : ¬ (k : Int) = 2 := by omega
    rw [if_neg h, if_neg h']
    by_cases q : k = 3 ∨ k = 6 ∨ k = 9 ∨ k = 10 ∨ k = 11 ∨ k = 12
    · rw [if_pos q, if_pos (by omega)]; rfl
    · rw [if_neg q, if_neg (by omega)]; rfl
/-- The program's letters. -/
def letP : List UInt8 := [63, 39, 121, 77, 77, 77, 100, 69, 69, 72, 104, 109, 115, 97, 90, 122]
def lpK (k : Int) : UInt8 := letP.getD k.toNat 0
/-- A part that a pattern can have. -/
def partB (p : Prt) : Bool :=
  if p.k = 1 then decide (p.w = 0) && decide (1 ≤ p.t.length) && decide (p.t.length ≤ 100) && p.t.all prn
  else decide (1 ≤ p.k) && decide (p.k ≤ 15) && p.t.isEmpty && (if 0 < fullZ p.k then decide (1 ≤ p.w) && decide (p.w ≤ fullZ p.k) else decide (p.w = 0))
/-- Behind the part q (none: the first one) all is well. -/
def tailB : Option Prt → List Prt → Bool
  | _, [] => true
  | none, p :: r => partB p && tailB (some p) r
  | some q, p :: r => partB p && !(lpK p.k == lpK q.k) && tailB (some p) r
def validB (l : List Prt) : Bool := decide (l.length ≤ 40) && tailB none l
theorem partB_kind {p : Prt} (h : partB p = true) : 1 ≤ p.k ∧ p.k ≤ 15 := by
  unfold partB at h
  by_cases hk : p.k = 1
  · omega
  · rw [if_neg hk] at h
    simp only [Bool.and_eq_true, decide_eq_true_eq] at h
    exact h.1.1
/-- As the reference asks of a part behind another one. -/
def refB (q : Option Prt) (p : Prt) : Bool :=
  decide (1 ≤ p.k ∧ p.k ≤ 15) &&
  (if p.k = 1 then !(decide (p.w ≠ 0) || decide (p.t.length < 1) || decide (100 < p.t.length) || (match q with | some q => decide (q.k = 1) | none => false)) && p.t.all prn
   else !(!p.t.isEmpty || decide (fullZ p.k = 0 ∧ p.w ≠ 0) || decide (0 < fullZ p.k ∧ (p.w < 1 ∨ fullZ p.k < p.w))) &&
    !(match q with | some q => decide (q.k ≠ 1) && (lpK q.k == lpK p.k) | none => false))
theorem fullZ_nonneg (k : Int) : 0 ≤ fullZ k := by
  unfold fullZ; split <;> (try split) <;> omega
theorem lpK_one : ∀ k : Nat, k < 16 → (lpK (k : Int) = 39 ↔ k = 1) := by decide
theorem lpK_lit {k : Int} (h1 : 1 ≤ k) (h2 : k ≤ 15) : lpK k = 39 ↔ k = 1 := by
  obtain ⟨n, rfl⟩ : ∃ n : Nat, k = n := ⟨k.toNat, by omega⟩
  rw [lpK_one n (by omega)]; omega
theorem refB_none (p : Prt) : refB none p = partB p := by
  unfold refB partB
  by_cases hk : p.k = 1
  · rw [if_pos hk, if_pos hk]
    have e : decide (1 ≤ p.k ∧ p.k ≤ 15) = true := decide_eq_true (by omega)
    rw [e, Bool.eq_iff_iff]
    simp only [Bool.true_and, Bool.and_eq_true, Bool.not_eq_true', Bool.or_eq_false_iff, decide_eq_false_iff_not, decide_eq_true_eq, and_true, Bool.or_false]
    constructor
    · rintro ⟨⟨⟨a, b⟩, c⟩, d⟩
      exact ⟨⟨⟨by omega, by omega⟩, by omega⟩, d⟩
    · rintro ⟨⟨⟨a, b⟩, c⟩, d⟩
      exact ⟨⟨⟨by omega, by omega⟩, by omega⟩, d⟩
  · rw [if_neg hk, if_neg hk]
    have hf := fullZ_nonneg p.k
    rw [Bool.eq_iff_iff]
    simp only [Bool.and_eq_true, Bool.not_eq_true', Bool.or_eq_false_iff, Bool.not_eq_false', decide_eq_false_iff_not, decide_eq_true_eq, Bool.and_true, Bool.not_false]
    by_cases q : 0 < fullZ p.k
    · simp only [if_pos q, Bool.and_eq_true, decide_eq_true_eq]
      constructor
      · rintro ⟨a, ⟨b, c⟩, d⟩
        exact ⟨⟨a, b⟩, by omega, by omega⟩
      · rintro ⟨⟨a, b⟩, c, d⟩
        exact ⟨a, ⟨b, by omega⟩, by omega⟩
    · simp only [if_neg q, decide_eq_true_eq]
      constructor
      · rintro ⟨a, ⟨b, c⟩, d⟩
        exact ⟨⟨a, b⟩, by omega⟩
      · rintro ⟨⟨a, b⟩, c⟩
        exact ⟨a, ⟨b, by omega⟩, by omega⟩
theorem refB_some (q p : Prt) (hq : 1 ≤ q.k ∧ q.k ≤ 15) : refB (some q) p = (partB p && !(lpK p.k == lpK q.k)) := by
  rw [← refB_none]
  by_cases hr : 1 ≤ p.k ∧ p.k ≤ 15
  · have l1 := lpK_lit hr.1 hr.2
    have l2 := lpK_lit hq.1 hq.2
    unfold refB
    rw [decide_eq_true hr]
    by_cases hk : p.k = 1
    · rw [if_pos hk, if_pos hk, hk]
      have e1 : lpK 1 = 39 := by decide
      by_cases hq1 : q.k = 1
      · simp [hq1]
      · have : ¬ lpK q.k = 39 := fun e => hq1 (l2.1 e)
        have e2 : (lpK 1 == lpK q.k) = false := by rw [beq_eq_false_iff_ne, e1]; exact fun e => this e.symm
        rw [e2]
        simp [hq1]
    · rw [if_neg hk, if_neg hk]
      by_cases hq1 : q.k = 1
      · have e1 : lpK q.k = 39 := l2.2 hq1
        have e2 : (lpK p.k == lpK q.k) = false := by rw [beq_eq_false_iff_ne, e1]; exact fun e => hk (l1.1 e)
        rw [e2]
        simp [hq1]
      · have e2 : (lpK q.k == lpK p.k) = (lpK p.k == lpK q.k) := Bool.beq_comm
        simp [hq1, e2]
  · unfold refB
    rw [decide_eq_false hr]
    simp
end Go.Proofs.YtnhdmnhfllecgaaGreatDoor
/- Patterns, plainly: reading a text by parts. No program in sight. -/
namespace Go.Proofs.YtnhdmnhfllecgaaGreatDoor
set_option linter.unusedVariables false
set_option linter.unusedSimpArgs false

/-- The five lists of names. -/
structure Nms where
  mo : List (List UInt8)
  sh : List (List UInt8)
  da : List (List UInt8)
  sd : List (List UInt8)
  ha : List (List UInt8)
def nmOk (N : Nms) : Bool := nmsB 30 N.mo && nmsB 30 N.sh && nmsB 30 N.da && nmsB 30 N.sd && nmsB 30 N.ha
def lstK (N : Nms) (k : Int) : List (List UInt8) := if k = 4 then N.sh else if k = 5 then N.mo else if k = 7 then N.sd else if k = 8 then N.da else N.ha
/-- How many digits a text begins with, at most some number. -/
def digN (s : List UInt8) (most : Nat) : Nat := ((s.take most).takeWhile isDg).length
theorem digN_le (s : List UInt8) (most : Nat) : digN s most ≤ most ∧ digN s most ≤ s.length := by
  unfold digN
  have h := (List.takeWhile_sublist (isDg) (l := s.take most)).length_le
  rw [List.length_take] at h
  omega
def colB (s : List UInt8) (i : Nat) : Bool := decide (i + 3 ≤ s.length) && decide (s.getD i 0 = 58) && isDg (s.getD (i + 1) 0) && isDg (s.getD (i + 2) 0)
def tyC (c : UInt8) : Bool := isLt c || isDg c || decide (c = 43) || decide (c = 45)
def tyN (s : List UInt8) : Nat := ((s.take 8).takeWhile tyC).length
def offB (s : List UInt8) : Bool := decide (6 ≤ s.length) && (decide (s.headD 0 = 43) || decide (s.headD 0 = 45)) && decide (digN (s.drop 1) 2 = 2) && colB s 3
/-- The first name with which a text begins: its index. -/
def namI (l : List (List UInt8)) (s : List UInt8) : Nat := l.findIdx fun x => x.isPrefixOf s
/-- How many digits are read for p before q. -/
def mostN (p : Prt) (q : Option Prt) : Nat := if (match q with | some q => decide (0 < fullZ q.k) | none => false) then p.w.toNat else (fullZ p.k).toNat
/-- A part is read: how many bytes, and the value of its field. -/
def rd1 (N : Nms) (p : Prt) (q : Option Prt) (s : List UInt8) : Option (Nat × List (Int × Nat)) :=
  if p.k = 1 then (if p.t.isPrefixOf s then some (p.t.length, []) else none)
  else if p.k = 14 then (if offB s then some (if colB s 6 then 9 else 6, []) else none)
  else if p.k = 15 then (if tyN s = 0 then none else some (tyN s, []))
  else if 0 < fullZ p.k then
    (if (digN s (mostN p q) : Int) < p.w then none else some (digN s (mostN p q), [(p.k, val (s.take (digN s (mostN p q))))]))
  else if namI (lstK N p.k) s < (lstK N p.k).length then some (((lstK N p.k).getD (namI (lstK N p.k) s) []).length, [(p.k, namI (lstK N p.k) s)]) else none
/-- All parts: the place of an error, or the values of the fields in the order in which they were read. -/
def rdL (N : Nms) : List Prt → List UInt8 → Nat → List (Int × Nat) → Nat ⊕ List (Int × Nat)
  | [], s, i, vs => if s.isEmpty then .inr vs else .inl (i + 1)
  | p :: r, s, i, vs => match rd1 N p r.head? s with
    | none => .inl (i + 1)
    | some (n, v) => rdL N r (s.drop n) (i + n) (vs ++ v)
end Go.Proofs.YtnhdmnhfllecgaaGreatDoor
/- Patterns: the walk of lists. -/
namespace Go.Proofs.YtnhdmnhfllecgaaGreatDoor
set_option linter.unusedVariables false
set_option linter.unusedSimpArgs false
open Go.RowKit Go.Maps

def Nms.all (N : Nms) : List (List UInt8) := N.mo ++ (N.sh ++ (N.da ++ (N.sd ++ N.ha)))
/-- The names' value. -/
def nmV (N : Nms) : Value := .agg (sv N.all).toArray
/-- A slice of the block B, as a datum: its offset and its length. -/
def slR (B : Nat) (v : Value) : Option (DataW Unit × List MemPlace) :=
  match v with
  | .slice (some ⟨b, o, none⟩) n c => if b = B ∧ c = n then some (.agg [.lit (.int .i64 o), .lit (.int .i64 n)], []) else none
  | .slice none 0 0 => some (.nil, [])
  | _ => none
theorem mkeyI : Keyed Tryz.prog 3 := int_keyed Tryz.underlying3
set_option maxRecDepth 100000 in
theorem sl33 (B o : Nat) (w : World) : (Instr.sliceAt 22 (.pointer (some ⟨B, o, none⟩)) none none none).run Tryz.prog w = .ok (.slice (some ⟨B, o, none⟩) 12 12) w := by
  rw [run_sliceAt_array_all (P := Tryz.prog) w 22 ⟨B, o, none⟩ (by kernel_rfl)]
  have e1 : (sizeOf (Tryz.prog.elem 22)).run Tryz.prog w = .ok 1 w := by kernel_rfl
  rw [e1]
  rfl
set_option maxRecDepth 100000 in
theorem sl34 (B o : Nat) (w : World) : (Instr.sliceAt 23 (.pointer (some ⟨B, o, none⟩)) none none none).run Tryz.prog w = .ok (.slice (some ⟨B, o, none⟩) 7 7) w := by
  rw [run_sliceAt_array_all (P := Tryz.prog) w 23 ⟨B, o, none⟩ (by kernel_rfl)]
  have e1 : (sizeOf (Tryz.prog.elem 23)).run Tryz.prog w = .ok 1 w := by kernel_rfl
  rw [e1]
  rfl
set_option maxRecDepth 100000 in
theorem sl35 (B o : Nat) (w : World) : (Instr.sliceAt 24 (.pointer (some ⟨B, o, none⟩)) none none none).run Tryz.prog w = .ok (.slice (some ⟨B, o, none⟩) 2 2) w := by
  rw [run_sliceAt_array_all (P := Tryz.prog) w 24 ⟨B, o, none⟩ (by kernel_rfl)]
  have e1 : (sizeOf (Tryz.prog.elem 24)).run Tryz.prog w = .ok 1 w := by kernel_rfl
  rw [e1]
  rfl
set_option maxRecDepth 100000 in
theorem fa_0 (B : Nat) (w : World) : (Instr.fieldAt 26 (.pointer (some ⟨B, 0, none⟩)) 0).run Tryz.prog w = .ok (.pointer (some ⟨B, 0, none⟩)) w := by
  go_simp
set_option maxRecDepth 100000 in
theorem fa_1 (B : Nat) (w : World) : (Instr.fieldAt 26 (.pointer (some ⟨B, 0, none⟩)) 1).run Tryz.prog w = .ok (.pointer (some ⟨B, 12, none⟩)) w := by
  go_simp
set_option maxRecDepth 100000 in
theorem fa_2 (B : Nat) (w : World) : (Instr.fieldAt 26 (.pointer (some ⟨B, 0, none⟩)) 2).run Tryz.prog w = .ok (.pointer (some ⟨B, 24, none⟩)) w := by
  go_simp
set_option maxRecDepth 100000 in
theorem fa_3 (B : Nat) (w : World) : (Instr.fieldAt 26 (.pointer (some ⟨B, 0, none⟩)) 3).run Tryz.prog w = .ok (.pointer (some ⟨B, 31, none⟩)) w := by
  go_simp
set_option maxRecDepth 100000 in
theorem fa_4 (B : Nat) (w : World) : (Instr.fieldAt 26 (.pointer (some ⟨B, 0, none⟩)) 4).run Tryz.prog w = .ok (.pointer (some ⟨B, 38, none⟩)) w := by
  go_simp
/-- The five entries. -/
def lsJ (B : Nat) : List InsE := [⟨3, 5, .slice (some ⟨B, 0, none⟩) 12 12, .agg [.lit (.int .i64 0), .lit (.int .i64 12)]⟩, ⟨6, 4, .slice (some ⟨B, 12, none⟩) 12 12, .agg [.lit (.int .i64 12), .lit (.int .i64 12)]⟩, ⟨9, 8, .slice (some ⟨B, 24, none⟩) 7 7, .agg [.lit (.int .i64 24), .lit (.int .i64 7)]⟩, ⟨12, 7, .slice (some ⟨B, 31, none⟩) 7 7, .agg [.lit (.int .i64 31), .lit (.int .i64 7)]⟩, ⟨15, 13, .slice (some ⟨B, 38, none⟩) 2 2, .agg [.lit (.int .i64 38), .lit (.int .i64 2)]⟩]
set_option maxRecDepth 100000 in
set_option maxHeartbeats 1000000 in
theorem lists_c (A : Array Value) (w : World) : Calls Tryz.prog 72 #[.agg A] w fun e w' => ∃ b D, e = .returned (.map (some b)) ∧ w'.ownsMap Tryz.prog 3 (slR w.heap.size) b 5 D ∧ (∀ (z : Int) zd, D.atKey (.int .i64 z) zd = insAt (lsJ w.heap.size) z zd) ∧ w.heap.size < w'.heap.size ∧ (∀ o, w'.cell? ⟨w.heap.size, o, none⟩ = A[o]?) ∧ Ext w w' := by
  have hmm := @run_makeMap Tryz.prog
  go_enter Tryz.func72, Tryz.ntmps72
  go_wp2_with fail
  have hE : Ext w (w.alloc (.cells A 26)) := (Ext.refl w).alloc _
  have hA : ∀ o, (w.alloc (.cells A 26)).cell? ⟨w.heap.size, o, none⟩ = A[o]? := fun o => World.cell?_alloc_new _ _ _ _
  have hz : w.heap.size < (w.alloc (.cells A 26)).heap.size := by simp
  generalize hV : w.alloc (.cells A 26) = V at hE hA hz ⊢
  clear hV
  obtain ⟨B, hB⟩ : ∃ B, B = w.heap.size := ⟨_, rfl⟩
  rw [← hB] at hA hz ⊢
  have hs3 := sl33 B
  have hs4 := sl34 B
  have hs5 := sl35 B
  have hmp : (V.drew.alloc (.map #[] 0)).ownsMap (H := Unit) Tryz.prog 3 (slR B) V.heap.size 0 (.map []) := World.ownsMap_made (H := Unit) V.drew Tryz.prog 3 (slR B)
  have hVd : Ext V (V.drew.alloc (.map #[] 0)) := (Ext.refl V).drew.alloc _
  have hbV : V.heap.size ≤ V.heap.size := Nat.le_refl _
  refine wp_region_any (by kernel_rfl) ?_
  refine wpAny_take (i := 1) (v := .pointer (some ⟨B, 0, none⟩)) rfl (by kernel_rfl) (by kernel_rfl) (by kernel_rfl) (fun _ _ _ h => h) (Or.inl ⟨by rfl, yl_field rfl rfl (fa_0 B)⟩) ?_
  change wpAny _ _ _ _ _ _ ⟨#[.agg A, .pointer (some ⟨B, 0, none⟩), .map none, undef, .pointer (some ⟨B, 0, none⟩), undef, undef, undef, undef, undef, undef, undef, undef, undef, undef], []⟩ _
  refine wpAny_take (i := 2) (v := .slice (some ⟨B, 0, none⟩) 12 12) rfl (by kernel_rfl) (by kernel_rfl) (by kernel_rfl) (fun _ _ _ h => h) (Or.inl ⟨by rfl, yl_slice rfl rfl (sl33 B 0)⟩) ?_
  change wpAny _ _ _ _ _ _ ⟨#[.agg A, .pointer (some ⟨B, 0, none⟩), .map none, undef, .pointer (some ⟨B, 0, none⟩), .slice (some ⟨B, 0, none⟩) 12 12, undef, undef, undef, undef, undef, undef, undef, undef, undef], []⟩ _
  refine wpAny_take (i := 4) (v := .pointer (some ⟨B, 12, none⟩)) rfl (by kernel_rfl) (by kernel_rfl) (by kernel_rfl) (fun _ _ _ h => h) (Or.inl ⟨by rfl, yl_field rfl rfl (fa_1 B)⟩) ?_
  change wpAny _ _ _ _ _ _ ⟨#[.agg A, .pointer (some ⟨B, 0, none⟩), .map none, undef, .pointer (some ⟨B, 0, none⟩), .slice (some ⟨B, 0, none⟩) 12 12, .pointer (some ⟨B, 12, none⟩), undef, undef, undef, undef, undef, undef, undef, undef], []⟩ _
  refine wpAny_take (i := 5) (v := .slice (some ⟨B, 12, none⟩) 12 12) rfl (by kernel_rfl) (by kernel_rfl) (by kernel_rfl) (fun _ _ _ h => h) (Or.inl ⟨by rfl, yl_slice rfl rfl (sl33 B 12)⟩) ?_
  change wpAny _ _ _ _ _ _ ⟨#[.agg A, .pointer (some ⟨B, 0, none⟩), .map none, undef, .pointer (some ⟨B, 0, none⟩), .slice (some ⟨B, 0, none⟩) 12 12, .pointer (some ⟨B, 12, none⟩), .slice (some ⟨B, 12, none⟩) 12 12, undef, undef, undef, undef, undef, undef, undef], []⟩ _
  refine wpAny_take (i := 7) (v := .pointer (some ⟨B, 24, none⟩)) rfl (by kernel_rfl) (by kernel_rfl) (by kernel_rfl) (fun _ _ _ h => h) (Or.inl ⟨by rfl, yl_field rfl rfl (fa_2 B)⟩) ?_
  change wpAny _ _ _ _ _ _ ⟨#[.agg A, .pointer (some ⟨B, 0, none⟩), .map none, undef, .pointer (some ⟨B, 0, none⟩), .slice (some ⟨B, 0, none⟩) 12 12, .pointer (some ⟨B, 12, none⟩), .slice (some ⟨B, 12, none⟩) 12 12, .pointer (some ⟨B, 24, none⟩), undef, undef, undef, undef, undef, undef], []⟩ _
  refine wpAny_take (i := 8) (v := .slice (some ⟨B, 24, none⟩) 7 7) rfl (by kernel_rfl) (by kernel_rfl) (by kernel_rfl) (fun _ _ _ h => h) (Or.inl ⟨by rfl, yl_slice rfl rfl (sl34 B 24)⟩) ?_
  change wpAny _ _ _ _ _ _ ⟨#[.agg A, .pointer (some ⟨B, 0, none⟩), .map none, undef, .pointer (some ⟨B, 0, none⟩), .slice (some ⟨B, 0, none⟩) 12 12, .pointer (some ⟨B, 12, none⟩), .slice (some ⟨B, 12, none⟩) 12 12, .pointer (some ⟨B, 24, none⟩), .slice (some ⟨B, 24, none⟩) 7 7, undef, undef, undef, undef, undef], []⟩ _
  refine wpAny_take (i := 10) (v := .pointer (some ⟨B, 31, none⟩)) rfl (by kernel_rfl) (by kernel_rfl) (by kernel_rfl) (fun _ _ _ h => h) (Or.inl ⟨by rfl, yl_field rfl rfl (fa_3 B)⟩) ?_
  change wpAny _ _ _ _ _ _ ⟨#[.agg A, .pointer (some ⟨B, 0, none⟩), .map none, undef, .pointer (some ⟨B, 0, none⟩), .slice (some ⟨B, 0, none⟩) 12 12, .pointer (some ⟨B, 12, none⟩), .slice (some ⟨B, 12, none⟩) 12 12, .pointer (some ⟨B, 24, none⟩), .slice (some ⟨B, 24, none⟩) 7 7, .pointer (some ⟨B, 31, none⟩), undef, undef, undef, undef], []⟩ _
  refine wpAny_take (i := 11) (v := .slice (some ⟨B, 31, none⟩) 7 7) rfl (by kernel_rfl) (by kernel_rfl) (by kernel_rfl) (fun _ _ _ h => h) (Or.inl ⟨by rfl, yl_slice rfl rfl (sl34 B 31)⟩) ?_
  change wpAny _ _ _ _ _ _ ⟨#[.agg A, .pointer (some ⟨B, 0, none⟩), .map none, undef, .pointer (some ⟨B, 0, none⟩), .slice (some ⟨B, 0, none⟩) 12 12, .pointer (some ⟨B, 12, none⟩), .slice (some ⟨B, 12, none⟩) 12 12, .pointer (some ⟨B, 24, none⟩), .slice (some ⟨B, 24, none⟩) 7 7, .pointer (some ⟨B, 31, none⟩), .slice (some ⟨B, 31, none⟩) 7 7, undef, undef, undef], []⟩ _
  refine wpAny_take (i := 13) (v := .pointer (some ⟨B, 38, none⟩)) rfl (by kernel_rfl) (by kernel_rfl) (by kernel_rfl) (fun _ _ _ h => h) (Or.inl ⟨by rfl, yl_field rfl rfl (fa_4 B)⟩) ?_
  change wpAny _ _ _ _ _ _ ⟨#[.agg A, .pointer (some ⟨B, 0, none⟩), .map none, undef, .pointer (some ⟨B, 0, none⟩), .slice (some ⟨B, 0, none⟩) 12 12, .pointer (some ⟨B, 12, none⟩), .slice (some ⟨B, 12, none⟩) 12 12, .pointer (some ⟨B, 24, none⟩), .slice (some ⟨B, 24, none⟩) 7 7, .pointer (some ⟨B, 31, none⟩), .slice (some ⟨B, 31, none⟩) 7 7, .pointer (some ⟨B, 38, none⟩), undef, undef], []⟩ _
  refine wpAny_take (i := 14) (v := .slice (some ⟨B, 38, none⟩) 2 2) rfl (by kernel_rfl) (by kernel_rfl) (by kernel_rfl) (fun _ _ _ h => h) (Or.inl ⟨by rfl, yl_slice rfl rfl (sl35 B 38)⟩) ?_
  change wpAny _ _ _ _ _ _ ⟨#[.agg A, .pointer (some ⟨B, 0, none⟩), .map none, undef, .pointer (some ⟨B, 0, none⟩), .slice (some ⟨B, 0, none⟩) 12 12, .pointer (some ⟨B, 12, none⟩), .slice (some ⟨B, 12, none⟩) 12 12, .pointer (some ⟨B, 24, none⟩), .slice (some ⟨B, 24, none⟩) 7 7, .pointer (some ⟨B, 31, none⟩), .slice (some ⟨B, 31, none⟩) 7 7, .pointer (some ⟨B, 38, none⟩), .slice (some ⟨B, 38, none⟩) 2 2, undef], []⟩ _
  refine wpAny_one (i := 0) (v := .map (some V.heap.size)) (w' := V.drew.alloc (.map #[] 0)) (by kernel_rfl) rfl (by rfl) (yl_make rfl _) ?_
  change wpAny _ _ _ _ _ _ ⟨#[.agg A, .pointer (some ⟨B, 0, none⟩), .map none, .map (some V.heap.size), .pointer (some ⟨B, 0, none⟩), .slice (some ⟨B, 0, none⟩) 12 12, .pointer (some ⟨B, 12, none⟩), .slice (some ⟨B, 12, none⟩) 12 12, .pointer (some ⟨B, 24, none⟩), .slice (some ⟨B, 24, none⟩) 7 7, .pointer (some ⟨B, 31, none⟩), .slice (some ⟨B, 31, none⟩) 7 7, .pointer (some ⟨B, 38, none⟩), .slice (some ⟨B, 38, none⟩) 2 2, undef], []⟩ _
  obtain ⟨b, hb⟩ : ∃ b, V.heap.size = b := ⟨_, rfl⟩
  rw [hb] at hz hmp ⊢
  show wpAny _ _ _ _ (5 + 2) _ _ _
  refine wpAny_inserts (m := .tmp 3) (fuel := 2) (L := #[true, true, true, true, true, true, true, true, true, true, true, true, true, true, true, true, false, false]) mkeyI Tryz.underlying114 (slR B) rfl 5 (lsJ B) _ _ 0 (.map []) rfl (by kernel_rfl) ?_ (by show [3, 6, 9, 12, 15].Nodup; decide) ?_ hmp isMap_empty (by decide) ?_
  · intro j hj
    simp only [lsJ, List.mem_cons, List.not_mem_nil, or_false] at hj
    rcases hj with rfl | rfl | rfl | rfl | rfl
    all_goals exact ⟨_, _, _, rfl, rfl, rfl, rfl, rfl, rfl, keyOf_int_mk Tryz.underlying3 (by rfl), [], by simp [slR]⟩
  · intro j hj j' hj'
    simp only [lsJ, List.mem_cons, List.not_mem_nil, or_false] at hj hj'
    rcases hj with rfl | rfl | rfl | rfl | rfl <;> rcases hj' with rfl | rfl | rfl | rfl | rfl <;> simp
  · intro w' D' hown' hg' hat'
    refine wpAny_one (i := 16) (v := .map (some b)) (w' := w') (by kernel_rfl) rfl (by rfl) (yl_move (x := .tmp 3) (u := .map (some b)) rfl rfl _) ?_
    change wpAny _ _ _ _ _ _ ⟨#[.agg A, .pointer (some ⟨B, 0, none⟩), .map none, .map (some b), .pointer (some ⟨B, 0, none⟩), .slice (some ⟨B, 0, none⟩) 12 12, .pointer (some ⟨B, 12, none⟩), .slice (some ⟨B, 12, none⟩) 12 12, .pointer (some ⟨B, 24, none⟩), .slice (some ⟨B, 24, none⟩) 7 7, .pointer (some ⟨B, 31, none⟩), .slice (some ⟨B, 31, none⟩) 7 7, .pointer (some ⟨B, 38, none⟩), .slice (some ⟨B, 38, none⟩) 2 2, .map (some b)], []⟩ _
    refine wpAny_one (i := 17) (v := .map (some b)) (w' := w') (by kernel_rfl) rfl (by rfl) (yl_assign (x := .tmp 14) (u := .map (some b)) rfl rfl _) ?_
    change wpAny _ _ _ _ _ _ ⟨#[.agg A, .pointer (some ⟨B, 0, none⟩), .map (some b), .map (some b), .pointer (some ⟨B, 0, none⟩), .slice (some ⟨B, 0, none⟩) 12 12, .pointer (some ⟨B, 12, none⟩), .slice (some ⟨B, 12, none⟩) 12 12, .pointer (some ⟨B, 24, none⟩), .slice (some ⟨B, 24, none⟩) 7 7, .pointer (some ⟨B, 31, none⟩), .slice (some ⟨B, 31, none⟩) 7 7, .pointer (some ⟨B, 38, none⟩), .slice (some ⟨B, 38, none⟩) 2 2, .map (some b)], []⟩ _
    refine wpAny_done (by kernel_rfl) ?_ _
    have hEw : Ext V w' := ext_grown_at hVd hg' (by omega)
    go_wp2_with fail
    refine bodyPost_ret (v := .map (some b)) (by simp [results, Tryz.results72, go_sem]) rfl ⟨b, D', rfl, ?_, ?_, ?_, ?_, hE.trans hEw⟩
    · rw [← hB]; exact hown'
    · rw [← hB]; exact hat'
    · rw [← hB]; exact Nat.lt_of_lt_of_le (by omega) hEw.size
    · rw [← hB]; exact fun o => (hEw.cells B o (by omega)).trans (hA o)
end Go.Proofs.YtnhdmnhfllecgaaGreatDoor
