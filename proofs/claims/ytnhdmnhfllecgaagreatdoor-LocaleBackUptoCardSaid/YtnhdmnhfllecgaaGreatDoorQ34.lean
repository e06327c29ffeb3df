/- A region that draws its order, whose operations read, make memory, or write each into blocks of its own: walked once. Plain law over any program. -/
import Derived.Test.YtnhdmnhfllecgaaGreatDoorQ28
import Derived.Test.YtnhdmnhfllecgaaGreatDoorQ01
import Derived.Test.YtnhdmnhfllecgaaGreatDoorQ33
namespace Go.Proofs.YtnhdmnhfllecgaaGreatDoor
set_option linter.unusedVariables false
set_option linter.unusedSimpArgs false
open Go

def growChkO (md : Region.Mode) (ops : Array Oper) (n m : Nat) (d : Nat → Option Nat) : Bool :=
  (List.range n).all (fun i => (gdeps md ops i).all (fun j => decide (j < i)) && ((ops[i]?).map fun o => decide (o.dst = d i) && o.guard.isNone).getD false) &&
  (List.range m).all (fun t => (List.range n).all fun j => (gdeps md ops (n + t)).any fun k => greach md ops n k j) && decide (n + m = ops.size)
def evD (o : Option Nat) (a : Act) : Value := match o with | some k => a.eval (.tmp k) | none => undef
def putD (o : Option Nat) (v : Value) (a : Act) : Act := match o with | some k => a.put (some k) v | none => a
theorem put_putD (o : Option Nat) (v : Value) (a : Act) : a.put o v = putD o v a := by cases o <;> rfl
def nrmD (o : Option Nat) (v : Value) : Value := match o with | some _ => v | none => undef
/-- The values put where they go. -/
def putAllO (d : Nat → Option Nat) (vals : Nat → Value) (n : Nat) (a : Act) : Act := (List.range n).foldl (fun b j => putD (d j) (vals j) b) a
theorem putAllO_succ (d : Nat → Option Nat) (vals : Nat → Value) (n : Nat) (a : Act) : putAllO d vals (n + 1) a = putD (d n) (vals n) (putAllO d vals n a) := by
  unfold putAllO; rw [List.range_succ, List.foldl_append]; rfl
theorem putAllO_spec (d : Nat → Option Nat) (a a0 : Act) (hs : a.tmps.size = a0.tmps.size) : ∀ n, (∀ i k, i < n → d i = some k → k < a0.tmps.size) →
    (putAllO d (fun i => evD (d i) a) n a0).defers = a0.defers ∧ (putAllO d (fun i => evD (d i) a) n a0).tmps.size = a0.tmps.size ∧
    ∀ k, (putAllO d (fun i => evD (d i) a) n a0).tmps[k]? = if (∃ j, j < n ∧ d j = some k) then a.tmps[k]? else a0.tmps[k]?
  | 0, _ => ⟨rfl, rfl, fun k => by rw [if_neg (by rintro ⟨j, hj, _⟩; omega)]; rfl⟩
  | n + 1, hd => by
    obtain ⟨h1, h2, h3⟩ := putAllO_spec d a a0 hs n (fun i k hi => hd i k (by omega))
    rw [putAllO_succ]
    cases e0 : d n with
    | none =>
      simp only [putD]
      refine ⟨h1, h2, fun k => ?_⟩
      rw [h3]
      by_cases q : ∃ j, j < n ∧ d j = some k
      · obtain ⟨j, hj, q⟩ := q
        rw [if_pos ⟨j, hj, q⟩, if_pos ⟨j, by omega, q⟩]
      · rw [if_neg q, if_neg]
        rintro ⟨j, hj, hq⟩
        by_cases e2 : j = n
        · subst e2; rw [e0] at hq; cases hq
        · exact q ⟨j, by omega, hq⟩
    | some kn =>
      generalize hb : putAllO d (fun i => evD (d i) a) n a0 = bb at h1 h2 h3 ⊢
      simp only [putD, evD]
      have hn := hd n kn (by omega) e0
      refine ⟨h1, by simp [Act.put, h2], fun k => ?_⟩
      simp only [Act.put, Array.getElem?_setIfInBounds]
      by_cases e : kn = k
      · subst e
        rw [if_pos rfl, if_pos (by rw [h2]; exact hn), if_pos ⟨n, by omega, e0⟩, Array.getElem?_eq_getElem (by omega)]
        simp [Act.eval, hs, hn]
      · rw [if_neg e, h3]
        by_cases q : ∃ j, j < n ∧ d j = some k
        · obtain ⟨j, hj, q⟩ := q
          rw [if_pos ⟨j, hj, q⟩, if_pos ⟨j, by omega, q⟩]
        · rw [if_neg q, if_neg]
          rintro ⟨j, hj, hq⟩
          by_cases e2 : j = n
          · subst e2; rw [e0] at hq; injection hq with hq; exact e hq
          · exact q ⟨j, by omega, hq⟩
/-- What the others may write. -/
def OthS (S : Nat → Nat → Prop) (i : Nat) (k : Nat) : Prop := ∃ j, j ≠ i ∧ S j k
def AllS (S : Nat → Nat → Prop) (k : Nat) : Prop := ∃ j, S j k
/-- One operation. -/
def GStepO (P : Program) (md : Region.Mode) (ops : Array Oper) (Q : Exit → Act → World → Prop) (n : Nat) (d : Nat → Option Nat) (R : Nat → Value → World → Prop) (S : Nat → Nat → Prop) (a0 : Act) (V : World) (i : Nat) : Prop :=
  ∀ (a : Act) (w : World), Frm (OthS S i) V w → (∀ k, (∀ j, j < n → d j ≠ some k) → a.eval (.tmp k) = a0.eval (.tmp k)) → (∀ j, (gdeps md ops i).contains j = true → R j (evD (d j) a) w) →
    ∀ K : Act → World → Prop, (∀ v w', R i (nrmD (d i) v) w' → Frm (S i) w w' → K (a.put (d i) v) w') → ((ops[i]?).getD default).wp P a w K Q
structure GInvO (S : Nat → Nat → Prop) (md : Region.Mode) (ops : Array Oper) (n m : Nat) (d : Nat → Option Nat) (R : Nat → Value → World → Prop) (a0 : Act) (V : World) (todo : List Nat) (listed : Array Bool) (a : Act) (w : World) : Prop where
  size : listed.size = n + m
  tail : ∀ i, n ≤ i → listed.getD i true = true → n + m ≤ i
  nd : todo.Nodup
  lt : ∀ i ∈ todo, i < n
  mem : ∀ i, i < n → (listed.getD i true = true ↔ i ∉ todo)
  down : Down md ops listed
  asz : a.tmps.size = a0.tmps.size
  dfr : a.defers = a0.defers
  frame : ∀ k, (∀ j, j < n → d j ≠ some k) → a.tmps[k]? = a0.tmps[k]?
  facts : ∀ i, i < n → i ∉ todo → R i (evD (d i) a) w
  fr : Frm (fun k => ∃ j, j < n ∧ j ∉ todo ∧ S j k) V w
theorem grow_goO {P : Program} {md : Region.Mode} {ops : Array Oper} {Q : Exit → Act → World → Prop} (n m : Nat) (d : Nat → Option Nat) (R : Nat → Value → World → Prop) (S : Nat → Nat → Prop) (a0 : Act) (V : World)
    (hc : growChkO md ops n m d = true) (hst : ∀ j v w w', j < n → R j v w → Frm (OthS S j) w w' → R j v w') (hinj : ∀ i j k, i < n → j < n → d i = some k → d j = some k → i = j) (hds : ∀ i k, i < n → d i = some k → k < a0.tmps.size)
    (hstep : ∀ i, i < n → GStepO P md ops Q n d R S a0 V i)
    (hend : ∀ (vals : Nat → Value) (w : World), Frm (AllS S) V w → (∀ i, i < n → R i (vals i) w) → wpAny P md ops Q m (Array.replicate n true ++ Array.replicate m false) (putAllO d vals n a0) w) :
    ∀ (c : Nat) (todo : List Nat) (listed : Array Bool) (a : Act) (w : World), todo.length = c → GInvO S md ops n m d R a0 V todo listed a w → wpAny P md ops Q (c + m) listed a w := by
  simp only [growChkO, Bool.and_eq_true, List.all_eq_true, List.mem_range, List.any_eq_true, decide_eq_true_eq] at hc
  obtain ⟨⟨hc1, hc2⟩, hsz⟩ := hc
  intro c
  induction c with
  | zero =>
    intro todo listed a w ht hI
    obtain rfl : todo = [] := List.length_eq_zero_iff.1 ht
    have hl : listed = Array.replicate n true ++ Array.replicate m false := by
      apply Array.ext
      · simp [hI.size]
      · intro i h1 h2
        have e : listed[i] = listed.getD i true := by simp [Array.getD, h1]
        rw [e]
        by_cases q : i < n
        · rw [(hI.mem i q).2 (by simp), Array.getElem_append_left (by simpa using q)]
          simp
        · rw [Array.getElem_append_right (by simpa using q)]
          simp only [Array.getElem_replicate]
          cases e : listed.getD i true with
          | false => rfl
          | true =>
            have := hI.tail i (by omega) e
            rw [hI.size] at h1
            omega
    have ha : a = putAllO d (fun i => evD (d i) a) n a0 := by
      obtain ⟨p1, p2, p3⟩ := putAllO_spec d a a0 hI.asz n hds
      obtain ⟨ts, df⟩ := a
      have e1 : ts = (putAllO d (fun i => evD (d i) (⟨ts, df⟩ : Act)) n a0).tmps := by
        apply Array.ext_getElem?
        intro k
        rw [p3 k]
        by_cases q : ∃ j, j < n ∧ d j = some k
        · rw [if_pos q]
        · rw [if_neg q]
          exact hI.frame k (fun j hj e => q ⟨j, hj, e⟩)
      have e2 : df = (putAllO d (fun i => evD (d i) (⟨ts, df⟩ : Act)) n a0).defers := by rw [p1]; exact hI.dfr
      generalize putAllO d (fun i => evD (d i) (⟨ts, df⟩ : Act)) n a0 = b at e1 e2
      obtain ⟨bt, bd⟩ := b
      simp only at e1 e2
      rw [e1, e2]
    have hw := hend (fun i => evD (d i) a) w (hI.fr.mono (fun k _ ⟨j, _, _, h⟩ => ⟨j, h⟩)) (fun i hi => hI.facts i hi (by simp))
    rw [Nat.zero_add, hl]
    rw [← ha] at hw
    exact hw
  | succ c ih =>
    intro todo listed a w ht hI
    rw [show c + 1 + m = (c + m) + 1 by omega]
    have hLT : ∀ i, i < n → i < listed.size := fun i hi => by rw [hI.size]; omega
    refine ⟨fun h0 => ?_, fun i hi => ?_⟩
    · exfalso
      obtain ⟨i, hi, hmin⟩ := least_of todo (by intro e; rw [e] at ht; cases ht)
      have hin := hI.lt i hi
      have : i ∈ Region.ready md ops listed := by
        rw [mem_ready]
        obtain ⟨hdep, hop⟩ := hc1 i hin
        cases ho : ops[i]? with
        | none => rw [ho] at hop; cases hop
        | some o =>
          refine ⟨?_, o, rfl, fun e he hb => ?_⟩
          · cases e : listed.getD i true with
            | false => rfl
            | true => exact absurd hi ((hI.mem i hin).1 e)
          · have hj : e.on < i := hdep e.on ((mem_gdeps ho).2 ⟨e, he, hb, rfl⟩)
            have hjn : e.on < n := by omega
            rw [getD_in (hLT _ hjn) false true]
            exact (hI.mem _ hjn).2 (fun q => by have := hmin _ q; omega)
      rw [h0] at this
      cases this
    · obtain ⟨hun, o, ho, hall⟩ := mem_ready.1 hi
      have hio : i < ops.size := (Array.getElem?_eq_some_iff.1 ho).1
      have hin : i < n := by
        rcases Nat.lt_or_ge i n with q | q
        · exact q
        · exfalso
          obtain ⟨x, hx⟩ : ∃ x, x ∈ todo := by
            cases todo with
            | nil => cases ht
            | cons x r => exact ⟨x, by simp⟩
          have hxn := hI.lt x hx
          obtain ⟨k, hk, hr⟩ := hc2 (i - n) (by omega) x hxn
          rw [show n + (i - n) = i by omega] at hk
          obtain ⟨e, he, hb, rfl⟩ := (mem_gdeps ho).1 hk
          have h1 := greach_down hI.down _ _ _ hr (hall e he hb)
          rw [getD_in (hLT x hxn) false true] at h1
          exact (hI.mem x hxn).1 h1 hx
      obtain ⟨hdep, hop⟩ := hc1 i hin
      rw [ho] at hop
      simp only [Option.map_some, Option.getD_some, Bool.and_eq_true, decide_eq_true_eq, Option.isNone_iff_eq_none] at hop
      obtain ⟨hdst, hgd⟩ := hop
      have hit : i ∈ todo := Classical.byContradiction fun q => by
        rw [(hI.mem i hin).2 q] at hun; cases hun
      unfold wpOp
      rw [ho]
      simp only [Region.wanted, hgd, if_true]
      left
      have hs := hstep i hin a w (hI.fr.mono (fun k _ ⟨j, h1, h2, h3⟩ => ⟨j, fun e => h2 (by rw [e]; exact hit), h3⟩)) (fun k hk => eval_of_get (hI.frame k hk)) (fun j hj => by
        have hj : j ∈ gdeps md ops i := by simpa using hj
        have hjn : j < n := by have := hdep j hj; omega
        refine hI.facts j hjn ?_
        obtain ⟨e, he, hb, rfl⟩ := (mem_gdeps ho).1 hj
        have h1 := hall e he hb
        rw [getD_in (hLT _ hjn) false true] at h1
        exact (hI.mem _ hjn).1 h1) (wpAny P md ops Q (c + m) (listed.setIfInBounds i true)) (fun v w' hR hF => ?_)
      · rw [ho] at hs
        exact hs
      · rw [put_putD]
        refine ih (todo.filter (fun y => y != i)) _ _ _ ?_ ?_
        · have h1 : todo.filter (fun y => y != i) = todo.erase i := by rw [hI.nd.erase_eq_filter]
          rw [h1, List.length_erase_of_mem hit, ht]; rfl
        · have hset : ∀ j, j ≠ i → ∀ b, (listed.setIfInBounds i true).getD j b = listed.getD j b := fun j hj b => getD_set_ne b (Ne.symm hj)
          have hsi : ∀ b, (listed.setIfInBounds i true).getD i b = true := fun b => by
            have := hLT i hin
            simp [Array.getD, this]
          have hget : ∀ k, (putD (d i) v a).tmps[k]? = if d i = some k then some v else a.tmps[k]? := fun k => by
            cases e0 : d i with
            | none => rw [if_neg (by simp)]; rfl
            | some kn =>
              have hdi := hds i kn hin e0
              simp only [putD, Act.put, Array.getElem?_setIfInBounds]
              by_cases e : kn = k
              · subst e
                simp [hI.asz, hdi]
              · have e3 : ¬ (some kn : Option Nat) = some k := fun q => e (by injection q)
                simp [e, e3]
          have hsz2 : (putD (d i) v a).tmps.size = a.tmps.size := by cases d i <;> simp [putD, Act.put]
          have hdf2 : (putD (d i) v a).defers = a.defers := by cases d i <;> rfl
          refine ⟨by simpa using hI.size, ?_, hI.nd.filter _, ?_, ?_, ?_, hsz2.trans hI.asz, hdf2.trans hI.dfr, ?_, ?_, ?_⟩
          · intro j hj h1
            rw [hset j (by omega)] at h1
            exact hI.tail j hj h1
          · intro j hj; exact hI.lt j (List.mem_filter.1 hj).1
          · intro j hj
            by_cases e : j = i
            · subst e
              rw [hsi]; simp
            · rw [hset j e, hI.mem j hj, List.mem_filter]
              simp [e]
          · intro j hj k hk
            by_cases e : j = i
            · subst e
              obtain ⟨e, he, hb, rfl⟩ := (mem_gdeps ho).1 hk
              exact getD_set_true (hall e he hb)
            · rw [hset j e] at hj
              exact getD_set_true (hI.down j hj k hk)
          · intro k hk
            rw [hget, if_neg (hk i hin)]
            exact hI.frame k hk
          · intro j hj hjt
            by_cases e : j = i
            · subst e
              have ev : evD (d j) (putD (d j) v a) = nrmD (d j) v := by
                cases e0 : d j with
                | none => rfl
                | some k =>
                  have h1 := hget k
                  rw [e0, if_pos rfl] at h1
                  simp only [evD, Act.eval, Array.getD_eq_getD_getElem?]
                  rw [h1]; rfl
              rw [ev]; exact hR
            · have ev : evD (d j) (putD (d i) v a) = evD (d j) a := by
                cases e0 : d j with
                | none => rfl
                | some k =>
                  have h1 := hget k
                  rw [if_neg (fun q => e (hinj i j k hin hj q e0).symm)] at h1
                  simp only [evD, Act.eval, Array.getD_eq_getD_getElem?]
                  rw [h1]
              rw [ev]
              exact hst _ _ _ _ hj (hI.facts j hj (fun q => hjt (List.mem_filter.2 ⟨q, by simpa using e⟩))) (hF.mono (fun k _ h => ⟨i, fun q => e q.symm, h⟩))
          · refine (hI.fr.mono (fun k _ ⟨j, h1, h2, h3⟩ => ⟨j, h1, fun q => h2 (List.mem_filter.1 q).1, h3⟩)).trans (hF.mono (fun k _ h => ⟨i, hin, fun q => by simpa using (List.mem_filter.1 q).2, h⟩))
/-- The same, one behind the other. -/
def putG (d : Nat → Option Nat) (vals : Nat → Value) : Nat → Nat → Act → Act
  | 0, _, a => a
  | k + 1, i, a => putG d vals k (i + 1) (putD (d i) (vals i) a)
theorem putG_eq (d : Nat → Option Nat) (vals : Nat → Value) : ∀ (k i : Nat) (a : Act), (List.range' i k).foldl (fun b j => putD (d j) (vals j) b) a = putG d vals k i a
  | 0, _, _ => rfl
  | k + 1, i, a => by rw [List.range'_succ, List.foldl_cons, putG_eq d vals k (i + 1)]; rfl
theorem putAllO_G (d : Nat → Option Nat) (vals : Nat → Value) (n : Nat) (a : Act) : putAllO d vals n a = putG d vals n 0 a := by
  unfold putAllO; rw [List.range_eq_range', putG_eq]
def injB (ds : List (Option Nat)) : Bool := (List.range ds.length).all fun i => (List.range ds.length).all fun j => decide (i = j) || (ds.getD i none).isNone || decide (ds.getD i none ≠ ds.getD j none)
/-- The law: ds: where the first operations leave their values; Rs: what is known of these; S: which blocks each may write. -/
theorem wp_region_growO {P : Program} {id : Nat} {Q : Exit → Act → World → Prop} {a0 : Act} {w : World} {l : List Oper} (ds : List (Option Nat)) (Rs : List (Value → World → Prop)) (S : Nat → Nat → Prop) (m : Nat)
    (hm : P.follows .mixedOrders = true) (hc : growChkO .any l.toArray ds.length m (fun i => ds.getD i none) = true) (hn : injB ds = true) (hz : ds.all (fun x => x.all fun k => decide (k < a0.tmps.size)) = true)
    (hst : AllIdx (fun i => ∀ v w w', Rs.getD i (fun _ _ => True) v w → Frm (OthS S i) w w' → Rs.getD i (fun _ _ => True) v w') 0 ds.length)
    (hstep : AllIdx (GStepO P .any l.toArray Q ds.length (fun i => ds.getD i none) (fun i => Rs.getD i (fun _ _ => True)) S a0 w) 0 ds.length)
    (hend : ∀ (vals : Nat → Value) (w' : World), Frm (AllS S) w w' → AllIdx (fun i => Rs.getD i (fun _ _ => True) (vals i) w') 0 ds.length → wpAny P .any l.toArray Q m (Array.replicate ds.length true ++ Array.replicate m false) (putG (fun i => ds.getD i none) vals ds.length 0 a0) w') :
    (Code.region id l.toArray true).wp P Q a0 w := by
  refine wp_region_any hm ?_
  have hsz : ds.length + m = l.toArray.size := by
    have := hc
    simp only [growChkO, Bool.and_eq_true, decide_eq_true_eq] at this
    exact this.2
  rw [← hsz]
  have hall : ∀ (p : Nat → Prop) (k i : Nat), (∀ j, i ≤ j → j < i + k → p j) → AllIdx p i k := by
    intro p k
    induction k with
    | zero => intro i _; trivial
    | succ k ih => intro i h; exact ⟨h i (Nat.le_refl _) (by omega), ih (i + 1) (fun j h1 h2 => h j (by omega) (by omega))⟩
  refine grow_goO ds.length m (fun i => ds.getD i none) (fun i => Rs.getD i (fun _ _ => True)) S a0 w hc (fun j v w w' hj => hst.out _ _ j (Nat.zero_le _) (by omega) v w w') ?_ ?_ (fun i hi => hstep.out _ _ i (Nat.zero_le _) (by omega)) (fun vals w' hE hR => by rw [putAllO_G]; exact hend vals w' hE (hall _ _ _ (fun j _ hj => hR j (by omega)))) ds.length (List.range ds.length) _ _ _ (by simp) ?_
  · intro i j k hi hj e1 e2
    unfold injB at hn
    simp only [List.all_eq_true, List.mem_range, Bool.or_eq_true, decide_eq_true_eq] at hn
    rcases hn i hi j hj with (q | q) | q
    · exact q
    · rw [show ds.getD i none = some k from e1] at q; cases q
    · exact absurd (e1.trans e2.symm) q
  · intro i k hi e
    have h1 := List.all_eq_true.1 hz _ (List.getElem_mem hi)
    have h2 : ds[i] = some k := by simpa [List.getD, hi] using e
    rw [h2] at h1
    exact of_decide_eq_true h1
  · refine ⟨by simp, ?_, List.nodup_range, fun i hi => by simpa using hi, ?_, ?_, rfl, rfl, fun _ _ => rfl, ?_, Frm.of_ext (Ext.refl w).drew⟩
    · intro i hi h
      rcases Nat.lt_or_ge i (ds.length + m) with q | q
      · exfalso
        simp [Array.getD, q] at h
      · exact q
    · intro i hi
      have : i < ds.length + m := by omega
      simp [Array.getD, this, hi]
    · intro i hi
      exfalso
      by_cases q : i < ds.length + m <;> simp [Array.getD, q] at hi
    · intro i hi hni
      exact absurd (List.mem_range.2 hi) hni
end Go.Proofs.YtnhdmnhfllecgaaGreatDoor
/- Locales: the walk of Parse. -/
namespace Go.Proofs.YtnhdmnhfllecgaaGreatDoor
set_option linter.unusedVariables false
set_option linter.unusedSimpArgs false
open Go.RowKit

theorem zlit_eq : (#[Value.string ⟨#[]⟩, Value.string ⟨#[]⟩, Value.string ⟨#[]⟩, Value.string ⟨#[]⟩, Value.string ⟨#[]⟩, Value.string ⟨#[]⟩, Value.string ⟨#[]⟩, Value.string ⟨#[]⟩, Value.string ⟨#[]⟩, Value.string ⟨#[]⟩, Value.string ⟨#[]⟩, Value.string ⟨#[]⟩, Value.string ⟨#[]⟩, Value.string ⟨#[]⟩, Value.string ⟨#[]⟩, Value.string ⟨#[]⟩, Value.string ⟨#[]⟩, Value.string ⟨#[]⟩, Value.string ⟨#[]⟩, Value.string ⟨#[]⟩, Value.string ⟨#[]⟩, Value.string ⟨#[]⟩, Value.string ⟨#[]⟩, Value.string ⟨#[]⟩, Value.string ⟨#[]⟩, Value.string ⟨#[]⟩, Value.string ⟨#[]⟩, Value.string ⟨#[]⟩, Value.string ⟨#[]⟩, Value.string ⟨#[]⟩, Value.string ⟨#[]⟩, Value.string ⟨#[]⟩, Value.string ⟨#[]⟩, Value.string ⟨#[]⟩, Value.string ⟨#[]⟩, Value.string ⟨#[]⟩, Value.string ⟨#[]⟩, Value.string ⟨#[]⟩, Value.string ⟨#[]⟩, Value.string ⟨#[]⟩, Value.string ⟨#[]⟩, Value.slice none 0 0, Value.slice none 0 0, Value.slice none 0 0, Value.string ⟨#[]⟩] : Array Value) = zeroV := by kernel_rfl
theorem yr_bld0 {P : Program} {o : Oper} {a : Act} {w w' : World} {t : TypeId} {r : Value} (hop : o.op = .build t #[]) (hrun : (Instr.build t #[]).run P w = .ok r w') : (execOp a.eval o).run P w = .ok (.value r) w' := by
  unfold execOp; simp only [hop]
  simp only [Sem.run_bind, List.map_toArray, List.map_nil, hrun, Result.andThen]
  rfl
theorem wpList_bld0 {P : Program} {ops : Array Oper} {rest : List Oper} {o : Oper} {a : Act} {w : World} {Q : Exit → Act → World → Prop} {v : Value} (t : TypeId) (hgd : o.guard = none) (hop : o.op = .build t #[]) (hrun : (Instr.build t #[]).run P w = .ok v w) (h : wpList P ops Q rest (a.put o.dst v) w) : wpList P ops Q (o :: rest) a w :=
  wpList_plain hgd fun K hK => by
    unfold Oper.wp
    rw [yr_bld0 hop hrun]
    exact hK _ _ h
theorem bld0_loc (w : World) : (Instr.build 30 #[]).run Tryz.prog w = .ok (.agg zeroV) w := by kernel_rfl
theorem ld_err (p : Addr) (x : Value) (w : World) (hc : w.cell? p = some x) : (Instr.loadAt 33 (.pointer (some p))).run Tryz.prog w = .ok x w := by go_simp
theorem ld_pos (R o : Nat) (x y : Value) (w : World) (h0 : w.cell? ⟨R, o, none⟩ = some x) (h1 : w.cell? ⟨R, o + 1, none⟩ = some y) : (Instr.loadAt 39 (.pointer (some ⟨R, o, none⟩))).run Tryz.prog w = .ok (.agg #[x, y]) w := by go_simp
theorem zero_info : (Tryz.prog.info? 30).map (·.size) = some zeroV.size := by kernel_rfl
theorem zero_one : zeroV.all (·.oneCell') = true := by kernel_rfl
theorem pos_info (x y : Value) : (Tryz.prog.info? 39).map (·.size) = some (#[x, y] : Array Value).size := by kernel_rfl
theorem pos_one (a b : Int) : (#[.int .i64 a, .int .i64 b] : Array Value).all (·.oneCell') = true := by simp [Value.oneCell']
theorem fr_ofO {ds : List (Option Nat)} {k : Nat} (h : ds.contains (some k) = false) : ∀ j, j < ds.length → ds.getD j none ≠ some k := by
  intro j hj e
  have : ds[j] = some k := by simpa [List.getD, hj] using e
  have h2 : some k ∉ ds := by simpa using h
  exact h2 (this ▸ List.getElem_mem _)
theorem there_frm {W w : World} {R n : Nat} {S : Nat → Prop} (h : W.there R 0 n) (hl : R < W.heap.size) (hF : Frm S W w) (hS : ¬ S R) : w.there R 0 n := fun j hj => by
  obtain ⟨a, b⟩ := h j hj
  exact ⟨by rw [hF.cel hl hS]; exact a, by rw [hF.frz hl hS]; exact b⟩
theorem range_frm {w w' : World} {R : Nat} {vs : List Value} {S : Nat → Prop} (h : R < w.heap.size ∧ w.rangeAt R 0 vs) (hF : Frm S w w') (hS : ¬ S R) : R < w'.heap.size ∧ w'.rangeAt R 0 vs :=
  ⟨hF.lt h.1, fun j v hv => (hF.cel h.1 hS _).trans (h.2 j v hv)⟩
theorem frm_sets {S : Nat → Prop} (w : World) (b : Nat) : ∀ (vs : List Value) (o : Nat), S b → Frm S w (w.setCells b o vs) := by
  intro vs o hS
  induction vs generalizing w o with
  | nil => exact Frm.refl _ _
  | cons v r ih => rw [World.setCells]; exact ((Frm.refl S w).setCell (p := ⟨b, o, none⟩) (.inl hS) v).trans (ih _ _)
theorem range_set (w : World) (R : Nat) (vs : List Value) (hR : R < w.heap.size) (ht : w.there R 0 vs.length) : R < (w.setCells R 0 vs).heap.size ∧ (w.setCells R 0 vs).rangeAt R 0 vs :=
  ⟨(frm_sets (S := fun _ => True) w R vs 0 trivial).lt hR, World.rangeAt_setCells_same w R 0 vs ht⟩
theorem results_c3 {fn : Func} {tmps : Array Value} {w : World} {a b c : Tmp} {t u : TypeId} {v1 v2 v3 : Value} {p q : Addr} (h : fn.results = #[.cell a t, .cell b u, .tmp c]) (h3 : tmps.getD c undef = v3) (hp : tmps.getD a undef = .pointer (some p)) (hq : tmps.getD b undef = .pointer (some q)) (h1 : (loadVar t p).run Tryz.prog w = .ok v1 w) (h2 : (loadVar u q).run Tryz.prog w = .ok v2 w) :
    (results fn tmps).run Tryz.prog w = .ok (.tuple #[v1, v2, v3]) w := by
  unfold results
  rw [h]
  subst h3
  have hp2 : tmps[a]?.getD undef = .pointer (some p) := by rw [← hp]; simp
  have hq2 : tmps[b]?.getD undef = .pointer (some q) := by rw [← hq]; simp
  simp [hp2, hq2, h1, h2, asAddr]
theorem loc_one (L : Loc) : ∀ v ∈ L.vals, v.oneCell' = true := by
  intro v hv
  unfold Loc.vals at hv
  rcases List.mem_cons.1 hv with rfl | hv
  · rfl
  · rcases List.mem_append.1 hv with hv | hv
    · unfold sv at hv
      obtain ⟨l, -, rfl⟩ := List.mem_map.1 hv
      rfl
    · simp only [List.mem_cons, List.not_mem_nil, or_false] at hv
      rcases hv with rfl | rfl | rfl | rfl <;> rfl
/-- What Parse answers. -/
def parOut (s : List UInt8) (e : Ending) (w' : World) : Prop := match parL s with
  | .er c ln => e = .returned (.tuple #[.agg zeroV, .agg #[.int .i64 (ln : Int), .int .i64 ((if ln = 0 then 0 else 1 : Nat) : Int)], .int .i64 (c : Int)])
  | .ok D => ∃ L, Dat L D ∧ DSz D 50000 ∧ LcV L w' ∧ e = .returned (.tuple #[.agg L.vals.toArray, .agg #[.int .i64 0, .int .i64 0], .int .i64 0])
theorem er_out {tx : List UInt8} {e al ac : Nat} (h : (e = 3 ∧ ac = 1 ∧ parL tx = .er 3 al ∧ 1 ≤ al) ∨ (e = 4 ∧ al = 0 ∧ ac = 0 ∧ parL tx = .er 4 0)) : parL tx = .er e al ∧ ac = (if al = 0 then 0 else 1) ∧ e ≠ 0 := by
  rcases h with ⟨rfl, rfl, h, h1⟩ | ⟨rfl, rfl, rfl, h⟩
  · exact ⟨h, by rw [if_neg (by omega)], by decide⟩
  · exact ⟨h, by simp, by decide⟩
end Go.Proofs.YtnhdmnhfllecgaaGreatDoor
/- Locales: the walk of Parse, where a locale is read. -/
namespace Go.Proofs.YtnhdmnhfllecgaaGreatDoor
set_option linter.unusedVariables false
set_option linter.unusedSimpArgs false
open Go.RowKit

set_option maxRecDepth 100000 in
set_option maxHeartbeats 20000000 in
theorem parse_ok (s : List UInt8) (w : World) (hm : Lm w) (hs : s.length ≤ 50000) (hl : ∀ a ∈ spl 10 s, a.length ≤ 6000) (D0 : LocD) (hPP : parL s = .ok D0) :
    Calls Tryz.prog 11 #[.string ⟨s.toArray⟩] w fun e w' => parOut s e w' ∧ Ext w w' := by
  have Hm := Lib.hid hm
  have Hl := Lib.hid hl
  have HPP := Lib.hid hPP
  clear hm hl hPP
  go_enter Tryz.func11, Tryz.ntmps11
  go_upto_region 1 with fail
  rw [zlit_eq]
  have hE0 : Ext w ((w.alloc (.cells zeroV 30)).alloc (.cells #[.int .i64 0, .int .i64 0] 39)) := ((Ext.refl w).alloc _).alloc _
  have hz0 : (w.alloc (.cells zeroV 30)).heap.size = w.heap.size + 1 := by simp
  have hthL : ((w.alloc (.cells zeroV 30)).alloc (.cells #[.int .i64 0, .int .i64 0] 39)).there w.heap.size 0 zeroV.size :=
    there_frm (thr_new w zeroV 30 _ rfl) (by simp) (S := fun _ => False) (Frm.of_ext ((Ext.refl _).alloc _)) id
  have hthP : ((w.alloc (.cells zeroV 30)).alloc (.cells #[.int .i64 0, .int .i64 0] 39)).there (w.heap.size + 1) 0 2 := by
    have := thr_new (w.alloc (.cells zeroV 30)) #[.int .i64 0, .int .i64 0] 39 2 rfl
    rwa [hz0] at this
  have hzW : ((w.alloc (.cells zeroV 30)).alloc (.cells #[.int .i64 0, .int .i64 0] 39)).heap.size = w.heap.size + 2 := by simp
  generalize (w.alloc (.cells zeroV 30)).alloc (.cells #[.int .i64 0, .int .i64 0] 39) = W at hE0 hthL hthP hzW ⊢
  obtain ⟨RL, hRL⟩ : ∃ R, R = w.heap.size := ⟨_, rfl⟩
  obtain ⟨RP, hRP⟩ : ∃ R, R = w.heap.size + 1 := ⟨_, rfl⟩
  rw [← hRL] at hthL
  rw [← hRP] at hthP
  rw [← hRP, ← hRL]
  have hLP : RL ≠ RP := by omega
  have hRLl : RL < W.heap.size := by omega
  have hRPl : RP < W.heap.size := by omega
  have hwL : w.heap.size ≤ RL := by omega
  have hwP : w.heap.size ≤ RP := by omega
  have HE0 := Lib.hid hE0
  have HmW := Lib.hid (Hm.out.ext hE0)
  have HthL := Lib.hid hthL
  have HthP := Lib.hid hthP
  clear hE0 hz0 hzW hRL hRP hthL hthP
  go_upto_region 5 with fail
  rw [zlit_eq]
  have hS0 := Lib.hid (par_start s W hs Hl.out)
  have hEW : Ext W ((W.alloc (.cells zeroV 30)).alloc (.cells #[.string ⟨s.toArray⟩, .int .i64 0, .int .i64 0, .int .i64 0, .int .i64 0] 75)) := ((Ext.refl W).alloc _).alloc _
  generalize (W.alloc (.cells zeroV 30)).alloc (.cells #[.string ⟨s.toArray⟩, .int .i64 0, .int .i64 0, .int .i64 0, .int .i64 0] 75) = W1 at hS0 hEW ⊢
  obtain ⟨B, hB⟩ : ∃ B, B = W.heap.size := ⟨_, rfl⟩
  obtain ⟨X, hX⟩ : ∃ X, X = W.heap.size + 1 := ⟨_, rfl⟩
  have hbB : W.heap.size ≤ B := by omega
  have hbX : W.heap.size ≤ X := by omega
  have hBL : B ≠ RL ∧ B ≠ RP ∧ X ≠ RL ∧ X ≠ RP := by omega
  rw [← hX] at hS0
  have HS0 : Hid (PIn s B B X 0 W1) := by rw [Hid, hB]; rw [hB] at *; exact hS0.out
  rw [← hX, ← hB]
  have HEW := Lib.hid hEW
  clear hS0 hEW hB hX
  go_upto_region 15 with (first
    | (go_at_call 41; (with_reducible refine (ps_0 s B B X W _ hbX hbB HmW.out HEW.out HS0.out).mono ?_); rintro e v1 ⟨rfl, hE, hS⟩; have HE1 := Lib.hid hE; have HS1 := Lib.hid hS; clear hE hS)
    | (go_at_call 43; (with_reducible refine (ps_1 s B B X W _ hbX hbB HmW.out HE1.out HS1.out).mono ?_); rintro e v2 ⟨rfl, hE, hS⟩; have HE2 := Lib.hid hE; have HS2 := Lib.hid hS; clear hE hS)
    | (go_at_call 43; (with_reducible refine (ps_2 s B B X W _ hbX hbB HmW.out HE2.out HS2.out).mono ?_); rintro e v3 ⟨rfl, hE, hS⟩; have HE3 := Lib.hid hE; have HS3 := Lib.hid hS; clear hE hS)
    | (go_at_call 43; (with_reducible refine (ps_3 s B B X W _ hbX hbB HmW.out HE3.out HS3.out).mono ?_); rintro e v4 ⟨rfl, hE, hS⟩; have HE4 := Lib.hid hE; have HS4 := Lib.hid hS; clear hE hS)
    | (go_at_call 43; (with_reducible refine (ps_4 s B B X W _ hbX hbB HmW.out HE4.out HS4.out).mono ?_); rintro e v5 ⟨rfl, hE, hS⟩; have HE5 := Lib.hid hE; have HS5 := Lib.hid hS; clear hE hS)
    | (go_at_call 43; (with_reducible refine (ps_5 s B B X W _ hbX hbB HmW.out HE5.out HS5.out).mono ?_); rintro e v6 ⟨rfl, hE, hS⟩; have HE6 := Lib.hid hE; have HS6 := Lib.hid hS; clear hE hS)
    | (go_at_call 45; (with_reducible refine (category_c _ _).mono ?_); rintro e v9 ⟨rfl, rfl⟩)
    | (go_at_call 44; (with_reducible refine (ps_6 s B B X W _ hbX hbB HmW.out HE6.out HS6.out).mono ?_); rintro e v7 ⟨rfl, hE, hS⟩; have HE7 := Lib.hid hE; have HS7 := Lib.hid hS; clear hE hS)
    | (go_at_call 44; (with_reducible refine (ps_7 s B B X W _ hbX hbB HmW.out HE7.out HS7.out).mono ?_); rintro e v8 ⟨rfl, hE, hS⟩; have HE8 := Lib.hid hE; have HS8 := Lib.hid hS; clear hE hS)
    | (go_at_call 44; (with_reducible refine (ps_8 s B B X W _ hbX hbB HmW.out HE8.out HS8.out).mono ?_); rintro e v9 ⟨rfl, hE, hS⟩; have HE9 := Lib.hid hE; have HS9 := Lib.hid hS; clear hE hS)
    | (go_at_call 41; (with_reducible refine (ps_9 s B B X W _ hbX hbB HmW.out HE9.out HS9.out).mono ?_); rintro e va ⟨rfl, hE, hS⟩; have HEa := Lib.hid hE; have HSa := Lib.hid hS; clear hE hS))
  rcases HSa.out with ⟨rest, hO⟩ | hR
  · obtain ⟨L, D, at_, h1, h2, h3, h4, hx, h6, h7, h8, -⟩ := hO
    by_cases hne : rest = []
    · subst hne
      have hP : parL s = finL D := by rw [h6, runS_tail _ _ _ _ [] (fun x hx => by cases hx), if_pos (by decide), if_pos rfl]
      obtain ⟨sh1, sh2⟩ := h3.sh h4
      have h4 : DSz D 50000 := ⟨h4.nm, h4.pt, h4.N, h4.P, h4.O, h4.F, h4.ok, by have := h4.nP; omega, by have := h4.nO; omega, by have := h4.nU; omega⟩
      clear HSa HS9 HS8 HS7 HS6 HS5 HS4 HS3 HS2 HS1 HS0
      have hRW := And.intro hRLl hRPl
      have hR := h1.lcb.2
      have HV := Lib.hid h1.lcv
      have Hs1 := Lib.hid sh1
      have Hs2 := Lib.hid sh2
      have HLw := Lib.hid h1
      have HDa := Lib.hid h3
      have HDs := Lib.hid h4
      have hval := Lib.hid h3.valid
      have Hmv := Lib.hid (Hm.out.ext (HE0.out.trans HEa.out))
      have k0 := hx.c0
      have k2 := hx.c2
      have hXl := hx.lt
      replace HthL := Lib.hid (there_frm HthL.out hRLl (S := fun _ => False) (Frm.of_ext HEa.out) id)
      replace HthP := Lib.hid (there_frm HthP.out hRPl (S := fun _ => False) (Frm.of_ext HEa.out) id)
      replace hRLl := HEa.out.lt hRLl
      replace hRPl := HEa.out.lt hRPl
      have HP := Lib.hid hP
      have hIL := loc_size h1.ok
      have hI2 : (Tryz.prog.info? 30).map (·.size) = some L.vals.toArray.size := by rw [List.size_toArray]; exact hIL
      have h45 : L.vals.toArray.size = zeroV.size := by rw [List.size_toArray, Loc.len h1.ok]; kernel_rfl
      have HthV : Hid (∀ v, Ext va v → v.there RL 0 L.vals.toArray.size) := fun v hv => by rw [h45]; exact there_frm HthL.out hRLl (S := fun _ => False) (Frm.of_ext hv) id
      have hoc : L.vals.toArray.all (·.oneCell') = true := all_oneCell_toArray (fun v hv => loc_one L v hv)
      clear h1 h2 h3 h4 hx h6 h7 h8 sh1 sh2 hP h45
      rcases Bool.eq_false_or_eq_true (validLB L) with hv | hv
      · have HVl := Lib.hid hv
        clear hv
        go_wp2_with (first
          | (refine load_midg (by rfl) 30 _ rfl B 0 rfl L.vals _ hR Tryz.underlying30 rfl hIL ?_)
          | (go_at_call 9; (with_reducible refine (valid_c L true _ HV.out Hs1.out Hmv.out Hs2.out HVl.out).mono ?_); rintro e vb ⟨rfl, hEb⟩; have HthLb := Lib.hid (there_frm HthL.out hRLl (S := fun _ => False) (Frm.of_ext hEb) id); have HthPb := Lib.hid (there_frm HthP.out hRPl (S := fun _ => False) (Frm.of_ext hEb) id); have hRb := rng_ext hR HLw.out.lt hEb; have hRLb := hEb.lt hRLl; have hRPb := hEb.lt hRPl; have HEb := Lib.hid hEb; clear hEb hR hRLl hRPl)
          | (refine load_midg (by rfl) 30 _ rfl B 0 rfl L.vals _ hRb Tryz.underlying30 rfl hIL ?_)
          | (refine wpList_store_mid (op := ⟨none, .store 30 (.tmp 2) (.tmp 72), _, _, _, _⟩) rfl 30 _ _ rfl RL 0 L.vals.toArray rfl rfl (HthV.out _ HEb.out) hI2 hoc ?_; have hsL := range_set vb RL L.vals hRLb (HthV.out _ HEb.out); have hfL := frm_sets (S := fun k => k = RL) vb RL L.vals 0 rfl; generalize vb.setCells RL 0 L.vals = vc at hsL hfL ⊢)
          | (refine wpList_store_mid (op := ⟨none, .store 39 (.tmp 3) _, _, _, _, _⟩) rfl 39 _ _ rfl RP 0 #[.int .i64 0, .int .i64 0] rfl rfl (there_frm HthPb.out hRPb hfL (fun e => hLP e.symm)) (pos_info _ _) (pos_one _ _) ?_; have hsP := range_set vc RP [.int .i64 0, .int .i64 0] (hfL.lt hRPb) (there_frm HthPb.out hRPb hfL (fun e => hLP e.symm)); have hfP := frm_sets (S := fun k => k = RP) vc RP [.int .i64 0, .int .i64 0] 0 rfl; replace hsL := range_frm hsL hfP (fun e => hLP e); generalize vc.setCells RP 0 [.int .i64 0, .int .i64 0] = vd at hsL hsP hfP ⊢))
        refine bodyPost_ret (v := .tuple #[.agg L.vals.toArray, .agg #[.int .i64 0, .int .i64 0], .int .i64 0]) (results_c3 rfl rfl rfl rfl (run_loadVar_mid vd RL 0 30 L.vals _ hsL.2 Tryz.underlying30 rfl hIL) (run_loadVar_mid vd RP 0 39 [.int .i64 0, .int .i64 0] _ hsP.2 Tryz.underlying39 rfl (by kernel_rfl))) rfl ⟨?_, ?_⟩
        · unfold parOut
          have e1 : finL D = .ok D := by unfold finL; rw [if_pos (by rw [← hval.out]; exact HVl.out)]
          rw [HP.out, e1]
          have hF : Frm (fun k => k = RL ∨ k = RP) vb vd := (hfL.mono (fun k _ e => .inl e)).trans (hfP.mono (fun k _ e => .inr e))
          refine ⟨L, HDa.out, HDs.out, ?_, rfl⟩
          have hLb := HLw.out.ext HEb.out
          exact (hLb.frm hF (by rintro (e | e) <;> omega) (fun i x hx e => by have := (hLb.blk_in i x hx).1; rcases e with e | e <;> omega)).lcv
        · exact ext_frm (ext_frm (HE0.out.trans (HEa.out.trans HEb.out)) hfL (fun k e => by omega)) hfP (fun k e => by omega)
      · exact absurd HP.out (by unfold finL; rw [← hval.out, hv, if_neg (by simp)]; exact fun q => by rw [HPP.out] at q; cases q)
    · have hP : parL s = .er 3 (at_ + 1) := by
        rw [h6]
        rcases split_first 10 rest with q | ⟨a, r, rfl, q⟩
        · rw [runS_tail _ _ _ _ _ q, if_pos (by decide), if_neg hne]
        · rw [runS_line _ _ _ _ _ _ q, if_pos (by decide)]
      exfalso; have q := HPP.out; rw [hP] at q; cases q
  · obtain ⟨rest, ln, ec, al, ac, hx, hd⟩ := hR
    exfalso; have q := (er_out hd).1; rw [HPP.out] at q; cases q
end Go.Proofs.YtnhdmnhfllecgaaGreatDoor
