/- A region that draws its order, one of whose operations writes into known blocks (an append into a row with room), the others read or make memory: walked once. Plain law over any program. -/
import Derived.Test.YtnhdmnhfllecgaaGreatDoorQ28
import Derived.Test.YtnhdmnhfllecgaaGreatDoorQ01
namespace Go.Proofs.YtnhdmnhfllecgaaGreatDoor
set_option linter.unusedVariables false
set_option linter.unusedSimpArgs false
open Go

structure GInvP (S : Nat → Prop) (p : Nat) (md : Region.Mode) (ops : Array Oper) (n m : Nat) (d : Nat → Nat) (R : Nat → Value → World → Prop) (a0 : Act) (V : World) (todo : List Nat) (listed : Array Bool) (a : Act) (w : World) : Prop where
  size : listed.size = n + m
  tail : ∀ i, n ≤ i → listed.getD i true = true → n + m ≤ i
  nd : todo.Nodup
  lt : ∀ i ∈ todo, i < n
  mem : ∀ i, i < n → (listed.getD i true = true ↔ i ∉ todo)
  down : Down md ops listed
  asz : a.tmps.size = a0.tmps.size
  dfr : a.defers = a0.defers
  frame : ∀ k, (∀ j, j < n → d j ≠ k) → a.tmps[k]? = a0.tmps[k]?
  facts : ∀ i, i < n → i ∉ todo → R i (a.eval (.tmp (d i))) w
  ext : p ∈ todo → Ext V w
  fr : Frm S V w
/-- One operation, not the one that writes into blocks of S. -/
def GStepP (P : Program) (md : Region.Mode) (ops : Array Oper) (Q : Exit → Act → World → Prop) (n : Nat) (d : Nat → Nat) (R : Nat → Value → World → Prop) (S : Nat → Prop) (p : Nat) (a0 : Act) (V : World) (i : Nat) : Prop :=
  i ≠ p → ∀ (a : Act) (w : World), Frm S V w → (∀ k, (∀ j, j < n → d j ≠ k) → a.eval (.tmp k) = a0.eval (.tmp k)) → (∀ j, (gdeps md ops i).contains j = true → R j (a.eval (.tmp (d j))) w) →
    ∀ K : Act → World → Prop, (∀ v w', R i v w' → Ext w w' → K (a.put (some (d i)) v) w') → ((ops[i]?).getD default).wp P a w K Q
/-- The one that writes. -/
def GStepW (P : Program) (md : Region.Mode) (ops : Array Oper) (Q : Exit → Act → World → Prop) (n : Nat) (d : Nat → Nat) (R : Nat → Value → World → Prop) (S : Nat → Prop) (p : Nat) (a0 : Act) (V : World) : Prop :=
  ∀ (a : Act) (w : World), Ext V w → (∀ k, (∀ j, j < n → d j ≠ k) → a.eval (.tmp k) = a0.eval (.tmp k)) → (∀ j, (gdeps md ops p).contains j = true → R j (a.eval (.tmp (d j))) w) →
    ∀ K : Act → World → Prop, (∀ v w', R p v w' → Frm S w w' → K (a.put (some (d p)) v) w') → ((ops[p]?).getD default).wp P a w K Q
theorem grow_goP {P : Program} {md : Region.Mode} {ops : Array Oper} {Q : Exit → Act → World → Prop} (n m : Nat) (d : Nat → Nat) (R : Nat → Value → World → Prop) (S : Nat → Prop) (p : Nat) (a0 : Act) (V : World)
    (hc : growChk md ops n m d = true) (hst : ∀ i v w w', i < n → i ≠ p → R i v w → Frm S w w' → R i v w') (hstp : ∀ v w w', R p v w → Ext w w' → R p v w') (hinj : ∀ i j, i < n → j < n → d i = d j → i = j) (hds : ∀ i, i < n → d i < a0.tmps.size)
    (hstep : ∀ i, i < n → GStepP P md ops Q n d R S p a0 V i) (hstw : p < n → GStepW P md ops Q n d R S p a0 V)
    (hend : ∀ (vals : Nat → Value) (w : World), Frm S V w → (∀ i, i < n → R i (vals i) w) → wpAny P md ops Q m (Array.replicate n true ++ Array.replicate m false) (putAll d vals n a0) w) :
    ∀ (c : Nat) (todo : List Nat) (listed : Array Bool) (a : Act) (w : World), todo.length = c → GInvP S p md ops n m d R a0 V todo listed a w → wpAny P md ops Q (c + m) listed a w := by
  simp only [growChk, Bool.and_eq_true, List.all_eq_true, List.mem_range, List.any_eq_true, decide_eq_true_eq] at hc
  obtain ⟨⟨hc1, hc2⟩, hsz⟩ := hc
  intro c
  induction c with
  | zero =>
    intro todo listed a w ht hI
    obtain rfl : todo = [] := List.length_eq_zero_iff.1 ht
    have hl : listed = Array.replicate n true ++ Array.replicate m false := by
      apply Array.ext
      · simp [hI.size]
      · intro i h1 h2
        have e : listed[i] = listed.getD i true := by simp [Array.getD, h1]
        rw [e]
        by_cases q : i < n
        · rw [(hI.mem i q).2 (by simp), Array.getElem_append_left (by simpa using q)]
          simp
        · rw [Array.getElem_append_right (by simpa using q)]
          simp only [Array.getElem_replicate]
          cases e : listed.getD i true with
          | false => rfl
          | true =>
            have := hI.tail i (by omega) e
            rw [hI.size] at h1
            omega
    have ha : a = putAll d (fun i => a.eval (.tmp (d i))) n a0 := by
      obtain ⟨p1, p2, p3⟩ := putAll_spec d a a0 hI.asz n hds
      obtain ⟨ts, df⟩ := a
      have e1 : ts = (putAll d (fun i => (⟨ts, df⟩ : Act).eval (.tmp (d i))) n a0).tmps := by
        apply Array.ext_getElem?
        intro k
        rw [p3 k]
        by_cases q : ∃ j, j < n ∧ d j = k
        · rw [if_pos q]
        · rw [if_neg q]
          exact hI.frame k (fun j hj e => q ⟨j, hj, e⟩)
      have e2 : df = (putAll d (fun i => (⟨ts, df⟩ : Act).eval (.tmp (d i))) n a0).defers := by rw [p1]; exact hI.dfr
      generalize putAll d (fun i => (⟨ts, df⟩ : Act).eval (.tmp (d i))) n a0 = b at e1 e2
      obtain ⟨bt, bd⟩ := b
      simp only at e1 e2
      rw [e1, e2]
    have hw := hend (fun i => a.eval (.tmp (d i))) w hI.fr (fun i hi => hI.facts i hi (by simp))
    rw [Nat.zero_add, hl]
    rw [← ha] at hw
    exact hw
  | succ c ih =>
    intro todo listed a w ht hI
    rw [show c + 1 + m = (c + m) + 1 by omega]
    have hLT : ∀ i, i < n → i < listed.size := fun i hi => by rw [hI.size]; omega
    refine ⟨fun h0 => ?_, fun i hi => ?_⟩
    · exfalso
      obtain ⟨i, hi, hmin⟩ := least_of todo (by intro e; rw [e] at ht; cases ht)
      have hin := hI.lt i hi
      have : i ∈ Region.ready md ops listed := by
        rw [mem_ready]
        obtain ⟨hdep, hop⟩ := hc1 i hin
        cases ho : ops[i]? with
        | none => rw [ho] at hop; cases hop
        | some o =>
          refine ⟨?_, o, rfl, fun e he hb => ?_⟩
          · cases e : listed.getD i true with
            | false => rfl
            | true => exact absurd hi ((hI.mem i hin).1 e)
          · have hj : e.on < i := hdep e.on ((mem_gdeps ho).2 ⟨e, he, hb, rfl⟩)
            have hjn : e.on < n := by omega
            rw [getD_in (hLT _ hjn) false true]
            exact (hI.mem _ hjn).2 (fun q => by have := hmin _ q; omega)
      rw [h0] at this
      cases this
    · obtain ⟨hun, o, ho, hall⟩ := mem_ready.1 hi
      have hio : i < ops.size := (Array.getElem?_eq_some_iff.1 ho).1
      have hin : i < n := by
        rcases Nat.lt_or_ge i n with q | q
        · exact q
        · exfalso
          obtain ⟨x, hx⟩ : ∃ x, x ∈ todo := by
            cases todo with
            | nil => cases ht
            | cons x r => exact ⟨x, by simp⟩
          have hxn := hI.lt x hx
          obtain ⟨k, hk, hr⟩ := hc2 (i - n) (by omega) x hxn
          rw [show n + (i - n) = i by omega] at hk
          obtain ⟨e, he, hb, rfl⟩ := (mem_gdeps ho).1 hk
          have h1 := greach_down hI.down _ _ _ hr (hall e he hb)
          rw [getD_in (hLT x hxn) false true] at h1
          exact (hI.mem x hxn).1 h1 hx
      obtain ⟨hdep, hop⟩ := hc1 i hin
      rw [ho] at hop
      simp only [Option.map_some, Option.getD_some, Bool.and_eq_true, decide_eq_true_eq, Option.isNone_iff_eq_none] at hop
      obtain ⟨hdst, hgd⟩ := hop
      have hit : i ∈ todo := Classical.byContradiction fun q => by
        rw [(hI.mem i hin).2 q] at hun; cases hun
      unfold wpOp
      rw [ho]
      simp only [Region.wanted, hgd, if_true]
      left
      have hfr : ∀ k, (∀ j, j < n → d j ≠ k) → a.eval (.tmp k) = a0.eval (.tmp k) := fun k hk => eval_of_get (hI.frame k hk)
      have hfa : ∀ j, (gdeps md ops i).contains j = true → R j (a.eval (.tmp (d j))) w := fun j hj => by
        have hj : j ∈ gdeps md ops i := by simpa using hj
        have hjn : j < n := by have := hdep j hj; omega
        refine hI.facts j hjn ?_
        obtain ⟨e, he, hb, rfl⟩ := (mem_gdeps ho).1 hj
        have h1 := hall e he hb
        rw [getD_in (hLT _ hjn) false true] at h1
        exact (hI.mem _ hjn).1 h1
      have key : ∀ v w', R i v w' → Frm S w w' → (i ≠ p → Ext w w') → wpAny P md ops Q (c + m) (listed.setIfInBounds i true) (a.put (some (d i)) v) w' := by
        intro v w' hR hF hE
        refine ih (todo.filter (fun y => y != i)) _ _ _ ?_ ?_
        · have h1 : todo.filter (fun y => y != i) = todo.erase i := by rw [hI.nd.erase_eq_filter]
          rw [h1, List.length_erase_of_mem hit, ht]; rfl
        · have hset : ∀ j, j ≠ i → ∀ b, (listed.setIfInBounds i true).getD j b = listed.getD j b := fun j hj b => getD_set_ne b (Ne.symm hj)
          have hsi : ∀ b, (listed.setIfInBounds i true).getD i b = true := fun b => by
            have := hLT i hin
            simp [Array.getD, this]
          have hdi := hds i hin
          have hget : ∀ k, (a.put (some (d i)) v).tmps[k]? = if d i = k then some v else a.tmps[k]? := fun k => by
            simp only [Act.put, Array.getElem?_setIfInBounds]
            by_cases e : d i = k
            · rw [if_pos e, if_pos e, if_pos (by rw [hI.asz]; exact hdi)]
            · rw [if_neg e, if_neg e]
          refine ⟨by simpa using hI.size, ?_, hI.nd.filter _, ?_, ?_, ?_, by simpa [Act.put] using hI.asz, hI.dfr, ?_, ?_, ?_, hI.fr.trans hF⟩
          · intro j hj h1
            rw [hset j (by omega)] at h1
            exact hI.tail j hj h1
          · intro j hj; exact hI.lt j (List.mem_filter.1 hj).1
          · intro j hj
            by_cases e : j = i
            · subst e
              rw [hsi]; simp
            · rw [hset j e, hI.mem j hj, List.mem_filter]
              simp [e]
          · intro j hj k hk
            by_cases e : j = i
            · subst e
              obtain ⟨e, he, hb, rfl⟩ := (mem_gdeps ho).1 hk
              exact getD_set_true (hall e he hb)
            · rw [hset j e] at hj
              exact getD_set_true (hI.down j hj k hk)
          · intro k hk
            rw [hget, if_neg (hk i hin)]
            exact hI.frame k hk
          · intro j hj hjt
            have ev : (a.put (some (d i)) v).eval (.tmp (d j)) = if j = i then v else a.eval (.tmp (d j)) := by
              simp only [Act.eval, Array.getD_eq_getD_getElem?, hget]
              by_cases e : j = i
              · rw [if_pos e, if_pos (by rw [e])]; rfl
              · rw [if_neg e, if_neg (fun q => e (hinj i j hin hj q).symm)]
            rw [ev]
            by_cases e : j = i
            · rw [if_pos e, e]; exact hR
            · rw [if_neg e]
              have hfj := hI.facts j hj (fun q => hjt (List.mem_filter.2 ⟨q, by simpa using e⟩))
              by_cases ej : j = p
              · subst ej
                exact hstp _ _ _ hfj (hE (fun q => e q.symm))
              · exact hst _ _ _ _ hj ej hfj hF
          · intro hp
            obtain ⟨hp1, hp2⟩ := List.mem_filter.1 hp
            have hpi : i ≠ p := by
              rintro rfl
              simp at hp2
            exact (hI.ext hp1).trans (hE hpi)
      by_cases ep : i = p
      · subst ep
        have hs := hstw hin a w (hI.ext hit) hfr hfa (wpAny P md ops Q (c + m) (listed.setIfInBounds i true)) (fun v w' hR hF => key v w' hR hF (fun q => absurd rfl q))
        rw [ho] at hs
        exact hs
      · have hs := hstep i hin ep a w hI.fr hfr hfa (wpAny P md ops Q (c + m) (listed.setIfInBounds i true)) (fun v w' hR hE => key v w' hR (Frm.of_ext hE) (fun _ => hE))
        rw [ho] at hs
        exact hs
/-- The law: ds: where the first operations leave their values; Rs: what is known of these. -/
theorem wp_region_growP {P : Program} {id : Nat} {Q : Exit → Act → World → Prop} {a0 : Act} {w : World} {l : List Oper} (ds : List Nat) (Rs : List (Value → World → Prop)) (S : Nat → Prop) (p m : Nat)
    (hm : P.follows .mixedOrders = true) (hc : growChk .any l.toArray ds.length m (fun i => ds.getD i 0) = true) (hn : nodupB ds = true) (hz : ds.all (fun x => decide (x < a0.tmps.size)) = true)
    (hst : AllIdx (fun i => i ≠ p → ∀ v w w', Rs.getD i (fun _ _ => True) v w → Frm S w w' → Rs.getD i (fun _ _ => True) v w') 0 ds.length) (hstp : ∀ v w w', Rs.getD p (fun _ _ => True) v w → Ext w w' → Rs.getD p (fun _ _ => True) v w')
    (hstep : AllIdx (GStepP P .any l.toArray Q ds.length (fun i => ds.getD i 0) (fun i => Rs.getD i (fun _ _ => True)) S p a0 w) 0 ds.length)
    (hstw : GStepW P .any l.toArray Q ds.length (fun i => ds.getD i 0) (fun i => Rs.getD i (fun _ _ => True)) S p a0 w)
    (hend : ∀ (vals : Nat → Value) (w' : World), Frm S w w' → AllIdx (fun i => Rs.getD i (fun _ _ => True) (vals i) w') 0 ds.length → wpAny P .any l.toArray Q m (Array.replicate ds.length true ++ Array.replicate m false) (putF (fun i => ds.getD i 0) vals ds.length 0 a0) w') :
    (Code.region id l.toArray true).wp P Q a0 w := by
  refine wp_region_any hm ?_
  have hsz : ds.length + m = l.toArray.size := by
    have := hc
    simp only [growChk, Bool.and_eq_true, decide_eq_true_eq] at this
    exact this.2
  rw [← hsz]
  have hall : ∀ (p : Nat → Prop) (k i : Nat), (∀ j, i ≤ j → j < i + k → p j) → AllIdx p i k := by
    intro p k
    induction k with
    | zero => intro i _; trivial
    | succ k ih => intro i h; exact ⟨h i (Nat.le_refl _) (by omega), ih (i + 1) (fun j h1 h2 => h j (by omega) (by omega))⟩
  refine grow_goP ds.length m (fun i => ds.getD i 0) (fun i => Rs.getD i (fun _ _ => True)) S p a0 w hc (fun i v w w' hi hip => hst.out _ _ i (Nat.zero_le _) (by omega) hip v w w') hstp (fun i j hi hj e => nodupB_inj ds hn i j hi hj e) ?_ (fun i hi => hstep.out _ _ i (Nat.zero_le _) (by omega)) (fun _ => hstw) (fun vals w' hE hR => by rw [putAll_F]; exact hend vals w' hE (hall _ _ _ (fun j _ hj => hR j (by omega)))) ds.length (List.range ds.length) _ _ _ (by simp) ?_
  · intro i hi
    have := List.all_eq_true.1 hz _ (List.getElem_mem hi)
    simpa [List.getD, hi] using this
  · refine ⟨by simp, ?_, List.nodup_range, fun i hi => by simpa using hi, ?_, ?_, rfl, rfl, fun _ _ => rfl, ?_, fun _ => (Ext.refl w).drew, Frm.of_ext (Ext.refl w).drew⟩
    · intro i hi h
      rcases Nat.lt_or_ge i (ds.length + m) with q | q
      · exfalso
        simp [Array.getD, q] at h
      · exact q
    · intro i hi
      have : i < ds.length + m := by omega
      simp [Array.getD, this, hi]
    · intro i hi
      exfalso
      by_cases q : i < ds.length + m <;> simp [Array.getD, q] at hi
    · intro i hi hni
      exact absurd (List.mem_range.2 hi) hni
end Go.Proofs.YtnhdmnhfllecgaaGreatDoor
