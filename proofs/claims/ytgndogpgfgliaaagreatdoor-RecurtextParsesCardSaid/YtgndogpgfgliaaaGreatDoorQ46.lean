/- A region that draws its order, of which one value may be taken late (behind the first of the last operations): XGrw's law once more. Plain law over any program. -/
import Derived.Test.YtgndogpgfgliaaaGreatDoorQ25
import Derived.Test.YtgndogpgfgliaaaGreatDoorQ45
namespace Go.Proofs.YtgndogpgfgliaaaGreatDoor
set_option linter.unusedVariables false
set_option linter.unnecessarySimpa false
set_option linter.unusedSimpArgs false
open Go

/-- As growChk; but the tracked operation x may still wait when the later ones begin. -/
def growChkT (md : Region.Mode) (ops : Array Oper) (n m x : Nat) (d : Nat → Nat) : Bool :=
  (List.range n).all (fun i => (gdeps md ops i).all (fun j => decide (j < i)) && ((ops[i]?).map fun o => decide (o.dst = some (d i)) && o.guard.isNone).getD false) &&
  (List.range m).all (fun t => (List.range n).all fun j => decide (j = x) || (gdeps md ops (n + t)).any fun k => greach md ops n k j) && decide (n + m = ops.size)
def updf (f : Nat → Option Value) (i : Nat) (v : Value) : Nat → Option Value := fun j => if j = i then some v else f j
/-- One operation, with what is known of several values together. -/
def GStepJ (P : Program) (md : Region.Mode) (ops : Array Oper) (Q : Exit → Act → World → Prop) (n : Nat) (d : Nat → Nat) (R : Nat → Value → World → Prop) (J : (Nat → Option Value) → World → Prop) (a0 : Act) (V : World) (i : Nat) : Prop :=
  ∀ (a : Act) (w : World) (f : Nat → Option Value), Ext V w → (∀ k, (∀ j, j < n → d j ≠ k) → a.eval (.tmp k) = a0.eval (.tmp k)) → (∀ j, (gdeps md ops i).contains j = true → R j (a.eval (.tmp (d j))) w ∧ f j = some (a.eval (.tmp (d j)))) → J f w → f i = none →
    ∀ K : Act → World → Prop, (∀ v w', R i v w' → Ext w w' → J (updf f i v) w' → K (a.put (some (d i)) v) w') → ((ops[i]?).getD default).wp P a w K Q
theorem grow_goT {P : Program} {md : Region.Mode} {ops : Array Oper} {Q : Exit → Act → World → Prop} (n m x : Nat) (d : Nat → Nat) (R : Nat → Value → World → Prop) (J : (Nat → Option Value) → World → Prop) (a0 : Act) (V : World)
    (hc : growChkT md ops n m x d = true) (hst : ∀ i v w w', R i v w → Ext w w' → R i v w') (hinj : ∀ i j, i < n → j < n → d i = d j → i = j) (hds : ∀ i, i < n → d i < a0.tmps.size)
    (hJc : ∀ f g w, (∀ j, j < n → f j = g j) → J f w → J g w)
    (hstep : ∀ i, i < n → GStepJ P md ops Q n d R J a0 V i)
    (hlate : ∀ (vals : Nat → Value) (w : World), Ext V w → (∀ i, i < n → i ≠ x → R i (vals i) w) → J (fun j => if j = x then none else some (vals j)) w → ∀ i, n ≤ i → i ∈ Region.ready md ops ((Array.replicate n true ++ Array.replicate m false).setIfInBounds x false) →
      wpOp P ops Q i (wpAny P md ops Q m (((Array.replicate n true ++ Array.replicate m false).setIfInBounds x false).setIfInBounds i true)) (putAll d vals n a0) w)
    (hend : ∀ (vals : Nat → Value) (w : World), Ext V w → (∀ i, i < n → R i (vals i) w) → J (fun j => some (vals j)) w → wpAny P md ops Q m (Array.replicate n true ++ Array.replicate m false) (putAll d vals n a0) w) :
    ∀ (c : Nat) (todo : List Nat) (listed : Array Bool) (a : Act) (w : World), todo.length = c → GInv md ops n m d R a0 V todo listed a w → J (fun j => if j ∈ todo then none else some (a.eval (.tmp (d j)))) w → wpAny P md ops Q (c + m) listed a w := by
  simp only [growChkT, Bool.and_eq_true, List.all_eq_true, List.mem_range, List.any_eq_true, Bool.or_eq_true, decide_eq_true_eq] at hc
  obtain ⟨⟨hc1, hc2⟩, hsz⟩ := hc
  intro c
  induction c with
  | zero =>
    intro todo listed a w ht hI hJ
    obtain rfl : todo = [] := List.length_eq_zero_iff.1 ht
    have hl : listed = Array.replicate n true ++ Array.replicate m false := by
      apply Array.ext
      · simp [hI.size]
      · intro i h1 h2
        have e : listed[i] = listed.getD i true := by simp [Array.getD, h1]
        rw [e]
        by_cases q : i < n
        · rw [(hI.mem i q).2 (by simp), Array.getElem_append_left (by simpa using q)]
          simp
        · rw [Array.getElem_append_right (by simpa using q)]
          simp only [Array.getElem_replicate]
          cases e : listed.getD i true with
          | false => rfl
          | true =>
            have := hI.tail i (by omega) e
            rw [hI.size] at h1
            omega
    have ha : a = putAll d (fun i => a.eval (.tmp (d i))) n a0 := by
      obtain ⟨p1, p2, p3⟩ := putAll_spec d a a0 hI.asz n hds
      obtain ⟨ts, df⟩ := a
      have e1 : ts = (putAll d (fun i => (⟨ts, df⟩ : Act).eval (.tmp (d i))) n a0).tmps := by
        apply Array.ext_getElem?
        intro k
        rw [p3 k]
        by_cases q : ∃ j, j < n ∧ d j = k
        · rw [if_pos q]
        · rw [if_neg q]
          exact hI.frame k (fun j hj e => q ⟨j, hj, e⟩)
      have e2 : df = (putAll d (fun i => (⟨ts, df⟩ : Act).eval (.tmp (d i))) n a0).defers := by rw [p1]; exact hI.dfr
      generalize putAll d (fun i => (⟨ts, df⟩ : Act).eval (.tmp (d i))) n a0 = b at e1 e2
      obtain ⟨bt, bd⟩ := b
      simp only at e1 e2
      rw [e1, e2]
    have hw := hend (fun i => a.eval (.tmp (d i))) w hI.ext (fun i hi => hI.facts i hi (by simp)) (by simpa using hJ)
    rw [Nat.zero_add, hl]
    rw [← ha] at hw
    exact hw
  | succ c ih =>
    intro todo listed a w ht hI hJ
    rw [show c + 1 + m = (c + m) + 1 by omega]
    have hLT : ∀ i, i < n → i < listed.size := fun i hi => by rw [hI.size]; omega
    refine ⟨fun h0 => ?_, fun i hi => ?_⟩
    · exfalso
      obtain ⟨i, hi, hmin⟩ := least_of todo (by intro e; rw [e] at ht; cases ht)
      have hin := hI.lt i hi
      have : i ∈ Region.ready md ops listed := by
        rw [mem_ready]
        obtain ⟨hdep, hop⟩ := hc1 i hin
        cases ho : ops[i]? with
        | none => rw [ho] at hop; cases hop
        | some o =>
          refine ⟨?_, o, rfl, fun e he hb => ?_⟩
          · cases e : listed.getD i true with
            | false => rfl
            | true => exact absurd hi ((hI.mem i hin).1 e)
          · have hj : e.on < i := hdep e.on ((mem_gdeps ho).2 ⟨e, he, hb, rfl⟩)
            have hjn : e.on < n := by omega
            rw [getD_in (hLT _ hjn) false true]
            exact (hI.mem _ hjn).2 (fun q => by have := hmin _ q; omega)
      rw [h0] at this
      cases this
    · obtain ⟨hun, o, ho, hall⟩ := mem_ready.1 hi
      have hio : i < ops.size := (Array.getElem?_eq_some_iff.1 ho).1
      rcases Nat.lt_or_ge i n with hin | hge
      rotate_left
      · have htx : ∀ y ∈ todo, y = x := fun y hy => by
          have hyn := hI.lt y hy
          rcases hc2 (i - n) (by omega) y hyn with q | ⟨k, hk, hr⟩
          · exact q
          · exfalso
            rw [show n + (i - n) = i by omega] at hk
            obtain ⟨e, he, hb, rfl⟩ := (mem_gdeps ho).1 hk
            have h1 := greach_down hI.down _ _ _ hr (hall e he hb)
            rw [getD_in (hLT y hyn) false true] at h1
            exact (hI.mem y hyn).1 h1 hy
        have hx1 : todo = [x] := by
          cases todo with
          | nil => cases ht
          | cons y r =>
            obtain rfl := htx y (by simp)
            cases r with
            | nil => rfl
            | cons z r' =>
              have hz := htx z (by simp)
              have := hI.nd
              rw [hz] at this
              simp at this
        have hc0 : c = 0 := by rw [hx1] at ht; simpa using ht.symm
        subst hc0
        have hxn : x < n := hI.lt x (by rw [hx1]; simp)
        have hl : listed = (Array.replicate n true ++ Array.replicate m false).setIfInBounds x false := by
          apply Array.ext
          · simp [hI.size]
          · intro j h1 h2
            have e : listed[j] = listed.getD j true := by simp [Array.getD, h1]
            rw [e, Array.getElem_setIfInBounds]
            rotate_left
            · simpa using h2
            by_cases hjx : x = j
            · subst hjx
              rw [if_pos rfl]
              cases e : listed.getD x true with
              | false => rfl
              | true => exact absurd (show x ∈ todo by rw [hx1]; simp) ((hI.mem x hxn).1 e)
            · rw [if_neg hjx]
              by_cases q : j < n
              · rw [(hI.mem j q).2 (by rw [hx1]; simpa using fun e => hjx e.symm), Array.getElem_append_left (by simpa using q)]
                simp
              · rw [Array.getElem_append_right (by simpa using q)]
                simp only [Array.getElem_replicate]
                cases e : listed.getD j true with
                | false => rfl
                | true =>
                  have := hI.tail j (by omega) e
                  rw [hI.size] at h1
                  omega
        have ha : a = putAll d (fun i => a.eval (.tmp (d i))) n a0 := by
          obtain ⟨p1, p2, p3⟩ := putAll_spec d a a0 hI.asz n hds
          obtain ⟨ts, df⟩ := a
          have e1 : ts = (putAll d (fun i => (⟨ts, df⟩ : Act).eval (.tmp (d i))) n a0).tmps := by
            apply Array.ext_getElem?
            intro k
            rw [p3 k]
            by_cases q : ∃ j, j < n ∧ d j = k
            · rw [if_pos q]
            · rw [if_neg q]
              exact hI.frame k (fun j hj e => q ⟨j, hj, e⟩)
          have e2 : df = (putAll d (fun i => (⟨ts, df⟩ : Act).eval (.tmp (d i))) n a0).defers := by rw [p1]; exact hI.dfr
          generalize putAll d (fun i => (⟨ts, df⟩ : Act).eval (.tmp (d i))) n a0 = b at e1 e2
          obtain ⟨bt, bd⟩ := b
          simp only at e1 e2
          rw [e1, e2]
        have hw := hlate (fun i => a.eval (.tmp (d i))) w hI.ext (fun j hj hjx => hI.facts j hj (by rw [hx1]; simpa using hjx)) (by rw [hx1] at hJ; simpa using hJ) i hge (by rw [← hl]; exact hi)
        rw [← ha, ← hl] at hw
        rw [Nat.zero_add]
        exact hw
      obtain ⟨hdep, hop⟩ := hc1 i hin
      rw [ho] at hop
      simp only [Option.map_some, Option.getD_some, Bool.and_eq_true, decide_eq_true_eq, Option.isNone_iff_eq_none] at hop
      obtain ⟨hdst, hgd⟩ := hop
      have hit : i ∈ todo := Classical.byContradiction fun q => by
        rw [(hI.mem i hin).2 q] at hun; cases hun
      unfold wpOp
      rw [ho]
      simp only [Region.wanted, hgd, if_true]
      left
      have hs := hstep i hin a w (fun j => if j ∈ todo then none else some (a.eval (.tmp (d j)))) hI.ext (fun k hk => eval_of_get (hI.frame k hk)) (fun j hj => by
        have hj : j ∈ gdeps md ops i := by simpa using hj
        have hjn : j < n := by have := hdep j hj; omega
        have hnt : j ∉ todo := by
          obtain ⟨e, he, hb, rfl⟩ := (mem_gdeps ho).1 hj
          have h1 := hall e he hb
          rw [getD_in (hLT _ hjn) false true] at h1
          exact (hI.mem _ hjn).1 h1
        exact ⟨hI.facts j hjn hnt, if_neg hnt⟩) hJ (if_pos hit) (wpAny P md ops Q (c + m) (listed.setIfInBounds i true)) (fun v w' hR hE hJ2 => ?_)
      · rw [ho] at hs
        exact hs
      · refine ih (todo.filter (fun y => y != i)) _ _ _ ?_ ?_ ?_
        rotate_right
        · refine hJc _ _ _ (fun j hj => ?_) hJ2
          have hdi := hds i hin
          have ev : (a.put (some (d i)) v).eval (.tmp (d j)) = if j = i then v else a.eval (.tmp (d j)) := by
            simp only [Act.put, Act.eval, Array.getD_eq_getD_getElem?, Array.getElem?_setIfInBounds]
            by_cases e : j = i
            · rw [if_pos e, e, if_pos rfl, if_pos (by rw [hI.asz]; exact hdi)]; rfl
            · rw [if_neg e, if_neg (fun q => e (hinj i j hin hj q).symm)]
          rw [ev]
          unfold updf
          by_cases e : j = i
          · subst e
            simp
          · simp [e]
        · have h1 : todo.filter (fun y => y != i) = todo.erase i := by rw [hI.nd.erase_eq_filter]
          rw [h1, List.length_erase_of_mem hit, ht]; rfl
        · have hset : ∀ j, j ≠ i → ∀ b, (listed.setIfInBounds i true).getD j b = listed.getD j b := fun j hj b => getD_set_ne b (Ne.symm hj)
          have hsi : ∀ b, (listed.setIfInBounds i true).getD i b = true := fun b => by
            have := hLT i hin
            simp [Array.getD, this]
          have hdi := hds i hin
          have hget : ∀ k, (a.put (some (d i)) v).tmps[k]? = if d i = k then some v else a.tmps[k]? := fun k => by
            simp only [Act.put, Array.getElem?_setIfInBounds]
            by_cases e : d i = k
            · rw [if_pos e, if_pos e, if_pos (by rw [hI.asz]; exact hdi)]
            · rw [if_neg e, if_neg e]
          refine ⟨by simpa using hI.size, ?_, hI.nd.filter _, ?_, ?_, ?_, by simpa [Act.put] using hI.asz, hI.dfr, ?_, ?_, hI.ext.trans hE⟩
          · intro j hj h1
            rw [hset j (by omega)] at h1
            exact hI.tail j hj h1
          · intro j hj; exact hI.lt j (List.mem_filter.1 hj).1
          · intro j hj
            by_cases e : j = i
            · subst e
              rw [hsi]; simp
            · rw [hset j e, hI.mem j hj, List.mem_filter]
              simp [e]
          · intro j hj k hk
            by_cases e : j = i
            · subst e
              obtain ⟨e, he, hb, rfl⟩ := (mem_gdeps ho).1 hk
              exact getD_set_true (hall e he hb)
            · rw [hset j e] at hj
              exact getD_set_true (hI.down j hj k hk)
          · intro k hk
            rw [hget, if_neg (hk i hin)]
            exact hI.frame k hk
          · intro j hj hjt
            have ev : (a.put (some (d i)) v).eval (.tmp (d j)) = if j = i then v else a.eval (.tmp (d j)) := by
              simp only [Act.eval, Array.getD_eq_getD_getElem?, hget]
              by_cases e : j = i
              · rw [if_pos e, if_pos (by rw [e])]; rfl
              · rw [if_neg e, if_neg (fun q => e (hinj i j hin hj q).symm)]
            rw [ev]
            by_cases e : j = i
            · rw [if_pos e, e]; exact hR
            · rw [if_neg e]
              exact hst _ _ _ _ (hI.facts j hj (fun q => hjt (List.mem_filter.2 ⟨q, by simpa using e⟩))) hE
/-- The law: ds: where the first operations leave their values; Rs: what is known of these. -/
theorem wp_region_growT {P : Program} {id : Nat} {Q : Exit → Act → World → Prop} {a0 : Act} {w : World} {l : List Oper} (ds : List Nat) (Rs : List (Value → World → Prop)) (J : (Nat → Option Value) → World → Prop) (m x : Nat)
    (hm : P.follows .mixedOrders = true) (hc : growChkT .any l.toArray ds.length m x (fun i => ds.getD i 0) = true) (hn : nodupB ds = true) (hz : ds.all (fun x => decide (x < a0.tmps.size)) = true)
    (hJ0 : J (fun _ => none) w.drew) (hJc : ∀ f g w, (∀ j, j < ds.length → f j = g j) → J f w → J g w)
    (hst : ∀ R ∈ Rs, ∀ v w w', R v w → Ext w w' → R v w')
    (hstep : AllIdx (GStepJ P .any l.toArray Q ds.length (fun i => ds.getD i 0) (fun i => Rs.getD i (fun _ _ => True)) J a0 w) 0 ds.length)
    (hlate : ∀ (vals : Nat → Value) (w' : World), Ext w w' → AllIdx (fun i => i ≠ x → Rs.getD i (fun _ _ => True) (vals i) w') 0 ds.length → J (fun j => if j = x then none else some (vals j)) w' → ∀ i, ds.length ≤ i → i ∈ Region.ready .any l.toArray ((Array.replicate ds.length true ++ Array.replicate m false).setIfInBounds x false) →
      wpOp P l.toArray Q i (wpAny P .any l.toArray Q m (((Array.replicate ds.length true ++ Array.replicate m false).setIfInBounds x false).setIfInBounds i true)) (putF (fun i => ds.getD i 0) vals ds.length 0 a0) w')
    (hend : ∀ (vals : Nat → Value) (w' : World), Ext w w' → AllIdx (fun i => Rs.getD i (fun _ _ => True) (vals i) w') 0 ds.length → J (fun j => some (vals j)) w' → wpAny P .any l.toArray Q m (Array.replicate ds.length true ++ Array.replicate m false) (putF (fun i => ds.getD i 0) vals ds.length 0 a0) w') :
    (Code.region id l.toArray true).wp P Q a0 w := by
  refine wp_region_any hm ?_
  have hsz : ds.length + m = l.toArray.size := by
    have := hc
    simp only [growChkT, Bool.and_eq_true, decide_eq_true_eq] at this
    exact this.2
  rw [← hsz]
  have hall : ∀ (p : Nat → Prop) (k i : Nat), (∀ j, i ≤ j → j < i + k → p j) → AllIdx p i k := by
    intro p k
    induction k with
    | zero => intro i _; trivial
    | succ k ih => intro i h; exact ⟨h i (Nat.le_refl _) (by omega), ih (i + 1) (fun j h1 h2 => h j (by omega) (by omega))⟩
  refine grow_goT ds.length m x (fun i => ds.getD i 0) (fun i => Rs.getD i (fun _ _ => True)) J a0 w hc ?_ (fun i j hi hj e => nodupB_inj ds hn i j hi hj e) ?_ hJc (fun i hi => hstep.out _ _ i (Nat.zero_le _) (by omega)) (fun vals w' hE hR hJ i hi hr => by rw [putAll_F]; exact hlate vals w' hE (hall _ _ _ (fun j _ hj hjx => hR j (by omega) hjx)) hJ i hi hr) (fun vals w' hE hR hJ => by rw [putAll_F]; exact hend vals w' hE (hall _ _ _ (fun j _ hj => hR j (by omega))) hJ) ds.length (List.range ds.length) _ _ _ (by simp) ?_ (hJc _ _ _ (fun j hj => by simp [hj]) hJ0)
  · intro i v w w' h hE
    simp only [List.getD] at h ⊢
    cases e : Rs[i]? with
    | none => trivial
    | some R =>
      rw [e] at h
      exact hst R (List.mem_of_getElem? e) v w w' h hE
  · intro i hi
    have := List.all_eq_true.1 hz _ (List.getElem_mem hi)
    simpa [List.getD, hi] using this
  · refine ⟨by simp, ?_, List.nodup_range, fun i hi => by simpa using hi, ?_, ?_, rfl, rfl, fun _ _ => rfl, ?_, (Ext.refl w).drew⟩
    · intro i hi h
      rcases Nat.lt_or_ge i (ds.length + m) with q | q
      · exfalso
        simp [Array.getD, q] at h
      · exact q
    · intro i hi
      have : i < ds.length + m := by omega
      simp [Array.getD, this, hi]
    · intro i hi
      exfalso
      by_cases q : i < ds.length + m <;> simp [Array.getD, q] at hi
    · intro i hi hni
      exact absurd (List.mem_range.2 hi) hni
end Go.Proofs.YtgndogpgfgliaaaGreatDoor
/- Recurrence rules: what Part hands back while the next rule's variable is made in whatever order. -/
namespace Go.Proofs.YtgndogpgfgliaaaGreatDoor
set_option linter.unusedVariables false
set_option linter.unnecessarySimpa false
set_option linter.unusedSimpArgs false
open Go.RowKit

def FJ (FF : Nat → Prop) (f : Nat → Option Value) (b : Nat) : Prop := FF b ∨ f 18 = some (.pointer (some ⟨b, 0, none⟩))
def tuQ (X : RPr) (q : Rec) : Value := .tuple #[.agg q.vals.toArray, .int .i64 (prC2 X)]
def JP (V : World) (FF : Nat → Prop) (X : RPr) (f : Nat → Option Value) (w : World) : Prop :=
  (∀ E, f 18 = some (.pointer (some ⟨E, 0, none⟩)) → V.heap.size ≤ E ∧ E < w.heap.size) ∧ (f 14 = none → f 15 = none ∧ f 16 = none) ∧
  (f 14 ≠ none → ∃ q : Rec, f 14 = some (tuQ X q) ∧ (f 15 = none ∨ f 15 = some (tuQ X q)) ∧ (f 16 = none ∨ f 16 = some (.agg q.vals.toArray)) ∧ q.D = prD2 X ∧ PSt (FJ FF f) q w)
theorem JP.start (V : World) (FF : Nat → Prop) (X : RPr) (w : World) : JP V FF X (fun _ => none) w := ⟨(fun E h => by cases h), fun _ => ⟨rfl, rfl⟩, fun h => absurd rfl h⟩
theorem JP.congr {V : World} {FF : Nat → Prop} {X : RPr} {f g : Nat → Option Value} {w : World} (h : ∀ j, j < 19 → f j = g j) (hJ : JP V FF X f w) : JP V FF X g w := by
  have e14 := h 14 (by decide)
  have e15 := h 15 (by decide)
  have e16 := h 16 (by decide)
  have e18 := h 18 (by decide)
  have eF : FJ FF f = FJ FF g := by funext b; unfold FJ; rw [e18]
  unfold JP at hJ ⊢
  rw [← e14, ← e15, ← e16, ← e18, ← eF]
  exact hJ
theorem JP.ext {V : World} {FF : Nat → Prop} {X : RPr} {f : Nat → Option Value} {w w' : World} (hJ : JP V FF X f w) (hE : Ext w w') : JP V FF X f w' := by
  obtain ⟨h1, h2, h3⟩ := hJ
  refine ⟨fun E h => ⟨(h1 E h).1, hE.lt (h1 E h).2⟩, h2, fun h => ?_⟩
  obtain ⟨q, a, b, c, d, e⟩ := h3 h
  exact ⟨q, a, b, c, d, e.ext hE⟩
theorem JP.ne {V : World} {FF : Nat → Prop} {X : RPr} {f : Nat → Option Value} {i : Nat} {v : Value} {w w' : World} (hi : i ≠ 14 ∧ i ≠ 15 ∧ i ≠ 16 ∧ i ≠ 18) (hJ : JP V FF X f w) (hE : Ext w w') : JP V FF X (updf f i v) w' := by
  have e14 : updf f i v 14 = f 14 := if_neg (by omega)
  have e15 : updf f i v 15 = f 15 := if_neg (by omega)
  have e16 : updf f i v 16 = f 16 := if_neg (by omega)
  have e18 : updf f i v 18 = f 18 := if_neg (by omega)
  have eF : FJ FF (updf f i v) = FJ FF f := by funext b; unfold FJ; rw [e18]
  have h := hJ.ext hE
  unfold JP at h ⊢
  rw [e14, e15, e16, e18, eF]
  exact h
theorem JP.call {V : World} {FF : Nat → Prop} {X : RPr} {f : Nat → Option Value} {v : Value} {w w' : World} (hJ : JP V FF X f w) (hf : f 14 = none) (hQ : PrQ (FJ FF f) X v w') (hE : Ext w w') : JP V FF X (updf f 14 v) w' := by
  obtain ⟨h1, h2, h3⟩ := hJ.ext hE
  obtain ⟨h15, h16⟩ := h2 hf
  obtain ⟨q, rfl, hD, hS⟩ := hQ
  refine ⟨fun E h => h1 E h, (fun h => by cases h), fun _ => ⟨q, rfl, .inl h15, .inl h16, hD, hS⟩⟩
theorem JP.move {V : World} {FF : Nat → Prop} {X : RPr} {f : Nat → Option Value} {u : Value} {w : World} (hJ : JP V FF X f w) (hu : f 14 = some u) : JP V FF X (updf f 15 u) w := by
  obtain ⟨h1, h2, h3⟩ := hJ
  obtain ⟨q, a, b, c, d, e⟩ := h3 (by rw [hu]; simp)
  obtain rfl : u = tuQ X q := Option.some.inj (hu.symm.trans a)
  exact ⟨fun E h => h1 E h, (fun h => by rw [show updf f 15 (tuQ X q) 14 = f 14 from rfl, hu] at h; cases h), fun _ => ⟨q, a, .inr rfl, c, d, e⟩⟩
theorem JP.tu {V : World} {FF : Nat → Prop} {X : RPr} {f : Nat → Option Value} {u : Value} {w : World} (hJ : JP V FF X f w) (hu : f 15 = some u) : ∃ q, u = tuQ X q ∧ JP V FF X (updf f 16 (.agg q.vals.toArray)) w := by
  obtain ⟨h1, h2, h3⟩ := hJ
  have h14 : f 14 ≠ none := fun e => by rw [(h2 e).1] at hu; cases hu
  obtain ⟨q, a, b, c, d, e⟩ := h3 h14
  have hb : f 15 = some (tuQ X q) := by
    rcases b with b | b
    · rw [b] at hu; cases hu
    · exact b
  exact ⟨q, Option.some.inj (hu.symm.trans hb), fun E h => h1 E h, fun h => absurd h h14, fun _ => ⟨q, a, b, .inr rfl, d, e⟩⟩
theorem JP.alloc {V : World} {FF : Nat → Prop} {X : RPr} {f : Nat → Option Value} {w : World} (c : Obj) (hJ : JP V FF X f w) (hf : f 18 = none) (hV : V.heap.size ≤ w.heap.size) : JP V FF X (updf f 18 (.pointer (some ⟨w.heap.size, 0, none⟩))) (w.alloc c) := by
  obtain ⟨h1, h2, h3⟩ := hJ
  refine ⟨fun E h => ?_, h2, fun h => ?_⟩
  · have h' : (Value.pointer (some ⟨w.heap.size, 0, none⟩)) = .pointer (some ⟨E, 0, none⟩) := Option.some.inj h
    injection h' with h'
    injection h' with h'
    injection h' with h'
    subst h'
    exact ⟨hV, by simp⟩
  · obtain ⟨q, a, b, c', d, e⟩ := h3 h
    refine ⟨q, a, b, c', d, fun W hF => e W ?_⟩
    have hE : Ext w (w.alloc c) := (Ext.refl w).alloc _
    refine Frm.below hE hF (fun k hk hk2 => ?_)
    rcases hk2 with q1 | q1
    · exact .inl q1
    · have h' : (Value.pointer (some ⟨w.heap.size, 0, none⟩)) = .pointer (some ⟨k, 0, none⟩) := Option.some.inj q1
      injection h' with h'
      injection h' with h'
      injection h' with h'
      omega
theorem JP.fin {V : World} {FF : Nat → Prop} {X : RPr} {f : Nat → Option Value} {w : World} {u : Value} {E : Nat} (hJ : JP V FF X f w) (h16 : f 16 = some u) (h18 : f 18 = some (.pointer (some ⟨E, 0, none⟩))) : ∃ q : Rec, u = .agg q.vals.toArray ∧ q.D = prD2 X ∧ PSt (fun b => FF b ∨ b = E) q w := by
  obtain ⟨h1, h2, h3⟩ := hJ
  have h14 : f 14 ≠ none := fun e => by rw [(h2 e).2] at h16; cases h16
  obtain ⟨q, a, b, c, d, e⟩ := h3 h14
  rcases c with c | c
  · rw [c] at h16; cases h16
  · refine ⟨q, Option.some.inj (h16.symm.trans c), d, fun W hF => e W (hF.mono (fun k _ hk => ?_))⟩
    rcases hk with hk | hk
    · exact .inl hk
    · exact .inr (by rw [h18, hk])
end Go.Proofs.YtgndogpgfgliaaaGreatDoor
