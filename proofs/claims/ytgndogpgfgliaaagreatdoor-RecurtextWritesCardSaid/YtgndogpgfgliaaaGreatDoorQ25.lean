/- A region that draws its order, whose operations read, or make memory by calls: walked once, operation by operation, by facts that stand whatever memory is made besides. Plain law over any program. -/
import Derived.Test.YtgndogpgfgliaaaGreatDoorQ00
import Derived.Test.YtgndogpgfgliaaaGreatDoorQ10
import Derived.Orders
namespace Go.Proofs.YtgndogpgfgliaaaGreatDoor
set_option linter.unusedVariables false
set_option linter.unnecessarySimpa false
set_option linter.unusedSimpArgs false
open Go

/-- The operations for which one waits. -/
def gdeps (md : Region.Mode) (ops : Array Oper) (i : Nat) : List Nat := ((ops[i]?).map fun o => (o.after.toList.filter (Region.binds md)).map (·.on)).getD []
def greach (md : Region.Mode) (ops : Array Oper) : Nat → Nat → Nat → Bool
  | 0, i, j => i == j
  | f + 1, i, j => i == j || (gdeps md ops i).any fun k => greach md ops f k j
/-- The first n wait for earlier ones alone; have no guard, and leave their value where d says; each later one waits for them all. -/
def growChk (md : Region.Mode) (ops : Array Oper) (n m : Nat) (d : Nat → Nat) : Bool :=
  (List.range n).all (fun i => (gdeps md ops i).all (fun j => decide (j < i)) && ((ops[i]?).map fun o => decide (o.dst = some (d i)) && o.guard.isNone).getD false) &&
  (List.range m).all (fun t => (List.range n).all fun j => (gdeps md ops (n + t)).any fun k => greach md ops n k j) && decide (n + m = ops.size)
def Down (md : Region.Mode) (ops : Array Oper) (listed : Array Bool) : Prop := ∀ i, listed.getD i false = true → ∀ j ∈ gdeps md ops i, listed.getD j false = true
theorem greach_down {md : Region.Mode} {ops : Array Oper} {listed : Array Bool} (h : Down md ops listed) : ∀ f i j, greach md ops f i j = true → listed.getD i false = true → listed.getD j false = true
  | 0, i, j, hr, hi => by simp only [greach, beq_iff_eq] at hr; rw [← hr]; exact hi
  | f + 1, i, j, hr, hi => by
    simp only [greach, Bool.or_eq_true, beq_iff_eq, List.any_eq_true] at hr
    rcases hr with rfl | ⟨k, hk, hr⟩
    · exact hi
    · exact greach_down h f k j hr (h i hi k hk)
theorem mem_gdeps {md : Region.Mode} {ops : Array Oper} {i : Nat} {o : Oper} (ho : ops[i]? = some o) {j : Nat} : j ∈ gdeps md ops i ↔ ∃ e ∈ o.after, Region.binds md e = true ∧ e.on = j := by
  unfold gdeps
  rw [ho]
  simp [and_assoc]
theorem least_of : ∀ (l : List Nat), l ≠ [] → ∃ i ∈ l, ∀ j ∈ l, i ≤ j
  | [x], _ => ⟨x, by simp, by simp⟩
  | x :: y :: r, _ => by
    obtain ⟨i, hi, h⟩ := least_of (y :: r) (by simp)
    by_cases q : x ≤ i
    · refine ⟨x, by simp, fun j hj => ?_⟩
      rcases List.mem_cons.1 hj with rfl | hj
      · exact Nat.le_refl _
      · exact Nat.le_trans q (h j hj)
    · refine ⟨i, List.mem_cons_of_mem _ hi, fun j hj => ?_⟩
      rcases List.mem_cons.1 hj with rfl | hj
      · omega
      · exact h j hj
/-- The values put where they go. -/
def putAll (d : Nat → Nat) (vals : Nat → Value) (n : Nat) (a : Act) : Act := (List.range n).foldl (fun b j => b.put (some (d j)) (vals j)) a
theorem putAll_succ (d : Nat → Nat) (vals : Nat → Value) (n : Nat) (a : Act) : putAll d vals (n + 1) a = (putAll d vals n a).put (some (d n)) (vals n) := by
  unfold putAll; rw [List.range_succ, List.foldl_append]; rfl
theorem putAll_spec (d : Nat → Nat) (a a0 : Act) (hs : a.tmps.size = a0.tmps.size) : ∀ n, (∀ i, i < n → d i < a0.tmps.size) →
    (putAll d (fun i => a.eval (.tmp (d i))) n a0).defers = a0.defers ∧ (putAll d (fun i => a.eval (.tmp (d i))) n a0).tmps.size = a0.tmps.size ∧
    ∀ k, (putAll d (fun i => a.eval (.tmp (d i))) n a0).tmps[k]? = if (∃ j, j < n ∧ d j = k) then a.tmps[k]? else a0.tmps[k]?
  | 0, _ => ⟨rfl, rfl, fun k => by rw [if_neg (by rintro ⟨j, hj, _⟩; omega)]; rfl⟩
  | n + 1, hd => by
    obtain ⟨h1, h2, h3⟩ := putAll_spec d a a0 hs n (fun i hi => hd i (by omega))
    rw [putAll_succ]
    refine ⟨h1, by simp [Act.put, h2], fun k => ?_⟩
    have hn := hd n (by omega)
    simp only [Act.put, Array.getElem?_setIfInBounds]
    by_cases e : d n = k
    · subst e
      rw [if_pos rfl, if_pos (by rw [h2]; exact hn), if_pos ⟨n, by omega, rfl⟩, Array.getElem?_eq_getElem (by omega)]
      simp [Act.eval, hs, hn]
    · rw [if_neg e, h3]
      by_cases q : ∃ j, j < n ∧ d j = k
      · obtain ⟨j, hj, q⟩ := q
        rw [if_pos ⟨j, hj, q⟩, if_pos ⟨j, by omega, q⟩]
      · rw [if_neg q, if_neg]
        rintro ⟨j, hj, hq⟩
        by_cases e2 : j = n
        · subst e2; exact e hq
        · exact q ⟨j, by omega, hq⟩
/-- One operation: whatever memory has been made besides. -/
def GStep (P : Program) (md : Region.Mode) (ops : Array Oper) (Q : Exit → Act → World → Prop) (n : Nat) (d : Nat → Nat) (R : Nat → Value → World → Prop) (a0 : Act) (V : World) (i : Nat) : Prop :=
  ∀ (a : Act) (w : World), Ext V w → (∀ k, (∀ j, j < n → d j ≠ k) → a.eval (.tmp k) = a0.eval (.tmp k)) → (∀ j, (gdeps md ops i).contains j = true → R j (a.eval (.tmp (d j))) w) →
    ∀ K : Act → World → Prop, (∀ v w', R i v w' → Ext w w' → K (a.put (some (d i)) v) w') → ((ops[i]?).getD default).wp P a w K Q
structure GInv (md : Region.Mode) (ops : Array Oper) (n m : Nat) (d : Nat → Nat) (R : Nat → Value → World → Prop) (a0 : Act) (V : World) (todo : List Nat) (listed : Array Bool) (a : Act) (w : World) : Prop where
  size : listed.size = n + m
  tail : ∀ i, n ≤ i → listed.getD i true = true → n + m ≤ i
  nd : todo.Nodup
  lt : ∀ i ∈ todo, i < n
  mem : ∀ i, i < n → (listed.getD i true = true ↔ i ∉ todo)
  down : Down md ops listed
  asz : a.tmps.size = a0.tmps.size
  dfr : a.defers = a0.defers
  frame : ∀ k, (∀ j, j < n → d j ≠ k) → a.tmps[k]? = a0.tmps[k]?
  facts : ∀ i, i < n → i ∉ todo → R i (a.eval (.tmp (d i))) w
  ext : Ext V w
theorem getD_in {listed : Array Bool} {i : Nat} (h : i < listed.size) (b c : Bool) : listed.getD i b = listed.getD i c := by
  simp [Array.getD, h]
theorem getD_out {listed : Array Bool} {i : Nat} (h : listed.size ≤ i) (b : Bool) : listed.getD i b = b := by
  simp [Array.getD, Nat.not_lt.2 h]
theorem eval_of_get {a a0 : Act} {k : Nat} (h : a.tmps[k]? = a0.tmps[k]?) : a.eval (.tmp k) = a0.eval (.tmp k) := by
  simp only [Act.eval, Array.getD_eq_getD_getElem?, h]
theorem grow_go {P : Program} {md : Region.Mode} {ops : Array Oper} {Q : Exit → Act → World → Prop} (n m : Nat) (d : Nat → Nat) (R : Nat → Value → World → Prop) (a0 : Act) (V : World)
    (hc : growChk md ops n m d = true) (hst : ∀ i v w w', R i v w → Ext w w' → R i v w') (hinj : ∀ i j, i < n → j < n → d i = d j → i = j) (hds : ∀ i, i < n → d i < a0.tmps.size)
    (hstep : ∀ i, i < n → GStep P md ops Q n d R a0 V i)
    (hend : ∀ (vals : Nat → Value) (w : World), Ext V w → (∀ i, i < n → R i (vals i) w) → wpAny P md ops Q m (Array.replicate n true ++ Array.replicate m false) (putAll d vals n a0) w) :
    ∀ (c : Nat) (todo : List Nat) (listed : Array Bool) (a : Act) (w : World), todo.length = c → GInv md ops n m d R a0 V todo listed a w → wpAny P md ops Q (c + m) listed a w := by
  simp only [growChk, Bool.and_eq_true, List.all_eq_true, List.mem_range, List.any_eq_true, decide_eq_true_eq] at hc
  obtain ⟨⟨hc1, hc2⟩, hsz⟩ := hc
  intro c
  induction c with
  | zero =>
    intro todo listed a w ht hI
    obtain rfl : todo = [] := List.length_eq_zero_iff.1 ht
    have hl : listed = Array.replicate n true ++ Array.replicate m false := by
      apply Array.ext
      · simp [hI.size]
      · intro i h1 h2
        have e : listed[i] = listed.getD i true := by simp [Array.getD, h1]
        rw [e]
        by_cases q : i < n
        · rw [(hI.mem i q).2 (by simp), Array.getElem_append_left (by simpa using q)]
          simp
        · rw [Array.getElem_append_right (by simpa using q)]
          simp only [Array.getElem_replicate]
          cases e : listed.getD i true with
          | false => rfl
          | true =>
            have := hI.tail i (by omega) e
            rw [hI.size] at h1
            omega
    have ha : a = putAll d (fun i => a.eval (.tmp (d i))) n a0 := by
      obtain ⟨p1, p2, p3⟩ := putAll_spec d a a0 hI.asz n hds
      obtain ⟨ts, df⟩ := a
      have e1 : ts = (putAll d (fun i => (⟨ts, df⟩ : Act).eval (.tmp (d i))) n a0).tmps := by
        apply Array.ext_getElem?
        intro k
        rw [p3 k]
        by_cases q : ∃ j, j < n ∧ d j = k
        · rw [if_pos q]
        · rw [if_neg q]
          exact hI.frame k (fun j hj e => q ⟨j, hj, e⟩)
      have e2 : df = (putAll d (fun i => (⟨ts, df⟩ : Act).eval (.tmp (d i))) n a0).defers := by rw [p1]; exact hI.dfr
      generalize putAll d (fun i => (⟨ts, df⟩ : Act).eval (.tmp (d i))) n a0 = b at e1 e2
      obtain ⟨bt, bd⟩ := b
      simp only at e1 e2
      rw [e1, e2]
    have hw := hend (fun i => a.eval (.tmp (d i))) w hI.ext (fun i hi => hI.facts i hi (by simp))
    rw [Nat.zero_add, hl]
    rw [← ha] at hw
    exact hw
  | succ c ih =>
    intro todo listed a w ht hI
    rw [show c + 1 + m = (c + m) + 1 by omega]
    have hLT : ∀ i, i < n → i < listed.size := fun i hi => by rw [hI.size]; omega
    refine ⟨fun h0 => ?_, fun i hi => ?_⟩
    · exfalso
      obtain ⟨i, hi, hmin⟩ := least_of todo (by intro e; rw [e] at ht; cases ht)
      have hin := hI.lt i hi
      have : i ∈ Region.ready md ops listed := by
        rw [mem_ready]
        obtain ⟨hdep, hop⟩ := hc1 i hin
        cases ho : ops[i]? with
        | none => rw [ho] at hop; cases hop
        | some o =>
          refine ⟨?_, o, rfl, fun e he hb => ?_⟩
          · cases e : listed.getD i true with
            | false => rfl
            | true => exact absurd hi ((hI.mem i hin).1 e)
          · have hj : e.on < i := hdep e.on ((mem_gdeps ho).2 ⟨e, he, hb, rfl⟩)
            have hjn : e.on < n := by omega
            rw [getD_in (hLT _ hjn) false true]
            exact (hI.mem _ hjn).2 (fun q => by have := hmin _ q; omega)
      rw [h0] at this
      cases this
    · obtain ⟨hun, o, ho, hall⟩ := mem_ready.1 hi
      have hio : i < ops.size := (Array.getElem?_eq_some_iff.1 ho).1
      have hin : i < n := by
        rcases Nat.lt_or_ge i n with q | q
        · exact q
        · exfalso
          obtain ⟨x, hx⟩ : ∃ x, x ∈ todo := by
            cases todo with
            | nil => cases ht
            | cons x r => exact ⟨x, by simp⟩
          have hxn := hI.lt x hx
          obtain ⟨k, hk, hr⟩ := hc2 (i - n) (by omega) x hxn
          rw [show n + (i - n) = i by omega] at hk
          obtain ⟨e, he, hb, rfl⟩ := (mem_gdeps ho).1 hk
          have h1 := greach_down hI.down _ _ _ hr (hall e he hb)
          rw [getD_in (hLT x hxn) false true] at h1
          exact (hI.mem x hxn).1 h1 hx
      obtain ⟨hdep, hop⟩ := hc1 i hin
      rw [ho] at hop
      simp only [Option.map_some, Option.getD_some, Bool.and_eq_true, decide_eq_true_eq, Option.isNone_iff_eq_none] at hop
      obtain ⟨hdst, hgd⟩ := hop
      have hit : i ∈ todo := Classical.byContradiction fun q => by
        rw [(hI.mem i hin).2 q] at hun; cases hun
      unfold wpOp
      rw [ho]
      simp only [Region.wanted, hgd, if_true]
      left
      have hs := hstep i hin a w hI.ext (fun k hk => eval_of_get (hI.frame k hk)) (fun j hj => by
        have hj : j ∈ gdeps md ops i := by simpa using hj
        have hjn : j < n := by have := hdep j hj; omega
        refine hI.facts j hjn ?_
        obtain ⟨e, he, hb, rfl⟩ := (mem_gdeps ho).1 hj
        have h1 := hall e he hb
        rw [getD_in (hLT _ hjn) false true] at h1
        exact (hI.mem _ hjn).1 h1) (wpAny P md ops Q (c + m) (listed.setIfInBounds i true)) (fun v w' hR hE => ?_)
      · rw [ho] at hs
        exact hs
      · refine ih (todo.filter (fun y => y != i)) _ _ _ ?_ ?_
        · have h1 : todo.filter (fun y => y != i) = todo.erase i := by rw [hI.nd.erase_eq_filter]
          rw [h1, List.length_erase_of_mem hit, ht]; rfl
        · have hset : ∀ j, j ≠ i → ∀ b, (listed.setIfInBounds i true).getD j b = listed.getD j b := fun j hj b => getD_set_ne b (Ne.symm hj)
          have hsi : ∀ b, (listed.setIfInBounds i true).getD i b = true := fun b => by
            have := hLT i hin
            simp [Array.getD, this]
          have hdi := hds i hin
          have hget : ∀ k, (a.put (some (d i)) v).tmps[k]? = if d i = k then some v else a.tmps[k]? := fun k => by
            simp only [Act.put, Array.getElem?_setIfInBounds]
            by_cases e : d i = k
            · rw [if_pos e, if_pos e, if_pos (by rw [hI.asz]; exact hdi)]
            · rw [if_neg e, if_neg e]
          refine ⟨by simpa using hI.size, ?_, hI.nd.filter _, ?_, ?_, ?_, by simpa [Act.put] using hI.asz, hI.dfr, ?_, ?_, hI.ext.trans hE⟩
          · intro j hj h1
            rw [hset j (by omega)] at h1
            exact hI.tail j hj h1
          · intro j hj; exact hI.lt j (List.mem_filter.1 hj).1
          · intro j hj
            by_cases e : j = i
            · subst e
              rw [hsi]; simp
            · rw [hset j e, hI.mem j hj, List.mem_filter]
              simp [e]
          · intro j hj k hk
            by_cases e : j = i
            · subst e
              obtain ⟨e, he, hb, rfl⟩ := (mem_gdeps ho).1 hk
              exact getD_set_true (hall e he hb)
            · rw [hset j e] at hj
              exact getD_set_true (hI.down j hj k hk)
          · intro k hk
            rw [hget, if_neg (hk i hin)]
            exact hI.frame k hk
          · intro j hj hjt
            have ev : (a.put (some (d i)) v).eval (.tmp (d j)) = if j = i then v else a.eval (.tmp (d j)) := by
              simp only [Act.eval, Array.getD_eq_getD_getElem?, hget]
              by_cases e : j = i
              · rw [if_pos e, if_pos (by rw [e])]; rfl
              · rw [if_neg e, if_neg (fun q => e (hinj i j hin hj q).symm)]
            rw [ev]
            by_cases e : j = i
            · rw [if_pos e, e]; exact hR
            · rw [if_neg e]
              exact hst _ _ _ _ (hI.facts j hj (fun q => hjt (List.mem_filter.2 ⟨q, by simpa using e⟩))) hE
/-- The same, one behind the other. -/
def putF (d : Nat → Nat) (vals : Nat → Value) : Nat → Nat → Act → Act
  | 0, _, a => a
  | k + 1, i, a => putF d vals k (i + 1) (a.put (some (d i)) (vals i))
theorem putF_eq (d : Nat → Nat) (vals : Nat → Value) : ∀ (k i : Nat) (a : Act), (List.range' i k).foldl (fun b j => b.put (some (d j)) (vals j)) a = putF d vals k i a
  | 0, _, _ => rfl
  | k + 1, i, a => by rw [List.range'_succ, List.foldl_cons, putF_eq d vals k (i + 1)]; rfl
theorem putAll_F (d : Nat → Nat) (vals : Nat → Value) (n : Nat) (a : Act) : putAll d vals n a = putF d vals n 0 a := by
  unfold putAll; rw [List.range_eq_range', putF_eq]
/-- p at k numbers from i on. -/
def AllIdx (p : Nat → Prop) : Nat → Nat → Prop
  | _, 0 => True
  | i, k + 1 => p i ∧ AllIdx p (i + 1) k
theorem AllIdx.out {p : Nat → Prop} : ∀ (k i : Nat), AllIdx p i k → ∀ j, i ≤ j → j < i + k → p j
  | 0, i, _, j, h1, h2 => by omega
  | k + 1, i, h, j, h1, h2 => by
    by_cases e : j = i
    · rw [e]; exact h.1
    · exact AllIdx.out k (i + 1) h.2 j (by omega) (by omega)
def nodupB (l : List Nat) : Bool := match l with | [] => true | x :: r => !r.contains x && nodupB r
theorem nodupB_inj : ∀ (l : List Nat), nodupB l = true → ∀ i j, i < l.length → j < l.length → l.getD i 0 = l.getD j 0 → i = j
  | [], _, i, j, h, _, _ => absurd h (Nat.not_lt_zero _)
  | x :: r, hn, i, j, hi, hj, e => by
    simp only [nodupB, Bool.and_eq_true, Bool.not_eq_true', List.contains_eq_mem, decide_eq_false_iff_not] at hn
    cases i with
    | zero =>
      cases j with
      | zero => rfl
      | succ j =>
        have hj : j < r.length := by simpa using hj
        exfalso
        apply hn.1
        have e : x = r[j] := by simpa [List.getD, hj] using e
        rw [e]; exact List.getElem_mem _
    | succ i =>
      have hi : i < r.length := by simpa using hi
      cases j with
      | zero =>
        exfalso
        apply hn.1
        have e : r[i] = x := by simpa [List.getD, hi] using e
        rw [← e]; exact List.getElem_mem _
      | succ j =>
        have hj : j < r.length := by simpa using hj
        exact congrArg (· + 1) (nodupB_inj r hn.2 i j hi hj (by simpa [List.getD] using e))
/-- The law: ds: where the first operations leave their values; Rs: what is known of these. -/
theorem wp_region_grow {P : Program} {id : Nat} {Q : Exit → Act → World → Prop} {a0 : Act} {w : World} {l : List Oper} (ds : List Nat) (Rs : List (Value → World → Prop)) (m : Nat)
    (hm : P.follows .mixedOrders = true) (hc : growChk .any l.toArray ds.length m (fun i => ds.getD i 0) = true) (hn : nodupB ds = true) (hz : ds.all (fun x => decide (x < a0.tmps.size)) = true)
    (hst : ∀ R ∈ Rs, ∀ v w w', R v w → Ext w w' → R v w')
    (hstep : AllIdx (GStep P .any l.toArray Q ds.length (fun i => ds.getD i 0) (fun i => Rs.getD i (fun _ _ => True)) a0 w) 0 ds.length)
    (hend : ∀ (vals : Nat → Value) (w' : World), Ext w w' → AllIdx (fun i => Rs.getD i (fun _ _ => True) (vals i) w') 0 ds.length → wpAny P .any l.toArray Q m (Array.replicate ds.length true ++ Array.replicate m false) (putF (fun i => ds.getD i 0) vals ds.length 0 a0) w') :
    (Code.region id l.toArray true).wp P Q a0 w := by
  refine wp_region_any hm ?_
  have hsz : ds.length + m = l.toArray.size := by
    have := hc
    simp only [growChk, Bool.and_eq_true, decide_eq_true_eq] at this
    exact this.2
  rw [← hsz]
  have hall : ∀ (p : Nat → Prop) (k i : Nat), (∀ j, i ≤ j → j < i + k → p j) → AllIdx p i k := by
    intro p k
    induction k with
    | zero => intro i _; trivial
    | succ k ih => intro i h; exact ⟨h i (Nat.le_refl _) (by omega), ih (i + 1) (fun j h1 h2 => h j (by omega) (by omega))⟩
  refine grow_go ds.length m (fun i => ds.getD i 0) (fun i => Rs.getD i (fun _ _ => True)) a0 w hc ?_ (fun i j hi hj e => nodupB_inj ds hn i j hi hj e) ?_ (fun i hi => hstep.out _ _ i (Nat.zero_le _) (by omega)) (fun vals w' hE hR => by rw [putAll_F]; exact hend vals w' hE (hall _ _ _ (fun j _ hj => hR j (by omega)))) ds.length (List.range ds.length) _ _ _ (by simp) ?_
  · intro i v w w' h hE
    simp only [List.getD] at h ⊢
    cases e : Rs[i]? with
    | none => trivial
    | some R =>
      rw [e] at h
      exact hst R (List.mem_of_getElem? e) v w w' h hE
  · intro i hi
    have := List.all_eq_true.1 hz _ (List.getElem_mem hi)
    simpa [List.getD, hi] using this
  · refine ⟨by simp, ?_, List.nodup_range, fun i hi => by simpa using hi, ?_, ?_, rfl, rfl, fun _ _ => rfl, ?_, (Ext.refl w).drew⟩
    · intro i hi h
      rcases Nat.lt_or_ge i (ds.length + m) with q | q
      · exfalso
        simp [Array.getD, q] at h
      · exact q
    · intro i hi
      have : i < ds.length + m := by omega
      simp [Array.getD, this, hi]
    · intro i hi
      exfalso
      by_cases q : i < ds.length + m <;> simp [Array.getD, q] at hi
    · intro i hi hni
      exact absurd (List.mem_range.2 hi) hni
end Go.Proofs.YtgndogpgfgliaaaGreatDoor
/- One operation at a time: what it yields; for the law of regions that draw their order and make memory. -/
namespace Go.Proofs.YtgndogpgfgliaaaGreatDoor
set_option linter.unusedVariables false
set_option linter.unnecessarySimpa false
set_option linter.unusedSimpArgs false
open Go Go.RowKit

theorem fr_of {ds : List Nat} {k : Nat} (h : ds.contains k = false) : ∀ j, j < ds.length → ds.getD j 0 ≠ k := by
  intro j hj e
  have : ds[j] = k := by simpa [List.getD, hj] using e
  have h2 : k ∉ ds := by simpa using h
  exact h2 (this ▸ List.getElem_mem _)
theorem gs_val {P : Program} {o : Oper} {Q : Exit → Act → World → Prop} {K : Act → World → Prop} {a : Act} {w : World} {v : Value} {dd : Nat} (hd : o.dst = some dd) (hrun : (execOp a.eval o).run P w = .ok (.value v) w) (h : K (a.put (some dd) v) w) : o.wp P a w K Q := by
  unfold Oper.wp
  rw [hrun]
  show K (a.put o.dst v) w
  rw [hd]; exact h
theorem gs_call {P : Program} {o : Oper} {Q : Exit → Act → World → Prop} {K : Act → World → Prop} {a : Act} {w : World} {dd : Nat} {f : FuncId} {args : Array Value} {R : Value → World → Prop} (hd : o.dst = some dd) (hrun : (execOp a.eval o).run P w = .ok (.enter f args) w)
    (hc : Calls P f args w fun e w' => ∃ v, e = .returned v ∧ R v w' ∧ Ext w w') (hK : ∀ v w', R v w' → Ext w w' → K (a.put (some dd) v) w') : o.wp P a w K Q := by
  unfold Oper.wp
  rw [hrun]
  refine hc.mono ?_
  rintro e w' ⟨v, rfl, h1, h2⟩
  show K (a.put o.dst v) w'
  rw [hd]; exact hK v w' h1 h2
section
variable {P : Program} {o : Oper} {a : Act} {w : World}
theorem yr_move {x : Operand} {u : Value} (hop : o.op = .move x) (hx : a.eval x = u) : (execOp a.eval o).run P w = .ok (.value u) w := by
  unfold execOp; simp [hop, hx, Result.andThen]
theorem yr_assign {x : Operand} {u : Value} (hop : o.op = .assign x) (hx : a.eval x = u) : (execOp a.eval o).run P w = .ok (.value u) w := by
  unfold execOp; simp [hop, hx, Result.andThen]
theorem yr_load {t : TypeId} {x : Operand} {u v : Value} (hop : o.op = .load t x) (hx : a.eval x = u) (hrun : (Instr.loadAt t u).run P w = .ok v w) : (execOp a.eval o).run P w = .ok (.value v) w := by
  unfold execOp; simp [hop, hx, hrun, Result.andThen]
theorem yr_field {s : TypeId} {x : Operand} {f : Nat} {u v : Value} (hop : o.op = .fieldAddr s x f) (hx : a.eval x = u) (hrun : (Instr.fieldAt s u f).run P w = .ok v w) : (execOp a.eval o).run P w = .ok (.value v) w := by
  unfold execOp; simp [hop, hx, hrun, Result.andThen]
theorem yr_nil {x : Operand} {b : Addr} (hop : o.op = .nilCheck x) (hx : a.eval x = .pointer (some b)) : (execOp a.eval o).run P w = .ok (.value (.pointer (some b))) w := by
  unfold execOp; simp [hop, hx, Result.andThen]
theorem yr_look {t : TypeId} {x y : Operand} {k : Bool} {u z v : Value} (hop : o.op = .lookup t x y k) (hx : a.eval x = u) (hy : a.eval y = z) (hrun : (Instr.lookup t u z k).run P w = .ok v w) : (execOp a.eval o).run P w = .ok (.value v) w := by
  unfold execOp; simp [hop, hx, hy, hrun, Result.andThen]
theorem yr_idxa {t : TypeId} {x y : Operand} {u z v : Value} (hop : o.op = .indexAddr t x y) (hx : a.eval x = u) (hy : a.eval y = z) (hrun : (Instr.indexAt t u z).run P w = .ok v w) : (execOp a.eval o).run P w = .ok (.value v) w := by
  unfold execOp; simp [hop, hx, hy, hrun, Result.andThen]
theorem yr_adds {t t2 : TypeId} {x y : Operand} {A B : ByteArray} (hop : o.op = .binOp .add t x y t2) (hx : a.eval x = .string A) (hy : a.eval y = .string B) (hl : A.size + B.size ≤ 1000000) : (execOp a.eval o).run P w = .ok (.value (.string (A ++ B))) w := by
  have h2 : (A ++ B).size = A.size + B.size := ByteArray.size_append
  have h3 : A.size + B.size ≤ maxLen := by unfold maxLen; omega
  unfold execOp
  simp only [hop, hx, hy]
  have h4 : (A ++ B).size ≤ maxLen := by omega
  have h5 : ¬ 9223372036854775807 < A.size + B.size := by omega
  simp [Result.andThen, go_sem, h4, h5, eqGuard]
theorem yr_call {C : Callee} {xs : Array Operand} {ts : Array TypeId} {f : FuncId} {args : Array Value} (hop : o.op = .call ⟨C, xs, ts⟩) (hc : C = .value (.func f)) (hx : xs.map a.eval = args) (hf : (callFunc f args).run P w = .ok (.enter f args) w) : (execOp a.eval o).run P w = .ok (.enter f args) w := by
  subst hc
  subst hx
  unfold execOp
  simp [hop, resolve, Deferred.ofValue, invoke, Act.eval, go_sem, hf]
end
end Go.Proofs.YtgndogpgfgliaaaGreatDoor
/- Laws for single operations of a region that draws its order. -/
namespace Go.Proofs.YtgndogpgfgliaaaGreatDoor
set_option linter.unusedVariables false
set_option linter.unnecessarySimpa false
set_option linter.unusedSimpArgs false
open Go.RowKit

theorem ld_st (p : Addr) (x : Value) (w : World) (hc : w.cell? p = some x) : (Instr.loadAt 9 (.pointer (some p))).run Tryz.prog w = .ok x w := by go_simp
theorem yr_addl {P : Program} {o : Oper} {a : Act} {w : World} {t t2 : TypeId} {x y : Operand} {A B : List UInt8} (hop : o.op = .binOp .add t x y t2) (hx : a.eval x = .string ⟨A.toArray⟩) (hy : a.eval y = .string ⟨B.toArray⟩) (hl : A.length + B.length ≤ 1000000000000) : (execOp a.eval o).run P w = .ok (.value (.string ⟨(A ++ B).toArray⟩)) w := by
  have e : (⟨(A ++ B).toArray⟩ : ByteArray) = ⟨A.toArray⟩ ++ ⟨B.toArray⟩ := by apply ByteArray.ext; simp
  have hl2 : (⟨A.toArray⟩ : ByteArray).size + (⟨B.toArray⟩ : ByteArray).size ≤ 1000000000000 := by
    show A.toArray.size + B.toArray.size ≤ _
    simpa using hl
  rw [e]
  generalize (⟨A.toArray⟩ : ByteArray) = A2 at *
  generalize (⟨B.toArray⟩ : ByteArray) = B2 at *
  have h2 : (A2 ++ B2).size = A2.size + B2.size := ByteArray.size_append
  have h3 : A2.size + B2.size ≤ maxLen := by unfold maxLen; omega
  unfold execOp
  simp only [hop, hx, hy]
  have h4 : (A2 ++ B2).size ≤ maxLen := by omega
  have h5 : ¬ 9223372036854775807 < A2.size + B2.size := by omega
  simp [Result.andThen, go_sem, h4, h5, eqGuard]
theorem yr_addt {P : Program} {o : Oper} {a : Act} {w : World} {t t2 : TypeId} {x y : Operand} {A B C : List UInt8} (hop : o.op = .binOp .add t x y t2) (hx : a.eval x = .string ⟨A.toArray⟩) (hy : a.eval y = .string ⟨B.toArray⟩) (hl : C.length ≤ 1000000000000) (hC : A ++ B = C) : (execOp a.eval o).run P w = .ok (.value (.string ⟨C.toArray⟩)) w := by
  subst hC
  exact yr_addl hop hx hy (by rw [List.length_append] at hl; exact hl)
theorem wpAny_op {P : Program} {md : Region.Mode} {ops : Array Oper} {Q : Exit → Act → World → Prop} {fuel i : Nat} {listed : Array Bool} {a : Act} {w : World} {o : Oper} (hr : Region.ready md ops listed = [i]) (ho : ops[i]? = some o)
    (hw : Region.wanted o (yielded ops a.tmps) = true) (h : o.wp P a w (fun a' w' => wpAny P md ops Q fuel (listed.setIfInBounds i true) a' w') Q) : wpAny P md ops Q (fuel + 1) listed a w := by
  refine wpAny_all hr (by simp) (fun j hj => ?_)
  obtain rfl : j = i := by simpa using hj
  unfold wpOp
  simp only [ho, hw, if_true]
  left
  exact h
theorem gs_mkE {P : Program} {o : Oper} {Q : Exit → Act → World → Prop} {K : Act → World → Prop} {a : Act} {w w' : World} {v : Value} {dd : Nat} (hd : o.dst = some dd) (hrun : (execOp a.eval o).run P w = .ok (.value v) w') (h : K (a.put (some dd) v) w') : o.wp P a w K Q := by
  unfold Oper.wp
  rw [hrun]
  show K (a.put o.dst v) w'
  rw [hd]; exact h
theorem yr_bs1 {P : Program} {o : Oper} {a : Act} {w w' : World} {t : TypeId} {x : Operand} {u v : Value} (hop : o.op = .buildSlice t 1 #[(0, x)]) (hx : a.eval x = u) (hrun : (Instr.buildSlice t 1 #[(0, u)]).run P w = .ok v w') : (execOp a.eval o).run P w = .ok (.value v) w' := by
  subst hx
  unfold execOp; simp only [hop]
  simp only [Sem.run_bind, List.map_toArray, List.map_cons, List.map_nil, hrun, Result.andThen]
  rfl
theorem bs1_run (x : ByteArray) (w : World) : (Instr.buildSlice 55 1 #[(0, .string x)]).run Tryz.prog w = .ok (.slice (some ⟨w.heap.size, 0, none⟩) 1 1) (w.alloc (.cells #[.string x] 9)) := by
  kernel_rfl
def OneS (Z : List UInt8) (x : Value) (w : World) : Prop := ∃ g, x = .slice (some ⟨g, 0, none⟩) 1 1 ∧ w.cell? ⟨g, 0, none⟩ = some (.string ⟨Z.toArray⟩) ∧ g < w.heap.size
theorem OneS.ext {Z : List UInt8} {x : Value} {w w' : World} (h : OneS Z x w) (hE : Ext w w') : OneS Z x w' := by
  obtain ⟨g, h1, h2, h3⟩ := h
  exact ⟨g, h1, (hE.cells _ _ h3).trans h2, hE.lt h3⟩
theorem OneS.new (Z : List UInt8) (w : World) : OneS Z (.slice (some ⟨w.heap.size, 0, none⟩) 1 1) (w.alloc (.cells #[.string ⟨Z.toArray⟩] 9)) :=
  ⟨_, rfl, by rw [World.cell?_alloc_new]; rfl, by simp⟩
theorem OneS.at_ {Z : List UInt8} {g : Nat} {w : World} (h : w.cell? ⟨g, 0, none⟩ = some (.string ⟨Z.toArray⟩)) : ∀ (j : Nat) u, ([Value.string ⟨Z.toArray⟩])[j]? = some u → w.cell? ((⟨g, 0, none⟩ : Addr).add j) = some u := by
  intro j u hj
  cases j with
  | zero => simp at hj; subst hj; exact h
  | succ j => simp at hj
theorem wpAny_one {P : Program} {md : Region.Mode} {ops : Array Oper} {Q : Exit → Act → World → Prop} {fuel i : Nat} {listed : Array Bool} {a : Act} {w w' : World} {o : Oper} {v : Value} (hr : Region.ready md ops listed = [i]) (ho : ops[i]? = some o)
    (hw : Region.wanted o (yielded ops a.tmps) = true) (hrun : (execOp a.eval o).run P w = .ok (.value v) w') (h : wpAny P md ops Q fuel (listed.setIfInBounds i true) (a.put o.dst v) w') : wpAny P md ops Q (fuel + 1) listed a w := by
  refine wpAny_all hr (by simp) (fun j hj => ?_)
  obtain rfl : j = i := by simpa using hj
  unfold wpOp
  simp only [ho, hw, if_true]
  left
  unfold Oper.wp
  rw [hrun]
  exact h
theorem ld_is (p : Addr) (x : Value) (w : World) (hc : w.cell? p = some x) : (Instr.loadAt 22 (.pointer (some p))).run Tryz.prog w = .ok x w := by go_simp
end Go.Proofs.YtgndogpgfgliaaaGreatDoor
