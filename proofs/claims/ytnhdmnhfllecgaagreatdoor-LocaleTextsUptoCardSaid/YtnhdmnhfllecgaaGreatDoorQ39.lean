/- Locales: the walk of Parse: its start and its stages. -/
import Derived.Test.YtnhdmnhfllecgaaGreatDoorQ38
import Derived.Test.YtnhdmnhfllecgaaGreatDoorQ29
import Derived.Test.YtnhdmnhfllecgaaGreatDoorQ28
import Derived.Test.YtnhdmnhfllecgaaGreatDoorQ01
namespace Go.Proofs.YtnhdmnhfllecgaaGreatDoor
set_option linter.unusedVariables false
set_option linter.unusedSimpArgs false
open Go.RowKit

/-- Between the stages. -/
def PIn (tx : List UInt8) (b B X st : Nat) (w : World) : Prop := (∃ rest, OKS tx b B X (fun _ _ => True) st 0 rest w) ∨ ERS tx X w
def zeroV : Array Value := LocD.zero.loc.vals.toArray
theorem zero_lsw (b B : Nat) (w : World) (hb : b ≤ B) (ho : w.heap[B]? = some (.cells zeroV 30 (0, 0))) : LSw LocD.zero.loc b B w := by
  have hk : ∀ k, blk LocD.zero.loc k = none := fun k => by
    match k with
    | 0 => rfl
    | 1 => rfl
    | 2 => rfl
    | k + 3 => rfl
  exact ⟨⟨rfl, rfl, rfl, rfl, rfl⟩, hb, ho, World.ownsRow_nil _ _ _ _, World.ownsRow_nil _ _ _ _, World.ownsRow_nil _ _ _ _, (fun u hu => by cases hu), (fun k => by rw [hk]; simp), fun i j x _ h => by rw [hk] at h; cases h⟩
theorem zero_dat : Dat LocD.zero.loc LocD.zero := ⟨rfl, rfl, rfl, rfl, rfl, rfl⟩
theorem zero_sz : DSz LocD.zero 0 := by
  refine ⟨by decide, by decide, ?_, fun p hp => by (cases hp), fun p hp => by (cases hp), fun u hu => by (cases hu), ⟨rfl, rfl, rfl, rfl, rfl⟩, by decide, by decide, by decide⟩
  intro s hs
  have : s = [] := by
    simp only [LocD.zero, emN, Nms.all, List.mem_append, List.mem_replicate] at hs
    rcases hs with q | q | q | q | q <;> exact q.2
  rw [this]; simp
/-- The start: a locale and a reader of lines are made. -/
theorem par_start (s : List UInt8) (W : World) (hs : s.length ≤ 50000) (hl : ∀ a ∈ spl 10 s, a.length ≤ 6000) :
    PIn s W.heap.size W.heap.size (W.heap.size + 1) 0 ((W.alloc (.cells zeroV 30)).alloc (.cells #[.string ⟨s.toArray⟩, .int .i64 0, .int .i64 0, .int .i64 0, .int .i64 0] 75)) := by
  have hE : Ext (W.alloc (.cells zeroV 30)) ((W.alloc (.cells zeroV 30)).alloc (.cells #[.string ⟨s.toArray⟩, .int .i64 0, .int .i64 0, .int .i64 0, .int .i64 0] 75)) := (Ext.refl _).alloc _
  have hB : (W.alloc (.cells zeroV 30)).heap[W.heap.size]? = some (.cells zeroV 30 (0, 0)) := heap_alloc_new W _
  have hz : (W.alloc (.cells zeroV 30)).heap.size = W.heap.size + 1 := by simp
  have hX : ((W.alloc (.cells zeroV 30)).alloc (.cells #[.string ⟨s.toArray⟩, .int .i64 0, .int .i64 0, .int .i64 0, .int .i64 0] 75)).heap[W.heap.size + 1]? = some (.cells #[.string ⟨s.toArray⟩, .int .i64 0, .int .i64 0, .int .i64 0, .int .i64 0] 75 (0, 0)) := by
    rw [← hz]; exact heap_alloc_new _ _
  refine .inl ⟨s, LocD.zero.loc, LocD.zero, 0, (zero_lsw W.heap.size W.heap.size _ (Nat.le_refl _) hB).ext hE, ⟨by omega, fun i e => ?_⟩, zero_dat, zero_sz, ?_, parL_run s, by omega, hl, trivial⟩
  · match i, e with
    | 0, e => cases e
    | 1, e => cases e
    | 2, e => cases e
    | k + 3, e => cases e
  · exact ⟨by rw [cell_of_row _ _ 0 _ _ _ hX]; rfl, by rw [cell_of_row _ _ 1 _ _ _ hX]; rfl, by rw [cell_of_row _ _ 2 _ _ _ hX]; rfl, by rw [cell_of_row _ _ 3 _ _ _ hX]; rfl, by rw [cell_of_row _ _ 4 _ _ _ hX]; rfl, fun o => frz_obj hX o, by simp⟩
section
variable (tx : List UInt8) (b B X : Nat) (w0 w : World) (hX : w0.heap.size ≤ X) (hb : w0.heap.size ≤ b) (hm : Lm w0) (hE : Ext w0 w)
include hX hb hm hE
theorem ps_0 (h : PIn tx b B X 0 w) : Calls Tryz.prog 41 #[.pointer (some ⟨X, 0, none⟩), .string ⟨#[108, 111, 99, 97, 108, 101]⟩, .func (.func 42) #[] #[.pointer (some ⟨B, 0, none⟩)]] w fun e w' => e = .returned (.tuple #[]) ∧ Ext w0 w' ∧ PIn tx b B X 1 w' := by
  rcases h with ⟨rest, h⟩ | h
  · refine (take_st tx b B X 0 0 _ _ (fun _ _ => True) rest w0 w (acc_nm b B) (kd_true B X) (by decide) hX hb hm hE h (.inl rfl)).mono ?_
    rintro e w' ⟨r1, r2, r3⟩
    exact ⟨r1, r2, r3.imp (fun ⟨rest', q1, q2⟩ => ⟨rest', q2⟩) id⟩
  · refine (take_er tx X (wrd 0) _ w0 w hE h).mono ?_
    rintro e w' ⟨r1, r2, r3⟩
    exact ⟨r1, r2, .inr r3⟩
theorem ps_9 (h : PIn tx b B X 9 w) : Calls Tryz.prog 41 #[.pointer (some ⟨X, 0, none⟩), .string ⟨#[112, 97, 116, 116, 101, 114, 110]⟩, .func (.func 49) #[] #[.pointer (some ⟨B, 0, none⟩)]] w fun e w' => e = .returned (.tuple #[]) ∧ Ext w0 w' ∧ PIn tx b B X 10 w' := by
  rcases h with ⟨rest, h⟩ | h
  · refine (take_st tx b B X 9 0 _ _ (fun _ _ => True) rest w0 w (acc_pt b B) (kd_true B X) (by decide) hX hb hm hE h (.inl rfl)).mono ?_
    rintro e w' ⟨r1, r2, r3⟩
    exact ⟨r1, r2, r3.imp (fun ⟨rest', q1, q2⟩ => ⟨rest', q2⟩) id⟩
  · refine (take_er tx X (wrd 9) _ w0 w hE h).mono ?_
    rintro e w' ⟨r1, r2, r3⟩
    exact ⟨r1, r2, .inr r3⟩
theorem ps_1 (h : PIn tx b B X 1 w) : Calls Tryz.prog 43 #[.pointer (some ⟨X, 0, none⟩), .string ⟨#[109, 111, 110, 116, 104, 115]⟩, .slice (some ⟨B, 1, none⟩) 12 12] w fun e w' => e = .returned (.tuple #[]) ∧ Ext w0 w' ∧ PIn tx b B X 2 w' :=
  list_st tx b B X 1 w0 w 12 1 (by decide) (by decide) rfl rfl hX hb hm hE h
theorem ps_2 (h : PIn tx b B X 2 w) : Calls Tryz.prog 43 #[.pointer (some ⟨X, 0, none⟩), .string ⟨#[115, 104, 111, 114, 116]⟩, .slice (some ⟨B, 13, none⟩) 12 12] w fun e w' => e = .returned (.tuple #[]) ∧ Ext w0 w' ∧ PIn tx b B X 3 w' :=
  list_st tx b B X 2 w0 w 12 13 (by decide) (by decide) rfl rfl hX hb hm hE h
theorem ps_3 (h : PIn tx b B X 3 w) : Calls Tryz.prog 43 #[.pointer (some ⟨X, 0, none⟩), .string ⟨#[100, 97, 121, 115]⟩, .slice (some ⟨B, 25, none⟩) 7 7] w fun e w' => e = .returned (.tuple #[]) ∧ Ext w0 w' ∧ PIn tx b B X 4 w' :=
  list_st tx b B X 3 w0 w 7 25 (by decide) (by decide) rfl rfl hX hb hm hE h
theorem ps_4 (h : PIn tx b B X 4 w) : Calls Tryz.prog 43 #[.pointer (some ⟨X, 0, none⟩), .string ⟨#[115, 104, 111, 114, 116, 100, 97, 121, 115]⟩, .slice (some ⟨B, 32, none⟩) 7 7] w fun e w' => e = .returned (.tuple #[]) ∧ Ext w0 w' ∧ PIn tx b B X 5 w' :=
  list_st tx b B X 4 w0 w 7 32 (by decide) (by decide) rfl rfl hX hb hm hE h
theorem ps_5 (h : PIn tx b B X 5 w) : Calls Tryz.prog 43 #[.pointer (some ⟨X, 0, none⟩), .string ⟨#[104, 97, 108, 118, 101, 115]⟩, .slice (some ⟨B, 39, none⟩) 2 2] w fun e w' => e = .returned (.tuple #[]) ∧ Ext w0 w' ∧ PIn tx b B X 6 w' :=
  list_st tx b B X 5 w0 w 2 39 (by decide) (by decide) rfl rfl hX hb hm hE h
theorem ps_6 (h : PIn tx b B X 6 w) : Calls Tryz.prog 44 #[.pointer (some ⟨X, 0, none⟩), .string ⟨#[112, 108, 117, 114, 97, 108]⟩, .func (.func 93) #[] #[.pointer (some ⟨w.heap.size, 0, none⟩)]] (w.alloc (.cells #[.pointer (some ⟨B, 41, none⟩)] 79)) fun e w' => e = .returned (.tuple #[]) ∧ Ext w0 w' ∧ PIn tx b B X 7 w' := by
  have hE1 : Ext w0 (w.alloc (.cells #[.pointer (some ⟨B, 41, none⟩)] 79)) := hE.alloc _
  have hlt : X < w.heap.size := by
    rcases h with ⟨rest, h⟩ | h
    · obtain ⟨at_, -, -, hx⟩ := h.lx
      exact hx.lt
    · obtain ⟨r, l, e, a, c, hx, -⟩ := h.ne
      exact hx.lt
  refine many_st tx b B X 6 _ _ (KdB B w.heap.size (.pointer (some ⟨B, 41, none⟩))) w0 _ (acc_P b B w.heap.size) (kd_box B X _ _ (by omega)) (by decide) (by decide) hX hb hm hE1 ?_
  rcases h with ⟨rest, h⟩ | h
  · exact .inl ⟨rest, h.box⟩
  · exact .inr (h.ext ((Ext.refl w).alloc _))
theorem ps_7 (h : PIn tx b B X 7 w) : Calls Tryz.prog 44 #[.pointer (some ⟨X, 0, none⟩), .string ⟨#[111, 114, 100, 105, 110, 97, 108]⟩, .func (.func 93) #[] #[.pointer (some ⟨w.heap.size, 0, none⟩)]] (w.alloc (.cells #[.pointer (some ⟨B, 42, none⟩)] 79)) fun e w' => e = .returned (.tuple #[]) ∧ Ext w0 w' ∧ PIn tx b B X 8 w' := by
  have hE1 : Ext w0 (w.alloc (.cells #[.pointer (some ⟨B, 42, none⟩)] 79)) := hE.alloc _
  have hlt : X < w.heap.size := by
    rcases h with ⟨rest, h⟩ | h
    · obtain ⟨at_, -, -, hx⟩ := h.lx
      exact hx.lt
    · obtain ⟨r, l, e, a, c, hx, -⟩ := h.ne
      exact hx.lt
  refine many_st tx b B X 7 _ _ (KdB B w.heap.size (.pointer (some ⟨B, 42, none⟩))) w0 _ (acc_O b B w.heap.size) (kd_box B X _ _ (by omega)) (by decide) (by decide) hX hb hm hE1 ?_
  rcases h with ⟨rest, h⟩ | h
  · exact .inl ⟨rest, h.box⟩
  · exact .inr (h.ext ((Ext.refl w).alloc _))
theorem ps_8 (h : PIn tx b B X 8 w) : Calls Tryz.prog 44 #[.pointer (some ⟨X, 0, none⟩), .string ⟨#[117, 110, 105, 116]⟩, .func (.func 46) #[] #[.pointer (some ⟨B, 0, none⟩)]] w fun e w' => e = .returned (.tuple #[]) ∧ Ext w0 w' ∧ PIn tx b B X 9 w' :=
  many_st tx b B X 8 _ _ (fun _ _ => True) w0 w (acc_U b B) (kd_true B X) (by decide) (by decide) hX hb hm hE h
end
end Go.Proofs.YtnhdmnhfllecgaaGreatDoor
/- A region that draws its order, whose operations read, make memory, or write each into blocks of its own: walked once. Plain law over any program. -/
namespace Go.Proofs.YtnhdmnhfllecgaaGreatDoor
set_option linter.unusedVariables false
set_option linter.unusedSimpArgs false
open Go

def growChkO (md : Region.Mode) (ops : Array Oper) (n m : Nat) (d : Nat → Option Nat) : Bool :=
  (List.range n).all (fun i => (gdeps md ops i).all (fun j => decide (j < i)) && ((ops[i]?).map fun o => decide (o.dst = d i) && o.guard.isNone).getD false) &&
  (List.range m).all (fun t => (List.range n).all fun j => (gdeps md ops (n + t)).any fun k => greach md ops n k j) && decide (n + m = ops.size)
def evD (o : Option Nat) (a : Act) : Value := match o with | some k => a.eval (.tmp k) | none => undef
def putD (o : Option Nat) (v : Value) (a : Act) : Act := match o with | some k => a.put (some k) v | none => a
theorem put_putD (o : Option Nat) (v : Value) (a : Act) : a.put o v = putD o v a := by cases o <;> rfl
def nrmD (o : Option Nat) (v : Value) : Value := match o with | some _ => v | none => undef
/-- The values put where they go. -/
def putAllO (d : Nat → Option Nat) (vals : Nat → Value) (n : Nat) (a : Act) : Act := (List.range n).foldl (fun b j => putD (d j) (vals j) b) a
theorem putAllO_succ (d : Nat → Option Nat) (vals : Nat → Value) (n : Nat) (a : Act) : putAllO d vals (n + 1) a = putD (d n) (vals n) (putAllO d vals n a) := by
  unfold putAllO; rw [List.range_succ, List.foldl_append]; rfl
theorem putAllO_spec (d : Nat → Option Nat) (a a0 : Act) (hs : a.tmps.size = a0.tmps.size) : ∀ n, (∀ i k, i < n → d i = some k → k < a0.tmps.size) →
    (putAllO d (fun i => evD (d i) a) n a0).defers = a0.defers ∧ (putAllO d (fun i => evD (d i) a) n a0).tmps.size = a0.tmps.size ∧
    ∀ k, (putAllO d (fun i => evD (d i) a) n a0).tmps[k]? = if (∃ j, j < n ∧ d j = some k) then a.tmps[k]? else a0.tmps[k]?
  | 0, _ => ⟨rfl, rfl, fun k => by rw [if_neg (by rintro ⟨j, hj, _⟩; omega)]; rfl⟩
  | n + 1, hd => by
    obtain ⟨h1, h2, h3⟩ := putAllO_spec d a a0 hs n (fun i k hi => hd i k (by omega))
    rw [putAllO_succ]
    cases e0 : d n with
    | none =>
      simp only [putD]
      refine ⟨h1, h2, fun k => ?_⟩
      rw [h3]
      by_cases q : ∃ j, j < n ∧ d j = some k
      · obtain ⟨j, hj, q⟩ := q
        rw [if_pos ⟨j, hj, q⟩, if_pos ⟨j, by omega, q⟩]
      · rw [if_neg q, if_neg]
        rintro ⟨j, hj, hq⟩
        by_cases e2 : j = n
        · subst e2; rw [e0] at hq; cases hq
        · exact q ⟨j, by omega, hq⟩
    | some kn =>
      generalize hb : putAllO d (fun i => evD (d i) a) n a0 = bb at h1 h2 h3 ⊢
      simp only [putD, evD]
      have hn := hd n kn (by omega) e0
      refine ⟨h1, by simp [Act.put, h2], fun k => ?_⟩
      simp only [Act.put, Array.getElem?_setIfInBounds]
      by_cases e : kn = k
      · subst e
        rw [if_pos rfl, if_pos (by rw [h2]; exact hn), if_pos ⟨n, by omega, e0⟩, Array.getElem?_eq_getElem (by omega)]
        simp [Act.eval, hs, hn]
      · rw [if_neg e, h3]
        by_cases q : ∃ j, j < n ∧ d j = some k
        · obtain ⟨j, hj, q⟩ := q
          rw [if_pos ⟨j, hj, q⟩, if_pos ⟨j, by omega, q⟩]
        · rw [if_neg q, if_neg]
          rintro ⟨j, hj, hq⟩
          by_cases e2 : j = n
          · subst e2; rw [e0] at hq; injection hq with hq; exact e hq
          · exact q ⟨j, by omega, hq⟩
/-- What the others may write. -/
def OthS (S : Nat → Nat → Prop) (i : Nat) (k : Nat) : Prop := ∃ j, j ≠ i ∧ S j k
def AllS (S : Nat → Nat → Prop) (k : Nat) : Prop := ∃ j, S j k
/-- One operation. -/
def GStepO (P : Program) (md : Region.Mode) (ops : Array Oper) (Q : Exit → Act → World → Prop) (n : Nat) (d : Nat → Option Nat) (R : Nat → Value → World → Prop) (S : Nat → Nat → Prop) (a0 : Act) (V : World) (i : Nat) : Prop :=
  ∀ (a : Act) (w : World), Frm (OthS S i) V w → (∀ k, (∀ j, j < n → d j ≠ some k) → a.eval (.tmp k) = a0.eval (.tmp k)) → (∀ j, (gdeps md ops i).contains j = true → R j (evD (d j) a) w) →
    ∀ K : Act → World → Prop, (∀ v w', R i (nrmD (d i) v) w' → Frm (S i) w w' → K (a.put (d i) v) w') → ((ops[i]?).getD default).wp P a w K Q
structure GInvO (S : Nat → Nat → Prop) (md : Region.Mode) (ops : Array Oper) (n m : Nat) (d : Nat → Option Nat) (R : Nat → Value → World → Prop) (a0 : Act) (V : World) (todo : List Nat) (listed : Array Bool) (a : Act) (w : World) : Prop where
  size : listed.size = n + m
  tail : ∀ i, n ≤ i → listed.getD i true = true → n + m ≤ i
  nd : todo.Nodup
  lt : ∀ i ∈ todo, i < n
  mem : ∀ i, i < n → (listed.getD i true = true ↔ i ∉ todo)
  down : Down md ops listed
  asz : a.tmps.size = a0.tmps.size
  dfr : a.defers = a0.defers
  frame : ∀ k, (∀ j, j < n → d j ≠ some k) → a.tmps[k]? = a0.tmps[k]?
  facts : ∀ i, i < n → i ∉ todo → R i (evD (d i) a) w
  fr : Frm (fun k => ∃ j, j < n ∧ j ∉ todo ∧ S j k) V w
theorem grow_goO {P : Program} {md : Region.Mode} {ops : Array Oper} {Q : Exit → Act → World → Prop} (n m : Nat) (d : Nat → Option Nat) (R : Nat → Value → World → Prop) (S : Nat → Nat → Prop) (a0 : Act) (V : World)
    (hc : growChkO md ops n m d = true) (hst : ∀ j v w w', j < n → R j v w → Frm (OthS S j) w w' → R j v w') (hinj : ∀ i j k, i < n → j < n → d i = some k → d j = some k → i = j) (hds : ∀ i k, i < n → d i = some k → k < a0.tmps.size)
    (hstep : ∀ i, i < n → GStepO P md ops Q n d R S a0 V i)
    (hend : ∀ (vals : Nat → Value) (w : World), Frm (AllS S) V w → (∀ i, i < n → R i (vals i) w) → wpAny P md ops Q m (Array.replicate n true ++ Array.replicate m false) (putAllO d vals n a0) w) :
    ∀ (c : Nat) (todo : List Nat) (listed : Array Bool) (a : Act) (w : World), todo.length = c → GInvO S md ops n m d R a0 V todo listed a w → wpAny P md ops Q (c + m) listed a w := by
  simp only [growChkO, Bool.and_eq_true, List.all_eq_true, List.mem_range, List.any_eq_true, decide_eq_true_eq] at hc
  obtain ⟨⟨hc1, hc2⟩, hsz⟩ := hc
  intro c
  induction c with
  | zero =>
    intro todo listed a w ht hI
    obtain rfl : todo = [] := List.length_eq_zero_iff.1 ht
    have hl : listed = Array.replicate n true ++ Array.replicate m false := by
      apply Array.ext
      · simp [hI.size]
      · intro i h1 h2
        have e : listed[i] = listed.getD i true := by simp [Array.getD, h1]
        rw [e]
        by_cases q : i < n
        · rw [(hI.mem i q).2 (by simp), Array.getElem_append_left (by simpa using q)]
          simp
        · rw [Array.getElem_append_right (by simpa using q)]
          simp only [Array.getElem_replicate]
          cases e : listed.getD i true with
          | false => rfl
          | true =>
            have := hI.tail i (by omega) e
            rw [hI.size] at h1
            omega
    have ha : a = putAllO d (fun i => evD (d i) a) n a0 := by
      obtain ⟨p1, p2, p3⟩ := putAllO_spec d a a0 hI.asz n hds
      obtain ⟨ts, df⟩ := a
      have e1 : ts = (putAllO d (fun i => evD (d i) (⟨ts, df⟩ : Act)) n a0).tmps := by
        apply Array.ext_getElem?
        intro k
        rw [p3 k]
        by_cases q : ∃ j, j < n ∧ d j = some k
        · rw [if_pos q]
        · rw [if_neg q]
          exact hI.frame k (fun j hj e => q ⟨j, hj, e⟩)
      have e2 : df = (putAllO d (fun i => evD (d i) (⟨ts, df⟩ : Act)) n a0).defers := by rw [p1]; exact hI.dfr
      generalize putAllO d (fun i => evD (d i) (⟨ts, df⟩ : Act)) n a0 = b at e1 e2
      obtain ⟨bt, bd⟩ := b
      simp only at e1 e2
      rw [e1, e2]
    have hw := hend (fun i => evD (d i) a) w (hI.fr.mono (fun k _ ⟨j, _, _, h⟩ => ⟨j, h⟩)) (fun i hi => hI.facts i hi (by simp))
    rw [Nat.zero_add, hl]
    rw [← ha] at hw
    exact hw
  | succ c ih =>
    intro todo listed a w ht hI
    rw [show c + 1 + m = (c + m) + 1 by omega]
    have hLT : ∀ i, i < n → i < listed.size := fun i hi => by rw [hI.size]; omega
    refine ⟨fun h0 => ?_, fun i hi => ?_⟩
    · exfalso
      obtain ⟨i, hi, hmin⟩ := least_of todo (by intro e; rw [e] at ht; cases ht)
      have hin := hI.lt i hi
      have : i ∈ Region.ready md ops listed := by
        rw [mem_ready]
        obtain ⟨hdep, hop⟩ := hc1 i hin
        cases ho : ops[i]? with
        | none => rw [ho] at hop; cases hop
        | some o =>
          refine ⟨?_, o, rfl, fun e he hb => ?_⟩
          · cases e : listed.getD i true with
            | false => rfl
            | true => exact absurd hi ((hI.mem i hin).1 e)
          · have hj : e.on < i := hdep e.on ((mem_gdeps ho).2 ⟨e, he, hb, rfl⟩)
            have hjn : e.on < n := by omega
            rw [getD_in (hLT _ hjn) false true]
            exact (hI.mem _ hjn).2 (fun q => by have := hmin _ q; omega)
      rw [h0] at this
      cases this
    · obtain ⟨hun, o, ho, hall⟩ := mem_ready.1 hi
      have hio : i < ops.size := (Array.getElem?_eq_some_iff.1 ho).1
      have hin : i < n := by
        rcases Nat.lt_or_ge i n with q | q
        · exact q
        · exfalso
          obtain ⟨x, hx⟩ : ∃ x, x ∈ todo := by
            cases todo with
            | nil => cases ht
            | cons x r => exact ⟨x, by simp⟩
          have hxn := hI.lt x hx
          obtain ⟨k, hk, hr⟩ := hc2 (i - n) (by omega) x hxn
          rw [show n + (i - n) = i by omega] at hk
          obtain ⟨e, he, hb, rfl⟩ := (mem_gdeps ho).1 hk
          have h1 := greach_down hI.down _ _ _ hr (hall e he hb)
          rw [getD_in (hLT x hxn) false true] at h1
          exact (hI.mem x hxn).1 h1 hx
      obtain ⟨hdep, hop⟩ := hc1 i hin
      rw [ho] at hop
      simp only [Option.map_some, Option.getD_some, Bool.and_eq_true, decide_eq_true_eq, Option.isNone_iff_eq_none] at hop
      obtain ⟨hdst, hgd⟩ := hop
      have hit : i ∈ todo := Classical.byContradiction fun q => by
        rw [(hI.mem i hin).2 q] at hun; cases hun
      unfold wpOp
      rw [ho]
      simp only [Region.wanted, hgd, if_true]
      left
      have hs := hstep i hin a w (hI.fr.mono (fun k _ ⟨j, h1, h2, h3⟩ => ⟨j, fun e => h2 (by rw [e]; exact hit), h3⟩)) (fun k hk => eval_of_get (hI.frame k hk)) (fun j hj => by
        have hj : j ∈ gdeps md ops i := by simpa using hj
        have hjn : j < n := by have := hdep j hj; omega
        refine hI.facts j hjn ?_
        obtain ⟨e, he, hb, rfl⟩ := (mem_gdeps ho).1 hj
        have h1 := hall e he hb
        rw [getD_in (hLT _ hjn) false true] at h1
        exact (hI.mem _ hjn).1 h1) (wpAny P md ops Q (c + m) (listed.setIfInBounds i true)) (fun v w' hR hF => ?_)
      · rw [ho] at hs
        exact hs
      · rw [put_putD]
        refine ih (todo.filter (fun y => y != i)) _ _ _ ?_ ?_
        · have h1 : todo.filter (fun y => y != i) = todo.erase i := by rw [hI.nd.erase_eq_filter]
          rw [h1, List.length_erase_of_mem hit, ht]; rfl
        · have hset : ∀ j, j ≠ i → ∀ b, (listed.setIfInBounds i true).getD j b = listed.getD j b := fun j hj b => getD_set_ne b (Ne.symm hj)
          have hsi : ∀ b, (listed.setIfInBounds i true).getD i b = true := fun b => by
            have := hLT i hin
            simp [Array.getD, this]
          have hget : ∀ k, (putD (d i) v a).tmps[k]? = if d i = some k then some v else a.tmps[k]? := fun k => by
            cases e0 : d i with
            | none => rw [if_neg (by simp)]; rfl
            | some kn =>
              have hdi := hds i kn hin e0
              simp only [putD, Act.put, Array.getElem?_setIfInBounds]
              by_cases e : kn = k
              · subst e
                simp [hI.asz, hdi]
              · have e3 : ¬ (some kn : Option Nat) = some k := fun q => e (by injection q)
                simp [e, e3]
          have hsz2 : (putD (d i) v a).tmps.size = a.tmps.size := by cases d i <;> simp [putD, Act.put]
          have hdf2 : (putD (d i) v a).defers = a.defers := by cases d i <;> rfl
          refine ⟨by simpa using hI.size, ?_, hI.nd.filter _, ?_, ?_, ?_, hsz2.trans hI.asz, hdf2.trans hI.dfr, ?_, ?_, ?_⟩
          · intro j hj h1
            rw [hset j (by omega)] at h1
            exact hI.tail j hj h1
          · intro j hj; exact hI.lt j (List.mem_filter.1 hj).1
          · intro j hj
            by_cases e : j = i
            · subst e
              rw [hsi]; simp
            · rw [hset j e, hI.mem j hj, List.mem_filter]
              simp [e]
          · intro j hj k hk
            by_cases e : j = i
            · subst e
              obtain ⟨e, he, hb, rfl⟩ := (mem_gdeps ho).1 hk
              exact getD_set_true (hall e he hb)
            · rw [hset j e] at hj
              exact getD_set_true (hI.down j hj k hk)
          · intro k hk
            rw [hget, if_neg (hk i hin)]
            exact hI.frame k hk
          · intro j hj hjt
            by_cases e : j = i
            · subst e
              have ev : evD (d j) (putD (d j) v a) = nrmD (d j) v := by
                cases e0 : d j with
                | none => rfl
                | some k =>
                  have h1 := hget k
                  rw [e0, if_pos rfl] at h1
                  simp only [evD, Act.eval, Array.getD_eq_getD_getElem?]
                  rw [h1]; rfl
              rw [ev]; exact hR
            · have ev : evD (d j) (putD (d i) v a) = evD (d j) a := by
                cases e0 : d j with
                | none => rfl
                | some k =>
                  have h1 := hget k
                  rw [if_neg (fun q => e (hinj i j k hin hj q e0).symm)] at h1
                  simp only [evD, Act.eval, Array.getD_eq_getD_getElem?]
                  rw [h1]
              rw [ev]
              exact hst _ _ _ _ hj (hI.facts j hj (fun q => hjt (List.mem_filter.2 ⟨q, by simpa using e⟩))) (hF.mono (fun k _ h => ⟨i, fun q => e q.symm, h⟩))
          · refine (hI.fr.mono (fun k _ ⟨j, h1, h2, h3⟩ => ⟨j, h1, fun q => h2 (List.mem_filter.1 q).1, h3⟩)).trans (hF.mono (fun k _ h => ⟨i, hin, fun q => by simpa using (List.mem_filter.1 q).2, h⟩))
/-- The same, one behind the other. -/
def putG (d : Nat → Option Nat) (vals : Nat → Value) : Nat → Nat → Act → Act
  | 0, _, a => a
  | k + 1, i, a => putG d vals k (i + 1) (putD (d i) (vals i) a)
theorem putG_eq (d : Nat → Option Nat) (vals : Nat → Value) : ∀ (k i : Nat) (a : Act), (List.range' i k).foldl (fun b j => putD (d j) (vals j) b) a = putG d vals k i a
  | 0, _, _ => rfl
  | k + 1, i, a => by rw [List.range'_succ, List.foldl_cons, putG_eq d vals k (i + 1)]; rfl
theorem putAllO_G (d : Nat → Option Nat) (vals : Nat → Value) (n : Nat) (a : Act) : putAllO d vals n a = putG d vals n 0 a := by
  unfold putAllO; rw [List.range_eq_range', putG_eq]
def injB (ds : List (Option Nat)) : Bool := (List.range ds.length).all fun i => (List.range ds.length).all fun j => decide (i = j) || (ds.getD i none).isNone || decide (ds.getD i none ≠ ds.getD j none)
/-- The law: ds: where the first operations leave their values; Rs: what is known of these; S: which blocks each may write. -/
theorem wp_region_growO {P : Program} {id : Nat} {Q : Exit → Act → World → Prop} {a0 : Act} {w : World} {l : List Oper} (ds : List (Option Nat)) (Rs : List (Value → World → Prop)) (S : Nat → Nat → Prop) (m : Nat)
    (hm : P.follows .mixedOrders = true) (hc : growChkO .any l.toArray ds.length m (fun i => ds.getD i none) = true) (hn : injB ds = true) (hz : ds.all (fun x => x.all fun k => decide (k < a0.tmps.size)) = true)
    (hst : AllIdx (fun i => ∀ v w w', Rs.getD i (fun _ _ => True) v w → Frm (OthS S i) w w' → Rs.getD i (fun _ _ => True) v w') 0 ds.length)
    (hstep : AllIdx (GStepO P .any l.toArray Q ds.length (fun i => ds.getD i none) (fun i => Rs.getD i (fun _ _ => True)) S a0 w) 0 ds.length)
    (hend : ∀ (vals : Nat → Value) (w' : World), Frm (AllS S) w w' → AllIdx (fun i => Rs.getD i (fun _ _ => True) (vals i) w') 0 ds.length → wpAny P .any l.toArray Q m (Array.replicate ds.length true ++ Array.replicate m false) (putG (fun i => ds.getD i none) vals ds.length 0 a0) w') :
    (Code.region id l.toArray true).wp P Q a0 w := by
  refine wp_region_any hm ?_
  have hsz : ds.length + m = l.toArray.size := by
    have := hc
    simp only [growChkO, Bool.and_eq_true, decide_eq_true_eq] at this
    exact this.2
  rw [← hsz]
  have hall : ∀ (p : Nat → Prop) (k i : Nat), (∀ j, i ≤ j → j < i + k → p j) → AllIdx p i k := by
    intro p k
    induction k with
    | zero => intro i _; trivial
    | succ k ih => intro i h; exact ⟨h i (Nat.le_refl _) (by omega), ih (i + 1) (fun j h1 h2 => h j (by omega) (by omega))⟩
  refine grow_goO ds.length m (fun i => ds.getD i none) (fun i => Rs.getD i (fun _ _ => True)) S a0 w hc (fun j v w w' hj => hst.out _ _ j (Nat.zero_le _) (by omega) v w w') ?_ ?_ (fun i hi => hstep.out _ _ i (Nat.zero_le _) (by omega)) (fun vals w' hE hR => by rw [putAllO_G]; exact hend vals w' hE (hall _ _ _ (fun j _ hj => hR j (by omega)))) ds.length (List.range ds.length) _ _ _ (by simp) ?_
  · intro i j k hi hj e1 e2
    unfold injB at hn
    simp only [List.all_eq_true, List.mem_range, Bool.or_eq_true, decide_eq_true_eq] at hn
    rcases hn i hi j hj with (q | q) | q
    · exact q
    · rw [show ds.getD i none = some k from e1] at q; cases q
    · exact absurd (e1.trans e2.symm) q
  · intro i k hi e
    have h1 := List.all_eq_true.1 hz _ (List.getElem_mem hi)
    have h2 : ds[i] = some k := by simpa [List.getD, hi] using e
    rw [h2] at h1
    exact of_decide_eq_true h1
  · refine ⟨by simp, ?_, List.nodup_range, fun i hi => by simpa using hi, ?_, ?_, rfl, rfl, fun _ _ => rfl, ?_, Frm.of_ext (Ext.refl w).drew⟩
    · intro i hi h
      rcases Nat.lt_or_ge i (ds.length + m) with q | q
      · exfalso
        simp [Array.getD, q] at h
      · exact q
    · intro i hi
      have : i < ds.length + m := by omega
      simp [Array.getD, this, hi]
    · intro i hi
      exfalso
      by_cases q : i < ds.length + m <;> simp [Array.getD, q] at hi
    · intro i hi hni
      exact absurd (List.mem_range.2 hi) hni
end Go.Proofs.YtnhdmnhfllecgaaGreatDoor
/- Locales: the walk of Parse. -/
namespace Go.Proofs.YtnhdmnhfllecgaaGreatDoor
set_option linter.unusedVariables false
set_option linter.unusedSimpArgs false
open Go.RowKit

theorem zlit_eq : (#[Value.string ⟨#[]⟩, Value.string ⟨#[]⟩, Value.string ⟨#[]⟩, Value.string ⟨#[]⟩, Value.string ⟨#[]⟩, Value.string ⟨#[]⟩, Value.string ⟨#[]⟩, Value.string ⟨#[]⟩, Value.string ⟨#[]⟩, Value.string ⟨#[]⟩, Value.string ⟨#[]⟩, Value.string ⟨#[]⟩, Value.string ⟨#[]⟩, Value.string ⟨#[]⟩, Value.string ⟨#[]⟩, Value.string ⟨#[]⟩, Value.string ⟨#[]⟩, Value.string ⟨#[]⟩, Value.string ⟨#[]⟩, Value.string ⟨#[]⟩, Value.string ⟨#[]⟩, Value.string ⟨#[]⟩, Value.string ⟨#[]⟩, Value.string ⟨#[]⟩, Value.string ⟨#[]⟩, Value.string ⟨#[]⟩, Value.string ⟨#[]⟩, Value.string ⟨#[]⟩, Value.string ⟨#[]⟩, Value.string ⟨#[]⟩, Value.string ⟨#[]⟩, Value.string ⟨#[]⟩, Value.string ⟨#[]⟩, Value.string ⟨#[]⟩, Value.string ⟨#[]⟩, Value.string ⟨#[]⟩, Value.string ⟨#[]⟩, Value.string ⟨#[]⟩, Value.string ⟨#[]⟩, Value.string ⟨#[]⟩, Value.string ⟨#[]⟩, Value.slice none 0 0, Value.slice none 0 0, Value.slice none 0 0, Value.string ⟨#[]⟩] : Array Value) = zeroV := by kernel_rfl
theorem yr_bld0 {P : Program} {o : Oper} {a : Act} {w w' : World} {t : TypeId} {r : Value} (hop : o.op = .build t #[]) (hrun : (Instr.build t #[]).run P w = .ok r w') : (execOp a.eval o).run P w = .ok (.value r) w' := by
  unfold execOp; simp only [hop]
  simp only [Sem.run_bind, List.map_toArray, List.map_nil, hrun, Result.andThen]
  rfl
theorem wpList_bld0 {P : Program} {ops : Array Oper} {rest : List Oper} {o : Oper} {a : Act} {w : World} {Q : Exit → Act → World → Prop} {v : Value} (t : TypeId) (hgd : o.guard = none) (hop : o.op = .build t #[]) (hrun : (Instr.build t #[]).run P w = .ok v w) (h : wpList P ops Q rest (a.put o.dst v) w) : wpList P ops Q (o :: rest) a w :=
  wpList_plain hgd fun K hK => by
    unfold Oper.wp
    rw [yr_bld0 hop hrun]
    exact hK _ _ h
theorem bld0_loc (w : World) : (Instr.build 30 #[]).run Tryz.prog w = .ok (.agg zeroV) w := by kernel_rfl
theorem ld_err (p : Addr) (x : Value) (w : World) (hc : w.cell? p = some x) : (Instr.loadAt 33 (.pointer (some p))).run Tryz.prog w = .ok x w := by go_simp
theorem ld_pos (R o : Nat) (x y : Value) (w : World) (h0 : w.cell? ⟨R, o, none⟩ = some x) (h1 : w.cell? ⟨R, o + 1, none⟩ = some y) : (Instr.loadAt 39 (.pointer (some ⟨R, o, none⟩))).run Tryz.prog w = .ok (.agg #[x, y]) w := by go_simp
theorem zero_info : (Tryz.prog.info? 30).map (·.size) = some zeroV.size := by kernel_rfl
theorem zero_one : zeroV.all (·.oneCell') = true := by kernel_rfl
theorem pos_info (x y : Value) : (Tryz.prog.info? 39).map (·.size) = some (#[x, y] : Array Value).size := by kernel_rfl
theorem pos_one (a b : Int) : (#[.int .i64 a, .int .i64 b] : Array Value).all (·.oneCell') = true := by simp [Value.oneCell']
theorem fr_ofO {ds : List (Option Nat)} {k : Nat} (h : ds.contains (some k) = false) : ∀ j, j < ds.length → ds.getD j none ≠ some k := by
  intro j hj e
  have : ds[j] = some k := by simpa [List.getD, hj] using e
  have h2 : some k ∉ ds := by simpa using h
  exact h2 (this ▸ List.getElem_mem _)
theorem there_frm {W w : World} {R n : Nat} {S : Nat → Prop} (h : W.there R 0 n) (hl : R < W.heap.size) (hF : Frm S W w) (hS : ¬ S R) : w.there R 0 n := fun j hj => by
  obtain ⟨a, b⟩ := h j hj
  exact ⟨by rw [hF.cel hl hS]; exact a, by rw [hF.frz hl hS]; exact b⟩
theorem range_frm {w w' : World} {R : Nat} {vs : List Value} {S : Nat → Prop} (h : R < w.heap.size ∧ w.rangeAt R 0 vs) (hF : Frm S w w') (hS : ¬ S R) : R < w'.heap.size ∧ w'.rangeAt R 0 vs :=
  ⟨hF.lt h.1, fun j v hv => (hF.cel h.1 hS _).trans (h.2 j v hv)⟩
theorem frm_sets {S : Nat → Prop} (w : World) (b : Nat) : ∀ (vs : List Value) (o : Nat), S b → Frm S w (w.setCells b o vs) := by
  intro vs o hS
  induction vs generalizing w o with
  | nil => exact Frm.refl _ _
  | cons v r ih => rw [World.setCells]; exact ((Frm.refl S w).setCell (p := ⟨b, o, none⟩) (.inl hS) v).trans (ih _ _)
theorem range_set (w : World) (R : Nat) (vs : List Value) (hR : R < w.heap.size) (ht : w.there R 0 vs.length) : R < (w.setCells R 0 vs).heap.size ∧ (w.setCells R 0 vs).rangeAt R 0 vs :=
  ⟨(frm_sets (S := fun _ => True) w R vs 0 trivial).lt hR, World.rangeAt_setCells_same w R 0 vs ht⟩
theorem results_c3 {fn : Func} {tmps : Array Value} {w : World} {a b c : Tmp} {t u : TypeId} {v1 v2 v3 : Value} {p q : Addr} (h : fn.results = #[.cell a t, .cell b u, .tmp c]) (h3 : tmps.getD c undef = v3) (hp : tmps.getD a undef = .pointer (some p)) (hq : tmps.getD b undef = .pointer (some q)) (h1 : (loadVar t p).run Tryz.prog w = .ok v1 w) (h2 : (loadVar u q).run Tryz.prog w = .ok v2 w) :
    (results fn tmps).run Tryz.prog w = .ok (.tuple #[v1, v2, v3]) w := by
  unfold results
  rw [h]
  subst h3
  have hp2 : tmps[a]?.getD undef = .pointer (some p) := by rw [← hp]; simp
  have hq2 : tmps[b]?.getD undef = .pointer (some q) := by rw [← hq]; simp
  simp [hp2, hq2, h1, h2, asAddr]
theorem loc_one (L : Loc) : ∀ v ∈ L.vals, v.oneCell' = true := by
  intro v hv
  unfold Loc.vals at hv
  rcases List.mem_cons.1 hv with rfl | hv
  · rfl
  · rcases List.mem_append.1 hv with hv | hv
    · unfold sv at hv
      obtain ⟨l, -, rfl⟩ := List.mem_map.1 hv
      rfl
    · simp only [List.mem_cons, List.not_mem_nil, or_false] at hv
      rcases hv with rfl | rfl | rfl | rfl <;> rfl
/-- What Parse answers. -/
def parOut (s : List UInt8) (e : Ending) (w' : World) : Prop := match parL s with
  | .er c ln => e = .returned (.tuple #[.agg zeroV, .agg #[.int .i64 (ln : Int), .int .i64 ((if ln = 0 then 0 else 1 : Nat) : Int)], .int .i64 (c : Int)])
  | .ok D => ∃ L, Dat L D ∧ DSz D 50000 ∧ LcV L w' ∧ e = .returned (.tuple #[.agg L.vals.toArray, .agg #[.int .i64 0, .int .i64 0], .int .i64 0])
theorem er_out {tx : List UInt8} {e al ac : Nat} (h : (e = 3 ∧ ac = 1 ∧ parL tx = .er 3 al ∧ 1 ≤ al) ∨ (e = 4 ∧ al = 0 ∧ ac = 0 ∧ parL tx = .er 4 0)) : parL tx = .er e al ∧ ac = (if al = 0 then 0 else 1) ∧ e ≠ 0 := by
  rcases h with ⟨rfl, rfl, h, h1⟩ | ⟨rfl, rfl, rfl, h⟩
  · exact ⟨h, by rw [if_neg (by omega)], by decide⟩
  · exact ⟨h, by simp, by decide⟩
end Go.Proofs.YtnhdmnhfllecgaaGreatDoor
