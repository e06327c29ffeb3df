/- Recurrence rules, plainly: a part changes its own field alone; a part twice is an error; equal texts belong to equal rules. No program in sight. -/
import Derived.Test.YtgndogpgfgliaaaGreatDoorQ01
import Derived.Test.YtgndogpgfgliaaaGreatDoorQ00
namespace Go.Proofs.YtgndogpgfgliaaaGreatDoor
set_option linter.unusedVariables false
set_option linter.unnecessarySimpa false
set_option linter.unusedSimpArgs false
open Go.RowKit

/-- A part sets one field, to what its value says. -/
theorem partZ_set (untZ : List UInt8 → Option Int) (v : List UInt8) (R : RecD) (k : Nat) (hk : k < 14) : partZ untZ k v R = (partZ untZ k v RecD.zero).map fun S => setF k S R := by
  refine lt14 (P := fun k => partZ untZ k v R = (partZ untZ k v RecD.zero).map fun S => setF k S R) ?_ k hk
  refine ⟨?_, ?_, ?_, ?_, ?_, ?_, ?_, ?_, ?_, ?_, ?_, ?_, ?_, ?_⟩
  · unfold partZ setF
    simp only
    split <;> rfl
  · unfold partZ setF; simp only [Option.map_map]; rfl
  · unfold partZ setF; simp only [Option.map_map]; rfl
  · unfold partZ setF; simp only [Option.map_map]; rfl
  · unfold partZ setF; simp only [Option.map_map]; rfl
  · unfold partZ setF; simp only [Option.map_map]; rfl
  · unfold partZ setF; simp only [Option.map_map]; rfl
  · unfold partZ setF; simp only [Option.map_map]; rfl
  · unfold partZ setF; simp only [Option.map_map]; rfl
  · unfold partZ setF; simp only [Option.map_map]; rfl
  · unfold partZ setF; simp only [Option.map_map]; rfl
  · unfold partZ setF; simp only [Option.map_map]; rfl
  · unfold partZ setF; simp only [Option.map_map]; rfl
  · unfold partZ setF
    simp only
    split <;> rfl
theorem setF_idem (S R : RecD) (k : Nat) (hk : k < 14) : setF k S (setF k S R) = setF k S R :=
  lt14 (P := fun k => setF k S (setF k S R) = setF k S R) ⟨rfl, rfl, rfl, rfl, rfl, rfl, rfl, rfl, rfl, rfl, rfl, rfl, rfl, rfl⟩ k hk
theorem setF_comm (S T R : RecD) (j k : Nat) (hj : j < 14) (hk : k < 14) (h : j ≠ k) : setF j S (setF k T R) = setF k T (setF j S R) := by
  revert h
  refine lt14 (P := fun j => j ≠ k → setF j S (setF k T R) = setF k T (setF j S R)) ?_ j hj
  refine ⟨?_, ?_, ?_, ?_, ?_, ?_, ?_, ?_, ?_, ?_, ?_, ?_, ?_, ?_⟩
  · exact lt14 (P := fun k => 0 ≠ k → setF 0 S (setF k T R) = setF k T (setF 0 S R)) (by refine ⟨?_, ?_, ?_, ?_, ?_, ?_, ?_, ?_, ?_, ?_, ?_, ?_, ?_, ?_⟩ <;> intro h <;> first | rfl | exact absurd rfl h) k hk
  · exact lt14 (P := fun k => 1 ≠ k → setF 1 S (setF k T R) = setF k T (setF 1 S R)) (by refine ⟨?_, ?_, ?_, ?_, ?_, ?_, ?_, ?_, ?_, ?_, ?_, ?_, ?_, ?_⟩ <;> intro h <;> first | rfl | exact absurd rfl h) k hk
  · exact lt14 (P := fun k => 2 ≠ k → setF 2 S (setF k T R) = setF k T (setF 2 S R)) (by refine ⟨?_, ?_, ?_, ?_, ?_, ?_, ?_, ?_, ?_, ?_, ?_, ?_, ?_, ?_⟩ <;> intro h <;> first | rfl | exact absurd rfl h) k hk
  · exact lt14 (P := fun k => 3 ≠ k → setF 3 S (setF k T R) = setF k T (setF 3 S R)) (by refine ⟨?_, ?_, ?_, ?_, ?_, ?_, ?_, ?_, ?_, ?_, ?_, ?_, ?_, ?_⟩ <;> intro h <;> first | rfl | exact absurd rfl h) k hk
  · exact lt14 (P := fun k => 4 ≠ k → setF 4 S (setF k T R) = setF k T (setF 4 S R)) (by refine ⟨?_, ?_, ?_, ?_, ?_, ?_, ?_, ?_, ?_, ?_, ?_, ?_, ?_, ?_⟩ <;> intro h <;> first | rfl | exact absurd rfl h) k hk
  · exact lt14 (P := fun k => 5 ≠ k → setF 5 S (setF k T R) = setF k T (setF 5 S R)) (by refine ⟨?_, ?_, ?_, ?_, ?_, ?_, ?_, ?_, ?_, ?_, ?_, ?_, ?_, ?_⟩ <;> intro h <;> first | rfl | exact absurd rfl h) k hk
  · exact lt14 (P := fun k => 6 ≠ k → setF 6 S (setF k T R) = setF k T (setF 6 S R)) (by refine ⟨?_, ?_, ?_, ?_, ?_, ?_, ?_, ?_, ?_, ?_, ?_, ?_, ?_, ?_⟩ <;> intro h <;> first | rfl | exact absurd rfl h) k hk
  · exact lt14 (P := fun k => 7 ≠ k → setF 7 S (setF k T R) = setF k T (setF 7 S R)) (by refine ⟨?_, ?_, ?_, ?_, ?_, ?_, ?_, ?_, ?_, ?_, ?_, ?_, ?_, ?_⟩ <;> intro h <;> first | rfl | exact absurd rfl h) k hk
  · exact lt14 (P := fun k => 8 ≠ k → setF 8 S (setF k T R) = setF k T (setF 8 S R)) (by refine ⟨?_, ?_, ?_, ?_, ?_, ?_, ?_, ?_, ?_, ?_, ?_, ?_, ?_, ?_⟩ <;> intro h <;> first | rfl | exact absurd rfl h) k hk
  · exact lt14 (P := fun k => 9 ≠ k → setF 9 S (setF k T R) = setF k T (setF 9 S R)) (by refine ⟨?_, ?_, ?_, ?_, ?_, ?_, ?_, ?_, ?_, ?_, ?_, ?_, ?_, ?_⟩ <;> intro h <;> first | rfl | exact absurd rfl h) k hk
  · exact lt14 (P := fun k => 10 ≠ k → setF 10 S (setF k T R) = setF k T (setF 10 S R)) (by refine ⟨?_, ?_, ?_, ?_, ?_, ?_, ?_, ?_, ?_, ?_, ?_, ?_, ?_, ?_⟩ <;> intro h <;> first | rfl | exact absurd rfl h) k hk
  · exact lt14 (P := fun k => 11 ≠ k → setF 11 S (setF k T R) = setF k T (setF 11 S R)) (by refine ⟨?_, ?_, ?_, ?_, ?_, ?_, ?_, ?_, ?_, ?_, ?_, ?_, ?_, ?_⟩ <;> intro h <;> first | rfl | exact absurd rfl h) k hk
  · exact lt14 (P := fun k => 12 ≠ k → setF 12 S (setF k T R) = setF k T (setF 12 S R)) (by refine ⟨?_, ?_, ?_, ?_, ?_, ?_, ?_, ?_, ?_, ?_, ?_, ?_, ?_, ?_⟩ <;> intro h <;> first | rfl | exact absurd rfl h) k hk
  · exact lt14 (P := fun k => 13 ≠ k → setF 13 S (setF k T R) = setF k T (setF 13 S R)) (by refine ⟨?_, ?_, ?_, ?_, ?_, ?_, ?_, ?_, ?_, ?_, ?_, ?_, ?_, ?_⟩ <;> intro h <;> first | rfl | exact absurd rfl h) k hk
theorem plW_inj {l : List (List UInt8)} {a b : List UInt8} (ha : plW l a ≠ 0) (h : plW l a = plW l b) : a = b := by
  unfold plW at ha h
  split at h
  · rename_i m1
    split at h
    · rename_i m2
      have e : l.idxOf a = l.idxOf b := by omega
      have h1 := List.getElem_idxOf (List.idxOf_lt_length_iff.2 m1)
      have h2 := List.getElem_idxOf (List.idxOf_lt_length_iff.2 m2)
      rw [← h1, ← h2]
      congr 1
    · omega
  · rename_i m1
    rw [if_neg m1] at ha
    exact absurd rfl ha
/-- Part, in one line: the name's place and what the value says. -/
theorem prtZ_ok {untZ : List UInt8 → Option Int} {nm v : List UInt8} {R R' : RecD} (h : prtZ untZ nm v R = .ok R') :
    ∃ k S, k < 14 ∧ plW ptW nm = k + 1 ∧ R' = setF k S R ∧ ∀ Q, prtZ untZ nm v Q = .ok (setF k S Q) := by
  have hle := plW_le ptW nm
  have h14 : ptW.length = 14 := rfl
  unfold prtZ at h
  split at h
  · cases h
  · rename_i h0
    obtain ⟨k, hk⟩ : ∃ k, plW ptW nm = k + 1 := ⟨plW ptW nm - 1, by omega⟩
    rw [hk, show k + 1 - 1 = k by omega, partZ_set untZ v R k (by omega)] at h
    cases e : partZ untZ k v RecD.zero with
    | none => rw [e] at h; cases h
    | some S =>
      rw [e] at h
      simp only [Option.map_some] at h
      injection h with h
      refine ⟨k, S, by omega, hk, h.symm, fun Q => ?_⟩
      unfold prtZ
      rw [hk, if_neg (by omega), show k + 1 - 1 = k by omega, partZ_set untZ v Q k (by omega), e]
      rfl
/-- The same part twice changes nothing more. -/
theorem prtZ_twice {untZ : List UInt8 → Option Int} {nm v : List UInt8} {R R' : RecD} (h : prtZ untZ nm v R = .ok R') : prtZ untZ nm v R' = .ok R' := by
  obtain ⟨k, S, k14, -, rfl, hq⟩ := prtZ_ok h
  rw [hq, setF_idem S R k k14]
/-- Parts of different names may be set in any order. -/
theorem prtZ_comm {untZ : List UInt8 → Option Int} {n1 v1 n2 v2 : List UInt8} {R A B : RecD} (hn : n1 ≠ n2) (h1 : prtZ untZ n1 v1 R = .ok A) (h2 : prtZ untZ n2 v2 R = .ok B) :
    ∃ C, prtZ untZ n2 v2 A = .ok C ∧ prtZ untZ n1 v1 B = .ok C := by
  obtain ⟨k, S, k14, kp, rfl, hq⟩ := prtZ_ok h1
  obtain ⟨j, T, j14, jp, rfl, hr⟩ := prtZ_ok h2
  have hjk : j ≠ k := fun e => hn (plW_inj (l := ptW) (a := n1) (b := n2) (by omega) (by omega))
  exact ⟨_, hr _, by rw [hq, setF_comm T S R j k j14 k14 hjk]⟩
/-- One field alone may have changed. -/
theorem prtZ_field {untZ : List UInt8 → Option Int} {nm v : List UInt8} {R R' : RecD} (h : prtZ untZ nm v R = .ok R') : ∃ k, k < 14 ∧ ∀ j, j < 14 → j ≠ k → fEq j R' R := by
  obtain ⟨k, S, k14, -, rfl, -⟩ := prtZ_ok h
  exact ⟨k, k14, fun j hj hjk => fEq_other S R j k hj k14 hjk⟩
end Go.Proofs.YtgndogpgfgliaaaGreatDoor
/- Recurrence rules, plainly: a part that occurs twice is an error; equal texts belong to equal rules. No program in sight. -/
namespace Go.Proofs.YtgndogpgfgliaaaGreatDoor
set_option linter.unusedVariables false
set_option linter.unnecessarySimpa false
set_option linter.unusedSimpArgs false
open Go.RowKit

section
variable {untZ : List UInt8 → Option Int} {momT : Int → List UInt8} {R : RecD} (h : RdOk untZ momT R)
include h
/-- The parts read, what follows. -/
theorem run_tl_ks (vld : RecD → Bool) (tl : List (List UInt8)) : ∀ (ks : List Nat) (seen : List (List UInt8)) (Q : RecD), ks.Nodup → (∀ k ∈ ks, k < 14 ∧ wrtZ momT k R ≠ [] ∧ ptW.getD k [] ∉ seen) →
    runZ untZ vld (ks.map (ptxZ momT R) ++ tl) seen Q = runZ untZ vld tl ((ks.map fun k => ptW.getD k []).reverse ++ seen) (setFs R ks Q)
  | [], seen, Q, _, _ => rfl
  | k :: ks, seen, Q, hn, hk => by
    obtain ⟨k14, kw, ks0⟩ := hk k (by simp)
    obtain ⟨e1, e2, e3⟩ := pt_at k k14
    have hc : Lib.cut (ptxZ momT R k) [61] = (ptW.getD k [], wrtZ momT k R, true) := uCut_at 61 _ _ e3
    rw [List.map_cons, List.cons_append, runZ_cons, hc, if_neg (by simp)]
    have hp : prtZ untZ (ptW.getD k []) (wrtZ momT k R) Q = .ok (setF k R Q) := by
      unfold prtZ
      rw [e1, if_neg (by omega), show k + 1 - 1 = k by omega, part_rd h k k14 Q kw]
    simp only [hp]
    rw [if_neg ks0, run_tl_ks vld tl ks _ _ (List.nodup_cons.1 hn).2 (fun j hj => ?_), setFs]
    · simp
    · obtain ⟨j1, j2, j3⟩ := hk j (List.mem_cons_of_mem _ hj)
      refine ⟨j1, j2, fun q => ?_⟩
      rcases List.mem_cons.1 q with q | q
      · have := pt_inj j1 k14 q
        subst this
        exact (List.nodup_cons.1 hn).1 hj
      · exact j3 q
theorem ptx_cl (k : Nat) (k14 : k < 14) : Cl 59 (ptxZ momT R k) := by
  intro x hx
  unfold ptxZ at hx
  rcases List.mem_append.1 hx with q | q
  · exact (pt_at k k14).2.1 x q
  · rcases List.mem_cons.1 q with q | q
    · rw [q]; decide
    · exact wrt_cl h k k14 x q
/-- A part once more is an error. -/
theorem par_twice (vld : RecD → Bool) (ks : List Nat) (hn : ks.Nodup) (hk : ∀ k, k ∈ ks ↔ k < 14 ∧ wrtZ momT k R ≠ []) (j : Nat) (hj : j ∈ ks) (hl : (Lib.join (ks.map (ptxZ momT R)) [59] ++ 59 :: ptxZ momT R j).length ≤ 4000) :
    parZ untZ vld (Lib.join (ks.map (ptxZ momT R)) [59] ++ 59 :: ptxZ momT R j) = .er 8 := by
  obtain ⟨j14, jw⟩ := (hk j).1 hj
  have hne : ks.map (ptxZ momT R) ≠ [] := by
    cases ks with
    | nil => cases hj
    | cons a r => simp
  have hcl : ∀ a ∈ ks.map (ptxZ momT R), Cl 59 a := by
    intro a ha
    obtain ⟨k, hk0, rfl⟩ := List.mem_map.1 ha
    exact ptx_cl h k ((hk k).1 hk0).1
  have hs : spl 59 (Lib.join (ks.map (ptxZ momT R)) [59] ++ 59 :: ptxZ momT R j) = ks.map (ptxZ momT R) ++ [ptxZ momT R j] := by
    have gen : ∀ l : List (List UInt8), l ≠ [] → (∀ a ∈ l, Cl 59 a) → spl 59 (Lib.join l [59] ++ 59 :: ptxZ momT R j) = l ++ [ptxZ momT R j] := by
      intro l
      induction l with
      | nil => intro q; exact absurd rfl q
      | cons x r ih =>
        intro _ hc
        cases r with
        | nil => rw [Lib.join_one, uSpl_stp 59 _ x (hc x (by simp)), uSpl_no 59 _ (ptx_cl h j j14)]; rfl
        | cons y r =>
          have e : Lib.join (x :: y :: r) [59] = x ++ 59 :: Lib.join (y :: r) [59] := by rw [Lib.join_cons, Lib.join_cons]; simp [Lib.joinTail]
          rw [e, List.append_assoc, List.cons_append, uSpl_stp 59 _ x (hc x (by simp)), ih (by simp) (fun a ha => hc a (List.mem_cons_of_mem _ ha))]
          rfl
    exact gen _ hne hcl
  unfold parZ
  rw [if_neg (by omega), hs, run_tl_ks h vld _ ks [] RecD.start hn (fun k q => ⟨((hk k).1 q).1, ((hk k).1 q).2, by simp⟩)]
  obtain ⟨e1, e2, e3⟩ := pt_at j j14
  have hc : Lib.cut (ptxZ momT R j) [61] = (ptW.getD j [], wrtZ momT j R, true) := uCut_at 61 _ _ e3
  rw [runZ_cons, hc, if_neg (by simp)]
  have hp : prtZ untZ (ptW.getD j []) (wrtZ momT j R) (setFs R ks RecD.start) = .ok (setF j R (setFs R ks RecD.start)) := by
    unfold prtZ
    rw [e1, if_neg (by omega), show j + 1 - 1 = j by omega, part_rd h j j14 _ jw]
  simp only [hp]
  rw [if_pos]
  simp only [List.append_nil, List.mem_reverse, List.mem_map]
  exact ⟨j, hj, rfl⟩
end
/-- The text's parts. -/
theorem ks_nodup (momT : Int → List UInt8) (R : RecD) : (ksZ momT R).Nodup := List.Pairwise.filter _ List.nodup_range
theorem ks_mem (momT : Int → List UInt8) (R : RecD) (k : Nat) : k ∈ ksZ momT R ↔ k < 14 ∧ wrtZ momT k R ≠ [] := by
  unfold ksZ
  rw [List.mem_filter, List.mem_range, decide_eq_true_eq]
/-- The text of a rule is read as this rule. -/
theorem par_txt {untZ : List UInt8 → Option Int} {momT : Int → List UInt8} {R : RecD} (h : RdOk untZ momT R) (vld : RecD → Bool) (hm : R.un ≠ 0 → momT R.un ≠ []) (hl : (txtZ momT R).length ≤ 4000) :
    parZ untZ vld (txtZ momT R) = if vld R = true then .ok R else .er 1 := par_ks h vld hm _ (ks_nodup momT R) (ks_mem momT R) hl
/-- Equal texts belong to equal rules. -/
theorem txt_inj {untZ : List UInt8 → Option Int} {momT : Int → List UInt8} {R S : RecD} (h : RdOk untZ momT R) (k : RdOk untZ momT S) (hm : R.un ≠ 0 → momT R.un ≠ []) (km : S.un ≠ 0 → momT S.un ≠ []) (hl : (txtZ momT R).length ≤ 4000) (e : txtZ momT R = txtZ momT S) : R = S := by
  have h1 := par_txt h (fun _ => true) hm hl
  have h2 := par_txt k (fun _ => true) km (by rw [← e]; exact hl)
  rw [if_pos rfl] at h1 h2
  rw [e, h2] at h1
  injection h1 with h1
  exact h1.symm
end Go.Proofs.YtgndogpgfgliaaaGreatDoor
/- Recurrence rules, plainly: which are valid; a valid rule's text is read again, and is short. No program in sight. -/
namespace Go.Proofs.YtgndogpgfgliaaaGreatDoor
set_option linter.unusedVariables false
set_option linter.unnecessarySimpa false
set_option linter.unusedSimpArgs false
open Go.RowKit

/-- One number is put into an ascending list. -/
def insZ (x : Int) : List Int → List Int
  | [] => [x]
  | y :: r => if y < x then y :: insZ x r else if y = x then y :: r else x :: y :: r
/-- A list's elements, ascending, each of them once, put in behind those of another. -/
def setZ : List Int → List Int → List Int
  | out, [] => out
  | out, x :: r => setZ (insZ x out) r
/-- How many different numbers a list has; other, if it is empty. -/
def ndZ (l : List Int) : Nat := (setZ [] l).length
def cntZ (l : List Int) (other : Nat) : Nat := if l = [] then other else ndZ l
def inZ (lo hi : Int) (sg : Bool) (n : Int) : Bool := decide ((lo ≤ n ∧ n ≤ hi) ∨ (sg = true ∧ -hi ≤ n ∧ n ≤ -lo))
def btwZ (l : List Int) (lo hi : Int) (sg : Bool) : Bool := decide (l.length ≤ 60) && l.all (inZ lo hi sg)
def locZ (l : Int) : Bool := decide (-62135596800 ≤ l ∧ l < 253402300800)
def dayV (fr : Int) (o : Int × Int) : Bool := decide (1 ≤ o.2 ∧ o.2 ≤ 7 ∧ -53 ≤ o.1 ∧ o.1 ≤ 53 ∧ (o.1 = 0 ∨ fr = 1 ∨ fr = 2))
def numbV (R : RecD) : Bool := decide (1 ≤ R.fr ∧ R.fr ≤ 5 ∧ 1 ≤ R.iv ∧ R.iv ≤ 1000 ∧ 0 ≤ R.ct ∧ R.ct ≤ 1000 ∧ (R.un = 0 ∨ (locZ R.un = true ∧ R.ct = 0)) ∧ 1 ≤ R.ws ∧ R.ws ≤ 7)
def lstV (R : RecD) : Bool := btwZ R.mo 1 12 false && btwZ R.md 1 31 true && btwZ R.yd 1 366 true && btwZ R.wk 1 53 true && btwZ R.ho 0 23 false && btwZ R.mi 0 59 false && btwZ R.se 0 59 false && btwZ R.po 1 366 true
def tmsV (R : RecD) : Nat := cntZ R.ho (if R.fr = 5 then 24 else 1) * cntZ R.mi 1 * cntZ R.se 1
/-- THE VALID RULES. -/
def vldR (R : RecD) : Bool := numbV R && lstV R && decide (R.wk = [] ∨ R.fr = 1) && decide (R.da.length ≤ 60) && R.da.all (dayV R.fr) && decide (tmsV R ≤ 1440)
/-- What the moments' texts promise. -/
structure MomOk (untZ : List UInt8 → Option Int) (momT : Int → List UInt8) : Prop where
  rd : ∀ t, locZ t = true → untZ (momT t) = some t
  cl : ∀ t, locZ t = true → Cl 59 (momT t)
  len : ∀ t, locZ t = true → (momT t).length = 19
theorem btw_in {l : List Int} {lo hi : Int} {sg : Bool} (h : btwZ l lo hi sg = true) (h0 : 0 ≤ lo) (h1 : hi ≤ 999) : l.length ≤ 60 ∧ ∀ n ∈ l, -999 ≤ n ∧ n ≤ 999 := by
  unfold btwZ at h
  rw [Bool.and_eq_true, decide_eq_true_eq, List.all_eq_true] at h
  refine ⟨h.1, fun n hn => ?_⟩
  have := h.2 n hn
  unfold inZ at this
  rw [decide_eq_true_eq] at this
  omega
theorem lst_in {R : RecD} (h : lstV R = true) : ∀ l, (l = R.mo ∨ l = R.md ∨ l = R.yd ∨ l = R.wk ∨ l = R.ho ∨ l = R.mi ∨ l = R.se ∨ l = R.po) → l.length ≤ 60 ∧ ∀ n ∈ l, -999 ≤ n ∧ n ≤ 999 := by
  unfold lstV at h
  simp only [Bool.and_eq_true] at h
  obtain ⟨⟨⟨⟨⟨⟨⟨h1, h2⟩, h3⟩, h4⟩, h5⟩, h6⟩, h7⟩, h8⟩ := h
  rintro l (rfl | rfl | rfl | rfl | rfl | rfl | rfl | rfl)
  · exact btw_in h1 (by decide) (by decide)
  · exact btw_in h2 (by decide) (by decide)
  · exact btw_in h3 (by decide) (by decide)
  · exact btw_in h4 (by decide) (by decide)
  · exact btw_in h5 (by decide) (by decide)
  · exact btw_in h6 (by decide) (by decide)
  · exact btw_in h7 (by decide) (by decide)
  · exact btw_in h8 (by decide) (by decide)
theorem vld_parts30 {R : RecD} (h : vldR R = true) : numbV R = true ∧ lstV R = true ∧ (R.wk = [] ∨ R.fr = 1) ∧ R.da.length ≤ 60 ∧ (∀ o ∈ R.da, dayV R.fr o = true) ∧ tmsV R ≤ 1440 := by
  unfold vldR at h
  simp only [Bool.and_eq_true, decide_eq_true_eq, List.all_eq_true] at h
  obtain ⟨⟨⟨⟨⟨h1, h2⟩, h3⟩, h4⟩, h5⟩, h6⟩ := h
  exact ⟨h1, h2, h3, h4, h5, h6⟩
theorem dayV_ok {fr : Int} {o : Int × Int} (h : dayV fr o = true) : 1 ≤ o.2 ∧ o.2 ≤ 7 ∧ -53 ≤ o.1 ∧ o.1 ≤ 53 := by
  unfold dayV at h
  rw [decide_eq_true_eq] at h
  exact ⟨h.1, h.2.1, h.2.2.1, h.2.2.2.1⟩
theorem vld_rd {untZ : List UInt8 → Option Int} {momT : Int → List UInt8} (hM : MomOk untZ momT) {R : RecD} (h : vldR R = true) : RdOk untZ momT R ∧ (R.un ≠ 0 → momT R.un ≠ []) := by
  obtain ⟨h1, h2, h3, h4, h5, h6⟩ := vld_parts30 h
  unfold numbV at h1
  rw [decide_eq_true_eq] at h1
  obtain ⟨a1, a2, a3, a4, a5, a6, a7, a8, a9⟩ := h1
  have hu : R.un ≠ 0 → locZ R.un = true := fun e => by
    rcases a7 with q | q
    · exact absurd q e
    · exact q.1
  refine ⟨⟨⟨a1, a2⟩, by omega, by omega, fun e => ⟨hM.rd _ (hu e), hM.cl _ (hu e)⟩, fun l hl n hn => ?_, fun o ho => ?_, ⟨a8, a9⟩⟩, fun e q => ?_⟩
  · have := (lst_in h2 l hl).2 n hn; omega
  · have := dayV_ok (h5 o ho)
    exact ⟨by omega, by omega, by omega, by omega⟩
  · have := hM.len _ (hu e)
    rw [q] at this
    cases this
theorem uJoin_sum (c : UInt8) {α : Type} (f : α → List UInt8) : ∀ l : List α, (Lib.join (l.map f) [c]).length ≤ (l.map fun k => (f k).length + 1).sum
  | [] => by simp [Lib.join]
  | [x] => by rw [List.map_cons, List.map_nil, Lib.join_one]; simp
  | x :: y :: r => by
    have ih := uJoin_sum c f (y :: r)
    have e : Lib.join ((x :: y :: r).map f) [c] = f x ++ c :: Lib.join ((y :: r).map f) [c] := by simp only [List.map_cons]; rw [Lib.join_cons, Lib.join_cons]; simp [Lib.joinTail]
    have e2 : ((x :: y :: r).map fun k => (f k).length + 1).sum = ((f x).length + 1) + ((y :: r).map fun k => (f k).length + 1).sum := rfl
    rw [e, List.length_append, List.length_cons, e2]
    omega
theorem sum_le {α : Type} (f g : α → Nat) : ∀ l : List α, (∀ x ∈ l, f x ≤ g x) → (l.map f).sum ≤ (l.map g).sum
  | [], _ => Nat.le_refl _
  | x :: r, h => by
    have ih := sum_le f g r (fun y hy => h y (by simp [hy]))
    have := h x (by simp)
    simp only [List.map_cons, List.sum_cons]
    omega
theorem sum_filter {α : Type} (p : α → Bool) (f : α → Nat) : ∀ l : List α, ((l.filter p).map f).sum ≤ (l.map f).sum
  | [] => Nat.le_refl _
  | x :: r => by
    have ih := sum_filter p f r
    rw [List.filter_cons]
    split
    · simp only [List.map_cons, List.sum_cons]; omega
    · simp only [List.map_cons, List.sum_cons]; omega
theorem decZ_len {n : Int} (k : Nat) (hk : 1 ≤ k) (h : n.natAbs < 10 ^ k) : (decZ n).length ≤ k + 1 := by
  have h1 := nDigits_le hk h
  have h2 : (itx n.natAbs 1).length ≤ k := by
    unfold itx
    rw [padN_length]
    omega
  unfold decZ
  split
  · rw [List.length_cons]; omega
  · omega
theorem numsT_len {l : List Int} (h : l.length ≤ 60) (h2 : ∀ n ∈ l, -999 ≤ n ∧ n ≤ 999) : (numsT l).length ≤ 300 := by
  unfold numsT
  refine Nat.le_trans (uJoin_sum 44 decZ l) ?_
  refine Nat.le_trans (sum_le _ (fun _ => 5) l (fun n hn => ?_)) ?_
  · have := h2 n hn
    have := decZ_len (n := n) 3 (by decide) (by omega)
    omega
  · rw [List.map_const', List.sum_replicate_nat]
    omega
theorem daysT_len {fr : Int} {l : List (Int × Int)} (h : l.length ≤ 60) (h2 : ∀ o ∈ l, dayV fr o = true) : (daysT l).length ≤ 420 := by
  unfold daysT
  refine Nat.le_trans (uJoin_sum 44 dayT l) ?_
  refine Nat.le_trans (sum_le _ (fun _ => 7) l (fun o ho => ?_)) ?_
  · have hd := dayV_ok (h2 o ho)
    have h3 := decZ_len (n := o.1) 3 (by decide) (by omega)
    have h4 := (wk_at (o.2 - 1).toNat (by omega)).1
    unfold dayT
    rw [List.length_append, h4]
    split
    · simp
    · omega
  · rw [List.map_const', List.sum_replicate_nat]
    omega
def bndZ : Nat → Nat
  | 0 => 7 | 1 => 5 | 2 => 5 | 3 => 19 | 8 => 420 | 13 => 2 | _ => 300
theorem wrt_len {untZ : List UInt8 → Option Int} {momT : Int → List UInt8} (hM : MomOk untZ momT) {R : RecD} (h : vldR R = true) (k : Nat) (hk : k < 14) : (wrtZ momT k R).length ≤ bndZ k := by
  obtain ⟨h1, h2, h3, h4, h5, h6⟩ := vld_parts30 h
  have hrd := (vld_rd hM h).1
  unfold numbV at h1
  rw [decide_eq_true_eq] at h1
  obtain ⟨a1, a2, a3, a4, a5, a6, a7, a8, a9⟩ := h1
  have hl : ∀ l, (l = R.mo ∨ l = R.md ∨ l = R.yd ∨ l = R.wk ∨ l = R.ho ∨ l = R.mi ∨ l = R.se ∨ l = R.po) → (numsT l).length ≤ 300 := fun l q => numsT_len (lst_in h2 l q).1 (lst_in h2 l q).2
  refine lt14 (P := fun k => (wrtZ momT k R).length ≤ bndZ k) ?_ k hk
  refine ⟨?_, ?_, ?_, ?_, hl R.mo (by simp), hl R.wk (by simp), hl R.yd (by simp), hl R.md (by simp), ?_, hl R.ho (by simp), hl R.mi (by simp), hl R.se (by simp), hl R.po (by simp), ?_⟩
  · show (if R.fr = 0 then [] else frW.getD (R.fr - 1).toNat []).length ≤ 7
    have : ∀ k, k < 5 → (frW.getD k []).length ≤ 7 := by decide
    rw [if_neg (by omega)]
    exact this _ (by omega)
  · show (if R.iv = 1 then [] else decZ R.iv).length ≤ 5
    split
    · simp
    · exact decZ_len 4 (by decide) (by omega)
  · show (if R.ct = 0 then [] else decZ R.ct).length ≤ 5
    split
    · simp
    · exact decZ_len 4 (by decide) (by omega)
  · show (if R.un = 0 then [] else momT R.un).length ≤ 19
    split
    · simp
    · rename_i e
      rcases a7 with q | q
      · exact absurd q e
      · exact Nat.le_of_eq (hM.len _ q.1)
  · show (daysTx R.da).length ≤ 420
    rw [daysTx_ok hrd.da]
    exact daysT_len h4 h5
  · show (if R.ws = 1 then [] else wkW.getD (R.ws - 1).toNat []).length ≤ 2
    split
    · simp
    · exact Nat.le_of_eq (wk_at _ (by omega)).1
/-- A valid rule's text is short. -/
theorem txt_len {untZ : List UInt8 → Option Int} {momT : Int → List UInt8} (hM : MomOk untZ momT) {R : RecD} (h : vldR R = true) : (txtZ momT R).length ≤ 3100 := by
  unfold txtZ
  refine Nat.le_trans (uJoin_sum 59 (ptxZ momT R) _) ?_
  unfold ksZ
  refine Nat.le_trans (sum_filter _ _ _) ?_
  refine Nat.le_trans (sum_le _ (fun k => 12 + bndZ k) _ (fun k hk => ?_)) (by decide)
  have hk := List.mem_range.1 hk
  have h1 := wrt_len hM h k hk
  have h2 : ∀ k, k < 14 → (ptW.getD k []).length ≤ 10 := by decide
  have h3 := h2 k hk
  unfold ptxZ
  rw [List.length_append, List.length_cons]
  omega
end Go.Proofs.YtgndogpgfgliaaaGreatDoor
/- The calendar's plain arithmetic: leap years, lengths of months, the number of a day; no program in sight. -/
namespace Go.Proofs.YtgndogpgfgliaaaGreatDoor

def yrB (y : Int) : Bool := decide (1 ≤ y ∧ y ≤ 9999)
def lpB (y : Int) : Bool := decide (y % 4 = 0 ∧ (y % 100 ≠ 0 ∨ y % 400 = 0))
def lp (y : Int) : Int := if lpB y then 1 else 0
def mlen (y m : Int) : Int :=
  if 1 ≤ y ∧ y ≤ 9999 ∧ 1 ≤ m ∧ m ≤ 12 then (if m = 2 then 28 + lp y else if m = 4 ∨ m = 6 ∨ m = 9 ∨ m = 11 then 30 else 31) else 0
def vldB (y m d : Int) : Bool := decide (1 ≤ d ∧ d ≤ mlen y m)
def cum (y m : Int) : Int :=
  if m ≤ 1 then 0 else if m = 2 then 31 else if m = 3 then 59 + lp y else if m = 4 then 90 + lp y else if m = 5 then 120 + lp y else if m = 6 then 151 + lp y
  else if m = 7 then 181 + lp y else if m = 8 then 212 + lp y else if m = 9 then 243 + lp y else if m = 10 then 273 + lp y else if m = 11 then 304 + lp y
  else if m = 12 then 334 + lp y else 365 + lp y
def yd (y : Int) : Int := -719162 + 365 * (y - 1) + (y - 1) / 4 - (y - 1) / 100 + (y - 1) / 400
/-- The number of the day of a date. -/
def dn (y m d : Int) : Int := yd y + cum y m + d - 1
/-- What the program's function 'count' computes. -/
def cnt (y m d : Int) : Int :=
  if m ≤ 2 then 365 * (y - 1) + (y - 1) / 4 - (y - 1) / 100 + (y - 1) / 400 + (153 * (m + 12 - 3) + 2) / 5 + d - 307 + -719162
  else 365 * y + y / 4 - y / 100 + y / 400 + (153 * (m - 3) + 2) / 5 + d - 307 + -719162

theorem lp_01 (y : Int) : 0 ≤ lp y ∧ lp y ≤ 1 := by unfold lp; split <;> omega
theorem lp_eq (y : Int) : lp y = y / 4 - (y - 1) / 4 - (y / 100 - (y - 1) / 100) + (y / 400 - (y - 1) / 400) := by
  unfold lp lpB
  split <;> rename_i h <;> simp at h <;> omega
theorem m12 {m : Int} (h1 : 1 ≤ m) (h2 : m ≤ 12) : m = 1 ∨ m = 2 ∨ m = 3 ∨ m = 4 ∨ m = 5 ∨ m = 6 ∨ m = 7 ∨ m = 8 ∨ m = 9 ∨ m = 10 ∨ m = 11 ∨ m = 12 := by omega
theorem cnt_eq (y m d : Int) (h1 : 1 ≤ m) (h2 : m ≤ 12) : cnt y m d = dn y m d := by
  have h := lp_eq y
  rcases m12 h1 h2 with rfl | rfl | rfl | rfl | rfl | rfl | rfl | rfl | rfl | rfl | rfl | rfl <;>
    simp [cnt, dn, yd, cum] <;> omega
theorem cum_succ (y m : Int) (hy : 1 ≤ y) (hy2 : y ≤ 9999) (h1 : 1 ≤ m) (h2 : m ≤ 12) : cum y (m + 1) = cum y m + mlen y m := by
  rcases m12 h1 h2 with rfl | rfl | rfl | rfl | rfl | rfl | rfl | rfl | rfl | rfl | rfl | rfl <;>
    simp [cum, mlen, hy, hy2] <;> omega
theorem cum13 (y : Int) : cum y 13 = 365 + lp y := by simp [cum]
theorem cum1 (y : Int) : cum y 1 = 0 := by simp [cum]
theorem yd_succ (y : Int) : yd (y + 1) = yd y + 365 + lp y := by
  have h := lp_eq y
  unfold yd
  rw [show y + 1 - 1 = y from by omega]
  omega
theorem yd_bd (y : Int) (h1 : 1 ≤ y) (h2 : y ≤ 10000) : -719162 ≤ yd y ∧ yd y ≤ 2932897 := by unfold yd; omega
theorem mlen_bd (y m : Int) : 0 ≤ mlen y m ∧ mlen y m ≤ 31 := by
  have h := lp_01 y
  unfold mlen
  split
  · split
    · omega
    · split <;> omega
  · omega
theorem mlen_pos (y m : Int) (hy : 1 ≤ y) (hy2 : y ≤ 9999) (h1 : 1 ≤ m) (h2 : m ≤ 12) : 28 ≤ mlen y m := by
  have h := lp_01 y
  unfold mlen
  rw [if_pos ⟨hy, hy2, h1, h2⟩]
  split
  · omega
  · split <;> omega
theorem mlen_zero (y m : Int) (h : ¬ (1 ≤ y ∧ y ≤ 9999 ∧ 1 ≤ m ∧ m ≤ 12)) : mlen y m = 0 := by unfold mlen; rw [if_neg h]
theorem cum_bd (y m : Int) (h1 : 1 ≤ m) (h2 : m ≤ 13) : 0 ≤ cum y m ∧ cum y m ≤ 365 + lp y := by
  have h := lp_01 y
  have : m = 1 ∨ m = 2 ∨ m = 3 ∨ m = 4 ∨ m = 5 ∨ m = 6 ∨ m = 7 ∨ m = 8 ∨ m = 9 ∨ m = 10 ∨ m = 11 ∨ m = 12 ∨ m = 13 := by omega
  rcases this with rfl | rfl | rfl | rfl | rfl | rfl | rfl | rfl | rfl | rfl | rfl | rfl | rfl <;> simp [cum] <;> omega

theorem vld_iff {y m d : Int} : vldB y m d = true ↔ 1 ≤ d ∧ d ≤ mlen y m := by unfold vldB; simp
theorem vld_parts {y m d : Int} (h : vldB y m d = true) : 1 ≤ y ∧ y ≤ 9999 ∧ 1 ≤ m ∧ m ≤ 12 ∧ 1 ≤ d ∧ d ≤ 31 ∧ d ≤ mlen y m := by
  have h := vld_iff.1 h
  have h2 := mlen_bd y m
  by_cases c : 1 ≤ y ∧ y ≤ 9999 ∧ 1 ≤ m ∧ m ≤ 12
  · exact ⟨c.1, c.2.1, c.2.2.1, c.2.2.2, h.1, by omega, h.2⟩
  · rw [mlen_zero y m c] at h; omega

theorem cum_mono (y a b : Int) (h1 : 1 ≤ a) (h2 : a ≤ b) (h3 : b ≤ 13) (hy : 1 ≤ y) (hy2 : y ≤ 9999) : cum y a ≤ cum y b := by
  obtain ⟨n, hn⟩ : ∃ n : Nat, b = a + n := ⟨(b - a).toNat, by omega⟩
  subst hn
  induction n with
  | zero => simp
  | succ n ih =>
    have := ih (by omega) (by omega)
    have h := cum_succ y (a + n) hy hy2 (by omega) (by omega)
    have := mlen_bd y (a + n)
    rw [show a + ((n + 1 : Nat) : Int) = a + (n : Int) + 1 from by omega, h]
    omega
theorem yd_mono (a b : Int) (h : a ≤ b) : yd a ≤ yd b := by
  obtain ⟨n, hn⟩ : ∃ n : Nat, b = a + n := ⟨(b - a).toNat, by omega⟩
  subst hn
  induction n with
  | zero => simp
  | succ n ih =>
    have := ih (by omega)
    have h := yd_succ (a + n)
    have := lp_01 (a + n)
    rw [show a + ((n + 1 : Nat) : Int) = a + (n : Int) + 1 from by omega, h]
    omega
theorem yd_lt (a b : Int) (h : a < b) : yd a + 365 + lp a ≤ yd b := by
  have := yd_mono (a + 1) b (by omega)
  rw [yd_succ] at this
  exact this
/-- A date lies in its year, and in its month. -/
theorem dn_in {y m d : Int} (h : vldB y m d = true) : yd y + cum y m ≤ dn y m d ∧ dn y m d < yd y + cum y (m + 1) ∧ dn y m d < yd (y + 1) ∧ yd y ≤ dn y m d := by
  obtain ⟨a, b, c, e, f, _, g⟩ := vld_parts h
  have h1 := cum_succ y m a b c e
  have h2 := cum_mono y (m + 1) 13 (by omega) (by omega) (by omega) a b
  have h3 := cum_bd y m c (by omega)
  rw [cum13] at h2
  have h4 := yd_succ y
  unfold dn
  omega
theorem dn_bd {y m d : Int} (h : vldB y m d = true) : -719162 ≤ dn y m d ∧ dn y m d < 2932897 := by
  obtain ⟨a, b, c, e, f, _, g⟩ := vld_parts h
  have h1 := dn_in h
  have h2 := yd_bd y a (by omega)
  have h3 := yd_bd (y + 1) (by omega) (by omega)
  omega
theorem dn_inj {y m d y' m' d' : Int} (h : vldB y m d = true) (h' : vldB y' m' d' = true) (e : dn y m d = dn y' m' d') : y = y' ∧ m = m' ∧ d = d' := by
  obtain ⟨a, b, c, f, g, _, i⟩ := vld_parts h
  obtain ⟨a', b', c', f', g', _, i'⟩ := vld_parts h'
  have p := dn_in h
  have p' := dn_in h'
  have ey : y = y' := by
    rcases Int.lt_trichotomy y y' with q | q | q
    · have := yd_mono (y + 1) y' (by omega); omega
    · exact q
    · have := yd_mono (y' + 1) y (by omega); omega
  subst ey
  have em : m = m' := by
    rcases Int.lt_trichotomy m m' with q | q | q
    · have := cum_mono y (m + 1) m' (by omega) (by omega) (by omega) a b; omega
    · exact q
    · have := cum_mono y (m' + 1) m (by omega) (by omega) (by omega) a b; omega
  subst em
  refine ⟨rfl, rfl, ?_⟩
  unfold dn at e
  omega
/-- The date y m d is the one of the day n. -/
def IsDate (n y m d : Int) : Prop := vldB y m d = true ∧ dn y m d = n
theorem IsDate.inj {n y m d y' m' d' : Int} (h : IsDate n y m d) (h' : IsDate n y' m' d') : y = y' ∧ m = m' ∧ d = d' :=
  dn_inj h.1 h'.1 (h.2.trans h'.2.symm)
theorem IsDate.of {n y m : Int} (hy : 1 ≤ y) (hy2 : y ≤ 9999) (hm : 1 ≤ m) (hm2 : m ≤ 12) (h1 : yd y + cum y m ≤ n) (h2 : n < yd y + cum y (m + 1)) :
    IsDate n y m (n - (yd y + cum y m) + 1) := by
  have := cum_succ y m hy hy2 hm hm2
  refine ⟨vld_iff.2 ⟨by omega, by omega⟩, by unfold dn; omega⟩
end Go.Proofs.YtgndogpgfgliaaaGreatDoor
