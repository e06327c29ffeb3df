/- The texts of durations, read plainly: as the program reads them, and as the reference does; that the two agree. -/
import Derived.Test.YtplckoffiebibaaDoorNum
namespace Go.Proofs.YtplckoffiebibaaDoor

/-- One part: what is left, and the value so far. -/
def tryP (c : UInt8) (u : Nat) (p : List UInt8 × Nat) : List UInt8 × Nat :=
  if 0 < dgN p.1 then (match rst p.1 with
    | [] => p
    | d :: r => if d = c then (r, p.2 + numV p.1 * u) else p) else p
/-- The parts of the time. -/
def tailP (s : List UInt8) (V : Nat) : Option Nat :=
  let q := tryP 83 1 (tryP 77 60 (tryP 72 3600 (s, V)))
  if q.1 = [] then some q.2 else none
/-- Behind the letter P, as the program reads it. -/
def bodyP (s : List UInt8) : Option Nat :=
  let q := tryP 68 86400 (s, 0)
  match q.1 with
  | [] => some q.2
  | c :: r => if c = 84 ∧ r ≠ [] then tailP r q.2 else none

def unitOf (c : UInt8) (time : Bool) : Nat × Nat :=
  if c = 68 ∧ time = false then (86400, 1) else if c = 72 ∧ time = true then (3600, 2) else if c = 77 ∧ time = true then (60, 3) else if c = 83 ∧ time = true then (1, 4) else (0, 0)
/-- As the reference reads it. -/
def refP (time : Bool) (last : Nat) (opn : Bool) (V : Nat) (s : List UInt8) : Option Nat :=
  match _hs : s with
  | [] => if opn then none else some V
  | c :: r =>
    if c = 84 then (if time then none else refP true last true V r)
    else match _hr : rst (c :: r) with
      | [] => none
      | d :: r2 => if dgN (c :: r) = 0 then none else if (unitOf d time).2 ≤ last then none
          else refP time (unitOf d time).2 false (V + numV (c :: r) * (unitOf d time).1) r2
termination_by s.length
decreasing_by
  · simp
  · have h : (rst (c :: r)).length = r2.length + 1 := by rw [_hr]; rfl
    have : (rst (c :: r)).length ≤ (c :: r).length := by unfold rst; rw [List.length_drop]; omega
    simp at this ⊢; omega
theorem dgN_T (r : List UInt8) : dgN (84 :: r) = 0 := by unfold dgN; rw [List.takeWhile_cons_of_neg (by decide)]; rfl
theorem dgN_nil : dgN [] = 0 := rfl
theorem tryP_no (c : UInt8) (u : Nat) (s : List UInt8) (V : Nat) (h : dgN s = 0) : tryP c u (s, V) = (s, V) := by unfold tryP; rw [if_neg (by simp [h])]
theorem tryP_end (c : UInt8) (u : Nat) (s : List UInt8) (V : Nat) (h : rst s = []) : tryP c u (s, V) = (s, V) := by
  unfold tryP
  split
  · simp only [h]
  · rfl
theorem tryP_other (c d : UInt8) (u : Nat) (s r : List UInt8) (V : Nat) (h : rst s = d :: r) (hd : d ≠ c) : tryP c u (s, V) = (s, V) := by
  unfold tryP
  split
  · simp only [h]; rw [if_neg hd]
  · rfl
theorem tryP_yes (c : UInt8) (u : Nat) (s r : List UInt8) (V : Nat) (h0 : 0 < dgN s) (h : rst s = c :: r) : tryP c u (s, V) = (r, V + numV s * u) := by
  unfold tryP
  rw [if_pos h0]
  simp only [h]; rw [if_pos trivial]
theorem rst_cons (c : UInt8) (r : List UInt8) (h : dgN (c :: r) = 0) : rst (c :: r) = c :: r := by unfold rst; rw [h]; rfl

def fin (q : List UInt8 × Nat) : Option Nat := if q.1 = [] then some q.2 else none
theorem fin_cons (c : UInt8) (r : List UInt8) (V : Nat) : fin (c :: r, V) = none := rfl
/-- With the parts that may still come the reference does as the program. -/
theorem ref_tail4 (V : Nat) (s : List UInt8) : refP true 4 false V s = fin (s, V) := by
  rw [refP.eq_def]
  split
  · rfl
  · rename_i c r
    rw [fin_cons]
    split
    · rfl
    · split
      · rfl
      · rename_i d r2 hr
        split
        · rfl
        · rw [if_pos]
          unfold unitOf
          simp
          repeat' split
          all_goals simp
theorem ref_tail3 (V : Nat) (s : List UInt8) : refP true 3 false V s = fin (tryP 83 1 (s, V)) := by
  rw [refP.eq_def]
  split
  · rfl
  · rename_i c r
    split
    · rename_i hc
      subst hc
      rw [tryP_no _ _ _ _ (dgN_T r)]; rfl
    · split
      · rename_i hr; rw [tryP_end _ _ _ _ hr]; rfl
      · rename_i d r2 hr
        split
        · rename_i h0; rw [tryP_no _ _ _ _ h0]; rfl
        · rename_i h0
          by_cases hd : d = 83
          · subst hd
            rw [tryP_yes 83 1 _ _ V (by omega) hr]
            show (if (4 : Nat) ≤ 3 then none else refP true 4 false (V + numV (c :: r) * 1) r2) = _
            rw [if_neg (by omega), ref_tail4]
          · rw [tryP_other 83 d 1 _ r2 V hr hd, fin_cons, if_pos]
            unfold unitOf
            simp [hd]
            repeat' split
            all_goals simp
theorem ref_tail2 (V : Nat) (s : List UInt8) : refP true 2 false V s = fin (tryP 83 1 (tryP 77 60 (s, V))) := by
  rw [refP.eq_def]
  split
  · rfl
  · rename_i c r
    split
    · rename_i hc
      subst hc
      rw [tryP_no _ _ _ _ (dgN_T r), tryP_no _ _ _ _ (dgN_T r)]; rfl
    · split
      · rename_i hr; rw [tryP_end _ _ _ _ hr, tryP_end _ _ _ _ hr]; rfl
      · rename_i d r2 hr
        split
        · rename_i h0; rw [tryP_no _ _ _ _ h0, tryP_no _ _ _ _ h0]; rfl
        · rename_i h0
          by_cases hd : d = 77
          · subst hd
            rw [tryP_yes 77 60 _ _ V (by omega) hr]
            show (if (3 : Nat) ≤ 2 then none else refP true 3 false (V + numV (c :: r) * 60) r2) = _
            rw [if_neg (by omega), ref_tail3]
          · rw [tryP_other 77 d 60 _ r2 V hr hd]
            by_cases hd2 : d = 83
            · subst hd2
              rw [tryP_yes 83 1 _ _ V (by omega) hr]
              show (if (4 : Nat) ≤ 2 then none else refP true 4 false (V + numV (c :: r) * 1) r2) = _
              rw [if_neg (by omega), ref_tail4]
            · rw [tryP_other 83 d 1 _ r2 V hr hd2, fin_cons, if_pos]
              unfold unitOf
              simp [hd, hd2]
              repeat' split
              all_goals simp
/-- .. from the hours on, whether a number has been read before or not. -/
theorem ref_tail1 (last : Nat) (hl : last ≤ 1) (opn : Bool) (V : Nat) (s : List UInt8) (hs : opn = true → s ≠ []) : refP true last opn V s = fin (tryP 83 1 (tryP 77 60 (tryP 72 3600 (s, V)))) := by
  rw [refP.eq_def]
  split
  · cases opn
    · rfl
    · exact absurd rfl (hs rfl)
  · rename_i c r
    split
    · rename_i hc
      subst hc
      rw [tryP_no _ _ _ _ (dgN_T r), tryP_no _ _ _ _ (dgN_T r), tryP_no _ _ _ _ (dgN_T r)]; rfl
    · split
      · rename_i hr; rw [tryP_end _ _ _ _ hr, tryP_end _ _ _ _ hr, tryP_end _ _ _ _ hr]; rfl
      · rename_i d r2 hr
        split
        · rename_i h0; rw [tryP_no _ _ _ _ h0, tryP_no _ _ _ _ h0, tryP_no _ _ _ _ h0]; rfl
        · rename_i h0
          by_cases hd : d = 72
          · subst hd
            rw [tryP_yes 72 3600 _ _ V (by omega) hr]
            show (if (2 : Nat) ≤ last then none else refP true 2 false (V + numV (c :: r) * 3600) r2) = _
            rw [if_neg (by omega), ref_tail2]
          · rw [tryP_other 72 d 3600 _ r2 V hr hd]
            by_cases hd1 : d = 77
            · subst hd1
              rw [tryP_yes 77 60 _ _ V (by omega) hr]
              show (if (3 : Nat) ≤ last then none else refP true 3 false (V + numV (c :: r) * 60) r2) = _
              rw [if_neg (by omega), ref_tail3]
            · rw [tryP_other 77 d 60 _ r2 V hr hd1]
              by_cases hd2 : d = 83
              · subst hd2
                rw [tryP_yes 83 1 _ _ V (by omega) hr]
                show (if (4 : Nat) ≤ last then none else refP true 4 false (V + numV (c :: r) * 1) r2) = _
                rw [if_neg (by omega), ref_tail4]
              · rw [tryP_other 83 d 1 _ r2 V hr hd2, fin_cons, if_pos]
                unfold unitOf
                simp [hd, hd1, hd2]
theorem tailP_eq (s : List UInt8) (V : Nat) : tailP s V = fin (tryP 83 1 (tryP 77 60 (tryP 72 3600 (s, V)))) := rfl
theorem ref_day (V : Nat) (s : List UInt8) : refP false 1 false V s = match s with | [] => some V | c :: r => if c = 84 ∧ r ≠ [] then tailP r V else none := by
  rw [refP.eq_def]
  split
  · rfl
  · rename_i c r
    show _ = if c = 84 ∧ r ≠ [] then tailP r V else none
    by_cases hc : c = 84
    · subst hc
      rw [if_pos rfl, if_neg (by decide)]
      by_cases hr : r = []
      · subst hr
        rw [if_neg (fun h => h.2 rfl), refP.eq_def]
        rfl
      · rw [if_pos ⟨rfl, hr⟩, ref_tail1 1 (by omega) true V r (fun _ => hr), tailP_eq]
    · rw [if_neg hc, if_neg (fun h => hc h.1)]
      split
      · rfl
      · rename_i d r2 hr
        split
        · rfl
        · rw [if_pos]
          unfold unitOf
          simp
          split <;> simp
theorem ref_body (s : List UInt8) (hs : s ≠ []) : refP false 0 true 0 s = bodyP s := by
  rw [refP.eq_def]
  unfold bodyP
  split
  · exact absurd rfl hs
  · rename_i c r
    split
    · rename_i hc
      subst hc
      rw [tryP_no _ _ _ _ (dgN_T r), if_neg (by decide)]
      show _ = if (84 : UInt8) = 84 ∧ r ≠ [] then tailP r 0 else none
      by_cases hr : r = []
      · subst hr
        rw [if_neg (fun h => h.2 rfl), refP.eq_def]
        rfl
      · rw [if_pos ⟨rfl, hr⟩, ref_tail1 0 (by omega) true 0 r (fun _ => hr), tailP_eq]
    · rename_i hc
      split
      · rename_i hr
        rw [tryP_end _ _ _ _ hr]
        simp only
        rw [if_neg (fun h => hc h.1)]
      · rename_i d r2 hr
        split
        · rename_i h0
          rw [tryP_no _ _ _ _ h0]
          simp only
          rw [if_neg (fun h => hc h.1)]
        · rename_i h0
          by_cases hd : d = 68
          · subst hd
            rw [tryP_yes 68 86400 _ _ 0 (by omega) hr]
            show (if (1 : Nat) ≤ 0 then none else refP false 1 false (0 + numV (c :: r) * 86400) r2) = _
            rw [if_neg (by omega), ref_day]
          · rw [tryP_other 68 d 86400 _ r2 0 hr hd, if_pos]
            · simp only
              rw [if_neg (fun h => hc h.1)]
            · unfold unitOf
              simp [hd]
/-- The value of a duration and the number of the error. -/
def cutM (s : List UInt8) : List UInt8 × Bool := match s with | 45 :: r => (r, true) | _ => (s, false)
def parD (s : List UInt8) : Int × Int :=
  match (cutM s).1 with
  | c :: r => if c = 80 ∧ r ≠ [] then (match bodyP r with
      | none => (0, 3)
      | some V => if 4398046511104 < V then (0, 9) else (if (cutM s).2 then -(V : Int) else V, 0)) else (0, 3)
  | [] => (0, 3)
end Go.Proofs.YtplckoffiebibaaDoor
