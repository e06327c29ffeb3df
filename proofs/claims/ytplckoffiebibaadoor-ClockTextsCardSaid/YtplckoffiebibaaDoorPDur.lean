/- The walk of clock.ParseDuration. -/
import Derived.Test.YtplckoffiebibaaDoorPar
import Derived.Test.YtplckoffiebibaaDoorDur
namespace Go.Proofs.YtplckoffiebibaaDoor
open Go.RowKit

def cutB (c : UInt8) (l : List UInt8) : Bool := match l with | d :: _ => d == c | [] => false
def cutL (c : UInt8) (l : List UInt8) : List UInt8 := if cutB c l then l.tail else l
theorem cutB_iff {c : UInt8} {l : List UInt8} : cutB c l = true ↔ ∃ r, l = c :: r := by
  unfold cutB
  cases l with
  | nil => simp
  | cons d r => simp
theorem cut_c (c : UInt8) (l : List UInt8) (w : World) :
    Calls Tryd.prog 59 #[.string ⟨l.toArray⟩, .string ⟨#[c]⟩] w fun e w' => e = .returned (.tuple #[.string ⟨(cutL c l).toArray⟩, .bool (cutB c l)]) ∧ w = w' := by
  refine (Tryd.strings_CutPrefix ⟨l.toArray⟩ ⟨#[c]⟩ w).mono ?_
  rintro e w' ⟨rfl, rfl⟩
  refine ⟨?_, rfl⟩
  have h1 : Lib.hasPrefix l [c] = cutB c l := by
    unfold Lib.hasPrefix cutB
    cases l with
    | nil => rfl
    | cons d r => simp [List.isPrefixOf]; exact BEq.comm
  have h2 : Lib.trimPrefix l [c] = cutL c l := by
    unfold Lib.trimPrefix cutL
    rw [h1]
    split
    · simp
    · rfl
  show Ending.returned (.tuple #[.string ⟨(Lib.trimPrefix l [c]).toArray⟩, .bool (Lib.hasPrefix l [c])]) = _
  rw [h1, h2]

/-- What is still to be read after k units. -/
def PI (l2 : List UInt8) (k : Nat) (s : List UInt8) (V : Nat) : Prop :=
  match k with
  | 0 => s = l2 ∧ V = 0
  | 1 => bodyP l2 = (match s with | [] => some V | c :: r => if c = 84 ∧ r ≠ [] then tailP r V else none)
  | 2 => bodyP l2 = fin (tryP 83 1 (tryP 77 60 (s, V)))
  | 3 => bodyP l2 = fin (tryP 83 1 (s, V))
  | _ => bodyP l2 = fin (s, V)
/-- The same, once the letter T is read. -/
def PJ (l2 : List UInt8) (k : Nat) (s : List UInt8) (V : Nat) : Prop :=
  match k with
  | 0 => s = l2 ∧ V = 0
  | 1 => bodyP l2 = tailP s V
  | 2 => bodyP l2 = fin (tryP 83 1 (tryP 77 60 (s, V)))
  | 3 => bodyP l2 = fin (tryP 83 1 (s, V))
  | _ => bodyP l2 = fin (s, V)
def uL (k : Nat) : UInt8 := match k with | 0 => 68 | 1 => 72 | 2 => 77 | _ => 83
def uS (k : Nat) : Nat := match k with | 0 => 86400 | 1 => 3600 | 2 => 60 | _ => 1
theorem PJ_step (l2 : List UInt8) (k : Nat) (hk : k ≤ 3) (s s' : List UInt8) (V V' : Nat) (h : PJ l2 k s V) (ht : tryP (uL k) (uS k) (s, V) = (s', V')) : PI l2 (k + 1) s' V' := by
  rcases (show k = 0 ∨ k = 1 ∨ k = 2 ∨ k = 3 by omega) with rfl | rfl | rfl | rfl
  · obtain ⟨rfl, rfl⟩ := h
    show bodyP s = _
    unfold bodyP
    have ht : tryP 68 86400 (s, 0) = (s', V') := ht
    rw [ht]
    cases s' <;> rfl
  · have h : bodyP l2 = fin (tryP 83 1 (tryP 77 60 (tryP 72 3600 (s, V)))) := h
    have ht : tryP 72 3600 (s, V) = (s', V') := ht
    rw [ht] at h
    exact h
  · have h : bodyP l2 = fin (tryP 83 1 (tryP 77 60 (s, V))) := h
    have ht : tryP 77 60 (s, V) = (s', V') := ht
    rw [ht] at h
    exact h
  · have h : bodyP l2 = fin (tryP 83 1 (s, V)) := h
    have ht : tryP 83 1 (s, V) = (s', V') := ht
    rw [ht] at h
    exact h
/-- The sum as the program has it: exact as long as it is not too great. -/
def SumR (sum : Int) (V : Nat) : Prop := 0 ≤ sum ∧ (V ≤ 4398046511104 → sum = V) ∧ (4398046511104 < V → 4398046511104 < sum)
theorem SumR.step {sum : Int} {V n : Nat} (h : SumR sum V) (k : Nat) : SumR (sum + min (n : Int) 4398046511105 * (uS k : Nat)) (V + n * uS k) := by
  have hu : uS k = 86400 ∨ uS k = 3600 ∨ uS k = 60 ∨ uS k = 1 := by unfold uS; split <;> simp
  unfold SumR at *
  rcases hu with e | e | e | e <;> rw [e] <;> omega

theorem parD_eq (l : List UInt8) (hb : cutB 80 (cutL 45 l) = true) (he : (cutL 80 (cutL 45 l)).isEmpty = false) :
    parD l = match bodyP (cutL 80 (cutL 45 l)) with | none => (0, 3) | some V => if 4398046511104 < V then (0, 9) else (if cutB 45 l then -(V : Int) else V, 0) := by
  have hm : cutM l = (cutL 45 l, cutB 45 l) := by
    unfold cutM cutL cutB
    cases l with
    | nil => rfl
    | cons d r =>
      by_cases hd : d = 45
      · subst hd; rfl
      · have : (d == 45) = false := by simpa using hd
        simp only [this]
        split
        · rename_i h; injection h with h1 h2; exact absurd h1 hd
        · rfl
  obtain ⟨r, hr⟩ := cutB_iff.1 hb
  have hcl : cutL 80 (cutL 45 l) = r := by unfold cutL at hb ⊢; rw [if_pos hb]; unfold cutL at hr; rw [hr]; rfl
  rw [hcl] at he ⊢
  have hne : r ≠ [] := by intro e; subst e; cases he
  unfold parD
  rw [hm]
  simp only [hr]
  rw [if_pos ⟨trivial, hne⟩]
  cases bodyP r <;> rfl
theorem parD_no (l : List UInt8) (h : ¬ (cutB 80 (cutL 45 l) = true ∧ (cutL 80 (cutL 45 l)).isEmpty = false)) : parD l = (0, 3) := by
  have hm : (cutM l).1 = cutL 45 l := by
    unfold cutM cutL cutB
    cases l with
    | nil => rfl
    | cons d r =>
      by_cases hd : d = 45
      · subst hd; rfl
      · have : (d == 45) = false := by simpa using hd
        simp only [this]
        split
        · rename_i h; injection h with h1 h2; exact absurd h1 hd
        · rfl
  unfold parD
  rw [hm]
  cases hc : cutL 45 l with
  | nil => rfl
  | cons c r =>
    rw [hc] at h
    dsimp only
    rw [if_neg]
    rintro ⟨rfl, hr⟩
    apply h
    refine ⟨by simp [cutB], ?_⟩
    have : cutL 80 (80 :: r) = r := by unfold cutL; rw [if_pos (by simp [cutB])]; rfl
    rw [this]
    cases r with
    | nil => exact absurd rfl hr
    | cons a b => rfl
def cumU (k : Nat) : Nat := match k with | 0 => 0 | 1 => 86400 | 2 => 90000 | 3 => 90060 | _ => 90061
theorem rst_len (l : List UInt8) : (rst l).length ≤ l.length := by unfold rst; rw [List.length_drop]; omega
set_option maxRecDepth 100000 in
set_option maxHeartbeats 4000000 in
theorem pd_body (l : List UInt8) (w : World) (hL : Laid w) (hl : l.length ≤ 9223372036854775806) (hb : cutB 80 (cutL 45 l) = true) (he : (cutL 80 (cutL 45 l)).isEmpty = false) :
    Calls Tryd.prog 34 #[.string ⟨l.toArray⟩] w fun e w' => e = .returned (.tuple #[.int .i64 (parD l).1, .int .i64 (parD l).2]) ∧ Ext w w' := by
  obtain ⟨_, _, _, c0, c1, c2, c3, c4, c5, c6, c7⟩ := hL
  obtain ⟨l2, hl2⟩ : ∃ l2, l2 = cutL 80 (cutL 45 l) := ⟨_, rfl⟩
  have hlen2 : l2.length ≤ 9223372036854775806 := by
    have h1 : ∀ c x, (cutL c x).length ≤ x.length := by intro c x; unfold cutL; split <;> simp
    have := h1 80 (cutL 45 l); have := h1 45 l; rw [hl2]; omega
  have he2 : l2.isEmpty = false := by rw [hl2]; exact he
  have Hl2 := Lib.hid hl2.symm
  go_enter Tryd.func34, Tryd.ntmps34
  go_wp2_with fail
  go_step3
  go_wp2_with (first | (go_at_call 59; (with_reducible refine (cut_c _ _ _).mono ?_); rintro e w' ⟨rfl, rfl⟩))
  rw [← hl2]
  have HpE := Lib.hid (parD_eq l hb he)
  rw [← hl2] at HpE
  have hPI0 : Hid (PI l2 0 l2 0) := ⟨rfl, rfl⟩
  go_step3
  go_wp2_with fail
  clear hl2 he c0 c1 c2 c3 c4 c5 c6 c7
  go_loopw [0, 6, 30] (fun s sum i wr => ∃ (k V : Nat) (ls : List UInt8) (z : Int), k ≤ 4 ∧ i = .int .i64 (k : Int) ∧ s = .string ⟨ls.toArray⟩ ∧ sum = .int .i64 z ∧ ls.length ≤ 9223372036854775806 ∧ Hid (PI l2 k ls V) ∧ Hid (SumR z V) ∧ 0 ≤ z ∧ z ≤ 4398046511105 * (cumU k : Int) ∧ Ext w wr) (fun _ _ i _ => (4 - intOf i).toNat)
  case atStart => exact ⟨0, 0, l2, 0, by omega, rfl, rfl, rfl, hlen2, hPI0, ⟨by omega, by omega, by omega⟩, by omega, by simp [cumU], Ext.refl _⟩
  case round =>
    obtain ⟨k, V, ls, z, hk, rfl, rfl, rfl, hsl, HP, HS, hz0, hz1, hEr⟩ := hrel
    rcases (show k = 0 ∨ k = 1 ∨ k = 2 ∨ k = 3 ∨ k = 4 by omega) with rfl | rfl | rfl | rfl | rfl
    · have HJ : Hid (PJ l2 0 ls V) := HP.out
      simp only [cumU] at hz1
      have hui := ui_0
      by_cases h0 : dgN (ls) = 0
      · have b0 : decide (0 < dgN (ls)) = false := by simp [h0]
        have Ht : Hid (tryP (uL 0) (uS 0) (ls, V) = (ls, V)) := tryP_no _ _ _ _ h0
        clear h0
        go_wp2_with (first
                      | (go_at_call 59; (with_reducible refine (cut_c _ _ _).mono ?_); rintro e w' ⟨rfl, rfl⟩)
                      | (go_at_call 60; refine (number_c _ _ hsl).mono ?_; rintro e w' ⟨rfl, nq, rfl⟩))
        go_quiet (fail)
        go_wp2
        go_roundw
        case rel => exact ⟨0 + 1, V, ls, z, by omega, rfl, rfl, rfl, hsl, PJ_step l2 0 (by omega) (ls) (ls) V V HJ.out Ht.out, HS, hz0, by simp only [cumU]; omega, (hEr.alloc _).drewN _⟩
        case measure => simp [intOf]
      · have b0 : decide (0 < dgN (ls)) = true := by simp; omega
        cases hr : rst (ls) with
        | nil =>
          have b1 : (rst (ls)).isEmpty = true := by rw [hr]; rfl
          have Ht : Hid (tryP (uL 0) (uS 0) (ls, V) = (ls, V)) := tryP_end _ _ _ _ hr
          clear h0 hr
          go_wp2_with (first
                        | (go_at_call 59; (with_reducible refine (cut_c _ _ _).mono ?_); rintro e w' ⟨rfl, rfl⟩)
                        | (go_at_call 60; refine (number_c _ _ hsl).mono ?_; rintro e w' ⟨rfl, nq, rfl⟩))
          go_quiet (fail)
          go_wp2
          go_roundw
          case rel => exact ⟨0 + 1, V, ls, z, by omega, rfl, rfl, rfl, hsl, PJ_step l2 0 (by omega) (ls) (ls) V V HJ.out Ht.out, HS, hz0, by simp only [cumU]; omega, (hEr.alloc _).drewN _⟩
          case measure => simp [intOf]
        | cons d r2 =>
          have b1 : (rst (ls)).isEmpty = false := by rw [hr]; rfl
          have b2 : 0 < (rst (ls)).length := by rw [hr]; simp
          have b3 := bget (rst (ls)) 0 b2 d (by simp only [hr]; rfl)
          by_cases hd : d = 68
          · have b4 : ((d.toNat : Int) != 68) = false := by subst hd; rfl
            have Ht : Hid (tryP (uL 0) (uS 0) (ls, V) = (r2, V + numV (ls) * uS 0)) := tryP_yes _ _ _ _ _ (by omega) (by rw [hr, hd]; rfl)
            have b5 : (⟨(rst (ls)).toArray⟩ : ByteArray).extract 1 (rst (ls)).length = ⟨r2.toArray⟩ := by rw [bdrop, hr]; rfl
            have Hl : Hid (r2.length ≤ 9223372036854775806) := by have := rst_len (ls); rw [hr] at this; simp at this; unfold Hid; omega
            have HS2 : Hid (SumR (z + min (numV (ls) : Int) 4398046511105 * (86400 : Int)) (V + numV (ls) * uS 0)) := HS.out.step 0
            obtain ⟨nv, hnv⟩ : ∃ nv, nv = min (numV (ls) : Int) 4398046511105 := ⟨_, rfl⟩
            have n1 : 0 ≤ nv := by omega
            have n2 : nv ≤ 4398046511105 := by omega
            have Hn := Lib.hid hnv
            rw [← hnv] at HS2
            clear h0 hr hd hnv
            go_wp2_with (first
                          | (go_at_call 59; (with_reducible refine (cut_c _ _ _).mono ?_); rintro e w' ⟨rfl, rfl⟩)
                          | (go_at_call 60; refine (number_c _ _ hsl).mono ?_; rintro e w' ⟨rfl, nq, rfl⟩))
            rw [← Hn.out]
            go_quiet (fail)
            go_wp2
            go_roundw
            case rel => exact ⟨0 + 1, V + numV (ls) * uS 0, r2, z + nv * 86400, by omega, rfl, rfl, by congr 1 <;> omega, Hl.out, PJ_step l2 0 (by omega) (ls) r2 V _ HJ.out Ht.out, HS2, by omega, by simp only [cumU]; omega, (hEr.alloc _).drewN _⟩
            case measure => simp [intOf]
          · have b4 : ((d.toNat : Int) != 68) = true := by
              rw [bne_iff_ne]
              intro q
              exact hd (UInt8.toNat_inj.1 (by show d.toNat = 68; omega))
            have Ht : Hid (tryP (uL 0) (uS 0) (ls, V) = (ls, V)) := tryP_other _ d _ _ r2 _ hr hd
            clear h0 hr hd
            go_wp2_with (first
                          | (go_at_call 59; (with_reducible refine (cut_c _ _ _).mono ?_); rintro e w' ⟨rfl, rfl⟩)
                          | (go_at_call 60; refine (number_c _ _ hsl).mono ?_; rintro e w' ⟨rfl, nq, rfl⟩))
            go_quiet (fail)
            go_wp2
            go_roundw
            case rel => exact ⟨0 + 1, V, ls, z, by omega, rfl, rfl, rfl, hsl, PJ_step l2 0 (by omega) (ls) (ls) V V HJ.out Ht.out, HS, hz0, by simp only [cumU]; omega, (hEr.alloc _).drewN _⟩
            case measure => simp [intOf]
    · simp only [cumU] at hz1
      have hui := ui_1
      rcases Bool.eq_false_or_eq_true ls.isEmpty with q0 | q0
      · have Hq : Hid (bodyP l2 = some V) := by
          have h := HP.out
          obtain rfl : ls = [] := List.isEmpty_iff.1 q0
          exact h
        rcases Bool.eq_false_or_eq_true (cutB 45 l) with m0 | m0
        all_goals
          by_cases hz : 4398046511104 < z
          · have Hres : Hid (parD l = (0, 9)) := by
              rw [Hid, HpE.out, Hq.out]
              dsimp only
              rw [if_pos (by have := HS.out; unfold SumR at this; omega)]
            go_wp2_with (first
                          | (go_at_call 59; (with_reducible refine (cut_c _ _ _).mono ?_); rintro e w' ⟨rfl, rfl⟩)
                          | (go_at_call 60; refine (number_c _ _ hsl).mono ?_; rintro e w' ⟨rfl, nq, rfl⟩))
            try rw [Exit.noGoto_ret]
            go_ret2
            exact ⟨by rw [Hres.out]; rfl, by (repeat (with_reducible (first | assumption | exact Ext.refl _ | refine Ext.alloc ?_ _ | refine Ext.setCell ?_ (by simp) _ | refine Ext.setCell ?_ (by simp; omega) _ | refine Ext.drewN ?_ _ | refine Ext.drew ?_)))⟩
          · have Hres : Hid (parD l = (if cutB 45 l then -z else z, 0)) := by
              have hv : z = V := by have := HS.out; unfold SumR at this; omega
              rw [Hid, HpE.out, Hq.out]
              dsimp only
              rw [if_neg (by have := HS.out; unfold SumR at this; omega), hv]
            go_wp2_with (first
                          | (go_at_call 59; (with_reducible refine (cut_c _ _ _).mono ?_); rintro e w' ⟨rfl, rfl⟩)
                          | (go_at_call 60; refine (number_c _ _ hsl).mono ?_; rintro e w' ⟨rfl, nq, rfl⟩))
            all_goals first
              | (exfalso; have h9 : cutB 45 l = true := by assumption
                 have h8 : cutB 45 l = false := by assumption
                 rw [h9] at h8; cases h8; done)
              | (try rw [Exit.noGoto_ret]
                 go_ret2
                 exact ⟨by rw [Hres.out, m0]; rfl, by (repeat (with_reducible (first | assumption | exact Ext.refl _ | refine Ext.alloc ?_ _ | refine Ext.setCell ?_ (by simp) _ | refine Ext.setCell ?_ (by simp; omega) _ | refine Ext.drewN ?_ _ | refine Ext.drew ?_)))⟩)
      · rcases Bool.eq_false_or_eq_true (cutB 84 ls) with q1 | q1
        · obtain ⟨r, hr⟩ := cutB_iff.1 q1
          have hcl : cutL 84 ls = r := by unfold cutL; rw [if_pos q1, hr]; rfl
          rcases Bool.eq_false_or_eq_true (cutL 84 ls).isEmpty with q2 | q2
          · have Hq : Hid (bodyP l2 = none) := by
              have h := HP.out
              rw [hcl] at q2
              obtain rfl : r = [] := List.isEmpty_iff.1 q2
              subst hr
              exact h
            clear hr hcl
            have Hres : Hid (parD l = (0, 3)) := by rw [Hid, HpE.out, Hq.out]
            go_wp2_with (first
                          | (go_at_call 59; (with_reducible refine (cut_c _ _ _).mono ?_); rintro e w' ⟨rfl, rfl⟩)
                          | (go_at_call 60; refine (number_c _ _ hsl).mono ?_; rintro e w' ⟨rfl, nq, rfl⟩))
            try rw [Exit.noGoto_ret]
            go_ret2
            exact ⟨by rw [Hres.out]; rfl, by (repeat (with_reducible (first | assumption | exact Ext.refl _ | refine Ext.alloc ?_ _ | refine Ext.setCell ?_ (by simp) _ | refine Ext.setCell ?_ (by simp; omega) _ | refine Ext.drewN ?_ _ | refine Ext.drew ?_)))⟩
          · have Hq : Hid (PJ l2 1 (cutL 84 ls) V) := by
              have h := HP.out
              rw [hcl] at q2 ⊢
              subst hr
              have hne : r ≠ [] := by intro e; subst e; cases q2
              have h : bodyP l2 = if (84 : UInt8) = 84 ∧ r ≠ [] then tailP r V else none := h
              rw [if_pos ⟨rfl, hne⟩] at h
              exact h
            have hsl2 : (cutL 84 ls).length ≤ 9223372036854775806 := by rw [hcl]; rw [hr] at hsl; simp at hsl; omega
            clear hr hcl
            have HJ := Hq
            have hui := ui_1
            by_cases h0 : dgN (cutL 84 ls) = 0
            · have b0 : decide (0 < dgN (cutL 84 ls)) = false := by simp [h0]
              have Ht : Hid (tryP (uL 1) (uS 1) (cutL 84 ls, V) = (cutL 84 ls, V)) := tryP_no _ _ _ _ h0
              clear h0
              go_wp2_with (first
                            | (go_at_call 59; (with_reducible refine (cut_c _ _ _).mono ?_); rintro e w' ⟨rfl, rfl⟩)
                            | (go_at_call 60; refine (number_c _ _ hsl2).mono ?_; rintro e w' ⟨rfl, nq, rfl⟩))
              go_quiet (fail)
              go_wp2
              go_roundw
              case rel => exact ⟨1 + 1, V, cutL 84 ls, z, by omega, rfl, rfl, rfl, hsl2, PJ_step l2 1 (by omega) (cutL 84 ls) (cutL 84 ls) V V HJ.out Ht.out, HS, hz0, by simp only [cumU]; omega, (hEr.alloc _).drewN _⟩
              case measure => simp [intOf]
            · have b0 : decide (0 < dgN (cutL 84 ls)) = true := by simp; omega
              cases hr : rst (cutL 84 ls) with
              | nil =>
                have b1 : (rst (cutL 84 ls)).isEmpty = true := by rw [hr]; rfl
                have Ht : Hid (tryP (uL 1) (uS 1) (cutL 84 ls, V) = (cutL 84 ls, V)) := tryP_end _ _ _ _ hr
                clear h0 hr
                go_wp2_with (first
                              | (go_at_call 59; (with_reducible refine (cut_c _ _ _).mono ?_); rintro e w' ⟨rfl, rfl⟩)
                              | (go_at_call 60; refine (number_c _ _ hsl2).mono ?_; rintro e w' ⟨rfl, nq, rfl⟩))
                go_quiet (fail)
                go_wp2
                go_roundw
                case rel => exact ⟨1 + 1, V, cutL 84 ls, z, by omega, rfl, rfl, rfl, hsl2, PJ_step l2 1 (by omega) (cutL 84 ls) (cutL 84 ls) V V HJ.out Ht.out, HS, hz0, by simp only [cumU]; omega, (hEr.alloc _).drewN _⟩
                case measure => simp [intOf]
              | cons d r2 =>
                have b1 : (rst (cutL 84 ls)).isEmpty = false := by rw [hr]; rfl
                have b2 : 0 < (rst (cutL 84 ls)).length := by rw [hr]; simp
                have b3 := bget (rst (cutL 84 ls)) 0 b2 d (by simp only [hr]; rfl)
                by_cases hd : d = 72
                · have b4 : ((d.toNat : Int) != 72) = false := by subst hd; rfl
                  have Ht : Hid (tryP (uL 1) (uS 1) (cutL 84 ls, V) = (r2, V + numV (cutL 84 ls) * uS 1)) := tryP_yes _ _ _ _ _ (by omega) (by rw [hr, hd]; rfl)
                  have b5 : (⟨(rst (cutL 84 ls)).toArray⟩ : ByteArray).extract 1 (rst (cutL 84 ls)).length = ⟨r2.toArray⟩ := by rw [bdrop, hr]; rfl
                  have Hl : Hid (r2.length ≤ 9223372036854775806) := by have := rst_len (cutL 84 ls); rw [hr] at this; simp at this; unfold Hid; omega
                  have HS2 : Hid (SumR (z + min (numV (cutL 84 ls) : Int) 4398046511105 * (3600 : Int)) (V + numV (cutL 84 ls) * uS 1)) := HS.out.step 1
                  obtain ⟨nv, hnv⟩ : ∃ nv, nv = min (numV (cutL 84 ls) : Int) 4398046511105 := ⟨_, rfl⟩
                  have n1 : 0 ≤ nv := by omega
                  have n2 : nv ≤ 4398046511105 := by omega
                  have Hn := Lib.hid hnv
                  rw [← hnv] at HS2
                  clear h0 hr hd hnv
                  go_wp2_with (first
                                | (go_at_call 59; (with_reducible refine (cut_c _ _ _).mono ?_); rintro e w' ⟨rfl, rfl⟩)
                                | (go_at_call 60; refine (number_c _ _ hsl2).mono ?_; rintro e w' ⟨rfl, nq, rfl⟩))
                  rw [← Hn.out]
                  go_quiet (fail)
                  go_wp2
                  go_roundw
                  case rel => exact ⟨1 + 1, V + numV (cutL 84 ls) * uS 1, r2, z + nv * 3600, by omega, rfl, rfl, by congr 1 <;> omega, Hl.out, PJ_step l2 1 (by omega) (cutL 84 ls) r2 V _ HJ.out Ht.out, HS2, by omega, by simp only [cumU]; omega, (hEr.alloc _).drewN _⟩
                  case measure => simp [intOf]
                · have b4 : ((d.toNat : Int) != 72) = true := by
                    rw [bne_iff_ne]
                    intro q
                    exact hd (UInt8.toNat_inj.1 (by show d.toNat = 72; omega))
                  have Ht : Hid (tryP (uL 1) (uS 1) (cutL 84 ls, V) = (cutL 84 ls, V)) := tryP_other _ d _ _ r2 _ hr hd
                  clear h0 hr hd
                  go_wp2_with (first
                                | (go_at_call 59; (with_reducible refine (cut_c _ _ _).mono ?_); rintro e w' ⟨rfl, rfl⟩)
                                | (go_at_call 60; refine (number_c _ _ hsl2).mono ?_; rintro e w' ⟨rfl, nq, rfl⟩))
                  go_quiet (fail)
                  go_wp2
                  go_roundw
                  case rel => exact ⟨1 + 1, V, cutL 84 ls, z, by omega, rfl, rfl, rfl, hsl2, PJ_step l2 1 (by omega) (cutL 84 ls) (cutL 84 ls) V V HJ.out Ht.out, HS, hz0, by simp only [cumU]; omega, (hEr.alloc _).drewN _⟩
                  case measure => simp [intOf]
        · have Hq : Hid (bodyP l2 = none) := by
            have h := HP.out
            cases ls with
            | nil => cases q0
            | cons c r =>
              have h : bodyP l2 = if c = 84 ∧ r ≠ [] then tailP r V else none := h
              rw [if_neg] at h
              · exact h
              · rintro ⟨rfl, _⟩; cases q1
          have Hres : Hid (parD l = (0, 3)) := by rw [Hid, HpE.out, Hq.out]
          go_wp2_with (first
                        | (go_at_call 59; (with_reducible refine (cut_c _ _ _).mono ?_); rintro e w' ⟨rfl, rfl⟩)
                        | (go_at_call 60; refine (number_c _ _ hsl).mono ?_; rintro e w' ⟨rfl, nq, rfl⟩))
          try rw [Exit.noGoto_ret]
          go_ret2
          exact ⟨by rw [Hres.out]; rfl, by (repeat (with_reducible (first | assumption | exact Ext.refl _ | refine Ext.alloc ?_ _ | refine Ext.setCell ?_ (by simp) _ | refine Ext.setCell ?_ (by simp; omega) _ | refine Ext.drewN ?_ _ | refine Ext.drew ?_)))⟩
    · have HJ : Hid (PJ l2 2 ls V) := HP.out
      simp only [cumU] at hz1
      have hui := ui_2
      by_cases h0 : dgN (ls) = 0
      · have b0 : decide (0 < dgN (ls)) = false := by simp [h0]
        have Ht : Hid (tryP (uL 2) (uS 2) (ls, V) = (ls, V)) := tryP_no _ _ _ _ h0
        clear h0
        go_wp2_with (first
                      | (go_at_call 59; (with_reducible refine (cut_c _ _ _).mono ?_); rintro e w' ⟨rfl, rfl⟩)
                      | (go_at_call 60; refine (number_c _ _ hsl).mono ?_; rintro e w' ⟨rfl, nq, rfl⟩))
        go_quiet (fail)
        go_wp2
        go_roundw
        case rel => exact ⟨2 + 1, V, ls, z, by omega, rfl, rfl, rfl, hsl, PJ_step l2 2 (by omega) (ls) (ls) V V HJ.out Ht.out, HS, hz0, by simp only [cumU]; omega, (hEr.alloc _).drewN _⟩
        case measure => simp [intOf]
      · have b0 : decide (0 < dgN (ls)) = true := by simp; omega
        cases hr : rst (ls) with
        | nil =>
          have b1 : (rst (ls)).isEmpty = true := by rw [hr]; rfl
          have Ht : Hid (tryP (uL 2) (uS 2) (ls, V) = (ls, V)) := tryP_end _ _ _ _ hr
          clear h0 hr
          go_wp2_with (first
                        | (go_at_call 59; (with_reducible refine (cut_c _ _ _).mono ?_); rintro e w' ⟨rfl, rfl⟩)
                        | (go_at_call 60; refine (number_c _ _ hsl).mono ?_; rintro e w' ⟨rfl, nq, rfl⟩))
          go_quiet (fail)
          go_wp2
          go_roundw
          case rel => exact ⟨2 + 1, V, ls, z, by omega, rfl, rfl, rfl, hsl, PJ_step l2 2 (by omega) (ls) (ls) V V HJ.out Ht.out, HS, hz0, by simp only [cumU]; omega, (hEr.alloc _).drewN _⟩
          case measure => simp [intOf]
        | cons d r2 =>
          have b1 : (rst (ls)).isEmpty = false := by rw [hr]; rfl
          have b2 : 0 < (rst (ls)).length := by rw [hr]; simp
          have b3 := bget (rst (ls)) 0 b2 d (by simp only [hr]; rfl)
          by_cases hd : d = 77
          · have b4 : ((d.toNat : Int) != 77) = false := by subst hd; rfl
            have Ht : Hid (tryP (uL 2) (uS 2) (ls, V) = (r2, V + numV (ls) * uS 2)) := tryP_yes _ _ _ _ _ (by omega) (by rw [hr, hd]; rfl)
            have b5 : (⟨(rst (ls)).toArray⟩ : ByteArray).extract 1 (rst (ls)).length = ⟨r2.toArray⟩ := by rw [bdrop, hr]; rfl
            have Hl : Hid (r2.length ≤ 9223372036854775806) := by have := rst_len (ls); rw [hr] at this; simp at this; unfold Hid; omega
            have HS2 : Hid (SumR (z + min (numV (ls) : Int) 4398046511105 * (60 : Int)) (V + numV (ls) * uS 2)) := HS.out.step 2
            obtain ⟨nv, hnv⟩ : ∃ nv, nv = min (numV (ls) : Int) 4398046511105 := ⟨_, rfl⟩
            have n1 : 0 ≤ nv := by omega
            have n2 : nv ≤ 4398046511105 := by omega
            have Hn := Lib.hid hnv
            rw [← hnv] at HS2
            clear h0 hr hd hnv
            go_wp2_with (first
                          | (go_at_call 59; (with_reducible refine (cut_c _ _ _).mono ?_); rintro e w' ⟨rfl, rfl⟩)
                          | (go_at_call 60; refine (number_c _ _ hsl).mono ?_; rintro e w' ⟨rfl, nq, rfl⟩))
            rw [← Hn.out]
            go_quiet (fail)
            go_wp2
            go_roundw
            case rel => exact ⟨2 + 1, V + numV (ls) * uS 2, r2, z + nv * 60, by omega, rfl, rfl, by congr 1 <;> omega, Hl.out, PJ_step l2 2 (by omega) (ls) r2 V _ HJ.out Ht.out, HS2, by omega, by simp only [cumU]; omega, (hEr.alloc _).drewN _⟩
            case measure => simp [intOf]
          · have b4 : ((d.toNat : Int) != 77) = true := by
              rw [bne_iff_ne]
              intro q
              exact hd (UInt8.toNat_inj.1 (by show d.toNat = 77; omega))
            have Ht : Hid (tryP (uL 2) (uS 2) (ls, V) = (ls, V)) := tryP_other _ d _ _ r2 _ hr hd
            clear h0 hr hd
            go_wp2_with (first
                          | (go_at_call 59; (with_reducible refine (cut_c _ _ _).mono ?_); rintro e w' ⟨rfl, rfl⟩)
                          | (go_at_call 60; refine (number_c _ _ hsl).mono ?_; rintro e w' ⟨rfl, nq, rfl⟩))
            go_quiet (fail)
            go_wp2
            go_roundw
            case rel => exact ⟨2 + 1, V, ls, z, by omega, rfl, rfl, rfl, hsl, PJ_step l2 2 (by omega) (ls) (ls) V V HJ.out Ht.out, HS, hz0, by simp only [cumU]; omega, (hEr.alloc _).drewN _⟩
            case measure => simp [intOf]
    · have HJ : Hid (PJ l2 3 ls V) := HP.out
      simp only [cumU] at hz1
      have hui := ui_3
      by_cases h0 : dgN (ls) = 0
      · have b0 : decide (0 < dgN (ls)) = false := by simp [h0]
        have Ht : Hid (tryP (uL 3) (uS 3) (ls, V) = (ls, V)) := tryP_no _ _ _ _ h0
        clear h0
        go_wp2_with (first
                      | (go_at_call 59; (with_reducible refine (cut_c _ _ _).mono ?_); rintro e w' ⟨rfl, rfl⟩)
                      | (go_at_call 60; refine (number_c _ _ hsl).mono ?_; rintro e w' ⟨rfl, nq, rfl⟩))
        go_quiet (fail)
        go_wp2
        go_roundw
        case rel => exact ⟨3 + 1, V, ls, z, by omega, rfl, rfl, rfl, hsl, PJ_step l2 3 (by omega) (ls) (ls) V V HJ.out Ht.out, HS, hz0, by simp only [cumU]; omega, (hEr.alloc _).drewN _⟩
        case measure => simp [intOf]
      · have b0 : decide (0 < dgN (ls)) = true := by simp; omega
        cases hr : rst (ls) with
        | nil =>
          have b1 : (rst (ls)).isEmpty = true := by rw [hr]; rfl
          have Ht : Hid (tryP (uL 3) (uS 3) (ls, V) = (ls, V)) := tryP_end _ _ _ _ hr
          clear h0 hr
          go_wp2_with (first
                        | (go_at_call 59; (with_reducible refine (cut_c _ _ _).mono ?_); rintro e w' ⟨rfl, rfl⟩)
                        | (go_at_call 60; refine (number_c _ _ hsl).mono ?_; rintro e w' ⟨rfl, nq, rfl⟩))
          go_quiet (fail)
          go_wp2
          go_roundw
          case rel => exact ⟨3 + 1, V, ls, z, by omega, rfl, rfl, rfl, hsl, PJ_step l2 3 (by omega) (ls) (ls) V V HJ.out Ht.out, HS, hz0, by simp only [cumU]; omega, (hEr.alloc _).drewN _⟩
          case measure => simp [intOf]
        | cons d r2 =>
          have b1 : (rst (ls)).isEmpty = false := by rw [hr]; rfl
          have b2 : 0 < (rst (ls)).length := by rw [hr]; simp
          have b3 := bget (rst (ls)) 0 b2 d (by simp only [hr]; rfl)
          by_cases hd : d = 83
          · have b4 : ((d.toNat : Int) != 83) = false := by subst hd; rfl
            have Ht : Hid (tryP (uL 3) (uS 3) (ls, V) = (r2, V + numV (ls) * uS 3)) := tryP_yes _ _ _ _ _ (by omega) (by rw [hr, hd]; rfl)
            have b5 : (⟨(rst (ls)).toArray⟩ : ByteArray).extract 1 (rst (ls)).length = ⟨r2.toArray⟩ := by rw [bdrop, hr]; rfl
            have Hl : Hid (r2.length ≤ 9223372036854775806) := by have := rst_len (ls); rw [hr] at this; simp at this; unfold Hid; omega
            have HS2 : Hid (SumR (z + min (numV (ls) : Int) 4398046511105 * (1 : Int)) (V + numV (ls) * uS 3)) := HS.out.step 3
            obtain ⟨nv, hnv⟩ : ∃ nv, nv = min (numV (ls) : Int) 4398046511105 := ⟨_, rfl⟩
            have n1 : 0 ≤ nv := by omega
            have n2 : nv ≤ 4398046511105 := by omega
            have Hn := Lib.hid hnv
            rw [← hnv] at HS2
            clear h0 hr hd hnv
            go_wp2_with (first
                          | (go_at_call 59; (with_reducible refine (cut_c _ _ _).mono ?_); rintro e w' ⟨rfl, rfl⟩)
                          | (go_at_call 60; refine (number_c _ _ hsl).mono ?_; rintro e w' ⟨rfl, nq, rfl⟩))
            rw [← Hn.out]
            go_quiet (fail)
            go_wp2
            go_roundw
            case rel => exact ⟨3 + 1, V + numV (ls) * uS 3, r2, z + nv * 1, by omega, rfl, rfl, by congr 1 <;> omega, Hl.out, PJ_step l2 3 (by omega) (ls) r2 V _ HJ.out Ht.out, HS2, by omega, by simp only [cumU]; omega, (hEr.alloc _).drewN _⟩
            case measure => simp [intOf]
          · have b4 : ((d.toNat : Int) != 83) = true := by
              rw [bne_iff_ne]
              intro q
              exact hd (UInt8.toNat_inj.1 (by show d.toNat = 83; omega))
            have Ht : Hid (tryP (uL 3) (uS 3) (ls, V) = (ls, V)) := tryP_other _ d _ _ r2 _ hr hd
            clear h0 hr hd
            go_wp2_with (first
                          | (go_at_call 59; (with_reducible refine (cut_c _ _ _).mono ?_); rintro e w' ⟨rfl, rfl⟩)
                          | (go_at_call 60; refine (number_c _ _ hsl).mono ?_; rintro e w' ⟨rfl, nq, rfl⟩))
            go_quiet (fail)
            go_wp2
            go_roundw
            case rel => exact ⟨3 + 1, V, ls, z, by omega, rfl, rfl, rfl, hsl, PJ_step l2 3 (by omega) (ls) (ls) V V HJ.out Ht.out, HS, hz0, by simp only [cumU]; omega, (hEr.alloc _).drewN _⟩
            case measure => simp [intOf]
    · rcases Bool.eq_false_or_eq_true ls.isEmpty with q0 | q0
      · have Hq : Hid (bodyP l2 = some V) := by
          have h : bodyP l2 = fin (ls, V) := HP.out
          obtain rfl : ls = [] := List.isEmpty_iff.1 q0
          exact h
        rcases Bool.eq_false_or_eq_true (cutB 45 l) with m0 | m0
        all_goals
          by_cases hz : 4398046511104 < z
          · have Hres : Hid (parD l = (0, 9)) := by
              rw [Hid, HpE.out, Hq.out]
              dsimp only
              rw [if_pos (by have := HS.out; unfold SumR at this; omega)]
            go_wp2_with (first
                          | (go_at_call 59; (with_reducible refine (cut_c _ _ _).mono ?_); rintro e w' ⟨rfl, rfl⟩)
                          | (go_at_call 60; refine (number_c _ _ hsl).mono ?_; rintro e w' ⟨rfl, nq, rfl⟩))
            try rw [Exit.noGoto_ret]
            go_ret2
            exact ⟨by rw [Hres.out]; rfl, by (repeat (with_reducible (first | assumption | exact Ext.refl _ | refine Ext.alloc ?_ _ | refine Ext.setCell ?_ (by simp) _ | refine Ext.setCell ?_ (by simp; omega) _ | refine Ext.drewN ?_ _ | refine Ext.drew ?_)))⟩
          · have Hres : Hid (parD l = (if cutB 45 l then -z else z, 0)) := by
              have hv : z = V := by have := HS.out; unfold SumR at this; omega
              rw [Hid, HpE.out, Hq.out]
              dsimp only
              rw [if_neg (by have := HS.out; unfold SumR at this; omega), hv]
            go_wp2_with (first
                          | (go_at_call 59; (with_reducible refine (cut_c _ _ _).mono ?_); rintro e w' ⟨rfl, rfl⟩)
                          | (go_at_call 60; refine (number_c _ _ hsl).mono ?_; rintro e w' ⟨rfl, nq, rfl⟩))
            all_goals first
              | (exfalso; have h9 : cutB 45 l = true := by assumption
                 have h8 : cutB 45 l = false := by assumption
                 rw [h9] at h8; cases h8; done)
              | (try rw [Exit.noGoto_ret]
                 go_ret2
                 exact ⟨by rw [Hres.out, m0]; rfl, by (repeat (with_reducible (first | assumption | exact Ext.refl _ | refine Ext.alloc ?_ _ | refine Ext.setCell ?_ (by simp) _ | refine Ext.setCell ?_ (by simp; omega) _ | refine Ext.drewN ?_ _ | refine Ext.drew ?_)))⟩)
      · have Hq : Hid (bodyP l2 = none) := by
          have h : bodyP l2 = fin (ls, V) := HP.out
          cases ls with
          | nil => cases q0
          | cons c r => exact h
        have Hres : Hid (parD l = (0, 3)) := by rw [Hid, HpE.out, Hq.out]
        go_wp2_with (first
                      | (go_at_call 59; (with_reducible refine (cut_c _ _ _).mono ?_); rintro e w' ⟨rfl, rfl⟩)
                      | (go_at_call 60; refine (number_c _ _ hsl).mono ?_; rintro e w' ⟨rfl, nq, rfl⟩))
        try rw [Exit.noGoto_ret]
        go_ret2
        exact ⟨by rw [Hres.out]; rfl, by (repeat (with_reducible (first | assumption | exact Ext.refl _ | refine Ext.alloc ?_ _ | refine Ext.setCell ?_ (by simp) _ | refine Ext.setCell ?_ (by simp; omega) _ | refine Ext.drewN ?_ _ | refine Ext.drew ?_)))⟩

set_option maxRecDepth 100000 in
theorem pd_c (l : List UInt8) (w : World) (hL : Laid w) (hl : l.length ≤ 9223372036854775806) :
    Calls Tryd.prog 34 #[.string ⟨l.toArray⟩] w fun e w' => e = .returned (.tuple #[.int .i64 (parD l).1, .int .i64 (parD l).2]) ∧ Ext w w' := by
  rcases Bool.eq_false_or_eq_true (cutB 80 (cutL 45 l)) with hb | hb
  · rcases Bool.eq_false_or_eq_true (cutL 80 (cutL 45 l)).isEmpty with he | he
    · have Hr := Lib.hid (parD_no l (by rw [he]; simp))
      clear hL
      go_enter Tryd.func34, Tryd.ntmps34
      go_wp2_with fail
      go_step3
      go_wp2_with (first | (go_at_call 59; (with_reducible refine (cut_c _ _ _).mono ?_); rintro e w' ⟨rfl, rfl⟩))
      try rw [Exit.noGoto_ret]
      go_ret2
      exact ⟨by rw [Hr.out]; rfl, Ext.refl _⟩
    · exact pd_body l w hL hl hb he
  · have Hr := Lib.hid (parD_no l (by rw [hb]; simp))
    clear hL
    go_enter Tryd.func34, Tryd.ntmps34
    go_wp2_with fail
    go_step3
    go_wp2_with (first | (go_at_call 59; (with_reducible refine (cut_c _ _ _).mono ?_); rintro e w' ⟨rfl, rfl⟩))
    try rw [Exit.noGoto_ret]
    go_ret2
    exact ⟨by rw [Hr.out]; rfl, Ext.refl _⟩
end Go.Proofs.YtplckoffiebibaaDoor
