/- Patterns: the walks of the search for a name that begins another. -/
import Derived.Test.YticckkadmhklmaaGreatDoorK03
import Derived.Test.YticckkadmhklmaaGreatDoorK00
import Derived.Test.YticckkadmhklmaaGreatDoorShelf
import Derived.Laws.OwnMore
import Derived.BigQuiet
import Derived.StillTail
import Derived.Deep.MidRow
namespace Go.Proofs.YticckkadmhklmaaGreatDoor
set_option linter.unusedVariables false
set_option linter.unusedSimpArgs false
open Go.RowKit

theorem hasPrefix_l (s p : List UInt8) (b : Bool) (w : World) (h : p.isPrefixOf s = b) : Calls Tryz.prog 39 #[.string ⟨s.toArray⟩, .string ⟨p.toArray⟩] w fun e w' => e = .returned (.bool b) ∧ w = w' := by
  refine (Tryz.strings_HasPrefix ⟨s.toArray⟩ ⟨p.toArray⟩ w).mono ?_
  rintro e w' ⟨rfl, rfl⟩
  refine ⟨?_, rfl⟩
  rw [← h]
  rfl
/-- Whether one of them begins with the other. -/
def eqpB (s t : List UInt8) : Bool := t.isPrefixOf s || s.isPrefixOf t
theorem clo_c (s t : List UInt8) (S : Nat) (w : World) (hS : w.cell? ⟨S, 0, none⟩ = some (.string ⟨s.toArray⟩)) :
    Calls Tryz.prog 38 #[.string ⟨t.toArray⟩, .pointer (some ⟨S, 0, none⟩)] w fun e w' => e = .returned (.bool (eqpB s t)) ∧ w = w' := by
  rcases Bool.eq_false_or_eq_true (t.isPrefixOf s) with h1 | h1
  · have H1 := Lib.hid h1
    have HE : Hid (eqpB s t = true) := by unfold Hid eqpB; rw [h1]; rfl
    clear h1
    go_enter Tryz.func38, Tryz.ntmps38
    go_wp2_with (first
      | (go_at_call 39; (with_reducible refine (hasPrefix_l s t true _ H1.out).mono ?_); rintro e w1 ⟨rfl, rfl⟩))
    go_ret
    exact ⟨by rw [HE.out]; rfl, rfl⟩
  · have H1 := Lib.hid h1
    have HE : Hid (eqpB s t = s.isPrefixOf t) := by unfold Hid eqpB; rw [h1]; rfl
    obtain ⟨b, hb⟩ : ∃ b, s.isPrefixOf t = b := ⟨_, rfl⟩
    have H2 := Lib.hid hb
    rw [hb] at HE
    clear h1 hb
    go_enter Tryz.func38, Tryz.ntmps38
    go_wp2_with (first
      | (go_at_call 39; (with_reducible refine (hasPrefix_l s t false _ H1.out).mono ?_); rintro e w1 ⟨rfl, rfl⟩)
      | (go_at_call 39; (with_reducible refine (hasPrefix_l t s b _ H2.out).mono ?_); rintro e w1 ⟨rfl, rfl⟩))
    go_ret
    exact ⟨by rw [HE.out]; rfl, rfl⟩
set_option maxHeartbeats 1000000 in
theorem idx_c (ws : List (List UInt8)) (s : List UInt8) (R off cap S : Nat) (w : World) (hw : RdS ws R off w) (hS : w.cell? ⟨S, 0, none⟩ = some (.string ⟨s.toArray⟩)) (hn : ws.length ≤ 1000) (hcap : ws.length ≤ cap) (hm : cap ≤ maxLen) :
    Calls Tryz.prog 67 #[.slice (some ⟨R, off, none⟩) ws.length cap, .func (.func 38) #[] #[.pointer (some ⟨S, 0, none⟩)]] w fun e w' => (∃ z : Int, e = .returned (.int .i64 z) ∧ (decide (0 ≤ z) = preB ws s)) ∧ w = w' := by
  have HR := Lib.hid hw.2
  have HP : Hid (preB ws s = ws.any (eqpB s)) := rfl
  unfold maxLen at hm
  clear hw
  go_enter Tryz.func67, Tryz.ntmps67
  go_wp2_with fail
  go_loop [8] (fun i => ∃ j : Nat, j ≤ ws.length ∧ i = .int .i64 (j : Int) ∧ Hid ((ws.take j).any (eqpB s) = false)) (fun i => ws.length - (intOf i).toNat)
  case atStart => exact ⟨0, Nat.zero_le _, rfl, rfl⟩
  case round =>
    obtain ⟨j, hj, rfl, Hall⟩ := hrel
    by_cases hlt : j < ws.length
    · have c0 := HR.out j hlt
      have Hs : Hid ((ws.take (j + 1)).any (eqpB s) = ((ws.take j).any (eqpB s) || eqpB s ws[j])) := by rw [Hid, List.take_add_one, List.any_append]; simp [hlt]
      have hmem : ws[j] ∈ ws := List.getElem_mem _
      obtain ⟨t, ht⟩ : ∃ t, t = ws[j] := ⟨_, rfl⟩
      rw [← ht] at c0 Hs hmem
      clear ht
      rcases Bool.eq_false_or_eq_true (eqpB s t) with hp | hp
      · have HV : Hid (preB ws s = true) := by rw [Hid, HP.out, List.any_eq_true]; exact ⟨t, hmem, hp⟩
        have Hp := Lib.hid hp
        clear hp hmem
        go_wp2_with (first
          | (go_at_call 38; (with_reducible refine (clo_c s t S _ hS).mono ?_); (with_reducible rw [Hp.out]); rintro e w1 ⟨rfl, rfl⟩))
        go_ret
        exact ⟨⟨(j : Int), rfl, by rw [HV.out]; simp⟩, rfl⟩
      · have Hp := Lib.hid hp
        have Hn : Hid ((ws.take (j + 1)).any (eqpB s) = false) := by rw [Hid, Hs.out, Hall.out, hp]; rfl
        clear hp hmem
        go_wp2_with (first
          | (go_at_call 38; (with_reducible refine (clo_c s t S _ hS).mono ?_); (with_reducible rw [Hp.out]); rintro e w1 ⟨rfl, rfl⟩))
        go_round
        case rel => exact ⟨j + 1, by omega, by go_num, Hn⟩
        case measure => simp [intOf]; omega
    · obtain rfl : j = ws.length := by omega
      have HV : Hid (preB ws s = false) := by rw [Hid, HP.out]; have := Hall.out; rwa [List.take_length] at this
      go_wp2_with fail
      go_ret
      exact ⟨⟨-1, rfl, by rw [HV.out]; rfl⟩, rfl⟩
theorem cfn_c (ws : List (List UInt8)) (s : List UInt8) (R off cap S : Nat) (b : Bool) (w : World) (hw : RdS ws R off w) (hS : w.cell? ⟨S, 0, none⟩ = some (.string ⟨s.toArray⟩)) (hn : ws.length ≤ 1000) (hcap : ws.length ≤ cap) (hm : cap ≤ maxLen) (hb : preB ws s = b) :
    Calls Tryz.prog 26 #[.slice (some ⟨R, off, none⟩) ws.length cap, .func (.func 38) #[] #[.pointer (some ⟨S, 0, none⟩)]] w fun e w' => e = .returned (.bool b) ∧ w = w' := by
  have HC := Lib.hid (idx_c ws s R off cap S w hw hS hn hcap hm)
  have Hb := Lib.hid hb
  clear hb
  go_enter Tryz.func26, Tryz.ntmps26
  go_wp2_with (first
    | (go_at_call 67; (with_reducible refine HC.out.mono ?_); rintro e w1 ⟨⟨z, rfl, hz⟩, rfl⟩))
  go_ret
  exact ⟨congrArg (fun b => Ending.returned (Value.bool b)) Hb.out, rfl⟩
end Go.Proofs.YticckkadmhklmaaGreatDoor
/- Patterns: the walks of the questions on bytes and kinds. -/
namespace Go.Proofs.YticckkadmhklmaaGreatDoor
set_option linter.unusedVariables false
set_option linter.unusedSimpArgs false
open Go.RowKit

theorem isLt_c (c : UInt8) (w : World) : Calls Tryz.prog 30 #[.int .u8 (c.toNat : Int)] w fun e w' => e = .returned (.bool (isLt c)) ∧ w = w' := by
  have hc : c.toNat < 256 := c.toNat_lt
  go_enter Tryz.func30, Tryz.ntmps30
  go_wp2
  all_goals
    go_ret
    refine ⟨?_, rfl⟩
    refine congrArg (fun b => Ending.returned (Value.bool b)) ?_
    unfold isLt
    rw [Bool.eq_iff_iff]
    simp
    omega
theorem isDg_c (c : UInt8) (w : World) : Calls Tryz.prog 45 #[.int .u8 (c.toNat : Int)] w fun e w' => e = .returned (.bool (isDg c)) ∧ w = w' := by
  have hc : c.toNat < 256 := c.toNat_lt
  go_enter Tryz.func45, Tryz.ntmps45
  go_wp2
  all_goals
    go_ret
    refine ⟨?_, rfl⟩
    refine congrArg (fun b => Ending.returned (Value.bool b)) ?_
    unfold isDg
    rw [Bool.eq_iff_iff]
    simp
    omega
theorem prn_c (c : UInt8) (w : World) : Calls Tryz.prog 49 #[.int .u8 (c.toNat : Int)] w fun e w' => e = .returned (.bool (prn c)) ∧ w = w' := by
  have hc : c.toNat < 256 := c.toNat_lt
  go_enter Tryz.func49, Tryz.ntmps49
  go_wp2
  all_goals
    go_ret
    refine ⟨?_, rfl⟩
    refine congrArg (fun b => Ending.returned (Value.bool b)) ?_
    unfold prn
    rw [Bool.eq_iff_iff]
    simp
    omega
theorem full_c (k : Int) (w : World) : Calls Tryz.prog 44 #[.int .i64 k] w fun e w' => e = .returned (.int .i64 (fullZ k)) ∧ w = w' := by
  go_enter Tryz.func44, Tryz.ntmps44
  go_wp2
  all_goals
    go_ret
    refine ⟨?_, rfl⟩
    refine congrArg (fun b => Ending.returned (Value.int .i64 b)) ?_
    unfold fullZ
    simp_all
theorem letter_c (k : Nat) (hk : k < 16) (w : World) : Calls Tryz.prog 32 #[.int .i64 (k : Int)] w fun e w' => e = .returned (.int .u8 ((lpK (k : Int)).toNat : Int)) ∧ w = w' := by
  have hl := bget letP k (by simpa [letP] using hk) (lpK (k : Int)) (by unfold lpK; simp [List.getD]; rw [List.getElem?_eq_getElem (by simpa [letP] using hk)]; rfl)
  replace hl : (⟨#[63, 39, 121, 77, 77, 77, 100, 69, 69, 72, 104, 109, 115, 97, 90, 122]⟩ : ByteArray)[k]'(by show k < 16; exact hk) = lpK (k : Int) := hl
  have hz : (⟨#[63, 39, 121, 77, 77, 77, 100, 69, 69, 72, 104, 109, 115, 97, 90, 122]⟩ : ByteArray).size = 16 := rfl
  go_enter Tryz.func32, Tryz.ntmps32
  go_wp2
  go_ret
  exact ⟨rfl, rfl⟩
theorem tyC_c (c : UInt8) (w : World) : Calls Tryz.prog 85 #[.int .u8 (c.toNat : Int)] w fun e w' => e = .returned (.bool (isLt c || isDg c || decide (c = 43) || decide (c = 45))) ∧ w = w' := by
  have hc : c.toNat < 256 := c.toNat_lt
  have e1 := u8_beq (c := c) (k := 43) (by decide)
  have e2 := u8_beq (c := c) (k := 45) (by decide)
  go_enter Tryz.func85, Tryz.ntmps85
  go_wp2_with (first
    | (go_at_call 30; refine (isLt_c c _).mono ?_; rintro e w1 ⟨rfl, rfl⟩)
    | (go_at_call 45; refine (isDg_c c _).mono ?_; rintro e w1 ⟨rfl, rfl⟩)
    | go_in)
  all_goals
    go_ret
    refine ⟨?_, rfl⟩
    refine congrArg (fun b => Ending.returned (Value.bool b)) ?_
    have e1' : ((c.toNat : Int) == 43) = decide (c = 43) := e1
    have e2' : ((c.toNat : Int) == 45) = decide (c = 45) := e2
    first
      | (simp_all; done)
      | (rw [e1', e2']; simp_all; done)
end Go.Proofs.YticckkadmhklmaaGreatDoor
/- The cells of a list of parts. -/
namespace Go.Proofs.YticckkadmhklmaaGreatDoor
set_option linter.unusedVariables false
set_option linter.unusedSimpArgs false

def pc (p : Prt) : List Value := [.int .i64 p.k, .int .i64 p.w, .string ⟨p.t.toArray⟩]
def pcs (l : List Prt) : List Value := l.flatMap pc
theorem pcs_nil : pcs [] = [] := rfl
theorem pcs_app (a b : List Prt) : pcs (a ++ b) = pcs a ++ pcs b := by simp [pcs]
theorem pcs_one (p : Prt) : pcs [p] = pc p := by simp [pcs]
theorem pcs_cons (p : Prt) (r : List Prt) : pcs (p :: r) = pc p ++ pcs r := by simp [pcs]
theorem pcs_len (l : List Prt) : (pcs l).length = 3 * l.length := by
  induction l with
  | nil => rfl
  | cons p r ih => rw [pcs_cons, List.length_append, ih]; simp [pc]; omega
theorem pcs_at : ∀ (l : List Prt) (i : Nat) (h : i < l.length), (pcs l)[3 * i]? = some (.int .i64 l[i].k) ∧ (pcs l)[3 * i + 1]? = some (.int .i64 l[i].w) ∧ (pcs l)[3 * i + 2]? = some (.string ⟨l[i].t.toArray⟩)
  | [], i, h => by simp at h
  | p :: r, 0, _ => by rw [pcs_cons]; exact ⟨rfl, rfl, rfl⟩
  | p :: r, i + 1, h => by
    have h' : i < r.length := by simpa using h
    obtain ⟨a, b, c⟩ := pcs_at r i h'
    rw [pcs_cons]
    have e : ∀ k, (pc p ++ pcs r)[3 * (i + 1) + k]? = (pcs r)[3 * i + k]? := by
      intro k
      rw [List.getElem?_append_right (by simp [pc]; omega)]
      congr 1
      simp [pc]; omega
    exact ⟨(e 0).trans a, (e 1).trans b, (e 2).trans c⟩
/-- A new text of the last part. -/
theorem pcs_set (r : List Prt) (p : Prt) (t : List UInt8) : (pcs (r ++ [p])).set (3 * r.length + 2) (.string ⟨t.toArray⟩) = pcs (r ++ [⟨p.k, p.w, t⟩]) := by
  rw [pcs_app, pcs_app, pcs_one, pcs_one, List.set_append_right _ _ (by rw [pcs_len]; omega), pcs_len]
  congr 1
  rw [show 3 * r.length + 2 - 3 * r.length = 2 by omega]
  rfl
theorem pcs_one_cell (l : List Prt) : ∀ u ∈ pcs l, u.oneCell' = true := by
  intro u hu
  unfold pcs at hu
  rw [List.mem_flatMap] at hu
  obtain ⟨p, _, hp⟩ := hu
  simp only [pc, List.mem_cons, List.not_mem_nil, or_false] at hp
  rcases hp with rfl | rfl | rfl <;> rfl
end Go.Proofs.YticckkadmhklmaaGreatDoor
/- Patterns: the walk of part. -/
namespace Go.Proofs.YticckkadmhklmaaGreatDoor
set_option linter.unusedVariables false
set_option linter.unusedSimpArgs false
open Go.RowKit

theorem all_succ {α : Type} (P : List α) (f : α → Bool) (j : Nat) (h : j < P.length) : (P.take (j + 1)).all f = ((P.take j).all f && f P[j]) := by
  rw [List.take_add_one, List.all_append]; simp [h]
theorem prn_lit (c : UInt8) (b : Bool) (w : World) (h : prn c = b) : Calls Tryz.prog 49 #[.int .u8 (c.toNat : Int)] w fun e w' => e = .returned (.bool b) ∧ w = w' := by
  have q := prn_c c w
  rw [h] at q
  exact q
def pv (p : Prt) : Value := .agg #[.int .i64 p.k, .int .i64 p.w, .string ⟨p.t.toArray⟩]
set_option maxRecDepth 100000 in
theorem part_c (p : Prt) (w : World) (hl : p.t.length ≤ 4000) : Calls Tryz.prog 69 #[pv p] w fun e w' => e = .returned (.bool (partB p)) ∧ Ext w w' := by
  obtain ⟨k, wd, t⟩ := p
  show Calls Tryz.prog 69 #[.agg #[.int .i64 k, .int .i64 wd, .string ⟨t.toArray⟩]] w _
  by_cases hk : k = 1
  · subst hk
    have hE := Ext.refl w
    by_cases h1 : wd = 0 ∧ 1 ≤ t.length ∧ t.length ≤ 100
    · go_enter Tryz.func69, Tryz.ntmps69
      go_wp2
      have hW : Ext w (w.alloc (.cells #[Value.int .i64 1, Value.int .i64 0, Value.string ⟨t.toArray⟩] 38)) := hE.alloc _
      have c2 : (w.alloc (.cells #[Value.int .i64 1, Value.int .i64 0, Value.string ⟨t.toArray⟩] 38)).cell? ⟨w.heap.size, 2, none⟩ = some (.string ⟨t.toArray⟩) := by rw [World.cell?_alloc_new]; rfl
      generalize w.alloc (.cells #[Value.int .i64 1, Value.int .i64 0, Value.string ⟨t.toArray⟩] 38) = W at hW c2 ⊢
      generalize w.heap.size = B at c2 ⊢
      obtain ⟨hw0, hw1, hw2⟩ := h1
      go_loopw [26] (fun i wr => ∃ j : Nat, j ≤ t.length ∧ i = .int .i64 (j : Int) ∧ Hid ((t.take j).all prn = true) ∧ wr = W) (fun i _ => t.length - (intOf i).toNat)
      case atStart => exact ⟨0, Nat.zero_le _, rfl, rfl, rfl⟩
      case round =>
        obtain ⟨j, hj, rfl, Hall, rfl⟩ := hrel
        by_cases hlt : j < t.length
        · have hb := bget t j hlt _ rfl
          have Hs := Lib.hid (all_succ t prn j hlt)
          obtain ⟨c, hc⟩ : ∃ c, c = t[j] := ⟨_, rfl⟩
          rw [← hc] at hb Hs
          have hm : c ∈ t := by rw [hc]; exact List.getElem_mem _
          clear hc
          rcases Bool.eq_false_or_eq_true (prn c) with hpc | hpc
          · have Hp := Lib.hid hpc
            have Hn : Hid ((t.take (j + 1)).all prn = true) := by rw [Hid, Hs.out, Hall.out, hpc]; rfl
            clear hpc
            go_wp2_with (first
              | (go_at_call 49; with_reducible refine (prn_lit c true _ Hp.out).mono ?_; rintro e w1 ⟨rfl, rfl⟩)
              | go_in)
            refine ⟨⟨j + 1, by omega, by simp, Hn, by trivial⟩, ?_⟩
            simp only [intOf]; omega
          · have Hp := Lib.hid hpc
            have hall : t.all prn = false := by
              cases e : t.all prn with
              | false => rfl
              | true => rw [List.all_eq_true.1 e c hm] at hpc; cases hpc
            have Ha := Lib.hid hall
            clear hpc hall
            go_wp2_with (first
              | (go_at_call 49; with_reducible refine (prn_lit c false _ Hp.out).mono ?_; rintro e w1 ⟨rfl, rfl⟩)
              | go_in)
            go_ret
            refine ⟨?_, hW⟩
            refine congrArg (fun b => Ending.returned (Value.bool b)) ?_
            unfold partB
            simp [Ha.out]
        · have hjl : j = t.length := by omega
          subst hjl
          have Hall' : t.all prn = true := by have := Hall.out; rwa [List.take_length] at this
          have Ha := Lib.hid Hall'
          go_wp2
          go_ret
          refine ⟨?_, hW⟩
          refine congrArg (fun b => Ending.returned (Value.bool b)) ?_
          unfold partB
          simp [hw0, Ha.out]
          omega
    · have Hno : Hid (partB ⟨1, wd, t⟩ = false) := by
        cases e : partB ⟨1, wd, t⟩ with
        | false => rfl
        | true =>
          unfold partB at e
          simp only [if_pos, Bool.and_eq_true, decide_eq_true_eq] at e
          exact absurd ⟨e.1.1.1, e.1.1.2, e.1.2⟩ h1
      by_cases hw : wd = 0
      · subst hw
        by_cases hl1 : 1 ≤ t.length
        · have hl2 : 100 < t.length := by omega
          clear h1
          go_enter Tryz.func69, Tryz.ntmps69
          go_wp2
          all_goals
            go_ret
            refine ⟨?_, hE.alloc _⟩
            refine congrArg (fun b => Ending.returned (Value.bool b)) ?_
            rw [Hno.out]
        · have hl2 : t.length < 1 := by omega
          clear h1 hl1
          go_enter Tryz.func69, Tryz.ntmps69
          go_wp2
          all_goals
            go_ret
            refine ⟨?_, hE.alloc _⟩
            refine congrArg (fun b => Ending.returned (Value.bool b)) ?_
            rw [Hno.out]
      · have t1 : (wd == 0) = false := by simpa using hw
        have t2 : (wd != 0) = true := by simpa using hw
        clear h1
        go_enter Tryz.func69, Tryz.ntmps69
        go_wp2
        all_goals
          go_ret
          refine ⟨?_, hE.alloc _⟩
          refine congrArg (fun b => Ending.returned (Value.bool b)) ?_
          rw [Hno.out]
  · have hE := Ext.refl w
    have t0 : (k == 1) = false := by simpa using hk
    by_cases hA : 1 ≤ k ∧ k ≤ 15 ∧ t = []
    · obtain ⟨h1, h2, rfl⟩ := hA
      have HF : Hid (partB ⟨k, wd, []⟩ = if 0 < fullZ k then decide (1 ≤ wd) && decide (wd ≤ fullZ k) else decide (wd = 0)) := by
        unfold Hid partB
        simp [hk, h1, h2]
      have hn := fullZ_nonneg k
      obtain ⟨n, hnn⟩ : ∃ n, n = fullZ k := ⟨_, rfl⟩
      have HC : ∀ w, Calls Tryz.prog 44 #[.int .i64 k] w fun e w' => e = .returned (.int .i64 n) ∧ w = w' := fun w => by rw [hnn]; exact full_c k w
      have HC' := Lib.hid HC
      rw [← hnn] at HF hn
      clear HC hnn
      go_enter Tryz.func69, Tryz.ntmps69
      go_wp2_with (first
        | (go_at_call 44; with_reducible refine (HC'.out _).mono ?_; rintro e w1 ⟨rfl, rfl⟩)
        | go_in)
      all_goals
        go_ret
        refine ⟨?_, hE.alloc _⟩
        refine congrArg (fun b => Ending.returned (Value.bool b)) ?_
        rw [HF.out]
        first
          | (rw [if_neg (by omega), Bool.eq_iff_iff]; simp; done)
          | (rw [if_pos (by omega), Bool.eq_iff_iff]; simp; omega)
          | (rw [if_pos (by omega), Bool.eq_iff_iff]; simp; done)
          | trace_state
    · have Hno : Hid (partB ⟨k, wd, t⟩ = false) := by
        cases e : partB ⟨k, wd, t⟩ with
        | false => rfl
        | true =>
          unfold partB at e
          simp only [if_neg hk, Bool.and_eq_true, decide_eq_true_eq, List.isEmpty_iff] at e
          exact absurd ⟨e.1.1.1, e.1.1.2, e.1.2⟩ hA
      by_cases h1 : 1 ≤ k ∧ k ≤ 15
      · have t1 : (t == []) = false := by
          rw [beq_eq_false_iff_ne]; exact fun q => hA ⟨h1.1, h1.2, q⟩
        obtain ⟨h2, h3⟩ := h1
        clear hA
        go_enter Tryz.func69, Tryz.ntmps69
        go_wp2
        all_goals
          go_ret
          refine ⟨?_, hE.alloc _⟩
          refine congrArg (fun b => Ending.returned (Value.bool b)) ?_
          rw [Hno.out]
      · clear hA
        by_cases h2 : 1 ≤ k
        · have h3 : 15 < k := by omega
          clear h1
          go_enter Tryz.func69, Tryz.ntmps69
          go_wp2
          all_goals
            go_ret
            refine ⟨?_, hE.alloc _⟩
            refine congrArg (fun b => Ending.returned (Value.bool b)) ?_
            rw [Hno.out]
        · have h3 : k < 1 := by omega
          clear h1 h2
          go_enter Tryz.func69, Tryz.ntmps69
          go_wp2
          all_goals
            go_ret
            refine ⟨?_, hE.alloc _⟩
            refine congrArg (fun b => Ending.returned (Value.bool b)) ?_
            rw [Hno.out]
end Go.Proofs.YticckkadmhklmaaGreatDoor
/- Patterns: the walks of digits, colon, typeName, name. -/
namespace Go.Proofs.YticckkadmhklmaaGreatDoor
set_option linter.unusedVariables false
set_option linter.unusedSimpArgs false
open Go.RowKit

theorem isDg_lit (c : UInt8) (b : Bool) (w : World) (h : isDg c = b) : Calls Tryz.prog 45 #[.int .u8 (c.toNat : Int)] w fun e w' => e = .returned (.bool b) ∧ w = w' := by
  have q := isDg_c c w
  rw [h] at q
  exact q
theorem tyC_lit (c : UInt8) (b : Bool) (w : World) (h : tyC c = b) : Calls Tryz.prog 85 #[.int .u8 (c.toNat : Int)] w fun e w' => e = .returned (.bool b) ∧ w = w' := by
  have q := tyC_c c w
  rw [← h]
  exact q
theorem isLt_lit (c : UInt8) (b : Bool) (w : World) (h : isLt c = b) : Calls Tryz.prog 30 #[.int .u8 (c.toNat : Int)] w fun e w' => e = .returned (.bool b) ∧ w = w' := by
  have q := isLt_c c w
  rw [h] at q
  exact q
/-- The length of the longest head of which all are p. -/
theorem twl_eq {p : UInt8 → Bool} : ∀ (r : List UInt8) (m : Nat), (∀ k, k < m → ∃ c, r[k]? = some c ∧ p c = true) → (∀ c, r[m]? = some c → p c = false) → (r.takeWhile p).length = m
  | [], 0, _, _ => rfl
  | [], m + 1, h, _ => by obtain ⟨c, hc, _⟩ := h 0 (by omega); simp at hc
  | x :: r, 0, _, h2 => by
    rw [List.takeWhile_cons_of_neg (by rw [h2 x rfl]; simp)]; rfl
  | x :: r, m + 1, h1, h2 => by
    obtain ⟨c, hc, hp⟩ := h1 0 (by omega)
    have e : x = c := by simpa using hc
    have ih := twl_eq r m (fun k hk => by obtain ⟨c, a, b⟩ := h1 (k + 1) (by omega); exact ⟨c, by simpa using a, b⟩) (fun c hc => h2 c (by simpa using hc))
    rw [List.takeWhile_cons_of_pos (by rw [e]; exact hp), List.length_cons, ih]
theorem digits_c (s : List UInt8) (n : Nat) (w : World) (hs : s.length ≤ 9223372036854775806) (hn : n ≤ 1000) :
    Calls Tryz.prog 91 #[.string ⟨s.toArray⟩, .int .i64 (n : Int)] w fun e w' => e = .returned (.int .i64 (digN s n : Int)) ∧ w = w' := by
  go_enter Tryz.func91, Tryz.ntmps91
  go_wp2_with fail
  go_loop [5] (fun i => ∃ k : Nat, i = .int .i64 (k : Int) ∧ k ≤ s.length ∧ k ≤ n ∧ Hid (∀ j, j < k → ∃ c, (s.take n)[j]? = some c ∧ isDg c = true)) (fun i => s.length - (intOf i).toNat)
  case atStart => exact ⟨0, rfl, by omega, by omega, fun j hj => absurd hj (Nat.not_lt_zero j)⟩
  case round =>
    obtain ⟨k, rfl, hk, hkn, Hall⟩ := hrel
    by_cases hlt : k < s.length
    · by_cases hln : k < n
      · have hb := bget s k hlt _ rfl
        have e1 : (s.take n)[k]? = some s[k] := by rw [List.getElem?_take_of_lt hln]; exact List.getElem?_eq_getElem hlt
        obtain ⟨c, hc⟩ : ∃ c, c = s[k] := ⟨_, rfl⟩
        rw [← hc] at hb e1
        clear hc
        rcases Bool.eq_false_or_eq_true (isDg c) with hd | hd
        · have Hd := Lib.hid hd
          have Hn : Hid (∀ j, j < k + 1 → ∃ c, (s.take n)[j]? = some c ∧ isDg c = true) := by
            intro j hj
            by_cases e : j = k
            · rw [e]; exact ⟨c, e1, hd⟩
            · exact Hall.out j (by omega)
          clear hd e1
          go_wp2_with (first
            | (go_at_call 45; (with_reducible refine (isDg_lit c true _ Hd.out).mono ?_); rintro e w1 ⟨rfl, rfl⟩))
          go_round
          case rel => exact ⟨k + 1, by go_num, by omega, by omega, Hn⟩
          case measure => simp [intOf]; omega
        · have Hd := Lib.hid hd
          have HE : Hid (digN s n = k) := twl_eq _ k Hall.out (fun c' h' => by rw [e1] at h'; rw [← Option.some.inj h']; exact hd)
          clear hd e1
          go_wp2_with (first
            | (go_at_call 45; (with_reducible refine (isDg_lit c false _ Hd.out).mono ?_); rintro e w1 ⟨rfl, rfl⟩))
          go_ret
          exact ⟨by rw [HE.out]; rfl, rfl⟩
      · have HE : Hid (digN s n = k) := twl_eq _ k Hall.out (fun c' h' => by rw [List.getElem?_eq_none (by rw [List.length_take]; omega)] at h'; cases h')
        have h3 : ¬ (k : Int) < (n : Int) := by omega
        have h4 : (k : Int) < (s.length : Int) := by omega
        clear hln
        go_wp2_with fail
        go_ret
        exact ⟨by rw [HE.out]; rfl, rfl⟩
    · have HE : Hid (digN s n = k) := twl_eq _ k Hall.out (fun c' h' => by rw [List.getElem?_eq_none (by rw [List.length_take]; omega)] at h'; cases h')
      have h3 : ¬ (k : Int) < (s.length : Int) := by omega
      clear hlt
      go_wp2_with fail
      go_ret
      exact ⟨by rw [HE.out]; rfl, rfl⟩
theorem colon_c (s : List UInt8) (i : Nat) (w : World) (hs : s.length ≤ 9223372036854775806) (hi : i ≤ 1000) :
    Calls Tryz.prog 92 #[.string ⟨s.toArray⟩, .int .i64 (i : Int)] w fun e w' => e = .returned (.bool (colB s i)) ∧ w = w' := by
  by_cases h3 : i + 3 ≤ s.length
  · have b0 := bget s i (by omega) _ rfl
    have b1 := bget s (i + 1) (by omega) _ rfl
    have b2 := bget s (i + 2) (by omega) _ rfl
    have g : ∀ j (h : j < s.length), s.getD j 0 = s[j] := fun j h => by simp [List.getD, h]
    have HC : Hid (colB s i = (decide (s[i] = 58) && isDg s[i + 1] && isDg s[i + 2])) := by
      unfold Hid colB
      rw [decide_eq_true h3, g i (by omega), g (i + 1) (by omega), g (i + 2) (by omega), Bool.true_and]
    obtain ⟨c0, hc0⟩ : ∃ c, c = s[i] := ⟨_, rfl⟩
    obtain ⟨c1, hc1⟩ : ∃ c, c = s[i + 1] := ⟨_, rfl⟩
    obtain ⟨c2, hc2⟩ : ∃ c, c = s[i + 2] := ⟨_, rfl⟩
    rw [← hc0] at b0 HC
    rw [← hc1] at b1 HC
    rw [← hc2] at b2 HC
    clear hc0 hc1 hc2 g
    have h4 : (i : Int) + 3 ≤ (s.length : Int) := by omega
    have h5 : (i : Int) + 2 < (s.length : Int) := by omega
    have h6 : (i : Int) + 1 < (s.length : Int) := by omega
    have h7 : (i : Int) < (s.length : Int) := by omega
    by_cases q0 : c0 = 58
    · have t0 : ((c0.toNat : Int) == 58) = true := by rw [q0]; rfl
      have HC2 : Hid (colB s i = (isDg c1 && isDg c2)) := by rw [Hid, HC.out, decide_eq_true q0]; simp
      clear q0 HC
      rcases Bool.eq_false_or_eq_true (isDg c1) with h1 | h1
      · have H1 := Lib.hid h1
        rcases Bool.eq_false_or_eq_true (isDg c2) with h2 | h2
        all_goals
          have H2 := Lib.hid h2
          clear h1 h2
          go_enter Tryz.func92, Tryz.ntmps92
          go_wp2_with (first
            | (go_at_call 45; (with_reducible refine (isDg_lit c1 true _ H1.out).mono ?_); rintro e w1 ⟨rfl, rfl⟩)
            | (go_at_call 45; (with_reducible refine (isDg_lit c2 _ _ H2.out).mono ?_); rintro e w1 ⟨rfl, rfl⟩))
          go_ret
          exact ⟨by rw [HC2.out, H1.out, H2.out]; rfl, rfl⟩
      · have H1 := Lib.hid h1
        clear h1
        go_enter Tryz.func92, Tryz.ntmps92
        go_wp2_with (first
          | (go_at_call 45; (with_reducible refine (isDg_lit c1 false _ H1.out).mono ?_); rintro e w1 ⟨rfl, rfl⟩))
        go_ret
        exact ⟨by rw [HC2.out, H1.out]; rfl, rfl⟩
    · have t0 : ((c0.toNat : Int) == 58) = false := by
        rw [beq_eq_false_iff_ne]
        intro e
        exact q0 (by rw [← UInt8.toNat_inj]; show c0.toNat = 58; omega)
      have HC2 : Hid (colB s i = false) := by rw [Hid, HC.out, decide_eq_false q0]; simp
      clear q0 HC
      go_enter Tryz.func92, Tryz.ntmps92
      go_wp2_with fail
      go_ret
      exact ⟨by rw [HC2.out]; rfl, rfl⟩
  · have HC2 : Hid (colB s i = false) := by unfold Hid colB; rw [decide_eq_false h3]; simp
    have h4 : ¬ (i : Int) + 3 ≤ (s.length : Int) := by omega
    clear h3
    go_enter Tryz.func92, Tryz.ntmps92
    go_wp2_with fail
    go_ret
    exact ⟨by rw [HC2.out]; rfl, rfl⟩
end Go.Proofs.YticckkadmhklmaaGreatDoor
/- Patterns: the walk of name. -/
namespace Go.Proofs.YticckkadmhklmaaGreatDoor
set_option linter.unusedVariables false
set_option linter.unusedSimpArgs false
open Go.RowKit

theorem u8_ne {c : UInt8} {n : Nat} (hn : n < 256) (h : ¬ c = UInt8.ofNat n) : ¬ c.toNat = n := by
  intro e
  exact h (by rw [← e]; simp)
set_option maxHeartbeats 1000000 in
theorem name_c (s : List UInt8) (w : World) (hs : s.length ≤ 9223372036854775806) : Calls Tryz.prog 37 #[.string ⟨s.toArray⟩] w fun e w' => e = .returned (.bool (nameB 30 s)) ∧ w = w' := by
  by_cases h1 : 1 ≤ s.length
  · by_cases h2 : s.length ≤ 30
    · have b0 := bget s 0 (by omega) _ rfl
      have HT : Hid (nameB 30 s = (isLt s[0] && s.all nmC)) := by
        unfold Hid nameB; rw [decide_eq_true h1, decide_eq_true h2]
        have : s.headD 0 = s[0] := by cases s with | nil => simp at h1 | cons c r => rfl
        rw [this]; rfl
      obtain ⟨c0, hc0⟩ : ∃ c, c = s[0] := ⟨_, rfl⟩
      rw [← hc0] at b0 HT
      clear hc0
      rcases Bool.eq_false_or_eq_true (isLt c0) with h0 | h0
      · have H0 := Lib.hid h0
        have HT2 : Hid (nameB 30 s = s.all nmC) := by rw [Hid, HT.out, h0]; rfl
        clear h0 HT
        go_enter Tryz.func37, Tryz.ntmps37
        go_wp2_with (first
          | (go_at_call 30; (with_reducible refine (isLt_lit c0 true _ H0.out).mono ?_); rintro e w1 ⟨rfl, rfl⟩))
        go_loop [20] (fun i => ∃ j : Nat, j ≤ s.length ∧ i = .int .i64 (j : Int) ∧ Hid ((s.take j).all nmC = true)) (fun i => s.length - (intOf i).toNat)
        case atStart => exact ⟨0, Nat.zero_le _, rfl, rfl⟩
        case round =>
          obtain ⟨j, hj, rfl, Hall⟩ := hrel
          clear b0
          by_cases hlt : j < s.length
          · have hb := bget s j hlt _ rfl
            have Hs := Lib.hid (all_succ s nmC j hlt)
            have hm : s[j] ∈ s := List.getElem_mem _
            obtain ⟨c, hc⟩ : ∃ c, c = s[j] := ⟨_, rfl⟩
            rw [← hc] at hb Hs hm
            clear hc
            have HY : Hid (nmC c = true → (s.take (j + 1)).all nmC = true) := fun q => by rw [Hs.out, Hall.out, q]; rfl
            have HN : Hid (nmC c = false → nameB 30 s = false) := fun hp => by
              rw [HT2.out, ← Bool.not_eq_true]
              intro q
              rw [List.all_eq_true.1 q c hm] at hp
              cases hp
            have HC : Hid (nmC c = (isLt c || decide (c = 32) || decide (c = 46) || decide (c = 45))) := rfl
            clear hm Hs
            rcases Bool.eq_false_or_eq_true (isLt c) with hl | hl
            · have Hl := Lib.hid hl
              have Hn := Lib.hid (HY.out (by rw [HC.out, hl]; rfl))
              clear hl
              go_wp2_with (first
                | (go_at_call 30; (with_reducible refine (isLt_lit c true _ Hl.out).mono ?_); rintro e w1 ⟨rfl, rfl⟩))
              go_round
              case rel => exact ⟨j + 1, by omega, by go_num, Hn⟩
              case measure => simp [intOf]; omega
            · have Hl := Lib.hid hl
              by_cases q1 : c = 32
              · have Hn := Lib.hid (HY.out (by rw [HC.out, hl, decide_eq_true q1]; rfl))
                have e1 : c.toNat = 32 := by rw [q1]; rfl
                have t1 : ((c.toNat : Int) != 32) = false := by rw [e1]; rfl
                clear hl q1 e1
                go_wp2_with (first
                  | (go_at_call 30; (with_reducible refine (isLt_lit c false _ Hl.out).mono ?_); rintro e w1 ⟨rfl, rfl⟩))
                go_round
                case rel => exact ⟨j + 1, by omega, by go_num, Hn⟩
                case measure => simp [intOf]; omega
              · have e1 : ¬ c.toNat = 32 := u8_ne (by decide) q1
                have t1 : ((c.toNat : Int) != 32) = true := by rw [bne_iff_ne]; omega
                by_cases q2 : c = 46
                · have Hn := Lib.hid (HY.out (by rw [HC.out, hl, decide_eq_true q2]; simp))
                  have e2 : c.toNat = 46 := by rw [q2]; rfl
                  have t2 : ((c.toNat : Int) != 46) = false := by rw [e2]; rfl
                  clear hl q1 q2 e2
                  go_wp2_with (first
                    | (go_at_call 30; (with_reducible refine (isLt_lit c false _ Hl.out).mono ?_); rintro e w1 ⟨rfl, rfl⟩))
                  go_round
                  case rel => exact ⟨j + 1, by omega, by go_num, Hn⟩
                  case measure => simp [intOf]; omega
                · have e2 : ¬ c.toNat = 46 := u8_ne (by decide) q2
                  have t2 : ((c.toNat : Int) != 46) = true := by rw [bne_iff_ne]; omega
                  by_cases q3 : c = 45
                  · have Hn := Lib.hid (HY.out (by rw [HC.out, hl, decide_eq_true q3]; simp))
                    have e3 : c.toNat = 45 := by rw [q3]; rfl
                    have t3 : ((c.toNat : Int) != 45) = false := by rw [e3]; rfl
                    clear hl q1 q2 q3 e3
                    go_wp2_with (first
                      | (go_at_call 30; (with_reducible refine (isLt_lit c false _ Hl.out).mono ?_); rintro e w1 ⟨rfl, rfl⟩))
                    go_round
                    case rel => exact ⟨j + 1, by omega, by go_num, Hn⟩
                    case measure => simp [intOf]; omega
                  · have Hn := Lib.hid (HN.out (by rw [HC.out, hl, decide_eq_false q1, decide_eq_false q2, decide_eq_false q3]; rfl))
                    have e3 : ¬ c.toNat = 45 := u8_ne (by decide) q3
                    have t3 : ((c.toNat : Int) != 45) = true := by rw [bne_iff_ne]; omega
                    clear hl q1 q2 q3
                    go_wp2_with (first
                      | (go_at_call 30; (with_reducible refine (isLt_lit c false _ Hl.out).mono ?_); rintro e w1 ⟨rfl, rfl⟩))
                    go_ret
                    exact ⟨by rw [Hn.out]; rfl, rfl⟩
          · obtain rfl : j = s.length := by omega
            have HN : Hid (nameB 30 s = true) := by rw [Hid, HT2.out]; have := Hall.out; rwa [List.take_length] at this
            go_wp2_with fail
            go_ret
            exact ⟨by rw [HN.out]; rfl, rfl⟩
      · have H0 := Lib.hid h0
        have HN : Hid (nameB 30 s = false) := by rw [Hid, HT.out, h0]; rfl
        clear h0 HT
        go_enter Tryz.func37, Tryz.ntmps37
        go_wp2_with (first
          | (go_at_call 30; (with_reducible refine (isLt_lit c0 false _ H0.out).mono ?_); rintro e w1 ⟨rfl, rfl⟩))
        go_ret
        exact ⟨by rw [HN.out]; rfl, rfl⟩
    · have HN : Hid (nameB 30 s = false) := by unfold Hid nameB; rw [decide_eq_false h2]; simp
      have d2 : (30 : Int) < (s.length : Int) := by omega
      clear h2
      go_enter Tryz.func37, Tryz.ntmps37
      go_wp2_with fail
      go_ret
      exact ⟨by rw [HN.out]; rfl, rfl⟩
  · have HN : Hid (nameB 30 s = false) := by unfold Hid nameB; rw [decide_eq_false h1]; simp
    have d2 : (s.length : Int) < 1 := by omega
    clear h1
    go_enter Tryz.func37, Tryz.ntmps37
    go_wp2_with fail
    go_ret
    exact ⟨by rw [HN.out]; rfl, rfl⟩
end Go.Proofs.YticckkadmhklmaaGreatDoor
/- A region that draws its order: a forced head that may make memory, and a quiet rest that is walked once. Plain law over any program. -/
namespace Go.Proofs.YticckkadmhklmaaGreatDoor
set_option linter.unusedVariables false
set_option linter.unusedSimpArgs false
open Go

/-- What is asked behind the head: the quiet rest. -/
def HdQ (P : Program) (ops : Array Oper) (l : List Oper) (Q : Exit → Act → World → Prop) (e : Exit) (a : Act) (w : World) : Prop :=
  match e with
  | .normal => wpQuiet P ops (fun w' => ∃ m, w' = w.drewN m) (fun a' => ∀ w', (∃ m, w' = w.drewN m) → Q .normal a' w') l a
  | e => Q e a w
theorem HdQ.on {P : Program} {ops : Array Oper} {l : List Oper} {Q : Exit → Act → World → Prop} {a : Act} {w : World}
    (h : wpQuiet P ops (fun w' => ∃ m, w' = w.drewN m) (fun a' => ∀ w', (∃ m, w' = w.drewN m) → Q .normal a' w') l a) : HdQ P ops l Q .normal a w := h
/-- The first n operations come one behind the other; the rest may be walked as it stands. -/
def headLex (md : Region.Mode) (ops : Array Oper) (m : Nat) : Nat → Nat → Array Bool → Bool
  | 0, k, listed => Region.lexFrom md ops m k listed
  | n + 1, k, listed => decide (Region.ready md ops listed = [k]) && headLex md ops m n (k + 1) (listed.setIfInBounds k true)
def headLexB (md : Region.Mode) (ops : Array Oper) (n : Nat) : Bool := Region.noSelect ops && decide (n ≤ ops.size) && headLex md ops (ops.size - n) n 0 (Array.replicate ops.size false)
theorem letsOut_hd {P : Program} {ops : Array Oper} {l : List Oper} {Q : Exit → Act → World → Prop} (h : LetsOut (HdQ P ops l Q)) : LetsOut Q := by
  exact h
theorem wp_hd {P : Program} {o : Oper} {ops : Array Oper} {l : List Oper} {Q : Exit → Act → World → Prop} {K : Act → World → Prop} {a : Act} {w : World} (hh : o.wp P a w K (HdQ P ops l Q)) : o.wp P a w K Q := by
  unfold Oper.wp at *
  generalize (execOp a.eval o).run P w = r at *
  cases r with
  | ok n w' =>
    cases n <;> simp only [Oper.upon] at hh ⊢ <;>
      first
        | exact hh
        | exact Calls.mono hh (fun e w'' he => by cases e <;> exact he)
  | halt x w' => cases x <;> simp only [Oper.upon] at hh ⊢ <;> exact hh
theorem wpAny_head {P : Program} {md : Region.Mode} {ops : Array Oper} {Q : Exit → Act → World → Prop} (hs : Region.noSelect ops = true) {t : List Oper} :
    ∀ (n : Nat) (l : List Oper) (k : Nat) (listed : Array Bool) (a : Act) (w : World), l.length = n → (∀ j, (l ++ t)[j]? = ops[k + j]?) →
    headLex md ops t.length n k listed = true → wpList P ops (HdQ P ops t Q) l a w → wpAny P md ops Q (n + t.length) listed a w
  | 0, [], k, listed, a, w, _, hl, hB, h => by
    rw [Nat.zero_add]
    exact wpAny_of_quiet (Q := fun a' => ∀ w', (∃ m, w' = w.drewN m) → Q .normal a' w') (fun _ w' hw' h => h w' hw') _ _ _ _ ⟨0, rfl⟩ (wpAnyQ_lex hs t k listed a (by simpa using hl) hB h)
  | n + 1, o :: l, k, listed, a, w, hn, hl, hB, h => by
    have h0 : ops[k]? = some o := by simpa using (hl 0).symm
    simp only [headLex, Bool.and_eq_true, decide_eq_true_eq] at hB
    rw [show n + 1 + t.length = (n + t.length) + 1 by omega]
    refine ⟨fun h1 => (by rw [hB.1] at h1; cases h1), fun i hi => ?_⟩
    rw [hB.1] at hi
    have hik : i = k := by simpa using hi
    subst hik
    have hw : wpOp P ops Q i (wpList P ops (HdQ P ops t Q) l) a w := by
      unfold wpOp
      simp only [h0]
      unfold wpList at h
      split
      · rename_i q
        rw [if_pos q] at h
        exact h.imp wp_hd (fun x => ⟨x.1, letsOut_hd x.2⟩)
      · rename_i q
        rw [if_neg q] at h
        exact h
    exact wpOp_mono (fun a' w' h' => wpAny_head hs n l (i + 1) _ a' w' (by simpa using hn) (fun j => by have := hl (j + 1); simpa [Nat.add_assoc, Nat.add_comm 1 j] using this) hB.2 h') hw
  | 0, o :: l, _, _, _, _, hn, _, _, _ => by simp at hn
  | n + 1, [], _, _, _, _, hn, _, _, _ => by simp at hn
theorem wp_region_head {P : Program} {id : Nat} {Q : Exit → Act → World → Prop} {a : Act} {w : World} {l : List Oper} (n : Nat) (hm : P.follows .mixedOrders = true) (hB : headLexB .any l.toArray n = true)
    (h : wpList P l.toArray (HdQ P l.toArray (l.drop n) Q) (l.take n) a w.drew) : (Code.region id l.toArray true).wp P Q a w := by
  simp only [headLexB, Bool.and_eq_true, decide_eq_true_eq] at hB
  obtain ⟨⟨hs, hn⟩, hB⟩ := hB
  have hn' : n ≤ l.length := by simpa using hn
  have hdl : (l.drop n).length = l.toArray.size - n := by simp
  have htl : (l.take n).length = n := by simp; omega
  refine wp_region_any hm ?_
  have := wpAny_head (md := .any) (Q := Q) (t := l.drop n) hs n (l.take n) 0 (Array.replicate l.toArray.size false) a w.drew htl (fun j => by rw [List.take_append_drop]; simp) (by rw [hdl]; exact hB) h
  rw [hdl, show n + (l.toArray.size - n) = l.toArray.size by omega] at this
  exact this
end Go.Proofs.YticckkadmhklmaaGreatDoor
/- Patterns: the walk of ValidNames. -/
namespace Go.Proofs.YticckkadmhklmaaGreatDoor
set_option linter.unusedVariables false
set_option linter.unusedSimpArgs false
open Go.RowKit Go.Maps

theorem Nms.ok_len {N : Nms} (h : N.ok) : N.all.length = 40 := by
  obtain ⟨a, b, c, d, e⟩ := h
  unfold Nms.all
  simp [a, b, c, d, e]
theorem sv_len (l : List (List UInt8)) : (sv l).length = l.length := by simp [sv]
theorem names_size {N : Nms} (h : N.ok) : (Tryz.prog.info? 27).map (·.size) = some (sv N.all).length := by
  rw [sv_len, Nms.ok_len h]
  kernel_rfl
theorem slR_inv (B : Nat) (v : Value) (y : DataW Unit × List MemPlace) (h : slR B v = some y) : ∃ c : Option Addr × Nat × Nat, v = .slice c.1 c.2.1 c.2.2 := by
  unfold slR at h
  split at h
  · rename_i b o n c
    exact ⟨(some ⟨b, o, none⟩, n, c), rfl⟩
  · exact ⟨(none, 0, 0), rfl⟩
  · cases h
/-- Where the list of a kind lies. -/
def offK (k : Int) : Nat := if k = 4 then 12 else if k = 5 then 0 else if k = 7 then 31 else if k = 8 then 24 else 38
theorem RdS.sub {ws a b c : List (List UInt8)} {R : Nat} {w : World} (h : RdS ws R 0 w) (e : ws = a ++ (b ++ c)) (o : Nat) (ho : o = a.length) : RdS b R o w := by
  subst ho
  refine ⟨h.1, fun i hi => ?_⟩
  have hl : a.length + i < ws.length := by rw [e]; simp; omega
  have := h.2 (a.length + i) hl
  rw [Nat.zero_add] at this
  rw [this]
  congr 3
  have e2 : ws[a.length + i]? = some b[i] := by
    rw [e, List.getElem?_append_right (by omega), show a.length + i - a.length = i by omega, List.getElem?_append_left hi]
    exact List.getElem?_eq_getElem hi
  have e3 : ws[a.length + i]? = some ws[a.length + i] := List.getElem?_eq_getElem hl
  rw [e3] at e2
  rw [Option.some.inj e2]
theorem names_at {N : Nms} (hN : N.ok) {B : Nat} {w : World} (h : RdS N.all B 0 w) {k : Int} (hk : k = 4 ∨ k = 5 ∨ k = 7 ∨ k = 8 ∨ k = 13) : RdS (lstK N k) B (offK k) w := by
  obtain ⟨a, b, c, d, e⟩ := hN
  rcases hk with rfl | rfl | rfl | rfl | rfl
  · exact h.sub (a := N.mo) (c := N.da ++ (N.sd ++ N.ha)) rfl 12 a.symm
  · exact h.sub (a := []) (c := N.sh ++ (N.da ++ (N.sd ++ N.ha))) rfl 0 rfl
  · exact h.sub (a := N.mo ++ (N.sh ++ N.da)) (c := N.ha) (by unfold Nms.all; simp [lstK]) 31 (by simp [a, b, c])
  · exact h.sub (a := N.mo ++ N.sh) (c := N.sd ++ N.ha) (by unfold Nms.all; simp [lstK]) 24 (by simp [a, b])
  · exact h.sub (a := N.mo ++ (N.sh ++ (N.da ++ N.sd))) (c := []) (by unfold Nms.all; simp [lstK]) 38 (by simp [a, b, c, d])
/-- What the map holds, by its keys. -/
theorem ls_entry {B : Nat} {D : DataW Unit} (hat : ∀ (z : Int) zd, D.atKey (.int .i64 z) zd = insAt (lsJ B) z zd) {N : Nms} (hN : N.ok) {x : Int} {ao : Option Addr} {n c : Nat} {y : DataW Unit × List MemPlace}
    (hR : slR B (.slice ao n c) = some y) (hy : ∀ zd, D.atKey (.int .i64 x) zd = y.1) :
    (x = 4 ∨ x = 5 ∨ x = 7 ∨ x = 8 ∨ x = 13) ∧ ao = some ⟨B, offK x, none⟩ ∧ n = (lstK N x).length ∧ c = n := by
  obtain ⟨a, b, c1, d, e⟩ := hN
  have hin : ∀ zd, insAt (lsJ B) x zd = y.1 := fun zd => (hat x zd).symm.trans (hy zd)
  have key : ∀ o m : Nat, y.1 = .agg [.lit (.int .i64 o), .lit (.int .i64 m)] → ao = some ⟨B, o, none⟩ ∧ n = m ∧ c = n := by
    intro o m hyy
    unfold slR at hR
    split at hR
    · rename_i b' o' n' c' heq
      split at hR
      · rename_i hc
        injection heq with e1 e2 e3
        have := Option.some.inj hR
        rw [← this] at hyy
        simp only at hyy
        injection hyy with hyy
        injection hyy with h1 h2
        injection h2 with h2 _
        injection h1 with h1
        injection h1 with _ h1
        injection h2 with h2
        injection h2 with _ h2
        have h1 : o' = o := by omega
        have h2 : n' = m := by omega
        subst h1; subst h2
        obtain ⟨hb, hcn⟩ := hc
        subst hb; subst hcn
        exact ⟨e1, e2, by rw [e2, e3]⟩
      · cases hR
    · have := Option.some.inj hR
      rw [← this] at hyy
      cases hyy
    · cases hR
  by_cases h4 : x = 4
  · subst h4
    obtain ⟨p, q, r⟩ := key 12 12 (hin .nil).symm
    exact ⟨.inl rfl, p, by rw [q]; exact b.symm, r⟩
  by_cases h5 : x = 5
  · subst h5
    obtain ⟨p, q, r⟩ := key 0 12 (hin .nil).symm
    exact ⟨.inr (.inl rfl), p, by rw [q]; exact a.symm, r⟩
  by_cases h7 : x = 7
  · subst h7
    obtain ⟨p, q, r⟩ := key 31 7 (hin .nil).symm
    exact ⟨.inr (.inr (.inl rfl)), p, by rw [q]; exact d.symm, r⟩
  by_cases h8 : x = 8
  · subst h8
    obtain ⟨p, q, r⟩ := key 24 7 (hin .nil).symm
    exact ⟨.inr (.inr (.inr (.inl rfl))), p, by rw [q]; exact c1.symm, r⟩
  by_cases h13 : x = 13
  · subst h13
    obtain ⟨p, q, r⟩ := key 38 2 (hin .nil).symm
    exact ⟨.inr (.inr (.inr (.inr rfl))), p, by rw [q]; exact e.symm, r⟩
  exfalso
  have hno : ∀ zd, insAt (lsJ B) x zd = zd := fun zd => by
    unfold insAt lsJ
    simp [Ne.symm h4, Ne.symm h5, Ne.symm h7, Ne.symm h8, Ne.symm h13]
  have h1 := (hno .nil).symm.trans (hin .nil)
  have h2 := (hno (.agg [])).symm.trans (hin (.agg []))
  rw [← h1] at h2
  cases h2
theorem zeroSl (w : World) : (zeroValue 59).run Tryz.prog w = .ok (.slice none 0 0) w := by simp [go_sem]
/-- The list of a kind, looked up. -/
theorem lookup_ls {B b : Nat} {D : DataW Unit} {w : World} (hown : w.ownsMap Tryz.prog 3 (slR B) b 5 D) (hat : ∀ (z : Int) zd, D.atKey (.int .i64 z) zd = insAt (lsJ B) z zd) {N : Nms} (hN : N.ok) {k : Int} (hk : k = 4 ∨ k = 5 ∨ k = 7 ∨ k = 8 ∨ k = 13) :
    (Instr.lookup 66 (.map (some b)) (.int .i64 k) false).run Tryz.prog w = .ok (.slice (some ⟨B, offK k, none⟩) (lstK N k).length (lstK N k).length) w := by
  have hwf : (Lit.int .i64 k).wf = true := by rcases hk with rfl | rfl | rfl | rfl | rfl <;> decide
  obtain ⟨v, ps, hrun, hR⟩ := hown.lookup mkeyI Tryz.underlying66 (zeroSl w) (zd := .nil) (zp := []) (by rfl) (keyOf_int_mk Tryz.underlying3 hwf)
  have hy : ∀ zd, D.atKey (.int .i64 k) zd = D.atKey (.int .i64 k) .nil := by
    intro zd
    rw [hat, hat]
    rcases hk with rfl | rfl | rfl | rfl | rfl <;> rfl
  obtain ⟨c, rfl⟩ := slR_inv B v _ hR
  obtain ⟨_, h1, h2, h3⟩ := ls_entry hat hN hR hy
  rw [hrun, h1, h3, h2]
end Go.Proofs.YticckkadmhklmaaGreatDoor
