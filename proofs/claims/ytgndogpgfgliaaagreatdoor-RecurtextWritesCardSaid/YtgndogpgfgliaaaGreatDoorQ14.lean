/- Recurrence rules: the walk of DaysText. -/
import Derived.Test.YtgndogpgfgliaaaGreatDoorQ13
namespace Go.Proofs.YtgndogpgfgliaaaGreatDoor
set_option linter.unusedVariables false
set_option linter.unnecessarySimpa false
set_option linter.unusedSimpArgs false
open Go.RowKit

def dOkB (o : Int × Int) : Bool := decide (1 ≤ o.2 ∧ o.2 ≤ 7 ∧ -999999999 ≤ o.1 ∧ o.1 ≤ 999999999)
theorem daysTx_no {l : List (Int × Int)} {j : Nat} (h : j < l.length) (hb : dOkB l[j] = false) : daysTx l = [] := by
  unfold daysTx
  rw [if_neg]
  intro q
  rw [List.all_eq_true] at q
  have := q _ (List.getElem_mem h)
  rw [show dOkB l[j] = true from this] at hb
  cases hb
theorem daysTx_yes {l : List (Int × Int)} (hb : ∀ k (h : k < l.length), dOkB l[k] = true) : daysTx l = daysT l := by
  unfold daysTx
  rw [if_pos]
  rw [List.all_eq_true]
  intro o ho
  obtain ⟨i, hi, rfl⟩ := List.mem_iff_getElem.1 ho
  exact hb i hi
theorem dayT_22 {o : Int × Int} (h : dOkB o = true) : (dayT o).length ≤ 22 := by
  obtain ⟨n, d⟩ := o
  unfold dOkB at h
  rw [decide_eq_true_eq] at h
  simp only at h
  obtain ⟨a, b, c, e⟩ := h
  have h3 := decZ_len (n := n) 19 (by decide) (by omega)
  have h4 := (wk_at (d - 1).toNat (by omega)).1
  unfold dayT
  simp only
  rw [List.length_append, h4]
  split
  · simp
  · omega
theorem cell_two_new (w : World) (x y : Value) (t : TypeId) : ∀ j u, [x, y][j]? = some u → (w.alloc (.cells #[x, y] t)).cell? ((⟨w.heap.size, 0, none⟩ : Addr).add j) = some u := by
  intro j u hj
  match j, hj with
  | 0, hj => simp at hj; subst hj; rw [show ((⟨w.heap.size, 0, none⟩ : Addr).add 0) = ⟨w.heap.size, 0, none⟩ from rfl, World.cell?_alloc_new]; rfl
  | 1, hj => simp at hj; subst hj; rw [show ((⟨w.heap.size, 0, none⟩ : Addr).add 1) = ⟨w.heap.size, 1, none⟩ from rfl, World.cell?_alloc_new]; rfl
set_option maxRecDepth 100000 in
set_option maxHeartbeats 2000000 in
theorem udaysT_c (l : List (Int × Int)) (ao : Option Addr) (cap : Nat) (X : List UInt8) (w : World) (h : OsV ao cap l w) (hi : ∀ o ∈ l, i64 o.1 ∧ i64 o.2) (hn : l.length ≤ 100000) (hX : daysTx l = X) :
    Calls Tryz.prog 25 #[.slice ao l.length cap] w fun e w' => e = .returned (.string ⟨X.toArray⟩) ∧ Ext w w' := by
  obtain ⟨h0, hcap, hL⟩ := h
  unfold maxLen at hcap
  have HL := Lib.hid hL
  have HI := Lib.hid hi
  have HNo : Hid (∀ j (h : j < l.length), dOkB l[j] = false → X = []) := fun j h q => by rw [← hX, daysTx_no h q]
  have HJ : Hid ((∀ k (h : k < l.length), dOkB l[k] = true) → ∀ (ao : Option Addr) (cap : Nat) (W : World), W.ownsRow w.heap.size 9 1 (.slice ao l.length cap) l.length (sv (l.map dayT)) → Calls Tryz.prog 34 #[.slice ao l.length cap, .string ⟨#[44]⟩] W fun e w' => e = .returned (.string ⟨X.toArray⟩) ∧ Ext W w') := fun hb ao cap W q => by
    have e : l.length = (l.map dayT).length := by rw [List.length_map]
    rw [e] at q ⊢
    refine ojoin_c (l.map dayT) w.heap.size 9 ao cap [44] X W q (by rw [List.length_map]; omega) ?_ (by rw [← hX, daysTx_yes hb]; rfl)
    refine Nat.le_trans (join_le _ _ 22 (fun a ha => ?_)) ?_
    · obtain ⟨o, ho, rfl⟩ := List.mem_map.1 ha
      obtain ⟨i, hi, rfl⟩ := List.mem_iff_getElem.1 ho
      exact dayT_22 (hb i hi)
    · rw [List.length_map]; simp; omega
  obtain ⟨i0, hif, hz0, hz1, hz2⟩ := info_parts infoStr
  have Hi := Lib.hid hif
  have Hz0 := Lib.hid hz0
  have Hz1 := Lib.hid hz1
  have Hz2 := Lib.hid hz2
  clear hif hz0 hz1 hz2 hX hi hL
  go_enter Tryz.func25, Tryz.ntmps25
  go_wp2_with fail
  go_loopw [3, 9] (fun o i wr => ∃ (j : Nat) (ao2 : Option Addr) (cv : Nat), j ≤ l.length ∧ o = .slice ao2 j cv ∧ i = .int .i64 (j : Int) ∧ (∀ k (h : k < l.length), k < j → dOkB l[k] = true) ∧ wr.ownsRow w.heap.size 9 1 o j (sv ((l.take j).map dayT)) ∧ Ext w wr) (fun _ i _ => l.length - (intOf i).toNat)
  case atStart => exact ⟨0, none, 0, Nat.zero_le _, rfl, rfl, (fun k h h2 => by omega), World.ownsRow_nil _ _ _ _, Ext.refl _⟩
  case round =>
    obtain ⟨j, ao2, cv, hj, rfl, rfl, hk, hown, hE⟩ := hrel
    have Hk := Lib.hid hk
    clear hk
    by_cases hlt : j < l.length
    · obtain ⟨R, off, rfl, hR⟩ := HL.out (by rintro rfl; simp at hlt)
      have hRr := hR.ext hE
      have hRz := hRr.1
      obtain ⟨x0, x1⟩ := hRr.2 j hlt
      have hn5 := HI.out _ (List.getElem_mem hlt)
      have htk : sv ((l.take (j + 1)).map dayT) = sv ((l.take j).map dayT) ++ [.string ⟨(dayT l[j]).toArray⟩] := by rw [List.take_succ_eq_append_getElem hlt, List.map_append, ← sv_app]; rfl
      have Htk := Lib.hid htk
      have HN1 : Hid (dOkB l[j] = false → X = []) := HNo.out j hlt
      have HK2 : Hid (dOkB l[j] = true → ∀ k (h : k < l.length), k < j + 1 → dOkB l[k] = true) := fun q k h h2 => by
        by_cases e : k = j
        · subst e; exact q
        · exact Hk.out k h (by omega)
      obtain ⟨o, ho⟩ : ∃ o, o = l[j] := ⟨_, rfl⟩
      rw [← ho] at x0 x1 hn5 Htk HN1 HK2
      clear ho htk hR hRr
      obtain ⟨n, d⟩ := o
      simp only at x0 x1 hn5
      obtain ⟨i1, i2⟩ := hn5
      unfold i64 at i1 i2
      have hE0 : Ext wr (wr.alloc (.cells #[.int .i64 n, .int .i64 d] 48)) := (Ext.refl wr).alloc _
      have c0 : (wr.alloc (.cells #[.int .i64 n, .int .i64 d] 48)).cell? ⟨wr.heap.size, 0, none⟩ = some (.int .i64 n) := by rw [World.cell?_alloc_new]; rfl
      have c1 : (wr.alloc (.cells #[.int .i64 n, .int .i64 d] 48)).cell? ⟨wr.heap.size, 1, none⟩ = some (.int .i64 d) := by rw [World.cell?_alloc_new]; rfl
      have hBl : wr.heap.size < (wr.alloc (.cells #[.int .i64 n, .int .i64 d] 48)).heap.size := by simp
      go_upto_region 5 with fail
      generalize wr.alloc (.cells #[.int .i64 n, .int .i64 d] 48) = W1 at *
      have HE0 := Lib.hid hE0
      have HB : Hid (wr.heap.size = wr.heap.size) := rfl
      generalize wr.heap.size = B at c0 c1 hBl ⊢
      by_cases q1 : d < 1
      · have t1 : decide (d < 1) = true := decide_eq_true q1
        have hX0 := HN1.out (by unfold dOkB; rw [decide_eq_false_iff_not]; simp only; omega)
        subst hX0
        clear q1
        go_wp2_with fail
        go_ret
        exact ⟨rfl, hE.trans hE0⟩
      have t1 : decide (d < 1) = false := decide_eq_false q1
      by_cases q2 : 7 < d
      · have t2 : decide (7 < d) = true := decide_eq_true q2
        have hX0 := HN1.out (by unfold dOkB; rw [decide_eq_false_iff_not]; simp only; omega)
        subst hX0
        clear q1 q2
        go_wp2_with fail
        go_ret
        exact ⟨rfl, hE.trans hE0⟩
      have t2 : decide (7 < d) = false := decide_eq_false q2
      by_cases q3 : n < -999999999
      · have t3 : decide (n < -999999999) = true := decide_eq_true q3
        have hX0 := HN1.out (by unfold dOkB; rw [decide_eq_false_iff_not]; simp only; omega)
        subst hX0
        clear q1 q2 q3
        go_wp2_with fail
        go_ret
        exact ⟨rfl, hE.trans hE0⟩
      have t3 : decide (n < -999999999) = false := decide_eq_false q3
      by_cases q4 : 999999999 < n
      · have t4 : decide (999999999 < n) = true := decide_eq_true q4
        have hX0 := HN1.out (by unfold dOkB; rw [decide_eq_false_iff_not]; simp only; omega)
        subst hX0
        clear q1 q2 q3 q4
        go_wp2_with fail
        go_ret
        exact ⟨rfl, hE.trans hE0⟩
      have t4 : decide (999999999 < n) = false := decide_eq_false q4
      have HK3 := Lib.hid (HK2.out (by unfold dOkB; rw [decide_eq_true_eq]; simp only; omega))
      obtain ⟨k, rfl⟩ : ∃ k : Nat, d = (k : Int) + 1 := ⟨(d - 1).toNat, by omega⟩
      have hk7 : k < 7 := by omega
      have hk8 : (k : Int) < 7 := by omega
      have hk9 : (0 : Int) ≤ (k : Int) := by omega
      have hw1 : IntKind.i64.wrap ((k : Int) + 1 - 1) = (k : Int) := by rw [IntWalk.i64_in _ (by omega)]; omega
      have hw2 : IntKind.i64.wrap (k : Int) = (k : Int) := IntWalk.i64_in _ (by omega)
      obtain ⟨Z, hZ⟩ : ∃ Z, Z = wkW.getD k [] := ⟨_, rfl⟩
      have HRL : Hid (∀ H w', RdS wkW H 0 w' → w'.cell? ⟨H, k, none⟩ = some (.string ⟨Z.toArray⟩)) := fun H w' q => by
        have hk7' : k < wkW.length := hk7
        have := q.2 k hk7'
        rw [Nat.zero_add] at this
        rw [this, hZ]
        simp [List.getD, hk7']
      have HDy : Hid (dayT (n, (k : Int) + 1) = (if n = 0 then [] else decZ n) ++ Z) := by
        rw [Hid]; unfold dayT; simp only
        rw [show ((k : Int) + 1 - 1).toNat = k by omega, hZ]
      rw [HDy.out] at Htk
      have hZl : Z.length = 2 := by rw [hZ]; exact (wk_at k hk7).1
      clear HK2 HN1 q1 q2 q3 q4 hZ HDy i2
      go_upto_region 7 with fail
      go_cut [6] from 31 to 36 (fun x wx => x = .string ⟨Z.toArray⟩ ∧ Ext W1 wx)
      case first =>
        go_region_with (go_at_call 64; (with_reducible refine (letters_c _).mono ?_); rintro e w2 ⟨⟨H, rfl, hRH⟩, hE2⟩; have hX := Ext.trans (show Ext W1 _ from (by (repeat (with_reducible (first | assumption | exact Ext.refl _ | refine Ext.alloc ?_ _ | refine Ext.drewN ?_ _ | refine Ext.drew ?_))))) hE2; have d1 := (hX.cells B 1 hBl).trans c1; have hz := HRL.out H w2 hRH; have hzr := hRH.1; have hBl2 := hX.lt hBl; clear hE2 hRH)
        all_goals
          go_wp2_with fail
          go_meet
          exact ⟨rfl, (by (repeat (with_reducible (first | assumption | exact Ext.refl _ | refine Ext.alloc ?_ _ | refine Ext.drewN ?_ _ | refine Ext.drew ?_))))⟩
      case rest =>
        obtain ⟨rfl, hEx⟩ := hcut
        have d0 := (hEx.cells B 0 hBl).trans c0
        have hEw := HE0.out.trans hEx
        have HEw := Lib.hid hEw
        have hown1 := own_ext hown hEw
        have hEa := hE.trans hEw
        clear c0 c1 hEx hE0 hEw
        by_cases hn0 : n = 0
        · subst hn0
          rw [if_pos rfl, List.nil_append] at Htk
          go_wp2_with (first
            | (at_builtin; (refine wpList_append_own _ rfl _ _ 55 rfl w.heap.size 9 i0 (.string .empty) 1 16 Tryz.underlying55 Hi.out Hz0.out Hz1.out Hz2.out rfl (by decide) _ _ _ rfl (hown1.alloc _) ⟨wc.heap.size, 0, none⟩ 1 1 [.string ⟨Z.toArray⟩] rfl rfl (cell_one_new _ _ _) (fun x hx => by simp at hx; subst hx; rfl) (by unfold maxLen; omega) (by omega) (by have := hEa.size; simp; omega) ?_); intro v' w3 hown' hgrow3 hnil3))
          have hExt := ext_grown (v := .slice ao2 j cv) (hEa.alloc _) (hown1.alloc _) hgrow3
          obtain ⟨ao3, cv3, rfl⟩ := own_slice hown'
          go_roundw
          case rel => exact ⟨j + 1, ao3, cv3, by omega, rfl, by go_num, HK3.out, by rw [Htk.out]; exact hown', hExt⟩
          case measure => simp [intOf]; omega
        · have t5 : (n == 0) = false := by simpa using hn0
          have t6 : (n != 0) = true := by simpa using hn0
          rw [if_neg hn0] at Htk
          obtain ⟨Y, hY⟩ : ∃ Y, Y = decZ n := ⟨_, rfl⟩
          rw [← hY] at Htk
          have HD : Hid (∀ w', Calls Tryz.prog 42 #[.int .i64 n] w' fun e w'' => e = .returned (.string ⟨Y.toArray⟩) ∧ Ext w' w'') := fun w' => udec_c n Y w' i1 hY.symm
          have hYl : Y.length ≤ 20 := by rw [hY]; exact decZ_20 i1
          clear hn0 hY i1
          go_wp2_with (first
            | (go_at_call 42; (with_reducible refine (HD.out _).mono ?_); rintro e w2 ⟨rfl, hE2⟩; have hEb := hEa.trans hE2; have hown2 := own_ext hown1 hE2)
            | (at_builtin; (refine wpList_append_own _ rfl _ _ 55 rfl w.heap.size 9 i0 (.string .empty) 1 16 Tryz.underlying55 Hi.out Hz0.out Hz1.out Hz2.out rfl (by decide) _ _ _ rfl (hown2.alloc _) ⟨w2.heap.size, 0, none⟩ 1 1 [.string (⟨Y.toArray⟩ ++ ⟨Z.toArray⟩)] rfl rfl (cell_one_new _ _ _) (fun x hx => by simp at hx; subst hx; rfl) (by unfold maxLen; omega) (by omega) (by have := hEb.size; simp; omega) ?_); intro v' w3 hown' hgrow3 hnil3))
          have hExt := ext_grown (v := .slice ao2 j cv) (hEb.alloc _) (hown2.alloc _) hgrow3
          obtain ⟨ao3, cv3, rfl⟩ := own_slice hown'
          go_roundw
          case rel => exact ⟨j + 1, ao3, cv3, by omega, rfl, by go_num, HK3.out, by rw [Htk.out, ← app_str]; exact hown', hExt⟩
          case measure => simp [intOf]; omega
    · obtain rfl : j = l.length := by omega
      rw [List.take_length] at hown
      have HJ2 := Lib.hid (HJ.out (fun k h => Hk.out k h h) ao2 cv wr hown)
      clear hown
      go_wp2_with (go_at_call 34; (with_reducible refine HJ2.out.mono ?_); rintro e w2 ⟨rfl, hE2⟩)
      go_ret
      exact ⟨rfl, hE.trans hE2⟩
end Go.Proofs.YtgndogpgfgliaaaGreatDoor
/- Recurrence rules: the walk of Days. -/
namespace Go.Proofs.YtgndogpgfgliaaaGreatDoor
set_option linter.unusedVariables false
set_option linter.unnecessarySimpa false
set_option linter.unusedSimpArgs false
open Go.RowKit

theorem dayZ_short {x : List UInt8} (h : x.length < 2) : dayZ x = none := by unfold dayZ; rw [if_pos (.inl h)]
theorem dayZ_eq {x A T : List UInt8} {m : Nat} (hx : x.length = m + 2) (hA : x.take m = A) (hT : x.drop m = T) :
    dayZ x = if plW wkW T = 0 then none else if A = [] then some (0, (plW wkW T : Int)) else match numZ A with
      | some n => if n = 0 then none else some (n, (plW wkW T : Int))
      | none => none := by
  unfold dayZ
  rw [hx, show m + 2 - 2 = m by omega, hA, hT]
  by_cases h0 : plW wkW T = 0
  · rw [if_pos (.inr h0), if_pos h0]
  · rw [if_neg (show ¬ (m + 2 < 2 ∨ plW wkW T = 0) by omega), if_neg h0]
    by_cases hm : m = 0
    · subst hm
      have e1 : A = [] := by rw [← hA]; rfl
      have e2 : x = T := by rw [← hT]; rfl
      rw [if_pos rfl, if_pos e1, e2]
    · have e1 : A ≠ [] := fun e => by
        have := congrArg List.length hA
        rw [e, List.length_take, List.length_nil] at this
        omega
      rw [if_neg (show ¬ (m + 2 = 2) by omega), if_neg e1]
      cases numZ A <;> rfl
theorem infoOrd : (Tryz.prog.info? 48).map (fun i => (i.zero, i.size, i.bytes)) = some (some (.agg #[.int .i64 0, .int .i64 0]), 2, 16) := by kernel_rfl
def DaysR (s : List UInt8) (w : World) (e : Ending) (w' : World) : Prop :=
  match daysZ s with
  | some l => ∃ ao cap, e = .returned (.tuple #[.slice ao l.length cap, .int .i64 0]) ∧ OsV ao cap l w' ∧ (∀ R o m, ao = some ⟨R, o, m⟩ → w.heap.size ≤ R) ∧ Ext w w'
  | none => e = .returned (.tuple #[.slice none 0 0, .int .i64 3]) ∧ Ext w w'
set_option maxRecDepth 100000 in
set_option maxHeartbeats 4000000 in
theorem udays_c (s : List UInt8) (w : World) (hm : Lm w) (hs : s.length ≤ 50000) :
    Calls Tryz.prog 22 #[.string ⟨s.toArray⟩] w (DaysR s w) := by
  have hcnt := spl_count 44 s
  have hlen := spl_len 44 s
  obtain ⟨S, hS⟩ : ∃ S, S = spl 44 s := ⟨_, rfl⟩
  have HSp : Hid (Calls Tryz.prog 31 #[.string ⟨s.toArray⟩, .string ⟨#[44]⟩] w fun e w' => e = .returned (.slice (some ⟨w.heap.size, 0, none⟩) S.length S.length) ∧ RdS S w.heap.size 0 w' ∧ Ext w w') := by
    rw [hS]
    refine (split_c s 44 w hm (by omega)).mono ?_
    rintro e w' ⟨rfl, rfl⟩
    refine ⟨rfl, ⟨by simp, fun i hi => ?_⟩, (Ext.refl w).alloc _⟩
    rw [Nat.zero_add, World.cell?_alloc_new]
    simp [hi]
  have HNZ : Hid (daysZ s = allO dayZ S) := by rw [Hid, hS]; rfl
  rw [← hS] at hcnt hlen
  have HL := Lib.hid hlen
  obtain ⟨i0, hi, hz0, hz1, hz2⟩ := info_parts infoOrd
  have Hi := Lib.hid hi
  have Hz0 := Lib.hid hz0
  have Hz1 := Lib.hid hz1
  have Hz2 := Lib.hid hz2
  have HNone : Hid (∀ j (h : j < S.length), dayZ S[j] = none → daysZ s = none) := fun j h q => by rw [HNZ.out]; exact allO_none h q
  clear hi hz0 hz1 hz2 hS hm hlen
  go_enter Tryz.func22, Tryz.ntmps22
  go_upto_region 3 with (go_at_call 31; (with_reducible refine HSp.out.mono ?_); rintro e w1 ⟨rfl, hR, hE1⟩)
  have HR := Lib.hid hR
  have HE1 := Lib.hid hE1
  clear hR hE1
  go_loopw [4, 15] (fun o i wr => ∃ (l : List (Int × Int)) (ao : Option Addr) (cv : Nat), l.length ≤ S.length ∧ o = .slice ao l.length cv ∧ i = .int .i64 (l.length : Int) ∧ (∀ k (h : k < S.length) (h2 : k < l.length), dayZ S[k] = some l[k]) ∧ wr.ownsRow w1.heap.size 48 2 o l.length (ov l) ∧ Ext w1 wr) (fun _ i _ => S.length - (intOf i).toNat)
  case atStart => exact ⟨[], none, 0, Nat.zero_le _, rfl, rfl, (fun k h h2 => by cases h2), World.ownsRow_nil _ _ _ _, Ext.refl _⟩
  case round =>
    obtain ⟨l, ao, cv, hl, rfl, rfl, hk, hown, hE⟩ := hrel
    have hRr := HR.out.ext hE
    have Hk := Lib.hid hk
    clear hk
    by_cases hlt : l.length < S.length
    · have hRz := hRr.1
      have x0 := hRr.2 l.length hlt
      rw [Nat.zero_add] at x0
      have hx5 := HL.out _ (List.getElem_mem hlt)
      have HNo : Hid (dayZ S[l.length] = none → daysZ s = none) := HNone.out _ hlt
      have HYs : Hid (∀ o, dayZ S[l.length] = some o → ∀ k (h : k < S.length) (h2 : k < (l ++ [o]).length), dayZ S[k] = some (l ++ [o])[k]) := fun o e k h h2 => by
        by_cases q : k < l.length
        · rw [List.getElem_append_left q]; exact Hk.out k h q
        · have : k = l.length := by simp at h2; omega
          subst this
          rw [e]
          simp
      obtain ⟨x, hx⟩ : ∃ x, x = S[l.length] := ⟨_, rfl⟩
      rw [← hx] at x0 hx5 HNo HYs
      clear hx hRr
      by_cases h2 : x.length < 2
      · have Hn := Lib.hid (HNo.out (dayZ_short h2))
        have t1 : decide ((x.length : Int) < 2) = true := decide_eq_true (by omega)
        clear h2
        go_wp2_with fail
        go_ret2
        unfold DaysR
        rw [Hn.out]
        exact ⟨rfl, HE1.out.trans hE⟩
      · obtain ⟨m, hxl⟩ : ∃ m, x.length = m + 2 := ⟨x.length - 2, by omega⟩
        have t1 : decide ((x.length : Int) < 2) = false := decide_eq_false (by omega)
        obtain ⟨A, hA⟩ : ∃ A, x.take m = A := ⟨_, rfl⟩
        obtain ⟨T, hT⟩ : ∃ T, x.drop m = T := ⟨_, rfl⟩
        have hd0 := dayZ_eq hxl hA hT
        have hm1 : (⟨x.toArray⟩ : ByteArray).extract 0 m = ⟨A.toArray⟩ := by rw [bmid, ← hA]; simp
        have hm2 : (⟨x.toArray⟩ : ByteArray).extract m (m + 2) = ⟨T.toArray⟩ := by rw [bmid, ← hT, show m + 2 - m = 2 by omega, List.take_of_length_le (by rw [List.length_drop]; omega)]
        have hAl : A.length ≤ s.length := by rw [← hA, List.length_take]; omega
        obtain ⟨p, hp⟩ : ∃ p, p = plW wkW T := ⟨_, rfl⟩
        have hp7 : p ≤ 7 := by rw [hp]; exact plW_le wkW T
        rw [← hp] at hd0
        have HIx : Hid (∀ H w', RdS wkW H 0 w' → Calls Tryz.prog 63 #[.slice (some ⟨H, 0, none⟩) 7 7, .string ⟨T.toArray⟩] w' fun e w'' => e = .returned (.int .i64 ((p : Int) - 1)) ∧ w' = w'') := fun H w' q => by rw [hp]; exact index_c wkW T H 0 7 w' (by decide) q
        have hw1 : IntKind.i64.wrap ((p : Int) - 1 + 1) = (p : Int) := by rw [IntWalk.i64_in _ (by omega)]; omega
        have hw2 : IntKind.i64.wrap (p : Int) = (p : Int) := IntWalk.i64_in _ (by omega)
        have Hd0 := Lib.hid hd0
        clear hd0 hp hA hT h2
        go_upto_region 7 with fail
        go_quiet (fail)
        obtain ⟨W1, hW1⟩ : ∃ W1, W1 = wr.drewN nq := ⟨_, rfl⟩
        have hEd : Ext wr W1 := by rw [hW1]; exact (Ext.refl _).drewN _
        rw [← hW1]
        clear hW1
        have hownd := own_ext hown hEd
        have hEd1 := hE.trans hEd
        clear x0
        go_upto_region 9 with (first
          | (go_at_call 64; (with_reducible refine (letters_c _).mono ?_); rintro e w2 ⟨⟨H, rfl, hRH⟩, hE2⟩; have HIx2 := Lib.hid (HIx.out H w2 hRH))
          | (go_at_call 63; (with_reducible refine HIx2.out.mono ?_); rintro e w3 ⟨rfl, rfl⟩))
        have hE3 : Ext W1 (w2.alloc (.cells #[.int .i64 0, .int .i64 (p : Int)] 48)) := hE2.alloc _
        have c0 : (w2.alloc (.cells #[.int .i64 0, .int .i64 (p : Int)] 48)).cell? ⟨w2.heap.size, 0, none⟩ = some (.int .i64 0) := by rw [World.cell?_alloc_new]; rfl
        have c1 : (w2.alloc (.cells #[.int .i64 0, .int .i64 (p : Int)] 48)).cell? ⟨w2.heap.size, 1, none⟩ = some (.int .i64 (p : Int)) := by rw [World.cell?_alloc_new]; rfl
        have hBl : w2.heap.size < (w2.alloc (.cells #[.int .i64 0, .int .i64 (p : Int)] 48)).heap.size := by simp
        have hfz : (w2.alloc (.cells #[.int .i64 0, .int .i64 (p : Int)] 48)).frozen? ⟨w2.heap.size, 0, none⟩ = false := by rw [World.frozen?_alloc_new]
        have hBg : W1.heap.size ≤ w2.heap.size := hE2.size
        generalize w2.alloc (.cells #[.int .i64 0, .int .i64 (p : Int)] 48) = W3 at *
        generalize w2.heap.size = B at *
        have HBg := Lib.hid hBg
        have hown3 := own_ext hownd hE3
        have hEa := hEd1.trans hE3
        have hEaz := hEa.size
        have hBg2 : w1.heap.size ≤ B := Nat.le_trans hEd1.size hBg
        have hob : (Value.slice ao l.length cv).ownBlock ≠ some B := fun e => by
          have := (hownd.lt _ e).2
          omega
        have Hob := Lib.hid hob
        clear hown hownd hRz hob
        by_cases hp0 : p = 0
        · subst hp0
          have Hn := Lib.hid (HNo.out (by rw [Hd0.out, if_pos rfl]))
          go_wp2_with fail
          go_ret2
          unfold DaysR
          rw [Hn.out]
          exact ⟨rfl, HE1.out.trans hEa⟩
        · have t2 : ((p : Int) == 0) = false := by rw [beq_eq_false_iff_ne]; omega
          have Hp0 := Lib.hid hp0
          clear hp0
          by_cases hA0 : A = []
          · have hd := Hd0.out
            rw [if_neg Hp0.out, if_pos hA0] at hd
            have HK2 := Lib.hid (HYs.out _ hd)
            subst hA0
            clear hd
            go_wp2_with (at_builtin; refine wpList_append_own _ rfl _ _ 23 rfl w1.heap.size 48 i0 (.agg #[.int .i64 0, .int .i64 0]) 2 16 Tryz.underlying23 Hi.out Hz0.out Hz1.out Hz2.out rfl (by decide) _ _ _ rfl (hown3.alloc _) ⟨W3.heap.size, 0, none⟩ 1 1 [.int .i64 0, .int .i64 (p : Int)] rfl rfl (cell_two_new _ _ _ _) (fun x hx => by simp at hx; rcases hx with rfl | rfl <;> rfl) (by unfold maxLen; omega) (by omega) (by simp; omega) ?_; intro v' w5 hown' hgrow3 hnil3)
            have hExt := ext_grown (v := .slice ao l.length cv) (hEa.alloc _) (hown3.alloc _) hgrow3
            obtain ⟨ao2, cv2, rfl⟩ := own_slice hown'
            go_roundw
            case rel => exact ⟨l ++ [(0, (p : Int))], ao2, cv2, by rw [List.length_append]; exact hlt, by rw [List.length_append]; rfl, by rw [List.length_append]; go_num, HK2.out, by rw [ov_app, List.length_append]; exact hown', hExt⟩
            case measure => simp [intOf]; omega
          · have hd := Hd0.out
            rw [if_neg Hp0.out, if_neg hA0] at hd
            have t3 : (A == []) = false := by simpa using hA0
            have t4 : (A != []) = true := by simpa using hA0
            have t5 : A.isEmpty = false := by simpa using hA0
            have HA0 := Lib.hid hA0
            clear hA0
            cases hz : numZ A with
            | none =>
              rw [hz] at hd
              have Hn := Lib.hid (HNo.out hd)
              have HNu : Hid (∀ w', Calls Tryz.prog 65 #[.string ⟨A.toArray⟩] w' fun e w'' => e = .returned (.tuple #[.int .i64 0, .bool false]) ∧ w' = w'') := fun w' => by
                have := unumber_c A w' (by omega)
                rwa [hz] at this
              clear hz hd
              go_wp2_with (go_at_call 65; (with_reducible refine (HNu.out _).mono ?_); rintro e w4 ⟨rfl, rfl⟩)
              go_ret2
              unfold DaysR
              rw [Hn.out]
              exact ⟨rfl, HE1.out.trans hEa⟩
            | some n =>
              rw [hz] at hd
              have HNu : Hid (∀ w', Calls Tryz.prog 65 #[.string ⟨A.toArray⟩] w' fun e w'' => e = .returned (.tuple #[.int .i64 n, .bool true]) ∧ w' = w'') := fun w' => by
                have := unumber_c A w' (by omega)
                rwa [hz] at this
              clear hz
              by_cases hn0 : n = 0
              · have Hn := Lib.hid (HNo.out (by rw [hd]; simp [hn0]))
                subst hn0
                clear hd
                go_wp2_with (go_at_call 65; (with_reducible refine (HNu.out _).mono ?_); rintro e w4 ⟨rfl, rfl⟩)
                go_ret2
                unfold DaysR
                rw [Hn.out]
                exact ⟨rfl, HE1.out.trans hEa⟩
              · have hd2 : dayZ x = some (n, (p : Int)) := by rw [hd]; simp [hn0]
                have HK2 := Lib.hid (HYs.out _ hd2)
                have t6 : (n == 0) = false := by simpa using hn0
                clear hd hd2 hn0
                go_upto_region 16 with (go_at_call 65; (with_reducible refine (HNu.out _).mono ?_); rintro e w4 ⟨rfl, rfl⟩)
                have hf4 : Frm (fun k => k = B) W3 (W3.setCell ⟨B, 0, none⟩ (.int .i64 n)) := (Frm.refl (fun k => k = B) W3).setCell (p := ⟨B, 0, none⟩) (.inl rfl) _
                have hE4 : Ext w1 (W3.setCell ⟨B, 0, none⟩ (.int .i64 n)) := Frm.far hEa hf4 (fun k hk e => by omega)
                have d0 : (W3.setCell ⟨B, 0, none⟩ (.int .i64 n)).cell? ⟨B, 0, none⟩ = some (.int .i64 n) := World.cell?_setCell_same _ _ _ c0
                have d1 : (W3.setCell ⟨B, 0, none⟩ (.int .i64 n)).cell? ⟨B, 1, none⟩ = some (.int .i64 (p : Int)) := (World.cell?_setCell_other _ _ _ _ (by simp)).trans c1
                have hown4 := ownsRow_setCell_other hown3 (a := ⟨B, 0, none⟩) Hob.out (.int .i64 n)
                generalize W3.setCell ⟨B, 0, none⟩ (.int .i64 n) = W4 at *
                have hE4z := hE4.size
                go_wp2_with (at_builtin; refine wpList_append_own _ rfl _ _ 23 rfl w1.heap.size 48 i0 (.agg #[.int .i64 0, .int .i64 0]) 2 16 Tryz.underlying23 Hi.out Hz0.out Hz1.out Hz2.out rfl (by decide) _ _ _ rfl (hown4.alloc _) ⟨W4.heap.size, 0, none⟩ 1 1 [.int .i64 n, .int .i64 (p : Int)] rfl rfl (cell_two_new _ _ _ _) (fun x hx => by simp at hx; rcases hx with rfl | rfl <;> rfl) (by unfold maxLen; omega) (by omega) (by simp; omega) ?_; intro v' w5 hown' hgrow3 hnil3)
                have hExt := ext_grown (v := .slice ao l.length cv) (hE4.alloc _) (hown4.alloc _) hgrow3
                obtain ⟨ao2, cv2, rfl⟩ := own_slice hown'
                go_roundw
                case rel => exact ⟨l ++ [(n, (p : Int))], ao2, cv2, by rw [List.length_append]; exact hlt, by rw [List.length_append]; rfl, by rw [List.length_append]; go_num, HK2.out, by rw [ov_app, List.length_append]; exact hown', hExt⟩
                case measure => simp [intOf]; omega
    · obtain hll : l.length = S.length := by omega
      have hn : daysZ s = some l := by
        rw [HNZ.out]
        exact allO_some hll (fun i h => Hk.out i h (by omega))
      have Hn := Lib.hid hn
      have hV := OsV.of_own hown rfl
      have hbs := own_base hown
      have hsz := HE1.out.size
      clear hn
      go_wp2_with fail
      go_ret2
      unfold DaysR
      rw [Hn.out]
      exact ⟨ao, cv, rfl, hV, fun R o m e => Nat.le_trans hsz (hbs R o m e), HE1.out.trans hE⟩
end Go.Proofs.YtgndogpgfgliaaaGreatDoor
