/- Locales: the walk of the law's few. -/
import Derived.Test.YtnhdmnhfllecgaaGreatDoorQ27
import Derived.Test.YtnhdmnhfllecgaaGreatDoorQ25
import Derived.Test.YtnhdmnhfllecgaaGreatDoorQ18
import Derived.Test.YtnhdmnhfllecgaaGreatDoorQ28
import Derived.Deep.Cut
import Derived.Laws.Tables
namespace Go.Proofs.YtnhdmnhfllecgaaGreatDoor
set_option linter.unusedVariables false
set_option linter.unusedSimpArgs false
open Go.RowKit

def bgL (L : Loc) : Prop := bgP L.P ∧ bgP L.O ∧ (∀ u ∈ L.U, bgP u.f) ∧ L.nm.length ≤ 9223372036854775807 ∧ L.pt.length ≤ 9223372036854775807
theorem thr_new (w : World) (C : Array Value) (t : TypeId) (n : Nat) (hn : n = C.size) : (w.alloc (.cells C t)).there w.heap.size 0 n := by
  subst hn
  intro j hj
  constructor
  · rw [Nat.zero_add, World.cell?_alloc_new, Array.getElem?_eq_getElem hj]; rfl
  · rw [World.frozen?_alloc_new]
theorem ext_sets {a w : World} {B : Nat} (h : Ext a w) (hB : a.heap.size ≤ B) : ∀ (vs : List Value) (o : Nat), Ext a (w.setCells B o vs) := by
  intro vs
  induction vs generalizing w with
  | nil => intro o; exact h
  | cons v r ih => intro o; rw [World.setCells]; exact ih (h.setCell hB v) (o + 1)
theorem sets_size (B : Nat) : ∀ (vs : List Value) (o : Nat) (w : World), (w.setCells B o vs).heap.size = w.heap.size
  | [], _, _ => rfl
  | v :: r, o, w => by rw [World.setCells, sets_size B r (o + 1)]; simp
def SpR (ws : List (List UInt8)) (x : Value) (w : World) : Prop := ∃ g c, x = .slice (some ⟨g, 0, none⟩) ws.length c ∧ RdS ws g 0 w ∧ ws.length ≤ c ∧ c ≤ maxLen
theorem SpR.ext {ws : List (List UInt8)} {x : Value} {w w' : World} (h : SpR ws x w) (hE : Ext w w') : SpR ws x w' := by
  obtain ⟨g, c, h1, h2, h3⟩ := h
  exact ⟨g, c, h1, h2.ext hE, h3⟩
theorem yr_lenR {ws : List (List UInt8)} {a : Act} {w : World} {o : Oper} {x : Operand} {t e : TypeId} (hop : o.op = .call ⟨.builtin .len, #[x], #[t]⟩) (hot : o.type = 3) (hu : Tryz.prog.underlying t = some (.slice e)) (hx : SpR ws (a.eval x) w) : (execOp a.eval o).run Tryz.prog w = .ok (.value (.int .i64 (ws.length : Int))) w := by
  obtain ⟨g, c, h1, -⟩ := hx
  exact yr_lenU hop hot hu h1
theorem splitb_c (s : List UInt8) (c : UInt8) (w : World) (hm : Lm w) (hs : s.length ≤ 400000000) :
    Calls Tryz.prog 16 #[.string ⟨s.toArray⟩, .string ⟨#[c]⟩] w fun e w' => ∃ x, e = .returned x ∧ SpR (spl c s) x w' ∧ Ext w w' := by
  obtain ⟨m, hm⟩ := hm
  refine (Tryz.strings_Split ⟨s.toArray⟩ ⟨#[c]⟩ m w (by show s.toArray.size < _; simp; omega) hm (Nat.le_refl 1)).mono ?_
  rintro e w' ⟨rfl, rfl⟩
  rw [split_count, split_vals]
  have hl : (spl c s).length ≤ maxLen := by
    have h1 := split_count c ⟨s.toArray⟩
    have h2 := Lib.countB_le ⟨#[c]⟩ (Nat.le_refl 1) _ ⟨s.toArray⟩ (Nat.le_refl _)
    have h3 : (⟨s.toArray⟩ : ByteArray).size = s.length := by show s.toArray.size = _; simp
    have h4 : (⟨s.toArray⟩ : ByteArray).data.toList = s := by simp
    rw [h4] at h1
    unfold maxLen
    omega
  refine ⟨_, rfl, ⟨w.heap.size, (spl c s).length, rfl, ⟨by simp, fun i hi => ?_⟩, Nat.le_refl _, hl⟩, (Ext.refl w).alloc _⟩
  rw [Nat.zero_add, World.cell?_alloc_new]
  simp [hi]
/-- What few answers: if true, all texts are of a moderate length. -/
def FewR (L : Loc) (w : World) (e : Ending) (w' : World) : Prop := ∃ b : Bool, e = .returned (.bool b) ∧ (b = true → shL L) ∧ Ext w w'
theorem sj_w {N : List (List UInt8)} {D o n : Nat} {J : List UInt8} {w : World} (h : RdS N D o w) (hn : N.length = n) (hn2 : n ≤ 100) (hl : ∀ a ∈ N, a.length ≤ 2000000) (hJ : Lib.join N [10] = J) :
    Calls Tryz.prog 17 #[.slice (some ⟨D, o, none⟩) n n, .string ⟨[10].toArray⟩] w fun e w' => e = .returned (.string ⟨J.toArray⟩) ∧ Ext w w' := by
  have := sjoin_c N D o n [10] J w h (by omega) (by omega) (by
    refine Nat.le_trans (join_le N [10] 2000000 hl) ?_
    rw [hn]
    exact Nat.le_trans (Nat.mul_le_mul_left _ hn2) (by decide)) hJ
  rwa [hn] at this
theorem rds_part {A B C : List (List UInt8)} {D o : Nat} {w : World} (h : RdS (A ++ (B ++ C)) D o w) : RdS B D (o + A.length) w := by
  refine ⟨h.1, fun i hi => ?_⟩
  have := h.2 (A.length + i) (by rw [List.length_append, List.length_append]; omega)
  rw [List.getElem_append_right (by omega), List.getElem_append_left (by omega)] at this
  rw [show o + A.length + i = o + (A.length + i) by omega, this]
  have e : A.length + i - A.length = i := by omega
  simp only [e]
set_option maxRecDepth 100000 in
set_option maxHeartbeats 4000000 in
theorem few_c (L : Loc) (w : World) (h : LcV L w) (hb : bgL L) (hm : Lm w) (hNl : ∀ s ∈ L.N.all, s.length ≤ 2000000) :
    Calls Tryz.prog 6 #[.agg L.vals.toArray] w (FewR L w) := by
  have hIL := loc_size h.1
  have hIN := names_size h.1
  have hE0 : Ext w (w.alloc (.cells L.vals.toArray 30)) := (Ext.refl w).alloc _
  have hB := LcB.new L w 30
  have hV := h.ext hE0
  obtain ⟨g0, g1, g2, g3, g4⟩ := hB.cells h.1
  have hRn := hB.names h.1
  have HV := Lib.hid hV
  have HBk := Lib.hid hB
  have HE0 := Lib.hid hE0
  have HNl := Lib.hid hNl
  have Hb := Lib.hid hb
  have HM0 := Lib.hid (hm.ext hE0)
  obtain ⟨p1, p2, -⟩ := hV.2.1
  obtain ⟨o1, o2, -⟩ := hV.2.2.1
  obtain ⟨u1, u2, -⟩ := hV.2.2.2
  unfold maxLen at p2 o2 u2
  obtain ⟨-, -, -, l1, l2⟩ := hb
  clear hNl h hE0 hB hV hm
  by_cases q1 : 12 < L.P.length
  · have d1 : decide ((12 : Int) < (L.P.length : Int)) = true := decide_eq_true (by omega)
    go_enter Tryz.func6, Tryz.ntmps6
    go_upto_region 1 with fail
    generalize w.alloc (.cells L.vals.toArray 30) = W0 at *
    generalize w.heap.size = B at *
    have hzB := HBk.out.1
    go_wp2_with fail
    go_ret
    exact ⟨false, rfl, (fun h => by cases h), HE0.out⟩
  · have d1 : decide ((12 : Int) < (L.P.length : Int)) = false := decide_eq_false (by omega)
    by_cases q2 : 12 < L.O.length
    · have d2 : decide ((12 : Int) < (L.O.length : Int)) = true := decide_eq_true (by omega)
      go_enter Tryz.func6, Tryz.ntmps6
      go_upto_region 1 with fail
      generalize w.alloc (.cells L.vals.toArray 30) = W0 at *
      generalize w.heap.size = B at *
      have hzB := HBk.out.1
      go_wp2_with fail
      go_ret
      exact ⟨false, rfl, (fun h => by cases h), HE0.out⟩
    · have d2 : decide ((12 : Int) < (L.O.length : Int)) = false := decide_eq_false (by omega)
      by_cases q3 : 12 < L.U.length
      · have d3 : decide ((12 : Int) < (L.U.length : Int)) = true := decide_eq_true (by omega)
        go_enter Tryz.func6, Tryz.ntmps6
        go_upto_region 1 with fail
        generalize w.alloc (.cells L.vals.toArray 30) = W0 at *
        generalize w.heap.size = B at *
        have hzB := HBk.out.1
        go_wp2_with fail
        go_ret
        exact ⟨false, rfl, (fun h => by cases h), HE0.out⟩
      · have d3 : decide ((12 : Int) < (L.U.length : Int)) = false := decide_eq_false (by omega)
        by_cases q4 : 300 < L.nm.length
        · have d4 : decide ((300 : Int) < (L.nm.length : Int)) = true := decide_eq_true (by omega)
          go_enter Tryz.func6, Tryz.ntmps6
          go_upto_region 1 with fail
          generalize w.alloc (.cells L.vals.toArray 30) = W0 at *
          generalize w.heap.size = B at *
          have hzB := HBk.out.1
          go_wp2_with fail
          go_ret
          exact ⟨false, rfl, (fun h => by cases h), HE0.out⟩
        · have d4 : decide ((300 : Int) < (L.nm.length : Int)) = false := decide_eq_false (by omega)
          by_cases q5 : 300 < L.pt.length
          · have d5 : decide ((300 : Int) < (L.pt.length : Int)) = true := decide_eq_true (by omega)
            go_enter Tryz.func6, Tryz.ntmps6
            go_upto_region 1 with fail
            generalize w.alloc (.cells L.vals.toArray 30) = W0 at *
            generalize w.heap.size = B at *
            have hzB := HBk.out.1
            go_wp2_with fail
            go_ret
            exact ⟨false, rfl, (fun h => by cases h), HE0.out⟩
          · have d5 : decide ((300 : Int) < (L.pt.length : Int)) = false := decide_eq_false (by omega)
            go_enter Tryz.func6, Tryz.ntmps6
            go_upto_region 1 with fail
            generalize w.alloc (.cells L.vals.toArray 30) = W0 at *
            generalize w.heap.size = B at *
            have hzB := HBk.out.1
            go_wp2_with fail
            clear d1 d2 d3 d4 d5
            go_loopw [40] (fun i wr => ∃ j : Nat, j ≤ L.U.length ∧ i = .int .i64 (j : Int) ∧ Hid (∀ i (hi : i < L.U.length), i < j → plLong (L.U[i]).f = false) ∧ Ext W0 wr) (fun i _ => L.U.length - (intOf i).toNat)
            case atStart => exact ⟨0, Nat.zero_le _, rfl, fun i _ hi => absurd hi (Nat.not_lt_zero i), Ext.refl _⟩
            case round =>
              obtain ⟨j, hj, rfl, Hall, hE⟩ := hrel
              by_cases hlt : j < L.U.length
              · obtain ⟨R, off, hua, hzR, hcu⟩ := HV.out.2.2.2.2.2.1 (by intro e; rw [e] at hlt; simp at hlt)
                obtain ⟨c0, c1⟩ := hcu j hlt
                replace c0 := (hE.cells R _ hzR).trans c0
                replace c1 := (hE.cells R _ hzR).trans c1
                have hRr := hE.lt hzR
                have hPu := (HV.out.2.2.2.2.2.2 L.U[j] (List.getElem_mem _)).ext hE
                have hbu := Hb.out.2.2.1 L.U[j] (List.getElem_mem _)
                have HY : Hid (plLong (L.U[j]).f = false → ∀ i (hi : i < L.U.length), i < j + 1 → plLong (L.U[i]).f = false) := fun q i hi hij => by
                  by_cases e : i = j
                  · subst e; exact q
                  · exact Hall.out i hi (by omega)
                obtain ⟨u, hu⟩ : ∃ u, u = L.U[j] := ⟨_, rfl⟩
                rw [← hu] at c0 c1 HY hPu hbu
                clear hu hcu
                obtain ⟨us, uao, ucap, uf⟩ := u
                simp only at c0 c1 HY hPu hbu
                have HPu := Lib.hid hPu
                have Hbu : Hid (bgP uf) := hbu
                clear hPu hbu
                rw [hua]
                rcases Bool.eq_false_or_eq_true (plLong uf) with hq | hq
                · have Hq := Lib.hid hq
                  clear hq HY
                  go_wp2_with (first
                    | (go_at_call 15; (with_reducible refine (long1_c uf uao ucap true _ (HPu.out.ext (by (repeat (with_reducible (first | assumption | exact Ext.refl _ | refine Ext.alloc ?_ _ | refine Ext.drewN ?_ _ | refine Ext.drew ?_))))) Hbu.out Hq.out).mono ?_); rintro e w1 ⟨rfl, hE1⟩; have hX := Ext.trans (show Ext wr _ from (by (repeat (with_reducible (first | assumption | exact Ext.refl _ | refine Ext.alloc ?_ _ | refine Ext.drewN ?_ _ | refine Ext.drew ?_))))) hE1; clear hE1))
                  go_ret
                  exact ⟨false, rfl, (fun h => by cases h), HE0.out.trans (hE.trans (by (repeat (with_reducible (first | assumption | exact Ext.refl _ | refine Ext.alloc ?_ _ | refine Ext.drewN ?_ _ | refine Ext.drew ?_)))))⟩
                · have HS := Lib.hid (HY.out hq)
                  have Hq := Lib.hid hq
                  clear hq HY
                  go_wp2_with (first
                    | (go_at_call 15; (with_reducible refine (long1_c uf uao ucap false _ (HPu.out.ext (by (repeat (with_reducible (first | assumption | exact Ext.refl _ | refine Ext.alloc ?_ _ | refine Ext.drewN ?_ _ | refine Ext.drew ?_))))) Hbu.out Hq.out).mono ?_); rintro e w1 ⟨rfl, hE1⟩; have hX := Ext.trans (show Ext wr _ from (by (repeat (with_reducible (first | assumption | exact Ext.refl _ | refine Ext.alloc ?_ _ | refine Ext.drewN ?_ _ | refine Ext.drew ?_))))) hE1; clear hE1))
                  go_roundw
                  case rel => exact ⟨j + 1, by omega, by go_num, HS, hE.trans (by (repeat (with_reducible (first | assumption | exact Ext.refl _ | refine Ext.alloc ?_ _ | refine Ext.drewN ?_ _ | refine Ext.drew ?_))))⟩
                  case measure => simp [intOf]; omega
              · obtain rfl : j = L.U.length := by omega
                have HSU : Hid (∀ u ∈ L.U, shP u.f) := fun u hu => by
                  obtain ⟨i, hi, rfl⟩ := List.mem_iff_getElem.1 hu
                  exact plLong_shP (Hall.out i hi hi)
                have hRnr := rng_ext1 hRn hzB hE
                have hBr := hE.lt hzB
                have hth := fun C => thr_new wr C 26
                have hoc : (sv L.N.all).toArray.all (·.oneCell') = true := all_oneCell_toArray (fun v hv => by
                  unfold sv at hv
                  obtain ⟨l, -, rfl⟩ := List.mem_map.1 hv
                  rfl)
                have hs40 : (sv L.N.all).toArray.size = 40 := by rw [List.size_toArray]; exact sv40 HV.out.1
                have hIN2 : (Tryz.prog.info? 26).map (·.size) = some (sv L.N.all).toArray.size := by rw [List.size_toArray]; exact hIN
                have Hs40 := Lib.hid hs40
                clear hs40
                go_upto_region 11 with (first
                  | (refine load_midg (by rfl) 26 _ rfl B 1 rfl (sv L.N.all) _ hRnr Tryz.underlying26 rfl hIN ?_)
                  | (refine wpList_store_mid rfl 26 _ _ rfl wr.heap.size 0 (sv L.N.all).toArray rfl rfl (hth _ _ (by rw [Hs40.out]; kernel_rfl)) hIN2 hoc ?_))
                have hEs : Ext wr ((wr.alloc (.cells #[Value.string ⟨#[]⟩, Value.string ⟨#[]⟩, Value.string ⟨#[]⟩, Value.string ⟨#[]⟩, Value.string ⟨#[]⟩, Value.string ⟨#[]⟩, Value.string ⟨#[]⟩, Value.string ⟨#[]⟩, Value.string ⟨#[]⟩, Value.string ⟨#[]⟩, Value.string ⟨#[]⟩, Value.string ⟨#[]⟩, Value.string ⟨#[]⟩, Value.string ⟨#[]⟩, Value.string ⟨#[]⟩, Value.string ⟨#[]⟩, Value.string ⟨#[]⟩, Value.string ⟨#[]⟩, Value.string ⟨#[]⟩, Value.string ⟨#[]⟩, Value.string ⟨#[]⟩, Value.string ⟨#[]⟩, Value.string ⟨#[]⟩, Value.string ⟨#[]⟩, Value.string ⟨#[]⟩, Value.string ⟨#[]⟩, Value.string ⟨#[]⟩, Value.string ⟨#[]⟩, Value.string ⟨#[]⟩, Value.string ⟨#[]⟩, Value.string ⟨#[]⟩, Value.string ⟨#[]⟩, Value.string ⟨#[]⟩, Value.string ⟨#[]⟩, Value.string ⟨#[]⟩, Value.string ⟨#[]⟩, Value.string ⟨#[]⟩, Value.string ⟨#[]⟩, Value.string ⟨#[]⟩, Value.string ⟨#[]⟩] 26)).setCells wr.heap.size 0 (sv L.N.all)) := ext_sets ((Ext.refl wr).alloc _) (Nat.le_refl _) _ _
                have hRs : ((wr.alloc (.cells #[Value.string ⟨#[]⟩, Value.string ⟨#[]⟩, Value.string ⟨#[]⟩, Value.string ⟨#[]⟩, Value.string ⟨#[]⟩, Value.string ⟨#[]⟩, Value.string ⟨#[]⟩, Value.string ⟨#[]⟩, Value.string ⟨#[]⟩, Value.string ⟨#[]⟩, Value.string ⟨#[]⟩, Value.string ⟨#[]⟩, Value.string ⟨#[]⟩, Value.string ⟨#[]⟩, Value.string ⟨#[]⟩, Value.string ⟨#[]⟩, Value.string ⟨#[]⟩, Value.string ⟨#[]⟩, Value.string ⟨#[]⟩, Value.string ⟨#[]⟩, Value.string ⟨#[]⟩, Value.string ⟨#[]⟩, Value.string ⟨#[]⟩, Value.string ⟨#[]⟩, Value.string ⟨#[]⟩, Value.string ⟨#[]⟩, Value.string ⟨#[]⟩, Value.string ⟨#[]⟩, Value.string ⟨#[]⟩, Value.string ⟨#[]⟩, Value.string ⟨#[]⟩, Value.string ⟨#[]⟩, Value.string ⟨#[]⟩, Value.string ⟨#[]⟩, Value.string ⟨#[]⟩, Value.string ⟨#[]⟩, Value.string ⟨#[]⟩, Value.string ⟨#[]⟩, Value.string ⟨#[]⟩, Value.string ⟨#[]⟩] 26)).setCells wr.heap.size 0 (sv L.N.all)).rangeAt wr.heap.size 0 (sv L.N.all) := World.rangeAt_setCells_same _ _ _ _ (thr_new wr _ 26 _ (by rw [sv40 HV.out.1]; kernel_rfl))
                have hzs : wr.heap.size < ((wr.alloc (.cells #[Value.string ⟨#[]⟩, Value.string ⟨#[]⟩, Value.string ⟨#[]⟩, Value.string ⟨#[]⟩, Value.string ⟨#[]⟩, Value.string ⟨#[]⟩, Value.string ⟨#[]⟩, Value.string ⟨#[]⟩, Value.string ⟨#[]⟩, Value.string ⟨#[]⟩, Value.string ⟨#[]⟩, Value.string ⟨#[]⟩, Value.string ⟨#[]⟩, Value.string ⟨#[]⟩, Value.string ⟨#[]⟩, Value.string ⟨#[]⟩, Value.string ⟨#[]⟩, Value.string ⟨#[]⟩, Value.string ⟨#[]⟩, Value.string ⟨#[]⟩, Value.string ⟨#[]⟩, Value.string ⟨#[]⟩, Value.string ⟨#[]⟩, Value.string ⟨#[]⟩, Value.string ⟨#[]⟩, Value.string ⟨#[]⟩, Value.string ⟨#[]⟩, Value.string ⟨#[]⟩, Value.string ⟨#[]⟩, Value.string ⟨#[]⟩, Value.string ⟨#[]⟩, Value.string ⟨#[]⟩, Value.string ⟨#[]⟩, Value.string ⟨#[]⟩, Value.string ⟨#[]⟩, Value.string ⟨#[]⟩, Value.string ⟨#[]⟩, Value.string ⟨#[]⟩, Value.string ⟨#[]⟩, Value.string ⟨#[]⟩] 26)).setCells wr.heap.size 0 (sv L.N.all)).heap.size := by rw [sets_size]; simp
                generalize ((wr.alloc (.cells #[Value.string ⟨#[]⟩, Value.string ⟨#[]⟩, Value.string ⟨#[]⟩, Value.string ⟨#[]⟩, Value.string ⟨#[]⟩, Value.string ⟨#[]⟩, Value.string ⟨#[]⟩, Value.string ⟨#[]⟩, Value.string ⟨#[]⟩, Value.string ⟨#[]⟩, Value.string ⟨#[]⟩, Value.string ⟨#[]⟩, Value.string ⟨#[]⟩, Value.string ⟨#[]⟩, Value.string ⟨#[]⟩, Value.string ⟨#[]⟩, Value.string ⟨#[]⟩, Value.string ⟨#[]⟩, Value.string ⟨#[]⟩, Value.string ⟨#[]⟩, Value.string ⟨#[]⟩, Value.string ⟨#[]⟩, Value.string ⟨#[]⟩, Value.string ⟨#[]⟩, Value.string ⟨#[]⟩, Value.string ⟨#[]⟩, Value.string ⟨#[]⟩, Value.string ⟨#[]⟩, Value.string ⟨#[]⟩, Value.string ⟨#[]⟩, Value.string ⟨#[]⟩, Value.string ⟨#[]⟩, Value.string ⟨#[]⟩, Value.string ⟨#[]⟩, Value.string ⟨#[]⟩, Value.string ⟨#[]⟩, Value.string ⟨#[]⟩, Value.string ⟨#[]⟩, Value.string ⟨#[]⟩, Value.string ⟨#[]⟩] 26)).setCells wr.heap.size 0 (sv L.N.all)) = V at hEs hRs hzs ⊢
                simp only [Act.put]
                have hRA : RdS L.N.all wr.heap.size 0 V := ⟨hzs, fun i hi => hRs i _ (by unfold sv; simp [hi])⟩
                have hNk := HV.out.1
                obtain ⟨n1, n2, n3, n4, n5⟩ := hNk
                have hA1 : RdS L.N.mo wr.heap.size 0 V := rds_part (A := []) hRA
                have hA2 : RdS L.N.sh wr.heap.size 12 V := by have := rds_part (A := L.N.mo) (B := L.N.sh) hRA; rwa [n1] at this
                have hA3 : RdS L.N.da wr.heap.size 24 V := by have := rds_part (A := L.N.mo ++ L.N.sh) (B := L.N.da) (C := L.N.sd ++ L.N.ha) (by rw [List.append_assoc]; exact hRA); rwa [List.length_append, n1, n2] at this
                have hA4 : RdS L.N.sd wr.heap.size 31 V := by have := rds_part (A := L.N.mo ++ L.N.sh ++ L.N.da) (B := L.N.sd) (C := L.N.ha) (by rw [List.append_assoc, List.append_assoc]; exact hRA); rwa [List.length_append, List.length_append, n1, n2, n3] at this
                have hA5 : RdS L.N.ha wr.heap.size 38 V := by have := rds_part (A := L.N.mo ++ L.N.sh ++ L.N.da ++ L.N.sd) (B := L.N.ha) (C := []) (by rw [List.append_assoc, List.append_assoc, List.append_assoc, List.append_nil]; exact hRA); rwa [List.length_append, List.length_append, List.length_append, n1, n2, n3, n4] at this
                have hN := HNl.out
                unfold Nms.all at hN
                have hl1 : ∀ a ∈ L.N.mo, a.length ≤ 2000000 := fun a ha => hN a (by simp [ha])
                have hl2 : ∀ a ∈ L.N.sh, a.length ≤ 2000000 := fun a ha => hN a (by simp [ha])
                have hl3 : ∀ a ∈ L.N.da, a.length ≤ 2000000 := fun a ha => hN a (by simp [ha])
                have hl4 : ∀ a ∈ L.N.sd, a.length ≤ 2000000 := fun a ha => hN a (by simp [ha])
                have hl5 : ∀ a ∈ L.N.ha, a.length ≤ 2000000 := fun a ha => hN a (by simp [ha])
                obtain ⟨J1, e1⟩ : ∃ J, Lib.join L.N.mo [10] = J := ⟨_, rfl⟩
                obtain ⟨J2, e2⟩ : ∃ J, Lib.join L.N.sh [10] = J := ⟨_, rfl⟩
                obtain ⟨J3, e3⟩ : ∃ J, Lib.join L.N.da [10] = J := ⟨_, rfl⟩
                obtain ⟨J4, e4⟩ : ∃ J, Lib.join L.N.sd [10] = J := ⟨_, rfl⟩
                obtain ⟨J5, e5⟩ : ∃ J, Lib.join L.N.ha [10] = J := ⟨_, rfl⟩
                have s1 : J1.length ≤ 24000012 := by rw [← e1]; refine Nat.le_trans (join_le _ _ 2000000 hl1) ?_; rw [n1]; decide
                have s2 : J2.length ≤ 24000012 := by rw [← e2]; refine Nat.le_trans (join_le _ _ 2000000 hl2) ?_; rw [n2]; decide
                have s3 : J3.length ≤ 24000012 := by rw [← e3]; refine Nat.le_trans (join_le _ _ 2000000 hl3) ?_; rw [n3]; decide
                have s4 : J4.length ≤ 24000012 := by rw [← e4]; refine Nat.le_trans (join_le _ _ 2000000 hl4) ?_; rw [n4]; decide
                have s5 : J5.length ≤ 24000012 := by rw [← e5]; refine Nat.le_trans (join_le _ _ 2000000 hl5) ?_; rw [n5]; decide
                have HJ1 := Lib.hid (fun (w' : World) (hE' : Ext V w') => sj_w (hA1.ext hE') n1 (by decide) hl1 e1)
                have HJ2 := Lib.hid (fun (w' : World) (hE' : Ext V w') => sj_w (hA2.ext hE') n2 (by decide) hl2 e2)
                have HJ3 := Lib.hid (fun (w' : World) (hE' : Ext V w') => sj_w (hA3.ext hE') n3 (by decide) hl3 e3)
                have HJ4 := Lib.hid (fun (w' : World) (hE' : Ext V w') => sj_w (hA4.ext hE') n4 (by decide) hl4 e4)
                have HJ5 := Lib.hid (fun (w' : World) (hE' : Ext V w') => sj_w (hA5.ext hE') n5 (by decide) hl5 e5)
                obtain ⟨T1, hT1⟩ : ∃ T, J1 ++ [10] = T := ⟨_, rfl⟩
                have z1 : T1.length = J1.length + 1 := by rw [← hT1, List.length_append] <;> rfl
                have HT1 := Lib.hid hT1
                obtain ⟨T2, hT2⟩ : ∃ T, T1 ++ J2 = T := ⟨_, rfl⟩
                have z2 : T2.length = T1.length + J2.length := by rw [← hT2, List.length_append] <;> rfl
                have HT2 := Lib.hid hT2
                obtain ⟨T3, hT3⟩ : ∃ T, T2 ++ [10] = T := ⟨_, rfl⟩
                have z3 : T3.length = T2.length + 1 := by rw [← hT3, List.length_append] <;> rfl
                have HT3 := Lib.hid hT3
                obtain ⟨T4, hT4⟩ : ∃ T, T3 ++ J3 = T := ⟨_, rfl⟩
                have z4 : T4.length = T3.length + J3.length := by rw [← hT4, List.length_append] <;> rfl
                have HT4 := Lib.hid hT4
                obtain ⟨T5, hT5⟩ : ∃ T, T4 ++ [10] = T := ⟨_, rfl⟩
                have z5 : T5.length = T4.length + 1 := by rw [← hT5, List.length_append] <;> rfl
                have HT5 := Lib.hid hT5
                obtain ⟨T6, hT6⟩ : ∃ T, T5 ++ J4 = T := ⟨_, rfl⟩
                have z6 : T6.length = T5.length + J4.length := by rw [← hT6, List.length_append] <;> rfl
                have HT6 := Lib.hid hT6
                obtain ⟨T7, hT7⟩ : ∃ T, T6 ++ [10] = T := ⟨_, rfl⟩
                have z7 : T7.length = T6.length + 1 := by rw [← hT7, List.length_append] <;> rfl
                have HT7 := Lib.hid hT7
                obtain ⟨T8, hT8⟩ : ∃ T, T7 ++ J5 = T := ⟨_, rfl⟩
                have z8 : T8.length = T7.length + J5.length := by rw [← hT8, List.length_append] <;> rfl
                have HT8 := Lib.hid hT8
                have z9 : T1.length ≤ 400000000 ∧ T2.length ≤ 400000000 ∧ T3.length ≤ 400000000 ∧ T4.length ≤ 400000000 ∧ T5.length ≤ 400000000 ∧ T6.length ≤ 400000000 ∧ T7.length ≤ 400000000 ∧ T8.length ≤ 400000000 := by omega
                obtain ⟨y1, y2, y3, y4, y5, y6, y7, y8⟩ := z9
                clear hT1 hT2 hT3 hT4 hT5 hT6 hT7 hT8 z1 z2 z3 z4 z5 z6 z7 z8
                obtain ⟨ws, hws⟩ : ∃ ws, spl 10 T8 = ws := ⟨_, rfl⟩
                have HWl : Hid (∀ x ∈ ws, x.length ≤ 400000000) := fun x hx => by rw [← hws] at hx; exact Nat.le_trans (spl_len 10 T8 x hx) y8
                have HMV := Lib.hid (HM0.out.ext (hE.trans hEs))
                have HSp : Hid (∀ w', Ext V w' → Calls Tryz.prog 16 #[.string ⟨T8.toArray⟩, .string ⟨[10].toArray⟩] w' fun e w'' => ∃ x, e = .returned x ∧ SpR ws x w'' ∧ Ext w' w'') := fun w' hE' => by
                  have := splitb_c T8 10 w' (HMV.out.ext hE') y8
                  rwa [hws] at this
                have HEV := Lib.hid (HE0.out.trans (hE.trans hEs))
                have g1V := ((hE.trans hEs).cells B 41 hzB).trans g1
                have g2V := ((hE.trans hEs).cells B 42 hzB).trans g2
                have hBV := (hE.trans hEs).lt hzB
                have HPV := Lib.hid (HV.out.2.1.ext (hE.trans hEs))
                have HOV := Lib.hid (HV.out.2.2.1.ext (hE.trans hEs))
                have Hb1 : Hid (bgP L.P) := Hb.out.1
                have Hb2 : Hid (bgP L.O) := Hb.out.2.1
                generalize wr.heap.size = D at *
                clear hws hA1 hA2 hA3 hA4 hA5 hl1 hl2 hl3 hl4 hl5 e1 e2 e3 e4 e5 hRA hN n1 n2 n3 n4 n5 hE hEs hRs hRnr hRn hth hoc hIN2 Hs40 hBr
                refine wp_region_grow [51, 52, 53, 54, 55, 56, 57, 58, 59, 60, 61, 62, 63, 64, 65, 66, 67, 68, 69, 70, 71, 72, 73, 74, 75, 76] [fun x _ => x = .pointer (some ⟨D, 0, none⟩), fun x _ => x = .slice (some ⟨D, 0, none⟩) 12 12, fun x _ => x = .string ⟨(J1).toArray⟩, fun x _ => x = .string ⟨(T1).toArray⟩, fun x _ => x = .pointer (some ⟨D, 12, none⟩), fun x _ => x = .slice (some ⟨D, 12, none⟩) 12 12, fun x _ => x = .string ⟨(J2).toArray⟩, fun x _ => x = .string ⟨(T2).toArray⟩, fun x _ => x = .string ⟨(T3).toArray⟩, fun x _ => x = .pointer (some ⟨D, 24, none⟩), fun x _ => x = .slice (some ⟨D, 24, none⟩) 7 7, fun x _ => x = .string ⟨(J3).toArray⟩, fun x _ => x = .string ⟨(T4).toArray⟩, fun x _ => x = .string ⟨(T5).toArray⟩, fun x _ => x = .pointer (some ⟨D, 31, none⟩), fun x _ => x = .slice (some ⟨D, 31, none⟩) 7 7, fun x _ => x = .string ⟨(J4).toArray⟩, fun x _ => x = .string ⟨(T6).toArray⟩, fun x _ => x = .string ⟨(T7).toArray⟩, fun x _ => x = .pointer (some ⟨D, 38, none⟩), fun x _ => x = .slice (some ⟨D, 38, none⟩) 2 2, fun x _ => x = .string ⟨(J5).toArray⟩, fun x _ => x = .string ⟨(T8).toArray⟩, SpR ws, fun x _ => x = .int .i64 (ws.length : Int), fun x _ => x = .int .i64 0] 0 (by kernel_rfl) (by kernel_rfl) (by kernel_rfl) (by kernel_rfl) ?_ ?_ ?_
                · intro Rl hRl
                  simp only [List.mem_cons, List.not_mem_nil, or_false] at hRl
                  rcases hRl with rfl | rfl | rfl | rfl | rfl | rfl | rfl | rfl | rfl | rfl | rfl | rfl | rfl | rfl | rfl | rfl | rfl | rfl | rfl | rfl | rfl | rfl | rfl | rfl | rfl | rfl
                  all_goals first
                    | exact fun _ _ _ h _ => h
                    | exact fun _ _ _ h hE => SpR.ext h hE
                · refine ⟨?_, ?_, ?_, ?_, ?_, ?_, ?_, ?_, ?_, ?_, ?_, ?_, ?_, ?_, ?_, ?_, ?_, ?_, ?_, ?_, ?_, ?_, ?_, ?_, ?_, ?_, trivial⟩
                  all_goals intro a w hE hF hD K hK
                  · exact gs_val rfl (yr_field rfl ((hF 6 (fr_of rfl)).trans rfl) (fa_0 D w)) (hK _ _ rfl (Ext.refl _))
                  · have u51 : a.eval (.tmp 51) = .pointer (some ⟨D, 0, none⟩) := hD 0 (by kernel_rfl)
                    exact gs_val rfl (yr_sla rfl u51 (sl33 D 0 w)) (hK _ _ rfl (Ext.refl _))
                  · have u52 : a.eval (.tmp 52) = .slice (some ⟨D, 0, none⟩) 12 12 := hD 1 (by kernel_rfl)
                    have q0 : a.eval (.tmp 52) = .slice (some ⟨D, 0, none⟩) 12 12 := u52
                    exact gs_call rfl (yr_call rfl rfl (show (#[Operand.tmp 52, Operand.const (.string ⟨[10].toArray⟩)] : Array Operand).map a.eval = #[.slice (some ⟨D, 0, none⟩) 12 12, .string ⟨[10].toArray⟩] by simp only [List.map_toArray, List.map_cons, List.map_nil, q0] <;> rfl) (by kernel_rfl)) ((HJ1.out w hE).mono fun e w' ⟨h1, h2⟩ => ⟨_, h1, rfl, h2⟩) hK
                  · have u53 : a.eval (.tmp 53) = .string ⟨(J1).toArray⟩ := hD 2 (by kernel_rfl)
                    exact gs_val rfl (yr_addt rfl u53 rfl (by omega) HT1.out) (hK _ _ rfl (Ext.refl _))
                  · exact gs_val rfl (yr_field rfl ((hF 6 (fr_of rfl)).trans rfl) (fa_1 D w)) (hK _ _ rfl (Ext.refl _))
                  · have u55 : a.eval (.tmp 55) = .pointer (some ⟨D, 12, none⟩) := hD 4 (by kernel_rfl)
                    exact gs_val rfl (yr_sla rfl u55 (sl33 D 12 w)) (hK _ _ rfl (Ext.refl _))
                  · have u56 : a.eval (.tmp 56) = .slice (some ⟨D, 12, none⟩) 12 12 := hD 5 (by kernel_rfl)
                    have q0 : a.eval (.tmp 56) = .slice (some ⟨D, 12, none⟩) 12 12 := u56
                    exact gs_call rfl (yr_call rfl rfl (show (#[Operand.tmp 56, Operand.const (.string ⟨[10].toArray⟩)] : Array Operand).map a.eval = #[.slice (some ⟨D, 12, none⟩) 12 12, .string ⟨[10].toArray⟩] by simp only [List.map_toArray, List.map_cons, List.map_nil, q0] <;> rfl) (by kernel_rfl)) ((HJ2.out w hE).mono fun e w' ⟨h1, h2⟩ => ⟨_, h1, rfl, h2⟩) hK
                  · have u54 : a.eval (.tmp 54) = .string ⟨(T1).toArray⟩ := hD 3 (by kernel_rfl)
                    have u57 : a.eval (.tmp 57) = .string ⟨(J2).toArray⟩ := hD 6 (by kernel_rfl)
                    exact gs_val rfl (yr_addt rfl u54 u57 (by omega) HT2.out) (hK _ _ rfl (Ext.refl _))
                  · have u58 : a.eval (.tmp 58) = .string ⟨(T2).toArray⟩ := hD 7 (by kernel_rfl)
                    exact gs_val rfl (yr_addt rfl u58 rfl (by omega) HT3.out) (hK _ _ rfl (Ext.refl _))
                  · exact gs_val rfl (yr_field rfl ((hF 6 (fr_of rfl)).trans rfl) (fa_2 D w)) (hK _ _ rfl (Ext.refl _))
                  · have u60 : a.eval (.tmp 60) = .pointer (some ⟨D, 24, none⟩) := hD 9 (by kernel_rfl)
                    exact gs_val rfl (yr_sla rfl u60 (sl34 D 24 w)) (hK _ _ rfl (Ext.refl _))
                  · have u61 : a.eval (.tmp 61) = .slice (some ⟨D, 24, none⟩) 7 7 := hD 10 (by kernel_rfl)
                    have q0 : a.eval (.tmp 61) = .slice (some ⟨D, 24, none⟩) 7 7 := u61
                    exact gs_call rfl (yr_call rfl rfl (show (#[Operand.tmp 61, Operand.const (.string ⟨[10].toArray⟩)] : Array Operand).map a.eval = #[.slice (some ⟨D, 24, none⟩) 7 7, .string ⟨[10].toArray⟩] by simp only [List.map_toArray, List.map_cons, List.map_nil, q0] <;> rfl) (by kernel_rfl)) ((HJ3.out w hE).mono fun e w' ⟨h1, h2⟩ => ⟨_, h1, rfl, h2⟩) hK
                  · have u59 : a.eval (.tmp 59) = .string ⟨(T3).toArray⟩ := hD 8 (by kernel_rfl)
                    have u62 : a.eval (.tmp 62) = .string ⟨(J3).toArray⟩ := hD 11 (by kernel_rfl)
                    exact gs_val rfl (yr_addt rfl u59 u62 (by omega) HT4.out) (hK _ _ rfl (Ext.refl _))
                  · have u63 : a.eval (.tmp 63) = .string ⟨(T4).toArray⟩ := hD 12 (by kernel_rfl)
                    exact gs_val rfl (yr_addt rfl u63 rfl (by omega) HT5.out) (hK _ _ rfl (Ext.refl _))
                  · exact gs_val rfl (yr_field rfl ((hF 6 (fr_of rfl)).trans rfl) (fa_3 D w)) (hK _ _ rfl (Ext.refl _))
                  · have u65 : a.eval (.tmp 65) = .pointer (some ⟨D, 31, none⟩) := hD 14 (by kernel_rfl)
                    exact gs_val rfl (yr_sla rfl u65 (sl34 D 31 w)) (hK _ _ rfl (Ext.refl _))
                  · have u66 : a.eval (.tmp 66) = .slice (some ⟨D, 31, none⟩) 7 7 := hD 15 (by kernel_rfl)
                    have q0 : a.eval (.tmp 66) = .slice (some ⟨D, 31, none⟩) 7 7 := u66
                    exact gs_call rfl (yr_call rfl rfl (show (#[Operand.tmp 66, Operand.const (.string ⟨[10].toArray⟩)] : Array Operand).map a.eval = #[.slice (some ⟨D, 31, none⟩) 7 7, .string ⟨[10].toArray⟩] by simp only [List.map_toArray, List.map_cons, List.map_nil, q0] <;> rfl) (by kernel_rfl)) ((HJ4.out w hE).mono fun e w' ⟨h1, h2⟩ => ⟨_, h1, rfl, h2⟩) hK
                  · have u64 : a.eval (.tmp 64) = .string ⟨(T5).toArray⟩ := hD 13 (by kernel_rfl)
                    have u67 : a.eval (.tmp 67) = .string ⟨(J4).toArray⟩ := hD 16 (by kernel_rfl)
                    exact gs_val rfl (yr_addt rfl u64 u67 (by omega) HT6.out) (hK _ _ rfl (Ext.refl _))
                  · have u68 : a.eval (.tmp 68) = .string ⟨(T6).toArray⟩ := hD 17 (by kernel_rfl)
                    exact gs_val rfl (yr_addt rfl u68 rfl (by omega) HT7.out) (hK _ _ rfl (Ext.refl _))
                  · exact gs_val rfl (yr_field rfl ((hF 6 (fr_of rfl)).trans rfl) (fa_4 D w)) (hK _ _ rfl (Ext.refl _))
                  · have u70 : a.eval (.tmp 70) = .pointer (some ⟨D, 38, none⟩) := hD 19 (by kernel_rfl)
                    exact gs_val rfl (yr_sla rfl u70 (sl35 D 38 w)) (hK _ _ rfl (Ext.refl _))
                  · have u71 : a.eval (.tmp 71) = .slice (some ⟨D, 38, none⟩) 2 2 := hD 20 (by kernel_rfl)
                    have q0 : a.eval (.tmp 71) = .slice (some ⟨D, 38, none⟩) 2 2 := u71
                    exact gs_call rfl (yr_call rfl rfl (show (#[Operand.tmp 71, Operand.const (.string ⟨[10].toArray⟩)] : Array Operand).map a.eval = #[.slice (some ⟨D, 38, none⟩) 2 2, .string ⟨[10].toArray⟩] by simp only [List.map_toArray, List.map_cons, List.map_nil, q0] <;> rfl) (by kernel_rfl)) ((HJ5.out w hE).mono fun e w' ⟨h1, h2⟩ => ⟨_, h1, rfl, h2⟩) hK
                  · have u69 : a.eval (.tmp 69) = .string ⟨(T7).toArray⟩ := hD 18 (by kernel_rfl)
                    have u72 : a.eval (.tmp 72) = .string ⟨(J5).toArray⟩ := hD 21 (by kernel_rfl)
                    exact gs_val rfl (yr_addt rfl u69 u72 (by omega) HT8.out) (hK _ _ rfl (Ext.refl _))
                  · have u73 : a.eval (.tmp 73) = .string ⟨(T8).toArray⟩ := hD 22 (by kernel_rfl)
                    have q0 : a.eval (.tmp 73) = .string ⟨(T8).toArray⟩ := u73
                    exact gs_call rfl (yr_call rfl rfl (show (#[Operand.tmp 73, Operand.const (.string ⟨[10].toArray⟩)] : Array Operand).map a.eval = #[.string ⟨(T8).toArray⟩, .string ⟨[10].toArray⟩] by simp only [List.map_toArray, List.map_cons, List.map_nil, q0] <;> rfl) (by kernel_rfl)) (HSp.out w hE) hK
                  · have u74 := hD 23 (by kernel_rfl)
                    exact gs_val rfl (yr_lenR (ws := ws) rfl rfl Tryz.underlying54 u74) (hK _ _ rfl (Ext.refl _))
                  · exact gs_val rfl (yr_move rfl rfl) (hK _ _ rfl (Ext.refl _))
                intro vals wz hEz hRz
                obtain ⟨-, -, -, -, -, -, -, -, -, -, -, -, -, -, -, -, -, -, -, -, -, -, -, h23, h24, h25, -⟩ := hRz
                obtain ⟨g, cg, e74, hg1, hg2, hg3⟩ := h23
                have e75 : vals 24 = .int .i64 (ws.length : Int) := h24
                have e76 : vals 25 = .int .i64 0 := h25
                refine wpAny_done (by kernel_rfl) ?_ _
                simp only [putF, Act.put, List.length_cons, List.length_nil, List.getD_cons_zero, List.getD_cons_succ, List.setIfInBounds_toArray, List.set_cons_zero, List.set_cons_succ, Nat.reduceAdd, e74, e75, e76]
                clear e74 e75 e76
                have hgl := hg1.1
                unfold maxLen at hg3
                have HG := Lib.hid hg1.2
                have g1z := (hEz.cells B 41 hBV).trans g1V
                have g2z := (hEz.cells B 42 hBV).trans g2V
                have hBz := hEz.lt hBV
                have HPz := Lib.hid (HPV.out.ext hEz)
                have HOz := Lib.hid (HOV.out.ext hEz)
                have HEz := Lib.hid (HEV.out.trans hEz)
                have HSh : Hid (plLong L.P = false → plLong L.O = false → shL L) := fun h1 h2 => ⟨plLong_shP h1, plLong_shP h2, HSU.out, by omega, by omega⟩
                clear hg1 hEz g1V g2V hBV hzs
                go_wp2_with fail
                go_loopw [76] (fun i wt => ∃ j : Nat, j ≤ ws.length ∧ i = .int .i64 (j : Int) ∧ wz = wt) (fun i _ => ws.length - (intOf i).toNat)
                case atStart => exact ⟨0, Nat.zero_le _, rfl, rfl⟩
                case round =>
                  obtain ⟨j, hj, rfl, rfl⟩ := hrel
                  by_cases hlt : j < ws.length
                  · have c0 := HG.out j hlt
                    rw [Nat.zero_add] at c0
                    have hxl := HWl.out ws[j] (List.getElem_mem _)
                    obtain ⟨x, hx⟩ : ∃ x, x = ws[j] := ⟨_, rfl⟩
                    rw [← hx] at c0 hxl
                    clear hx
                    by_cases q6 : 300 < x.length
                    · have d6 : decide ((300 : Int) < (x.length : Int)) = true := decide_eq_true (by omega)
                      go_wp2_with fail
                      go_ret
                      exact ⟨false, rfl, (fun h => by cases h), HEz.out⟩
                    · have d6 : decide ((300 : Int) < (x.length : Int)) = false := decide_eq_false (by omega)
                      go_wp2_with fail
                      go_roundw
                      case rel => exact ⟨j + 1, by omega, by go_num, by trivial⟩
                      case measure => simp [intOf]; omega
                  · obtain rfl : j = ws.length := by omega
                    rcases Bool.eq_false_or_eq_true (plLong L.P) with hq | hq
                    · have Hq := Lib.hid hq
                      clear hq
                      go_wp2_with (first
                        | (go_at_call 15; (with_reducible refine (long1_c L.P L.pa L.pc true _ HPz.out Hb1.out Hq.out).mono ?_); rintro e w1 ⟨rfl, hE1⟩))
                      go_ret
                      exact ⟨false, rfl, (fun h => by cases h), HEz.out.trans hE1⟩
                    · have Hq := Lib.hid hq
                      clear hq
                      rcases Bool.eq_false_or_eq_true (plLong L.O) with hr | hr
                      · have Hr := Lib.hid hr
                        clear hr
                        go_wp2_with (first
                          | (go_at_call 15; (with_reducible refine (long1_c L.P L.pa L.pc false _ HPz.out Hb1.out Hq.out).mono ?_); rintro e w1 ⟨rfl, hE1⟩; have g2y := (hE1.cells B 42 hBz).trans g2z; have hBy := hE1.lt hBz)
                          | (go_at_call 15; (with_reducible refine (long1_c L.O L.oa L.oc true _ (HOz.out.ext hE1) Hb2.out Hr.out).mono ?_); rintro e w2 ⟨rfl, hE2⟩))
                        go_ret
                        exact ⟨false, rfl, (fun h => by cases h), HEz.out.trans (hE1.trans hE2)⟩
                      · have Hr := Lib.hid hr
                        clear hr
                        go_wp2_with (first
                          | (go_at_call 15; (with_reducible refine (long1_c L.P L.pa L.pc false _ HPz.out Hb1.out Hq.out).mono ?_); rintro e w1 ⟨rfl, hE1⟩; have g2y := (hE1.cells B 42 hBz).trans g2z; have hBy := hE1.lt hBz)
                          | (go_at_call 15; (with_reducible refine (long1_c L.O L.oa L.oc false _ (HOz.out.ext hE1) Hb2.out Hr.out).mono ?_); rintro e w2 ⟨rfl, hE2⟩))
                        go_ret
                        exact ⟨true, rfl, (fun _ => HSh.out Hq.out Hr.out), HEz.out.trans (hE1.trans hE2)⟩
end Go.Proofs.YtnhdmnhfllecgaaGreatDoor
/- Locales: the walk of Text. -/
namespace Go.Proofs.YtnhdmnhfllecgaaGreatDoor
set_option linter.unusedVariables false
set_option linter.unusedSimpArgs false
open Go.RowKit

theorem nms_30 {l : List (List UInt8)} (h : nmsB 30 l = true) : ∀ a ∈ l, a.length ≤ 30 := by
  intro a ha
  rw [nmsB_ref, List.all_eq_true] at h
  obtain ⟨i, hi, rfl⟩ := List.mem_iff_getElem.1 ha
  have h1 := h i (List.mem_range.2 hi)
  unfold nmAt at h1
  simp only [Bool.and_eq_true] at h1
  have h2 := h1.1
  rw [List.getD_eq_getElem?_getD, List.getElem?_eq_getElem hi] at h2
  unfold nameB at h2
  simp only [Bool.and_eq_true, decide_eq_true_eq] at h2
  exact h2.1.1.2
theorem valid_nm {L : Loc} (h : validLB L = true) : (∀ a ∈ L.N.mo, a.length ≤ 30) ∧ (∀ a ∈ L.N.sh, a.length ≤ 30) ∧ (∀ a ∈ L.N.da, a.length ≤ 30) ∧ (∀ a ∈ L.N.sd, a.length ≤ 30) ∧ (∀ a ∈ L.N.ha, a.length ≤ 30) := by
  unfold validLB at h
  simp only [Bool.and_eq_true] at h
  have h1 := h.1.1.1.1.2
  unfold nmOk at h1
  simp only [Bool.and_eq_true] at h1
  exact ⟨nms_30 h1.1.1.1.1, nms_30 h1.1.1.1.2, nms_30 h1.1.1.2, nms_30 h1.1.2, nms_30 h1.2⟩
theorem ruled_8 {l : List Plu} (h : ruledB l = true) : l.length ≤ 8 := by
  unfold ruledB at h
  simp only [Bool.and_eq_true, decide_eq_true_eq] at h
  exact h.1.2
theorem lnU_eq (u : Uni) (X : List UInt8) (h : itx u.s.natAbs 1 = X) : lnN (wUnit ++ (32 :: X)) (u.f.map (·.r)) = lnU u := by
  unfold lnN lnU
  rw [h]; simp
theorem lnN_len (w : List UInt8) (ns : List (List UInt8)) (h : ∀ a ∈ ns, a.length ≤ 30) (hn : ns.length ≤ 12) (hw : w.length ≤ 100) : (lnN w ns).length ≤ 500 := by
  unfold lnN
  have h1 := join_le ns [44] 30 h
  have h2 : (30 + ([44] : List UInt8).length) * ns.length ≤ 31 * 12 := Nat.mul_le_mul (by simp) hn
  simp only [List.length_append, List.length_cons, List.length_nil] at *
  omega
theorem lnU_len {P : List Plu} {U : List Uni} (h : UF P U) (hP : P.length ≤ 8) (i : Nat) (hi : i < U.length) : (lnU U[i]).length ≤ 500 := by
  obtain ⟨a1, a2, a3, a4⟩ := h.at_ i hi
  rw [← lnU_eq U[i] _ rfl]
  have h1 := nDig20 (U[i]).s.natAbs (by omega)
  refine lnN_len _ _ (fun x hx => ?_) (by rw [List.length_map]; omega) ?_
  · obtain ⟨p, hp, rfl⟩ := List.mem_map.1 hx
    obtain ⟨k, hk, rfl⟩ := List.mem_iff_getElem.1 hp
    exact form_len (a4 k hk)
  · have h2 : wUnit.length = 4 := rfl
    simp only [List.length_append, List.length_cons]
    omega
theorem lnsU_len {P : List Plu} {U : List Uni} (h : UF P U) (hP : P.length ≤ 8) (k : Nat) (hk : k ≤ U.length) : (lnsU (U.take k)).length ≤ k * 500 := by
  induction k with
  | zero => simp [lnsU]
  | succ k ih =>
    rw [lnsU_succ U k (by omega), List.length_append, Nat.succ_mul]
    have := ih (by omega)
    have := lnU_len h hP k (by omega)
    omega
set_option maxRecDepth 100000 in
set_option maxHeartbeats 4000000 in
theorem text55_c (L : Loc) (w : World) (h : LcV L w) (hs : shL L) (hm : Lm w) (ht : TabW w) (hNl : ∀ s ∈ L.N.all, s.length ≤ 2000000) :
    Calls Tryz.prog 7 #[.agg L.vals.toArray] w fun e w' => e = .returned (.tuple #[.string ⟨(txV L).toArray⟩, .int .i64 (txE L : Int)]) ∧ Ext w w' := by
  rcases Bool.eq_false_or_eq_true (validLB L) with hv | hv
  · have v1 : txE L = 0 := by unfold txE; rw [if_pos hv]
    have v2 : txV L = txL L := by unfold txV; rw [if_pos hv]
    obtain ⟨Y, hY⟩ : ∃ Y, Y = txV L := ⟨_, rfl⟩
    rw [v1, ← hY]
    rw [v2] at hY
    have HY := Lib.hid hY
    have HVl := Lib.hid hv
    have HUF := Lib.hid (uf_of (vu hv).1 (vu hv).2)
    have hP8 := ruled_8 (valid_P hv).1
    have hO8 := ruled_8 (valid_P hv).2
    obtain ⟨m1, m2, m3, m4, m5⟩ := valid_nm hv
    have hIL := loc_size h.1
    have hIN := names_size h.1
    have hE0 : Ext w (w.alloc (.cells L.vals.toArray 30)) := (Ext.refl w).alloc _
    have hB := LcB.new L w 30
    have hV := h.ext hE0
    obtain ⟨g0, g1, g2, g3, g4⟩ := hB.cells h.1
    have hRn := hB.names h.1
    have HV := Lib.hid hV
    have HzB := Lib.hid hB.1
    have HE0 := Lib.hid hE0
    have Hs := Lib.hid hs
    have HVa : Hid (∀ w', Ext w w' → Calls Tryz.prog 9 #[.agg L.vals.toArray] w' fun e w'' => e = .returned (.bool true) ∧ Ext w' w'') := fun w' hE => valid_c L true w' (h.ext hE) hs (hm.ext hE) hNl hv
    have HTb := Lib.hid (fun w' (hE : Ext w w') => ht.ext hE)
    have hR := hB.2
    obtain ⟨-, -, -, l1, l2⟩ := hs
    have HNm := Lib.hid (And.intro m1 (And.intro m2 (And.intro m3 (And.intro m4 m5))))
    clear hNl h hE0 hB hV hm ht hv v1 v2 hY m1 m2 m3 m4 m5
    go_enter Tryz.func7, Tryz.ntmps7
    go_upto_region 1 with fail
    generalize w.alloc (.cells L.vals.toArray 30) = W0 at *
    generalize w.heap.size = B at *
    have hzB := HzB.out
    have hth := fun (wr : World) C => thr_new wr C 26
    have hoc : (sv L.N.all).toArray.all (·.oneCell') = true := all_oneCell_toArray (fun v hv => by
      unfold sv at hv
      obtain ⟨l, -, rfl⟩ := List.mem_map.1 hv
      rfl)
    have hs40 : (sv L.N.all).toArray.size = 40 := by rw [List.size_toArray]; exact sv40 HV.out.1
    have hIN2 : (Tryz.prog.info? 26).map (·.size) = some (sv L.N.all).toArray.size := by rw [List.size_toArray]; exact hIN
    have Hs40 := Lib.hid hs40
    clear hs40
    go_upto_region 5 with (first
      | (refine load_midg (by rfl) 30 _ rfl B 0 rfl L.vals _ hR Tryz.underlying30 rfl hIL ?_)
      | (go_at_call 9; (with_reducible refine (HVa.out _ HE0.out).mono ?_); rintro e w1 ⟨rfl, hE1⟩; have hRn1 := rng_ext1 hRn hzB hE1)
      | (refine load_midg (by rfl) 26 _ rfl B 1 rfl (sv L.N.all) _ hRn1 Tryz.underlying26 rfl hIN ?_)
      | (refine wpList_store_mid rfl 26 _ _ rfl w1.heap.size 0 (sv L.N.all).toArray rfl rfl (hth w1 _ _ (by rw [Hs40.out]; kernel_rfl)) hIN2 hoc ?_))
    have hEs : Ext w1 ((w1.alloc (.cells #[Value.string ⟨#[]⟩, Value.string ⟨#[]⟩, Value.string ⟨#[]⟩, Value.string ⟨#[]⟩, Value.string ⟨#[]⟩, Value.string ⟨#[]⟩, Value.string ⟨#[]⟩, Value.string ⟨#[]⟩, Value.string ⟨#[]⟩, Value.string ⟨#[]⟩, Value.string ⟨#[]⟩, Value.string ⟨#[]⟩, Value.string ⟨#[]⟩, Value.string ⟨#[]⟩, Value.string ⟨#[]⟩, Value.string ⟨#[]⟩, Value.string ⟨#[]⟩, Value.string ⟨#[]⟩, Value.string ⟨#[]⟩, Value.string ⟨#[]⟩, Value.string ⟨#[]⟩, Value.string ⟨#[]⟩, Value.string ⟨#[]⟩, Value.string ⟨#[]⟩, Value.string ⟨#[]⟩, Value.string ⟨#[]⟩, Value.string ⟨#[]⟩, Value.string ⟨#[]⟩, Value.string ⟨#[]⟩, Value.string ⟨#[]⟩, Value.string ⟨#[]⟩, Value.string ⟨#[]⟩, Value.string ⟨#[]⟩, Value.string ⟨#[]⟩, Value.string ⟨#[]⟩, Value.string ⟨#[]⟩, Value.string ⟨#[]⟩, Value.string ⟨#[]⟩, Value.string ⟨#[]⟩, Value.string ⟨#[]⟩] 26)).setCells w1.heap.size 0 (sv L.N.all)) := ext_sets ((Ext.refl w1).alloc _) (Nat.le_refl _) _ _
    have hRs : ((w1.alloc (.cells #[Value.string ⟨#[]⟩, Value.string ⟨#[]⟩, Value.string ⟨#[]⟩, Value.string ⟨#[]⟩, Value.string ⟨#[]⟩, Value.string ⟨#[]⟩, Value.string ⟨#[]⟩, Value.string ⟨#[]⟩, Value.string ⟨#[]⟩, Value.string ⟨#[]⟩, Value.string ⟨#[]⟩, Value.string ⟨#[]⟩, Value.string ⟨#[]⟩, Value.string ⟨#[]⟩, Value.string ⟨#[]⟩, Value.string ⟨#[]⟩, Value.string ⟨#[]⟩, Value.string ⟨#[]⟩, Value.string ⟨#[]⟩, Value.string ⟨#[]⟩, Value.string ⟨#[]⟩, Value.string ⟨#[]⟩, Value.string ⟨#[]⟩, Value.string ⟨#[]⟩, Value.string ⟨#[]⟩, Value.string ⟨#[]⟩, Value.string ⟨#[]⟩, Value.string ⟨#[]⟩, Value.string ⟨#[]⟩, Value.string ⟨#[]⟩, Value.string ⟨#[]⟩, Value.string ⟨#[]⟩, Value.string ⟨#[]⟩, Value.string ⟨#[]⟩, Value.string ⟨#[]⟩, Value.string ⟨#[]⟩, Value.string ⟨#[]⟩, Value.string ⟨#[]⟩, Value.string ⟨#[]⟩, Value.string ⟨#[]⟩] 26)).setCells w1.heap.size 0 (sv L.N.all)).rangeAt w1.heap.size 0 (sv L.N.all) := World.rangeAt_setCells_same _ _ _ _ (thr_new w1 _ 26 _ (by rw [sv40 HV.out.1]; kernel_rfl))
    have hzs : w1.heap.size < ((w1.alloc (.cells #[Value.string ⟨#[]⟩, Value.string ⟨#[]⟩, Value.string ⟨#[]⟩, Value.string ⟨#[]⟩, Value.string ⟨#[]⟩, Value.string ⟨#[]⟩, Value.string ⟨#[]⟩, Value.string ⟨#[]⟩, Value.string ⟨#[]⟩, Value.string ⟨#[]⟩, Value.string ⟨#[]⟩, Value.string ⟨#[]⟩, Value.string ⟨#[]⟩, Value.string ⟨#[]⟩, Value.string ⟨#[]⟩, Value.string ⟨#[]⟩, Value.string ⟨#[]⟩, Value.string ⟨#[]⟩, Value.string ⟨#[]⟩, Value.string ⟨#[]⟩, Value.string ⟨#[]⟩, Value.string ⟨#[]⟩, Value.string ⟨#[]⟩, Value.string ⟨#[]⟩, Value.string ⟨#[]⟩, Value.string ⟨#[]⟩, Value.string ⟨#[]⟩, Value.string ⟨#[]⟩, Value.string ⟨#[]⟩, Value.string ⟨#[]⟩, Value.string ⟨#[]⟩, Value.string ⟨#[]⟩, Value.string ⟨#[]⟩, Value.string ⟨#[]⟩, Value.string ⟨#[]⟩, Value.string ⟨#[]⟩, Value.string ⟨#[]⟩, Value.string ⟨#[]⟩, Value.string ⟨#[]⟩, Value.string ⟨#[]⟩] 26)).setCells w1.heap.size 0 (sv L.N.all)).heap.size := by rw [sets_size]; simp
    generalize ((w1.alloc (.cells #[Value.string ⟨#[]⟩, Value.string ⟨#[]⟩, Value.string ⟨#[]⟩, Value.string ⟨#[]⟩, Value.string ⟨#[]⟩, Value.string ⟨#[]⟩, Value.string ⟨#[]⟩, Value.string ⟨#[]⟩, Value.string ⟨#[]⟩, Value.string ⟨#[]⟩, Value.string ⟨#[]⟩, Value.string ⟨#[]⟩, Value.string ⟨#[]⟩, Value.string ⟨#[]⟩, Value.string ⟨#[]⟩, Value.string ⟨#[]⟩, Value.string ⟨#[]⟩, Value.string ⟨#[]⟩, Value.string ⟨#[]⟩, Value.string ⟨#[]⟩, Value.string ⟨#[]⟩, Value.string ⟨#[]⟩, Value.string ⟨#[]⟩, Value.string ⟨#[]⟩, Value.string ⟨#[]⟩, Value.string ⟨#[]⟩, Value.string ⟨#[]⟩, Value.string ⟨#[]⟩, Value.string ⟨#[]⟩, Value.string ⟨#[]⟩, Value.string ⟨#[]⟩, Value.string ⟨#[]⟩, Value.string ⟨#[]⟩, Value.string ⟨#[]⟩, Value.string ⟨#[]⟩, Value.string ⟨#[]⟩, Value.string ⟨#[]⟩, Value.string ⟨#[]⟩, Value.string ⟨#[]⟩, Value.string ⟨#[]⟩] 26)).setCells w1.heap.size 0 (sv L.N.all)) = V at hEs hRs hzs ⊢
    simp only [Act.put]
    have hRA : RdS L.N.all w1.heap.size 0 V := ⟨hzs, fun i hi => hRs i _ (by unfold sv; simp [hi])⟩
    obtain ⟨n1, n2, n3, n4, n5⟩ := HV.out.1
    have hA1 : RdS L.N.mo w1.heap.size 0 V := rds_part (A := []) hRA
    have hA2 : RdS L.N.sh w1.heap.size 12 V := by have := rds_part (A := L.N.mo) (B := L.N.sh) hRA; rwa [n1] at this
    have hA3 : RdS L.N.da w1.heap.size 24 V := by have := rds_part (A := L.N.mo ++ L.N.sh) (B := L.N.da) (C := L.N.sd ++ L.N.ha) (by rw [List.append_assoc]; exact hRA); rwa [List.length_append, n1, n2] at this
    have hA4 : RdS L.N.sd w1.heap.size 31 V := by have := rds_part (A := L.N.mo ++ L.N.sh ++ L.N.da) (B := L.N.sd) (C := L.N.ha) (by rw [List.append_assoc, List.append_assoc]; exact hRA); rwa [List.length_append, List.length_append, n1, n2, n3] at this
    have hA5 : RdS L.N.ha w1.heap.size 38 V := by have := rds_part (A := L.N.mo ++ L.N.sh ++ L.N.da ++ L.N.sd) (B := L.N.ha) (C := []) (by rw [List.append_assoc, List.append_assoc, List.append_assoc, List.append_nil]; exact hRA); rwa [List.length_append, List.length_append, List.length_append, n1, n2, n3, n4] at this
    obtain ⟨m1, m2, m3, m4, m5⟩ := HNm.out
    obtain ⟨J1, e1⟩ : ∃ J, lnN wMonths L.N.mo = J := ⟨_, rfl⟩
    obtain ⟨J2, e2⟩ : ∃ J, lnN wShort L.N.sh = J := ⟨_, rfl⟩
    obtain ⟨J3, e3⟩ : ∃ J, lnN wDays L.N.da = J := ⟨_, rfl⟩
    obtain ⟨J4, e4⟩ : ∃ J, lnN wShortdays L.N.sd = J := ⟨_, rfl⟩
    obtain ⟨J5, e5⟩ : ∃ J, lnN wHalves L.N.ha = J := ⟨_, rfl⟩
    have s1 : J1.length ≤ 500 := by rw [← e1]; exact lnN_len _ _ m1 (by rw [n1]; decide) (by decide)
    have s2 : J2.length ≤ 500 := by rw [← e2]; exact lnN_len _ _ m2 (by rw [n2]; decide) (by decide)
    have s3 : J3.length ≤ 500 := by rw [← e3]; exact lnN_len _ _ m3 (by rw [n3]; decide) (by decide)
    have s4 : J4.length ≤ 500 := by rw [← e4]; exact lnN_len _ _ m4 (by rw [n4]; decide) (by decide)
    have s5 : J5.length ≤ 500 := by rw [← e5]; exact lnN_len _ _ m5 (by rw [n5]; decide) (by decide)
    have HJ1 := Lib.hid (fun (w' : World) (hE' : Ext V w') => txj_l wMonths L.N.mo w1.heap.size 0 12 J1 w' (hA1.ext hE') n1 (by decide) m1 (by decide) e1)
    have HJ2 := Lib.hid (fun (w' : World) (hE' : Ext V w') => txj_l wShort L.N.sh w1.heap.size 12 12 J2 w' (hA2.ext hE') n2 (by decide) m2 (by decide) e2)
    have HJ3 := Lib.hid (fun (w' : World) (hE' : Ext V w') => txj_l wDays L.N.da w1.heap.size 24 7 J3 w' (hA3.ext hE') n3 (by decide) m3 (by decide) e3)
    have HJ4 := Lib.hid (fun (w' : World) (hE' : Ext V w') => txj_l wShortdays L.N.sd w1.heap.size 31 7 J4 w' (hA4.ext hE') n4 (by decide) m4 (by decide) e4)
    have HJ5 := Lib.hid (fun (w' : World) (hE' : Ext V w') => txj_l wHalves L.N.ha w1.heap.size 38 2 J5 w' (hA5.ext hE') n5 (by decide) m5 (by decide) e5)
    obtain ⟨T1, hT1⟩ : ∃ T, ([108, 111, 99, 97, 108, 101, 32] : List UInt8) ++ L.nm = T := ⟨_, rfl⟩
    have z1 : T1.length = (([108, 111, 99, 97, 108, 101, 32] : List UInt8)).length + (L.nm : List UInt8).length := by rw [← hT1, List.length_append]
    have HT1 := Lib.hid hT1
    obtain ⟨T2, hT2⟩ : ∃ T, T1 ++ [10] = T := ⟨_, rfl⟩
    have z2 : T2.length = (T1).length + ([10] : List UInt8).length := by rw [← hT2, List.length_append]
    have HT2 := Lib.hid hT2
    obtain ⟨T3, hT3⟩ : ∃ T, T2 ++ J1 = T := ⟨_, rfl⟩
    have z3 : T3.length = (T2).length + (J1 : List UInt8).length := by rw [← hT3, List.length_append]
    have HT3 := Lib.hid hT3
    obtain ⟨T4, hT4⟩ : ∃ T, T3 ++ J2 = T := ⟨_, rfl⟩
    have z4 : T4.length = (T3).length + (J2 : List UInt8).length := by rw [← hT4, List.length_append]
    have HT4 := Lib.hid hT4
    obtain ⟨T5, hT5⟩ : ∃ T, T4 ++ J3 = T := ⟨_, rfl⟩
    have z5 : T5.length = (T4).length + (J3 : List UInt8).length := by rw [← hT5, List.length_append]
    have HT5 := Lib.hid hT5
    obtain ⟨T6, hT6⟩ : ∃ T, T5 ++ J4 = T := ⟨_, rfl⟩
    have z6 : T6.length = (T5).length + (J4 : List UInt8).length := by rw [← hT6, List.length_append]
    have HT6 := Lib.hid hT6
    obtain ⟨T7, hT7⟩ : ∃ T, T6 ++ J5 = T := ⟨_, rfl⟩
    have z7 : T7.length = (T6).length + (J5 : List UInt8).length := by rw [← hT7, List.length_append]
    have HT7 := Lib.hid hT7
    simp only [List.length_cons, List.length_nil] at z1 z2
    have y7 : T7.length ≤ 10000 := by omega
    have y6 : T6.length ≤ 10000 ∧ T5.length ≤ 10000 ∧ T4.length ≤ 10000 ∧ T3.length ≤ 10000 ∧ T2.length ≤ 10000 ∧ T1.length ≤ 10000 := by omega
    obtain ⟨y6, y5, y4, y3, y2, y1⟩ := y6
    have HTT : Hid (T7 = wLocale ++ (32 :: (L.nm ++ (10 :: (J1 ++ (J2 ++ (J3 ++ (J4 ++ J5)))))))) := by
      rw [Hid, ← hT7, ← hT6, ← hT5, ← hT4, ← hT3, ← hT2, ← hT1]
      simp [wLocale]
    have HJe := Lib.hid (And.intro e1 (And.intro e2 (And.intro e3 (And.intro e4 e5))))
    have hEV := hE1.trans hEs
    have HEV := Lib.hid (HE0.out.trans hEV)
    have hBV := hEV.lt hzB
    have g0V := (hEV.cells B 0 hzB).trans g0
    have g1V := (hEV.cells B 41 hzB).trans g1
    have g2V := (hEV.cells B 42 hzB).trans g2
    have g3V := (hEV.cells B 43 hzB).trans g3
    have g4V := (hEV.cells B 44 hzB).trans g4
    have HLV := Lib.hid (HV.out.ext hEV)
    generalize w1.heap.size = D at *
    clear hT1 hT2 hT3 hT4 hT5 hT6 hT7 z1 z2 z3 z4 z5 z6 z7 e1 e2 e3 e4 e5 hA1 hA2 hA3 hA4 hA5 hRA hRs hEs hE1 hEV m1 m2 m3 m4 m5 n1 n2 n3 n4 n5 g0 g1 g2 g3 g4 hRn hRn1 hR hth hoc hIN2 Hs40 hIL hIN hzB
    refine wp_region_grow [17, 18, 19, 20, 21, 22, 23, 24, 25, 26, 27, 28, 29, 30, 31, 32, 33, 34, 35, 36, 37, 38, 39, 40, 41, 42, 43, 44, 45, 6] [fun x _ => x = .pointer (some ⟨B, 0, none⟩), fun x _ => x = .string ⟨L.nm.toArray⟩, fun x _ => x = .string ⟨T1.toArray⟩, fun x _ => x = .string ⟨T2.toArray⟩, fun x _ => x = .func (.func 18) #[] #[], fun x _ => x = .pointer (some ⟨D, 0, none⟩), fun x _ => x = .slice (some ⟨D, 0, none⟩) 12 12, fun x _ => x = .string ⟨J1.toArray⟩, fun x _ => x = .string ⟨T3.toArray⟩, fun x _ => x = .func (.func 18) #[] #[], fun x _ => x = .pointer (some ⟨D, 12, none⟩), fun x _ => x = .slice (some ⟨D, 12, none⟩) 12 12, fun x _ => x = .string ⟨J2.toArray⟩, fun x _ => x = .string ⟨T4.toArray⟩, fun x _ => x = .func (.func 18) #[] #[], fun x _ => x = .pointer (some ⟨D, 24, none⟩), fun x _ => x = .slice (some ⟨D, 24, none⟩) 7 7, fun x _ => x = .string ⟨J3.toArray⟩, fun x _ => x = .string ⟨T5.toArray⟩, fun x _ => x = .func (.func 18) #[] #[], fun x _ => x = .pointer (some ⟨D, 31, none⟩), fun x _ => x = .slice (some ⟨D, 31, none⟩) 7 7, fun x _ => x = .string ⟨J4.toArray⟩, fun x _ => x = .string ⟨T6.toArray⟩, fun x _ => x = .func (.func 18) #[] #[], fun x _ => x = .pointer (some ⟨D, 38, none⟩), fun x _ => x = .slice (some ⟨D, 38, none⟩) 2 2, fun x _ => x = .string ⟨J5.toArray⟩, fun x _ => x = .string ⟨T7.toArray⟩, fun x _ => x = .string ⟨T7.toArray⟩] 0 (by kernel_rfl) (by kernel_rfl) (by kernel_rfl) (by kernel_rfl) ?_ ?_ ?_
    · intro Rl hRl
      simp only [List.mem_cons, List.not_mem_nil, or_false] at hRl
      rcases hRl with rfl | rfl | rfl | rfl | rfl | rfl | rfl | rfl | rfl | rfl | rfl | rfl | rfl | rfl | rfl | rfl | rfl | rfl | rfl | rfl | rfl | rfl | rfl | rfl | rfl | rfl | rfl | rfl | rfl | rfl
      all_goals first
        | exact fun _ _ _ h _ => h
    · refine ⟨?_, ?_, ?_, ?_, ?_, ?_, ?_, ?_, ?_, ?_, ?_, ?_, ?_, ?_, ?_, ?_, ?_, ?_, ?_, ?_, ?_, ?_, ?_, ?_, ?_, ?_, ?_, ?_, ?_, ?_, trivial⟩
      all_goals intro a w hE hF hD K hK
      · exact gs_val rfl (yr_field rfl ((hF 1 (fr_of rfl)).trans rfl) (by go_simp)) (hK _ _ rfl (Ext.refl _))
      · have u17 : a.eval (.tmp 17) = .pointer (some ⟨B, 0, none⟩) := hD 0 (by kernel_rfl)
        exact gs_val rfl (yr_load rfl u17 (ld_st _ _ _ ((hE.cells B 0 hBV).trans g0V))) (hK _ _ rfl (Ext.refl _))
      · have u18 : a.eval (.tmp 18) = .string ⟨L.nm.toArray⟩ := hD 1 (by kernel_rfl)
        exact gs_val rfl (yr_addt rfl rfl u18 (by omega) HT1.out) (hK _ _ rfl (Ext.refl _))
      · have u19 : a.eval (.tmp 19) = .string ⟨T1.toArray⟩ := hD 2 (by kernel_rfl)
        exact gs_val rfl (yr_addt rfl u19 rfl (by omega) HT2.out) (hK _ _ rfl (Ext.refl _))
      · exact gs_val rfl (yr_move rfl ((hF 4 (fr_of rfl)).trans rfl)) (hK _ _ rfl (Ext.refl _))
      · exact gs_val rfl (yr_field rfl ((hF 5 (fr_of rfl)).trans rfl) (fa_0 D w)) (hK _ _ rfl (Ext.refl _))
      · have u22 : a.eval (.tmp 22) = .pointer (some ⟨D, 0, none⟩) := hD 5 (by kernel_rfl)
        exact gs_val rfl (yr_sla rfl u22 (sl33 D 0 w)) (hK _ _ rfl (Ext.refl _))
      · have u21 : a.eval (.tmp 21) = .func (.func 18) #[] #[] := hD 4 (by kernel_rfl)
        have u23 : a.eval (.tmp 23) = .slice (some ⟨D, 0, none⟩) 12 12 := hD 6 (by kernel_rfl)
        have q1 : a.eval (.tmp 23) = .slice (some ⟨D, 0, none⟩) 12 12 := u23
        exact gs_call rfl (yr_callv rfl u21 (show (#[Operand.const (.string ⟨[109, 111, 110, 116, 104, 115].toArray⟩), Operand.tmp 23] : Array Operand).map a.eval = #[.string ⟨[109, 111, 110, 116, 104, 115].toArray⟩, .slice (some ⟨D, 0, none⟩) 12 12] by simp only [List.map_toArray, List.map_cons, List.map_nil, q1] <;> rfl) (by kernel_rfl)) ((HJ1.out w hE).mono fun e w' ⟨h1, h2⟩ => ⟨_, h1, rfl, h2⟩) hK
      · have u20 : a.eval (.tmp 20) = .string ⟨T2.toArray⟩ := hD 3 (by kernel_rfl)
        have u24 : a.eval (.tmp 24) = .string ⟨J1.toArray⟩ := hD 7 (by kernel_rfl)
        exact gs_val rfl (yr_addt rfl u20 u24 (by omega) HT3.out) (hK _ _ rfl (Ext.refl _))
      · exact gs_val rfl (yr_move rfl ((hF 4 (fr_of rfl)).trans rfl)) (hK _ _ rfl (Ext.refl _))
      · exact gs_val rfl (yr_field rfl ((hF 5 (fr_of rfl)).trans rfl) (fa_1 D w)) (hK _ _ rfl (Ext.refl _))
      · have u27 : a.eval (.tmp 27) = .pointer (some ⟨D, 12, none⟩) := hD 10 (by kernel_rfl)
        exact gs_val rfl (yr_sla rfl u27 (sl33 D 12 w)) (hK _ _ rfl (Ext.refl _))
      · have u26 : a.eval (.tmp 26) = .func (.func 18) #[] #[] := hD 9 (by kernel_rfl)
        have u28 : a.eval (.tmp 28) = .slice (some ⟨D, 12, none⟩) 12 12 := hD 11 (by kernel_rfl)
        have q1 : a.eval (.tmp 28) = .slice (some ⟨D, 12, none⟩) 12 12 := u28
        exact gs_call rfl (yr_callv rfl u26 (show (#[Operand.const (.string ⟨[115, 104, 111, 114, 116].toArray⟩), Operand.tmp 28] : Array Operand).map a.eval = #[.string ⟨[115, 104, 111, 114, 116].toArray⟩, .slice (some ⟨D, 12, none⟩) 12 12] by simp only [List.map_toArray, List.map_cons, List.map_nil, q1] <;> rfl) (by kernel_rfl)) ((HJ2.out w hE).mono fun e w' ⟨h1, h2⟩ => ⟨_, h1, rfl, h2⟩) hK
      · have u25 : a.eval (.tmp 25) = .string ⟨T3.toArray⟩ := hD 8 (by kernel_rfl)
        have u29 : a.eval (.tmp 29) = .string ⟨J2.toArray⟩ := hD 12 (by kernel_rfl)
        exact gs_val rfl (yr_addt rfl u25 u29 (by omega) HT4.out) (hK _ _ rfl (Ext.refl _))
      · exact gs_val rfl (yr_move rfl ((hF 4 (fr_of rfl)).trans rfl)) (hK _ _ rfl (Ext.refl _))
      · exact gs_val rfl (yr_field rfl ((hF 5 (fr_of rfl)).trans rfl) (fa_2 D w)) (hK _ _ rfl (Ext.refl _))
      · have u32 : a.eval (.tmp 32) = .pointer (some ⟨D, 24, none⟩) := hD 15 (by kernel_rfl)
        exact gs_val rfl (yr_sla rfl u32 (sl34 D 24 w)) (hK _ _ rfl (Ext.refl _))
      · have u31 : a.eval (.tmp 31) = .func (.func 18) #[] #[] := hD 14 (by kernel_rfl)
        have u33 : a.eval (.tmp 33) = .slice (some ⟨D, 24, none⟩) 7 7 := hD 16 (by kernel_rfl)
        have q1 : a.eval (.tmp 33) = .slice (some ⟨D, 24, none⟩) 7 7 := u33
        exact gs_call rfl (yr_callv rfl u31 (show (#[Operand.const (.string ⟨[100, 97, 121, 115].toArray⟩), Operand.tmp 33] : Array Operand).map a.eval = #[.string ⟨[100, 97, 121, 115].toArray⟩, .slice (some ⟨D, 24, none⟩) 7 7] by simp only [List.map_toArray, List.map_cons, List.map_nil, q1] <;> rfl) (by kernel_rfl)) ((HJ3.out w hE).mono fun e w' ⟨h1, h2⟩ => ⟨_, h1, rfl, h2⟩) hK
      · have u30 : a.eval (.tmp 30) = .string ⟨T4.toArray⟩ := hD 13 (by kernel_rfl)
        have u34 : a.eval (.tmp 34) = .string ⟨J3.toArray⟩ := hD 17 (by kernel_rfl)
        exact gs_val rfl (yr_addt rfl u30 u34 (by omega) HT5.out) (hK _ _ rfl (Ext.refl _))
      · exact gs_val rfl (yr_move rfl ((hF 4 (fr_of rfl)).trans rfl)) (hK _ _ rfl (Ext.refl _))
      · exact gs_val rfl (yr_field rfl ((hF 5 (fr_of rfl)).trans rfl) (fa_3 D w)) (hK _ _ rfl (Ext.refl _))
      · have u37 : a.eval (.tmp 37) = .pointer (some ⟨D, 31, none⟩) := hD 20 (by kernel_rfl)
        exact gs_val rfl (yr_sla rfl u37 (sl34 D 31 w)) (hK _ _ rfl (Ext.refl _))
      · have u36 : a.eval (.tmp 36) = .func (.func 18) #[] #[] := hD 19 (by kernel_rfl)
        have u38 : a.eval (.tmp 38) = .slice (some ⟨D, 31, none⟩) 7 7 := hD 21 (by kernel_rfl)
        have q1 : a.eval (.tmp 38) = .slice (some ⟨D, 31, none⟩) 7 7 := u38
        exact gs_call rfl (yr_callv rfl u36 (show (#[Operand.const (.string ⟨[115, 104, 111, 114, 116, 100, 97, 121, 115].toArray⟩), Operand.tmp 38] : Array Operand).map a.eval = #[.string ⟨[115, 104, 111, 114, 116, 100, 97, 121, 115].toArray⟩, .slice (some ⟨D, 31, none⟩) 7 7] by simp only [List.map_toArray, List.map_cons, List.map_nil, q1] <;> rfl) (by kernel_rfl)) ((HJ4.out w hE).mono fun e w' ⟨h1, h2⟩ => ⟨_, h1, rfl, h2⟩) hK
      · have u35 : a.eval (.tmp 35) = .string ⟨T5.toArray⟩ := hD 18 (by kernel_rfl)
        have u39 : a.eval (.tmp 39) = .string ⟨J4.toArray⟩ := hD 22 (by kernel_rfl)
        exact gs_val rfl (yr_addt rfl u35 u39 (by omega) HT6.out) (hK _ _ rfl (Ext.refl _))
      · exact gs_val rfl (yr_move rfl ((hF 4 (fr_of rfl)).trans rfl)) (hK _ _ rfl (Ext.refl _))
      · exact gs_val rfl (yr_field rfl ((hF 5 (fr_of rfl)).trans rfl) (fa_4 D w)) (hK _ _ rfl (Ext.refl _))
      · have u42 : a.eval (.tmp 42) = .pointer (some ⟨D, 38, none⟩) := hD 25 (by kernel_rfl)
        exact gs_val rfl (yr_sla rfl u42 (sl35 D 38 w)) (hK _ _ rfl (Ext.refl _))
      · have u41 : a.eval (.tmp 41) = .func (.func 18) #[] #[] := hD 24 (by kernel_rfl)
        have u43 : a.eval (.tmp 43) = .slice (some ⟨D, 38, none⟩) 2 2 := hD 26 (by kernel_rfl)
        have q1 : a.eval (.tmp 43) = .slice (some ⟨D, 38, none⟩) 2 2 := u43
        exact gs_call rfl (yr_callv rfl u41 (show (#[Operand.const (.string ⟨[104, 97, 108, 118, 101, 115].toArray⟩), Operand.tmp 43] : Array Operand).map a.eval = #[.string ⟨[104, 97, 108, 118, 101, 115].toArray⟩, .slice (some ⟨D, 38, none⟩) 2 2] by simp only [List.map_toArray, List.map_cons, List.map_nil, q1] <;> rfl) (by kernel_rfl)) ((HJ5.out w hE).mono fun e w' ⟨h1, h2⟩ => ⟨_, h1, rfl, h2⟩) hK
      · have u40 : a.eval (.tmp 40) = .string ⟨T6.toArray⟩ := hD 23 (by kernel_rfl)
        have u44 : a.eval (.tmp 44) = .string ⟨J5.toArray⟩ := hD 27 (by kernel_rfl)
        exact gs_val rfl (yr_addt rfl u40 u44 (by omega) HT7.out) (hK _ _ rfl (Ext.refl _))
      · have u45 : a.eval (.tmp 45) = .string ⟨T7.toArray⟩ := hD 28 (by kernel_rfl)
        exact gs_val rfl (yr_assign rfl u45) (hK _ _ rfl (Ext.refl _))
    intro vals wz hEz hRz
    obtain ⟨-, -, -, -, -, -, -, -, -, -, -, -, -, -, -, -, -, -, -, -, -, -, -, -, -, -, -, -, -, h29, -⟩ := hRz
    have e6 : vals 29 = .string ⟨T7.toArray⟩ := h29
    refine wpAny_done (by kernel_rfl) ?_ _
    simp only [putF, Act.put, List.length_cons, List.length_nil, List.getD_cons_zero, List.getD_cons_succ, List.setIfInBounds_toArray, List.set_cons_zero, List.set_cons_succ, Nat.reduceAdd, e6]
    clear e6
    have g1z := (hEz.cells B 41 hBV).trans g1V
    have g2z := (hEz.cells B 42 hBV).trans g2V
    have g3z := (hEz.cells B 43 hBV).trans g3V
    have g4z := (hEz.cells B 44 hBV).trans g4V
    have hBz := hEz.lt hBV
    have HEz := Lib.hid (HEV.out.trans hEz)
    have HLz := Lib.hid (HLV.out.ext hEz)
    clear hEz g0V g1V g2V g3V g4V hBV hzs
    obtain ⟨C1, hC1⟩ : ∃ C, lnsC wPlural L.P = C := ⟨_, rfl⟩
    obtain ⟨C2, hC2⟩ : ∃ C, lnsC wOrdinal L.O = C := ⟨_, rfl⟩
    have c1l : C1.length ≤ 170000 := by
      have := lnsC_len wPlural L.P Hs.out.1 L.P.length (Nat.le_refl _)
      rw [List.take_of_length_le (Nat.le_refl _), hC1] at this
      exact Nat.le_trans this (Nat.le_trans (Nat.mul_le_mul_right _ hP8) (by decide))
    have c2l : C2.length ≤ 170000 := by
      have := lnsC_len wOrdinal L.O Hs.out.2.1 L.O.length (Nat.le_refl _)
      rw [List.take_of_length_le (Nat.le_refl _), hC2] at this
      exact Nat.le_trans this (Nat.le_trans (Nat.mul_le_mul_right _ hO8) (by decide))
    obtain ⟨C3, hC3⟩ : ∃ C, C1 ++ C2 = C := ⟨_, rfl⟩
    obtain ⟨T8, hT8⟩ : ∃ T, T7 ++ C3 = T := ⟨_, rfl⟩
    have z3 : C3.length = C1.length + C2.length := by rw [← hC3, List.length_append]
    have z8 : T8.length = T7.length + C3.length := by rw [← hT8, List.length_append]
    have c3l : C3.length ≤ 340000 := by omega
    have t8l : T8.length ≤ 350000 := by omega
    have HC1 := Lib.hid (fun (w' : World) (hE' : Ext wz w') => cats_c L.P L.pa L.pc wPlural C1 w' (HLz.out.2.1.ext hE') Hs.out.1 (by omega) (by decide) hC1)
    have HC2 := Lib.hid (fun (w' : World) (hE' : Ext wz w') => cats_c L.O L.oa L.oc wOrdinal C2 w' (HLz.out.2.2.1.ext hE') Hs.out.2.1 (by omega) (by decide) hC2)
    have HC3 := Lib.hid hC3
    have HT8 := Lib.hid hT8
    have HT8e : Hid (T8 = T7 ++ (lnsC wPlural L.P ++ lnsC wOrdinal L.O)) := by rw [Hid, ← hT8, ← hC3, ← hC1, ← hC2]
    have g1V := g1z
    have g2V := g2z
    have hBV := hBz
    have hPU : L.P.length ≤ 8 := hP8
    clear hC1 hC2 hC3 hT8 z3 z8 hO8 g1z g2z
    go_upto_region 6 with fail
    refine wp_region_grow [46, 47, 48, 49, 50, 51, 52, 53, 54] [fun x _ => x = .string ⟨T7.toArray⟩, fun x _ => x = .pointer (some ⟨B, 41, none⟩), fun x _ => x = .slice L.pa L.P.length L.pc, fun x _ => x = .string ⟨C1.toArray⟩, fun x _ => x = .pointer (some ⟨B, 42, none⟩), fun x _ => x = .slice L.oa L.O.length L.oc, fun x _ => x = .string ⟨C2.toArray⟩, fun x _ => x = .string ⟨C3.toArray⟩, fun x _ => x = .string ⟨T8.toArray⟩] 1 (by kernel_rfl) (by kernel_rfl) (by kernel_rfl) (by kernel_rfl) ?_ ?_ ?_
    · intro Rl hRl
      simp only [List.mem_cons, List.not_mem_nil, or_false] at hRl
      rcases hRl with rfl | rfl | rfl | rfl | rfl | rfl | rfl | rfl | rfl
      all_goals first
        | exact fun _ _ _ h _ => h
    · refine ⟨?_, ?_, ?_, ?_, ?_, ?_, ?_, ?_, ?_, trivial⟩
      all_goals intro a w hE hF hD K hK
      · exact gs_val rfl (yr_move rfl ((hF 6 (fr_of rfl)).trans rfl)) (hK _ _ rfl (Ext.refl _))
      · exact gs_val rfl (yr_field rfl ((hF 1 (fr_of rfl)).trans rfl) (by go_simp)) (hK _ _ rfl (Ext.refl _))
      · have u47 : a.eval (.tmp 47) = .pointer (some ⟨B, 41, none⟩) := hD 1 (by kernel_rfl)
        exact gs_val rfl (yr_load rfl u47 (ld_plu _ _ _ ((hE.cells B 41 hBV).trans g1V))) (hK _ _ rfl (Ext.refl _))
      · have u48 : a.eval (.tmp 48) = .slice L.pa L.P.length L.pc := hD 2 (by kernel_rfl)
        have q1 : a.eval (.tmp 48) = .slice L.pa L.P.length L.pc := u48
        exact gs_call rfl (yr_call rfl rfl (show (#[Operand.const (.string ⟨[112, 108, 117, 114, 97, 108].toArray⟩), Operand.tmp 48] : Array Operand).map a.eval = #[.string ⟨[112, 108, 117, 114, 97, 108].toArray⟩, .slice L.pa L.P.length L.pc] by simp only [List.map_toArray, List.map_cons, List.map_nil, q1] <;> rfl) (by kernel_rfl)) ((HC1.out w hE).mono fun e w' ⟨h1, h2⟩ => ⟨_, h1, rfl, h2⟩) hK
      · exact gs_val rfl (yr_field rfl ((hF 1 (fr_of rfl)).trans rfl) (by go_simp)) (hK _ _ rfl (Ext.refl _))
      · have u50 : a.eval (.tmp 50) = .pointer (some ⟨B, 42, none⟩) := hD 4 (by kernel_rfl)
        exact gs_val rfl (yr_load rfl u50 (ld_plu _ _ _ ((hE.cells B 42 hBV).trans g2V))) (hK _ _ rfl (Ext.refl _))
      · have u51 : a.eval (.tmp 51) = .slice L.oa L.O.length L.oc := hD 5 (by kernel_rfl)
        have q1 : a.eval (.tmp 51) = .slice L.oa L.O.length L.oc := u51
        exact gs_call rfl (yr_call rfl rfl (show (#[Operand.const (.string ⟨[111, 114, 100, 105, 110, 97, 108].toArray⟩), Operand.tmp 51] : Array Operand).map a.eval = #[.string ⟨[111, 114, 100, 105, 110, 97, 108].toArray⟩, .slice L.oa L.O.length L.oc] by simp only [List.map_toArray, List.map_cons, List.map_nil, q1] <;> rfl) (by kernel_rfl)) ((HC2.out w hE).mono fun e w' ⟨h1, h2⟩ => ⟨_, h1, rfl, h2⟩) hK
      · have u49 : a.eval (.tmp 49) = .string ⟨C1.toArray⟩ := hD 3 (by kernel_rfl)
        have u52 : a.eval (.tmp 52) = .string ⟨C2.toArray⟩ := hD 6 (by kernel_rfl)
        exact gs_val rfl (yr_addt rfl u49 u52 (by omega) HC3.out) (hK _ _ rfl (Ext.refl _))
      · have u46 : a.eval (.tmp 46) = .string ⟨T7.toArray⟩ := hD 0 (by kernel_rfl)
        have u53 : a.eval (.tmp 53) = .string ⟨C3.toArray⟩ := hD 7 (by kernel_rfl)
        exact gs_val rfl (yr_addt rfl u46 u53 (by omega) HT8.out) (hK _ _ rfl (Ext.refl _))
    intro vals wz hEz hRz
    obtain ⟨-, -, -, -, -, -, -, -, h8, -⟩ := hRz
    have e54 : vals 8 = .string ⟨T8.toArray⟩ := h8
    simp only [putF, Act.put, List.length_cons, List.length_nil, List.getD_cons_zero, List.getD_cons_succ, List.setIfInBounds_toArray, List.set_cons_zero, List.set_cons_succ, Nat.reduceAdd, e54]
    clear e54
    refine wpAny_one (i := 9) (by kernel_rfl) rfl (by rfl) (by exact yr_assign rfl rfl) ?_
    refine wpAny_done (by kernel_rfl) ?_ _
    simp only [Act.put, List.setIfInBounds_toArray, List.set_cons_zero, List.set_cons_succ]
    have g3y := (hEz.cells B 43 hBz).trans g3z
    have g4y := (hEz.cells B 44 hBz).trans g4z
    have hBy := hEz.lt hBz
    have HEy := Lib.hid (HEz.out.trans hEz)
    have HLy := Lib.hid (HLz.out.ext hEz)
    clear hEz g1V g2V hBV g3z g4z hBz HC1 HC2 HC3 HT8 c1l c2l c3l
    go_wp2_with fail
    obtain ⟨i0, hi, hz0, hz1, hz2⟩ := info_parts infoS
    have Hi := Lib.hid hi
    have Hz0 := Lib.hid hz0
    have Hz1 := Lib.hid hz1
    have Hz2 := Lib.hid hz2
    clear hi hz0 hz1 hz2
    obtain ⟨R, off, hua, hzR, hcu⟩ := HLy.out.2.2.2.2.2.1 (by have := HUF.out.one; intro e; rw [e] at this; simp at this)
    have hul := HLy.out.2.2.2.1
    have hul2 := HLy.out.2.2.2.2.1
    unfold maxLen at hul2
    have HCu := Lib.hid hcu
    have HUy := Lib.hid HLy.out.2.2.2.2.2.2
    have hten := HUF.out.ten
    rw [hua]
    clear hcu hua
    go_loopw [6, 58] (fun s i wr => ∃ j : Nat, j ≤ L.U.length ∧ i = .int .i64 (j : Int) ∧ s = .string ⟨(T8 ++ lnsU (L.U.take j)).toArray⟩ ∧ Ext wz wr) (fun _ i _ => L.U.length - (intOf i).toNat)
    case atStart => exact ⟨0, Nat.zero_le _, rfl, by simp [lnsU], Ext.refl _⟩
    case round =>
      obtain ⟨j, hj, rfl, rfl, hE⟩ := hrel
      by_cases hlt : j < L.U.length
      · obtain ⟨c0, c1⟩ := HCu.out j hlt
        replace c0 := (hE.cells R _ hzR).trans c0
        replace c1 := (hE.cells R _ hzR).trans c1
        have hRr := hE.lt hzR
        have HFv := Lib.hid ((HUy.out L.U[j] (List.getElem_mem _)).ext hE)
        obtain ⟨s1, s2, s3, s4⟩ := HUF.out.at_ j hlt
        have HS0 := lnsU_succ L.U j hlt
        have hAl := lnsU_len HUF.out hPU j hj
        have hZl := lnU_len HUF.out hPU j hlt
        obtain ⟨A, hA⟩ : ∃ A, A = T8 ++ lnsU (L.U.take j) := ⟨_, rfl⟩
        have hAl2 : A.length ≤ 400000 := by rw [hA, List.length_append]; omega
        have HS : Hid (T8 ++ lnsU (L.U.take (j + 1)) = A ++ lnU L.U[j]) := by rw [Hid, HS0, ← List.append_assoc, ← hA]
        rw [← hA]
        have HXr := Lib.hid (HEy.out.trans hE)
        obtain ⟨u, hu⟩ : ∃ u, u = L.U[j] := ⟨_, rfl⟩
        rw [← hu] at c0 c1 HFv s1 s2 s3 s4 HS hZl
        clear hu hA HS0 hAl
        obtain ⟨us, uao, ucap, uf⟩ := u
        simp only at c0 c1 HFv s1 s2 s3 s4
        obtain ⟨k, rfl⟩ := Int.eq_ofNat_of_zero_le (show 0 ≤ us by omega)
        obtain ⟨X, hX⟩ : ∃ X, itx k 1 = X := ⟨_, rfl⟩
        have hXl := (nDig20 k (by omega)).1
        rw [hX] at hXl
        obtain ⟨WD, hWD⟩ : ∃ W, W = wUnit ++ (32 :: X) := ⟨_, rfl⟩
        have hWl : WD.length ≤ 1000 := by rw [hWD]; simp [wUnit]; omega
        obtain ⟨Z, hZ⟩ : ∃ Z, lnU ⟨(k : Int), uao, ucap, uf⟩ = Z := ⟨_, rfl⟩
        have hZe : lnN WD (uf.map (·.r)) = Z := by rw [hWD, ← hZ]; exact lnU_eq ⟨(k : Int), uao, ucap, uf⟩ X hX
        rw [hZ] at HS hZl
        have hcc : (⟨#[117, 110, 105, 116, 32]⟩ : ByteArray) ++ ⟨X.toArray⟩ = ⟨WD.toArray⟩ := by rw [hWD]; apply ByteArray.ext; simp [wUnit]
        have Hcc := Lib.hid hcc
        have HIt : Hid (∀ w', Ext w w' → Calls Tryz.prog 20 #[.int .i64 (k : Int)] w' fun e w'' => e = .returned (.string ⟨X.toArray⟩) ∧ Ext w' w'') := fun w' hE' => itoa_c k X w' (by omega) (HTb.out w' hE') hX
        have HZe := Lib.hid hZe
        have H30 : Hid (∀ a ∈ uf.map (·.r), a.length ≤ 1000) := fun a ha => by
          obtain ⟨p, hp, rfl⟩ := List.mem_map.1 ha
          obtain ⟨i, hi, rfl⟩ := List.mem_iff_getElem.1 hp
          have := form_len (s4 i hi)
          omega
        have HRl : Hid (∀ i (hi : i < uf.length), (uf[i]).r.length ≤ 30) := fun i hi => form_len (s4 i hi)
        have hufl : uf.length ≤ 8 := by omega
        have huf1 : uf.length = L.P.length := s3
        have Huf1 := Lib.hid huf1
        have HP1 : Hid (1 ≤ L.P.length) := (ruled_ok (valid_P (show validLB L = true from HVl.out)).1).1
        clear hX hWD hZ hZe hcc s3 s4 huf1
        go_upto_region 10 with fail
        have hEp : Ext wr (wr.alloc (.cells #[.int .i64 (k : Int), .slice uao uf.length ucap] 53)) := (Ext.refl wr).alloc _
        have y0 : (wr.alloc (.cells #[.int .i64 (k : Int), .slice uao uf.length ucap] 53)).cell? ⟨wr.heap.size, 0, none⟩ = some (.int .i64 (k : Int)) := by rw [World.cell?_alloc_new]; rfl
        have y1 : (wr.alloc (.cells #[.int .i64 (k : Int), .slice uao uf.length ucap] 53)).cell? ⟨wr.heap.size, 1, none⟩ = some (.slice uao uf.length ucap) := by rw [World.cell?_alloc_new]; rfl
        have yz : wr.heap.size < (wr.alloc (.cells #[.int .i64 (k : Int), .slice uao uf.length ucap] 53)).heap.size := by simp
        generalize wr.alloc (.cells #[.int .i64 (k : Int), .slice uao uf.length ucap] 53) = V at hEp y0 y1 yz ⊢
        generalize wr.heap.size = D2 at y0 y1 yz ⊢
        have HFV := Lib.hid (HFv.out.ext hEp)
        have HEV2 := Lib.hid (hE.trans hEp)
        have HXV := Lib.hid (HXr.out.trans hEp)
        have hfc := HFV.out.2.1
        unfold maxLen at hfc
        have hfl2 := HFV.out.1
        clear HFv hE hEp c0 c1 hRr
        go_wp2_with fail
        go_loopw [9, 65] (fun p i wt => ∃ (q : Nat) (ao : Option Addr) (cv : Nat), q ≤ uf.length ∧ p = .slice ao q cv ∧ i = .int .i64 (q : Int) ∧ wt.ownsRow V.heap.size 9 1 p q (sv ((uf.take q).map (·.r))) ∧ Ext V wt) (fun _ i _ => uf.length - (intOf i).toNat)
        case atStart => exact ⟨0, none, 0, Nat.zero_le _, rfl, rfl, World.ownsRow_nil _ _ _ _, Ext.refl _⟩
        case round =>
          obtain ⟨q, ao, cv, hq, rfl, rfl, hown, hEt⟩ := hrel
          by_cases hql : q < uf.length
          · obtain ⟨R2, of2, rfl, hR2, hc2⟩ := HFV.out.2.2 (by intro e; rw [e] at hql; simp at hql)
            obtain ⟨x0, x1⟩ := hc2 q hql
            replace x0 := (hEt.cells R2 _ hR2).trans x0
            replace x1 := (hEt.cells R2 _ hR2).trans x1
            have hR2t := hEt.lt hR2
            have hrl := HRl.out q hql
            have HSq : Hid (sv ((uf.take (q + 1)).map (·.r)) = sv ((uf.take q).map (·.r)) ++ [.string ⟨(uf[q]).r.toArray⟩]) := by rw [Hid, List.take_succ_eq_append_getElem hql, List.map_append]; simp [sv]
            obtain ⟨p, hp⟩ : ∃ p, p = uf[q] := ⟨_, rfl⟩
            rw [← hp] at x0 x1 hrl HSq
            clear hp hc2
            obtain ⟨pc, pr⟩ := p
            simp only at x0 x1 hrl HSq
            go_upto_region 14 with fail
            have hEq : Ext wr (wr.alloc (.cells #[.string ⟨pc.toArray⟩, .string ⟨pr.toArray⟩] 50)) := (Ext.refl wr).alloc _
            have v1 : (wr.alloc (.cells #[.string ⟨pc.toArray⟩, .string ⟨pr.toArray⟩] 50)).cell? ⟨wr.heap.size, 1, none⟩ = some (.string ⟨pr.toArray⟩) := by rw [World.cell?_alloc_new]; rfl
            have vz : wr.heap.size < (wr.alloc (.cells #[.string ⟨pc.toArray⟩, .string ⟨pr.toArray⟩] 50)).heap.size := by simp
            have hown2 := own_ext hown hEq
            generalize wr.alloc (.cells #[.string ⟨pc.toArray⟩, .string ⟨pr.toArray⟩] 50) = V2 at hEq v1 vz hown2 ⊢
            generalize wr.heap.size = D3 at v1 vz ⊢
            have HEq := Lib.hid (hEt.trans hEq)
            have hsz2 := HEq.out.size
            clear hown hEq hEt x0 x1 hR2t
            go_wp2_with (first
              | (at_builtin; refine wpList_append_own _ rfl _ _ 54 rfl V.heap.size 9 i0 (.string ByteArray.empty) 1 16 Tryz.underlying54 Hi.out Hz0.out Hz1.out Hz2.out rfl (by decide) _ _ _ rfl (hown2.alloc _) ⟨V2.heap.size, 0, none⟩ 1 1 [.string ⟨pr.toArray⟩] rfl rfl (cell_one_new _ _ _) (fun x hx => by simp at hx; subst hx; rfl) (by unfold maxLen; omega) (by omega) (by simp; omega) ?_; intro v' w3 hown' hgrow3 hnil3))
            have HExt := Lib.hid (ext_grown (v := .slice ao q cv) (HEq.out.alloc _) (hown2.alloc _) hgrow3)
            obtain ⟨ao2, cv2, rfl⟩ := own_slice hown'
            clear hgrow3 hnil3 hown2 v1 vz
            go_roundw
            case rel => exact ⟨q + 1, ao2, cv2, by omega, rfl, by go_num, by rw [HSq.out]; exact hown', HExt.out⟩
            case measure => simp [intOf]; omega
          · obtain rfl : q = uf.length := by omega
            rw [List.take_of_length_le (Nat.le_refl _)] at hown
            have hne : uf.map (·.r) ≠ [] := by
              intro e
              have h1 := congrArg List.length e
              rw [List.length_map, Huf1.out, List.length_nil] at h1
              have h2 := HP1.out
              omega
            obtain ⟨R5, c5, e5, b1, b2, b3, b4⟩ := RdS.of_own hown (List.length_map ..).symm hne
            rw [List.length_map] at e5 b1
            injection e5 with ea eb ec
            subst ea
            subst ec
            have y0t := (hEt.cells D2 0 yz).trans y0
            have hyt := hEt.lt yz
            have HTx : Hid (∀ w', Ext wr w' → Calls Tryz.prog 18 #[.string ⟨WD.toArray⟩, .slice (some ⟨R5, 0, none⟩) uf.length cv] w' fun e w'' => e = .returned (.string ⟨Z.toArray⟩) ∧ Ext w' w'') := fun w' hE' => by
              have := txj_c WD (uf.map (·.r)) R5 0 cv Z w' (b3.ext hE') (by rw [List.length_map]; exact b1) (by rw [List.length_map]; omega) H30.out hWl HZe.out
              rwa [List.length_map] at this
            have HXt := Lib.hid (HXV.out.trans hEt)
            have HEt := Lib.hid (HEV2.out.trans hEt)
            have hcc := Hcc.out
            clear b3 hown hne y0 y1 yz hEt
            go_wp2_with (first
              | (go_at_call 20; (with_reducible refine (HIt.out _ HXt.out).mono ?_); rintro e w4 ⟨rfl, hE4⟩)
              | (go_at_call 18; (with_reducible refine (HTx.out _ hE4).mono ?_); rintro e w5 ⟨rfl, hE5⟩))
            go_roundw
            case rel => exact ⟨j + 1, by omega, by go_num, by rw [HS.out, ← app2_str], HEt.out.trans (hE4.trans hE5)⟩
            case measure => simp [intOf]; omega
      · obtain rfl : j = L.U.length := by omega
        rw [List.take_of_length_le (Nat.le_refl _)]
        have g4r := (hE.cells B 44 hBy).trans g4y
        have hBr := hE.lt hBy
        have hAl := lnsU_len HUF.out hPU L.U.length (Nat.le_refl _)
        rw [List.take_of_length_le (Nat.le_refl _)] at hAl
        obtain ⟨S, hS⟩ : ∃ S, lnsU L.U = S := ⟨_, rfl⟩
        rw [hS] at hAl
        have hAl3 : (T8 ++ S).length ≤ 400000 := by rw [List.length_append]; omega
        obtain ⟨A, hA⟩ : ∃ A, T8 ++ S = A := ⟨_, rfl⟩
        rw [hA] at hAl3
        have HYe : Hid (Y = A ++ (wPattern ++ (32 :: (L.pt ++ [10])))) := by
          obtain ⟨e1, e2, e3, e4, e5⟩ := HJe.out
          rw [Hid, HY.out, ← hA, ← hS, HT8e.out, HTT.out, ← e1, ← e2, ← e3, ← e4, ← e5]
          unfold txL
          simp
        rw [hS, hA]
        clear hA hS
        go_wp2_with fail
        go_ret2
        have hfin : (⟨Y.toArray⟩ : ByteArray) = ⟨A.toArray⟩ ++ ⟨#[112, 97, 116, 116, 101, 114, 110, 32]⟩ ++ ⟨L.pt.toArray⟩ ++ ⟨#[10]⟩ := by rw [HYe.out]; apply ByteArray.ext; simp [wPattern]
        exact ⟨by rw [hfin]; rfl, HEy.out.trans hE⟩
  · have HE : Hid (txE L = 1) := by rw [Hid]; unfold txE; rw [if_neg (by rw [hv]; simp)]
    have HP : Hid (txV L = []) := by rw [Hid]; unfold txV; rw [if_neg (by rw [hv]; simp)]
    have HVl := Lib.hid hv
    have hIL := loc_size h.1
    have hE0 : Ext w (w.alloc (.cells L.vals.toArray 30)) := (Ext.refl w).alloc _
    have hB := LcB.new L w 30
    have HV := Lib.hid (h.ext hE0)
    have HE0 := Lib.hid hE0
    have HNl := Lib.hid hNl
    have Hs := Lib.hid hs
    have hR := hB.2
    clear hs hNl h hE0 hB
    have Hm := Lib.hid (hm.ext HE0.out)
    clear hv hm ht
    go_enter Tryz.func7, Tryz.ntmps7
    go_upto_region 1 with fail
    generalize w.alloc (.cells L.vals.toArray 30) = W0 at *
    generalize w.heap.size = B at *
    go_wp2_with (first
      | (refine load_midg (by rfl) 30 _ rfl B 0 rfl L.vals _ hR Tryz.underlying30 rfl hIL ?_)
      | (go_at_call 9; (with_reducible refine (valid_c L false _ HV.out Hs.out Hm.out HNl.out HVl.out).mono ?_); rintro e w1 ⟨rfl, hE1⟩))
    go_ret2
    exact ⟨by rw [HP.out, HE.out]; rfl, HE0.out.trans hE1⟩
end Go.Proofs.YtnhdmnhfllecgaaGreatDoor
