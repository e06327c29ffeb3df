/- Locales: the walk of the law's few. -/
import Derived.Test.YtnhdmnhfllecgaaGreatDoorQ32
import Derived.Test.YtnhdmnhfllecgaaGreatDoorQ25
import Derived.Test.YtnhdmnhfllecgaaGreatDoorQ18
import Derived.Test.YtnhdmnhfllecgaaGreatDoorQ29
import Derived.Deep.Cut
import Derived.Laws.Tables
namespace Go.Proofs.YtnhdmnhfllecgaaGreatDoor
set_option linter.unusedVariables false
set_option linter.unusedSimpArgs false
open Go.RowKit

def bgL (L : Loc) : Prop := bgP L.P ∧ bgP L.O ∧ (∀ u ∈ L.U, bgP u.f) ∧ L.nm.length ≤ 9223372036854775807 ∧ L.pt.length ≤ 9223372036854775807
theorem thr_new (w : World) (C : Array Value) (t : TypeId) (n : Nat) (hn : n = C.size) : (w.alloc (.cells C t)).there w.heap.size 0 n := by
  subst hn
  intro j hj
  constructor
  · rw [Nat.zero_add, World.cell?_alloc_new, Array.getElem?_eq_getElem hj]; rfl
  · rw [World.frozen?_alloc_new]
theorem ext_sets {a w : World} {B : Nat} (h : Ext a w) (hB : a.heap.size ≤ B) : ∀ (vs : List Value) (o : Nat), Ext a (w.setCells B o vs) := by
  intro vs
  induction vs generalizing w with
  | nil => intro o; exact h
  | cons v r ih => intro o; rw [World.setCells]; exact ih (h.setCell hB v) (o + 1)
theorem sets_size (B : Nat) : ∀ (vs : List Value) (o : Nat) (w : World), (w.setCells B o vs).heap.size = w.heap.size
  | [], _, _ => rfl
  | v :: r, o, w => by rw [World.setCells, sets_size B r (o + 1)]; simp
def SpR (ws : List (List UInt8)) (x : Value) (w : World) : Prop := ∃ g c, x = .slice (some ⟨g, 0, none⟩) ws.length c ∧ RdS ws g 0 w ∧ ws.length ≤ c ∧ c ≤ maxLen
theorem SpR.ext {ws : List (List UInt8)} {x : Value} {w w' : World} (h : SpR ws x w) (hE : Ext w w') : SpR ws x w' := by
  obtain ⟨g, c, h1, h2, h3⟩ := h
  exact ⟨g, c, h1, h2.ext hE, h3⟩
theorem yr_lenR {ws : List (List UInt8)} {a : Act} {w : World} {o : Oper} {x : Operand} {t e : TypeId} (hop : o.op = .call ⟨.builtin .len, #[x], #[t]⟩) (hot : o.type = 3) (hu : Tryz.prog.underlying t = some (.slice e)) (hx : SpR ws (a.eval x) w) : (execOp a.eval o).run Tryz.prog w = .ok (.value (.int .i64 (ws.length : Int))) w := by
  obtain ⟨g, c, h1, -⟩ := hx
  exact yr_lenU hop hot hu h1
theorem splitb_c (s : List UInt8) (c : UInt8) (w : World) (hm : Lm w) (hs : s.length ≤ 400000000) :
    Calls Tryz.prog 16 #[.string ⟨s.toArray⟩, .string ⟨#[c]⟩] w fun e w' => ∃ x, e = .returned x ∧ SpR (spl c s) x w' ∧ Ext w w' := by
  obtain ⟨m, hm⟩ := hm
  refine (Tryz.strings_Split ⟨s.toArray⟩ ⟨#[c]⟩ m w (by show s.toArray.size < _; simp; omega) hm (Nat.le_refl 1)).mono ?_
  rintro e w' ⟨rfl, rfl⟩
  rw [split_count, split_vals]
  have hl : (spl c s).length ≤ maxLen := by
    have h1 := split_count c ⟨s.toArray⟩
    have h2 := Lib.countB_le ⟨#[c]⟩ (Nat.le_refl 1) _ ⟨s.toArray⟩ (Nat.le_refl _)
    have h3 : (⟨s.toArray⟩ : ByteArray).size = s.length := by show s.toArray.size = _; simp
    have h4 : (⟨s.toArray⟩ : ByteArray).data.toList = s := by simp
    rw [h4] at h1
    unfold maxLen
    omega
  refine ⟨_, rfl, ⟨w.heap.size, (spl c s).length, rfl, ⟨by simp, fun i hi => ?_⟩, Nat.le_refl _, hl⟩, (Ext.refl w).alloc _⟩
  rw [Nat.zero_add, World.cell?_alloc_new]
  simp [hi]
/-- What few answers: if true, all texts are of a moderate length. -/
def FewR (L : Loc) (w : World) (e : Ending) (w' : World) : Prop := ∃ b : Bool, e = .returned (.bool b) ∧ (b = true → shL L) ∧ Ext w w'
theorem sj_w {N : List (List UInt8)} {D o n : Nat} {J : List UInt8} {w : World} (h : RdS N D o w) (hn : N.length = n) (hn2 : n ≤ 100) (hl : ∀ a ∈ N, a.length ≤ 2000000) (hJ : Lib.join N [10] = J) :
    Calls Tryz.prog 17 #[.slice (some ⟨D, o, none⟩) n n, .string ⟨[10].toArray⟩] w fun e w' => e = .returned (.string ⟨J.toArray⟩) ∧ Ext w w' := by
  have := sjoin_c N D o n [10] J w h (by omega) (by omega) (by
    refine Nat.le_trans (join_le N [10] 2000000 hl) ?_
    rw [hn]
    exact Nat.le_trans (Nat.mul_le_mul_left _ hn2) (by decide)) hJ
  rwa [hn] at this
theorem rds_part {A B C : List (List UInt8)} {D o : Nat} {w : World} (h : RdS (A ++ (B ++ C)) D o w) : RdS B D (o + A.length) w := by
  refine ⟨h.1, fun i hi => ?_⟩
  have := h.2 (A.length + i) (by rw [List.length_append, List.length_append]; omega)
  rw [List.getElem_append_right (by omega), List.getElem_append_left (by omega)] at this
  rw [show o + A.length + i = o + (A.length + i) by omega, this]
  have e : A.length + i - A.length = i := by omega
  simp only [e]
set_option maxRecDepth 100000 in
set_option maxHeartbeats 4000000 in
theorem few_c (L : Loc) (w : World) (h : LcV L w) (hb : bgL L) (hm : Lm w) (hNl : ∀ s ∈ L.N.all, s.length ≤ 2000000) :
    Calls Tryz.prog 6 #[.agg L.vals.toArray] w (FewR L w) := by
  have hIL := loc_size h.1
  have hIN := names_size h.1
  have hE0 : Ext w (w.alloc (.cells L.vals.toArray 30)) := (Ext.refl w).alloc _
  have hB := LcB.new L w 30
  have hV := h.ext hE0
  obtain ⟨g0, g1, g2, g3, g4⟩ := hB.cells h.1
  have hRn := hB.names h.1
  have HV := Lib.hid hV
  have HBk := Lib.hid hB
  have HE0 := Lib.hid hE0
  have HNl := Lib.hid hNl
  have Hb := Lib.hid hb
  have HM0 := Lib.hid (hm.ext hE0)
  obtain ⟨p1, p2, -⟩ := hV.2.1
  obtain ⟨o1, o2, -⟩ := hV.2.2.1
  obtain ⟨u1, u2, -⟩ := hV.2.2.2
  unfold maxLen at p2 o2 u2
  obtain ⟨-, -, -, l1, l2⟩ := hb
  clear hNl h hE0 hB hV hm
  by_cases q1 : 12 < L.P.length
  · have d1 : decide ((12 : Int) < (L.P.length : Int)) = true := decide_eq_true (by omega)
    go_enter Tryz.func6, Tryz.ntmps6
    go_upto_region 1 with fail
    generalize w.alloc (.cells L.vals.toArray 30) = W0 at *
    generalize w.heap.size = B at *
    have hzB := HBk.out.1
    go_wp2_with fail
    go_ret
    exact ⟨false, rfl, (fun h => by cases h), HE0.out⟩
  · have d1 : decide ((12 : Int) < (L.P.length : Int)) = false := decide_eq_false (by omega)
    by_cases q2 : 12 < L.O.length
    · have d2 : decide ((12 : Int) < (L.O.length : Int)) = true := decide_eq_true (by omega)
      go_enter Tryz.func6, Tryz.ntmps6
      go_upto_region 1 with fail
      generalize w.alloc (.cells L.vals.toArray 30) = W0 at *
      generalize w.heap.size = B at *
      have hzB := HBk.out.1
      go_wp2_with fail
      go_ret
      exact ⟨false, rfl, (fun h => by cases h), HE0.out⟩
    · have d2 : decide ((12 : Int) < (L.O.length : Int)) = false := decide_eq_false (by omega)
      by_cases q3 : 12 < L.U.length
      · have d3 : decide ((12 : Int) < (L.U.length : Int)) = true := decide_eq_true (by omega)
        go_enter Tryz.func6, Tryz.ntmps6
        go_upto_region 1 with fail
        generalize w.alloc (.cells L.vals.toArray 30) = W0 at *
        generalize w.heap.size = B at *
        have hzB := HBk.out.1
        go_wp2_with fail
        go_ret
        exact ⟨false, rfl, (fun h => by cases h), HE0.out⟩
      · have d3 : decide ((12 : Int) < (L.U.length : Int)) = false := decide_eq_false (by omega)
        by_cases q4 : 300 < L.nm.length
        · have d4 : decide ((300 : Int) < (L.nm.length : Int)) = true := decide_eq_true (by omega)
          go_enter Tryz.func6, Tryz.ntmps6
          go_upto_region 1 with fail
          generalize w.alloc (.cells L.vals.toArray 30) = W0 at *
          generalize w.heap.size = B at *
          have hzB := HBk.out.1
          go_wp2_with fail
          go_ret
          exact ⟨false, rfl, (fun h => by cases h), HE0.out⟩
        · have d4 : decide ((300 : Int) < (L.nm.length : Int)) = false := decide_eq_false (by omega)
          by_cases q5 : 300 < L.pt.length
          · have d5 : decide ((300 : Int) < (L.pt.length : Int)) = true := decide_eq_true (by omega)
            go_enter Tryz.func6, Tryz.ntmps6
            go_upto_region 1 with fail
            generalize w.alloc (.cells L.vals.toArray 30) = W0 at *
            generalize w.heap.size = B at *
            have hzB := HBk.out.1
            go_wp2_with fail
            go_ret
            exact ⟨false, rfl, (fun h => by cases h), HE0.out⟩
          · have d5 : decide ((300 : Int) < (L.pt.length : Int)) = false := decide_eq_false (by omega)
            go_enter Tryz.func6, Tryz.ntmps6
            go_upto_region 1 with fail
            generalize w.alloc (.cells L.vals.toArray 30) = W0 at *
            generalize w.heap.size = B at *
            have hzB := HBk.out.1
            go_wp2_with fail
            clear d1 d2 d3 d4 d5
            go_loopw [40] (fun i wr => ∃ j : Nat, j ≤ L.U.length ∧ i = .int .i64 (j : Int) ∧ Hid (∀ i (hi : i < L.U.length), i < j → plLong (L.U[i]).f = false) ∧ Ext W0 wr) (fun i _ => L.U.length - (intOf i).toNat)
            case atStart => exact ⟨0, Nat.zero_le _, rfl, fun i _ hi => absurd hi (Nat.not_lt_zero i), Ext.refl _⟩
            case round =>
              obtain ⟨j, hj, rfl, Hall, hE⟩ := hrel
              by_cases hlt : j < L.U.length
              · obtain ⟨R, off, hua, hzR, hcu⟩ := HV.out.2.2.2.2.2.1 (by intro e; rw [e] at hlt; simp at hlt)
                obtain ⟨c0, c1⟩ := hcu j hlt
                replace c0 := (hE.cells R _ hzR).trans c0
                replace c1 := (hE.cells R _ hzR).trans c1
                have hRr := hE.lt hzR
                have hPu := (HV.out.2.2.2.2.2.2 L.U[j] (List.getElem_mem _)).ext hE
                have hbu := Hb.out.2.2.1 L.U[j] (List.getElem_mem _)
                have HY : Hid (plLong (L.U[j]).f = false → ∀ i (hi : i < L.U.length), i < j + 1 → plLong (L.U[i]).f = false) := fun q i hi hij => by
                  by_cases e : i = j
                  · subst e; exact q
                  · exact Hall.out i hi (by omega)
                obtain ⟨u, hu⟩ : ∃ u, u = L.U[j] := ⟨_, rfl⟩
                rw [← hu] at c0 c1 HY hPu hbu
                clear hu hcu
                obtain ⟨us, uao, ucap, uf⟩ := u
                simp only at c0 c1 HY hPu hbu
                have HPu := Lib.hid hPu
                have Hbu : Hid (bgP uf) := hbu
                clear hPu hbu
                rw [hua]
                rcases Bool.eq_false_or_eq_true (plLong uf) with hq | hq
                · have Hq := Lib.hid hq
                  clear hq HY
                  go_wp2_with (first
                    | (go_at_call 15; (with_reducible refine (long1_c uf uao ucap true _ (HPu.out.ext (by (repeat (with_reducible (first | assumption | exact Ext.refl _ | refine Ext.alloc ?_ _ | refine Ext.drewN ?_ _ | refine Ext.drew ?_))))) Hbu.out Hq.out).mono ?_); rintro e w1 ⟨rfl, hE1⟩; have hX := Ext.trans (show Ext wr _ from (by (repeat (with_reducible (first | assumption | exact Ext.refl _ | refine Ext.alloc ?_ _ | refine Ext.drewN ?_ _ | refine Ext.drew ?_))))) hE1; clear hE1))
                  go_ret
                  exact ⟨false, rfl, (fun h => by cases h), HE0.out.trans (hE.trans (by (repeat (with_reducible (first | assumption | exact Ext.refl _ | refine Ext.alloc ?_ _ | refine Ext.drewN ?_ _ | refine Ext.drew ?_)))))⟩
                · have HS := Lib.hid (HY.out hq)
                  have Hq := Lib.hid hq
                  clear hq HY
                  go_wp2_with (first
                    | (go_at_call 15; (with_reducible refine (long1_c uf uao ucap false _ (HPu.out.ext (by (repeat (with_reducible (first | assumption | exact Ext.refl _ | refine Ext.alloc ?_ _ | refine Ext.drewN ?_ _ | refine Ext.drew ?_))))) Hbu.out Hq.out).mono ?_); rintro e w1 ⟨rfl, hE1⟩; have hX := Ext.trans (show Ext wr _ from (by (repeat (with_reducible (first | assumption | exact Ext.refl _ | refine Ext.alloc ?_ _ | refine Ext.drewN ?_ _ | refine Ext.drew ?_))))) hE1; clear hE1))
                  go_roundw
                  case rel => exact ⟨j + 1, by omega, by go_num, HS, hE.trans (by (repeat (with_reducible (first | assumption | exact Ext.refl _ | refine Ext.alloc ?_ _ | refine Ext.drewN ?_ _ | refine Ext.drew ?_))))⟩
                  case measure => simp [intOf]; omega
              · obtain rfl : j = L.U.length := by omega
                have HSU : Hid (∀ u ∈ L.U, shP u.f) := fun u hu => by
                  obtain ⟨i, hi, rfl⟩ := List.mem_iff_getElem.1 hu
                  exact plLong_shP (Hall.out i hi hi)
                have hRnr := rng_ext1 hRn hzB hE
                have hBr := hE.lt hzB
                have hth := fun C => thr_new wr C 26
                have hoc : (sv L.N.all).toArray.all (·.oneCell') = true := all_oneCell_toArray (fun v hv => by
                  unfold sv at hv
                  obtain ⟨l, -, rfl⟩ := List.mem_map.1 hv
                  rfl)
                have hs40 : (sv L.N.all).toArray.size = 40 := by rw [List.size_toArray]; exact sv40 HV.out.1
                have hIN2 : (Tryz.prog.info? 26).map (·.size) = some (sv L.N.all).toArray.size := by rw [List.size_toArray]; exact hIN
                have Hs40 := Lib.hid hs40
                clear hs40
                go_upto_region 11 with (first
                  | (refine load_midg (by rfl) 26 _ rfl B 1 rfl (sv L.N.all) _ hRnr Tryz.underlying26 rfl hIN ?_)
                  | (refine wpList_store_mid rfl 26 _ _ rfl wr.heap.size 0 (sv L.N.all).toArray rfl rfl (hth _ _ (by rw [Hs40.out]; kernel_rfl)) hIN2 hoc ?_))
                have hEs : Ext wr ((wr.alloc (.cells #[Value.string ⟨#[]⟩, Value.string ⟨#[]⟩, Value.string ⟨#[]⟩, Value.string ⟨#[]⟩, Value.string ⟨#[]⟩, Value.string ⟨#[]⟩, Value.string ⟨#[]⟩, Value.string ⟨#[]⟩, Value.string ⟨#[]⟩, Value.string ⟨#[]⟩, Value.string ⟨#[]⟩, Value.string ⟨#[]⟩, Value.string ⟨#[]⟩, Value.string ⟨#[]⟩, Value.string ⟨#[]⟩, Value.string ⟨#[]⟩, Value.string ⟨#[]⟩, Value.string ⟨#[]⟩, Value.string ⟨#[]⟩, Value.string ⟨#[]⟩, Value.string ⟨#[]⟩, Value.string ⟨#[]⟩, Value.string ⟨#[]⟩, Value.string ⟨#[]⟩, Value.string ⟨#[]⟩, Value.string ⟨#[]⟩, Value.string ⟨#[]⟩, Value.string ⟨#[]⟩, Value.string ⟨#[]⟩, Value.string ⟨#[]⟩, Value.string ⟨#[]⟩, Value.string ⟨#[]⟩, Value.string ⟨#[]⟩, Value.string ⟨#[]⟩, Value.string ⟨#[]⟩, Value.string ⟨#[]⟩, Value.string ⟨#[]⟩, Value.string ⟨#[]⟩, Value.string ⟨#[]⟩, Value.string ⟨#[]⟩] 26)).setCells wr.heap.size 0 (sv L.N.all)) := ext_sets ((Ext.refl wr).alloc _) (Nat.le_refl _) _ _
                have hRs : ((wr.alloc (.cells #[Value.string ⟨#[]⟩, Value.string ⟨#[]⟩, Value.string ⟨#[]⟩, Value.string ⟨#[]⟩, Value.string ⟨#[]⟩, Value.string ⟨#[]⟩, Value.string ⟨#[]⟩, Value.string ⟨#[]⟩, Value.string ⟨#[]⟩, Value.string ⟨#[]⟩, Value.string ⟨#[]⟩, Value.string ⟨#[]⟩, Value.string ⟨#[]⟩, Value.string ⟨#[]⟩, Value.string ⟨#[]⟩, Value.string ⟨#[]⟩, Value.string ⟨#[]⟩, Value.string ⟨#[]⟩, Value.string ⟨#[]⟩, Value.string ⟨#[]⟩, Value.string ⟨#[]⟩, Value.string ⟨#[]⟩, Value.string ⟨#[]⟩, Value.string ⟨#[]⟩, Value.string ⟨#[]⟩, Value.string ⟨#[]⟩, Value.string ⟨#[]⟩, Value.string ⟨#[]⟩, Value.string ⟨#[]⟩, Value.string ⟨#[]⟩, Value.string ⟨#[]⟩, Value.string ⟨#[]⟩, Value.string ⟨#[]⟩, Value.string ⟨#[]⟩, Value.string ⟨#[]⟩, Value.string ⟨#[]⟩, Value.string ⟨#[]⟩, Value.string ⟨#[]⟩, Value.string ⟨#[]⟩, Value.string ⟨#[]⟩] 26)).setCells wr.heap.size 0 (sv L.N.all)).rangeAt wr.heap.size 0 (sv L.N.all) := World.rangeAt_setCells_same _ _ _ _ (thr_new wr _ 26 _ (by rw [sv40 HV.out.1]; kernel_rfl))
                have hzs : wr.heap.size < ((wr.alloc (.cells #[Value.string ⟨#[]⟩, Value.string ⟨#[]⟩, Value.string ⟨#[]⟩, Value.string ⟨#[]⟩, Value.string ⟨#[]⟩, Value.string ⟨#[]⟩, Value.string ⟨#[]⟩, Value.string ⟨#[]⟩, Value.string ⟨#[]⟩, Value.string ⟨#[]⟩, Value.string ⟨#[]⟩, Value.string ⟨#[]⟩, Value.string ⟨#[]⟩, Value.string ⟨#[]⟩, Value.string ⟨#[]⟩, Value.string ⟨#[]⟩, Value.string ⟨#[]⟩, Value.string ⟨#[]⟩, Value.string ⟨#[]⟩, Value.string ⟨#[]⟩, Value.string ⟨#[]⟩, Value.string ⟨#[]⟩, Value.string ⟨#[]⟩, Value.string ⟨#[]⟩, Value.string ⟨#[]⟩, Value.string ⟨#[]⟩, Value.string ⟨#[]⟩, Value.string ⟨#[]⟩, Value.string ⟨#[]⟩, Value.string ⟨#[]⟩, Value.string ⟨#[]⟩, Value.string ⟨#[]⟩, Value.string ⟨#[]⟩, Value.string ⟨#[]⟩, Value.string ⟨#[]⟩, Value.string ⟨#[]⟩, Value.string ⟨#[]⟩, Value.string ⟨#[]⟩, Value.string ⟨#[]⟩, Value.string ⟨#[]⟩] 26)).setCells wr.heap.size 0 (sv L.N.all)).heap.size := by rw [sets_size]; simp
                generalize ((wr.alloc (.cells #[Value.string ⟨#[]⟩, Value.string ⟨#[]⟩, Value.string ⟨#[]⟩, Value.string ⟨#[]⟩, Value.string ⟨#[]⟩, Value.string ⟨#[]⟩, Value.string ⟨#[]⟩, Value.string ⟨#[]⟩, Value.string ⟨#[]⟩, Value.string ⟨#[]⟩, Value.string ⟨#[]⟩, Value.string ⟨#[]⟩, Value.string ⟨#[]⟩, Value.string ⟨#[]⟩, Value.string ⟨#[]⟩, Value.string ⟨#[]⟩, Value.string ⟨#[]⟩, Value.string ⟨#[]⟩, Value.string ⟨#[]⟩, Value.string ⟨#[]⟩, Value.string ⟨#[]⟩, Value.string ⟨#[]⟩, Value.string ⟨#[]⟩, Value.string ⟨#[]⟩, Value.string ⟨#[]⟩, Value.string ⟨#[]⟩, Value.string ⟨#[]⟩, Value.string ⟨#[]⟩, Value.string ⟨#[]⟩, Value.string ⟨#[]⟩, Value.string ⟨#[]⟩, Value.string ⟨#[]⟩, Value.string ⟨#[]⟩, Value.string ⟨#[]⟩, Value.string ⟨#[]⟩, Value.string ⟨#[]⟩, Value.string ⟨#[]⟩, Value.string ⟨#[]⟩, Value.string ⟨#[]⟩, Value.string ⟨#[]⟩] 26)).setCells wr.heap.size 0 (sv L.N.all)) = V at hEs hRs hzs ⊢
                simp only [Act.put]
                have hRA : RdS L.N.all wr.heap.size 0 V := ⟨hzs, fun i hi => hRs i _ (by unfold sv; simp [hi])⟩
                have hNk := HV.out.1
                obtain ⟨n1, n2, n3, n4, n5⟩ := hNk
                have hA1 : RdS L.N.mo wr.heap.size 0 V := rds_part (A := []) hRA
                have hA2 : RdS L.N.sh wr.heap.size 12 V := by have := rds_part (A := L.N.mo) (B := L.N.sh) hRA; rwa [n1] at this
                have hA3 : RdS L.N.da wr.heap.size 24 V := by have := rds_part (A := L.N.mo ++ L.N.sh) (B := L.N.da) (C := L.N.sd ++ L.N.ha) (by rw [List.append_assoc]; exact hRA); rwa [List.length_append, n1, n2] at this
                have hA4 : RdS L.N.sd wr.heap.size 31 V := by have := rds_part (A := L.N.mo ++ L.N.sh ++ L.N.da) (B := L.N.sd) (C := L.N.ha) (by rw [List.append_assoc, List.append_assoc]; exact hRA); rwa [List.length_append, List.length_append, n1, n2, n3] at this
                have hA5 : RdS L.N.ha wr.heap.size 38 V := by have := rds_part (A := L.N.mo ++ L.N.sh ++ L.N.da ++ L.N.sd) (B := L.N.ha) (C := []) (by rw [List.append_assoc, List.append_assoc, List.append_assoc, List.append_nil]; exact hRA); rwa [List.length_append, List.length_append, List.length_append, n1, n2, n3, n4] at this
                have hN := HNl.out
                unfold Nms.all at hN
                have hl1 : ∀ a ∈ L.N.mo, a.length ≤ 2000000 := fun a ha => hN a (by simp [ha])
                have hl2 : ∀ a ∈ L.N.sh, a.length ≤ 2000000 := fun a ha => hN a (by simp [ha])
                have hl3 : ∀ a ∈ L.N.da, a.length ≤ 2000000 := fun a ha => hN a (by simp [ha])
                have hl4 : ∀ a ∈ L.N.sd, a.length ≤ 2000000 := fun a ha => hN a (by simp [ha])
                have hl5 : ∀ a ∈ L.N.ha, a.length ≤ 2000000 := fun a ha => hN a (by simp [ha])
                obtain ⟨J1, e1⟩ : ∃ J, Lib.join L.N.mo [10] = J := ⟨_, rfl⟩
                obtain ⟨J2, e2⟩ : ∃ J, Lib.join L.N.sh [10] = J := ⟨_, rfl⟩
                obtain ⟨J3, e3⟩ : ∃ J, Lib.join L.N.da [10] = J := ⟨_, rfl⟩
                obtain ⟨J4, e4⟩ : ∃ J, Lib.join L.N.sd [10] = J := ⟨_, rfl⟩
                obtain ⟨J5, e5⟩ : ∃ J, Lib.join L.N.ha [10] = J := ⟨_, rfl⟩
                have s1 : J1.length ≤ 24000012 := by rw [← e1]; refine Nat.le_trans (join_le _ _ 2000000 hl1) ?_; rw [n1]; decide
                have s2 : J2.length ≤ 24000012 := by rw [← e2]; refine Nat.le_trans (join_le _ _ 2000000 hl2) ?_; rw [n2]; decide
                have s3 : J3.length ≤ 24000012 := by rw [← e3]; refine Nat.le_trans (join_le _ _ 2000000 hl3) ?_; rw [n3]; decide
                have s4 : J4.length ≤ 24000012 := by rw [← e4]; refine Nat.le_trans (join_le _ _ 2000000 hl4) ?_; rw [n4]; decide
                have s5 : J5.length ≤ 24000012 := by rw [← e5]; refine Nat.le_trans (join_le _ _ 2000000 hl5) ?_; rw [n5]; decide
                have HJ1 := Lib.hid (fun (w' : World) (hE' : Ext V w') => sj_w (hA1.ext hE') n1 (by decide) hl1 e1)
                have HJ2 := Lib.hid (fun (w' : World) (hE' : Ext V w') => sj_w (hA2.ext hE') n2 (by decide) hl2 e2)
                have HJ3 := Lib.hid (fun (w' : World) (hE' : Ext V w') => sj_w (hA3.ext hE') n3 (by decide) hl3 e3)
                have HJ4 := Lib.hid (fun (w' : World) (hE' : Ext V w') => sj_w (hA4.ext hE') n4 (by decide) hl4 e4)
                have HJ5 := Lib.hid (fun (w' : World) (hE' : Ext V w') => sj_w (hA5.ext hE') n5 (by decide) hl5 e5)
                obtain ⟨T1, hT1⟩ : ∃ T, J1 ++ [10] = T := ⟨_, rfl⟩
                have z1 : T1.length = J1.length + 1 := by rw [← hT1, List.length_append] <;> rfl
                have HT1 := Lib.hid hT1
                obtain ⟨T2, hT2⟩ : ∃ T, T1 ++ J2 = T := ⟨_, rfl⟩
                have z2 : T2.length = T1.length + J2.length := by rw [← hT2, List.length_append] <;> rfl
                have HT2 := Lib.hid hT2
                obtain ⟨T3, hT3⟩ : ∃ T, T2 ++ [10] = T := ⟨_, rfl⟩
                have z3 : T3.length = T2.length + 1 := by rw [← hT3, List.length_append] <;> rfl
                have HT3 := Lib.hid hT3
                obtain ⟨T4, hT4⟩ : ∃ T, T3 ++ J3 = T := ⟨_, rfl⟩
                have z4 : T4.length = T3.length + J3.length := by rw [← hT4, List.length_append] <;> rfl
                have HT4 := Lib.hid hT4
                obtain ⟨T5, hT5⟩ : ∃ T, T4 ++ [10] = T := ⟨_, rfl⟩
                have z5 : T5.length = T4.length + 1 := by rw [← hT5, List.length_append] <;> rfl
                have HT5 := Lib.hid hT5
                obtain ⟨T6, hT6⟩ : ∃ T, T5 ++ J4 = T := ⟨_, rfl⟩
                have z6 : T6.length = T5.length + J4.length := by rw [← hT6, List.length_append] <;> rfl
                have HT6 := Lib.hid hT6
                obtain ⟨T7, hT7⟩ : ∃ T, T6 ++ [10] = T := ⟨_, rfl⟩
                have z7 : T7.length = T6.length + 1 := by rw [← hT7, List.length_append] <;> rfl
                have HT7 := Lib.hid hT7
                obtain ⟨T8, hT8⟩ : ∃ T, T7 ++ J5 = T := ⟨_, rfl⟩
                have z8 : T8.length = T7.length + J5.length := by rw [← hT8, List.length_append] <;> rfl
                have HT8 := Lib.hid hT8
                have z9 : T1.length ≤ 400000000 ∧ T2.length ≤ 400000000 ∧ T3.length ≤ 400000000 ∧ T4.length ≤ 400000000 ∧ T5.length ≤ 400000000 ∧ T6.length ≤ 400000000 ∧ T7.length ≤ 400000000 ∧ T8.length ≤ 400000000 := by omega
                obtain ⟨y1, y2, y3, y4, y5, y6, y7, y8⟩ := z9
                clear hT1 hT2 hT3 hT4 hT5 hT6 hT7 hT8 z1 z2 z3 z4 z5 z6 z7 z8
                obtain ⟨ws, hws⟩ : ∃ ws, spl 10 T8 = ws := ⟨_, rfl⟩
                have HWl : Hid (∀ x ∈ ws, x.length ≤ 400000000) := fun x hx => by rw [← hws] at hx; exact Nat.le_trans (spl_len 10 T8 x hx) y8
                have HMV := Lib.hid (HM0.out.ext (hE.trans hEs))
                have HSp : Hid (∀ w', Ext V w' → Calls Tryz.prog 16 #[.string ⟨T8.toArray⟩, .string ⟨[10].toArray⟩] w' fun e w'' => ∃ x, e = .returned x ∧ SpR ws x w'' ∧ Ext w' w'') := fun w' hE' => by
                  have := splitb_c T8 10 w' (HMV.out.ext hE') y8
                  rwa [hws] at this
                have HEV := Lib.hid (HE0.out.trans (hE.trans hEs))
                have g1V := ((hE.trans hEs).cells B 41 hzB).trans g1
                have g2V := ((hE.trans hEs).cells B 42 hzB).trans g2
                have hBV := (hE.trans hEs).lt hzB
                have HPV := Lib.hid (HV.out.2.1.ext (hE.trans hEs))
                have HOV := Lib.hid (HV.out.2.2.1.ext (hE.trans hEs))
                have Hb1 : Hid (bgP L.P) := Hb.out.1
                have Hb2 : Hid (bgP L.O) := Hb.out.2.1
                generalize wr.heap.size = D at *
                clear hws hA1 hA2 hA3 hA4 hA5 hl1 hl2 hl3 hl4 hl5 e1 e2 e3 e4 e5 hRA hN n1 n2 n3 n4 n5 hE hEs hRs hRnr hRn hth hoc hIN2 Hs40 hBr
                refine wp_region_grow [51, 52, 53, 54, 55, 56, 57, 58, 59, 60, 61, 62, 63, 64, 65, 66, 67, 68, 69, 70, 71, 72, 73, 74, 75, 76] [fun x _ => x = .pointer (some ⟨D, 0, none⟩), fun x _ => x = .slice (some ⟨D, 0, none⟩) 12 12, fun x _ => x = .string ⟨(J1).toArray⟩, fun x _ => x = .string ⟨(T1).toArray⟩, fun x _ => x = .pointer (some ⟨D, 12, none⟩), fun x _ => x = .slice (some ⟨D, 12, none⟩) 12 12, fun x _ => x = .string ⟨(J2).toArray⟩, fun x _ => x = .string ⟨(T2).toArray⟩, fun x _ => x = .string ⟨(T3).toArray⟩, fun x _ => x = .pointer (some ⟨D, 24, none⟩), fun x _ => x = .slice (some ⟨D, 24, none⟩) 7 7, fun x _ => x = .string ⟨(J3).toArray⟩, fun x _ => x = .string ⟨(T4).toArray⟩, fun x _ => x = .string ⟨(T5).toArray⟩, fun x _ => x = .pointer (some ⟨D, 31, none⟩), fun x _ => x = .slice (some ⟨D, 31, none⟩) 7 7, fun x _ => x = .string ⟨(J4).toArray⟩, fun x _ => x = .string ⟨(T6).toArray⟩, fun x _ => x = .string ⟨(T7).toArray⟩, fun x _ => x = .pointer (some ⟨D, 38, none⟩), fun x _ => x = .slice (some ⟨D, 38, none⟩) 2 2, fun x _ => x = .string ⟨(J5).toArray⟩, fun x _ => x = .string ⟨(T8).toArray⟩, SpR ws, fun x _ => x = .int .i64 (ws.length : Int), fun x _ => x = .int .i64 0] 0 (by kernel_rfl) (by kernel_rfl) (by kernel_rfl) (by kernel_rfl) ?_ ?_ ?_
                · intro Rl hRl
                  simp only [List.mem_cons, List.not_mem_nil, or_false] at hRl
                  rcases hRl with rfl | rfl | rfl | rfl | rfl | rfl | rfl | rfl | rfl | rfl | rfl | rfl | rfl | rfl | rfl | rfl | rfl | rfl | rfl | rfl | rfl | rfl | rfl | rfl | rfl | rfl
                  all_goals first
                    | exact fun _ _ _ h _ => h
                    | exact fun _ _ _ h hE => SpR.ext h hE
                · refine ⟨?_, ?_, ?_, ?_, ?_, ?_, ?_, ?_, ?_, ?_, ?_, ?_, ?_, ?_, ?_, ?_, ?_, ?_, ?_, ?_, ?_, ?_, ?_, ?_, ?_, ?_, trivial⟩
                  all_goals intro a w hE hF hD K hK
                  · exact gs_val rfl (yr_field rfl ((hF 6 (fr_of rfl)).trans rfl) (fa_0 D w)) (hK _ _ rfl (Ext.refl _))
                  · have u51 : a.eval (.tmp 51) = .pointer (some ⟨D, 0, none⟩) := hD 0 (by kernel_rfl)
                    exact gs_val rfl (yr_sla rfl u51 (sl33 D 0 w)) (hK _ _ rfl (Ext.refl _))
                  · have u52 : a.eval (.tmp 52) = .slice (some ⟨D, 0, none⟩) 12 12 := hD 1 (by kernel_rfl)
                    have q0 : a.eval (.tmp 52) = .slice (some ⟨D, 0, none⟩) 12 12 := u52
                    exact gs_call rfl (yr_call rfl rfl (show (#[Operand.tmp 52, Operand.const (.string ⟨[10].toArray⟩)] : Array Operand).map a.eval = #[.slice (some ⟨D, 0, none⟩) 12 12, .string ⟨[10].toArray⟩] by simp only [List.map_toArray, List.map_cons, List.map_nil, q0] <;> rfl) (by kernel_rfl)) ((HJ1.out w hE).mono fun e w' ⟨h1, h2⟩ => ⟨_, h1, rfl, h2⟩) hK
                  · have u53 : a.eval (.tmp 53) = .string ⟨(J1).toArray⟩ := hD 2 (by kernel_rfl)
                    exact gs_val rfl (yr_addt rfl u53 rfl (by omega) HT1.out) (hK _ _ rfl (Ext.refl _))
                  · exact gs_val rfl (yr_field rfl ((hF 6 (fr_of rfl)).trans rfl) (fa_1 D w)) (hK _ _ rfl (Ext.refl _))
                  · have u55 : a.eval (.tmp 55) = .pointer (some ⟨D, 12, none⟩) := hD 4 (by kernel_rfl)
                    exact gs_val rfl (yr_sla rfl u55 (sl33 D 12 w)) (hK _ _ rfl (Ext.refl _))
                  · have u56 : a.eval (.tmp 56) = .slice (some ⟨D, 12, none⟩) 12 12 := hD 5 (by kernel_rfl)
                    have q0 : a.eval (.tmp 56) = .slice (some ⟨D, 12, none⟩) 12 12 := u56
                    exact gs_call rfl (yr_call rfl rfl (show (#[Operand.tmp 56, Operand.const (.string ⟨[10].toArray⟩)] : Array Operand).map a.eval = #[.slice (some ⟨D, 12, none⟩) 12 12, .string ⟨[10].toArray⟩] by simp only [List.map_toArray, List.map_cons, List.map_nil, q0] <;> rfl) (by kernel_rfl)) ((HJ2.out w hE).mono fun e w' ⟨h1, h2⟩ => ⟨_, h1, rfl, h2⟩) hK
                  · have u54 : a.eval (.tmp 54) = .string ⟨(T1).toArray⟩ := hD 3 (by kernel_rfl)
                    have u57 : a.eval (.tmp 57) = .string ⟨(J2).toArray⟩ := hD 6 (by kernel_rfl)
                    exact gs_val rfl (yr_addt rfl u54 u57 (by omega) HT2.out) (hK _ _ rfl (Ext.refl _))
                  · have u58 : a.eval (.tmp 58) = .string ⟨(T2).toArray⟩ := hD 7 (by kernel_rfl)
                    exact gs_val rfl (yr_addt rfl u58 rfl (by omega) HT3.out) (hK _ _ rfl (Ext.refl _))
                  · exact gs_val rfl (yr_field rfl ((hF 6 (fr_of rfl)).trans rfl) (fa_2 D w)) (hK _ _ rfl (Ext.refl _))
                  · have u60 : a.eval (.tmp 60) = .pointer (some ⟨D, 24, none⟩) := hD 9 (by kernel_rfl)
                    exact gs_val rfl (yr_sla rfl u60 (sl34 D 24 w)) (hK _ _ rfl (Ext.refl _))
                  · have u61 : a.eval (.tmp 61) = .slice (some ⟨D, 24, none⟩) 7 7 := hD 10 (by kernel_rfl)
                    have q0 : a.eval (.tmp 61) = .slice (some ⟨D, 24, none⟩) 7 7 := u61
                    exact gs_call rfl (yr_call rfl rfl (show (#[Operand.tmp 61, Operand.const (.string ⟨[10].toArray⟩)] : Array Operand).map a.eval = #[.slice (some ⟨D, 24, none⟩) 7 7, .string ⟨[10].toArray⟩] by simp only [List.map_toArray, List.map_cons, List.map_nil, q0] <;> rfl) (by kernel_rfl)) ((HJ3.out w hE).mono fun e w' ⟨h1, h2⟩ => ⟨_, h1, rfl, h2⟩) hK
                  · have u59 : a.eval (.tmp 59) = .string ⟨(T3).toArray⟩ := hD 8 (by kernel_rfl)
                    have u62 : a.eval (.tmp 62) = .string ⟨(J3).toArray⟩ := hD 11 (by kernel_rfl)
                    exact gs_val rfl (yr_addt rfl u59 u62 (by omega) HT4.out) (hK _ _ rfl (Ext.refl _))
                  · have u63 : a.eval (.tmp 63) = .string ⟨(T4).toArray⟩ := hD 12 (by kernel_rfl)
                    exact gs_val rfl (yr_addt rfl u63 rfl (by omega) HT5.out) (hK _ _ rfl (Ext.refl _))
                  · exact gs_val rfl (yr_field rfl ((hF 6 (fr_of rfl)).trans rfl) (fa_3 D w)) (hK _ _ rfl (Ext.refl _))
                  · have u65 : a.eval (.tmp 65) = .pointer (some ⟨D, 31, none⟩) := hD 14 (by kernel_rfl)
                    exact gs_val rfl (yr_sla rfl u65 (sl34 D 31 w)) (hK _ _ rfl (Ext.refl _))
                  · have u66 : a.eval (.tmp 66) = .slice (some ⟨D, 31, none⟩) 7 7 := hD 15 (by kernel_rfl)
                    have q0 : a.eval (.tmp 66) = .slice (some ⟨D, 31, none⟩) 7 7 := u66
                    exact gs_call rfl (yr_call rfl rfl (show (#[Operand.tmp 66, Operand.const (.string ⟨[10].toArray⟩)] : Array Operand).map a.eval = #[.slice (some ⟨D, 31, none⟩) 7 7, .string ⟨[10].toArray⟩] by simp only [List.map_toArray, List.map_cons, List.map_nil, q0] <;> rfl) (by kernel_rfl)) ((HJ4.out w hE).mono fun e w' ⟨h1, h2⟩ => ⟨_, h1, rfl, h2⟩) hK
                  · have u64 : a.eval (.tmp 64) = .string ⟨(T5).toArray⟩ := hD 13 (by kernel_rfl)
                    have u67 : a.eval (.tmp 67) = .string ⟨(J4).toArray⟩ := hD 16 (by kernel_rfl)
                    exact gs_val rfl (yr_addt rfl u64 u67 (by omega) HT6.out) (hK _ _ rfl (Ext.refl _))
                  · have u68 : a.eval (.tmp 68) = .string ⟨(T6).toArray⟩ := hD 17 (by kernel_rfl)
                    exact gs_val rfl (yr_addt rfl u68 rfl (by omega) HT7.out) (hK _ _ rfl (Ext.refl _))
                  · exact gs_val rfl (yr_field rfl ((hF 6 (fr_of rfl)).trans rfl) (fa_4 D w)) (hK _ _ rfl (Ext.refl _))
                  · have u70 : a.eval (.tmp 70) = .pointer (some ⟨D, 38, none⟩) := hD 19 (by kernel_rfl)
                    exact gs_val rfl (yr_sla rfl u70 (sl35 D 38 w)) (hK _ _ rfl (Ext.refl _))
                  · have u71 : a.eval (.tmp 71) = .slice (some ⟨D, 38, none⟩) 2 2 := hD 20 (by kernel_rfl)
                    have q0 : a.eval (.tmp 71) = .slice (some ⟨D, 38, none⟩) 2 2 := u71
                    exact gs_call rfl (yr_call rfl rfl (show (#[Operand.tmp 71, Operand.const (.string ⟨[10].toArray⟩)] : Array Operand).map a.eval = #[.slice (some ⟨D, 38, none⟩) 2 2, .string ⟨[10].toArray⟩] by simp only [List.map_toArray, List.map_cons, List.map_nil, q0] <;> rfl) (by kernel_rfl)) ((HJ5.out w hE).mono fun e w' ⟨h1, h2⟩ => ⟨_, h1, rfl, h2⟩) hK
                  · have u69 : a.eval (.tmp 69) = .string ⟨(T7).toArray⟩ := hD 18 (by kernel_rfl)
                    have u72 : a.eval (.tmp 72) = .string ⟨(J5).toArray⟩ := hD 21 (by kernel_rfl)
                    exact gs_val rfl (yr_addt rfl u69 u72 (by omega) HT8.out) (hK _ _ rfl (Ext.refl _))
                  · have u73 : a.eval (.tmp 73) = .string ⟨(T8).toArray⟩ := hD 22 (by kernel_rfl)
                    have q0 : a.eval (.tmp 73) = .string ⟨(T8).toArray⟩ := u73
                    exact gs_call rfl (yr_call rfl rfl (show (#[Operand.tmp 73, Operand.const (.string ⟨[10].toArray⟩)] : Array Operand).map a.eval = #[.string ⟨(T8).toArray⟩, .string ⟨[10].toArray⟩] by simp only [List.map_toArray, List.map_cons, List.map_nil, q0] <;> rfl) (by kernel_rfl)) (HSp.out w hE) hK
                  · have u74 := hD 23 (by kernel_rfl)
                    exact gs_val rfl (yr_lenR (ws := ws) rfl rfl Tryz.underlying54 u74) (hK _ _ rfl (Ext.refl _))
                  · exact gs_val rfl (yr_move rfl rfl) (hK _ _ rfl (Ext.refl _))
                intro vals wz hEz hRz
                obtain ⟨-, -, -, -, -, -, -, -, -, -, -, -, -, -, -, -, -, -, -, -, -, -, -, h23, h24, h25, -⟩ := hRz
                obtain ⟨g, cg, e74, hg1, hg2, hg3⟩ := h23
                have e75 : vals 24 = .int .i64 (ws.length : Int) := h24
                have e76 : vals 25 = .int .i64 0 := h25
                refine wpAny_done (by kernel_rfl) ?_ _
                simp only [putF, Act.put, List.length_cons, List.length_nil, List.getD_cons_zero, List.getD_cons_succ, List.setIfInBounds_toArray, List.set_cons_zero, List.set_cons_succ, Nat.reduceAdd, e74, e75, e76]
                clear e74 e75 e76
                have hgl := hg1.1
                unfold maxLen at hg3
                have HG := Lib.hid hg1.2
                have g1z := (hEz.cells B 41 hBV).trans g1V
                have g2z := (hEz.cells B 42 hBV).trans g2V
                have hBz := hEz.lt hBV
                have HPz := Lib.hid (HPV.out.ext hEz)
                have HOz := Lib.hid (HOV.out.ext hEz)
                have HEz := Lib.hid (HEV.out.trans hEz)
                have HSh : Hid (plLong L.P = false → plLong L.O = false → shL L) := fun h1 h2 => ⟨plLong_shP h1, plLong_shP h2, HSU.out, by omega, by omega⟩
                clear hg1 hEz g1V g2V hBV hzs
                go_wp2_with fail
                go_loopw [76] (fun i wt => ∃ j : Nat, j ≤ ws.length ∧ i = .int .i64 (j : Int) ∧ wz = wt) (fun i _ => ws.length - (intOf i).toNat)
                case atStart => exact ⟨0, Nat.zero_le _, rfl, rfl⟩
                case round =>
                  obtain ⟨j, hj, rfl, rfl⟩ := hrel
                  by_cases hlt : j < ws.length
                  · have c0 := HG.out j hlt
                    rw [Nat.zero_add] at c0
                    have hxl := HWl.out ws[j] (List.getElem_mem _)
                    obtain ⟨x, hx⟩ : ∃ x, x = ws[j] := ⟨_, rfl⟩
                    rw [← hx] at c0 hxl
                    clear hx
                    by_cases q6 : 300 < x.length
                    · have d6 : decide ((300 : Int) < (x.length : Int)) = true := decide_eq_true (by omega)
                      go_wp2_with fail
                      go_ret
                      exact ⟨false, rfl, (fun h => by cases h), HEz.out⟩
                    · have d6 : decide ((300 : Int) < (x.length : Int)) = false := decide_eq_false (by omega)
                      go_wp2_with fail
                      go_roundw
                      case rel => exact ⟨j + 1, by omega, by go_num, by trivial⟩
                      case measure => simp [intOf]; omega
                  · obtain rfl : j = ws.length := by omega
                    rcases Bool.eq_false_or_eq_true (plLong L.P) with hq | hq
                    · have Hq := Lib.hid hq
                      clear hq
                      go_wp2_with (first
                        | (go_at_call 15; (with_reducible refine (long1_c L.P L.pa L.pc true _ HPz.out Hb1.out Hq.out).mono ?_); rintro e w1 ⟨rfl, hE1⟩))
                      go_ret
                      exact ⟨false, rfl, (fun h => by cases h), HEz.out.trans hE1⟩
                    · have Hq := Lib.hid hq
                      clear hq
                      rcases Bool.eq_false_or_eq_true (plLong L.O) with hr | hr
                      · have Hr := Lib.hid hr
                        clear hr
                        go_wp2_with (first
                          | (go_at_call 15; (with_reducible refine (long1_c L.P L.pa L.pc false _ HPz.out Hb1.out Hq.out).mono ?_); rintro e w1 ⟨rfl, hE1⟩; have g2y := (hE1.cells B 42 hBz).trans g2z; have hBy := hE1.lt hBz)
                          | (go_at_call 15; (with_reducible refine (long1_c L.O L.oa L.oc true _ (HOz.out.ext hE1) Hb2.out Hr.out).mono ?_); rintro e w2 ⟨rfl, hE2⟩))
                        go_ret
                        exact ⟨false, rfl, (fun h => by cases h), HEz.out.trans (hE1.trans hE2)⟩
                      · have Hr := Lib.hid hr
                        clear hr
                        go_wp2_with (first
                          | (go_at_call 15; (with_reducible refine (long1_c L.P L.pa L.pc false _ HPz.out Hb1.out Hq.out).mono ?_); rintro e w1 ⟨rfl, hE1⟩; have g2y := (hE1.cells B 42 hBz).trans g2z; have hBy := hE1.lt hBz)
                          | (go_at_call 15; (with_reducible refine (long1_c L.O L.oa L.oc false _ (HOz.out.ext hE1) Hb2.out Hr.out).mono ?_); rintro e w2 ⟨rfl, hE2⟩))
                        go_ret
                        exact ⟨true, rfl, (fun _ => HSh.out Hq.out Hr.out), HEz.out.trans (hE1.trans hE2)⟩
end Go.Proofs.YtnhdmnhfllecgaaGreatDoor
/- Locales: the walk of Parse: its start and its stages. -/
namespace Go.Proofs.YtnhdmnhfllecgaaGreatDoor
set_option linter.unusedVariables false
set_option linter.unusedSimpArgs false
open Go.RowKit

/-- Between the stages. -/
def PIn (tx : List UInt8) (b B X st : Nat) (w : World) : Prop := (∃ rest, OKS tx b B X (fun _ _ => True) st 0 rest w) ∨ ERS tx X w
def zeroV : Array Value := LocD.zero.loc.vals.toArray
theorem zero_lsw (b B : Nat) (w : World) (hb : b ≤ B) (ho : w.heap[B]? = some (.cells zeroV 30 (0, 0))) : LSw LocD.zero.loc b B w := by
  have hk : ∀ k, blk LocD.zero.loc k = none := fun k => by
    match k with
    | 0 => rfl
    | 1 => rfl
    | 2 => rfl
    | k + 3 => rfl
  exact ⟨⟨rfl, rfl, rfl, rfl, rfl⟩, hb, ho, World.ownsRow_nil _ _ _ _, World.ownsRow_nil _ _ _ _, World.ownsRow_nil _ _ _ _, (fun u hu => by cases hu), (fun k => by rw [hk]; simp), fun i j x _ h => by rw [hk] at h; cases h⟩
theorem zero_dat : Dat LocD.zero.loc LocD.zero := ⟨rfl, rfl, rfl, rfl, rfl, rfl⟩
theorem zero_sz : DSz LocD.zero 0 := by
  refine ⟨by decide, by decide, ?_, fun p hp => by (cases hp), fun p hp => by (cases hp), fun u hu => by (cases hu), ⟨rfl, rfl, rfl, rfl, rfl⟩, by decide, by decide, by decide⟩
  intro s hs
  have : s = [] := by
    simp only [LocD.zero, emN, Nms.all, List.mem_append, List.mem_replicate] at hs
    rcases hs with q | q | q | q | q <;> exact q.2
  rw [this]; simp
/-- The start: a locale and a reader of lines are made. -/
theorem par_start (s : List UInt8) (W : World) (hs : s.length ≤ 50000) (hl : ∀ a ∈ spl 10 s, a.length ≤ 6000) :
    PIn s W.heap.size W.heap.size (W.heap.size + 1) 0 ((W.alloc (.cells zeroV 30)).alloc (.cells #[.string ⟨s.toArray⟩, .int .i64 0, .int .i64 0, .int .i64 0, .int .i64 0] 75)) := by
  have hE : Ext (W.alloc (.cells zeroV 30)) ((W.alloc (.cells zeroV 30)).alloc (.cells #[.string ⟨s.toArray⟩, .int .i64 0, .int .i64 0, .int .i64 0, .int .i64 0] 75)) := (Ext.refl _).alloc _
  have hB : (W.alloc (.cells zeroV 30)).heap[W.heap.size]? = some (.cells zeroV 30 (0, 0)) := heap_alloc_new W _
  have hz : (W.alloc (.cells zeroV 30)).heap.size = W.heap.size + 1 := by simp
  have hX : ((W.alloc (.cells zeroV 30)).alloc (.cells #[.string ⟨s.toArray⟩, .int .i64 0, .int .i64 0, .int .i64 0, .int .i64 0] 75)).heap[W.heap.size + 1]? = some (.cells #[.string ⟨s.toArray⟩, .int .i64 0, .int .i64 0, .int .i64 0, .int .i64 0] 75 (0, 0)) := by
    rw [← hz]; exact heap_alloc_new _ _
  refine .inl ⟨s, LocD.zero.loc, LocD.zero, 0, (zero_lsw W.heap.size W.heap.size _ (Nat.le_refl _) hB).ext hE, ⟨by omega, fun i e => ?_⟩, zero_dat, zero_sz, ?_, parL_run s, by omega, hl, trivial⟩
  · match i, e with
    | 0, e => cases e
    | 1, e => cases e
    | 2, e => cases e
    | k + 3, e => cases e
  · exact ⟨by rw [cell_of_row _ _ 0 _ _ _ hX]; rfl, by rw [cell_of_row _ _ 1 _ _ _ hX]; rfl, by rw [cell_of_row _ _ 2 _ _ _ hX]; rfl, by rw [cell_of_row _ _ 3 _ _ _ hX]; rfl, by rw [cell_of_row _ _ 4 _ _ _ hX]; rfl, fun o => frz_obj hX o, by simp⟩
section
variable (tx : List UInt8) (b B X : Nat) (w0 w : World) (hX : w0.heap.size ≤ X) (hb : w0.heap.size ≤ b) (hm : Lm w0) (hE : Ext w0 w)
include hX hb hm hE
theorem ps_0 (h : PIn tx b B X 0 w) : Calls Tryz.prog 41 #[.pointer (some ⟨X, 0, none⟩), .string ⟨#[108, 111, 99, 97, 108, 101]⟩, .func (.func 42) #[] #[.pointer (some ⟨B, 0, none⟩)]] w fun e w' => e = .returned (.tuple #[]) ∧ Ext w0 w' ∧ PIn tx b B X 1 w' := by
  rcases h with ⟨rest, h⟩ | h
  · refine (take_st tx b B X 0 0 _ _ (fun _ _ => True) rest w0 w (acc_nm b B) (kd_true B X) (by decide) hX hb hm hE h (.inl rfl)).mono ?_
    rintro e w' ⟨r1, r2, r3⟩
    exact ⟨r1, r2, r3.imp (fun ⟨rest', q1, q2⟩ => ⟨rest', q2⟩) id⟩
  · refine (take_er tx X (wrd 0) _ w0 w hE h).mono ?_
    rintro e w' ⟨r1, r2, r3⟩
    exact ⟨r1, r2, .inr r3⟩
theorem ps_9 (h : PIn tx b B X 9 w) : Calls Tryz.prog 41 #[.pointer (some ⟨X, 0, none⟩), .string ⟨#[112, 97, 116, 116, 101, 114, 110]⟩, .func (.func 49) #[] #[.pointer (some ⟨B, 0, none⟩)]] w fun e w' => e = .returned (.tuple #[]) ∧ Ext w0 w' ∧ PIn tx b B X 10 w' := by
  rcases h with ⟨rest, h⟩ | h
  · refine (take_st tx b B X 9 0 _ _ (fun _ _ => True) rest w0 w (acc_pt b B) (kd_true B X) (by decide) hX hb hm hE h (.inl rfl)).mono ?_
    rintro e w' ⟨r1, r2, r3⟩
    exact ⟨r1, r2, r3.imp (fun ⟨rest', q1, q2⟩ => ⟨rest', q2⟩) id⟩
  · refine (take_er tx X (wrd 9) _ w0 w hE h).mono ?_
    rintro e w' ⟨r1, r2, r3⟩
    exact ⟨r1, r2, .inr r3⟩
theorem ps_1 (h : PIn tx b B X 1 w) : Calls Tryz.prog 43 #[.pointer (some ⟨X, 0, none⟩), .string ⟨#[109, 111, 110, 116, 104, 115]⟩, .slice (some ⟨B, 1, none⟩) 12 12] w fun e w' => e = .returned (.tuple #[]) ∧ Ext w0 w' ∧ PIn tx b B X 2 w' :=
  list_st tx b B X 1 w0 w 12 1 (by decide) (by decide) rfl rfl hX hb hm hE h
theorem ps_2 (h : PIn tx b B X 2 w) : Calls Tryz.prog 43 #[.pointer (some ⟨X, 0, none⟩), .string ⟨#[115, 104, 111, 114, 116]⟩, .slice (some ⟨B, 13, none⟩) 12 12] w fun e w' => e = .returned (.tuple #[]) ∧ Ext w0 w' ∧ PIn tx b B X 3 w' :=
  list_st tx b B X 2 w0 w 12 13 (by decide) (by decide) rfl rfl hX hb hm hE h
theorem ps_3 (h : PIn tx b B X 3 w) : Calls Tryz.prog 43 #[.pointer (some ⟨X, 0, none⟩), .string ⟨#[100, 97, 121, 115]⟩, .slice (some ⟨B, 25, none⟩) 7 7] w fun e w' => e = .returned (.tuple #[]) ∧ Ext w0 w' ∧ PIn tx b B X 4 w' :=
  list_st tx b B X 3 w0 w 7 25 (by decide) (by decide) rfl rfl hX hb hm hE h
theorem ps_4 (h : PIn tx b B X 4 w) : Calls Tryz.prog 43 #[.pointer (some ⟨X, 0, none⟩), .string ⟨#[115, 104, 111, 114, 116, 100, 97, 121, 115]⟩, .slice (some ⟨B, 32, none⟩) 7 7] w fun e w' => e = .returned (.tuple #[]) ∧ Ext w0 w' ∧ PIn tx b B X 5 w' :=
  list_st tx b B X 4 w0 w 7 32 (by decide) (by decide) rfl rfl hX hb hm hE h
theorem ps_5 (h : PIn tx b B X 5 w) : Calls Tryz.prog 43 #[.pointer (some ⟨X, 0, none⟩), .string ⟨#[104, 97, 108, 118, 101, 115]⟩, .slice (some ⟨B, 39, none⟩) 2 2] w fun e w' => e = .returned (.tuple #[]) ∧ Ext w0 w' ∧ PIn tx b B X 6 w' :=
  list_st tx b B X 5 w0 w 2 39 (by decide) (by decide) rfl rfl hX hb hm hE h
theorem ps_6 (h : PIn tx b B X 6 w) : Calls Tryz.prog 44 #[.pointer (some ⟨X, 0, none⟩), .string ⟨#[112, 108, 117, 114, 97, 108]⟩, .func (.func 93) #[] #[.pointer (some ⟨w.heap.size, 0, none⟩)]] (w.alloc (.cells #[.pointer (some ⟨B, 41, none⟩)] 79)) fun e w' => e = .returned (.tuple #[]) ∧ Ext w0 w' ∧ PIn tx b B X 7 w' := by
  have hE1 : Ext w0 (w.alloc (.cells #[.pointer (some ⟨B, 41, none⟩)] 79)) := hE.alloc _
  have hlt : X < w.heap.size := by
    rcases h with ⟨rest, h⟩ | h
    · obtain ⟨at_, -, -, hx⟩ := h.lx
      exact hx.lt
    · obtain ⟨r, l, e, a, c, hx, -⟩ := h.ne
      exact hx.lt
  refine many_st tx b B X 6 _ _ (KdB B w.heap.size (.pointer (some ⟨B, 41, none⟩))) w0 _ (acc_P b B w.heap.size) (kd_box B X _ _ (by omega)) (by decide) (by decide) hX hb hm hE1 ?_
  rcases h with ⟨rest, h⟩ | h
  · exact .inl ⟨rest, h.box⟩
  · exact .inr (h.ext ((Ext.refl w).alloc _))
theorem ps_7 (h : PIn tx b B X 7 w) : Calls Tryz.prog 44 #[.pointer (some ⟨X, 0, none⟩), .string ⟨#[111, 114, 100, 105, 110, 97, 108]⟩, .func (.func 93) #[] #[.pointer (some ⟨w.heap.size, 0, none⟩)]] (w.alloc (.cells #[.pointer (some ⟨B, 42, none⟩)] 79)) fun e w' => e = .returned (.tuple #[]) ∧ Ext w0 w' ∧ PIn tx b B X 8 w' := by
  have hE1 : Ext w0 (w.alloc (.cells #[.pointer (some ⟨B, 42, none⟩)] 79)) := hE.alloc _
  have hlt : X < w.heap.size := by
    rcases h with ⟨rest, h⟩ | h
    · obtain ⟨at_, -, -, hx⟩ := h.lx
      exact hx.lt
    · obtain ⟨r, l, e, a, c, hx, -⟩ := h.ne
      exact hx.lt
  refine many_st tx b B X 7 _ _ (KdB B w.heap.size (.pointer (some ⟨B, 42, none⟩))) w0 _ (acc_O b B w.heap.size) (kd_box B X _ _ (by omega)) (by decide) (by decide) hX hb hm hE1 ?_
  rcases h with ⟨rest, h⟩ | h
  · exact .inl ⟨rest, h.box⟩
  · exact .inr (h.ext ((Ext.refl w).alloc _))
theorem ps_8 (h : PIn tx b B X 8 w) : Calls Tryz.prog 44 #[.pointer (some ⟨X, 0, none⟩), .string ⟨#[117, 110, 105, 116]⟩, .func (.func 46) #[] #[.pointer (some ⟨B, 0, none⟩)]] w fun e w' => e = .returned (.tuple #[]) ∧ Ext w0 w' ∧ PIn tx b B X 9 w' :=
  many_st tx b B X 8 _ _ (fun _ _ => True) w0 w (acc_U b B) (kd_true B X) (by decide) (by decide) hX hb hm hE h
end
end Go.Proofs.YtnhdmnhfllecgaaGreatDoor
