/- Locales: the walk of the law's few. -/
import Derived.Test.YtlmoibmmjonjoaaGreatDoorQ06
import Derived.Test.YtlmoibmmjonjoaaGreatDoorQ20
import Derived.Test.YtlmoibmmjonjoaaGreatDoorQ14
import Derived.Test.YtlmoibmmjonjoaaGreatDoorQ19
import Derived.Deep.Cut
import Derived.Laws.Tables
namespace Go.Proofs.YtlmoibmmjonjoaaGreatDoor
set_option linter.unusedVariables false
set_option linter.unusedSimpArgs false
open Go.RowKit

def bgL (L : Loc) : Prop := bgP L.P ∧ bgP L.O ∧ (∀ u ∈ L.U, bgP u.f) ∧ L.nm.length ≤ 9223372036854775807 ∧ L.pt.length ≤ 9223372036854775807
theorem thr_new (w : World) (C : Array Value) (t : TypeId) (n : Nat) (hn : n = C.size) : (w.alloc (.cells C t)).there w.heap.size 0 n := by
  subst hn
  intro j hj
  constructor
  · rw [Nat.zero_add, World.cell?_alloc_new, Array.getElem?_eq_getElem hj]; rfl
  · rw [World.frozen?_alloc_new]
theorem ext_sets {a w : World} {B : Nat} (h : Ext a w) (hB : a.heap.size ≤ B) : ∀ (vs : List Value) (o : Nat), Ext a (w.setCells B o vs) := by
  intro vs
  induction vs generalizing w with
  | nil => intro o; exact h
  | cons v r ih => intro o; rw [World.setCells]; exact ih (h.setCell hB v) (o + 1)
theorem sets_size (B : Nat) : ∀ (vs : List Value) (o : Nat) (w : World), (w.setCells B o vs).heap.size = w.heap.size
  | [], _, _ => rfl
  | v :: r, o, w => by rw [World.setCells, sets_size B r (o + 1)]; simp
def SpR (ws : List (List UInt8)) (x : Value) (w : World) : Prop := ∃ g c, x = .slice (some ⟨g, 0, none⟩) ws.length c ∧ RdS ws g 0 w ∧ ws.length ≤ c ∧ c ≤ maxLen
theorem SpR.ext {ws : List (List UInt8)} {x : Value} {w w' : World} (h : SpR ws x w) (hE : Ext w w') : SpR ws x w' := by
  obtain ⟨g, c, h1, h2, h3⟩ := h
  exact ⟨g, c, h1, h2.ext hE, h3⟩
theorem yr_lenR {ws : List (List UInt8)} {a : Act} {w : World} {o : Oper} {x : Operand} {t e : TypeId} (hop : o.op = .call ⟨.builtin .len, #[x], #[t]⟩) (hot : o.type = 3) (hu : Tryz.prog.underlying t = some (.slice e)) (hx : SpR ws (a.eval x) w) : (execOp a.eval o).run Tryz.prog w = .ok (.value (.int .i64 (ws.length : Int))) w := by
  obtain ⟨g, c, h1, -⟩ := hx
  exact yr_lenU hop hot hu h1
theorem splitb_c (s : List UInt8) (c : UInt8) (w : World) (hm : Lm w) (hs : s.length ≤ 400000000) :
    Calls Tryz.prog 22 #[.string ⟨s.toArray⟩, .string ⟨#[c]⟩] w fun e w' => ∃ x, e = .returned x ∧ SpR (spl c s) x w' ∧ Ext w w' := by
  obtain ⟨m, hm⟩ := hm
  refine (Tryz.strings_Split ⟨s.toArray⟩ ⟨#[c]⟩ m w (by show s.toArray.size < _; simp; omega) hm (Nat.le_refl 1)).mono ?_
  rintro e w' ⟨rfl, rfl⟩
  rw [split_count, split_vals]
  have hl : (spl c s).length ≤ maxLen := by
    have h1 := split_count c ⟨s.toArray⟩
    have h2 := Lib.countB_le ⟨#[c]⟩ (Nat.le_refl 1) _ ⟨s.toArray⟩ (Nat.le_refl _)
    have h3 : (⟨s.toArray⟩ : ByteArray).size = s.length := by show s.toArray.size = _; simp
    have h4 : (⟨s.toArray⟩ : ByteArray).data.toList = s := by simp
    rw [h4] at h1
    unfold maxLen
    omega
  refine ⟨_, rfl, ⟨w.heap.size, (spl c s).length, rfl, ⟨by simp, fun i hi => ?_⟩, Nat.le_refl _, hl⟩, (Ext.refl w).alloc _⟩
  rw [Nat.zero_add, World.cell?_alloc_new]
  simp [hi]
/-- What few answers: if true, all texts are of a moderate length. -/
def FewR (L : Loc) (w : World) (e : Ending) (w' : World) : Prop := ∃ b : Bool, e = .returned (.bool b) ∧ (b = true → shL L) ∧ Ext w w'
theorem sj_w {N : List (List UInt8)} {D o n : Nat} {J : List UInt8} {w : World} (h : RdS N D o w) (hn : N.length = n) (hn2 : n ≤ 100) (hl : ∀ a ∈ N, a.length ≤ 2000000) (hJ : Lib.join N [10] = J) :
    Calls Tryz.prog 26 #[.slice (some ⟨D, o, none⟩) n n, .string ⟨[10].toArray⟩] w fun e w' => e = .returned (.string ⟨J.toArray⟩) ∧ Ext w w' := by
  have := sjoin_c N D o n [10] J w h (by omega) (by omega) (by
    refine Nat.le_trans (join_le N [10] 2000000 hl) ?_
    rw [hn]
    exact Nat.le_trans (Nat.mul_le_mul_left _ hn2) (by decide)) hJ
  rwa [hn] at this
theorem rds_part {A B C : List (List UInt8)} {D o : Nat} {w : World} (h : RdS (A ++ (B ++ C)) D o w) : RdS B D (o + A.length) w := by
  refine ⟨h.1, fun i hi => ?_⟩
  have := h.2 (A.length + i) (by rw [List.length_append, List.length_append]; omega)
  rw [List.getElem_append_right (by omega), List.getElem_append_left (by omega)] at this
  rw [show o + A.length + i = o + (A.length + i) by omega, this]
  have e : A.length + i - A.length = i := by omega
  simp only [e]
set_option maxRecDepth 100000 in
set_option maxHeartbeats 4000000 in
theorem few_c (L : Loc) (w : World) (h : LcV L w) (hb : bgL L) (hm : Lm w) (hNl : ∀ s ∈ L.N.all, s.length ≤ 2000000) :
    Calls Tryz.prog 8 #[.agg L.vals.toArray] w (FewR L w) := by
  have hIL := loc_size h.1
  have hIN := names_size h.1
  have hE0 : Ext w (w.alloc (.cells L.vals.toArray 30)) := (Ext.refl w).alloc _
  have hB := LcB.new L w 30
  have hV := h.ext hE0
  obtain ⟨g0, g1, g2, g3, g4⟩ := hB.cells h.1
  have hRn := hB.names h.1
  have HV := Lib.hid hV
  have HBk := Lib.hid hB
  have HE0 := Lib.hid hE0
  have HNl := Lib.hid hNl
  have Hb := Lib.hid hb
  have HM0 := Lib.hid (hm.ext hE0)
  obtain ⟨p1, p2, -⟩ := hV.2.1
  obtain ⟨o1, o2, -⟩ := hV.2.2.1
  obtain ⟨u1, u2, -⟩ := hV.2.2.2
  unfold maxLen at p2 o2 u2
  obtain ⟨-, -, -, l1, l2⟩ := hb
  clear hNl h hE0 hB hV hm
  by_cases q1 : 12 < L.P.length
  · have d1 : decide ((12 : Int) < (L.P.length : Int)) = true := decide_eq_true (by omega)
    go_enter Tryz.func8, Tryz.ntmps8
    go_upto_region 1 with fail
    generalize w.alloc (.cells L.vals.toArray 30) = W0 at *
    generalize w.heap.size = B at *
    have hzB := HBk.out.1
    go_wp2_with fail
    go_ret
    exact ⟨false, rfl, (fun h => by cases h), HE0.out⟩
  · have d1 : decide ((12 : Int) < (L.P.length : Int)) = false := decide_eq_false (by omega)
    by_cases q2 : 12 < L.O.length
    · have d2 : decide ((12 : Int) < (L.O.length : Int)) = true := decide_eq_true (by omega)
      go_enter Tryz.func8, Tryz.ntmps8
      go_upto_region 1 with fail
      generalize w.alloc (.cells L.vals.toArray 30) = W0 at *
      generalize w.heap.size = B at *
      have hzB := HBk.out.1
      go_wp2_with fail
      go_ret
      exact ⟨false, rfl, (fun h => by cases h), HE0.out⟩
    · have d2 : decide ((12 : Int) < (L.O.length : Int)) = false := decide_eq_false (by omega)
      by_cases q3 : 12 < L.U.length
      · have d3 : decide ((12 : Int) < (L.U.length : Int)) = true := decide_eq_true (by omega)
        go_enter Tryz.func8, Tryz.ntmps8
        go_upto_region 1 with fail
        generalize w.alloc (.cells L.vals.toArray 30) = W0 at *
        generalize w.heap.size = B at *
        have hzB := HBk.out.1
        go_wp2_with fail
        go_ret
        exact ⟨false, rfl, (fun h => by cases h), HE0.out⟩
      · have d3 : decide ((12 : Int) < (L.U.length : Int)) = false := decide_eq_false (by omega)
        by_cases q4 : 300 < L.nm.length
        · have d4 : decide ((300 : Int) < (L.nm.length : Int)) = true := decide_eq_true (by omega)
          go_enter Tryz.func8, Tryz.ntmps8
          go_upto_region 1 with fail
          generalize w.alloc (.cells L.vals.toArray 30) = W0 at *
          generalize w.heap.size = B at *
          have hzB := HBk.out.1
          go_wp2_with fail
          go_ret
          exact ⟨false, rfl, (fun h => by cases h), HE0.out⟩
        · have d4 : decide ((300 : Int) < (L.nm.length : Int)) = false := decide_eq_false (by omega)
          by_cases q5 : 300 < L.pt.length
          · have d5 : decide ((300 : Int) < (L.pt.length : Int)) = true := decide_eq_true (by omega)
            go_enter Tryz.func8, Tryz.ntmps8
            go_upto_region 1 with fail
            generalize w.alloc (.cells L.vals.toArray 30) = W0 at *
            generalize w.heap.size = B at *
            have hzB := HBk.out.1
            go_wp2_with fail
            go_ret
            exact ⟨false, rfl, (fun h => by cases h), HE0.out⟩
          · have d5 : decide ((300 : Int) < (L.pt.length : Int)) = false := decide_eq_false (by omega)
            go_enter Tryz.func8, Tryz.ntmps8
            go_upto_region 1 with fail
            generalize w.alloc (.cells L.vals.toArray 30) = W0 at *
            generalize w.heap.size = B at *
            have hzB := HBk.out.1
            go_wp2_with fail
            clear d1 d2 d3 d4 d5
            go_loopw [40] (fun i wr => ∃ j : Nat, j ≤ L.U.length ∧ i = .int .i64 (j : Int) ∧ Hid (∀ i (hi : i < L.U.length), i < j → plLong (L.U[i]).f = false) ∧ Ext W0 wr) (fun i _ => L.U.length - (intOf i).toNat)
            case atStart => exact ⟨0, Nat.zero_le _, rfl, fun i _ hi => absurd hi (Nat.not_lt_zero i), Ext.refl _⟩
            case round =>
              obtain ⟨j, hj, rfl, Hall, hE⟩ := hrel
              by_cases hlt : j < L.U.length
              · obtain ⟨R, off, hua, hzR, hcu⟩ := HV.out.2.2.2.2.2.1 (by intro e; rw [e] at hlt; simp at hlt)
                obtain ⟨c0, c1⟩ := hcu j hlt
                replace c0 := (hE.cells R _ hzR).trans c0
                replace c1 := (hE.cells R _ hzR).trans c1
                have hRr := hE.lt hzR
                have hPu := (HV.out.2.2.2.2.2.2 L.U[j] (List.getElem_mem _)).ext hE
                have hbu := Hb.out.2.2.1 L.U[j] (List.getElem_mem _)
                have HY : Hid (plLong (L.U[j]).f = false → ∀ i (hi : i < L.U.length), i < j + 1 → plLong (L.U[i]).f = false) := fun q i hi hij => by
                  by_cases e : i = j
                  · subst e; exact q
                  · exact Hall.out i hi (by omega)
                obtain ⟨u, hu⟩ : ∃ u, u = L.U[j] := ⟨_, rfl⟩
                rw [← hu] at c0 c1 HY hPu hbu
                clear hu hcu
                obtain ⟨us, uao, ucap, uf⟩ := u
                simp only at c0 c1 HY hPu hbu
                have HPu := Lib.hid hPu
                have Hbu : Hid (bgP uf) := hbu
                clear hPu hbu
                rw [hua]
                rcases Bool.eq_false_or_eq_true (plLong uf) with hq | hq
                · have Hq := Lib.hid hq
                  clear hq HY
                  go_wp2_with (first
                    | (go_at_call 25; (with_reducible refine (long1_c uf uao ucap true _ (HPu.out.ext (by (repeat (with_reducible (first | assumption | exact Ext.refl _ | refine Ext.alloc ?_ _ | refine Ext.drewN ?_ _ | refine Ext.drew ?_))))) Hbu.out Hq.out).mono ?_); rintro e w1 ⟨rfl, hE1⟩; have hX := Ext.trans (show Ext wr _ from (by (repeat (with_reducible (first | assumption | exact Ext.refl _ | refine Ext.alloc ?_ _ | refine Ext.drewN ?_ _ | refine Ext.drew ?_))))) hE1; clear hE1))
                  go_ret
                  exact ⟨false, rfl, (fun h => by cases h), HE0.out.trans (hE.trans (by (repeat (with_reducible (first | assumption | exact Ext.refl _ | refine Ext.alloc ?_ _ | refine Ext.drewN ?_ _ | refine Ext.drew ?_)))))⟩
                · have HS := Lib.hid (HY.out hq)
                  have Hq := Lib.hid hq
                  clear hq HY
                  go_wp2_with (first
                    | (go_at_call 25; (with_reducible refine (long1_c uf uao ucap false _ (HPu.out.ext (by (repeat (with_reducible (first | assumption | exact Ext.refl _ | refine Ext.alloc ?_ _ | refine Ext.drewN ?_ _ | refine Ext.drew ?_))))) Hbu.out Hq.out).mono ?_); rintro e w1 ⟨rfl, hE1⟩; have hX := Ext.trans (show Ext wr _ from (by (repeat (with_reducible (first | assumption | exact Ext.refl _ | refine Ext.alloc ?_ _ | refine Ext.drewN ?_ _ | refine Ext.drew ?_))))) hE1; clear hE1))
                  go_roundw
                  case rel => exact ⟨j + 1, by omega, by go_num, HS, hE.trans (by (repeat (with_reducible (first | assumption | exact Ext.refl _ | refine Ext.alloc ?_ _ | refine Ext.drewN ?_ _ | refine Ext.drew ?_))))⟩
                  case measure => simp [intOf]; omega
              · obtain rfl : j = L.U.length := by omega
                have HSU : Hid (∀ u ∈ L.U, shP u.f) := fun u hu => by
                  obtain ⟨i, hi, rfl⟩ := List.mem_iff_getElem.1 hu
                  exact plLong_shP (Hall.out i hi hi)
                have hRnr := rng_ext1 hRn hzB hE
                have hBr := hE.lt hzB
                have hth := fun C => thr_new wr C 26
                have hoc : (sv L.N.all).toArray.all (·.oneCell') = true := all_oneCell_toArray (fun v hv => by
                  unfold sv at hv
                  obtain ⟨l, -, rfl⟩ := List.mem_map.1 hv
                  rfl)
                have hs40 : (sv L.N.all).toArray.size = 40 := by rw [List.size_toArray]; exact sv40 HV.out.1
                have hIN2 : (Tryz.prog.info? 26).map (·.size) = some (sv L.N.all).toArray.size := by rw [List.size_toArray]; exact hIN
                have Hs40 := Lib.hid hs40
                clear hs40
                go_upto_region 11 with (first
                  | (refine load_midg (by rfl) 26 _ rfl B 1 rfl (sv L.N.all) _ hRnr Tryz.underlying26 rfl hIN ?_)
                  | (refine wpList_store_mid rfl 26 _ _ rfl wr.heap.size 0 (sv L.N.all).toArray rfl rfl (hth _ _ (by rw [Hs40.out]; kernel_rfl)) hIN2 hoc ?_))
                have hEs : Ext wr ((wr.alloc (.cells #[Value.string ⟨#[]⟩, Value.string ⟨#[]⟩, Value.string ⟨#[]⟩, Value.string ⟨#[]⟩, Value.string ⟨#[]⟩, Value.string ⟨#[]⟩, Value.string ⟨#[]⟩, Value.string ⟨#[]⟩, Value.string ⟨#[]⟩, Value.string ⟨#[]⟩, Value.string ⟨#[]⟩, Value.string ⟨#[]⟩, Value.string ⟨#[]⟩, Value.string ⟨#[]⟩, Value.string ⟨#[]⟩, Value.string ⟨#[]⟩, Value.string ⟨#[]⟩, Value.string ⟨#[]⟩, Value.string ⟨#[]⟩, Value.string ⟨#[]⟩, Value.string ⟨#[]⟩, Value.string ⟨#[]⟩, Value.string ⟨#[]⟩, Value.string ⟨#[]⟩, Value.string ⟨#[]⟩, Value.string ⟨#[]⟩, Value.string ⟨#[]⟩, Value.string ⟨#[]⟩, Value.string ⟨#[]⟩, Value.string ⟨#[]⟩, Value.string ⟨#[]⟩, Value.string ⟨#[]⟩, Value.string ⟨#[]⟩, Value.string ⟨#[]⟩, Value.string ⟨#[]⟩, Value.string ⟨#[]⟩, Value.string ⟨#[]⟩, Value.string ⟨#[]⟩, Value.string ⟨#[]⟩, Value.string ⟨#[]⟩] 26)).setCells wr.heap.size 0 (sv L.N.all)) := ext_sets ((Ext.refl wr).alloc _) (Nat.le_refl _) _ _
                have hRs : ((wr.alloc (.cells #[Value.string ⟨#[]⟩, Value.string ⟨#[]⟩, Value.string ⟨#[]⟩, Value.string ⟨#[]⟩, Value.string ⟨#[]⟩, Value.string ⟨#[]⟩, Value.string ⟨#[]⟩, Value.string ⟨#[]⟩, Value.string ⟨#[]⟩, Value.string ⟨#[]⟩, Value.string ⟨#[]⟩, Value.string ⟨#[]⟩, Value.string ⟨#[]⟩, Value.string ⟨#[]⟩, Value.string ⟨#[]⟩, Value.string ⟨#[]⟩, Value.string ⟨#[]⟩, Value.string ⟨#[]⟩, Value.string ⟨#[]⟩, Value.string ⟨#[]⟩, Value.string ⟨#[]⟩, Value.string ⟨#[]⟩, Value.string ⟨#[]⟩, Value.string ⟨#[]⟩, Value.string ⟨#[]⟩, Value.string ⟨#[]⟩, Value.string ⟨#[]⟩, Value.string ⟨#[]⟩, Value.string ⟨#[]⟩, Value.string ⟨#[]⟩, Value.string ⟨#[]⟩, Value.string ⟨#[]⟩, Value.string ⟨#[]⟩, Value.string ⟨#[]⟩, Value.string ⟨#[]⟩, Value.string ⟨#[]⟩, Value.string ⟨#[]⟩, Value.string ⟨#[]⟩, Value.string ⟨#[]⟩, Value.string ⟨#[]⟩] 26)).setCells wr.heap.size 0 (sv L.N.all)).rangeAt wr.heap.size 0 (sv L.N.all) := World.rangeAt_setCells_same _ _ _ _ (thr_new wr _ 26 _ (by rw [sv40 HV.out.1]; kernel_rfl))
                have hzs : wr.heap.size < ((wr.alloc (.cells #[Value.string ⟨#[]⟩, Value.string ⟨#[]⟩, Value.string ⟨#[]⟩, Value.string ⟨#[]⟩, Value.string ⟨#[]⟩, Value.string ⟨#[]⟩, Value.string ⟨#[]⟩, Value.string ⟨#[]⟩, Value.string ⟨#[]⟩, Value.string ⟨#[]⟩, Value.string ⟨#[]⟩, Value.string ⟨#[]⟩, Value.string ⟨#[]⟩, Value.string ⟨#[]⟩, Value.string ⟨#[]⟩, Value.string ⟨#[]⟩, Value.string ⟨#[]⟩, Value.string ⟨#[]⟩, Value.string ⟨#[]⟩, Value.string ⟨#[]⟩, Value.string ⟨#[]⟩, Value.string ⟨#[]⟩, Value.string ⟨#[]⟩, Value.string ⟨#[]⟩, Value.string ⟨#[]⟩, Value.string ⟨#[]⟩, Value.string ⟨#[]⟩, Value.string ⟨#[]⟩, Value.string ⟨#[]⟩, Value.string ⟨#[]⟩, Value.string ⟨#[]⟩, Value.string ⟨#[]⟩, Value.string ⟨#[]⟩, Value.string ⟨#[]⟩, Value.string ⟨#[]⟩, Value.string ⟨#[]⟩, Value.string ⟨#[]⟩, Value.string ⟨#[]⟩, Value.string ⟨#[]⟩, Value.string ⟨#[]⟩] 26)).setCells wr.heap.size 0 (sv L.N.all)).heap.size := by rw [sets_size]; simp
                generalize ((wr.alloc (.cells #[Value.string ⟨#[]⟩, Value.string ⟨#[]⟩, Value.string ⟨#[]⟩, Value.string ⟨#[]⟩, Value.string ⟨#[]⟩, Value.string ⟨#[]⟩, Value.string ⟨#[]⟩, Value.string ⟨#[]⟩, Value.string ⟨#[]⟩, Value.string ⟨#[]⟩, Value.string ⟨#[]⟩, Value.string ⟨#[]⟩, Value.string ⟨#[]⟩, Value.string ⟨#[]⟩, Value.string ⟨#[]⟩, Value.string ⟨#[]⟩, Value.string ⟨#[]⟩, Value.string ⟨#[]⟩, Value.string ⟨#[]⟩, Value.string ⟨#[]⟩, Value.string ⟨#[]⟩, Value.string ⟨#[]⟩, Value.string ⟨#[]⟩, Value.string ⟨#[]⟩, Value.string ⟨#[]⟩, Value.string ⟨#[]⟩, Value.string ⟨#[]⟩, Value.string ⟨#[]⟩, Value.string ⟨#[]⟩, Value.string ⟨#[]⟩, Value.string ⟨#[]⟩, Value.string ⟨#[]⟩, Value.string ⟨#[]⟩, Value.string ⟨#[]⟩, Value.string ⟨#[]⟩, Value.string ⟨#[]⟩, Value.string ⟨#[]⟩, Value.string ⟨#[]⟩, Value.string ⟨#[]⟩, Value.string ⟨#[]⟩] 26)).setCells wr.heap.size 0 (sv L.N.all)) = V at hEs hRs hzs ⊢
                simp only [Act.put]
                have hRA : RdS L.N.all wr.heap.size 0 V := ⟨hzs, fun i hi => hRs i _ (by unfold sv; simp [hi])⟩
                have hNk := HV.out.1
                obtain ⟨n1, n2, n3, n4, n5⟩ := hNk
                have hA1 : RdS L.N.mo wr.heap.size 0 V := rds_part (A := []) hRA
                have hA2 : RdS L.N.sh wr.heap.size 12 V := by have := rds_part (A := L.N.mo) (B := L.N.sh) hRA; rwa [n1] at this
                have hA3 : RdS L.N.da wr.heap.size 24 V := by have := rds_part (A := L.N.mo ++ L.N.sh) (B := L.N.da) (C := L.N.sd ++ L.N.ha) (by rw [List.append_assoc]; exact hRA); rwa [List.length_append, n1, n2] at this
                have hA4 : RdS L.N.sd wr.heap.size 31 V := by have := rds_part (A := L.N.mo ++ L.N.sh ++ L.N.da) (B := L.N.sd) (C := L.N.ha) (by rw [List.append_assoc, List.append_assoc]; exact hRA); rwa [List.length_append, List.length_append, n1, n2, n3] at this
                have hA5 : RdS L.N.ha wr.heap.size 38 V := by have := rds_part (A := L.N.mo ++ L.N.sh ++ L.N.da ++ L.N.sd) (B := L.N.ha) (C := []) (by rw [List.append_assoc, List.append_assoc, List.append_assoc, List.append_nil]; exact hRA); rwa [List.length_append, List.length_append, List.length_append, n1, n2, n3, n4] at this
                have hN := HNl.out
                unfold Nms.all at hN
                have hl1 : ∀ a ∈ L.N.mo, a.length ≤ 2000000 := fun a ha => hN a (by simp [ha])
                have hl2 : ∀ a ∈ L.N.sh, a.length ≤ 2000000 := fun a ha => hN a (by simp [ha])
                have hl3 : ∀ a ∈ L.N.da, a.length ≤ 2000000 := fun a ha => hN a (by simp [ha])
                have hl4 : ∀ a ∈ L.N.sd, a.length ≤ 2000000 := fun a ha => hN a (by simp [ha])
                have hl5 : ∀ a ∈ L.N.ha, a.length ≤ 2000000 := fun a ha => hN a (by simp [ha])
                obtain ⟨J1, e1⟩ : ∃ J, Lib.join L.N.mo [10] = J := ⟨_, rfl⟩
                obtain ⟨J2, e2⟩ : ∃ J, Lib.join L.N.sh [10] = J := ⟨_, rfl⟩
                obtain ⟨J3, e3⟩ : ∃ J, Lib.join L.N.da [10] = J := ⟨_, rfl⟩
                obtain ⟨J4, e4⟩ : ∃ J, Lib.join L.N.sd [10] = J := ⟨_, rfl⟩
                obtain ⟨J5, e5⟩ : ∃ J, Lib.join L.N.ha [10] = J := ⟨_, rfl⟩
                have s1 : J1.length ≤ 24000012 := by rw [← e1]; refine Nat.le_trans (join_le _ _ 2000000 hl1) ?_; rw [n1]; decide
                have s2 : J2.length ≤ 24000012 := by rw [← e2]; refine Nat.le_trans (join_le _ _ 2000000 hl2) ?_; rw [n2]; decide
                have s3 : J3.length ≤ 24000012 := by rw [← e3]; refine Nat.le_trans (join_le _ _ 2000000 hl3) ?_; rw [n3]; decide
                have s4 : J4.length ≤ 24000012 := by rw [← e4]; refine Nat.le_trans (join_le _ _ 2000000 hl4) ?_; rw [n4]; decide
                have s5 : J5.length ≤ 24000012 := by rw [← e5]; refine Nat.le_trans (join_le _ _ 2000000 hl5) ?_; rw [n5]; decide
                have HJ1 := Lib.hid (fun (w' : World) (hE' : Ext V w') => sj_w (hA1.ext hE') n1 (by decide) hl1 e1)
                have HJ2 := Lib.hid (fun (w' : World) (hE' : Ext V w') => sj_w (hA2.ext hE') n2 (by decide) hl2 e2)
                have HJ3 := Lib.hid (fun (w' : World) (hE' : Ext V w') => sj_w (hA3.ext hE') n3 (by decide) hl3 e3)
                have HJ4 := Lib.hid (fun (w' : World) (hE' : Ext V w') => sj_w (hA4.ext hE') n4 (by decide) hl4 e4)
                have HJ5 := Lib.hid (fun (w' : World) (hE' : Ext V w') => sj_w (hA5.ext hE') n5 (by decide) hl5 e5)
                obtain ⟨T1, hT1⟩ : ∃ T, J1 ++ [10] = T := ⟨_, rfl⟩
                have z1 : T1.length = J1.length + 1 := by rw [← hT1, List.length_append] <;> rfl
                have HT1 := Lib.hid hT1
                obtain ⟨T2, hT2⟩ : ∃ T, T1 ++ J2 = T := ⟨_, rfl⟩
                have z2 : T2.length = T1.length + J2.length := by rw [← hT2, List.length_append] <;> rfl
                have HT2 := Lib.hid hT2
                obtain ⟨T3, hT3⟩ : ∃ T, T2 ++ [10] = T := ⟨_, rfl⟩
                have z3 : T3.length = T2.length + 1 := by rw [← hT3, List.length_append] <;> rfl
                have HT3 := Lib.hid hT3
                obtain ⟨T4, hT4⟩ : ∃ T, T3 ++ J3 = T := ⟨_, rfl⟩
                have z4 : T4.length = T3.length + J3.length := by rw [← hT4, List.length_append] <;> rfl
                have HT4 := Lib.hid hT4
                obtain ⟨T5, hT5⟩ : ∃ T, T4 ++ [10] = T := ⟨_, rfl⟩
                have z5 : T5.length = T4.length + 1 := by rw [← hT5, List.length_append] <;> rfl
                have HT5 := Lib.hid hT5
                obtain ⟨T6, hT6⟩ : ∃ T, T5 ++ J4 = T := ⟨_, rfl⟩
                have z6 : T6.length = T5.length + J4.length := by rw [← hT6, List.length_append] <;> rfl
                have HT6 := Lib.hid hT6
                obtain ⟨T7, hT7⟩ : ∃ T, T6 ++ [10] = T := ⟨_, rfl⟩
                have z7 : T7.length = T6.length + 1 := by rw [← hT7, List.length_append] <;> rfl
                have HT7 := Lib.hid hT7
                obtain ⟨T8, hT8⟩ : ∃ T, T7 ++ J5 = T := ⟨_, rfl⟩
                have z8 : T8.length = T7.length + J5.length := by rw [← hT8, List.length_append] <;> rfl
                have HT8 := Lib.hid hT8
                have z9 : T1.length ≤ 400000000 ∧ T2.length ≤ 400000000 ∧ T3.length ≤ 400000000 ∧ T4.length ≤ 400000000 ∧ T5.length ≤ 400000000 ∧ T6.length ≤ 400000000 ∧ T7.length ≤ 400000000 ∧ T8.length ≤ 400000000 := by omega
                obtain ⟨y1, y2, y3, y4, y5, y6, y7, y8⟩ := z9
                clear hT1 hT2 hT3 hT4 hT5 hT6 hT7 hT8 z1 z2 z3 z4 z5 z6 z7 z8
                obtain ⟨ws, hws⟩ : ∃ ws, spl 10 T8 = ws := ⟨_, rfl⟩
                have HWl : Hid (∀ x ∈ ws, x.length ≤ 400000000) := fun x hx => by rw [← hws] at hx; exact Nat.le_trans (spl_len 10 T8 x hx) y8
                have HMV := Lib.hid (HM0.out.ext (hE.trans hEs))
                have HSp : Hid (∀ w', Ext V w' → Calls Tryz.prog 22 #[.string ⟨T8.toArray⟩, .string ⟨[10].toArray⟩] w' fun e w'' => ∃ x, e = .returned x ∧ SpR ws x w'' ∧ Ext w' w'') := fun w' hE' => by
                  have := splitb_c T8 10 w' (HMV.out.ext hE') y8
                  rwa [hws] at this
                have HEV := Lib.hid (HE0.out.trans (hE.trans hEs))
                have g1V := ((hE.trans hEs).cells B 41 hzB).trans g1
                have g2V := ((hE.trans hEs).cells B 42 hzB).trans g2
                have hBV := (hE.trans hEs).lt hzB
                have HPV := Lib.hid (HV.out.2.1.ext (hE.trans hEs))
                have HOV := Lib.hid (HV.out.2.2.1.ext (hE.trans hEs))
                have Hb1 : Hid (bgP L.P) := Hb.out.1
                have Hb2 : Hid (bgP L.O) := Hb.out.2.1
                generalize wr.heap.size = D at *
                clear hws hA1 hA2 hA3 hA4 hA5 hl1 hl2 hl3 hl4 hl5 e1 e2 e3 e4 e5 hRA hN n1 n2 n3 n4 n5 hE hEs hRs hRnr hRn hth hoc hIN2 Hs40 hBr
                refine wp_region_grow [51, 52, 53, 54, 55, 56, 57, 58, 59, 60, 61, 62, 63, 64, 65, 66, 67, 68, 69, 70, 71, 72, 73, 74, 75, 76] [fun x _ => x = .pointer (some ⟨D, 0, none⟩), fun x _ => x = .slice (some ⟨D, 0, none⟩) 12 12, fun x _ => x = .string ⟨(J1).toArray⟩, fun x _ => x = .string ⟨(T1).toArray⟩, fun x _ => x = .pointer (some ⟨D, 12, none⟩), fun x _ => x = .slice (some ⟨D, 12, none⟩) 12 12, fun x _ => x = .string ⟨(J2).toArray⟩, fun x _ => x = .string ⟨(T2).toArray⟩, fun x _ => x = .string ⟨(T3).toArray⟩, fun x _ => x = .pointer (some ⟨D, 24, none⟩), fun x _ => x = .slice (some ⟨D, 24, none⟩) 7 7, fun x _ => x = .string ⟨(J3).toArray⟩, fun x _ => x = .string ⟨(T4).toArray⟩, fun x _ => x = .string ⟨(T5).toArray⟩, fun x _ => x = .pointer (some ⟨D, 31, none⟩), fun x _ => x = .slice (some ⟨D, 31, none⟩) 7 7, fun x _ => x = .string ⟨(J4).toArray⟩, fun x _ => x = .string ⟨(T6).toArray⟩, fun x _ => x = .string ⟨(T7).toArray⟩, fun x _ => x = .pointer (some ⟨D, 38, none⟩), fun x _ => x = .slice (some ⟨D, 38, none⟩) 2 2, fun x _ => x = .string ⟨(J5).toArray⟩, fun x _ => x = .string ⟨(T8).toArray⟩, SpR ws, fun x _ => x = .int .i64 (ws.length : Int), fun x _ => x = .int .i64 0] 0 (by kernel_rfl) (by kernel_rfl) (by kernel_rfl) (by kernel_rfl) ?_ ?_ ?_
                · intro Rl hRl
                  simp only [List.mem_cons, List.not_mem_nil, or_false] at hRl
                  rcases hRl with rfl | rfl | rfl | rfl | rfl | rfl | rfl | rfl | rfl | rfl | rfl | rfl | rfl | rfl | rfl | rfl | rfl | rfl | rfl | rfl | rfl | rfl | rfl | rfl | rfl | rfl
                  all_goals first
                    | exact fun _ _ _ h _ => h
                    | exact fun _ _ _ h hE => SpR.ext h hE
                · refine ⟨?_, ?_, ?_, ?_, ?_, ?_, ?_, ?_, ?_, ?_, ?_, ?_, ?_, ?_, ?_, ?_, ?_, ?_, ?_, ?_, ?_, ?_, ?_, ?_, ?_, ?_, trivial⟩
                  all_goals intro a w hE hF hD K hK
                  · exact gs_val rfl (yr_field rfl ((hF 6 (fr_of rfl)).trans rfl) (fa_0 D w)) (hK _ _ rfl (Ext.refl _))
                  · have u51 : a.eval (.tmp 51) = .pointer (some ⟨D, 0, none⟩) := hD 0 (by kernel_rfl)
                    exact gs_val rfl (yr_sla rfl u51 (sl33 D 0 w)) (hK _ _ rfl (Ext.refl _))
                  · have u52 : a.eval (.tmp 52) = .slice (some ⟨D, 0, none⟩) 12 12 := hD 1 (by kernel_rfl)
                    have q0 : a.eval (.tmp 52) = .slice (some ⟨D, 0, none⟩) 12 12 := u52
                    exact gs_call rfl (yr_call rfl rfl (show (#[Operand.tmp 52, Operand.const (.string ⟨[10].toArray⟩)] : Array Operand).map a.eval = #[.slice (some ⟨D, 0, none⟩) 12 12, .string ⟨[10].toArray⟩] by simp only [List.map_toArray, List.map_cons, List.map_nil, q0] <;> rfl) (by kernel_rfl)) ((HJ1.out w hE).mono fun e w' ⟨h1, h2⟩ => ⟨_, h1, rfl, h2⟩) hK
                  · have u53 : a.eval (.tmp 53) = .string ⟨(J1).toArray⟩ := hD 2 (by kernel_rfl)
                    exact gs_val rfl (yr_addt rfl u53 rfl (by omega) HT1.out) (hK _ _ rfl (Ext.refl _))
                  · exact gs_val rfl (yr_field rfl ((hF 6 (fr_of rfl)).trans rfl) (fa_1 D w)) (hK _ _ rfl (Ext.refl _))
                  · have u55 : a.eval (.tmp 55) = .pointer (some ⟨D, 12, none⟩) := hD 4 (by kernel_rfl)
                    exact gs_val rfl (yr_sla rfl u55 (sl33 D 12 w)) (hK _ _ rfl (Ext.refl _))
                  · have u56 : a.eval (.tmp 56) = .slice (some ⟨D, 12, none⟩) 12 12 := hD 5 (by kernel_rfl)
                    have q0 : a.eval (.tmp 56) = .slice (some ⟨D, 12, none⟩) 12 12 := u56
                    exact gs_call rfl (yr_call rfl rfl (show (#[Operand.tmp 56, Operand.const (.string ⟨[10].toArray⟩)] : Array Operand).map a.eval = #[.slice (some ⟨D, 12, none⟩) 12 12, .string ⟨[10].toArray⟩] by simp only [List.map_toArray, List.map_cons, List.map_nil, q0] <;> rfl) (by kernel_rfl)) ((HJ2.out w hE).mono fun e w' ⟨h1, h2⟩ => ⟨_, h1, rfl, h2⟩) hK
                  · have u54 : a.eval (.tmp 54) = .string ⟨(T1).toArray⟩ := hD 3 (by kernel_rfl)
                    have u57 : a.eval (.tmp 57) = .string ⟨(J2).toArray⟩ := hD 6 (by kernel_rfl)
                    exact gs_val rfl (yr_addt rfl u54 u57 (by omega) HT2.out) (hK _ _ rfl (Ext.refl _))
                  · have u58 : a.eval (.tmp 58) = .string ⟨(T2).toArray⟩ := hD 7 (by kernel_rfl)
                    exact gs_val rfl (yr_addt rfl u58 rfl (by omega) HT3.out) (hK _ _ rfl (Ext.refl _))
                  · exact gs_val rfl (yr_field rfl ((hF 6 (fr_of rfl)).trans rfl) (fa_2 D w)) (hK _ _ rfl (Ext.refl _))
                  · have u60 : a.eval (.tmp 60) = .pointer (some ⟨D, 24, none⟩) := hD 9 (by kernel_rfl)
                    exact gs_val rfl (yr_sla rfl u60 (sl34 D 24 w)) (hK _ _ rfl (Ext.refl _))
                  · have u61 : a.eval (.tmp 61) = .slice (some ⟨D, 24, none⟩) 7 7 := hD 10 (by kernel_rfl)
                    have q0 : a.eval (.tmp 61) = .slice (some ⟨D, 24, none⟩) 7 7 := u61
                    exact gs_call rfl (yr_call rfl rfl (show (#[Operand.tmp 61, Operand.const (.string ⟨[10].toArray⟩)] : Array Operand).map a.eval = #[.slice (some ⟨D, 24, none⟩) 7 7, .string ⟨[10].toArray⟩] by simp only [List.map_toArray, List.map_cons, List.map_nil, q0] <;> rfl) (by kernel_rfl)) ((HJ3.out w hE).mono fun e w' ⟨h1, h2⟩ => ⟨_, h1, rfl, h2⟩) hK
                  · have u59 : a.eval (.tmp 59) = .string ⟨(T3).toArray⟩ := hD 8 (by kernel_rfl)
                    have u62 : a.eval (.tmp 62) = .string ⟨(J3).toArray⟩ := hD 11 (by kernel_rfl)
                    exact gs_val rfl (yr_addt rfl u59 u62 (by omega) HT4.out) (hK _ _ rfl (Ext.refl _))
                  · have u63 : a.eval (.tmp 63) = .string ⟨(T4).toArray⟩ := hD 12 (by kernel_rfl)
                    exact gs_val rfl (yr_addt rfl u63 rfl (by omega) HT5.out) (hK _ _ rfl (Ext.refl _))
                  · exact gs_val rfl (yr_field rfl ((hF 6 (fr_of rfl)).trans rfl) (fa_3 D w)) (hK _ _ rfl (Ext.refl _))
                  · have u65 : a.eval (.tmp 65) = .pointer (some ⟨D, 31, none⟩) := hD 14 (by kernel_rfl)
                    exact gs_val rfl (yr_sla rfl u65 (sl34 D 31 w)) (hK _ _ rfl (Ext.refl _))
                  · have u66 : a.eval (.tmp 66) = .slice (some ⟨D, 31, none⟩) 7 7 := hD 15 (by kernel_rfl)
                    have q0 : a.eval (.tmp 66) = .slice (some ⟨D, 31, none⟩) 7 7 := u66
                    exact gs_call rfl (yr_call rfl rfl (show (#[Operand.tmp 66, Operand.const (.string ⟨[10].toArray⟩)] : Array Operand).map a.eval = #[.slice (some ⟨D, 31, none⟩) 7 7, .string ⟨[10].toArray⟩] by simp only [List.map_toArray, List.map_cons, List.map_nil, q0] <;> rfl) (by kernel_rfl)) ((HJ4.out w hE).mono fun e w' ⟨h1, h2⟩ => ⟨_, h1, rfl, h2⟩) hK
                  · have u64 : a.eval (.tmp 64) = .string ⟨(T5).toArray⟩ := hD 13 (by kernel_rfl)
                    have u67 : a.eval (.tmp 67) = .string ⟨(J4).toArray⟩ := hD 16 (by kernel_rfl)
                    exact gs_val rfl (yr_addt rfl u64 u67 (by omega) HT6.out) (hK _ _ rfl (Ext.refl _))
                  · have u68 : a.eval (.tmp 68) = .string ⟨(T6).toArray⟩ := hD 17 (by kernel_rfl)
                    exact gs_val rfl (yr_addt rfl u68 rfl (by omega) HT7.out) (hK _ _ rfl (Ext.refl _))
                  · exact gs_val rfl (yr_field rfl ((hF 6 (fr_of rfl)).trans rfl) (fa_4 D w)) (hK _ _ rfl (Ext.refl _))
                  · have u70 : a.eval (.tmp 70) = .pointer (some ⟨D, 38, none⟩) := hD 19 (by kernel_rfl)
                    exact gs_val rfl (yr_sla rfl u70 (sl35 D 38 w)) (hK _ _ rfl (Ext.refl _))
                  · have u71 : a.eval (.tmp 71) = .slice (some ⟨D, 38, none⟩) 2 2 := hD 20 (by kernel_rfl)
                    have q0 : a.eval (.tmp 71) = .slice (some ⟨D, 38, none⟩) 2 2 := u71
                    exact gs_call rfl (yr_call rfl rfl (show (#[Operand.tmp 71, Operand.const (.string ⟨[10].toArray⟩)] : Array Operand).map a.eval = #[.slice (some ⟨D, 38, none⟩) 2 2, .string ⟨[10].toArray⟩] by simp only [List.map_toArray, List.map_cons, List.map_nil, q0] <;> rfl) (by kernel_rfl)) ((HJ5.out w hE).mono fun e w' ⟨h1, h2⟩ => ⟨_, h1, rfl, h2⟩) hK
                  · have u69 : a.eval (.tmp 69) = .string ⟨(T7).toArray⟩ := hD 18 (by kernel_rfl)
                    have u72 : a.eval (.tmp 72) = .string ⟨(J5).toArray⟩ := hD 21 (by kernel_rfl)
                    exact gs_val rfl (yr_addt rfl u69 u72 (by omega) HT8.out) (hK _ _ rfl (Ext.refl _))
                  · have u73 : a.eval (.tmp 73) = .string ⟨(T8).toArray⟩ := hD 22 (by kernel_rfl)
                    have q0 : a.eval (.tmp 73) = .string ⟨(T8).toArray⟩ := u73
                    exact gs_call rfl (yr_call rfl rfl (show (#[Operand.tmp 73, Operand.const (.string ⟨[10].toArray⟩)] : Array Operand).map a.eval = #[.string ⟨(T8).toArray⟩, .string ⟨[10].toArray⟩] by simp only [List.map_toArray, List.map_cons, List.map_nil, q0] <;> rfl) (by kernel_rfl)) (HSp.out w hE) hK
                  · have u74 := hD 23 (by kernel_rfl)
                    exact gs_val rfl (yr_lenR (ws := ws) rfl rfl Tryz.underlying50 u74) (hK _ _ rfl (Ext.refl _))
                  · exact gs_val rfl (yr_move rfl rfl) (hK _ _ rfl (Ext.refl _))
                intro vals wz hEz hRz
                obtain ⟨-, -, -, -, -, -, -, -, -, -, -, -, -, -, -, -, -, -, -, -, -, -, -, h23, h24, h25, -⟩ := hRz
                obtain ⟨g, cg, e74, hg1, hg2, hg3⟩ := h23
                have e75 : vals 24 = .int .i64 (ws.length : Int) := h24
                have e76 : vals 25 = .int .i64 0 := h25
                refine wpAny_done (by kernel_rfl) ?_ _
                simp only [putF, Act.put, List.length_cons, List.length_nil, List.getD_cons_zero, List.getD_cons_succ, List.setIfInBounds_toArray, List.set_cons_zero, List.set_cons_succ, Nat.reduceAdd, e74, e75, e76]
                clear e74 e75 e76
                have hgl := hg1.1
                unfold maxLen at hg3
                have HG := Lib.hid hg1.2
                have g1z := (hEz.cells B 41 hBV).trans g1V
                have g2z := (hEz.cells B 42 hBV).trans g2V
                have hBz := hEz.lt hBV
                have HPz := Lib.hid (HPV.out.ext hEz)
                have HOz := Lib.hid (HOV.out.ext hEz)
                have HEz := Lib.hid (HEV.out.trans hEz)
                have HSh : Hid (plLong L.P = false → plLong L.O = false → shL L) := fun h1 h2 => ⟨plLong_shP h1, plLong_shP h2, HSU.out, by omega, by omega⟩
                clear hg1 hEz g1V g2V hBV hzs
                go_wp2_with fail
                go_loopw [76] (fun i wt => ∃ j : Nat, j ≤ ws.length ∧ i = .int .i64 (j : Int) ∧ wz = wt) (fun i _ => ws.length - (intOf i).toNat)
                case atStart => exact ⟨0, Nat.zero_le _, rfl, rfl⟩
                case round =>
                  obtain ⟨j, hj, rfl, rfl⟩ := hrel
                  by_cases hlt : j < ws.length
                  · have c0 := HG.out j hlt
                    rw [Nat.zero_add] at c0
                    have hxl := HWl.out ws[j] (List.getElem_mem _)
                    obtain ⟨x, hx⟩ : ∃ x, x = ws[j] := ⟨_, rfl⟩
                    rw [← hx] at c0 hxl
                    clear hx
                    by_cases q6 : 300 < x.length
                    · have d6 : decide ((300 : Int) < (x.length : Int)) = true := decide_eq_true (by omega)
                      go_wp2_with fail
                      go_ret
                      exact ⟨false, rfl, (fun h => by cases h), HEz.out⟩
                    · have d6 : decide ((300 : Int) < (x.length : Int)) = false := decide_eq_false (by omega)
                      go_wp2_with fail
                      go_roundw
                      case rel => exact ⟨j + 1, by omega, by go_num, by trivial⟩
                      case measure => simp [intOf]; omega
                  · obtain rfl : j = ws.length := by omega
                    rcases Bool.eq_false_or_eq_true (plLong L.P) with hq | hq
                    · have Hq := Lib.hid hq
                      clear hq
                      go_wp2_with (first
                        | (go_at_call 25; (with_reducible refine (long1_c L.P L.pa L.pc true _ HPz.out Hb1.out Hq.out).mono ?_); rintro e w1 ⟨rfl, hE1⟩))
                      go_ret
                      exact ⟨false, rfl, (fun h => by cases h), HEz.out.trans hE1⟩
                    · have Hq := Lib.hid hq
                      clear hq
                      rcases Bool.eq_false_or_eq_true (plLong L.O) with hr | hr
                      · have Hr := Lib.hid hr
                        clear hr
                        go_wp2_with (first
                          | (go_at_call 25; (with_reducible refine (long1_c L.P L.pa L.pc false _ HPz.out Hb1.out Hq.out).mono ?_); rintro e w1 ⟨rfl, hE1⟩; have g2y := (hE1.cells B 42 hBz).trans g2z; have hBy := hE1.lt hBz)
                          | (go_at_call 25; (with_reducible refine (long1_c L.O L.oa L.oc true _ (HOz.out.ext hE1) Hb2.out Hr.out).mono ?_); rintro e w2 ⟨rfl, hE2⟩))
                        go_ret
                        exact ⟨false, rfl, (fun h => by cases h), HEz.out.trans (hE1.trans hE2)⟩
                      · have Hr := Lib.hid hr
                        clear hr
                        go_wp2_with (first
                          | (go_at_call 25; (with_reducible refine (long1_c L.P L.pa L.pc false _ HPz.out Hb1.out Hq.out).mono ?_); rintro e w1 ⟨rfl, hE1⟩; have g2y := (hE1.cells B 42 hBz).trans g2z; have hBy := hE1.lt hBz)
                          | (go_at_call 25; (with_reducible refine (long1_c L.O L.oa L.oc false _ (HOz.out.ext hE1) Hb2.out Hr.out).mono ?_); rintro e w2 ⟨rfl, hE2⟩))
                        go_ret
                        exact ⟨true, rfl, (fun _ => HSh.out Hq.out Hr.out), HEz.out.trans (hE1.trans hE2)⟩
end Go.Proofs.YtlmoibmmjonjoaaGreatDoor
/- Locales: the walks that seek the unit of a relative time. -/
namespace Go.Proofs.YtlmoibmmjonjoaaGreatDoor
set_option linter.unusedVariables false
set_option linter.unusedSimpArgs false
open Go.RowKit

theorem uIx_hit {U : List Uni} {d j : Nat} (hj : j < U.length) (h : U[j].s ≤ (d : Int)) (ha : ∀ i (hi : i < U.length), i < j → (d : Int) < U[i].s) : uIx U d = j := by
  unfold uIx
  rw [List.findIdx_eq hj]
  exact ⟨by simpa using h, fun i hi => by simpa using Int.not_le.2 (ha i (by omega) hi)⟩
theorem uIx_lt {P : List Plu} {U : List Uni} {d : Nat} (h : UF P U) (hd : 1 ≤ d) : uIx U d < U.length := by
  unfold uIx
  rw [List.findIdx_lt_length]
  have h1 := h.one
  exact ⟨U[U.length - 1]'(by omega), List.getElem_mem _, by have := h.last; simp; omega⟩
theorem uIx_at {U : List Uni} {d m : Nat} (h : uIx U d = m) (hm : m < U.length) : U[m].s ≤ (d : Int) := by
  unfold uIx at h
  subst h
  have := List.findIdx_getElem (p := fun u : Uni => decide (u.s ≤ (d : Int))) (xs := U) (w := hm)
  simpa using this
set_option maxRecDepth 100000 in
theorem in_c (t : Int) (b : Bool) (w : World) (h : tmB t = b) : Calls Tryz.prog 50 #[.int .i64 t] w fun e w' => e = .returned (.bool b) ∧ w = w' := by
  unfold tmB at h
  have Hb := Lib.hid h
  clear h
  by_cases a : -62135596800 ≤ t
  · by_cases c : t ≤ 253402300800
    all_goals
      go_enter Tryz.func50, Tryz.ntmps50
      go_wp2_with fail
      go_ret
      exact ⟨ret_b (by rw [← Hb.out]; simp [a, c]), rfl⟩
  · have a1 : decide (-62135596800 ≤ t) = false := by simpa using a
    go_enter Tryz.func50, Tryz.ntmps50
    go_wp2_with fail
    go_ret
    exact ⟨ret_b (by rw [← Hb.out]; symm; rw [decide_eq_false_iff_not]; omega), rfl⟩
set_option maxRecDepth 100000 in
theorem rel2_c (us : Int) (x : Value) (d : Int) (D : Nat) (b : Bool) (w : World) (hD : w.cell? ⟨D, 0, none⟩ = some (.int .i64 d)) (hDl : D < w.heap.size) (hb : decide (us ≤ d) = b) :
    Calls Tryz.prog 52 #[.agg #[.int .i64 us, x], .pointer (some ⟨D, 0, none⟩)] w fun e w' => e = .returned (.bool b) ∧ Ext w w' := by
  have hE : Ext w (w.alloc (.cells #[.int .i64 us, x] 59)) := (Ext.refl w).alloc _
  have hD2 := (hE.cells D 0 hDl).trans hD
  go_enter Tryz.func52, Tryz.ntmps52
  go_wp2_with fail
  go_ret
  exact ⟨rfl, hE⟩
set_option maxRecDepth 100000 in
set_option maxHeartbeats 1000000 in
theorem idxU_c (U : List Uni) (ao : Option Addr) (cap D d m : Nat) (w : World) (hl : UnV ao cap U w) (hD : w.cell? ⟨D, 0, none⟩ = some (.int .i64 (d : Int))) (hDl : D < w.heap.size) (hm : uIx U d = m) (hml : m < U.length) :
    Calls Tryz.prog 51 #[.slice ao U.length cap, .func (.func 52) #[] #[.pointer (some ⟨D, 0, none⟩)]] w fun e w' => e = .returned (.int .i64 (m : Int)) ∧ Ext w w' := by
  have hlen := hl.1
  have hcap := hl.2.1
  unfold maxLen at hcap
  have HD := Lib.hid hD
  have HM := Lib.hid hm
  obtain ⟨R, off, rfl, hR0, hcu⟩ := hl.2.2.1 (by rintro rfl; simp at hml)
  have HC := Lib.hid hcu
  clear hl hD hm hcu
  go_enter Tryz.func51, Tryz.ntmps51
  go_wp2_with fail
  go_loopw [8] (fun i wr => ∃ j : Nat, j ≤ U.length ∧ i = .int .i64 (j : Int) ∧ Hid (∀ i (hi : i < U.length), i < j → (d : Int) < U[i].s) ∧ Ext w wr) (fun i _ => U.length - (intOf i).toNat)
  case atStart => exact ⟨0, Nat.zero_le _, rfl, fun i _ hi => absurd hi (Nat.not_lt_zero i), Ext.refl _⟩
  case round =>
    obtain ⟨j, hj, rfl, Hall, hE⟩ := hrel
    by_cases hlt : j < U.length
    · obtain ⟨c0, c1⟩ := HC.out j hlt
      replace c0 := (hE.cells _ _ hR0).trans c0
      replace c1 := (hE.cells _ _ hR0).trans c1
      have hRr := hE.lt hR0
      have HDr : Hid (wr.cell? ⟨D, 0, none⟩ = some (.int .i64 (d : Int))) := (hE.cells _ _ hDl).trans HD.out
      have hDr := hE.lt hDl
      have HH : Hid (U[j].s ≤ (d : Int) → m = j) := fun q => by rw [← HM.out]; exact uIx_hit hlt q Hall.out
      have HY : Hid ((d : Int) < U[j].s → ∀ i (hi : i < U.length), i < j + 1 → (d : Int) < U[i].s) := fun q i hi hij => by
        by_cases e : i = j
        · subst e; exact q
        · exact Hall.out i hi (by omega)
      obtain ⟨u, hu⟩ : ∃ u, u = U[j] := ⟨_, rfl⟩
      rw [← hu] at c0 c1 HH HY
      clear hu
      obtain ⟨us, uao, ucap, uf⟩ := u
      simp only at c0 c1 HH HY
      by_cases hq : us ≤ (d : Int)
      · have HF := Lib.hid (HH.out hq)
        have Hq : Hid (decide (us ≤ (d : Int)) = true) := decide_eq_true hq
        clear hq
        go_wp2_with (first
          | (go_at_call 52; (with_reducible refine (rel2_c us _ (d : Int) D true _ HDr.out hDr Hq.out).mono ?_); rintro e w1 ⟨rfl, hE1⟩))
        go_ret
        exact ⟨by rw [HF.out]; rfl, hE.trans hE1⟩
      · have HS := Lib.hid (HY.out (Int.not_le.1 hq))
        have Hq : Hid (decide (us ≤ (d : Int)) = false) := decide_eq_false hq
        clear hq
        go_wp2_with (first
          | (go_at_call 52; (with_reducible refine (rel2_c us _ (d : Int) D false _ HDr.out hDr Hq.out).mono ?_); rintro e w1 ⟨rfl, hE1⟩))
        go_roundw
        case rel => exact ⟨j + 1, by omega, by go_num, HS, hE.trans hE1⟩
        case measure => simp [intOf]; omega
    · obtain rfl : j = U.length := by omega
      have := uIx_at HM.out hml
      exact absurd this (Int.not_le.2 (Hall.out m hml hml))
end Go.Proofs.YtlmoibmmjonjoaaGreatDoor
/- Locales: the walk of the reference's Plural. -/
namespace Go.Proofs.YtlmoibmmjonjoaaGreatDoor
set_option linter.unusedVariables false
set_option linter.unusedSimpArgs false
open Go.RowKit

set_option maxRecDepth 100000 in
set_option maxHeartbeats 2000000 in
theorem rplural_c (L : Loc) (n : Int) (w : World) (h : LcV L w) (hs : shL L) (hNl : ∀ s ∈ L.N.all, s.length ≤ 2000000) :
    Calls Tryz.prog 10 #[.agg L.vals.toArray, .int .i64 n] w fun e w' => e = .returned (.tuple #[.string ⟨(plV L n).toArray⟩, .int .i64 (plE L n : Int)]) ∧ Ext w w' := by
  have hIL := loc_size h.1
  have hE0 : Ext w (w.alloc (.cells L.vals.toArray 30)) := (Ext.refl w).alloc _
  have hB := LcB.new L w 30
  have hV := h.ext hE0
  obtain ⟨g0, g1, g2, g3, g4⟩ := hB.cells h.1
  have HV := Lib.hid hV
  have HBk := Lib.hid hB
  have HVp := Lib.hid hV.2.1
  have HE0 := Lib.hid hE0
  have HNl := Lib.hid hNl
  have Hs := Lib.hid hs
  have Hs1 := Lib.hid hs.1
  have hR := hB.2
  clear hs hNl h hE0 hB hV g0 g2 g3 g4
  rcases Bool.eq_false_or_eq_true (validLB L) with hv | hv
  · have HVl := Lib.hid hv
    obtain ⟨hr, -⟩ := valid_P hv
    obtain ⟨k1, k2⟩ := ruled_ok hr
    have HK := Lib.hid k2
    rcases Bool.eq_false_or_eq_true (inrB n) with hi | hi
    · have hq0 : plE L n = 0 := by simp [plE, hv, hi]
      have HE : Hid (plE L n = 0) := hq0
      obtain ⟨m, hm⟩ : ∃ m, fstI n.natAbs L.P = m := ⟨_, rfl⟩
      have hml : m < L.P.length := by rw [← hm]; exact fstI_lt k1
      have HP : Hid (plV L n = (L.P[m]).c) := by
        rw [Hid]; unfold plV; rw [if_pos hq0, hm, List.getElem?_eq_getElem hml]; rfl
      have HI := Lib.hid hi
      have HM := Lib.hid hm
      obtain ⟨n1, n2⟩ : -4611686018427387904 ≤ n ∧ n ≤ 4611686018427387904 := of_decide_eq_true hi
      have HNn : Hid (((n.natAbs : Nat) : Int) ≤ 4611686018427387904) := by rw [Hid]; omega
      obtain ⟨hp1, hp2, hp3⟩ := HVp.out
      unfold maxLen at hp2
      obtain ⟨R, off, hpa, hR0, hc⟩ := hp3 (by rintro e; rw [e] at hml; simp at hml)
      obtain ⟨c0, -⟩ := hc m hml
      have HPA := Lib.hid hpa
      rw [hpa] at g1
      rw [hpa] at HVp
      clear hpa hc hp3 k2 hv hi hq0 hm hr
      have hm0 : (0 : Int) ≤ (m : Int) := by omega
      have hm1 : (m : Int) < (L.P.length : Int) := by omega
      obtain ⟨pc, hpc⟩ : ∃ c, c = (L.P[m]).c := ⟨_, rfl⟩
      rw [← hpc] at c0 HP
      clear hpc
      go_enter Tryz.func10, Tryz.ntmps10
      go_upto_region 1 with fail
      generalize w.alloc (.cells L.vals.toArray 30) = W0 at *
      generalize w.heap.size = B at *
      go_upto_region 5 with (first
        | (refine load_midg (by rfl) 30 _ rfl B 0 rfl L.vals _ hR Tryz.underlying30 rfl hIL ?_)
        | (go_at_call 29; (with_reducible refine (rvalid_c L true _ HV.out Hs.out HNl.out HVl.out).mono ?_); rintro e w1 ⟨rfl, hE1⟩; have f1 := (hE1.cells B 41 HBk.out.1).trans g1; have d0 := (hE1.cells R _ hR0).trans c0; have hX := hE1; have hRr := hE1.lt hR0; have hBr := hE1.lt HBk.out.1; clear hE1))
      go_region_with (first
        | (go_at_call 31; (with_reducible refine (abs_c n _ n1 n2).mono ?_); rintro e w2 ⟨rfl, rfl⟩)
        | (go_at_call 30; (with_reducible refine (rfirst_c L.P _ L.pc n.natAbs m _ (HVp.out.ext (by (repeat (with_reducible (first | assumption | exact Ext.refl _ | refine Ext.alloc ?_ _ | refine Ext.drewN ?_ _ | refine Ext.drew ?_))))) Hs1.out k1 HNn.out HM.out).mono ?_); rintro e w3 ⟨rfl, hE3⟩; have hY := Ext.trans (show Ext W0 _ from (by (repeat (with_reducible (first | assumption | exact Ext.refl _ | refine Ext.alloc ?_ _ | refine Ext.drewN ?_ _ | refine Ext.drew ?_))))) hE3; have d1 := (hY.cells R _ hR0).trans c0; have f3 := (hY.cells B 41 HBk.out.1).trans g1; have hBy := hY.lt HBk.out.1; have hRy := hY.lt hR0; clear hE3))
      all_goals
        go_wp2_with fail
        go_ret2
        exact ⟨by rw [HP.out, HE.out]; rfl, HE0.out.trans (by (repeat (with_reducible (first | assumption | exact Ext.refl _ | refine Ext.alloc ?_ _ | refine Ext.drewN ?_ _ | refine Ext.drew ?_))))⟩
    · have hq0 : plE L n = 2 := by simp [plE, hv, hi]
      have HE : Hid (plE L n = 2) := hq0
      have HP : Hid (plV L n = []) := by rw [Hid]; unfold plV; rw [hq0]; rfl
      have h3 : ¬ (-4611686018427387904 ≤ n ∧ n ≤ 4611686018427387904) := of_decide_eq_false hi
      clear hv hi hq0
      by_cases q : n < -4611686018427387904
      · clear h3
        go_enter Tryz.func10, Tryz.ntmps10
        go_upto_region 1 with fail
        generalize w.alloc (.cells L.vals.toArray 30) = W0 at *
        generalize w.heap.size = B at *
        go_wp2_with (first
          | (refine load_midg (by rfl) 30 _ rfl B 0 rfl L.vals _ hR Tryz.underlying30 rfl hIL ?_)
          | (go_at_call 29; (with_reducible refine (rvalid_c L true _ HV.out Hs.out HNl.out HVl.out).mono ?_); rintro e w1 ⟨rfl, hE1⟩))
        go_ret2
        exact ⟨by rw [HP.out, HE.out]; rfl, HE0.out.trans hE1⟩
      · have q2 : 4611686018427387904 < n := by omega
        clear h3
        go_enter Tryz.func10, Tryz.ntmps10
        go_upto_region 1 with fail
        generalize w.alloc (.cells L.vals.toArray 30) = W0 at *
        generalize w.heap.size = B at *
        go_wp2_with (first
          | (refine load_midg (by rfl) 30 _ rfl B 0 rfl L.vals _ hR Tryz.underlying30 rfl hIL ?_)
          | (go_at_call 29; (with_reducible refine (rvalid_c L true _ HV.out Hs.out HNl.out HVl.out).mono ?_); rintro e w1 ⟨rfl, hE1⟩))
        go_ret2
        exact ⟨by rw [HP.out, HE.out]; rfl, HE0.out.trans hE1⟩
  · have hq0 : plE L n = 1 := by simp [plE, hv]
    have HE : Hid (plE L n = 1) := hq0
    have HP : Hid (plV L n = []) := by rw [Hid]; unfold plV; rw [hq0]; rfl
    have HVl := Lib.hid hv
    clear hv hq0
    go_enter Tryz.func10, Tryz.ntmps10
    go_upto_region 1 with fail
    generalize w.alloc (.cells L.vals.toArray 30) = W0 at *
    generalize w.heap.size = B at *
    go_wp2_with (first
      | (refine load_midg (by rfl) 30 _ rfl B 0 rfl L.vals _ hR Tryz.underlying30 rfl hIL ?_)
      | (go_at_call 29; (with_reducible refine (rvalid_c L false _ HV.out Hs.out HNl.out HVl.out).mono ?_); rintro e w1 ⟨rfl, hE1⟩))
    go_ret2
    exact ⟨by rw [HP.out, HE.out]; rfl, HE0.out.trans hE1⟩
end Go.Proofs.YtlmoibmmjonjoaaGreatDoor
/- Locales: the walk of the reference's decimal. -/
namespace Go.Proofs.YtlmoibmmjonjoaaGreatDoor
set_option linter.unusedVariables false
set_option linter.unusedSimpArgs false
open Go.RowKit

theorem rdec_c (v : Nat) (X : List UInt8) (w : World) (hv : (v : Int) ≤ 4611686018427387904) (h : itx v 1 = X) :
    Calls Tryz.prog 32 #[.int .i64 (v : Int)] w fun e w' => e = .returned (.string ⟨X.toArray⟩) ∧ Ext w w' := by
  have HT : Hid (Calls Tryz.prog 67 #[.int .i64 (v : Int), .int .i64 1] w fun e w' => e = .returned (.string ⟨X.toArray⟩) ∧ Ext w w') := rtext_c v 1 X w hv (by omega) h
  clear h
  go_enter Tryz.func32, Tryz.ntmps32
  go_wp2_with (first
    | (go_at_call 67; (with_reducible refine HT.out.mono ?_); rintro e w1 ⟨rfl, hE1⟩))
  go_ret
  exact ⟨rfl, hE1⟩
end Go.Proofs.YtlmoibmmjonjoaaGreatDoor
