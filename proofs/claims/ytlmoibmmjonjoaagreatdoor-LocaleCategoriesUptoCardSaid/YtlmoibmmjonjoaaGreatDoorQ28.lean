/- Locales: the walk of the law LocaleCategories. -/
import Derived.Test.YtlmoibmmjonjoaaGreatDoorQ27
import Derived.Test.YtlmoibmmjonjoaaGreatDoorQ19
import Derived.Test.YtlmoibmmjonjoaaGreatDoorQ00
import Derived.Test.YtlmoibmmjonjoaaGreatDoorQ05
import Derived.Lib.Split
import Derived.Lib.IndexMore
namespace Go.Proofs.YtlmoibmmjonjoaaGreatDoor
set_option linter.unusedVariables false
set_option linter.unusedSimpArgs false
open Go.RowKit

theorem fstI_before {N : Nat} {l : List Plu} {m j : Nat} (h : fstI N l = m) (hj : j < m) (hl : j < l.length) : hitB N (l[j]).r = false := by
  unfold fstI at h
  have hj2 : j < l.dropLast.findIdx (fun p => hitB N p.r) := by rw [h]; exact hj
  have := List.not_of_lt_findIdx hj2
  rw [List.getElem_dropLast] at this
  simpa using this
theorem fstI_at {N : Nat} {l : List Plu} {m : Nat} (h : fstI N l = m) (hm : m + 1 < l.length) : hitB N (l[m]'(by omega)).r = true := by
  unfold fstI at h
  have hl : m < l.dropLast.length := by rw [List.length_dropLast]; omega
  subst h
  have := List.findIdx_getElem (p := fun p : Plu => hitB N p.r) (xs := l.dropLast) (w := hl)
  rw [List.getElem_dropLast] at this
  exact this
theorem holdsh_c (r : List UInt8) (N : Nat) (b : Bool) (w : World) (hN : (N : Int) ≤ 4611686018427387904) (hm : Lm w) (hs : r.length ≤ 4000) (ho : okR r = true) (hb : hitB N r = b) :
    Calls Tryz.prog 17 #[.string ⟨r.toArray⟩, .int .i64 (N : Int)] w fun e w' => e = .returned (.tuple #[.bool b, .int .i64 0]) ∧ Ext w w' := by
  have h := holds_c r (N : Int) w hm hs
  have e1 : hoE r (N : Int) = 0 := by unfold hoE inrB; simp [ho]; omega
  have e2 : hoV r (N : Int) = b := by unfold hoV; rw [if_pos e1, ← hb]; unfold hitB; rw [ho]; rfl
  rw [e1, e2] at h
  exact h
set_option maxRecDepth 100000 in
set_option maxHeartbeats 1000000 in
theorem one_c (l : List Plu) (ao : Option Addr) (cap N m D : Nat) (want : List UInt8) (w : World) (h : PlV ao cap l w) (hs : shP l) (h1 : 1 ≤ l.length) (ho : ∀ i (hi : i < l.length), i + 1 < l.length → okR (l[i]).r = true) (hN : (N : Int) ≤ 4611686018427387904) (hL : Lm w) (hm : fstI N l = m)
    (hD : w.cell? ⟨D, 0, none⟩ = some (.int .i64 (N : Int))) (hDl : D < w.heap.size) (hml : m < l.length) (hw : (l[m]).c = want) :
    Calls Tryz.prog 16 #[.slice ao l.length cap, .string ⟨want.toArray⟩, .pointer (some ⟨D, 0, none⟩)] w fun e w' => e = .returned (.bool true) ∧ Ext w w' := by
  have hlen := h.1
  have hcap := h.2.1
  unfold maxLen at hcap
  obtain ⟨R, off, rfl, hR0, hc⟩ := h.2.2 (by rintro rfl; simp at h1)
  have HC := Lib.hid hc
  have Hs := Lib.hid hs
  have HM := Lib.hid hm
  have HL := Lib.hid hL
  have HO := Lib.hid ho
  have HW := Lib.hid hw
  have HD := Lib.hid hD
  clear h hs hc hm hL ho hw hD
  go_enter Tryz.func16, Tryz.ntmps16
  go_wp2_with fail
  go_loopw [12] (fun i wr => ∃ j : Nat, j ≤ m ∧ i = .int .i64 (j : Int) ∧ Ext w wr) (fun i _ => m - (intOf i).toNat)
  case atStart => exact ⟨0, Nat.zero_le _, rfl, Ext.refl _⟩
  case round =>
    obtain ⟨j, hj, rfl, hE⟩ := hrel
    have hjl : j < l.length := by omega
    obtain ⟨c0, c1⟩ := HC.out j hjl
    replace c0 := (hE.cells R _ hR0).trans c0
    replace c1 := (hE.cells R _ hR0).trans c1
    have hRr := hE.lt hR0
    have dD := (hE.cells D 0 hDl).trans HD.out
    have hDr := hE.lt hDl
    have hsz := (Hs.out l[j] (List.getElem_mem _)).2
    have hszc := (Hs.out l[j] (List.getElem_mem _)).1
    have HB := Lib.hid (fun q : j < m => fstI_before HM.out q hjl)
    have HA : Hid (∀ (q : j + 1 < l.length), j = m → hitB N (l[j]).r = true) := fun q e => by subst e; exact fstI_at HM.out q
    have HOk := Lib.hid (HO.out j hjl)
    have HWj : Hid (j = m → (l[j]).c = want) := fun e => by subst e; exact HW.out
    obtain ⟨p, hp⟩ : ∃ p, p = l[j] := ⟨_, rfl⟩
    rw [← hp] at c0 c1 hsz hszc HB HA HOk HWj
    clear hp
    obtain ⟨pc, pr⟩ := p
    simp only at c0 c1 hsz hszc HB HA HOk HWj
    have hji : IntKind.i64.wrap ((l.length : Int) - 1) = (l.length : Int) - 1 := IntWalk.i64_in _ (by omega)
    have HLV := Lib.hid (HL.out.ext hE)
    by_cases hlast : j + 1 = l.length
    · have hjm : j = m := by omega
      have t1 : ((j : Int) == (l.length : Int) - 1) = true := by rw [beq_iff_eq]; omega
      have s1 : (pc == want) = true := by simpa using HWj.out hjm
      clear hlast hjm
      go_wp2_with fail
      go_ret
      exact ⟨rfl, hE.trans ((Ext.refl wr).alloc _)⟩
    · have hlt : j + 1 < l.length := by omega
      have t1 : ((j : Int) == (l.length : Int) - 1) = false := by rw [beq_eq_false_iff_ne]; omega
      have HOj := Lib.hid (HOk.out hlt)
      by_cases hjm : j = m
      · have HT := Lib.hid (HA.out hlt hjm)
        have s1 : (pc == want) = true := by simpa using HWj.out hjm
        clear hlast hjm HB HA HWj HOk
        go_wp2_with (first
          | (go_at_call 17; (with_reducible refine (holdsh_c pr N true _ hN (HLV.out.ext (by (repeat (with_reducible (first | assumption | exact Ext.refl _ | refine Ext.alloc ?_ _ | refine Ext.drewN ?_ _ | refine Ext.drew ?_))))) hsz HOj.out HT.out).mono ?_); rintro e w1 ⟨rfl, hE1⟩; have hX := Ext.trans (show Ext wr _ from (by (repeat (with_reducible (first | assumption | exact Ext.refl _ | refine Ext.alloc ?_ _ | refine Ext.drewN ?_ _ | refine Ext.drew ?_))))) hE1; have y0 := (hE1.cells wr.heap.size 0 (by simp)).trans (show (wr.alloc (.cells #[.string ⟨pc.toArray⟩, .string ⟨pr.toArray⟩] 43)).cell? ⟨wr.heap.size, 0, none⟩ = some (.string ⟨pc.toArray⟩) by rw [World.cell?_alloc_new]; rfl); have yz := hE1.size; clear hE1))
        go_ret
        exact ⟨rfl, hE.trans hX⟩
      · have HT := Lib.hid (HB.out (by omega))
        have hj2 : j < m := by omega
        clear hlast hjm HB HA HWj HOk
        go_wp2_with (first
          | (go_at_call 17; (with_reducible refine (holdsh_c pr N false _ hN (HLV.out.ext (by (repeat (with_reducible (first | assumption | exact Ext.refl _ | refine Ext.alloc ?_ _ | refine Ext.drewN ?_ _ | refine Ext.drew ?_))))) hsz HOj.out HT.out).mono ?_); rintro e w1 ⟨rfl, hE1⟩; have hX := Ext.trans (show Ext wr _ from (by (repeat (with_reducible (first | assumption | exact Ext.refl _ | refine Ext.alloc ?_ _ | refine Ext.drewN ?_ _ | refine Ext.drew ?_))))) hE1; clear hE1))
        go_roundw
        case rel => exact ⟨j + 1, by omega, by go_num, hE.trans hX⟩
        case measure => simp [intOf]; omega
theorem cutp_c (p r : List UInt8) (w : World) : Calls Tryz.prog 14 #[.string ⟨(p ++ r).toArray⟩, .string ⟨p.toArray⟩] w fun e w' => e = .returned (.tuple #[.string ⟨r.toArray⟩, .bool true]) ∧ w = w' := by
  refine (Tryz.strings_CutPrefix ⟨(p ++ r).toArray⟩ ⟨p.toArray⟩ w).mono ?_
  rintro e w' ⟨rfl, rfl⟩
  refine ⟨?_, rfl⟩
  have h1 : (⟨(p ++ r).toArray⟩ : ByteArray).data.toList = p ++ r := by simp
  have h2 : (⟨p.toArray⟩ : ByteArray).data.toList = p := by simp
  rw [h1, h2]
  have h3 : Lib.hasPrefix (p ++ r) p = true := by unfold Lib.hasPrefix; simp
  have h4 : Lib.trimPrefix (p ++ r) p = r := by unfold Lib.trimPrefix; unfold Lib.hasPrefix at *; simp
  rw [h3, h4]
set_option maxRecDepth 100000 in
set_option maxHeartbeats 4000000 in
theorem lcats_walk (L : Loc) (n : Int) (w : World) (h : LcV L w) (hb : bgL L) (hm : Lm w) (ht : TabW w) (hNl : ∀ s ∈ L.N.all, s.length ≤ 2000000) :
    Calls Tryz.prog 4 #[.agg L.vals.toArray, .int .i64 n] w fun e w' => e = .returned (.bool true) ∧ Ext w w' := by
  rcases Bool.eq_false_or_eq_true (validLB L) with hv | hv
  · by_cases q1 : n < 0
    · have d1 : decide (n < 0) = true := decide_eq_true q1
      have HVl := Lib.hid hv
      have hIL := loc_size h.1
      obtain ⟨W0, hW0⟩ : ∃ W0, W0 = (w.alloc (.cells L.vals.toArray 30)).alloc (.cells #[.int .i64 n] 3) := ⟨_, rfl⟩
      have hEa : Ext w (w.alloc (.cells L.vals.toArray 30)) := (Ext.refl w).alloc _
      have hEb : Ext (w.alloc (.cells L.vals.toArray 30)) W0 := by rw [hW0]; exact (Ext.refl _).alloc _
      have hB := (LcB.new L w 30).ext hEb
      obtain ⟨-, g1, g2, -, -⟩ := hB.cells h.1
      have hR := hB.2
      have HzB := Lib.hid hB.1
      have HE0 := Lib.hid (hEa.trans hEb)
      have dD : W0.cell? ⟨w.heap.size + 1, 0, none⟩ = some (.int .i64 n) := by
        rw [hW0]
        have e : (w.alloc (.cells L.vals.toArray 30)).heap.size = w.heap.size + 1 := by simp
        rw [← e, World.cell?_alloc_new]; rfl
      have HzD : Hid (w.heap.size + 1 < W0.heap.size) := by rw [Hid, hW0]; simp
      have HAw : Hid (∀ w', Ext w w' → Calls Tryz.prog 7 #[] w' fun e w'' => e = .returned (.bool true) ∧ Ext w' w'') := fun w' hE => awake55_c w' (hm.ext hE)
      have HFw : Hid (∀ w', Ext w w' → Calls Tryz.prog 8 #[.agg L.vals.toArray] w' (fun e w'' => ∃ b : Bool, e = .returned (.bool b) ∧ (b = true → shL L) ∧ Ext w' w'')) := fun w' hE => few_c L w' (h.ext hE) hb (hm.ext hE) hNl
      have HW0 := Lib.hid hW0
      clear hW0 hEa hEb hB
      have HVa : Hid (∀ w', shL L → Ext w w' → Calls Tryz.prog 13 #[.agg L.vals.toArray] w' fun e w'' => e = .returned (.bool true) ∧ Ext w' w'') := fun w' hs hE => valid_c L true w' (h.ext hE) hs (hm.ext hE) hNl HVl.out
      clear h hb hm ht hNl hv
      go_enter Tryz.func4, Tryz.ntmps4
      go_upto_region 1 with fail
      rw [← HW0.out]
      clear HW0
      generalize w.heap.size + 1 = D at *
      generalize w.heap.size = B at *
      go_wp2_with (first
        | (go_at_call 7; (with_reducible refine (HAw.out _ HE0.out).mono ?_); rintro e w1 ⟨rfl, hE1⟩; have hR1 := rng_ext hR HzB.out hE1; have dD1 := (hE1.cells D 0 HzD.out).trans dD; have hB1 := hE1.lt HzB.out; have hD1 := hE1.lt HzD.out)
        | (refine load_midg (by rfl) 30 _ rfl B 0 rfl L.vals _ hR1 Tryz.underlying30 rfl hIL ?_)
        | (go_at_call 8; (with_reducible refine (HFw.out _ (HE0.out.trans hE1)).mono ?_); rintro e w2 ⟨b, rfl, hsh, hE2⟩; have hR2 := rng_ext hR1 hB1 hE2; have dD2 := (hE2.cells D 0 hD1).trans dD1; have hB2 := hE2.lt hB1; have hD2 := hE2.lt hD1; cases b)
        | (refine load_midg (by rfl) 30 _ rfl B 0 rfl L.vals _ hR2 Tryz.underlying30 rfl hIL ?_)
        | (go_at_call 13; (with_reducible refine (HVa.out _ (hsh (by trivial)) (HE0.out.trans (hE1.trans hE2))).mono ?_); rintro e w3 ⟨rfl, hE3⟩; have dD3 := (hE3.cells D 0 hD2).trans dD2; have hD3 := hE3.lt hD2))
      all_goals
        go_ret
        first
          | exact ⟨rfl, HE0.out.trans (hE1.trans hE2)⟩
          | exact ⟨rfl, HE0.out.trans (hE1.trans (hE2.trans hE3))⟩
    · have d1 : decide (n < 0) = false := decide_eq_false q1
      by_cases q2 : 4611686018427387904 < n
      · have d2 : decide (4611686018427387904 < n) = true := decide_eq_true q2
        have HVl := Lib.hid hv
        have hIL := loc_size h.1
        obtain ⟨W0, hW0⟩ : ∃ W0, W0 = (w.alloc (.cells L.vals.toArray 30)).alloc (.cells #[.int .i64 n] 3) := ⟨_, rfl⟩
        have hEa : Ext w (w.alloc (.cells L.vals.toArray 30)) := (Ext.refl w).alloc _
        have hEb : Ext (w.alloc (.cells L.vals.toArray 30)) W0 := by rw [hW0]; exact (Ext.refl _).alloc _
        have hB := (LcB.new L w 30).ext hEb
        obtain ⟨-, g1, g2, -, -⟩ := hB.cells h.1
        have hR := hB.2
        have HzB := Lib.hid hB.1
        have HE0 := Lib.hid (hEa.trans hEb)
        have dD : W0.cell? ⟨w.heap.size + 1, 0, none⟩ = some (.int .i64 n) := by
          rw [hW0]
          have e : (w.alloc (.cells L.vals.toArray 30)).heap.size = w.heap.size + 1 := by simp
          rw [← e, World.cell?_alloc_new]; rfl
        have HzD : Hid (w.heap.size + 1 < W0.heap.size) := by rw [Hid, hW0]; simp
        have HAw : Hid (∀ w', Ext w w' → Calls Tryz.prog 7 #[] w' fun e w'' => e = .returned (.bool true) ∧ Ext w' w'') := fun w' hE => awake55_c w' (hm.ext hE)
        have HFw : Hid (∀ w', Ext w w' → Calls Tryz.prog 8 #[.agg L.vals.toArray] w' (fun e w'' => ∃ b : Bool, e = .returned (.bool b) ∧ (b = true → shL L) ∧ Ext w' w'')) := fun w' hE => few_c L w' (h.ext hE) hb (hm.ext hE) hNl
        have HW0 := Lib.hid hW0
        clear hW0 hEa hEb hB
        have HVa : Hid (∀ w', shL L → Ext w w' → Calls Tryz.prog 13 #[.agg L.vals.toArray] w' fun e w'' => e = .returned (.bool true) ∧ Ext w' w'') := fun w' hs hE => valid_c L true w' (h.ext hE) hs (hm.ext hE) hNl HVl.out
        clear h hb hm ht hNl hv
        go_enter Tryz.func4, Tryz.ntmps4
        go_upto_region 1 with fail
        rw [← HW0.out]
        clear HW0
        generalize w.heap.size + 1 = D at *
        generalize w.heap.size = B at *
        go_wp2_with (first
          | (go_at_call 7; (with_reducible refine (HAw.out _ HE0.out).mono ?_); rintro e w1 ⟨rfl, hE1⟩; have hR1 := rng_ext hR HzB.out hE1; have dD1 := (hE1.cells D 0 HzD.out).trans dD; have hB1 := hE1.lt HzB.out; have hD1 := hE1.lt HzD.out)
          | (refine load_midg (by rfl) 30 _ rfl B 0 rfl L.vals _ hR1 Tryz.underlying30 rfl hIL ?_)
          | (go_at_call 8; (with_reducible refine (HFw.out _ (HE0.out.trans hE1)).mono ?_); rintro e w2 ⟨b, rfl, hsh, hE2⟩; have hR2 := rng_ext hR1 hB1 hE2; have dD2 := (hE2.cells D 0 hD1).trans dD1; have hB2 := hE2.lt hB1; have hD2 := hE2.lt hD1; cases b)
          | (refine load_midg (by rfl) 30 _ rfl B 0 rfl L.vals _ hR2 Tryz.underlying30 rfl hIL ?_)
          | (go_at_call 13; (with_reducible refine (HVa.out _ (hsh (by trivial)) (HE0.out.trans (hE1.trans hE2))).mono ?_); rintro e w3 ⟨rfl, hE3⟩; have dD3 := (hE3.cells D 0 hD2).trans dD2; have hD3 := hE3.lt hD2))
        all_goals
          go_ret
          first
            | exact ⟨rfl, HE0.out.trans (hE1.trans hE2)⟩
            | exact ⟨rfl, HE0.out.trans (hE1.trans (hE2.trans hE3))⟩
      · have d2 : decide (4611686018427387904 < n) = false := decide_eq_false q2
        obtain ⟨N, rfl⟩ := Int.eq_ofNat_of_zero_le (show 0 ≤ n by omega)
        have hN : (N : Int) ≤ 4611686018427387904 := by omega
        have HVl := Lib.hid hv
        obtain ⟨hr1, hr2⟩ := valid_P hv
        obtain ⟨k1, k2⟩ := ruled_ok hr1
        obtain ⟨o1, o2⟩ := ruled_ok hr2
        obtain ⟨m, hmm⟩ : ∃ m, fstI N L.P = m := ⟨_, rfl⟩
        obtain ⟨z, hzz⟩ : ∃ z, fstI N L.O = z := ⟨_, rfl⟩
        have hml : m < L.P.length := by rw [← hmm]; exact fstI_lt k1
        have hzl : z < L.O.length := by rw [← hzz]; exact fstI_lt o1
        obtain ⟨Y1, hY1⟩ : ∃ Y, (L.P[m]).c = Y := ⟨_, rfl⟩
        obtain ⟨Y2, hY2⟩ : ∃ Y, (L.O[z]).c = Y := ⟨_, rfl⟩
        obtain ⟨X, hX⟩ : ∃ X, itx N 1 = X := ⟨_, rfl⟩
        have e1 : plE L (N : Int) = 0 := by unfold plE inrB; simp [hv]; omega
        have e2 : plV L (N : Int) = Y1 := by unfold plV; rw [if_pos e1, ← hY1]; show ((L.P[fstI N L.P]?).map (·.c)).getD [] = _; rw [hmm, List.getElem?_eq_getElem hml]; rfl
        have e3 : orE L (N : Int) = 0 := by unfold orE onrB; simp [hv]; omega
        have e4 : orV L (N : Int) = X ++ Y2 := by unfold orV; rw [if_pos e3, ← hY2, ← hX]; show itx N 1 ++ ((L.O[fstI N L.O]?).map (·.c)).getD [] = _; rw [hzz, List.getElem?_eq_getElem hzl]; rfl
        generalize hnn : (N : Int) = n at e1 e2 e3 e4 d1 d2 ⊢
        have Hnn := Lib.hid hnn
        have hIL := loc_size h.1
        obtain ⟨W0, hW0⟩ : ∃ W0, W0 = (w.alloc (.cells L.vals.toArray 30)).alloc (.cells #[.int .i64 n] 3) := ⟨_, rfl⟩
        have hEa : Ext w (w.alloc (.cells L.vals.toArray 30)) := (Ext.refl w).alloc _
        have hEb : Ext (w.alloc (.cells L.vals.toArray 30)) W0 := by rw [hW0]; exact (Ext.refl _).alloc _
        have hB := (LcB.new L w 30).ext hEb
        obtain ⟨-, g1, g2, -, -⟩ := hB.cells h.1
        have hR := hB.2
        have HzB := Lib.hid hB.1
        have HE0 := Lib.hid (hEa.trans hEb)
        have dD : W0.cell? ⟨w.heap.size + 1, 0, none⟩ = some (.int .i64 n) := by
          rw [hW0]
          have e : (w.alloc (.cells L.vals.toArray 30)).heap.size = w.heap.size + 1 := by simp
          rw [← e, World.cell?_alloc_new]; rfl
        have HzD : Hid (w.heap.size + 1 < W0.heap.size) := by rw [Hid, hW0]; simp
        have HAw : Hid (∀ w', Ext w w' → Calls Tryz.prog 7 #[] w' fun e w'' => e = .returned (.bool true) ∧ Ext w' w'') := fun w' hE => awake55_c w' (hm.ext hE)
        have HFw : Hid (∀ w', Ext w w' → Calls Tryz.prog 8 #[.agg L.vals.toArray] w' (fun e w'' => ∃ b : Bool, e = .returned (.bool b) ∧ (b = true → shL L) ∧ Ext w' w'')) := fun w' hE => few_c L w' (h.ext hE) hb (hm.ext hE) hNl
        have HW0 := Lib.hid hW0
        clear hW0 hEa hEb hB
        have HVa : Hid (∀ w', shL L → Ext w w' → Calls Tryz.prog 13 #[.agg L.vals.toArray] w' fun e w'' => e = .returned (.bool true) ∧ Ext w' w'') := fun w' hs hE => valid_c L true w' (h.ext hE) hs (hm.ext hE) hNl HVl.out
        have HPl : Hid (∀ w', shL L → Ext w w' → Calls Tryz.prog 9 #[.agg L.vals.toArray, .int .i64 n] w' fun e w'' => e = .returned (.tuple #[.string ⟨Y1.toArray⟩, .int .i64 0]) ∧ Ext w' w'') := fun w' hs hE => by have q := plural_c L n w' (h.ext hE) hs (hm.ext hE) hNl; rw [e1, e2] at q; exact q
        have HOr : Hid (∀ w', shL L → Ext w w' → Calls Tryz.prog 11 #[.agg L.vals.toArray, .int .i64 n] w' fun e w'' => e = .returned (.tuple #[.string ⟨(X ++ Y2).toArray⟩, .int .i64 0]) ∧ Ext w' w'') := fun w' hs hE => by have q := ordinal_c L n w' (h.ext hE) hs (hm.ext hE) (ht.ext hE) hNl; rw [e3, e4] at q; exact q
        have HIt : Hid (∀ w', Ext w w' → Calls Tryz.prog 15 #[.int .i64 n] w' fun e w'' => e = .returned (.string ⟨X.toArray⟩) ∧ Ext w' w'') := fun w' hE => by rw [← Hnn.out]; exact itoa_c N X w' (by omega) (ht.ext hE) hX
        have HO1 : Hid (∀ w' D, shL L → Ext w w' → w'.cell? ⟨D, 0, none⟩ = some (.int .i64 n) → D < w'.heap.size → Calls Tryz.prog 16 #[.slice L.pa L.P.length L.pc, .string ⟨Y1.toArray⟩, .pointer (some ⟨D, 0, none⟩)] w' fun e w'' => e = .returned (.bool true) ∧ Ext w' w'') := fun w' D hs hE hc hl => one_c L.P L.pa L.pc N m D Y1 w' (h.2.1.ext hE) hs.1 k1 k2 hN (hm.ext hE) hmm (by rw [Hnn.out]; exact hc) hl hml hY1
        have HO2 : Hid (∀ w' D, shL L → Ext w w' → w'.cell? ⟨D, 0, none⟩ = some (.int .i64 n) → D < w'.heap.size → Calls Tryz.prog 16 #[.slice L.oa L.O.length L.oc, .string ⟨Y2.toArray⟩, .pointer (some ⟨D, 0, none⟩)] w' fun e w'' => e = .returned (.bool true) ∧ Ext w' w'') := fun w' D hs hE hc hl => one_c L.O L.oa L.oc N z D Y2 w' (h.2.2.1.ext hE) hs.2.1 o1 o2 hN (hm.ext hE) hzz (by rw [Hnn.out]; exact hc) hl hzl hY2
        clear h hb hm ht hNl hv hnn e1 e2 e3 e4 hY1 hY2 hX hmm hzz k2 o2 hr1 hr2 hN
        go_enter Tryz.func4, Tryz.ntmps4
        go_upto_region 1 with fail
        rw [← HW0.out]
        clear HW0
        generalize w.heap.size + 1 = D at *
        generalize w.heap.size = B at *
        go_wp2_with (first
          | (go_at_call 7; (with_reducible refine (HAw.out _ HE0.out).mono ?_); rintro e w1 ⟨rfl, hE1⟩; have hR1 := rng_ext hR HzB.out hE1; have dD1 := (hE1.cells D 0 HzD.out).trans dD; have hB1 := hE1.lt HzB.out; have hD1 := hE1.lt HzD.out)
          | (refine load_midg (by rfl) 30 _ rfl B 0 rfl L.vals _ hR1 Tryz.underlying30 rfl hIL ?_)
          | (go_at_call 8; (with_reducible refine (HFw.out _ (HE0.out.trans hE1)).mono ?_); rintro e w2 ⟨b, rfl, hsh, hE2⟩; have hR2 := rng_ext hR1 hB1 hE2; have dD2 := (hE2.cells D 0 hD1).trans dD1; have hB2 := hE2.lt hB1; have hD2 := hE2.lt hD1; cases b)
          | (refine load_midg (by rfl) 30 _ rfl B 0 rfl L.vals _ hR2 Tryz.underlying30 rfl hIL ?_)
          | (go_at_call 13; (with_reducible refine (HVa.out _ (hsh (by trivial)) (HE0.out.trans (hE1.trans hE2))).mono ?_); rintro e w3 ⟨rfl, hE3⟩; have hR3 := rng_ext hR2 hB2 hE3; have dD3 := (hE3.cells D 0 hD2).trans dD2; have hB3 := hE3.lt hB2; have hD3 := hE3.lt hD2; have hX3 := HE0.out.trans (hE1.trans (hE2.trans hE3)))
          | (refine load_midg (by rfl) 30 _ rfl B 0 rfl L.vals _ hR3 Tryz.underlying30 rfl hIL ?_)
          | (go_at_call 9; (with_reducible refine (HPl.out _ (hsh (by trivial)) hX3).mono ?_); rintro e w4 ⟨rfl, hE4⟩; have hR4 := rng_ext hR3 hB3 hE4; have dD4 := (hE4.cells D 0 hD3).trans dD3; have hB4 := hE4.lt hB3; have hD4 := hE4.lt hD3; have hX4 := hX3.trans hE4)
          | (refine load_midg (by rfl) 30 _ rfl B 0 rfl L.vals _ hR4 Tryz.underlying30 rfl hIL ?_)
          | (go_at_call 11; (with_reducible refine (HOr.out _ (hsh (by trivial)) hX4).mono ?_); rintro e w5 ⟨rfl, hE5⟩; have dD5 := (hE5.cells D 0 hD4).trans dD4; have hB5 := hE5.lt hB4; have hD5 := hE5.lt hD4; have hX5 := hX4.trans hE5)
          | (go_at_call 15; (with_reducible refine (HIt.out _ hX5).mono ?_); rintro e w6 ⟨rfl, hE6⟩; have dD6 := (hE6.cells D 0 hD5).trans dD5; have hB6 := hE6.lt hB5; have hD6 := hE6.lt hD5; have hX6 := hX5.trans hE6; have g1s := ((hE1.trans (hE2.trans (hE3.trans (hE4.trans (hE5.trans hE6))))).cells B 41 HzB.out).trans g1; have g2s := ((hE1.trans (hE2.trans (hE3.trans (hE4.trans (hE5.trans hE6))))).cells B 42 HzB.out).trans g2)
          | (go_at_call 14; (with_reducible refine (cutp_c X Y2 _).mono ?_); rintro e w7 ⟨rfl, rfl⟩)
          | (go_at_call 16; (with_reducible refine (HO1.out _ D (hsh (by trivial)) hX6 dD6 hD6).mono ?_); rintro e w8 ⟨rfl, hE8⟩; have dD8 := (hE8.cells D 0 hD6).trans dD6; have hD8 := hE8.lt hD6; have hB8 := hE8.lt hB6; have hX8 := hX6.trans hE8; have g2t := (hE8.cells B 42 hB6).trans g2s)
          | (go_at_call 16; (with_reducible refine (HO2.out _ D (hsh (by trivial)) hX8 dD8 hD8).mono ?_); rintro e w9 ⟨rfl, hE9⟩; have hX9 := hX8.trans hE9))
        all_goals
          go_ret
          first
            | exact ⟨rfl, HE0.out.trans (hE1.trans hE2)⟩
            | exact ⟨rfl, hX9⟩
  · have HVl := Lib.hid hv
    have hIL := loc_size h.1
    obtain ⟨W0, hW0⟩ : ∃ W0, W0 = (w.alloc (.cells L.vals.toArray 30)).alloc (.cells #[.int .i64 n] 3) := ⟨_, rfl⟩
    have hEa : Ext w (w.alloc (.cells L.vals.toArray 30)) := (Ext.refl w).alloc _
    have hEb : Ext (w.alloc (.cells L.vals.toArray 30)) W0 := by rw [hW0]; exact (Ext.refl _).alloc _
    have hB := (LcB.new L w 30).ext hEb
    obtain ⟨-, g1, g2, -, -⟩ := hB.cells h.1
    have hR := hB.2
    have HzB := Lib.hid hB.1
    have HE0 := Lib.hid (hEa.trans hEb)
    have dD : W0.cell? ⟨w.heap.size + 1, 0, none⟩ = some (.int .i64 n) := by
      rw [hW0]
      have e : (w.alloc (.cells L.vals.toArray 30)).heap.size = w.heap.size + 1 := by simp
      rw [← e, World.cell?_alloc_new]; rfl
    have HzD : Hid (w.heap.size + 1 < W0.heap.size) := by rw [Hid, hW0]; simp
    have HAw : Hid (∀ w', Ext w w' → Calls Tryz.prog 7 #[] w' fun e w'' => e = .returned (.bool true) ∧ Ext w' w'') := fun w' hE => awake55_c w' (hm.ext hE)
    have HFw : Hid (∀ w', Ext w w' → Calls Tryz.prog 8 #[.agg L.vals.toArray] w' (fun e w'' => ∃ b : Bool, e = .returned (.bool b) ∧ (b = true → shL L) ∧ Ext w' w'')) := fun w' hE => few_c L w' (h.ext hE) hb (hm.ext hE) hNl
    have HW0 := Lib.hid hW0
    clear hW0 hEa hEb hB
    have HVa : Hid (∀ w', shL L → Ext w w' → Calls Tryz.prog 13 #[.agg L.vals.toArray] w' fun e w'' => e = .returned (.bool false) ∧ Ext w' w'') := fun w' hs hE => valid_c L false w' (h.ext hE) hs (hm.ext hE) hNl HVl.out
    clear h hb hm ht hNl hv
    go_enter Tryz.func4, Tryz.ntmps4
    go_upto_region 1 with fail
    rw [← HW0.out]
    clear HW0
    generalize w.heap.size + 1 = D at *
    generalize w.heap.size = B at *
    go_wp2_with (first
      | (go_at_call 7; (with_reducible refine (HAw.out _ HE0.out).mono ?_); rintro e w1 ⟨rfl, hE1⟩; have hR1 := rng_ext hR HzB.out hE1; have dD1 := (hE1.cells D 0 HzD.out).trans dD; have hB1 := hE1.lt HzB.out; have hD1 := hE1.lt HzD.out)
      | (refine load_midg (by rfl) 30 _ rfl B 0 rfl L.vals _ hR1 Tryz.underlying30 rfl hIL ?_)
      | (go_at_call 8; (with_reducible refine (HFw.out _ (HE0.out.trans hE1)).mono ?_); rintro e w2 ⟨b, rfl, hsh, hE2⟩; have hR2 := rng_ext hR1 hB1 hE2; have dD2 := (hE2.cells D 0 hD1).trans dD1; have hB2 := hE2.lt hB1; have hD2 := hE2.lt hD1; cases b)
      | (refine load_midg (by rfl) 30 _ rfl B 0 rfl L.vals _ hR2 Tryz.underlying30 rfl hIL ?_)
      | (go_at_call 13; (with_reducible refine (HVa.out _ (hsh (by trivial)) (HE0.out.trans (hE1.trans hE2))).mono ?_); rintro e w3 ⟨rfl, hE3⟩; have dD3 := (hE3.cells D 0 hD2).trans dD2; have hD3 := hE3.lt hD2))
    all_goals
      go_ret
      first
        | exact ⟨rfl, HE0.out.trans (hE1.trans hE2)⟩
        | exact ⟨rfl, HE0.out.trans (hE1.trans (hE2.trans hE3))⟩
end Go.Proofs.YtlmoibmmjonjoaaGreatDoor
/- Locales: what a duration's text is made of, plainly: cut at the commas, at the blank; the numbers; the units in order. -/
namespace Go.Proofs.YtlmoibmmjonjoaaGreatDoor
set_option linter.unusedVariables false
set_option linter.unusedSimpArgs false
open Go.RowKit

theorem index_sep2 (r : List UInt8) : ∀ a : List UInt8, (∀ x ∈ a, x ≠ 44) → Lib.index (a ++ 44 :: 32 :: r) [44, 32] = (a.length : Int)
  | [], _ => by rw [List.nil_append, Lib.index]; simp
  | b :: a, h => by
    have hb : ¬ (44 : UInt8) = b := fun e => h b (by simp) e.symm
    have ih := index_sep2 r a (fun x hx => h x (by simp [hx]))
    rw [List.cons_append, Lib.index, ih]
    have e : ([44, 32] : List UInt8).isPrefixOf (b :: (a ++ 44 :: 32 :: r)) = false := by
      simp only [List.isPrefixOf, Bool.and_eq_false_iff]
      left; simpa using hb
    rw [e]
    have e2 : ¬ ((a.length : Int) == -1) = true := by simp <;> omega
    simp only [Bool.false_eq_true, if_false, e2]
    simp
theorem index_no2 : ∀ a : List UInt8, (∀ x ∈ a, x ≠ 44) → Lib.index a [44, 32] = -1
  | [], _ => by rw [Lib.index]; simp
  | b :: a, h => by
    have hb : ¬ (44 : UInt8) = b := fun e => h b (by simp) e.symm
    have ih := index_no2 a (fun x hx => h x (by simp [hx]))
    rw [Lib.index, ih]
    have e : ([44, 32] : List UInt8).isPrefixOf (b :: a) = false := by
      simp only [List.isPrefixOf, Bool.and_eq_false_iff]
      left; simpa using hb
    rw [e]; simp
theorem join2 (x y : List UInt8) (r : List (List UInt8)) : Lib.join (x :: y :: r) [44, 32] = x ++ 44 :: 32 :: Lib.join (y :: r) [44, 32] := by
  rw [Lib.join_cons, Lib.join_cons]
  simp [Lib.joinTail]
theorem countFrom_join : ∀ (ps : List (List UInt8)) (fuel : Nat), ps ≠ [] → (∀ a ∈ ps, ∀ x ∈ a, x ≠ 44) → ps.length ≤ fuel → Lib.countFrom [44, 32] fuel (Lib.join ps [44, 32]) + 1 = ps.length
  | [x], fuel, _, h, hf => by
    cases fuel with
    | zero => simp at hf
    | succ f =>
      rw [Lib.join_one, Lib.countFrom, index_no2 x (h x (by simp))]; simp
  | x :: y :: r, fuel, _, h, hf => by
    cases fuel with
    | zero => simp at hf
    | succ f =>
      have ih := countFrom_join (y :: r) f (by simp) (fun a ha => h a (by simp [ha])) (by simpa using hf)
      rw [join2, Lib.countFrom, index_sep2 _ x (h x (by simp))]
      have e2 : ¬ ((x.length : Int) == -1) = true := by simp <;> omega
      rw [if_neg e2]
      have e3 : (x ++ 44 :: 32 :: Lib.join (y :: r) [44, 32]).drop ((x.length : Int).toNat + ([44, 32] : List UInt8).length) = Lib.join (y :: r) [44, 32] := by
        rw [Int.toNat_natCast, List.drop_append]
        simp
      rw [e3]
      simp only [List.length_cons] at ih ⊢
      omega
theorem join_len_ge : ∀ (ps : List (List UInt8)), ps.length ≤ (Lib.join ps [44, 32]).length + 1
  | [] => by simp
  | [x] => by simp
  | x :: y :: r => by
    have ih := join_len_ge (y :: r)
    rw [join2]
    simp only [List.length_cons, List.length_append] at ih ⊢
    omega
theorem count_join {ps : List (List UInt8)} (h0 : ps ≠ []) (h : ∀ a ∈ ps, ∀ x ∈ a, x ≠ 44) : Lib.count (Lib.join ps [44, 32]) [44, 32] + 1 = ps.length := by
  unfold Lib.count
  exact countFrom_join ps _ h0 h (by have := join_len_ge ps; omega)
theorem splitK_join : ∀ (ps : List (List UInt8)) (k : Nat), ps ≠ [] → (∀ a ∈ ps, ∀ x ∈ a, x ≠ 44) → k + 1 = ps.length → Lib.splitK [44, 32] 0 k (Lib.join ps [44, 32]) = ps
  | [x], k, _, h, hk => by
    obtain rfl : k = 0 := by simpa using hk
    rw [Lib.join_one]; rfl
  | x :: y :: r, k, _, h, hk => by
    obtain ⟨k, rfl⟩ : ∃ j, k = j + 1 := ⟨k - 1, by simp at hk; omega⟩
    have ih := splitK_join (y :: r) k (by simp) (fun a ha => h a (by simp [ha])) (by simpa using hk)
    rw [join2, Lib.splitK, index_sep2 _ x (h x (by simp))]
    have e2 : ¬ ((x.length : Int) == -1) = true := by simp <;> omega
    rw [if_neg e2]
    have e3 : (x ++ 44 :: 32 :: Lib.join (y :: r) [44, 32]).drop ((x.length : Int).toNat + ([44, 32] : List UInt8).length) = Lib.join (y :: r) [44, 32] := by
      rw [Int.toNat_natCast, List.drop_append]
      simp
    rw [e3, ih]
    congr 1
    rw [Int.toNat_natCast, Nat.add_zero, List.take_append_of_le_length (Nat.le_refl _), List.take_length]
theorem index1_at (c : UInt8) (r : List UInt8) : ∀ a : List UInt8, (∀ x ∈ a, x ≠ c) → Lib.index (a ++ c :: r) [c] = (a.length : Int)
  | [], _ => by rw [List.nil_append, index1_cons]; simp
  | b :: a, h => by
    have ih := index1_at c r a (fun x hx => h x (by simp [hx]))
    rw [List.cons_append, index1_cons, if_neg (h b (by simp)), ih, if_neg (by omega)]
    simp
theorem cut_amt (q : Nat) (g : List UInt8) : Lib.cut (itx q 1 ++ 32 :: g) [32] = (itx q 1, g, true) := by
  have hd : ∀ x ∈ itx q 1, x ≠ 32 := fun x hx e => by
    have h1 := List.all_eq_true.1 (itx_all q 1) x hx
    have h2 := isDg_iff.1 h1
    rw [e] at h2
    exact absurd h2.1 (by decide)
  have e := index1_at 32 g (itx q 1) hd
  unfold Lib.cut
  rw [e, if_pos (by omega), Int.toNat_natCast]
  rw [List.take_append_of_le_length (Nat.le_refl _), List.take_length, List.drop_append]
  simp
/-- strconv.Atoi at up to 16 digits. -/
theorem pu_val16 (l : List UInt8) : l.length ≤ 16 → (∀ c ∈ l, isDg c = true) → Lib.parseUint10 0 l = .ok (val l) := by
  suffices H : ∀ (n : Nat) (l : List UInt8) (acc : Nat), l.length ≤ n → n ≤ 16 → acc < 10 ^ (18 - n) → (∀ c ∈ l, isDg c = true) → Lib.parseUint10 acc l = .ok (l.foldl (fun a c => 10 * a + (c.toNat - 48)) acc) by
    intro hl hd
    exact H 16 l 0 hl (by omega) (by decide) hd
  intro n
  induction n with
  | zero =>
    intro l acc hl _ _ _
    obtain rfl : l = [] := List.length_eq_zero_iff.1 (by omega)
    rfl
  | succ n ih =>
    intro l acc hl hn ha hd
    match l with
    | [] => rfl
    | c :: r =>
      have hc := isDg_iff.1 (hd c (by simp))
      have h16 : (10 : Nat) ^ (18 - (n + 1)) ≤ 10 ^ 17 := Nat.pow_le_pow_right (by omega) (by omega)
      have h15 : (10 : Nat) ^ 17 = 100000000000000000 := rfl
      have e : (10 : Nat) ^ (18 - n) = 10 ^ (18 - (n + 1)) * 10 := by rw [← Nat.pow_succ]; congr 1; omega
      rw [Lib.parseUint10, if_pos hc, if_neg (by omega), if_neg (by omega), ih r _ (by simpa using hl) (by omega) (by omega) (fun x hx => hd x (by simp [hx])), List.foldl_cons, Nat.mul_comm]
theorem atoi_val16 (l : List UInt8) (h1 : 1 ≤ l.length) (h2 : l.length ≤ 16) (hd : ∀ c ∈ l, isDg c = true) : Lib.atoiAll l = .ok (val l : Int) := by
  match l with
  | c :: r =>
    have hc := isDg_iff.1 (hd c (by simp))
    have hv := val_lt (c :: r) hd
    have h10 : (10 : Nat) ^ (c :: r).length ≤ 10 ^ 16 := Nat.pow_le_pow_right (by omega) h2
    have h9 : (10 : Nat) ^ 16 = 10000000000000000 := rfl
    unfold Lib.atoiAll
    simp only
    rw [if_neg (by omega)]
    unfold Lib.parseMag
    rw [if_neg (by simp), pu_val16 (c :: r) h2 hd]
    show (if ¬ c.toNat = 45 ∧ 9223372036854775808 ≤ val (c :: r) then _ else _) = _
    rw [if_neg (by omega), if_neg (by omega), if_neg (by omega)]
    try rfl
theorem atoi_itx (q : Nat) (h : (q : Int) ≤ 4398046511104) : Lib.atoiAll (itx q 1) = .ok (q : Int) ∧ 1 ≤ (itx q 1).length ∧ (itx q 1).length ≤ 16 := by
  have hl : (itx q 1).length ≤ 16 ∧ 1 ≤ (itx q 1).length := by
    unfold itx
    rw [padN_length]
    have := nDigits_le (n := q) (k := 16) (by decide) (by omega)
    omega
  have := atoi_val16 (itx q 1) hl.2 hl.1 (fun c hc => List.all_eq_true.1 (itx_all q 1) c hc)
  rw [itx_val] at this
  exact ⟨this, hl.2, hl.1⟩
theorem amt_44 {P f : List Plu} {N : Nat} (h : ∀ k (hk : k < f.length), formB (f[k]).r = true) : ∀ x ∈ amt P f N, x ≠ 44 := by
  intro x hx e
  unfold amt at hx
  rcases List.mem_append.1 hx with q | q
  · have h2 := isDg_iff.1 (List.all_eq_true.1 (itx_all N 1) x q)
    rw [e] at h2
    exact absurd h2.1 (by decide)
  · rcases List.mem_cons.1 q with q | q
    · rw [e] at q; exact absurd q (by decide)
    · rcases Nat.lt_or_ge (fstI N P) f.length with z | z
      · rw [List.getElem?_eq_getElem z] at q
        have hf := h _ z
        have q : x ∈ (f[fstI N P]).r := q
        unfold formB onlyB at hf
        simp only [Bool.and_eq_true] at hf
        have h3 := List.all_eq_true.1 hf.1.2 x q
        unfold frC at h3
        rw [e] at h3
        exact absurd h3 (by decide)
      · rw [List.getElem?_eq_none z] at q; simp at q
theorem dst_44 {P : List Plu} {U : List Uni} (h : UF P U) {N j : Nat} (hj : j ≤ U.length) : ∀ a ∈ (dst P (U.take j) N).1, ∀ x ∈ a, x ≠ 44 := by
  induction j with
  | zero => intro a ha; simp [dst] at ha
  | succ j ih =>
    rw [dst_succ P U N j (by omega)]
    have h0 := ih (by omega)
    generalize dst P (U.take j) N = st at *
    intro a ha
    unfold dstep at ha
    dsimp only at ha
    split at ha
    · exact h0 a ha
    · rcases List.mem_append.1 ha with q | q
      · exact h0 a q
      · rw [List.mem_singleton.1 q]
        exact amt_44 (h.at_ j (by omega)).2.2.2
theorem dst_pre (P : List Plu) (U : List Uni) (N j : Nat) (hj : j ≤ U.length) : ∃ t, (dst P U N).1 = (dst P (U.take j) N).1 ++ t := by
  have H : ∀ d, j + d ≤ U.length → ∃ t, (dst P (U.take (j + d)) N).1 = (dst P (U.take j) N).1 ++ t := by
    intro d
    induction d with
    | zero => intro _; exact ⟨[], by simp⟩
    | succ d ih =>
      intro h
      obtain ⟨t, ht⟩ := ih (by omega)
      rw [← Nat.add_assoc, dst_succ P U N (j + d) (by omega)]
      unfold dstep
      dsimp only
      split
      · exact ⟨t, ht⟩
      · exact ⟨t ++ [_], by rw [ht, List.append_assoc]⟩
  obtain ⟨t, ht⟩ := H (U.length - j) (by omega)
  rw [show j + (U.length - j) = U.length by omega, List.take_of_length_le (Nat.le_refl _)] at ht
  exact ⟨t, ht⟩
/-- The next unit that yields an amount. -/
theorem dst_next {P : List Plu} {U : List Uni} (hU : UF P U) (N r i : Nat) (ps : List (List UInt8)) (hps : (dst P U N).1 = ps) (hi : i < ps.length) : ∀ (d k : Nat), k + d = U.length → dst P (U.take k) N = (ps.take i, r) →
    ∃ z, ∃ hz : z < U.length, k ≤ z ∧ (∀ t, k ≤ t → ∀ ht : t < z, (r : Int) < (U[t]'(by omega)).s) ∧ r / U[z].s.natAbs ≠ 0 ∧ ps[i] = amt P U[z].f (r / U[z].s.natAbs) ∧ dst P (U.take (z + 1)) N = (ps.take (i + 1), r % U[z].s.natAbs)
  | 0, k, hk, h => by
    exfalso
    rw [List.take_of_length_le (by omega)] at h
    rw [h] at hps
    have : (ps.take i).length = ps.length := by rw [show ps.take i = ps from hps]
    rw [List.length_take] at this
    omega
  | d + 1, k, hk, h => by
    have hkl : k < U.length := by omega
    have hs := dst_succ P U N k hkl
    rw [h] at hs
    have h1 := (hU.at_ k hkl).1
    by_cases q : r / (U[k]).s.natAbs = 0
    · have hlt : r < (U[k]).s.natAbs := (Nat.div_eq_zero_iff_lt (by omega)).1 q
      have e : dst P (U.take (k + 1)) N = (ps.take i, r) := by
        rw [hs]
        unfold dstep
        dsimp only
        rw [if_pos q, Nat.mod_eq_of_lt hlt]
      obtain ⟨z, hz, a, b, c, f, g⟩ := dst_next hU N r i ps hps hi d (k + 1) (by omega) e
      refine ⟨z, hz, by omega, fun t ht1 ht => ?_, c, f, g⟩
      by_cases e2 : t = k
      · subst e2; omega
      · exact b t (by omega) ht
    · have e : dst P (U.take (k + 1)) N = (ps.take i ++ [amt P (U[k]).f (r / (U[k]).s.natAbs)], r % (U[k]).s.natAbs) := by
        rw [hs]
        unfold dstep
        dsimp only
        rw [if_neg q]
      obtain ⟨t, ht⟩ := dst_pre P U N (k + 1) (by omega)
      rw [e, hps] at ht
      have e3 : ps[i] = amt P (U[k]).f (r / (U[k]).s.natAbs) := by
        have hh : ps[i]? = (ps.take i ++ [amt P (U[k]).f (r / (U[k]).s.natAbs)] ++ t)[i]? := by rw [← ht]
        rw [List.getElem?_eq_getElem hi, List.append_assoc, List.getElem?_append_right (by rw [List.length_take]; omega)] at hh
        have e4 : i - (ps.take i).length = 0 := by rw [List.length_take]; omega
        rw [e4] at hh
        simpa using hh
      refine ⟨k, hkl, Nat.le_refl _, fun t h1 h2 => absurd h2 (by omega), q, e3, ?_⟩
      rw [e]
      congr 1
      rw [List.take_succ_eq_append_getElem hi, e3]
theorem div_step (r s : Nat) : (r : Int) / (s : Int) * (s : Int) + (r : Int) % (s : Int) = (r : Int) := by
  have := Int.mul_ediv_add_emod (r : Int) (s : Int)
  rw [Int.mul_comm]; exact this
end Go.Proofs.YtlmoibmmjonjoaaGreatDoor
/- Locales: contracts for the law LocaleSums. -/
namespace Go.Proofs.YtlmoibmmjonjoaaGreatDoor
set_option linter.unusedVariables false
set_option linter.unusedSimpArgs false
open Go.RowKit

theorem split2_c (ps : List (List UInt8)) (T : List UInt8) (w : World) (hm : Lm w) (h0 : ps ≠ []) (h44 : ∀ a ∈ ps, ∀ x ∈ a, x ≠ 44) (hl : T.length ≤ 100000) (hp : ps.length ≤ 100000) (hT : Lib.join ps [44, 32] = T) :
    Calls Tryz.prog 22 #[.string ⟨T.toArray⟩, .string ⟨#[44, 32]⟩] w fun e w' => ∃ x, e = .returned x ∧ SpR ps x w' ∧ Ext w w' := by
  obtain ⟨m, hm⟩ := hm
  refine (Tryz.strings_Split ⟨T.toArray⟩ ⟨#[44, 32]⟩ m w (by show T.toArray.size < _; simp; omega) hm (by decide)).mono ?_
  rintro e w' ⟨rfl, rfl⟩
  have eT : (⟨T.toArray⟩ : ByteArray).data.toList = T := by simp
  have eS : (⟨#[44, 32]⟩ : ByteArray).data.toList = [44, 32] := rfl
  have hc : Lib.countB ⟨T.toArray⟩ ⟨#[44, 32]⟩ + 1 = ps.length := by
    show Lib.count _ _ + 1 = _
    rw [eT, eS, ← hT]
    exact count_join h0 h44
  have hv : (Lib.splitB ⟨#[44, 32]⟩ 0 (Lib.countB ⟨T.toArray⟩ ⟨#[44, 32]⟩) ⟨T.toArray⟩).map Value.string = sv ps := by
    have h1 := Lib.splitB_data ⟨#[44, 32]⟩ 0 (Lib.countB ⟨T.toArray⟩ ⟨#[44, 32]⟩) ⟨T.toArray⟩
    rw [eT, eS] at h1
    have h2 := splitK_join ps (Lib.countB ⟨T.toArray⟩ ⟨#[44, 32]⟩) h0 h44 hc
    rw [hT] at h2
    rw [h2] at h1
    rw [← h1]
    unfold sv
    rw [List.map_map]
    refine List.map_congr_left fun b _ => ?_
    simp
  rw [hc, hv]
  refine ⟨_, rfl, ⟨w.heap.size, ps.length, rfl, ⟨by simp, fun i hi => ?_⟩, Nat.le_refl _, by unfold maxLen; omega⟩, (Ext.refl w).alloc _⟩
  rw [Nat.zero_add, World.cell?_alloc_new]
  simp [sv, hi]
theorem cut1_c (q : Nat) (g D a : List UInt8) (w : World) (hm : Lm w) (hD : itx q 1 = D) (ha : a = itx q 1 ++ 32 :: g) (hl : a.length ≤ 100000) :
    Calls Tryz.prog 23 #[.string ⟨a.toArray⟩, .string ⟨#[32]⟩] w fun e w' => e = .returned (.tuple #[.string ⟨D.toArray⟩, .string ⟨g.toArray⟩, .bool true]) ∧ Ext w w' := by
  obtain ⟨m, hm⟩ := hm
  refine (Tryz.strings_Cut ⟨a.toArray⟩ ⟨#[32]⟩ m w (by show a.toArray.size < _; simp; omega) hm).mono ?_
  rintro e w' ⟨rfl, nq, rfl⟩
  have eT : (⟨a.toArray⟩ : ByteArray).data.toList = a := by simp
  have eS : (⟨#[32]⟩ : ByteArray).data.toList = [32] := rfl
  rw [eT, eS, ha, cut_amt, hD]
  exact ⟨rfl, (Ext.refl w).drewN nq⟩
theorem atoi16_c (q : Nat) (D : List UInt8) (w : World) (h : (q : Int) ≤ 4398046511104) (hD : itx q 1 = D) :
    Calls Tryz.prog 24 #[.string ⟨D.toArray⟩] w fun e w' => e = .returned (.tuple #[.int .i64 (q : Int), .nilIface]) ∧ Ext w w' := by
  obtain ⟨h1, h2, h3⟩ := atoi_itx q h
  rw [hD] at h1 h2 h3
  have eT : (⟨D.toArray⟩ : ByteArray).data.toList = D := by simp
  refine (Tryz.strconv_Atoi_ok ⟨D.toArray⟩ (by show D.toArray.size ≤ _; simp; omega) (q : Int) (by rw [eT]; exact h1) w).mono ?_
  rintro e w' ⟨rfl, rfl | ⟨t, rfl⟩⟩
  · exact ⟨rfl, Ext.refl _⟩
  · exact ⟨rfl, ext_bytes _ _ _⟩
theorem cutm_c (s p X : List UInt8) (b : Bool) (w : World) (hb : p.isPrefixOf s = b) (hX : (if b then s.drop p.length else s) = X) : Calls Tryz.prog 14 #[.string ⟨s.toArray⟩, .string ⟨p.toArray⟩] w fun e w' => e = .returned (.tuple #[.string ⟨X.toArray⟩, .bool b]) ∧ w = w' := by
  refine (Tryz.strings_CutPrefix ⟨s.toArray⟩ ⟨p.toArray⟩ w).mono ?_
  rintro e w' ⟨rfl, rfl⟩
  refine ⟨?_, rfl⟩
  have h1 : (⟨s.toArray⟩ : ByteArray).data.toList = s := by simp
  have h2 : (⟨p.toArray⟩ : ByteArray).data.toList = p := by simp
  rw [h1, h2]
  show Ending.returned (.tuple #[.string ⟨(if p.isPrefixOf s then s.drop p.length else s).toArray⟩, .bool (p.isPrefixOf s)]) = _
  rw [hb, hX]
theorem dst_done {P : List Plu} {U : List Uni} (hU : UF P U) (N r : Nat) (ps : List (List UInt8)) (hps : (dst P U N).1 = ps) : ∀ (d k : Nat), k + d = U.length → dst P (U.take k) N = (ps, r) → r = 0
  | 0, k, hk, h => by
    rw [List.take_of_length_le (by omega)] at h
    have := (dst_end (Q := P) hU N).1
    rw [h] at this
    exact this
  | d + 1, k, hk, h => by
    have hkl : k < U.length := by omega
    have hs := dst_succ P U N k hkl
    rw [h] at hs
    have h1 := (hU.at_ k hkl).1
    by_cases q : r / (U[k]).s.natAbs = 0
    · have hlt : r < (U[k]).s.natAbs := (Nat.div_eq_zero_iff_lt (by omega)).1 q
      refine dst_done hU N r ps hps d (k + 1) (by omega) ?_
      rw [hs]
      unfold dstep
      dsimp only
      rw [if_pos q, Nat.mod_eq_of_lt hlt]
    · exfalso
      obtain ⟨t, ht⟩ := dst_pre P U N (k + 1) (by omega)
      have e : (dst P (U.take (k + 1)) N).1 = ps ++ [amt P (U[k]).f (r / (U[k]).s.natAbs)] := by
        rw [hs]
        unfold dstep
        dsimp only
        rw [if_neg q]
      rw [e, hps] at ht
      have := congrArg List.length ht
      simp at this
/-- The first amount is that of the first unit that is not greater. -/
theorem dst_first {P : List Plu} {U : List Uni} (hU : UF P U) (N : Nat) (hN : 0 < N) (ps : List (List UInt8)) (hps : (dst P U N).1 = ps) (h0 : 0 < ps.length) : ∃ m, ∃ hm : m < U.length, uIx U N = m ∧ ps[0] = amt P (U[m]).f (N / (U[m]).s.natAbs) := by
  obtain ⟨z, hz, -, b, c, f, -⟩ := dst_next hU N N 0 ps hps h0 U.length 0 (by omega) (by simp [dst])
  have h1 := (hU.at_ z hz).1
  refine ⟨z, hz, uIx_hit hz ?_ (fun i hi hij => ?_), f⟩
  · have : ¬ N < (U[z]).s.natAbs := fun q => c (Nat.div_eq_of_lt q)
    omega
  · have := b i (Nat.zero_le _) hij
    omega
end Go.Proofs.YtlmoibmmjonjoaaGreatDoor
