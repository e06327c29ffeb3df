/- Locales: the walk of which. -/
import Derived.Test.YtlmoibmmjonjoaaGreatDoorQ18
import Derived.Test.YtlmoibmmjonjoaaGreatDoorQ04
import Derived.Test.YtlmoibmmjonjoaaGreatDoorQ05
import Derived.Lib.Join
import Derived.Laws.IdiomStrings
namespace Go.Proofs.YtlmoibmmjonjoaaGreatDoor
set_option linter.unusedVariables false
set_option linter.unusedSimpArgs false
open Go.RowKit

theorem readh_c (r : List UInt8) (N : Nat) (b : Bool) (w : World) (hN : (N : Int) ≤ 4611686018427387904) (hm : Lm w) (hs : r.length ≤ 4000) (ho : okR r = true) (hb : hitB N r = b) :
    Calls Tryz.prog 45 #[.string ⟨r.toArray⟩, .int .i64 (N : Int)] w fun e w' => e = .returned (.tuple #[.bool b, .bool true]) ∧ Ext w w' := by
  have h := read_c r N w hN hm hs
  have e1 : ((rul N (wds r)).2 && decide (r.length ≤ 200)) = true := by
    have := ho; unfold okR at this; rwa [rul_ind 0 N] at this
  have e2 : (rul N (wds r)).1 = b := by rw [← hb]; unfold hitB; rw [ho]; rfl
  rw [e1, e2] at h
  exact h
set_option maxRecDepth 100000 in
set_option maxHeartbeats 1000000 in
theorem which_c (l : List Plu) (ao : Option Addr) (cap m : Nat) (n : Int) (w : World) (h : PlV ao cap l w) (hs : shP l) (h1 : 1 ≤ l.length) (ho : ∀ i (hi : i < l.length), i + 1 < l.length → okR (l[i]).r = true) (hn1 : -4611686018427387904 ≤ n) (hn2 : n ≤ 4611686018427387904) (hL : Lm w) (hm : fstI n.natAbs l = m) :
    Calls Tryz.prog 28 #[.slice ao l.length cap, .int .i64 n] w fun e w' => e = .returned (.int .i64 (m : Int)) ∧ Ext w w' := by
  have hlen := h.1
  have hcap := h.2.1
  unfold maxLen at hcap
  obtain ⟨R, off, rfl, hR0, hc⟩ := h.2.2 (by rintro rfl; simp at h1)
  have HC := Lib.hid hc
  have Hs := Lib.hid hs
  have HM := Lib.hid hm
  have HL := Lib.hid hL
  have HO := Lib.hid ho
  obtain ⟨z, hz⟩ : ∃ z, z = l.length - 1 := ⟨_, rfl⟩
  have hzi : (l.length : Int) - 1 = (z : Int) := by omega
  have HZ : Hid (z + 1 = l.length) := by rw [Hid]; omega
  have hzc : z ≤ cap := by omega
  have hz0 : (0 : Int) ≤ (z : Int) := by omega
  have hz1 : (z : Int) ≤ (cap : Int) := by omega
  clear h hs hc hm hL ho hz
  go_enter Tryz.func28, Tryz.ntmps28
  go_wp2_with fail
  go_loopw [15] (fun i wr => ∃ j : Nat, j ≤ z ∧ i = .int .i64 (j : Int) ∧ Hid (∀ i (hi : i < l.length), i < j → hitB n.natAbs (l[i]).r = false) ∧ Ext w wr) (fun i _ => z - (intOf i).toNat)
  case atStart => exact ⟨0, Nat.zero_le _, rfl, fun i _ hi => absurd hi (Nat.not_lt_zero i), Ext.refl _⟩
  case round =>
    obtain ⟨j, hj, rfl, Hall, hE⟩ := hrel
    by_cases hlt : j < z
    · have hj1 : j + 1 < l.length := by have := HZ.out; omega
      have hjl : j < l.length := by omega
      obtain ⟨c0, c1⟩ := HC.out j hjl
      replace c0 := (hE.cells R _ hR0).trans c0
      replace c1 := (hE.cells R _ hR0).trans c1
      have hRr := hE.lt hR0
      have hsz := (Hs.out l[j] (List.getElem_mem _)).2
      have HH : Hid (hitB n.natAbs (l[j]).r = true → m = j) := fun q => by rw [← HM.out]; exact fstI_hit j hj1 q Hall.out
      have HY : Hid (hitB n.natAbs (l[j]).r = false → ∀ i (hi : i < l.length), i < j + 1 → hitB n.natAbs (l[i]).r = false) := fun q i hi hij => by
        by_cases e : i = j
        · subst e; exact q
        · exact Hall.out i hi (by omega)
      have Hok := Lib.hid (HO.out j hjl hj1)
      obtain ⟨p, hp⟩ : ∃ p, p = l[j] := ⟨_, rfl⟩
      rw [← hp] at c0 c1 hsz HH HY Hok
      clear hp
      obtain ⟨pc, pr⟩ := p
      simp only at c0 c1 hsz HH HY Hok
      clear hj1
      go_upto_region 4 with fail
      have hEp : Ext wr (wr.alloc (.cells #[.string ⟨pc.toArray⟩, .string ⟨pr.toArray⟩] 43)) := (Ext.refl wr).alloc _
      have y1 : (wr.alloc (.cells #[.string ⟨pc.toArray⟩, .string ⟨pr.toArray⟩] 43)).cell? ⟨wr.heap.size, 1, none⟩ = some (.string ⟨pr.toArray⟩) := by rw [World.cell?_alloc_new]; rfl
      have yz : wr.heap.size < (wr.alloc (.cells #[.string ⟨pc.toArray⟩, .string ⟨pr.toArray⟩] 43)).heap.size := by simp
      generalize wr.alloc (.cells #[.string ⟨pc.toArray⟩, .string ⟨pr.toArray⟩] 43) = V at hEp y1 yz ⊢
      generalize wr.heap.size = D at y1 yz ⊢
      have HLV := Lib.hid (HL.out.ext (hE.trans hEp))
      have HNn : Hid (((n.natAbs : Nat) : Int) ≤ 4611686018427387904) := by rw [Hid]; omega
      rcases Bool.eq_false_or_eq_true (hitB n.natAbs pr) with hh | hh
      · have HF := Lib.hid (HH.out hh)
        have HT := Lib.hid hh
        clear hh
        go_region_with (first
          | (go_at_call 46; (with_reducible refine (size_c n _ hn1 hn2).mono ?_); rintro e w1 ⟨rfl, rfl⟩)
          | (go_at_call 45; (with_reducible refine (readh_c pr n.natAbs true _ HNn.out (HLV.out.ext (by (repeat (with_reducible (first | assumption | exact Ext.refl _ | refine Ext.alloc ?_ _ | refine Ext.drewN ?_ _ | refine Ext.drew ?_))))) hsz Hok.out HT.out).mono ?_); rintro e w2 ⟨rfl, hE2⟩; have hX := Ext.trans (show Ext V _ from (by (repeat (with_reducible (first | assumption | exact Ext.refl _ | refine Ext.alloc ?_ _ | refine Ext.drewN ?_ _ | refine Ext.drew ?_))))) hE2; clear hE2))
        all_goals
          go_wp2_with fail
          go_ret
          exact ⟨by rw [HF.out]; rfl, hE.trans (hEp.trans (by (repeat (with_reducible (first | assumption | exact Ext.refl _ | refine Ext.alloc ?_ _ | refine Ext.drewN ?_ _ | refine Ext.drew ?_)))))⟩
      · have HS := Lib.hid (HY.out hh)
        have HT := Lib.hid hh
        clear hh
        go_region_with (first
          | (go_at_call 46; (with_reducible refine (size_c n _ hn1 hn2).mono ?_); rintro e w1 ⟨rfl, rfl⟩)
          | (go_at_call 45; (with_reducible refine (readh_c pr n.natAbs false _ HNn.out (HLV.out.ext (by (repeat (with_reducible (first | assumption | exact Ext.refl _ | refine Ext.alloc ?_ _ | refine Ext.drewN ?_ _ | refine Ext.drew ?_))))) hsz Hok.out HT.out).mono ?_); rintro e w2 ⟨rfl, hE2⟩; have hX := Ext.trans (show Ext V _ from (by (repeat (with_reducible (first | assumption | exact Ext.refl _ | refine Ext.alloc ?_ _ | refine Ext.drewN ?_ _ | refine Ext.drew ?_))))) hE2; clear hE2))
        all_goals
          go_wp2_with fail
          go_roundw
          case rel => exact ⟨j + 1, by omega, by go_num, HS, hE.trans (hEp.trans (by (repeat (with_reducible (first | assumption | exact Ext.refl _ | refine Ext.alloc ?_ _ | refine Ext.drewN ?_ _ | refine Ext.drew ?_)))))⟩
          case measure => simp [intOf]; omega
    · obtain rfl : j = z := by omega
      have HF : Hid (m = j) := by rw [Hid, ← HM.out]; exact fstI_end j HZ.out Hall.out
      go_wp2_with fail
      go_ret
      exact ⟨by rw [HF.out]; rfl, hE⟩
end Go.Proofs.YtlmoibmmjonjoaaGreatDoor
/- Locales: the walk of Plural. -/
namespace Go.Proofs.YtlmoibmmjonjoaaGreatDoor
set_option linter.unusedVariables false
set_option linter.unusedSimpArgs false
open Go.RowKit

theorem ruled_ok {l : List Plu} (h : ruledB l = true) : 1 ≤ l.length ∧ ∀ i (hi : i < l.length), i + 1 < l.length → okR (l[i]).r = true := by
  unfold ruledB at h
  simp only [Bool.and_eq_true, decide_eq_true_eq] at h
  exact ⟨h.1.1, fun i hi h2 => (h.2 i hi hi).2 (by omega)⟩
theorem valid_P {L : Loc} (h : validLB L = true) : ruledB L.P = true ∧ ruledB L.O = true := by
  unfold validLB rulB at h
  simp only [Bool.and_eq_true] at h
  exact ⟨h.1.1.1.2.1, h.1.1.2.1⟩
/-- What Plural answers. -/
noncomputable def plE (L : Loc) (n : Int) : Nat := if validLB L = false then 1 else if inrB n = false then 2 else 0
noncomputable def plV (L : Loc) (n : Int) : List UInt8 := if plE L n = 0 then (L.P[fstI n.natAbs L.P]?.map (·.c)).getD [] else []
set_option maxRecDepth 100000 in
set_option maxHeartbeats 2000000 in
theorem plural_c (L : Loc) (n : Int) (w : World) (h : LcV L w) (hs : shL L) (hm : Lm w) (hNl : ∀ s ∈ L.N.all, s.length ≤ 2000000) :
    Calls Tryz.prog 9 #[.agg L.vals.toArray, .int .i64 n] w fun e w' => e = .returned (.tuple #[.string ⟨(plV L n).toArray⟩, .int .i64 (plE L n : Int)]) ∧ Ext w w' := by
  have hIL := loc_size h.1
  have hE0 : Ext w (w.alloc (.cells L.vals.toArray 30)) := (Ext.refl w).alloc _
  have hB := LcB.new L w 30
  have hV := h.ext hE0
  obtain ⟨g0, g1, g2, g3, g4⟩ := hB.cells h.1
  have HV := Lib.hid hV
  have HBk := Lib.hid hB
  have HVp := Lib.hid hV.2.1
  have HE0 := Lib.hid hE0
  have HNl := Lib.hid hNl
  have Hs := Lib.hid hs
  have Hs1 := Lib.hid hs.1
  have Hm := Lib.hid (hm.ext hE0)
  have hR := hB.2
  clear hs hNl h hE0 hB hV hm g0 g2 g3 g4
  rcases Bool.eq_false_or_eq_true (validLB L) with hv | hv
  · have HVl := Lib.hid hv
    obtain ⟨hr, -⟩ := valid_P hv
    obtain ⟨k1, k2⟩ := ruled_ok hr
    have HK := Lib.hid k2
    rcases Bool.eq_false_or_eq_true (inrB n) with hi | hi
    · have hq0 : plE L n = 0 := by simp [plE, hv, hi]
      have HE : Hid (plE L n = 0) := hq0
      obtain ⟨m, hm⟩ : ∃ m, fstI n.natAbs L.P = m := ⟨_, rfl⟩
      have hml : m < L.P.length := by rw [← hm]; exact fstI_lt k1
      have HP : Hid (plV L n = (L.P[m]).c) := by
        rw [Hid]; unfold plV; rw [if_pos hq0, hm, List.getElem?_eq_getElem hml]; rfl
      have HI := Lib.hid hi
      have HM := Lib.hid hm
      obtain ⟨n1, n2⟩ : -4611686018427387904 ≤ n ∧ n ≤ 4611686018427387904 := of_decide_eq_true hi
      obtain ⟨hp1, hp2, hp3⟩ := HVp.out
      unfold maxLen at hp2
      obtain ⟨R, off, hpa, hR0, hc⟩ := hp3 (by rintro e; rw [e] at hml; simp at hml)
      obtain ⟨c0, -⟩ := hc m hml
      have HPA := Lib.hid hpa
      rw [hpa] at g1
      rw [hpa] at HVp
      clear hpa hc hp3 k2 hv hi hq0 hm hr
      have hm0 : (0 : Int) ≤ (m : Int) := by omega
      have hm1 : (m : Int) < (L.P.length : Int) := by omega
      obtain ⟨pc, hpc⟩ : ∃ c, c = (L.P[m]).c := ⟨_, rfl⟩
      rw [← hpc] at c0 HP
      clear hpc
      go_enter Tryz.func9, Tryz.ntmps9
      go_upto_region 1 with fail
      generalize w.alloc (.cells L.vals.toArray 30) = W0 at *
      generalize w.heap.size = B at *
      go_upto_region 5 with (first
        | (refine load_midg (by rfl) 30 _ rfl B 0 rfl L.vals _ hR Tryz.underlying30 rfl hIL ?_)
        | (go_at_call 13; (with_reducible refine (valid_c L true _ HV.out Hs.out Hm.out HNl.out HVl.out).mono ?_); rintro e w1 ⟨rfl, hE1⟩; have f1 := (hE1.cells B 41 HBk.out.1).trans g1; have d0 := (hE1.cells R _ hR0).trans c0; have hX := hE1; have hRr := hE1.lt hR0; have hBr := hE1.lt HBk.out.1; clear hE1)
        | (go_at_call 27; (with_reducible refine (inr_c n _).mono ?_); (with_reducible rw [HI.out]); rintro e w2 ⟨rfl, rfl⟩))
      go_region_with (first
        | (go_at_call 28; (with_reducible refine (which_c L.P _ L.pc m n _ (HVp.out.ext (by (repeat (with_reducible (first | assumption | exact Ext.refl _ | refine Ext.alloc ?_ _ | refine Ext.drewN ?_ _ | refine Ext.drew ?_))))) Hs1.out k1 HK.out n1 n2 (Hm.out.ext (by (repeat (with_reducible (first | assumption | exact Ext.refl _ | refine Ext.alloc ?_ _ | refine Ext.drewN ?_ _ | refine Ext.drew ?_))))) HM.out).mono ?_); rintro e w3 ⟨rfl, hE3⟩; have hY := Ext.trans (show Ext W0 _ from (by (repeat (with_reducible (first | assumption | exact Ext.refl _ | refine Ext.alloc ?_ _ | refine Ext.drewN ?_ _ | refine Ext.drew ?_))))) hE3; have d1 := (hY.cells R _ hR0).trans c0; have f3 := (hY.cells B 41 HBk.out.1).trans g1; have hBy := hY.lt HBk.out.1; have hRy := hY.lt hR0; clear hE3))
      all_goals
        go_wp2_with fail
        go_ret2
        exact ⟨by rw [HP.out, HE.out]; rfl, HE0.out.trans (by (repeat (with_reducible (first | assumption | exact Ext.refl _ | refine Ext.alloc ?_ _ | refine Ext.drewN ?_ _ | refine Ext.drew ?_))))⟩
    · have hq0 : plE L n = 2 := by simp [plE, hv, hi]
      have HE : Hid (plE L n = 2) := hq0
      have HP : Hid (plV L n = []) := by rw [Hid]; unfold plV; rw [hq0]; rfl
      have HI := Lib.hid hi
      clear hv hi hq0
      go_enter Tryz.func9, Tryz.ntmps9
      go_upto_region 1 with fail
      generalize w.alloc (.cells L.vals.toArray 30) = W0 at *
      generalize w.heap.size = B at *
      go_wp2_with (first
        | (refine load_midg (by rfl) 30 _ rfl B 0 rfl L.vals _ hR Tryz.underlying30 rfl hIL ?_)
        | (go_at_call 13; (with_reducible refine (valid_c L true _ HV.out Hs.out Hm.out HNl.out HVl.out).mono ?_); rintro e w1 ⟨rfl, hE1⟩)
        | (go_at_call 27; (with_reducible refine (inr_c n _).mono ?_); (with_reducible rw [HI.out]); rintro e w2 ⟨rfl, rfl⟩))
      go_ret2
      exact ⟨by rw [HP.out, HE.out]; rfl, HE0.out.trans hE1⟩
  · have hq0 : plE L n = 1 := by simp [plE, hv]
    have HE : Hid (plE L n = 1) := hq0
    have HP : Hid (plV L n = []) := by rw [Hid]; unfold plV; rw [hq0]; rfl
    have HVl := Lib.hid hv
    clear hv hq0
    go_enter Tryz.func9, Tryz.ntmps9
    go_upto_region 1 with fail
    generalize w.alloc (.cells L.vals.toArray 30) = W0 at *
    generalize w.heap.size = B at *
    go_wp2_with (first
      | (refine load_midg (by rfl) 30 _ rfl B 0 rfl L.vals _ hR Tryz.underlying30 rfl hIL ?_)
      | (go_at_call 13; (with_reducible refine (valid_c L false _ HV.out Hs.out Hm.out HNl.out HVl.out).mono ?_); rintro e w1 ⟨rfl, hE1⟩))
    go_ret2
    exact ⟨by rw [HP.out, HE.out]; rfl, HE0.out.trans hE1⟩
end Go.Proofs.YtlmoibmmjonjoaaGreatDoor
/- Locales: durations and relative times, plainly. -/
namespace Go.Proofs.YtlmoibmmjonjoaaGreatDoor
set_option linter.unusedVariables false
set_option linter.unusedSimpArgs false
open Go.RowKit

/-- A number with its form. -/
def amt (P f : List Plu) (N : Nat) : List UInt8 := itx N 1 ++ 32 :: ((f[fstI N P]?.map (·.r)).getD [])
def lastF (U : List Uni) : List Plu := (U[U.length - 1]?.map (·.f)).getD []
def dstep (P : List Plu) (st : List (List UInt8) × Nat) (u : Uni) : List (List UInt8) × Nat :=
  (if st.2 / u.s.natAbs = 0 then st.1 else st.1 ++ [amt P u.f (st.2 / u.s.natAbs)], st.2 % u.s.natAbs)
/-- The amounts of a number of seconds, and what is left. -/
def dst (P : List Plu) (U : List Uni) (N : Nat) : List (List UInt8) × Nat := U.foldl (dstep P) ([], N)
def dnrB (n : Int) : Bool := decide (-4398046511104 ≤ n ∧ n ≤ 4398046511104)
noncomputable def duE (L : Loc) (n : Int) : Nat := if validLB L = false then 1 else if dnrB n = false then 2 else 0
noncomputable def duV (L : Loc) (n : Int) : List UInt8 := if duE L n ≠ 0 then [] else if n = 0 then amt L.P (lastF L.U) 0 else
  (if n < 0 then [45] else []) ++ Lib.join (dst L.P L.U n.natAbs).1 [44, 32]
def tmB (t : Int) : Bool := decide (-62135596800 ≤ t ∧ t ≤ 253402300800)
noncomputable def reE (L : Loc) (t now : Int) : Nat := if validLB L = false then 1 else if (tmB t && tmB now) = false then 2 else 0
/-- The first unit that is not greater. -/
def uIx (U : List Uni) (d : Nat) : Nat := U.findIdx fun u => decide (u.s ≤ (d : Int))
noncomputable def reV (L : Loc) (t now : Int) : List UInt8 := if reE L t now ≠ 0 then [] else if t = now then amt L.P (lastF L.U) 0 else
  (if now < t then 43 else 45) :: (let d := (t - now).natAbs; let i := uIx L.U d; amt L.P ((L.U[i]?.map (fun u : Uni => u.f)).getD []) (d / ((L.U[i]?.map (fun u : Uni => u.s)).getD 1).natAbs))

theorem vu {L : Loc} (h : validLB L = true) : uHead L.U ∧ ∀ i, i < L.U.length → unAt L.P L.U i := by
  unfold validLB unB at h
  simp only [Bool.and_eq_true] at h
  exact @of_decide_eq_true _ (_) h.2
structure UF (P : List Plu) (U : List Uni) : Prop where
  one : 1 ≤ U.length
  ten : U.length ≤ 10
  at_ : ∀ i (h : i < U.length), 1 ≤ U[i].s ∧ U[i].s ≤ 1099511627776 ∧ U[i].f.length = P.length ∧ ∀ k (hk : k < U[i].f.length), formB (U[i].f[k]).r = true
  last : (U[U.length - 1]'(by omega)).s = 1
  desc : ∀ i (h : i + 1 < U.length), U[i + 1].s < (U[i]'(by omega)).s
theorem uf_of {P : List Plu} {U : List Uni} (h1 : uHead U) (h2 : ∀ i, i < U.length → unAt P U i) : UF P U := by
  obtain ⟨a, b, c, d⟩ := h1
  have de : ∀ i (h : i + 1 < U.length), U[i + 1].s < (U[i]'(by omega)).s := fun i h => by
    obtain ⟨q, -⟩ := h2 (i + 1) h h
    have := q (by omega)
    simpa using this
  have lo : ∀ k i (h : i < U.length), i + 1 + k = U.length → 1 ≤ U[i].s := by
    intro k
    induction k with
    | zero =>
      intro i h e
      have : U[i].s = 1 := by rw [← d]; congr 2; omega
      omega
    | succ k ih =>
      intro i h e
      have := ih (i + 1) (by omega) (by omega)
      have := de i (by omega)
      omega
  have hi : ∀ i (h : i < U.length), U[i].s ≤ 1099511627776 := by
    intro i
    induction i with
    | zero => intro h; exact c
    | succ i ih => intro h; have := ih (by omega); have := de i h; omega
  refine ⟨a, b, fun i h => ⟨lo (U.length - 1 - i) i h (by omega), hi i h, ?_⟩, d, de⟩
  obtain ⟨-, q, r⟩ := h2 i h h
  exact ⟨q, fun k hk => (r k hk (by omega)).2⟩
theorem form_len {s : List UInt8} (h : formB s = true) : s.length ≤ 30 := by
  unfold formB onlyB at h
  simp at h
  omega
theorem lastF_eq {P : List Plu} {U : List Uni} (h : UF P U) : lastF U = (U[U.length - 1]'(by have := h.one; omega)).f := by
  unfold lastF
  rw [List.getElem?_eq_getElem (by have := h.one; omega)]; rfl
theorem dst_succ (P : List Plu) (U : List Uni) (N j : Nat) (h : j < U.length) : dst P (U.take (j + 1)) N = dstep P (dst P (U.take j) N) U[j] := by
  unfold dst
  rw [List.take_succ_eq_append_getElem h, List.foldl_append]; rfl
theorem dst_le (P : List Plu) (U : List Uni) (N j : Nat) (h : j ≤ U.length) : (dst P (U.take j) N).2 ≤ N ∧ (dst P (U.take j) N).1.length ≤ j ∧ ((dst P (U.take j) N).1 = [] → (dst P (U.take j) N).2 = N) := by
  induction j with
  | zero => exact ⟨Nat.le_refl _, Nat.le_refl _, fun _ => rfl⟩
  | succ j ih =>
    obtain ⟨a, b, c⟩ := ih (by omega)
    rw [dst_succ P U N j (by omega)]
    generalize dst P (U.take j) N = st at *
    refine ⟨Nat.le_trans (Nat.mod_le _ _) a, ?_, ?_⟩
    · unfold dstep
      dsimp only
      split
      · omega
      · simp; omega
    · unfold dstep
      dsimp only
      intro e
      split at e
      · rename_i q
        have hs := c e
        rcases Nat.eq_zero_or_pos (U[j]'(by omega)).s.natAbs with z | z
        · rw [z, Nat.mod_zero]; exact hs
        · rw [Nat.mod_eq_of_lt]
          · exact hs
          · exact (Nat.div_eq_zero_iff_lt z).1 q
      · simp at e
theorem dst_end {P Q : List Plu} {U : List Uni} (h : UF P U) (N : Nat) : (dst Q U N).2 = 0 ∧ (0 < N → (dst Q U N).1 ≠ []) := by
  have h1 := h.one
  have e : (dst Q U N).2 = 0 := by
    have := dst_succ Q U N (U.length - 1) (by omega)
    rw [List.take_of_length_le (by omega)] at this
    rw [this]
    unfold dstep
    dsimp only
    have := h.last
    rw [this]
    exact Nat.mod_one _
  refine ⟨e, fun hN hn => ?_⟩
  have := (dst_le Q U N U.length (Nat.le_refl _)).2.2
  rw [List.take_of_length_le (Nat.le_refl _)] at this
  have := this hn
  omega
theorem nDig20 (N : Nat) (h : (N : Int) ≤ 4611686018427387904) : (itx N 1).length ≤ 19 ∧ 1 ≤ (itx N 1).length := by
  unfold itx
  rw [padN_length]
  have := nDigits_le (n := N) (k := 19) (by decide) (by omega)
  omega
theorem amt_len {P f : List Plu} {N : Nat} (h : ∀ k (hk : k < f.length), formB (f[k]).r = true) (hN : (N : Int) ≤ 4611686018427387904) : (amt P f N).length ≤ 50 := by
  unfold amt
  have h1 := nDig20 N hN
  have h2 : ((f[fstI N P]?.map (·.r)).getD []).length ≤ 30 := by
    rcases Nat.lt_or_ge (fstI N P) f.length with q | q
    · rw [List.getElem?_eq_getElem q]
      exact form_len (h _ q)
    · rw [List.getElem?_eq_none q]; simp
  simp only [List.length_append, List.length_cons]
  omega
theorem dst_mem {P : List Plu} {U : List Uni} (h : UF P U) {N j : Nat} (hN : (N : Int) ≤ 4611686018427387904) (hj : j ≤ U.length) : ∀ a ∈ (dst P (U.take j) N).1, a.length ≤ 50 := by
  induction j with
  | zero => intro a ha; simp [dst] at ha
  | succ j ih =>
    rw [dst_succ P U N j (by omega)]
    have h2 := (dst_le P U N j (by omega)).1
    have h0 := ih (by omega)
    generalize dst P (U.take j) N = st at *
    intro a ha
    unfold dstep at ha
    dsimp only at ha
    split at ha
    · exact h0 a ha
    · rcases List.mem_append.1 ha with q | q
      · exact h0 a q
      · rw [List.mem_singleton.1 q]
        refine amt_len (h.at_ j (by omega)).2.2.2 ?_
        have := Nat.div_le_self st.2 (U[j]'(by omega)).s.natAbs
        omega
theorem lens_le : ∀ (l : List (List UInt8)) (m : Nat), (∀ a ∈ l, a.length ≤ m) → Lib.lens l ≤ m * l.length
  | [], m, _ => by simp [Lib.lens]
  | a :: r, m, h => by
    have h1 := h a (by simp)
    have h2 := lens_le r m fun x hx => h x (by simp [hx])
    simp only [Lib.lens, List.map_cons, List.sum_cons, List.length_cons, Nat.mul_succ] at *
    omega
theorem join_le (l : List (List UInt8)) (sep : List UInt8) (m : Nat) (h : ∀ a ∈ l, a.length ≤ m) : (Lib.join l sep).length ≤ (m + sep.length) * l.length := by
  cases l with
  | nil => simp [Lib.join]
  | cons x r =>
    rw [Lib.join_length]
    have := lens_le (x :: r) m h
    rw [Nat.add_mul]
    have := Nat.mul_le_mul_left sep.length (show r.length ≤ (x :: r).length by simp)
    omega
end Go.Proofs.YtlmoibmmjonjoaaGreatDoor
/- The reference's decimal text, up to 2^62. -/
namespace Go.Proofs.YtlmoibmmjonjoaaGreatDoor
set_option linter.unusedVariables false
set_option linter.unusedSimpArgs false
open Go.RowKit

def strLn (v : Value) : Nat := match v with | .string s => s.size | _ => 0
theorem app2_str (a b : List UInt8) : (⟨a.toArray⟩ : ByteArray) ++ ⟨b.toArray⟩ = ⟨(a ++ b).toArray⟩ := by
  apply ByteArray.ext; simp
theorem conv1 (w : World) (x : UInt8) : (convert 85 9 (.slice (some ⟨w.heap.size, 0, none⟩) 1 1)).run Tryz.prog (w.alloc (.cells #[.int .u8 (x.toNat : Int)] 5)) = .ok (.string ⟨[x].toArray⟩) (w.alloc (.cells #[.int .u8 (x.toNat : Int)] 5)) := by
  refine run_convert_bytes_back (P := Tryz.prog) _ 85 9 5 ⟨w.heap.size, 0, none⟩ 1 [x] (by kernel_rfl) (by kernel_rfl) (by kernel_rfl) ?_
  intro j hj
  obtain rfl : j = 0 := by simpa using hj
  show (w.alloc _).cell? ⟨w.heap.size, 0 + 0, none⟩ = _
  rw [World.cell?_alloc_new]
  rfl
theorem dg1_int (n : Nat) : ((48 + ((n : Int) % 10)) : Int) = ((dg1 n).toNat : Int) := by
  rw [dg1_toNat]; omega
theorem conv2 (w : World) (q : Nat) : (convert 85 9 (.slice (some ⟨w.heap.size, 0, none⟩) 1 1)).run Tryz.prog (w.alloc (.cells #[.int .u8 (48 + (q : Int) % 10)] 5)) = .ok (.string ⟨#[dg1 q]⟩) (w.alloc (.cells #[.int .u8 (48 + (q : Int) % 10)] 5)) := by
  have h := conv1 w (dg1 q)
  rw [← dg1_int] at h
  exact h
theorem nDigits_iff (v j : Nat) (hj : 1 ≤ j) : Lib.nDigits v ≤ j ↔ v < 10 ^ j := by
  constructor
  · intro h
    exact Nat.lt_of_lt_of_le (Lib.lt_pow_nDigits v) (Nat.pow_le_pow_right (by decide) h)
  · exact nDigits_le hj
set_option maxRecDepth 100000 in
set_option maxHeartbeats 1000000 in
theorem rtext_c (v wd : Nat) (X : List UInt8) (w : World) (hv : (v : Int) ≤ 4611686018427387904) (hwd : wd ≤ 20) (hX : itx v wd = X) :
    Calls Tryz.prog 67 #[.int .i64 (v : Int), .int .i64 (wd : Int)] w fun e w' => e = .returned (.string ⟨X.toArray⟩) ∧ Ext w w' := by
  have HX := Lib.hid hX
  clear hX
  have hc1 := conv2
  have e1 : ¬ (wd : Int) < 0 := by omega
  have e2 : ¬ (20 : Int) < (wd : Int) := by omega
  go_enter Tryz.func67, Tryz.ntmps67
  go_wp2_with fail
  go_loopw [5, 6] (fun s m wr => ∃ j : Nat, j ≤ Lib.nDigits v ∧ s = .string ⟨(padN j v).toArray⟩ ∧ m = .int .i64 ((v / 10 ^ j : Nat) : Int) ∧ Ext w wr) (fun _ m _ => (intOf m).toNat)
  case atStart => exact ⟨0, Nat.zero_le _, rfl, by simp, Ext.refl _⟩
  case round =>
    obtain ⟨j, hj, rfl, rfl, hE⟩ := hrel
    obtain ⟨m, hm⟩ : ∃ m, m = v / 10 ^ j := ⟨_, rfl⟩
    have hp := padN_length j v
    have hnd : Lib.nDigits v ≤ 19 := nDigits_le (by decide) (by omega)
    have hpc : Hid (dg1 m :: padN j v = padN (j + 1) v) := by rw [Hid, padN_cons, hm]
    have hm10 : v / 10 ^ (j + 1) = m / 10 := by rw [Nat.pow_succ, ← Nat.div_div_eq_div_mul, ← hm]
    have hml : m ≤ 4611686018427387904 := by rw [hm]; exact Nat.le_trans (Nat.div_le_self _ _) (by omega)
    have hjn : Hid (¬ m = 0 → j + 1 ≤ Lib.nDigits v) := fun h => by
      rcases Nat.lt_or_ge j (Lib.nDigits v) with q | q
      · exact q
      · exfalso
        have : v < 10 ^ j := Nat.lt_of_lt_of_le (Lib.lt_pow_nDigits v) (Nat.pow_le_pow_right (by decide) q)
        exact h (by rw [hm]; exact Nat.div_eq_of_lt this)
    have hvj : Hid (m = 0 → v < 10 ^ j) := fun h => by
      rw [hm] at h
      rcases Nat.lt_or_ge v (10 ^ j) with q | q
      · exact q
      · have := Nat.div_pos q (Nat.pow_pos (by decide)); omega
    have Hm10 := Lib.hid hm10
    rw [← hm]
    clear hm hm10
    by_cases h0 : m = 0
    · have hvj2 := Lib.hid (hvj.out h0)
      subst h0
      clear hjn hpc Hm10 hvj
      go_wp2_with fail
      go_loopw [5] (fun s wy => ∃ q : Nat, q ≤ max (Lib.nDigits v) wd ∧ s = .string ⟨(padN q v).toArray⟩ ∧ Hid (v < 10 ^ q) ∧ Ext wr wy) (fun s _ => max (Lib.nDigits v) wd - strLn s)
      case atStart => exact ⟨j, by omega, rfl, hvj2.out, Ext.refl _⟩
      case round =>
        obtain ⟨q, hq, rfl, Hq, hE2⟩ := hrel
        have hq20 : q ≤ 20 := by omega
        have hpq := padN_length q v
        have hpc : Hid (48 :: padN q v = padN (q + 1) v) := by
          rw [Hid, padN_cons, Nat.div_eq_of_lt Hq.out]; rfl
        have HY : Hid (1 ≤ q → wd ≤ q → padN q v = X) := fun a b => by
          rw [← HX.out]
          unfold itx
          have := nDigits_le a Hq.out
          rw [show max (Lib.nDigits v) wd = q by omega]
        have HP := Lib.hid (Lib.nDigits_pos v)
        obtain ⟨L, hL⟩ : ∃ L, L = padN q v := ⟨_, rfl⟩
        have Hq2 : Hid (v < 10 ^ (q + 1)) := Nat.lt_of_lt_of_le Hq.out (Nat.pow_le_pow_right (by decide) (Nat.le_succ q))
        rw [← hL] at hpc HY hpq ⊢
        clear hL
        by_cases hq0 : q = 0
        · subst hq0
          have : L = [] := List.length_eq_zero_iff.1 hpq
          subst this
          go_wp2_with fail
          go_roundw
          case rel => exact ⟨1, by have := HP.out; omega, by rw [← hpc.out]; rfl, Hq2.out, hE2⟩
          case measure => have := HP.out; simp [strLn, ByteArray.size]; omega
        · have hne : ((⟨L.toArray⟩ : ByteArray).toList == []) = false := by
            have : (⟨L.toArray⟩ : ByteArray).toList = L := by simp
            rw [this, beq_eq_false_iff_ne]
            rintro rfl
            simp at hpq; omega
          have hne2 : L.isEmpty = false := by
            cases L with
            | nil => simp at hpq; omega
            | cons _ _ => rfl
          by_cases hqw : q < wd
          · have a1 : (L.length : Int) < (wd : Int) := by omega
            go_wp2_with fail
            go_roundw
            case rel => exact ⟨q + 1, by omega, by rw [← hpc.out]; exact congrArg Value.string (app2_str [48] L), Hq2.out, hE2⟩
            case measure => simp [strLn, ByteArray.size]; omega
          · have a1 : ¬ (L.length : Int) < (wd : Int) := by omega
            have a2 : ¬ (v : Int) < 0 := by omega
            have HF := Lib.hid (HY.out (by omega) (by omega))
            go_wp2_with fail
            go_ret
            exact ⟨by rw [← HF.out]; rfl, hE.trans hE2⟩
    · have hjn2 := Lib.hid (hjn.out h0)
      have b1 : ((m : Int) != 0) = true := by rw [bne_iff_ne]; omega
      have hmod : Int.tmod (m : Int) 10 = (m : Int) % 10 := Int.tmod_eq_emod_of_nonneg (by omega)
      have hdiv : Int.tdiv (m : Int) 10 = ((m / 10 : Nat) : Int) := by rw [Int.tdiv_eq_ediv_of_nonneg (by omega)]; rfl
      have hdiv2 : (m : Int) / 10 = ((m / 10 : Nat) : Int) := rfl
      obtain ⟨y, hy⟩ : ∃ y, y = m / 10 := ⟨_, rfl⟩
      have hy2 : y ≤ 4611686018427387904 := by omega
      have hy3 : y < m := by omega
      rw [← hy] at hdiv hdiv2 Hm10
      clear hy
      have b2 : ¬ (m : Int) % 10 < 0 := by omega
      clear hjn hvj
      go_wp2_with fail
      go_roundw
      case rel => exact ⟨j + 1, hjn2.out, by rw [← hpc.out]; exact congrArg Value.string (app2_str [dg1 m] (padN j v)), by rw [Hm10.out], hE.alloc _⟩
      case measure => simp [intOf]; omega
end Go.Proofs.YtlmoibmmjonjoaaGreatDoor
