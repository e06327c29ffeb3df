/- Recurrence rules: the reference's Split. -/
import Derived.Test.YtgndogpgfgliaaaGreatDoorQ33
import Derived.Test.YtgndogpgfgliaaaGreatDoorQ17
import Derived.Test.YtgndogpgfgliaaaGreatDoorQ11
import Derived.Test.YtgndogpgfgliaaaGreatDoorQ23
import Derived.Test.YtgndogpgfgliaaaGreatDoorQ15
namespace Go.Proofs.YtgndogpgfgliaaaGreatDoor
set_option linter.unusedVariables false
set_option linter.unnecessarySimpa false
set_option linter.unusedSimpArgs false
open Go.RowKit

theorem sv_set (l : List (List UInt8)) (x y : List UInt8) : (sv (l ++ [x])).set l.length (.string ⟨y.toArray⟩) = sv (l ++ [y]) := by
  unfold sv
  rw [List.map_append, List.map_append]
  have : l.length = (l.map fun s => Value.string ⟨s.toArray⟩).length := by simp
  rw [this, List.set_append_right _ _ (Nat.le_refl _)]
  simp
/-- Pieces in a slice of their own. -/
def OwZ (base : Nat) (P : List (List UInt8)) (o : Value) (w : World) : Prop := ∃ g cap, o = .slice (some ⟨g, 0, none⟩) P.length cap ∧ w.ownsRow base 9 1 (.slice (some ⟨g, 0, none⟩) P.length cap) P.length (sv P)
theorem OwZ.mk {base n : Nat} {P : List (List UInt8)} {v : Value} {xs : List Value} {w : World} (h : w.ownsRow base 9 1 v n xs) (hn : n = P.length) (hx : xs = sv P) (h0 : P ≠ []) : OwZ base P v w := by
  subst hn; subst hx
  have h' := h
  obtain ⟨_, ⟨h1, h2⟩ | ⟨g, cap, cur, rfl, _⟩⟩ := h
  · exact absurd (List.length_eq_zero_iff.1 h2) h0
  · exact ⟨g, cap, rfl, h'⟩
set_option maxRecDepth 100000 in
set_option maxHeartbeats 4000000 in
theorem rsplit_c (s : List UInt8) (c : UInt8) (w : World) (hs : s.length ≤ 100000) :
    Calls Tryz.prog 55 #[.string ⟨s.toArray⟩, .int .u8 c.toNat] w fun e w' => ∃ x, e = .returned x ∧ OwZ w.heap.size (spl c s) x w' ∧ Ext w w' := by
  obtain ⟨i0, hi, hz0, hz1, hz2⟩ := info_parts infoStr
  have Hi := Lib.hid hi
  have Hz0 := Lib.hid hz0
  have Hz1 := Lib.hid hz1
  have Hz2 := Lib.hid hz2
  have hsn := fun (j : Nat) (h : j < s.length) => spl_snoc c (s[j]) (s.take j)
  have HSn := Lib.hid hsn
  have hpl : ∀ j, (spl c (s.take j)).length ≤ j + 1 := fun j => Nat.le_trans (spl_count c _) (by rw [List.length_take]; omega)
  have HPl := Lib.hid hpl
  have hpb : ∀ j, ∀ x ∈ spl c (s.take j), x.length ≤ 100000 := fun j x hx => Nat.le_trans (spl_len c _ x hx) (by rw [List.length_take]; omega)
  have HPb := Lib.hid hpb
  clear hi hz0 hz1 hz2 hsn hpl hpb
  go_enter Tryz.func55, Tryz.ntmps55
  go_wp2_with fail
  go_loopw [5, 6] (fun o i wr => ∃ j : Nat, j ≤ s.length ∧ i = .int .i64 (j : Int) ∧ OwZ w.heap.size (spl c (s.take j)) o wr ∧ Ext w wr) (fun _ i _ => s.length - (intOf i).toNat)
  case atStart => exact ⟨0, Nat.zero_le _, rfl, ⟨w.heap.size, 1, rfl, World.ownsRow_lit w #[.string ⟨#[]⟩] 1 (Nat.le_refl _) (by decide) rfl⟩, (Ext.refl w).alloc _⟩
  case round =>
    obtain ⟨j, hj, rfl, ⟨g, cap, rfl, hown⟩, hE⟩ := hrel
    have hpl := HPl.out j
    by_cases hlt : j < s.length
    · have hs1 := HSn.out j hlt
      have htk : s.take (j + 1) = s.take j ++ [s[j]] := List.take_succ_eq_append_getElem hlt
      rw [← htk] at hs1
      obtain ⟨x, hx⟩ : ∃ x, x = s[j] := ⟨_, rfl⟩
      have bg := bget s j hlt x hx
      have hbm := bmid s j (j + 1)
      have hbl : (s.drop j).take (j + 1 - j) = [x] := by
        rw [List.drop_eq_getElem_cons hlt, ← hx, show j + 1 - j = 1 by omega]; rfl
      rw [hbl] at hbm
      rw [← hx] at hs1
      have HS1 := Lib.hid hs1
      have HPj := Lib.hid (HPb.out j)
      clear hs1 htk hbl hx
      obtain ⟨P, hP⟩ : ∃ P, P = spl c (s.take j) := ⟨_, rfl⟩
      rw [← hP] at HS1 hown hpl HPj ⊢
      have hne : P ≠ [] := by rw [hP]; exact spl_ne _ _
      clear hP
      by_cases hc : x = c
      · have z1 : ((x.toNat : Int) == (c.toNat : Int)) = true := by rw [hc]; simp
        have hS2 : Hid (spl c (s.take (j + 1)) = P ++ [[]]) := by rw [Hid, HS1.out, if_pos hc]
        clear hc HS1 hbm
        go_wp2_with (at_builtin; refine wpList_append_own _ rfl _ _ 55 rfl w.heap.size 9 i0 (.string ByteArray.empty) 1 16 Tryz.underlying55 Hi.out Hz0.out Hz1.out Hz2.out rfl (by decide) _ _ _ rfl (hown.alloc _) ⟨wr.heap.size, 0, none⟩ 1 1 [.string ⟨#[]⟩] rfl rfl (cell_one_new _ _ _) (fun x hx => by simp at hx; subst hx; rfl) (by unfold maxLen; omega) (by omega) (by have := hE.size; simp; omega) ?_; intro v' w3 hown' hgrow3 hnil3)
        have hExt := ext_grown (v := .slice (some ⟨g, 0, none⟩) P.length cap) (hE.alloc _) (hown.alloc _) hgrow3
        go_roundw
        case rel => exact ⟨j + 1, by omega, by go_num, by rw [hS2.out]; exact OwZ.mk hown' (by simp) (by rw [sv_app]) (by simp), hExt⟩
        case measure => simp [intOf]; omega
      · have z1 : ((x.toNat : Int) == (c.toNat : Int)) = false := by
          rw [beq_eq_false_iff_ne]; intro q; exact hc (UInt8.toNat_inj.1 (by omega))
        obtain ⟨Q, l, hQ⟩ : ∃ Q l, P = Q ++ [l] := ⟨P.dropLast, P.getLast hne, (List.dropLast_concat_getLast hne).symm⟩
        subst hQ
        have hS2 : Hid (spl c (s.take (j + 1)) = Q ++ [l ++ [x]]) := by
          have e : (Q ++ [l]).getLastD [] = l := by rw [List.getLastD_eq_getLast?]; simp
          rw [Hid, HS1.out, if_neg hc, e]
          simp
        have hll := HPj.out l (by simp)
        obtain ⟨m, hm⟩ : ∃ m, m = Q.length := ⟨_, rfl⟩
        have hlm : (Q ++ [l]).length = m + 1 := by simp [hm]
        have hown1 := own_ext hown ((Ext.refl wr).drew)
        have hE1 := hE.drew
        have k0 := hown1.cellAt m (by rw [hlm]; omega)
        have f0 := hown1.frozenAt m
        have hgz := hown1.lt g rfl
        have hgz2 := hgz.2
        have hst := hown.stored m (.string ⟨(l ++ [x]).toArray⟩)
        have ksv : (sv (Q ++ [l]))[m]? = some (.string ⟨l.toArray⟩) := by unfold sv; rw [List.map_append, List.getElem?_append_right (by simp [hm])]; simp [hm]
        rw [ksv] at k0
        rw [hm, sv_set, ← hm] at hst
        rw [hlm] at hst
        have Hst := Lib.hid hst
        have hm1 : ((m + 1 : Nat) : Int) - 1 = (m : Int) := by omega
        rw [hlm] at hpl ⊢
        have hcat : (⟨l.toArray⟩ : ByteArray) ++ ⟨[x].toArray⟩ = ⟨(l ++ [x]).toArray⟩ := by apply ByteArray.ext; simp
        have Hg := Lib.hid hgz
        have Hl := Lib.hid hlm
        clear hc HS1 hne HPj hst ksv hlm hown hown1 hm hgz
        go_wp2_with fail
        go_region
        all_goals
          go_wp2_with fail
          go_roundw
          case rel =>
            refine ⟨j + 1, by omega, by go_num, ?_, (ext_grown_at hE Hst.out.2 Hg.out.1).drew⟩
            rw [hS2.out]
            have e1 : (Q ++ [l ++ [x]]).length = m + 1 := by rw [← Hl.out]; simp
            refine ⟨g, cap, by rw [e1], ?_⟩
            rw [e1]
            exact own_ext Hst.out.1 ((Ext.refl _).drew)
          case measure => simp [intOf]; omega
    · obtain rfl : j = s.length := by omega
      rw [show s.take s.length = s from List.take_length] at hown hpl ⊢
      go_wp2_with fail
      go_ret
      exact ⟨_, rfl, ⟨g, cap, rfl, hown⟩, hE⟩
end Go.Proofs.YtgndogpgfgliaaaGreatDoor
/- Recurrence rules: the reference's Numbers. -/
namespace Go.Proofs.YtgndogpgfgliaaaGreatDoor
set_option linter.unusedVariables false
set_option linter.unnecessarySimpa false
set_option linter.unusedSimpArgs false
open Go.RowKit Go.Maps

theorem rdS_own {w : World} {base g n cap : Nat} {P : List (List UInt8)} (h : w.ownsRow base 9 1 (.slice (some ⟨g, 0, none⟩) n cap) n (sv P)) : RdS P g 0 w := by
  have hn : n = P.length := by
    have := h.1
    unfold sv at this
    simp at this
    omega
  refine ⟨(h.lt g rfl).2, fun i hi => ?_⟩
  rw [Nat.zero_add, h.cellAt i (by omega)]
  unfold sv
  simp [hi]
set_option maxRecDepth 100000 in
set_option maxHeartbeats 2000000 in
theorem rnumbers_c (s : List UInt8) (w : World) (hs : s.length ≤ 50000) :
    Calls Tryz.prog 60 #[.string ⟨s.toArray⟩] w (NumsR s w) := by
  have hcnt := spl_count 44 s
  have hlen := spl_len 44 s
  obtain ⟨S, hS⟩ : ∃ S, S = spl 44 s := ⟨_, rfl⟩
  have HSp : Hid (Calls Tryz.prog 55 #[.string ⟨s.toArray⟩, .int .u8 44] w fun e w' => ∃ x, e = .returned x ∧ OwZ w.heap.size S x w' ∧ Ext w w') := by
    rw [hS]
    exact rsplit_c s 44 w (by omega)
  have HNZ : Hid (numsZ s = allO numZ S) := by rw [Hid, hS]; rfl
  rw [← hS] at hcnt hlen
  have HL := Lib.hid hlen
  obtain ⟨i0, hi, hz0, hz1, hz2⟩ := info_parts infoIv
  have Hi := Lib.hid hi
  have Hz0 := Lib.hid hz0
  have Hz1 := Lib.hid hz1
  have Hz2 := Lib.hid hz2
  clear hi hz0 hz1 hz2 hS hlen
  go_enter Tryz.func60, Tryz.ntmps60
  go_upto_region 3 with (go_at_call 55; (with_reducible refine HSp.out.mono ?_); rintro e w1 ⟨xS, rfl, ⟨gS, cS, rfl, hoS⟩, hE1⟩)
  have hR := rdS_own hoS
  have HR := Lib.hid hR
  go_wp2_with fail
  have HE1 := Lib.hid hE1
  clear hR hE1 hoS
  go_loopw [4, 6] (fun o i wr => ∃ (l : List Int) (ao : Option Addr) (cv : Nat), l.length ≤ S.length ∧ o = .slice ao l.length cv ∧ i = .int .i64 (l.length : Int) ∧ (∀ k (h : k < S.length) (h2 : k < l.length), numZ S[k] = some l[k]) ∧ wr.ownsRow w1.heap.size 3 1 o l.length (iv l) ∧ Ext w1 wr) (fun _ i _ => S.length - (intOf i).toNat)
  case atStart => exact ⟨[], none, 0, Nat.zero_le _, rfl, rfl, (fun k h h2 => by cases h2), World.ownsRow_nil _ _ _ _, Ext.refl _⟩
  case round =>
    obtain ⟨l, ao, cv, hl, rfl, rfl, hk, hown, hE⟩ := hrel
    have hRr := HR.out.ext hE
    by_cases hlt : l.length < S.length
    · have hRz := hRr.1
      have x0 := hRr.2 l.length hlt
      rw [Nat.zero_add] at x0
      have hx5 := HL.out _ (List.getElem_mem hlt)
      obtain ⟨x, hx⟩ : ∃ x, x = S[l.length] := ⟨_, rfl⟩
      rw [← hx] at x0 hx5
      have Hx := Lib.hid hx
      have HRr := Lib.hid hRr
      have Hk := Lib.hid hk
      clear hx hRr hk
      cases hz : numZ x with
      | none =>
        have HNu : Hid (∀ w', Calls Tryz.prog 59 #[.string ⟨x.toArray⟩] w' fun e w'' => e = .returned (.tuple #[.int .i64 0, .bool false]) ∧ w' = w'') := fun w' => by
          have := rnum_c x w' (by omega)
          rwa [hz] at this
        have hn : numsZ s = none := by
          rw [HNZ.out]
          exact allO_none hlt (by rw [← Hx.out]; exact hz)
        have Hn := Lib.hid hn
        clear hz hn
        go_wp2_with (go_at_call 59; (with_reducible refine (HNu.out _).mono ?_); rintro e w2 ⟨rfl, rfl⟩)
        go_ret2
        unfold NumsR
        rw [Hn.out]
        exact ⟨rfl, HE1.out.trans hE⟩
      | some n =>
        have HNu : Hid (∀ w', Calls Tryz.prog 59 #[.string ⟨x.toArray⟩] w' fun e w'' => e = .returned (.tuple #[.int .i64 n, .bool true]) ∧ w' = w'') := fun w' => by
          have := rnum_c x w' (by omega)
          rwa [hz] at this
        have HK2 : Hid (∀ k (h : k < S.length) (h2 : k < (l ++ [n]).length), numZ S[k] = some (l ++ [n])[k]) := fun k h h2 => by
          by_cases q : k < l.length
          · rw [List.getElem_append_left q]; exact Hk.out k h q
          · have : k = l.length := by simp at h2; omega
            subst this
            rw [← Hx.out, hz]
            simp
        clear hz
        go_wp2_with (first
          | (go_at_call 59; (with_reducible refine (HNu.out _).mono ?_); rintro e w2 ⟨rfl, rfl⟩)
          | (at_builtin; refine wpList_append_own _ rfl _ _ 22 rfl w1.heap.size 3 i0 (.int .i64 0) 1 8 Tryz.underlying22 Hi.out Hz0.out Hz1.out Hz2.out rfl (by decide) _ _ _ rfl (hown.alloc _) ⟨wr.heap.size, 0, none⟩ 1 1 [.int .i64 n] rfl rfl (cell_one_new _ _ _) (fun x hx => by simp at hx; subst hx; rfl) (by unfold maxLen; omega) (by omega) (by have := hE.size; simp; omega) ?_; intro v' w3 hown' hgrow3 hnil3))
        have hExt := ext_grown (v := .slice ao l.length cv) (hE.alloc _) (hown.alloc _) hgrow3
        obtain ⟨ao2, cv2, rfl⟩ := own_slice hown'
        go_roundw
        case rel => exact ⟨l ++ [n], ao2, cv2, by rw [List.length_append]; exact hlt, by rw [List.length_append]; rfl, by rw [List.length_append]; go_num, HK2.out, by rw [iv_app, List.length_append]; exact hown', hExt⟩
        case measure => simp [intOf]; omega
    · obtain hll : l.length = S.length := by omega
      have hn : numsZ s = some l := by
        rw [HNZ.out]
        exact allO_some hll (fun i h => hk i h (by omega))
      have Hn := Lib.hid hn
      have hV := IsV.of_own hown rfl
      have hbs := own_base hown
      have hsz := HE1.out.size
      clear hn hk
      go_wp2_with fail
      go_ret2
      unfold NumsR
      rw [Hn.out]
      exact ⟨ao, cv, rfl, hV, fun R o m e => Nat.le_trans hsz (hbs R o m e), HE1.out.trans hE⟩
end Go.Proofs.YtgndogpgfgliaaaGreatDoor
/- Recurrence rules: the reference's words: place, weekdays, frequencies, Names. -/
namespace Go.Proofs.YtgndogpgfgliaaaGreatDoor
set_option linter.unusedVariables false
set_option linter.unnecessarySimpa false
set_option linter.unusedSimpArgs false
open Go.RowKit

theorem rwkd_c (w : World) : Calls Tryz.prog 41 #[] w fun e w' => (∃ H, e = .returned (.slice (some ⟨H, 0, none⟩) 7 7) ∧ RdS wkW H 0 w') ∧ Ext w w' := by
  have hR0 : RdS wkW w.heap.size 0 (w.alloc (.cells (sv wkW).toArray 9)) := by
    refine ⟨by simp, fun i hi => ?_⟩
    rw [Nat.zero_add, World.cell?_alloc_new]
    simp [sv, hi]
  go_enter Tryz.func41, Tryz.ntmps41
  go_wp2_with fail
  go_ret
  exact ⟨⟨_, rfl, hR0⟩, (Ext.refl w).alloc _⟩
theorem rfrq_c (w : World) : Calls Tryz.prog 36 #[] w fun e w' => (∃ H, e = .returned (.slice (some ⟨H, 0, none⟩) 5 5) ∧ RdS frW H 0 w') ∧ Ext w w' := by
  have hR0 : RdS frW w.heap.size 0 (w.alloc (.cells (sv frW).toArray 9)) := by
    refine ⟨by simp, fun i hi => ?_⟩
    rw [Nat.zero_add, World.cell?_alloc_new]
    simp [sv, hi]
  go_enter Tryz.func36, Tryz.ntmps36
  go_wp2_with fail
  go_ret
  exact ⟨⟨_, rfl, hR0⟩, (Ext.refl w).alloc _⟩
theorem rnms_c (w : World) : Calls Tryz.prog 39 #[] w fun e w' => (∃ H, e = .returned (.slice (some ⟨H, 0, none⟩) 14 14) ∧ RdS ptW H 0 w') ∧ Ext w w' := by
  have hR0 : RdS ptW w.heap.size 0 (w.alloc (.cells (sv ptW).toArray 9)) := by
    refine ⟨by simp, fun i hi => ?_⟩
    rw [Nat.zero_add, World.cell?_alloc_new]
    simp [sv, hi]
  go_enter Tryz.func39, Tryz.ntmps39
  go_wp2_with fail
  go_ret
  exact ⟨⟨_, rfl, hR0⟩, (Ext.refl w).alloc _⟩
set_option maxRecDepth 100000 in
set_option maxHeartbeats 2000000 in
theorem rplace_c (W : List (List UInt8)) (H c : Nat) (s : List UInt8) (p : Nat) (w : World) (hR : RdS W H 0 w) (hW : W.length ≤ 100) (hc : W.length ≤ c) (hp : plW W s = p) :
    Calls Tryz.prog 56 #[.slice (some ⟨H, 0, none⟩) W.length c, .string ⟨s.toArray⟩] w fun e w' => e = .returned (.int .i64 (p : Int)) ∧ w = w' := by
  have HHit : Hid (∀ j, j < W.length → W.getD j [] = s → (∀ i, i < j → W.getD i [] ≠ s) → p = j + 1) := fun j hj h1 h2 => by rw [← hp]; exact plW_hit W s j hj h1 h2
  have HMiss : Hid ((∀ i, i < W.length → W.getD i [] ≠ s) → p = 0) := fun h => by rw [← hp]; exact plW_miss W s h
  have HR := Lib.hid hR
  clear hp hR
  go_enter Tryz.func56, Tryz.ntmps56
  go_wp2_with fail
  go_loopw [5] (fun i wr => ∃ j : Nat, j ≤ W.length ∧ i = .int .i64 (j : Int) ∧ (∀ k, k < j → W.getD k [] ≠ s) ∧ w = wr) (fun i _ => W.length - (intOf i).toNat)
  case atStart => exact ⟨0, Nat.zero_le _, rfl, (fun k h => by omega), rfl⟩
  case round =>
    obtain ⟨j, hj, rfl, hk, rfl⟩ := hrel
    have HK := Lib.hid hk
    clear hk
    by_cases hlt : j < W.length
    · have hRz := HR.out.1
      have x0 := HR.out.2 j hlt
      rw [Nat.zero_add] at x0
      have hg : W.getD j [] = W[j] := by simp [List.getD, hlt]
      obtain ⟨x, hx⟩ : ∃ x, x = W[j] := ⟨_, rfl⟩
      rw [← hx] at x0 hg
      have Hg := Lib.hid hg
      clear hx hg
      by_cases he : x = s
      · subst he
        have hpj := HHit.out j hlt Hg.out HK.out
        have Hpj := Lib.hid hpj
        clear hpj
        go_wp2_with fail
        go_ret
        exact ⟨by rw [Hpj.out]; rfl, rfl⟩
      · have HK2 : Hid (∀ k, k < j + 1 → W.getD k [] ≠ s) := fun k h => by
          by_cases q : k = j
          · subst q; rw [Hg.out]; exact he
          · exact HK.out k (by omega)
        go_wp2_with fail
        · exfalso; clear HHit HMiss HR HK HK2 Hg; simp_all
        go_roundw
        case rel => exact ⟨j + 1, by omega, by go_num, HK2.out, by first | rfl | trivial⟩
        case measure => simp [intOf]; omega
    · obtain rfl : j = W.length := by omega
      have hpj := HMiss.out HK.out
      have Hpj := Lib.hid hpj
      clear hpj
      go_wp2_with fail
      go_ret
      exact ⟨by rw [Hpj.out]; rfl, rfl⟩
end Go.Proofs.YtgndogpgfgliaaaGreatDoor
