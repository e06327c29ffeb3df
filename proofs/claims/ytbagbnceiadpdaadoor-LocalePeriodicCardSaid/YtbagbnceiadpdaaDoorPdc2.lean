/- The walk of LocalePeriodic: the numbers behind mod. -/
import Derived.Test.YtbagbnceiadpdaaDoorPdc
namespace Go.Proofs.YtbagbnceiadpdaaDoor
set_option linter.unusedVariables false
set_option linter.unusedSimpArgs false
open Go.RowKit

theorem holds_fin (s : List UInt8) (n : Int) (P t : Nat) (v : Bool) (w : World) (hm : Lm w) (hs : s.length ≤ 200) (hn1 : -1099511627776 ≤ n) (hn2 : n ≤ 1099511627776) (hP : P ≤ 1000000000) (ht : t ≤ 255)
    (ho : okW (spl 32 s) = true) (hv : vlW n.natAbs (spl 32 s) = v) (h1 : Lib.contains s [110, 32, 105, 115] = false) (h2 : Lib.contains s [110, 32, 110, 111, 116] = false)
    (hd : ∀ i x, (spl 32 s)[i]? = some wMod → (spl 32 s)[i + 1]? = some x → numN x ∣ P) (z : Int) (hz : z = ((n.natAbs : Nat) : Int) + (P : Int) * (t : Int)) :
    Calls Tryd.prog 7 #[.string ⟨s.toArray⟩, .int .i64 z] w fun x w' => x = .returned (.tuple #[.bool v, .int .i64 0]) ∧ Ext w w' := by
  have hb : P * t ≤ 1000000000 * 255 := Nat.mul_le_mul hP ht
  have hz2 : z = ((n.natAbs + P * t : Nat) : Int) := by rw [hz]; simp
  have hi : inrB z = true := by
    unfold inrB
    exact decide_eq_true ⟨by omega, by omega⟩
  have hk : okR s = true := by rw [okR_eq, ho, decide_eq_true hs]; rfl
  obtain ⟨a, b⟩ := ho_ok hk hi
  refine holds_lit s z 0 v w hm (by omega) ⟨a, ?_⟩
  rw [b, hz2, Int.natAbs_natCast, per_val s P n.natAbs t ho h1 h2 hd, hv]
/-- What divides so far. -/
def Dv (L : List (List UInt8)) (j P : Nat) : Prop := ∀ i x, i < j → L[i]? = some wMod → L[i + 1]? = some x → numN x ∣ P
theorem Dv.zero (L : List (List UInt8)) (P : Nat) : Dv L 0 P := fun i x h => absurd h (Nat.not_lt_zero _)
theorem Dv.skip {L : List (List UInt8)} {j P : Nat} (h : Dv L j P) (hj : L[j]? ≠ some wMod) : Dv L (j + 1) P := by
  intro i x hi h1 h2
  rcases Nat.lt_or_ge i j with q | q
  · exact h i x q h1 h2
  · obtain rfl : i = j := by omega
    exact absurd h1 hj
theorem Dv.step {L : List (List UInt8)} {j P : Nat} {y : List UInt8} (h : Dv L j P) (hy : L[j + 1]? = some y) : Dv L (j + 1) (P * numN y) := by
  intro i x hi h1 h2
  rcases Nat.lt_or_ge i j with q | q
  · exact Nat.dvd_trans (h i x q h1 h2) (Nat.dvd_mul_right _ _)
  · obtain rfl : i = j := by omega
    rw [hy] at h2
    rw [← Option.some.inj h2]
    exact Nat.dvd_mul_left _ _
set_option maxRecDepth 100000 in
set_option maxHeartbeats 800000 in
/-- A rule in which n itself is not tested. -/
theorem pdc_yes (s : List UInt8) (n : Int) (t : Nat) (w : World) (hm : Lm w) (ha : s.length ≤ 200) (hb1 : -1099511627776 ≤ n) (hb2 : n ≤ 1099511627776) (ht : t ≤ 255) (h : okR s = true) (hc : Lib.contains s [110, 32, 105, 115] = false) (hd : Lib.contains s [110, 32, 110, 111, 116] = false) :
    Calls Tryd.prog 4 #[.string ⟨s.toArray⟩, .int .i64 n, .int .u8 (t : Int)] w fun e w' => e = .returned (.bool true) ∧ Ext w w' := by
  have Hm := Lib.hid hm
  clear hm
  obtain ⟨i1, i2⟩ := inr_small hb1 hb2
  have hs1 : s.length ≤ 4000 := by omega
  have hs2 : s.length ≤ 100000 := by omega
  have HA := Lib.hid (ho_ok h i1)
  have HB := Lib.hid (ho_ok h i2)
  have HC := Lib.hid hc
  have HD := Lib.hid hd
  have HOk : Hid (okW (spl 32 s) = true) := by rw [okR_eq, Bool.and_eq_true] at h; exact h.1
  rw [Int.natAbs_neg] at HB
  obtain ⟨p, hp⟩ : ∃ p, vlW n.natAbs (spl 32 s) = p := ⟨_, rfl⟩
  have HV := Lib.hid hp
  rw [hp] at HA HB
  clear h i1 i2 hc hd hp
  go_enter Tryd.func4, Tryd.ntmps4
  go_wp2_with (first
    | (go_at_call 6; refine (awake55_c _ Hm.out).mono ?_; rintro e w1 ⟨rfl, hE1⟩; have M1 := Lib.hid (Hm.out.ext hE1))
    | (go_at_call 7; with_reducible refine (holds_lit s n _ _ _ ?_ hs1 HA.out).mono ?_; exact M1.out; rintro e w2 ⟨rfl, hE2⟩; have M2 := Lib.hid (M1.out.ext hE2))
    | (go_at_call 7; with_reducible refine (holds_lit s (-n) _ _ _ ?_ hs1 HB.out).mono ?_; exact M2.out; rintro e w3 ⟨rfl, hE3⟩; have M3 := Lib.hid (M2.out.ext hE3))
    | (go_at_call 9; with_reducible refine (cont_nis s _ _ ?_ hs1 HC.out).mono ?_; exact M3.out; rintro e w5 ⟨rfl, q⟩; obtain rfl := q.symm)
    | (go_at_call 9; with_reducible refine (cont_nnot s _ _ ?_ hs1 HD.out).mono ?_; exact M3.out; rintro e w6 ⟨rfl, q⟩; obtain rfl := q.symm)
    | (go_at_call 10; (with_reducible refine (split_c s 32 _ ?_ hs2).mono ?_); exact M3.out; rintro e w7 ⟨rfl, rfl⟩)
    | go_in)
  have hPc := spl_count 32 s
  have hPl := spl_len 32 s
  have hcell : ∀ i (hi : i < (spl 32 s).length), (w3.alloc (.cells ((spl 32 s).map fun l => Value.string ⟨l.toArray⟩).toArray 9)).cell? ⟨w3.heap.size, i, none⟩ = some (.string ⟨((spl 32 s)[i]).toArray⟩) := by
    intro i hi
    rw [World.cell?_alloc_new]
    simp [hi]
  have hE4 : Ext w (w3.alloc (.cells ((spl 32 s).map fun l => Value.string ⟨l.toArray⟩).toArray 9)) := ((hE1.trans hE2).trans hE3).alloc _
  have M4 := Lib.hid (Hm.out.ext hE4)
  have hR : w3.heap.size < (w3.alloc (.cells ((spl 32 s).map fun l => Value.string ⟨l.toArray⟩).toArray 9)).heap.size := by simp
  have Hcell := Lib.hid hcell
  have HL : Hid (∀ i, (spl 32 s)[i]? = some wMod → ∃ x, (spl 32 s)[i + 1]? = some x ∧ numB x = true ∧ numN x ≠ 0) := fun i => mod_word s HOk.out i
  have HF : Hid (∀ (P : Nat) (z : Int) (w' : World), Lm w' → P ≤ 1000000000 → (∀ i x, (spl 32 s)[i]? = some wMod → (spl 32 s)[i + 1]? = some x → numN x ∣ P) → z = ((n.natAbs : Nat) : Int) + (P : Int) * (t : Int) → Calls Tryd.prog 7 #[.string ⟨s.toArray⟩, .int .i64 z] w' fun x w'' => x = .returned (.tuple #[.bool p, .int .i64 0]) ∧ Ext w' w'') := fun P z w' h1 h2 h3 h4 => holds_fin s n P t p w' h1 ha hb1 hb2 h2 ht HOk.out HV.out HC.out HD.out h3 z h4
  generalize w3.alloc (.cells ((spl 32 s).map fun l => Value.string ⟨l.toArray⟩).toArray 9) = W at hE4 M4 hR Hcell ⊢
  generalize w3.heap.size = R at hR Hcell ⊢
  clear hcell HOk HV HC HD HA HB M1 M2 M3 hE1 hE2 hE3
  have hPc' : (spl 32 s).length ≤ 201 := by omega
  clear hPc
  generalize spl 32 s = L at hPc' hPl Hcell HL HF ⊢
  have HPl : Hid (∀ x ∈ L, x.length ≤ 200) := fun x hx => Nat.le_trans (hPl x hx) ha
  clear hPl
  go_loopw [12, 68] (fun pe i wr => ∃ j P : Nat, j ≤ L.length ∧ i = .int .i64 (j : Int) ∧ pe = .int .i64 (P : Int) ∧ 1 ≤ P ∧ P ≤ 1000000000 ∧ Hid (Dv L j P) ∧ Ext W wr) (fun _ i _ => L.length - (intOf i).toNat)
  case atStart => exact ⟨0, 1, Nat.zero_le _, rfl, rfl, Nat.le_refl _, by decide, Dv.zero L 1, Ext.refl _⟩
  case round =>
    obtain ⟨j, P, hj, rfl, rfl, hP1, hP2, HDv, hEr⟩ := hrel
    by_cases hlt : j < L.length
    · have hce := (hEr.cells _ _ hR).trans (Hcell.out j hlt)
      by_cases hmo : L[j] = wMod
      · obtain ⟨x, hx1, hx2, hx3⟩ := HL.out j (by rw [List.getElem?_eq_getElem hlt, hmo])
        obtain ⟨hlt2, hx4⟩ := List.getElem?_eq_some_iff.1 hx1
        have hce2 := (hEr.cells _ _ hR).trans (Hcell.out (j + 1) hlt2)
        rw [hx4] at hce2
        rw [hmo] at hce
        replace hce : wr.cell? ⟨R, j, none⟩ = some (.string ⟨#[109, 111, 100]⟩) := hce
        have hnb := (numB_iff x).1 hx2
        have HX : Hid (1 ≤ x.length ∧ x.length ≤ 9 ∧ ∀ c ∈ x, isDg c = true) := ⟨hnb.1, hnb.2.1, List.all_eq_true.1 hnb.2.2.2⟩
        have hval : numN x = val x := by unfold numN; rw [if_pos hx2]
        rw [hval] at hx3
        have HStep : Hid (Dv L (j + 1) (P * val x)) := by have := HDv.out.step hx1; rw [hval] at this; exact this
        have hv9 : val x < 1000000000 := Nat.lt_of_lt_of_le (val_lt x HX.out.2.2) (Nat.pow_le_pow_right (by decide) HX.out.2.1)
        clear hx1 hx2 hx4 hnb hval hmo
        obtain ⟨m, hm⟩ : ∃ m, m = val x := ⟨_, rfl⟩
        have HA : ∀ w', Calls Tryd.prog 11 #[.string ⟨x.toArray⟩] w' fun e w'' => e = .returned (.tuple #[.int .i64 (m : Nat), .nilIface]) ∧ Ext w' w'' := fun w' => by rw [hm]; exact atoi_c x w' HX.out.1 HX.out.2.1 HX.out.2.2
        have HA' := Lib.hid HA
        rw [← hm] at hx3 hv9 HStep
        clear HA hm HX
        have hm1 : 1 ≤ m := by omega
        have d1 : decide ((L.length : Int) ≤ (j : Int) + 1) = false := by simp; omega
        obtain ⟨Q, hQ⟩ : ∃ Q, Q = 1000000000 / m := ⟨_, rfl⟩
        have hQ1 : (1000000000 : Int) / (m : Int) = (Q : Int) := by rw [hQ]; exact (Int.natCast_ediv 1000000000 m).symm
        by_cases hq : P ≤ Q
        · have hpm : P * m ≤ 1000000000 := (Nat.le_div_iff_mul_le (by omega)).1 (by rw [← hQ]; exact hq)
          have hpm1 : (P : Int) * (m : Int) ≤ 1000000000 := by have h := Int.ofNat_le.2 hpm; rw [Int.natCast_mul] at h; exact h
          have hpm2 : 1 ≤ (P : Int) * (m : Int) := by have : 1 ≤ P * m := Nat.mul_le_mul hP1 hm1; exact_mod_cast this
          have hQb : Q ≤ 1000000000 := by rw [hQ]; exact Nat.div_le_self _ _
          clear hQ
          go_wp2_with (first
            | (go_at_call 11; refine (HA'.out _).mono ?_; rintro e w8 ⟨rfl, hE8⟩)
            | go_in)
          refine ⟨⟨j + 1, P * m, by omega, by simp, by simp, by exact_mod_cast hpm2, hpm, HStep, hEr.trans hE8⟩, ?_⟩
          simp only [intOf]; omega
        · clear hQ
          go_wp2_with (first
            | (go_at_call 11; refine (HA'.out _).mono ?_; rintro e w8 ⟨rfl, hE8⟩)
            | go_in)
          go_ret
          exact ⟨rfl, (hE4.trans hEr).trans hE8⟩
      · have HStep := Lib.hid (HDv.out.skip (by rw [List.getElem?_eq_getElem hlt]; intro q; exact hmo (Option.some.inj q)))
        obtain ⟨x, hx⟩ : ∃ x, x = L[j] := ⟨_, rfl⟩
        rw [← hx] at hce hmo
        have t1 : (x == [109, 111, 100]) = false := by rw [beq_eq_false_iff_ne]; exact hmo
        clear hx hmo
        go_wp2
        refine ⟨⟨j + 1, P, by omega, by simp, rfl, hP1, hP2, HStep, hEr⟩, ?_⟩
        simp only [intOf]; omega
    · have hjl : j = L.length := by omega
      subst hjl
      have HAll : Hid (∀ i x, L[i]? = some wMod → L[i + 1]? = some x → numN x ∣ P) := fun i x h1 h2 => HDv.out i x (List.getElem?_eq_some_iff.1 h1).1 h1 h2
      have Mr := Lib.hid (M4.out.ext hEr)
      have hpt : P * t ≤ 1000000000 * 255 := Nat.mul_le_mul hP2 ht
      have hpt1 : (P : Int) * (t : Int) ≤ 255000000000 := by have h := Int.ofNat_le.2 hpt; rw [Int.natCast_mul] at h; exact h
      have hpt2 : 0 ≤ (P : Int) * (t : Int) := by exact_mod_cast Nat.zero_le (P * t)
      by_cases hn : 0 ≤ n
      · have hn2 : -n ≤ n := by omega
        go_wp2_with (first
          | (go_at_call 7; refine (HF.out P _ _ Mr.out hP2 HAll.out (by omega)).mono ?_; rintro e w9 ⟨rfl, hE9⟩)
          | go_in)
        go_ret
        exact ⟨rfl, (hE4.trans hEr).trans hE9⟩
      · have hn2 : ¬ -n ≤ n := by omega
        go_wp2_with (first
          | (go_at_call 7; refine (HF.out P _ _ Mr.out hP2 HAll.out (by omega)).mono ?_; rintro e w9 ⟨rfl, hE9⟩)
          | go_in)
        go_ret
        exact ⟨rfl, (hE4.trans hEr).trans hE9⟩
theorem pdc_walk (s : ByteArray) (n t : Int) (w : World) (hm : Lm w) (_ : -9223372036854775808 ≤ n) (_ : n ≤ 9223372036854775807) (h1 : 0 ≤ t) (h2 : t ≤ 255) :
    Calls Tryd.prog 4 #[.string s, .int .i64 n, .int .u8 t] w fun e w' => e = .returned (.bool true) ∧ Ext w w' := by
  obtain ⟨a, rfl⟩ : ∃ l : List UInt8, s = ⟨l.toArray⟩ := ⟨s.data.toList, ba_mk s⟩
  by_cases q : 200 < a.length ∨ n < -1099511627776 ∨ 1099511627776 < n
  · exact pdc_out a n t w hm q
  · have q1 : a.length ≤ 200 := by omega
    have q2 : -1099511627776 ≤ n := by omega
    have q3 : n ≤ 1099511627776 := by omega
    cases hk : okR a with
    | false => exact pdc_no a n t w hm q1 q2 q3 (.inl hk)
    | true =>
      cases hc : Lib.contains a [110, 32, 105, 115] with
      | true => exact pdc_no a n t w hm q1 q2 q3 (.inr ⟨hk, .inl hc⟩)
      | false =>
        cases hd : Lib.contains a [110, 32, 110, 111, 116] with
        | true => exact pdc_no a n t w hm q1 q2 q3 (.inr ⟨hk, .inr ⟨hc, hd⟩⟩)
        | false =>
          obtain ⟨k, rfl⟩ : ∃ k : Nat, t = (k : Int) := ⟨t.toNat, by omega⟩
          exact pdc_yes a n k w hm q1 q2 q3 (by omega) hk hc hd
end Go.Proofs.YtbagbnceiadpdaaDoor
