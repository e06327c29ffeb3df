/- The walk of the reference's ParseDuration. -/
import Derived.Test.YtplckoffiebibaaDoorRDur
import Derived.Test.YtplckoffiebibaaDoorPDur
namespace Go.Proofs.YtplckoffiebibaaDoor
set_option linter.unusedVariables false
set_option linter.unusedSimpArgs false
open Go.RowKit

theorem rdigit_c (c : UInt8) (w : World) : Calls Tryd.prog 61 #[.int .u8 c.toNat] w fun e w' => e = .returned (.bool (isDg c)) ∧ w = w' := by
  by_cases a : 48 ≤ (c.toNat : Int)
  · by_cases b : (c.toNat : Int) ≤ 57
    · have h : isDg c = true := isDg_iff.2 (by omega)
      rw [h]
      go_enter Tryd.func61, Tryd.ntmps61
      go_wp2
      go_ret
      exact ⟨rfl, rfl⟩
    · have h : isDg c = false := by rw [← Bool.not_eq_true, isDg_iff]; omega
      rw [h]
      go_enter Tryd.func61, Tryd.ntmps61
      go_wp2
      go_ret
      exact ⟨rfl, rfl⟩
  · have h : isDg c = false := by rw [← Bool.not_eq_true, isDg_iff]; omega
    rw [h]
    have d1 : decide (48 ≤ (c.toNat : Int)) = false := by simp; omega
    go_enter Tryd.func61, Tryd.ntmps61
    go_wp2
    go_ret
    exact ⟨rfl, rfl⟩
theorem u8_beq {c : UInt8} {k : Nat} (hk : k < 256) : (((c.toNat : Nat) : Int) == (k : Int)) = decide (c = UInt8.ofNat k) := by
  rw [Bool.eq_iff_iff, beq_iff_eq, decide_eq_true_eq, ← UInt8.toNat_inj, UInt8.toNat_ofNat']
  omega
theorem rsize_c (c : UInt8) (t : Bool) (w : World) : Calls Tryd.prog 62 #[.int .u8 c.toNat, .bool t] w fun e w' => e = .returned (.tuple #[.int .i64 ((unitOf c t).1 : Nat), .int .i64 ((unitOf c t).2 : Nat)]) ∧ w = w' := by
  have e1 : ((c.toNat : Int) == 68) = decide (c = UInt8.ofNat 68) := u8_beq (c := c) (k := 68) (by omega)
  have e2 : ((c.toNat : Int) == 72) = decide (c = UInt8.ofNat 72) := u8_beq (c := c) (k := 72) (by omega)
  have e3 : ((c.toNat : Int) == 77) = decide (c = UInt8.ofNat 77) := u8_beq (c := c) (k := 77) (by omega)
  have e4 : ((c.toNat : Int) == 83) = decide (c = UInt8.ofNat 83) := u8_beq (c := c) (k := 83) (by omega)
  obtain ⟨b1, q1⟩ : ∃ b1, b1 = decide (c = UInt8.ofNat 68) := ⟨_, rfl⟩
  obtain ⟨b2, q2⟩ : ∃ b2, b2 = decide (c = UInt8.ofNat 72) := ⟨_, rfl⟩
  obtain ⟨b3, q3⟩ : ∃ b3, b3 = decide (c = UInt8.ofNat 77) := ⟨_, rfl⟩
  obtain ⟨b4, q4⟩ : ∃ b4, b4 = decide (c = UInt8.ofNat 83) := ⟨_, rfl⟩
  have Hu : Hid (unitOf c t = if b1 ∧ t = false then (86400, 1) else if b2 ∧ t = true then (3600, 2) else if b3 ∧ t = true then (60, 3) else if b4 ∧ t = true then (1, 4) else (0, 0)) := by
    unfold Hid unitOf
    rw [q1, q2, q3, q4]
    simp
  rw [← q1] at e1
  rw [← q2] at e2
  rw [← q3] at e3
  rw [← q4] at e4
  clear q1 q2 q3 q4
  cases t <;> cases b1 <;> cases b2 <;> cases b3 <;> cases b4
  all_goals
    go_enter Tryd.func62, Tryd.ntmps62
    go_wp2
    go_ret2
    exact ⟨by rw [Hu.out]; rfl, rfl⟩

theorem refP_nil (t : Bool) (last : Nat) (opn : Bool) (V : Nat) : refP t last opn V [] = if opn then none else some V := by rw [refP.eq_def]
theorem refP_T (t : Bool) (last : Nat) (opn : Bool) (V : Nat) (r : List UInt8) : refP t last opn V (84 :: r) = if t then none else refP true last true V r := by
  rw [refP.eq_def]
  simp
theorem refP_end (t : Bool) (last : Nat) (opn : Bool) (V : Nat) (c : UInt8) (r : List UInt8) (hc : c ≠ 84) (h : rst (c :: r) = []) : refP t last opn V (c :: r) = none := by
  rw [refP.eq_def]
  simp only
  rw [if_neg hc]
  split
  · rfl
  · rename_i d r2 hr; rw [h] at hr; cases hr
theorem refP_no (t : Bool) (last : Nat) (opn : Bool) (V : Nat) (c : UInt8) (r : List UInt8) (hc : c ≠ 84) (h : dgN (c :: r) = 0) : refP t last opn V (c :: r) = none := by
  rw [refP.eq_def]
  simp only
  rw [if_neg hc]
  split
  · rfl
  · rw [if_pos h]
theorem refP_num (t : Bool) (last : Nat) (opn : Bool) (V : Nat) (c : UInt8) (r : List UInt8) (d : UInt8) (r2 : List UInt8) (hc : c ≠ 84) (h0 : dgN (c :: r) ≠ 0) (h : rst (c :: r) = d :: r2) :
    refP t last opn V (c :: r) = if (unitOf d t).2 ≤ last then none else refP t (unitOf d t).2 false (V + numV (c :: r) * (unitOf d t).1) r2 := by
  rw [refP.eq_def]
  simp only
  rw [if_neg hc]
  split
  · rename_i hr; rw [h] at hr; cases hr
  · rename_i d' r2' hr
    rw [h] at hr
    injection hr with e1 e2
    subst e1 e2
    rw [if_neg h0]
theorem unit_bd (d : UInt8) (t : Bool) : (unitOf d t).1 ≤ 86400 ∧ (unitOf d t).2 ≤ 4 ∧ ((unitOf d t).2 ≠ 0 → 1 ≤ (unitOf d t).1) := by
  unfold unitOf
  repeat' split
  all_goals simp
theorem cap_mul (n : Nat) (u : Nat) (nv : Int) (hn : nv = min (n : Int) 8796093022208) (hu : u ≤ 86400) : 0 ≤ nv * (u : Int) ∧ nv * (u : Int) ≤ 759982437118771200 := by
  have h0 : 0 ≤ nv := by omega
  have h1 : nv ≤ 8796093022208 := by omega
  refine ⟨Int.mul_nonneg h0 (by omega), ?_⟩
  have a : nv * (u : Int) ≤ 8796093022208 * (u : Int) := Int.mul_le_mul_of_nonneg_right h1 (by omega)
  omega
theorem cap_add (V n u : Nat) (z nv : Int) (hz : z = min (V : Int) 8796093022208) (hn : nv = min (n : Int) 8796093022208) (hu : 1 ≤ u) :
    (8796093022208 < z + nv * (u : Int) → (8796093022208 : Int) = min ((V + n * u : Nat) : Int) 8796093022208) ∧ (¬ 8796093022208 < z + nv * (u : Int) → z + nv * (u : Int) = min ((V + n * u : Nat) : Int) 8796093022208) := by
  have a : n * 1 ≤ n * u := Nat.mul_le_mul_left n hu
  have e : ((V + n * u : Nat) : Int) = (V : Int) + (n : Int) * (u : Int) := by simp
  rw [e]
  by_cases h : (n : Int) ≤ 8796093022208
  · obtain rfl : nv = n := by omega
    have h0 : 0 ≤ (n : Int) * (u : Int) := Int.mul_nonneg (by omega) (by omega)
    omega
  · obtain rfl : nv = 8796093022208 := by omega
    have b : (n : Int) * 1 ≤ (n : Int) * (u : Int) := Int.mul_le_mul_of_nonneg_left (by omega) (by omega)
    omega

set_option maxRecDepth 100000 in
set_option maxHeartbeats 4000000 in
theorem rpd_pos (l r1 : List UInt8) (w : World) (hl : l.length ≤ 200) (hm : l = 80 :: r1) (hne : r1 ≠ []) :
    Calls Tryd.prog 35 #[.string ⟨l.toArray⟩] w fun e w' => e = .returned (.tuple #[.int .i64 (parD l).1, .int .i64 (parD l).2]) ∧ w = w' := by
  have Hd : Hid (parD l = match bodyP r1 with | none => (0, 3) | some V => if 4398046511104 < V then (0, 9) else ((V : Int), 0)) := by
    rw [Hid, hm]
    unfold parD
    have e : cutM (80 :: r1) = (80 :: r1, false) := rfl
    rw [e]
    dsimp only
    rw [if_pos ⟨rfl, hne⟩]
    cases bodyP r1 <;> rfl
  have h0 : 0 < l.length := by rw [hm]; simp
  have hlen := congrArg List.length hm
  rw [List.length_cons] at hlen
  have hl1 : 1 ≤ r1.length := List.length_pos_iff.2 hne
  have b0 := bget l 0 h0 80 (by simp [hm])
  have b1 : (⟨l.toArray⟩ : ByteArray).extract 1 l.length = ⟨r1.toArray⟩ := by rw [bdrop, hm]; rfl
  have hlb : ¬ l.length < 2 := by omega
  have Hb := Lib.hid (ref_body r1 hne)
  have hl2 : r1.length ≤ 199 := by omega
  clear hlen hm
  go_enter Tryd.func35, Tryd.ntmps35
  go_wp2_with fail
  go_loop [0, 6, 7, 8, 9] (fun s tot tm la op => ∃ (t opn : Bool) (last V : Nat) (ls : List UInt8) (z : Int), s = .string ⟨ls.toArray⟩ ∧ tot = .int .i64 z ∧ tm = .bool t ∧ la = .int .i64 (last : Int) ∧ op = .bool opn ∧ ls.length ≤ 199 ∧ 0 ≤ z ∧ z ≤ 8796093022208 ∧ last ≤ 4 ∧ Hid (z = min (V : Int) 8796093022208) ∧ Hid (bodyP r1 = refP t last opn V ls)) (fun s _ _ _ _ => match s with | .string b => b.size | _ => 0)
  case atStart => exact ⟨false, true, 0, 0, r1, 0, rfl, rfl, rfl, rfl, rfl, hl2, by omega, by omega, by omega, rfl, Hb.out.symm⟩
  case round =>
    obtain ⟨t, opn, last, V, ls, z, rfl, rfl, rfl, rfl, rfl, hsl, hz0, hz1, hla, Hz, HR⟩ := hrel
    clear Hb b0 b1 h0 hlb
    try clear c0 c1 h1
    cases hls : ls with
    | nil =>
      have Hq : Hid (bodyP r1 = if opn then none else some V) := by rw [Hid, HR.out, hls, refP_nil]
      clear HR hls
      cases opn
      · have Hd2 : Hid (parD l = if 4398046511104 < V then (0, 9) else (if false = true then -(V : Int) else (V : Int), 0)) := by
          rw [Hid, Hd.out, Hq.out]; rfl
        clear Hd Hq
        by_cases hb : 4398046511104 < z
        · have Hres : Hid (parD l = (0, 9)) := by rw [Hid, Hd2.out, if_pos (by have := Hz.out; omega)]
          go_wp2
          go_ret2
          exact ⟨by rw [Hres.out]; rfl, rfl⟩
        · have Hres : Hid (parD l = (if false = true then -z else z, 0)) := by
            have hv : z = V := by have := Hz.out; omega
            rw [Hid, Hd2.out, if_neg (by omega), hv]
          go_wp2
          go_ret2
          exact ⟨by rw [Hres.out]; rfl, rfl⟩
      · have Hres : Hid (parD l = (0, 3)) := by rw [Hid, Hd.out, Hq.out]; rfl
        go_wp2
        go_ret2
        exact ⟨by rw [Hres.out]; rfl, rfl⟩
    | cons c r =>
      have q0 : 0 < ls.length := by rw [hls]; simp
      have q1 := bget ls 0 q0 c (by simp [hls])
      have q2 : (⟨ls.toArray⟩ : ByteArray).extract 1 ls.length = ⟨r.toArray⟩ := by rw [bdrop, hls]; rfl
      have hlr : ls.length = r.length + 1 := by rw [hls]; rfl
      have hlr2 : r.length < ls.length := by omega
      have Hlr := Lib.hid hlr
      clear hlr
      rw [← hls] 
      by_cases hT : c = 84
      · have t1 : ((c.toNat : Int) == 84) = true := by rw [hT]; rfl
        have HR2 : Hid (bodyP r1 = if t then none else refP true last true V r) := by rw [Hid, HR.out, hls, hT, refP_T]
        clear HR hls hT
        cases t
        · have HR3 : Hid (bodyP r1 = refP true last true V r) := HR2.out
          go_wp2
          go_round
          case rel => exact ⟨true, true, last, V, r, z, rfl, rfl, rfl, rfl, rfl, by omega, hz0, hz1, hla, Hz, HR3⟩
          case measure => simp [ByteArray.size]; omega
        · have Hres : Hid (parD l = (0, 3)) := by rw [Hid, Hd.out, HR2.out]; rfl
          go_wp2
          go_ret2
          exact ⟨by rw [Hres.out]; rfl, rfl⟩
      · have t1 : ((c.toNat : Int) == 84) = false := by
          rw [beq_eq_false_iff_ne]
          intro e
          exact hT (UInt8.toNat_inj.1 (by show c.toNat = 84; omega))
        have Hls := Lib.hid hls
        have HT := Lib.hid hT
        have hdl := dgN_le ls
        clear hls hT q2
        go_wp2_with fail
        go_loop [10, 11] (fun k n => ∃ j : Nat, j ≤ dgN ls ∧ k = .int .i64 (j : Int) ∧ n = .int .i64 (min (val (ls.take j) : Int) 8796093022208)) (fun k _ => (dgN ls) - (intOf k).toNat)
        case atStart => exact ⟨0, by omega, rfl, rfl⟩
        case round =>
          obtain ⟨j, hj, rfl, rfl⟩ := hrel
          obtain ⟨v, hv⟩ : ∃ v, v = val (ls.take j) := ⟨_, rfl⟩
          rw [← hv]
          have Hv := Lib.hid hv
          clear hv
          by_cases hlt : j < dgN ls
          · have hkl : j < ls.length := by omega
            have hd := isDg_iff.1 (dg_at ls j hlt hkl)
            have hD := dg_at ls j hlt hkl
            have Hs := val_take_succ ls j hkl
            obtain ⟨x, hx⟩ : ∃ x, x = ls[j] := ⟨_, rfl⟩
            rw [← hx] at hd Hs hD
            rw [← Hv.out] at Hs
            have Hs := Lib.hid Hs
            have hi := bget ls j hkl x hx
            clear hx
            have hd1 : 48 ≤ (x.toNat : Int) := by omega
            have hd2 : (x.toNat : Int) ≤ 57 := by omega
            clear hd
            go_wp2_with (go_at_call 61; refine (rdigit_c _ _).mono ?_; rw [hD]; rintro e w' ⟨rfl, rfl⟩)
            all_goals
              go_round
              case rel => exact ⟨j + 1, by omega, by go_num, by rw [Hs.out]; congr 1; omega⟩
              case measure => simp [intOf]; omega
          · obtain rfl : j = dgN ls := by omega
            have Hnv : Hid (v = numV ls) := by rw [Hid, Hv.out, numV_eq]
            obtain ⟨nv, hnv⟩ : ∃ nv, nv = min (v : Int) 8796093022208 := ⟨_, rfl⟩
            rw [← hnv]
            have HN : Hid (nv = min (numV ls : Int) 8796093022208) := by rw [Hid, hnv, Hnv.out]
            have n1 : 0 ≤ nv := by omega
            have n2 : nv ≤ 8796093022208 := by omega
            clear hnv
            cases hr : rst ls with
            | nil =>
              have Hres : Hid (parD l = (0, 3)) := by rw [Hid, Hd.out, HR.out, Hls.out, refP_end _ _ _ _ _ _ HT.out (by rw [← Hls.out, hr])]
              have hj2 : dgN ls = ls.length := by
                have : (rst ls).length = 0 := by rw [hr]; rfl
                unfold rst at this
                rw [List.length_drop] at this
                omega
              clear hr
              rw [hj2]
              have t3 : ((ls.length : Int) == 0) = false := beq_eq_false_iff_ne.2 (by omega)
              have Hj2 := Lib.hid hj2
              clear hj2
              go_wp2
              go_ret2
              exact ⟨by rw [Hres.out]; rfl, rfl⟩
            | cons d r2 =>
              have hj2 : dgN ls < ls.length := by
                have : (rst ls).length = r2.length + 1 := by rw [hr]; rfl
                unfold rst at this
                rw [List.length_drop] at this
                omega
              have hds : ls.drop (dgN ls) = d :: r2 := hr
              have e1 : d = ls[dgN ls] := by
                have := List.getElem?_drop (xs := ls) (i := dgN ls) (j := 0)
                rw [hds] at this
                simp at this
                exact (List.getElem?_eq_some_iff.1 this.symm).2.symm
              have hnd : isDg d = false := by rw [e1]; exact dg_end ls hj2
              have hi := bget ls (dgN ls) hj2 d e1
              have hx : (⟨ls.toArray⟩ : ByteArray).extract (dgN ls + 1) ls.length = ⟨r2.toArray⟩ := by
                rw [bdrop, show dgN ls + 1 = dgN ls + 1 from rfl, ← List.drop_drop, hds]; rfl
              have hrl : r2.length < ls.length := by
                have := congrArg List.length hds
                rw [List.length_drop] at this
                simp at this
                omega
              clear e1
              by_cases h00 : dgN ls = 0
              · have Hres : Hid (parD l = (0, 3)) := by rw [Hid, Hd.out, HR.out, Hls.out, refP_no _ _ _ _ _ _ HT.out (by rw [← Hls.out, h00])]
                have t3 : ((dgN ls : Int) == 0) = true := by simp [h00]
                clear h00 hr hds
                go_wp2_with (go_at_call 61; refine (rdigit_c _ _).mono ?_; rw [hnd]; rintro e w' ⟨rfl, rfl⟩)
                go_ret2
                exact ⟨by rw [Hres.out]; rfl, rfl⟩
              · have t3 : ((dgN ls : Int) == 0) = false := by simp; omega
                have t4 : ((dgN ls : Int) == (ls.length : Int)) = false := by simp; omega
                have HR2 := Lib.hid ((HR.out.trans (congrArg _ Hls.out)).trans (refP_num t last opn V c r d r2 HT.out (by rw [← Hls.out]; exact h00) (by rw [← Hls.out]; exact hr)))
                rw [← Hls.out] at HR2
                obtain ⟨u1, u2, u3⟩ := unit_bd d t
                obtain ⟨uu, hu⟩ : ∃ uu, uu = (unitOf d t).1 := ⟨_, rfl⟩
                obtain ⟨pl, hp⟩ : ∃ pl, pl = (unitOf d t).2 := ⟨_, rfl⟩
                rw [← hu, ← hp] at HR2
                rw [← hu] at u1 u3
                rw [← hp] at u2 u3
                have Hu := Lib.hid hu
                have Hp := Lib.hid hp
                have cm := cap_mul (numV ls) uu nv HN.out u1
                obtain ⟨m0, m1⟩ := cm
                clear hu hp hr hds h00 HR
                by_cases hpl : pl ≤ last
                · have Hres : Hid (parD l = (0, 3)) := by rw [Hid, Hd.out, HR2.out, if_pos hpl]
                  go_wp2_with (first
                    | (go_at_call 61; refine (rdigit_c _ _).mono ?_; rw [hnd]; rintro e w' ⟨rfl, rfl⟩)
                    | (go_at_call 62; refine (rsize_c _ _ _).mono ?_; rw [← Hu.out, ← Hp.out]; rintro e w' ⟨rfl, rfl⟩))
                  go_ret2
                  exact ⟨by rw [Hres.out]; rfl, rfl⟩
                · have HR3 : Hid (bodyP r1 = refP t pl false (V + numV ls * uu) r2) := by rw [Hid, HR2.out, if_neg hpl]
                  have ca := cap_add V (numV ls) uu z nv Hz.out HN.out (u3 (by omega))
                  by_cases hcap : 8796093022208 < z + nv * (uu : Int)
                  · have Hc := Lib.hid (ca.1 hcap)
                    clear ca u3
                    go_wp2_with (first
                      | (go_at_call 61; refine (rdigit_c _ _).mono ?_; rw [hnd]; rintro e w' ⟨rfl, rfl⟩)
                      | (go_at_call 62; refine (rsize_c _ _ _).mono ?_; rw [← Hu.out, ← Hp.out]; rintro e w' ⟨rfl, rfl⟩))
                    go_round
                    case rel => exact ⟨t, false, pl, V + numV ls * uu, r2, 8796093022208, rfl, rfl, rfl, rfl, rfl, by omega, by omega, by omega, by omega, Hc, HR3⟩
                    case measure => simp [ByteArray.size]; omega
                  · have Hc := Lib.hid (ca.2 hcap)
                    clear ca u3
                    go_wp2_with (first
                      | (go_at_call 61; refine (rdigit_c _ _).mono ?_; rw [hnd]; rintro e w' ⟨rfl, rfl⟩)
                      | (go_at_call 62; refine (rsize_c _ _ _).mono ?_; rw [← Hu.out, ← Hp.out]; rintro e w' ⟨rfl, rfl⟩))
                    go_round
                    case rel => exact ⟨t, false, pl, V + numV ls * uu, r2, z + nv * (uu : Int), rfl, rfl, rfl, rfl, rfl, by omega, by omega, by omega, by omega, Hc, HR3⟩
                    case measure => simp [ByteArray.size]; omega
set_option maxRecDepth 100000 in
set_option maxHeartbeats 4000000 in
theorem rpd_neg (l l1 r1 : List UInt8) (w : World) (hl : l.length ≤ 200) (hm : l = 45 :: l1) (hm1 : l1 = 80 :: r1) (hne : r1 ≠ []) :
    Calls Tryd.prog 35 #[.string ⟨l.toArray⟩] w fun e w' => e = .returned (.tuple #[.int .i64 (parD l).1, .int .i64 (parD l).2]) ∧ w = w' := by
  have Hd : Hid (parD l = match bodyP r1 with | none => (0, 3) | some V => if 4398046511104 < V then (0, 9) else (-(V : Int), 0)) := by
    rw [Hid, hm, hm1]
    unfold parD
    have e : cutM (45 :: 80 :: r1) = (80 :: r1, true) := rfl
    rw [e]
    dsimp only
    rw [if_pos ⟨rfl, hne⟩]
    cases bodyP r1 <;> rfl
  have h0 : 0 < l.length := by rw [hm]; simp
  have h1 : 0 < l1.length := by rw [hm1]; simp
  have hlen := congrArg List.length hm
  have hlen1 := congrArg List.length hm1
  rw [List.length_cons] at hlen hlen1
  have hl1 : 1 ≤ r1.length := List.length_pos_iff.2 hne
  have b0 := bget l 0 h0 45 (by simp [hm])
  have b1 : (⟨l.toArray⟩ : ByteArray).extract 1 l.length = ⟨l1.toArray⟩ := by rw [bdrop, hm]; rfl
  have c0 := bget l1 0 h1 80 (by simp [hm1])
  have c1 : (⟨l1.toArray⟩ : ByteArray).extract 1 l1.length = ⟨r1.toArray⟩ := by rw [bdrop, hm1]; rfl
  have hlb : ¬ l1.length < 2 := by omega
  have Hb := Lib.hid (ref_body r1 hne)
  have hl2 : r1.length ≤ 199 := by omega
  clear hlen hlen1 hm hm1
  go_enter Tryd.func35, Tryd.ntmps35
  go_wp2_with fail
  go_loop [0, 6, 7, 8, 9] (fun s tot tm la op => ∃ (t opn : Bool) (last V : Nat) (ls : List UInt8) (z : Int), s = .string ⟨ls.toArray⟩ ∧ tot = .int .i64 z ∧ tm = .bool t ∧ la = .int .i64 (last : Int) ∧ op = .bool opn ∧ ls.length ≤ 199 ∧ 0 ≤ z ∧ z ≤ 8796093022208 ∧ last ≤ 4 ∧ Hid (z = min (V : Int) 8796093022208) ∧ Hid (bodyP r1 = refP t last opn V ls)) (fun s _ _ _ _ => match s with | .string b => b.size | _ => 0)
  case atStart => exact ⟨false, true, 0, 0, r1, 0, rfl, rfl, rfl, rfl, rfl, hl2, by omega, by omega, by omega, rfl, Hb.out.symm⟩
  case round =>
    obtain ⟨t, opn, last, V, ls, z, rfl, rfl, rfl, rfl, rfl, hsl, hz0, hz1, hla, Hz, HR⟩ := hrel
    clear Hb b0 b1 h0 hlb
    try clear c0 c1 h1
    cases hls : ls with
    | nil =>
      have Hq : Hid (bodyP r1 = if opn then none else some V) := by rw [Hid, HR.out, hls, refP_nil]
      clear HR hls
      cases opn
      · have Hd2 : Hid (parD l = if 4398046511104 < V then (0, 9) else (if true = true then -(V : Int) else (V : Int), 0)) := by
          rw [Hid, Hd.out, Hq.out]; rfl
        clear Hd Hq
        by_cases hb : 4398046511104 < z
        · have Hres : Hid (parD l = (0, 9)) := by rw [Hid, Hd2.out, if_pos (by have := Hz.out; omega)]
          go_wp2
          go_ret2
          exact ⟨by rw [Hres.out]; rfl, rfl⟩
        · have Hres : Hid (parD l = (if true = true then -z else z, 0)) := by
            have hv : z = V := by have := Hz.out; omega
            rw [Hid, Hd2.out, if_neg (by omega), hv]
          go_wp2
          go_ret2
          exact ⟨by rw [Hres.out]; rfl, rfl⟩
      · have Hres : Hid (parD l = (0, 3)) := by rw [Hid, Hd.out, Hq.out]; rfl
        go_wp2
        go_ret2
        exact ⟨by rw [Hres.out]; rfl, rfl⟩
    | cons c r =>
      have q0 : 0 < ls.length := by rw [hls]; simp
      have q1 := bget ls 0 q0 c (by simp [hls])
      have q2 : (⟨ls.toArray⟩ : ByteArray).extract 1 ls.length = ⟨r.toArray⟩ := by rw [bdrop, hls]; rfl
      have hlr : ls.length = r.length + 1 := by rw [hls]; rfl
      have hlr2 : r.length < ls.length := by omega
      have Hlr := Lib.hid hlr
      clear hlr
      rw [← hls] 
      by_cases hT : c = 84
      · have t1 : ((c.toNat : Int) == 84) = true := by rw [hT]; rfl
        have HR2 : Hid (bodyP r1 = if t then none else refP true last true V r) := by rw [Hid, HR.out, hls, hT, refP_T]
        clear HR hls hT
        cases t
        · have HR3 : Hid (bodyP r1 = refP true last true V r) := HR2.out
          go_wp2
          go_round
          case rel => exact ⟨true, true, last, V, r, z, rfl, rfl, rfl, rfl, rfl, by omega, hz0, hz1, hla, Hz, HR3⟩
          case measure => simp [ByteArray.size]; omega
        · have Hres : Hid (parD l = (0, 3)) := by rw [Hid, Hd.out, HR2.out]; rfl
          go_wp2
          go_ret2
          exact ⟨by rw [Hres.out]; rfl, rfl⟩
      · have t1 : ((c.toNat : Int) == 84) = false := by
          rw [beq_eq_false_iff_ne]
          intro e
          exact hT (UInt8.toNat_inj.1 (by show c.toNat = 84; omega))
        have Hls := Lib.hid hls
        have HT := Lib.hid hT
        have hdl := dgN_le ls
        clear hls hT q2
        go_wp2_with fail
        go_loop [10, 11] (fun k n => ∃ j : Nat, j ≤ dgN ls ∧ k = .int .i64 (j : Int) ∧ n = .int .i64 (min (val (ls.take j) : Int) 8796093022208)) (fun k _ => (dgN ls) - (intOf k).toNat)
        case atStart => exact ⟨0, by omega, rfl, rfl⟩
        case round =>
          obtain ⟨j, hj, rfl, rfl⟩ := hrel
          obtain ⟨v, hv⟩ : ∃ v, v = val (ls.take j) := ⟨_, rfl⟩
          rw [← hv]
          have Hv := Lib.hid hv
          clear hv
          by_cases hlt : j < dgN ls
          · have hkl : j < ls.length := by omega
            have hd := isDg_iff.1 (dg_at ls j hlt hkl)
            have hD := dg_at ls j hlt hkl
            have Hs := val_take_succ ls j hkl
            obtain ⟨x, hx⟩ : ∃ x, x = ls[j] := ⟨_, rfl⟩
            rw [← hx] at hd Hs hD
            rw [← Hv.out] at Hs
            have Hs := Lib.hid Hs
            have hi := bget ls j hkl x hx
            clear hx
            have hd1 : 48 ≤ (x.toNat : Int) := by omega
            have hd2 : (x.toNat : Int) ≤ 57 := by omega
            clear hd
            go_wp2_with (go_at_call 61; refine (rdigit_c _ _).mono ?_; rw [hD]; rintro e w' ⟨rfl, rfl⟩)
            all_goals
              go_round
              case rel => exact ⟨j + 1, by omega, by go_num, by rw [Hs.out]; congr 1; omega⟩
              case measure => simp [intOf]; omega
          · obtain rfl : j = dgN ls := by omega
            have Hnv : Hid (v = numV ls) := by rw [Hid, Hv.out, numV_eq]
            obtain ⟨nv, hnv⟩ : ∃ nv, nv = min (v : Int) 8796093022208 := ⟨_, rfl⟩
            rw [← hnv]
            have HN : Hid (nv = min (numV ls : Int) 8796093022208) := by rw [Hid, hnv, Hnv.out]
            have n1 : 0 ≤ nv := by omega
            have n2 : nv ≤ 8796093022208 := by omega
            clear hnv
            cases hr : rst ls with
            | nil =>
              have Hres : Hid (parD l = (0, 3)) := by rw [Hid, Hd.out, HR.out, Hls.out, refP_end _ _ _ _ _ _ HT.out (by rw [← Hls.out, hr])]
              have hj2 : dgN ls = ls.length := by
                have : (rst ls).length = 0 := by rw [hr]; rfl
                unfold rst at this
                rw [List.length_drop] at this
                omega
              clear hr
              rw [hj2]
              have t3 : ((ls.length : Int) == 0) = false := beq_eq_false_iff_ne.2 (by omega)
              have Hj2 := Lib.hid hj2
              clear hj2
              go_wp2
              go_ret2
              exact ⟨by rw [Hres.out]; rfl, rfl⟩
            | cons d r2 =>
              have hj2 : dgN ls < ls.length := by
                have : (rst ls).length = r2.length + 1 := by rw [hr]; rfl
                unfold rst at this
                rw [List.length_drop] at this
                omega
              have hds : ls.drop (dgN ls) = d :: r2 := hr
              have e1 : d = ls[dgN ls] := by
                have := List.getElem?_drop (xs := ls) (i := dgN ls) (j := 0)
                rw [hds] at this
                simp at this
                exact (List.getElem?_eq_some_iff.1 this.symm).2.symm
              have hnd : isDg d = false := by rw [e1]; exact dg_end ls hj2
              have hi := bget ls (dgN ls) hj2 d e1
              have hx : (⟨ls.toArray⟩ : ByteArray).extract (dgN ls + 1) ls.length = ⟨r2.toArray⟩ := by
                rw [bdrop, show dgN ls + 1 = dgN ls + 1 from rfl, ← List.drop_drop, hds]; rfl
              have hrl : r2.length < ls.length := by
                have := congrArg List.length hds
                rw [List.length_drop] at this
                simp at this
                omega
              clear e1
              by_cases h00 : dgN ls = 0
              · have Hres : Hid (parD l = (0, 3)) := by rw [Hid, Hd.out, HR.out, Hls.out, refP_no _ _ _ _ _ _ HT.out (by rw [← Hls.out, h00])]
                have t3 : ((dgN ls : Int) == 0) = true := by simp [h00]
                clear h00 hr hds
                go_wp2_with (go_at_call 61; refine (rdigit_c _ _).mono ?_; rw [hnd]; rintro e w' ⟨rfl, rfl⟩)
                go_ret2
                exact ⟨by rw [Hres.out]; rfl, rfl⟩
              · have t3 : ((dgN ls : Int) == 0) = false := by simp; omega
                have t4 : ((dgN ls : Int) == (ls.length : Int)) = false := by simp; omega
                have HR2 := Lib.hid ((HR.out.trans (congrArg _ Hls.out)).trans (refP_num t last opn V c r d r2 HT.out (by rw [← Hls.out]; exact h00) (by rw [← Hls.out]; exact hr)))
                rw [← Hls.out] at HR2
                obtain ⟨u1, u2, u3⟩ := unit_bd d t
                obtain ⟨uu, hu⟩ : ∃ uu, uu = (unitOf d t).1 := ⟨_, rfl⟩
                obtain ⟨pl, hp⟩ : ∃ pl, pl = (unitOf d t).2 := ⟨_, rfl⟩
                rw [← hu, ← hp] at HR2
                rw [← hu] at u1 u3
                rw [← hp] at u2 u3
                have Hu := Lib.hid hu
                have Hp := Lib.hid hp
                have cm := cap_mul (numV ls) uu nv HN.out u1
                obtain ⟨m0, m1⟩ := cm
                clear hu hp hr hds h00 HR
                by_cases hpl : pl ≤ last
                · have Hres : Hid (parD l = (0, 3)) := by rw [Hid, Hd.out, HR2.out, if_pos hpl]
                  go_wp2_with (first
                    | (go_at_call 61; refine (rdigit_c _ _).mono ?_; rw [hnd]; rintro e w' ⟨rfl, rfl⟩)
                    | (go_at_call 62; refine (rsize_c _ _ _).mono ?_; rw [← Hu.out, ← Hp.out]; rintro e w' ⟨rfl, rfl⟩))
                  go_ret2
                  exact ⟨by rw [Hres.out]; rfl, rfl⟩
                · have HR3 : Hid (bodyP r1 = refP t pl false (V + numV ls * uu) r2) := by rw [Hid, HR2.out, if_neg hpl]
                  have ca := cap_add V (numV ls) uu z nv Hz.out HN.out (u3 (by omega))
                  by_cases hcap : 8796093022208 < z + nv * (uu : Int)
                  · have Hc := Lib.hid (ca.1 hcap)
                    clear ca u3
                    go_wp2_with (first
                      | (go_at_call 61; refine (rdigit_c _ _).mono ?_; rw [hnd]; rintro e w' ⟨rfl, rfl⟩)
                      | (go_at_call 62; refine (rsize_c _ _ _).mono ?_; rw [← Hu.out, ← Hp.out]; rintro e w' ⟨rfl, rfl⟩))
                    go_round
                    case rel => exact ⟨t, false, pl, V + numV ls * uu, r2, 8796093022208, rfl, rfl, rfl, rfl, rfl, by omega, by omega, by omega, by omega, Hc, HR3⟩
                    case measure => simp [ByteArray.size]; omega
                  · have Hc := Lib.hid (ca.2 hcap)
                    clear ca u3
                    go_wp2_with (first
                      | (go_at_call 61; refine (rdigit_c _ _).mono ?_; rw [hnd]; rintro e w' ⟨rfl, rfl⟩)
                      | (go_at_call 62; refine (rsize_c _ _ _).mono ?_; rw [← Hu.out, ← Hp.out]; rintro e w' ⟨rfl, rfl⟩))
                    go_round
                    case rel => exact ⟨t, false, pl, V + numV ls * uu, r2, z + nv * (uu : Int), rfl, rfl, rfl, rfl, rfl, by omega, by omega, by omega, by omega, Hc, HR3⟩
                    case measure => simp [ByteArray.size]; omega
/-- Texts that do not begin as a duration does. -/
theorem parD_hd (l : List UInt8) (h : ∀ r, cutL 45 l ≠ 80 :: r ∨ r = []) : parD l = (0, 3) := by
  refine parD_no l ?_
  rintro ⟨h1, h2⟩
  obtain ⟨r, hr⟩ := cutB_iff.1 h1
  rcases h r with h | h
  · exact h hr
  · rw [hr, h] at h2
    simp [cutL, cutB] at h2
set_option maxRecDepth 100000 in
set_option maxHeartbeats 1000000 in
theorem rpd_c (l : List UInt8) (w : World) (hl : l.length ≤ 200) :
    Calls Tryd.prog 35 #[.string ⟨l.toArray⟩] w fun e w' => e = .returned (.tuple #[.int .i64 (parD l).1, .int .i64 (parD l).2]) ∧ w = w' := by
  by_cases hp : ∃ r1, l = 80 :: r1 ∧ r1 ≠ []
  · obtain ⟨r1, h1, h2⟩ := hp
    exact rpd_pos l r1 w hl h1 h2
  by_cases hn : ∃ r1, l = 45 :: 80 :: r1 ∧ r1 ≠ []
  · obtain ⟨r1, h1, h2⟩ := hn
    exact rpd_neg l (80 :: r1) r1 w hl h1 rfl h2
  have Hres : Hid (parD l = (0, 3)) := by
    refine parD_hd l ?_
    intro r
    by_cases hr : r = []
    · exact .inr hr
    · left
      unfold cutL
      split
      · rename_i hc
        obtain ⟨x, hx⟩ := cutB_iff.1 hc
        rw [hx]
        intro e
        exact hn ⟨r, by rw [hx]; show 45 :: x = _; rw [show x = 80 :: r from e], hr⟩
      · intro e
        exact hp ⟨r, e, hr⟩
  cases hl0 : l with
  | nil =>
    rw [hl0] at Hres
    clear hp hn hl0
    go_enter Tryd.func35, Tryd.ntmps35
    go_wp2
    go_ret2
    exact ⟨by rw [Hres.out]; rfl, rfl⟩
  | cons c r =>
    rw [← hl0]
    have h0 : 0 < l.length := by rw [hl0]; simp
    have hlr : l.length = r.length + 1 := by rw [hl0]; rfl
    have b0 := bget l 0 h0 c (by simp [hl0])
    have b1 : (⟨l.toArray⟩ : ByteArray).extract 1 l.length = ⟨r.toArray⟩ := by rw [bdrop, hl0]; rfl
    by_cases hc : c = 45
    · have t1 : ((c.toNat : Int) == 45) = true := by rw [hc]; rfl
      by_cases hs : r.length < 2
      · clear hp hn hl0 hc
        have Hlr := Lib.hid hlr
        clear hlr
        go_enter Tryd.func35, Tryd.ntmps35
        go_wp2
        go_ret2
        exact ⟨by rw [Hres.out]; rfl, rfl⟩
      · obtain ⟨c1, r1, hr⟩ : ∃ c1 r1, r = c1 :: r1 := by
          cases r with
          | nil => simp at hs
          | cons a b => exact ⟨a, b, rfl⟩
        have h1 : 0 < r.length := by omega
        have d0 := bget r 0 h1 c1 (by simp [hr])
        have t2 : ((c1.toNat : Int) != 80) = true := by
          rw [bne_iff_ne]
          intro e
          have e : c1 = 80 := UInt8.toNat_inj.1 (by show c1.toNat = 80; omega)
          exact hn ⟨r1, by rw [hl0, hr, hc, e], by rintro rfl; rw [hr] at hs; simp at hs⟩
        clear hp hn hl0 hc hr
        have Hlr := Lib.hid hlr
        clear hlr
        go_enter Tryd.func35, Tryd.ntmps35
        go_wp2
        go_ret2
        exact ⟨by rw [Hres.out]; rfl, rfl⟩
    · have t1 : ((c.toNat : Int) == 45) = false := by
        rw [beq_eq_false_iff_ne]
        intro e
        exact hc (UInt8.toNat_inj.1 (by show c.toNat = 45; omega))
      by_cases hs : l.length < 2
      · clear hp hn hl0 hc
        have Hlr := Lib.hid hlr
        clear hlr
        go_enter Tryd.func35, Tryd.ntmps35
        go_wp2
        go_ret2
        exact ⟨by rw [Hres.out]; rfl, rfl⟩
      · have t2 : ((c.toNat : Int) != 80) = true := by
          rw [bne_iff_ne]
          intro e
          have e : c = 80 := UInt8.toNat_inj.1 (by show c.toNat = 80; omega)
          exact hp ⟨r, by rw [hl0, e], by rintro rfl; simp at hlr; omega⟩
        clear hp hn hl0 hc
        have Hlr := Lib.hid hlr
        clear hlr
        go_enter Tryd.func35, Tryd.ntmps35
        go_wp2
        go_ret2
        exact ⟨by rw [Hres.out]; rfl, rfl⟩
end Go.Proofs.YtplckoffiebibaaDoor
