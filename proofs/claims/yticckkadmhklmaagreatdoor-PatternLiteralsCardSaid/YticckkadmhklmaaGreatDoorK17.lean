/- Patterns: the walks of reader.same and reader.hour. -/
import Derived.Test.YticckkadmhklmaaGreatDoorK09
import Derived.Test.YticckkadmhklmaaGreatDoorK02
import Derived.Test.YticckkadmhklmaaGreatDoorK04
namespace Go.Proofs.YticckkadmhklmaaGreatDoor
set_option linter.unusedVariables false
set_option linter.unusedSimpArgs false
open Go.RowKit Go.Maps

def RdI (ks : List Int) (R off : Nat) (w : World) : Prop := R < w.heap.size ∧ ∀ i (h : i < ks.length), w.cell? ⟨R, off + i, none⟩ = some (.int .i64 ks[i])
theorem full_l (k F : Int) (w : World) (h : fullZ k = F) : Calls Tryz.prog 44 #[.int .i64 k] w fun e w' => e = .returned (.int .i64 F) ∧ w = w' := by
  rw [← h]; exact full_c k w
theorem gotK_bd {vs : List (Int × Nat)} {M : Nat} (h : ∀ x ∈ vs, x.2 ≤ M) {k : Int} {v : Nat} (e : gotK vs k = some v) : v ≤ M := h _ (gotK_mem e)
set_option maxRecDepth 100000 in
set_option maxHeartbeats 2000000 in
theorem same_c (N : Nms) (B b : Nat) (s : List UInt8) (vs : List (Int × Nat)) (w : World) (h : Rdr N B b s vs w) (hvb : ∀ x ∈ vs, x.2 ≤ 100000) (u : Int) (hu1 : -1000000 ≤ u) (hu2 : u ≤ 1000000) (ks : List Int) (hks : ∀ k ∈ ks, 1 ≤ k ∧ k ≤ 15) (R off cap : Nat) (hR : RdI ks R off w) (hkl : ks.length ≤ 1000) (hcap : ks.length ≤ cap) (hcm : cap ≤ maxLen) :
    Calls Tryz.prog 94 #[.pointer (some ⟨B, 0, none⟩), .int .i64 u, .slice (some ⟨R, off, none⟩) ks.length cap] w fun e w' => e = .returned (.tuple #[.int .i64 (sameF (gotK vs) u false ks).1, .bool (sameF (gotK vs) u false ks).2]) ∧ w = w' := by
  obtain ⟨c, D, n, hM, hD, hnn, hcl⟩ := h
  have hown := hM.own
  have c41 := hM.fnd
  have HD := Lib.hid hD
  have HR := Lib.hid hR.2
  have HB := Lib.hid hvb
  have HKS := Lib.hid hks
  obtain ⟨fv, hfv⟩ : ∃ fv, gotK vs = fv := ⟨_, rfl⟩
  have HDn : Hid (∀ k : Int, fv k = none → Maps.has D (.int .i64 k) = false) := fun k e => by rw [HD.out.2.2, hfv, e]; rfl
  have HDs : Hid (∀ (k : Int) v, fv k = some v → Maps.has D (.int .i64 k) = true ∧ (∀ zd, D.atKey (.int .i64 k) zd = .lit (.int .i64 (v : Int))) ∧ v ≤ 100000) := fun k v e => by
    refine ⟨by rw [HD.out.2.2, hfv, e]; rfl, fun zd => by rw [HD.out.2.1, hfv, e], ?_⟩
    exact gotK_bd HB.out (by rw [hfv]; exact e)
  rw [hfv]
  unfold maxLen at hcm
  clear hM hD hcl hR hvb hks hfv
  go_enter Tryz.func94, Tryz.ntmps94
  go_wp2_with fail
  go_loop [8, 9, 17] (fun x y i => ∃ (j : Nat) (o : Int) (f : Bool), j ≤ ks.length ∧ i = .int .i64 (j : Int) ∧ x = .int .i64 o ∧ y = .bool f ∧ -1000000 ≤ o ∧ o ≤ 1000000 ∧ Hid (sameF fv u false ks = sameF fv o f (ks.drop j))) (fun _ _ i => ks.length - (intOf i).toNat)
  case atStart => exact ⟨0, u, false, Nat.zero_le _, rfl, rfl, rfl, hu1, hu2, rfl⟩
  case round =>
    obtain ⟨j, o, f, hj, rfl, rfl, rfl, ho1, ho2, HI⟩ := hrel
    by_cases hlt : j < ks.length
    · have hcj := HR.out j hlt
      have hkk := HKS.out ks[j] (List.getElem_mem _)
      have HI2 := HI.out
      rw [List.drop_eq_getElem_cons hlt] at HI2
      obtain ⟨k, hk⟩ : ∃ k, k = ks[j] := ⟨_, rfl⟩
      rw [← hk] at hcj hkk HI2
      obtain ⟨hk1, hk2⟩ := hkk
      have Hk := Lib.hid (int_wf (k := k) (by omega) (by omega))
      clear hk
      cases e : fv k with
      | none =>
        have Hhas := Lib.hid (HDn.out k e)
        have HN : Hid (sameF fv u false ks = sameF fv o f (ks.drop (j + 1))) := by rw [Hid, HI2]; simp only [sameF, e]
        clear HI2 e
        go_wp2_with (first
          | (at_lookup; refine wpList_lookup_own_ok_int _ rfl _ _ 91 rfl 3 3 .i64 mkeyI Tryz.underlying91 Tryz.underlying3 (zeroR _) _ n D rfl hown _ _ rfl (keyOf_int_mk Tryz.underlying3 Hk.out) ?_; intro cc hat hwc; rw [Hhas.out])
          | go_in)
        go_round
        case rel => exact ⟨j + 1, o, f, by omega, by go_num, rfl, rfl, ho1, ho2, HN⟩
        case measure => simp [intOf]; omega
      | some v =>
        obtain ⟨q1, q2, q3⟩ := HDs.out k v e
        have Hhas := Lib.hid q1
        have Hat := Lib.hid q2
        obtain ⟨F, hF⟩ : ∃ F, fullZ k = F := ⟨_, rfl⟩
        have HF := Lib.hid hF
        obtain ⟨z, hz⟩ : ∃ z : Int, z = (v : Int) + (if fullZ k = 0 then 1 else 0) := ⟨_, rfl⟩
        have HS : Hid (sameF fv u false ks = if f && decide (z ≠ o) then (0, false) else sameF fv z true (ks.drop (j + 1))) := by rw [Hid, HI2]; simp only [sameF, e, hz]
        rw [hF] at hz
        clear HI2 e q1 q2 hF
        by_cases hF0 : F = 0
        · rw [if_pos hF0] at hz
          have t0 : (F == 0) = true := by simpa using hF0
          clear hF0
          cases f with
          | false =>
            have HN : Hid (sameF fv u false ks = sameF fv z true (ks.drop (j + 1))) := by rw [Hid, HS.out]; rfl
            subst hz
            go_wp2_with (first
              | (at_lookup; refine wpList_lookup_own_ok_int _ rfl _ _ 91 rfl 3 3 .i64 mkeyI Tryz.underlying91 Tryz.underlying3 (zeroR _) _ n D rfl hown _ _ rfl (keyOf_int_mk Tryz.underlying3 Hk.out) ?_; intro cc hat hwc; rw [Hat.out] at hat; injection hat with hat; injection hat with _ hat; subst hat; rw [Hhas.out])
              | (go_at_call 44; (with_reducible refine (full_l k F _ HF.out).mono ?_); rintro e w1 ⟨rfl, rfl⟩)
              | go_in)
            go_round
            case rel => exact ⟨j + 1, _, true, by omega, by go_num, rfl, rfl, by omega, by omega, HN⟩
            case measure => simp [intOf]; omega
          | true =>
            by_cases hzo : z = o
            · have HN : Hid (sameF fv u false ks = sameF fv z true (ks.drop (j + 1))) := by rw [Hid, HS.out, hzo]; simp
              have tz : (z != o) = false := by simpa using hzo
              clear hzo
              subst hz
              go_wp2_with (first
                | (at_lookup; refine wpList_lookup_own_ok_int _ rfl _ _ 91 rfl 3 3 .i64 mkeyI Tryz.underlying91 Tryz.underlying3 (zeroR _) _ n D rfl hown _ _ rfl (keyOf_int_mk Tryz.underlying3 Hk.out) ?_; intro cc hat hwc; rw [Hat.out] at hat; injection hat with hat; injection hat with _ hat; subst hat; rw [Hhas.out])
                | (go_at_call 44; (with_reducible refine (full_l k F _ HF.out).mono ?_); rintro e w1 ⟨rfl, rfl⟩)
                | go_in)
              go_round
              case rel => exact ⟨j + 1, _, true, by omega, by go_num, rfl, rfl, by omega, by omega, HN⟩
              case measure => simp [intOf]; omega
            · have HN : Hid (sameF fv u false ks = (0, false)) := by rw [Hid, HS.out, decide_eq_true hzo]; rfl
              have tz : (z != o) = true := by rw [bne_iff_ne]; exact hzo
              clear hzo
              subst hz
              go_wp2_with (first
                | (at_lookup; refine wpList_lookup_own_ok_int _ rfl _ _ 91 rfl 3 3 .i64 mkeyI Tryz.underlying91 Tryz.underlying3 (zeroR _) _ n D rfl hown _ _ rfl (keyOf_int_mk Tryz.underlying3 Hk.out) ?_; intro cc hat hwc; rw [Hat.out] at hat; injection hat with hat; injection hat with _ hat; subst hat; rw [Hhas.out])
                | (go_at_call 44; (with_reducible refine (full_l k F _ HF.out).mono ?_); rintro e w1 ⟨rfl, rfl⟩)
                | go_in)
              go_ret2
              exact ⟨by rw [HN.out]; rfl, rfl⟩
        · rw [if_neg hF0] at hz
          have t0 : (F == 0) = false := by simpa using hF0
          replace hz : z = (v : Int) := by omega
          clear hF0
          cases f with
          | false =>
            have HN : Hid (sameF fv u false ks = sameF fv z true (ks.drop (j + 1))) := by rw [Hid, HS.out]; rfl
            subst hz
            go_wp2_with (first
              | (at_lookup; refine wpList_lookup_own_ok_int _ rfl _ _ 91 rfl 3 3 .i64 mkeyI Tryz.underlying91 Tryz.underlying3 (zeroR _) _ n D rfl hown _ _ rfl (keyOf_int_mk Tryz.underlying3 Hk.out) ?_; intro cc hat hwc; rw [Hat.out] at hat; injection hat with hat; injection hat with _ hat; subst hat; rw [Hhas.out])
              | (go_at_call 44; (with_reducible refine (full_l k F _ HF.out).mono ?_); rintro e w1 ⟨rfl, rfl⟩)
              | go_in)
            go_round
            case rel => exact ⟨j + 1, _, true, by omega, by go_num, rfl, rfl, by omega, by omega, HN⟩
            case measure => simp [intOf]; omega
          | true =>
            by_cases hzo : z = o
            · have HN : Hid (sameF fv u false ks = sameF fv z true (ks.drop (j + 1))) := by rw [Hid, HS.out, hzo]; simp
              have tz : (z != o) = false := by simpa using hzo
              clear hzo
              subst hz
              go_wp2_with (first
                | (at_lookup; refine wpList_lookup_own_ok_int _ rfl _ _ 91 rfl 3 3 .i64 mkeyI Tryz.underlying91 Tryz.underlying3 (zeroR _) _ n D rfl hown _ _ rfl (keyOf_int_mk Tryz.underlying3 Hk.out) ?_; intro cc hat hwc; rw [Hat.out] at hat; injection hat with hat; injection hat with _ hat; subst hat; rw [Hhas.out])
                | (go_at_call 44; (with_reducible refine (full_l k F _ HF.out).mono ?_); rintro e w1 ⟨rfl, rfl⟩)
                | go_in)
              go_round
              case rel => exact ⟨j + 1, _, true, by omega, by go_num, rfl, rfl, by omega, by omega, HN⟩
              case measure => simp [intOf]; omega
            · have HN : Hid (sameF fv u false ks = (0, false)) := by rw [Hid, HS.out, decide_eq_true hzo]; rfl
              have tz : (z != o) = true := by rw [bne_iff_ne]; exact hzo
              clear hzo
              subst hz
              go_wp2_with (first
                | (at_lookup; refine wpList_lookup_own_ok_int _ rfl _ _ 91 rfl 3 3 .i64 mkeyI Tryz.underlying91 Tryz.underlying3 (zeroR _) _ n D rfl hown _ _ rfl (keyOf_int_mk Tryz.underlying3 Hk.out) ?_; intro cc hat hwc; rw [Hat.out] at hat; injection hat with hat; injection hat with _ hat; subst hat; rw [Hhas.out])
                | (go_at_call 44; (with_reducible refine (full_l k F _ HF.out).mono ?_); rintro e w1 ⟨rfl, rfl⟩)
                | go_in)
              go_ret2
              exact ⟨by rw [HN.out]; rfl, rfl⟩
    · obtain rfl : j = ks.length := by omega
      have HV : Hid (sameF fv u false ks = (o, true)) := by rw [Hid, HI.out, List.drop_length]; rfl
      clear hlt
      go_wp2_with fail
      go_ret2
      exact ⟨by rw [HV.out]; rfl, rfl⟩
end Go.Proofs.YticckkadmhklmaaGreatDoor
/- Patterns: the walk of reader.hour. -/
namespace Go.Proofs.YticckkadmhklmaaGreatDoor
set_option linter.unusedVariables false
set_option linter.unusedSimpArgs false
open Go.RowKit Go.Maps

/-- What a look-up finds. -/
def Lk (D : DataW Unit) (k : Int) (x : Nat) (f : Bool) : Prop := D.atKey (.int .i64 k) (.lit (.int .i64 0)) = .lit (.int .i64 (x : Int)) ∧ Maps.has D (.int .i64 k) = f
theorem RdD.lk {vs : List (Int × Nat)} {D : DataW Unit} (h : RdD vs D) (k : Int) {o : Option Nat} (e : gotK vs k = o) : Lk D k (o.getD 0) o.isSome := by
  refine ⟨?_, by rw [h.2.2, e]⟩
  rw [h.2.1, e]
  cases o <;> rfl
set_option maxRecDepth 100000 in
set_option maxHeartbeats 4000000 in
theorem hour_c (N : Nms) (B b : Nat) (s : List UInt8) (vs : List (Int × Nat)) (w : World) (h : Rdr N B b s vs w) (hvb : ∀ x ∈ vs, x.2 ≤ 100000) :
    Calls Tryz.prog 95 #[.pointer (some ⟨B, 0, none⟩)] w fun e w' => e = .returned (.tuple #[.int .i64 ((hourP (gotK vs)).1 : Int), .bool (hourP (gotK vs)).2]) ∧ w = w' := by
  obtain ⟨c, D, n, hM, hD, hnn, hcl⟩ := h
  have hown := hM.own
  have c41 := hM.fnd
  have HV : Hid (∀ (X : Nat) (Y : Bool), hourP (gotK vs) = (X, Y) → hourP (gotK vs) = (X, Y)) := fun _ _ h => h
  have hP : hourP (gotK vs) = hourP (gotK vs) := rfl
  unfold hourP at hP
  have b9 : ∀ v, gotK vs 9 = some v → v ≤ 100000 := fun v e => gotK_bd hvb e
  have b10 : ∀ v, gotK vs 10 = some v → v ≤ 100000 := fun v e => gotK_bd hvb e
  have b13 : ∀ v, gotK vs 13 = some v → v ≤ 100000 := fun v e => gotK_bd hvb e
  clear hM hvb hcl
  cases e9 : gotK vs 9 with
  | none =>
    have H9 := Lib.hid (show Lk D 9 0 false from hD.lk 9 e9)
    cases e10 : gotK vs 10 with
    | none =>
      have H10 := Lib.hid (show Lk D 10 0 false from hD.lk 10 e10)
      obtain ⟨o13, e13⟩ : ∃ o, gotK vs 13 = o := ⟨_, rfl⟩
      have H13 := Lib.hid (hD.lk 13 e13)
      have HO : Hid (hourP (gotK vs) = (0, true)) := by unfold Hid hourP; rw [e9, e10]
      generalize o13.getD 0 = x13 at H13
      generalize o13.isSome = f13 at H13
      clear e9 e10 e13 hD b9 b10 b13 HV hP
      go_enter Tryz.func95, Tryz.ntmps95
      go_wp2_with (first
        | (at_lookup; refine wpList_lookup_own_ok_int _ rfl _ _ 91 rfl 3 3 .i64 mkeyI Tryz.underlying91 Tryz.underlying3 (zeroR _) _ n D rfl hown _ _ rfl (keyOf_int_mk Tryz.underlying3 (show (Lit.int .i64 9).wf = true by decide)) ?_; intro cc hat hwc; rw [H9.out.1] at hat; injection hat with hat; injection hat with _ hat; subst hat; rw [H9.out.2])
        | (at_lookup; refine wpList_lookup_own_ok_int _ rfl _ _ 91 rfl 3 3 .i64 mkeyI Tryz.underlying91 Tryz.underlying3 (zeroR _) _ n D rfl hown _ _ rfl (keyOf_int_mk Tryz.underlying3 (show (Lit.int .i64 10).wf = true by decide)) ?_; intro cc hat hwc; rw [H10.out.1] at hat; injection hat with hat; injection hat with _ hat; subst hat; rw [H10.out.2])
        | (at_lookup; refine wpList_lookup_own_ok_int _ rfl _ _ 91 rfl 3 3 .i64 mkeyI Tryz.underlying91 Tryz.underlying3 (zeroR _) _ n D rfl hown _ _ rfl (keyOf_int_mk Tryz.underlying3 (show (Lit.int .i64 13).wf = true by decide)) ?_; intro cc hat hwc; rw [H13.out.1] at hat; injection hat with hat; injection hat with _ hat; subst hat; rw [H13.out.2])
        | go_in)
      go_ret2
      exact ⟨by rw [HO.out]; go_num, rfl⟩
    | some t =>
      have H10 := Lib.hid (show Lk D 10 t true from hD.lk 10 e10)
      have ht := b10 t e10
      cases e13 : gotK vs 13 with
      | none =>
        have H13 := Lib.hid (show Lk D 13 0 false from hD.lk 13 e13)
        have HO : Hid (hourP (gotK vs) = if t < 1 ∨ 12 < t then (0, false) else (t % 12 + 12 * 0, true)) := by unfold Hid hourP; rw [e9, e10, e13]; rfl
        clear e9 e10 e13 hD b9 b10 b13 HV hP
        by_cases q1 : t < 1
        · rw [if_pos (.inl q1)] at HO
          go_enter Tryz.func95, Tryz.ntmps95
          go_wp2_with (first
            | (at_lookup; refine wpList_lookup_own_ok_int _ rfl _ _ 91 rfl 3 3 .i64 mkeyI Tryz.underlying91 Tryz.underlying3 (zeroR _) _ n D rfl hown _ _ rfl (keyOf_int_mk Tryz.underlying3 (show (Lit.int .i64 9).wf = true by decide)) ?_; intro cc hat hwc; rw [H9.out.1] at hat; injection hat with hat; injection hat with _ hat; subst hat; rw [H9.out.2])
            | (at_lookup; refine wpList_lookup_own_ok_int _ rfl _ _ 91 rfl 3 3 .i64 mkeyI Tryz.underlying91 Tryz.underlying3 (zeroR _) _ n D rfl hown _ _ rfl (keyOf_int_mk Tryz.underlying3 (show (Lit.int .i64 10).wf = true by decide)) ?_; intro cc hat hwc; rw [H10.out.1] at hat; injection hat with hat; injection hat with _ hat; subst hat; rw [H10.out.2])
            | (at_lookup; refine wpList_lookup_own_ok_int _ rfl _ _ 91 rfl 3 3 .i64 mkeyI Tryz.underlying91 Tryz.underlying3 (zeroR _) _ n D rfl hown _ _ rfl (keyOf_int_mk Tryz.underlying3 (show (Lit.int .i64 13).wf = true by decide)) ?_; intro cc hat hwc; rw [H13.out.1] at hat; injection hat with hat; injection hat with _ hat; subst hat; rw [H13.out.2])
            | go_in)
          go_ret2
          exact ⟨by rw [HO.out]; go_num, rfl⟩
        · by_cases q2 : 12 < t
          · rw [if_pos (.inr q2)] at HO
            go_enter Tryz.func95, Tryz.ntmps95
            go_wp2_with (first
              | (at_lookup; refine wpList_lookup_own_ok_int _ rfl _ _ 91 rfl 3 3 .i64 mkeyI Tryz.underlying91 Tryz.underlying3 (zeroR _) _ n D rfl hown _ _ rfl (keyOf_int_mk Tryz.underlying3 (show (Lit.int .i64 9).wf = true by decide)) ?_; intro cc hat hwc; rw [H9.out.1] at hat; injection hat with hat; injection hat with _ hat; subst hat; rw [H9.out.2])
              | (at_lookup; refine wpList_lookup_own_ok_int _ rfl _ _ 91 rfl 3 3 .i64 mkeyI Tryz.underlying91 Tryz.underlying3 (zeroR _) _ n D rfl hown _ _ rfl (keyOf_int_mk Tryz.underlying3 (show (Lit.int .i64 10).wf = true by decide)) ?_; intro cc hat hwc; rw [H10.out.1] at hat; injection hat with hat; injection hat with _ hat; subst hat; rw [H10.out.2])
              | (at_lookup; refine wpList_lookup_own_ok_int _ rfl _ _ 91 rfl 3 3 .i64 mkeyI Tryz.underlying91 Tryz.underlying3 (zeroR _) _ n D rfl hown _ _ rfl (keyOf_int_mk Tryz.underlying3 (show (Lit.int .i64 13).wf = true by decide)) ?_; intro cc hat hwc; rw [H13.out.1] at hat; injection hat with hat; injection hat with _ hat; subst hat; rw [H13.out.2])
              | go_in)
            go_ret2
            exact ⟨by rw [HO.out]; go_num, rfl⟩
          · rw [if_neg (by omega)] at HO
            go_enter Tryz.func95, Tryz.ntmps95
            go_wp2_with (first
              | (at_lookup; refine wpList_lookup_own_ok_int _ rfl _ _ 91 rfl 3 3 .i64 mkeyI Tryz.underlying91 Tryz.underlying3 (zeroR _) _ n D rfl hown _ _ rfl (keyOf_int_mk Tryz.underlying3 (show (Lit.int .i64 9).wf = true by decide)) ?_; intro cc hat hwc; rw [H9.out.1] at hat; injection hat with hat; injection hat with _ hat; subst hat; rw [H9.out.2])
              | (at_lookup; refine wpList_lookup_own_ok_int _ rfl _ _ 91 rfl 3 3 .i64 mkeyI Tryz.underlying91 Tryz.underlying3 (zeroR _) _ n D rfl hown _ _ rfl (keyOf_int_mk Tryz.underlying3 (show (Lit.int .i64 10).wf = true by decide)) ?_; intro cc hat hwc; rw [H10.out.1] at hat; injection hat with hat; injection hat with _ hat; subst hat; rw [H10.out.2])
              | (at_lookup; refine wpList_lookup_own_ok_int _ rfl _ _ 91 rfl 3 3 .i64 mkeyI Tryz.underlying91 Tryz.underlying3 (zeroR _) _ n D rfl hown _ _ rfl (keyOf_int_mk Tryz.underlying3 (show (Lit.int .i64 13).wf = true by decide)) ?_; intro cc hat hwc; rw [H13.out.1] at hat; injection hat with hat; injection hat with _ hat; subst hat; rw [H13.out.2])
              | go_in)
            go_ret2
            exact ⟨by rw [HO.out]; go_num, rfl⟩
      | some x =>
        have hx := b13 x e13
        have H13 := Lib.hid (show Lk D 13 x true from hD.lk 13 e13)
        have HO : Hid (hourP (gotK vs) = if t < 1 ∨ 12 < t then (0, false) else (t % 12 + 12 * x, true)) := by unfold Hid hourP; rw [e9, e10, e13]; rfl
        clear e9 e10 e13 hD b9 b10 b13 HV hP
        by_cases q1 : t < 1
        · rw [if_pos (.inl q1)] at HO
          go_enter Tryz.func95, Tryz.ntmps95
          go_wp2_with (first
            | (at_lookup; refine wpList_lookup_own_ok_int _ rfl _ _ 91 rfl 3 3 .i64 mkeyI Tryz.underlying91 Tryz.underlying3 (zeroR _) _ n D rfl hown _ _ rfl (keyOf_int_mk Tryz.underlying3 (show (Lit.int .i64 9).wf = true by decide)) ?_; intro cc hat hwc; rw [H9.out.1] at hat; injection hat with hat; injection hat with _ hat; subst hat; rw [H9.out.2])
            | (at_lookup; refine wpList_lookup_own_ok_int _ rfl _ _ 91 rfl 3 3 .i64 mkeyI Tryz.underlying91 Tryz.underlying3 (zeroR _) _ n D rfl hown _ _ rfl (keyOf_int_mk Tryz.underlying3 (show (Lit.int .i64 10).wf = true by decide)) ?_; intro cc hat hwc; rw [H10.out.1] at hat; injection hat with hat; injection hat with _ hat; subst hat; rw [H10.out.2])
            | (at_lookup; refine wpList_lookup_own_ok_int _ rfl _ _ 91 rfl 3 3 .i64 mkeyI Tryz.underlying91 Tryz.underlying3 (zeroR _) _ n D rfl hown _ _ rfl (keyOf_int_mk Tryz.underlying3 (show (Lit.int .i64 13).wf = true by decide)) ?_; intro cc hat hwc; rw [H13.out.1] at hat; injection hat with hat; injection hat with _ hat; subst hat; rw [H13.out.2])
            | go_in)
          go_ret2
          exact ⟨by rw [HO.out]; go_num, rfl⟩
        · by_cases q2 : 12 < t
          · rw [if_pos (.inr q2)] at HO
            go_enter Tryz.func95, Tryz.ntmps95
            go_wp2_with (first
              | (at_lookup; refine wpList_lookup_own_ok_int _ rfl _ _ 91 rfl 3 3 .i64 mkeyI Tryz.underlying91 Tryz.underlying3 (zeroR _) _ n D rfl hown _ _ rfl (keyOf_int_mk Tryz.underlying3 (show (Lit.int .i64 9).wf = true by decide)) ?_; intro cc hat hwc; rw [H9.out.1] at hat; injection hat with hat; injection hat with _ hat; subst hat; rw [H9.out.2])
              | (at_lookup; refine wpList_lookup_own_ok_int _ rfl _ _ 91 rfl 3 3 .i64 mkeyI Tryz.underlying91 Tryz.underlying3 (zeroR _) _ n D rfl hown _ _ rfl (keyOf_int_mk Tryz.underlying3 (show (Lit.int .i64 10).wf = true by decide)) ?_; intro cc hat hwc; rw [H10.out.1] at hat; injection hat with hat; injection hat with _ hat; subst hat; rw [H10.out.2])
              | (at_lookup; refine wpList_lookup_own_ok_int _ rfl _ _ 91 rfl 3 3 .i64 mkeyI Tryz.underlying91 Tryz.underlying3 (zeroR _) _ n D rfl hown _ _ rfl (keyOf_int_mk Tryz.underlying3 (show (Lit.int .i64 13).wf = true by decide)) ?_; intro cc hat hwc; rw [H13.out.1] at hat; injection hat with hat; injection hat with _ hat; subst hat; rw [H13.out.2])
              | go_in)
            go_ret2
            exact ⟨by rw [HO.out]; go_num, rfl⟩
          · rw [if_neg (by omega)] at HO
            go_enter Tryz.func95, Tryz.ntmps95
            go_wp2_with (first
              | (at_lookup; refine wpList_lookup_own_ok_int _ rfl _ _ 91 rfl 3 3 .i64 mkeyI Tryz.underlying91 Tryz.underlying3 (zeroR _) _ n D rfl hown _ _ rfl (keyOf_int_mk Tryz.underlying3 (show (Lit.int .i64 9).wf = true by decide)) ?_; intro cc hat hwc; rw [H9.out.1] at hat; injection hat with hat; injection hat with _ hat; subst hat; rw [H9.out.2])
              | (at_lookup; refine wpList_lookup_own_ok_int _ rfl _ _ 91 rfl 3 3 .i64 mkeyI Tryz.underlying91 Tryz.underlying3 (zeroR _) _ n D rfl hown _ _ rfl (keyOf_int_mk Tryz.underlying3 (show (Lit.int .i64 10).wf = true by decide)) ?_; intro cc hat hwc; rw [H10.out.1] at hat; injection hat with hat; injection hat with _ hat; subst hat; rw [H10.out.2])
              | (at_lookup; refine wpList_lookup_own_ok_int _ rfl _ _ 91 rfl 3 3 .i64 mkeyI Tryz.underlying91 Tryz.underlying3 (zeroR _) _ n D rfl hown _ _ rfl (keyOf_int_mk Tryz.underlying3 (show (Lit.int .i64 13).wf = true by decide)) ?_; intro cc hat hwc; rw [H13.out.1] at hat; injection hat with hat; injection hat with _ hat; subst hat; rw [H13.out.2])
              | go_in)
            go_ret2
            exact ⟨by rw [HO.out]; go_num, rfl⟩
  | some h =>
    have H9 := Lib.hid (show Lk D 9 h true from hD.lk 9 e9)
    have hh := b9 h e9
    cases e10 : gotK vs 10 with
    | none =>
      have H10 := Lib.hid (show Lk D 10 0 false from hD.lk 10 e10)
      cases e13 : gotK vs 13 with
      | none =>
        have H13 := Lib.hid (show Lk D 13 0 false from hD.lk 13 e13)
        have HO : Hid (hourP (gotK vs) = (h, true)) := by unfold Hid hourP; rw [e9, e10, e13]; rfl
        clear e9 e10 e13 hD b9 b10 b13 HV hP
        go_enter Tryz.func95, Tryz.ntmps95
        go_wp2_with (first
          | (at_lookup; refine wpList_lookup_own_ok_int _ rfl _ _ 91 rfl 3 3 .i64 mkeyI Tryz.underlying91 Tryz.underlying3 (zeroR _) _ n D rfl hown _ _ rfl (keyOf_int_mk Tryz.underlying3 (show (Lit.int .i64 9).wf = true by decide)) ?_; intro cc hat hwc; rw [H9.out.1] at hat; injection hat with hat; injection hat with _ hat; subst hat; rw [H9.out.2])
          | (at_lookup; refine wpList_lookup_own_ok_int _ rfl _ _ 91 rfl 3 3 .i64 mkeyI Tryz.underlying91 Tryz.underlying3 (zeroR _) _ n D rfl hown _ _ rfl (keyOf_int_mk Tryz.underlying3 (show (Lit.int .i64 10).wf = true by decide)) ?_; intro cc hat hwc; rw [H10.out.1] at hat; injection hat with hat; injection hat with _ hat; subst hat; rw [H10.out.2])
          | (at_lookup; refine wpList_lookup_own_ok_int _ rfl _ _ 91 rfl 3 3 .i64 mkeyI Tryz.underlying91 Tryz.underlying3 (zeroR _) _ n D rfl hown _ _ rfl (keyOf_int_mk Tryz.underlying3 (show (Lit.int .i64 13).wf = true by decide)) ?_; intro cc hat hwc; rw [H13.out.1] at hat; injection hat with hat; injection hat with _ hat; subst hat; rw [H13.out.2])
          | go_in)
        go_ret2
        exact ⟨by rw [HO.out]; go_num, rfl⟩
      | some x =>
        have hx := b13 x e13
        have H13 := Lib.hid (show Lk D 13 x true from hD.lk 13 e13)
        have HO : Hid (hourP (gotK vs) = (h, !decide (x ≠ h / 12))) := by unfold Hid hourP; rw [e9, e10, e13]
        clear e9 e10 e13 hD b9 b10 b13 HV hP
        by_cases q3 : x = h / 12
        · have t3 : ((x : Int) != (h : Int) / 12) = false := by rw [bne_eq_false_iff_eq]; omega
          rw [decide_eq_false (by omega)] at HO
          clear q3
          go_enter Tryz.func95, Tryz.ntmps95
          go_wp2_with (first
            | (at_lookup; refine wpList_lookup_own_ok_int _ rfl _ _ 91 rfl 3 3 .i64 mkeyI Tryz.underlying91 Tryz.underlying3 (zeroR _) _ n D rfl hown _ _ rfl (keyOf_int_mk Tryz.underlying3 (show (Lit.int .i64 9).wf = true by decide)) ?_; intro cc hat hwc; rw [H9.out.1] at hat; injection hat with hat; injection hat with _ hat; subst hat; rw [H9.out.2])
            | (at_lookup; refine wpList_lookup_own_ok_int _ rfl _ _ 91 rfl 3 3 .i64 mkeyI Tryz.underlying91 Tryz.underlying3 (zeroR _) _ n D rfl hown _ _ rfl (keyOf_int_mk Tryz.underlying3 (show (Lit.int .i64 10).wf = true by decide)) ?_; intro cc hat hwc; rw [H10.out.1] at hat; injection hat with hat; injection hat with _ hat; subst hat; rw [H10.out.2])
            | (at_lookup; refine wpList_lookup_own_ok_int _ rfl _ _ 91 rfl 3 3 .i64 mkeyI Tryz.underlying91 Tryz.underlying3 (zeroR _) _ n D rfl hown _ _ rfl (keyOf_int_mk Tryz.underlying3 (show (Lit.int .i64 13).wf = true by decide)) ?_; intro cc hat hwc; rw [H13.out.1] at hat; injection hat with hat; injection hat with _ hat; subst hat; rw [H13.out.2])
            | go_in)
          go_ret2
          exact ⟨by rw [HO.out]; go_num, rfl⟩
        · have t3 : ((x : Int) != (h : Int) / 12) = true := by rw [bne_iff_ne]; omega
          rw [decide_eq_true (by omega)] at HO
          clear q3
          go_enter Tryz.func95, Tryz.ntmps95
          go_wp2_with (first
            | (at_lookup; refine wpList_lookup_own_ok_int _ rfl _ _ 91 rfl 3 3 .i64 mkeyI Tryz.underlying91 Tryz.underlying3 (zeroR _) _ n D rfl hown _ _ rfl (keyOf_int_mk Tryz.underlying3 (show (Lit.int .i64 9).wf = true by decide)) ?_; intro cc hat hwc; rw [H9.out.1] at hat; injection hat with hat; injection hat with _ hat; subst hat; rw [H9.out.2])
            | (at_lookup; refine wpList_lookup_own_ok_int _ rfl _ _ 91 rfl 3 3 .i64 mkeyI Tryz.underlying91 Tryz.underlying3 (zeroR _) _ n D rfl hown _ _ rfl (keyOf_int_mk Tryz.underlying3 (show (Lit.int .i64 10).wf = true by decide)) ?_; intro cc hat hwc; rw [H10.out.1] at hat; injection hat with hat; injection hat with _ hat; subst hat; rw [H10.out.2])
            | (at_lookup; refine wpList_lookup_own_ok_int _ rfl _ _ 91 rfl 3 3 .i64 mkeyI Tryz.underlying91 Tryz.underlying3 (zeroR _) _ n D rfl hown _ _ rfl (keyOf_int_mk Tryz.underlying3 (show (Lit.int .i64 13).wf = true by decide)) ?_; intro cc hat hwc; rw [H13.out.1] at hat; injection hat with hat; injection hat with _ hat; subst hat; rw [H13.out.2])
            | go_in)
          go_ret2
          exact ⟨by rw [HO.out]; go_num, rfl⟩
    | some t =>
      have H10 := Lib.hid (show Lk D 10 t true from hD.lk 10 e10)
      have ht := b10 t e10
      by_cases q : t < 1 ∨ 12 < t
      · have HO : Hid (hourP (gotK vs) = (0, false)) := by unfold Hid hourP; rw [e9, e10]; simp only; rw [if_pos q]
        obtain ⟨o13, e13⟩ : ∃ o, gotK vs 13 = o := ⟨_, rfl⟩
        have H13 := Lib.hid (hD.lk 13 e13)
        generalize o13.getD 0 = x13 at H13
        generalize o13.isSome = f13 at H13
        clear e9 e10 e13 hD b9 b10 b13 HV hP
        by_cases q1 : t < 1
        · clear q
          go_enter Tryz.func95, Tryz.ntmps95
          go_wp2_with (first
            | (at_lookup; refine wpList_lookup_own_ok_int _ rfl _ _ 91 rfl 3 3 .i64 mkeyI Tryz.underlying91 Tryz.underlying3 (zeroR _) _ n D rfl hown _ _ rfl (keyOf_int_mk Tryz.underlying3 (show (Lit.int .i64 9).wf = true by decide)) ?_; intro cc hat hwc; rw [H9.out.1] at hat; injection hat with hat; injection hat with _ hat; subst hat; rw [H9.out.2])
            | (at_lookup; refine wpList_lookup_own_ok_int _ rfl _ _ 91 rfl 3 3 .i64 mkeyI Tryz.underlying91 Tryz.underlying3 (zeroR _) _ n D rfl hown _ _ rfl (keyOf_int_mk Tryz.underlying3 (show (Lit.int .i64 10).wf = true by decide)) ?_; intro cc hat hwc; rw [H10.out.1] at hat; injection hat with hat; injection hat with _ hat; subst hat; rw [H10.out.2])
            | (at_lookup; refine wpList_lookup_own_ok_int _ rfl _ _ 91 rfl 3 3 .i64 mkeyI Tryz.underlying91 Tryz.underlying3 (zeroR _) _ n D rfl hown _ _ rfl (keyOf_int_mk Tryz.underlying3 (show (Lit.int .i64 13).wf = true by decide)) ?_; intro cc hat hwc; rw [H13.out.1] at hat; injection hat with hat; injection hat with _ hat; subst hat; rw [H13.out.2])
            | go_in)
          go_ret2
          exact ⟨by rw [HO.out]; go_num, rfl⟩
        · have q2 : 12 < t := by omega
          clear q
          go_enter Tryz.func95, Tryz.ntmps95
          go_wp2_with (first
            | (at_lookup; refine wpList_lookup_own_ok_int _ rfl _ _ 91 rfl 3 3 .i64 mkeyI Tryz.underlying91 Tryz.underlying3 (zeroR _) _ n D rfl hown _ _ rfl (keyOf_int_mk Tryz.underlying3 (show (Lit.int .i64 9).wf = true by decide)) ?_; intro cc hat hwc; rw [H9.out.1] at hat; injection hat with hat; injection hat with _ hat; subst hat; rw [H9.out.2])
            | (at_lookup; refine wpList_lookup_own_ok_int _ rfl _ _ 91 rfl 3 3 .i64 mkeyI Tryz.underlying91 Tryz.underlying3 (zeroR _) _ n D rfl hown _ _ rfl (keyOf_int_mk Tryz.underlying3 (show (Lit.int .i64 10).wf = true by decide)) ?_; intro cc hat hwc; rw [H10.out.1] at hat; injection hat with hat; injection hat with _ hat; subst hat; rw [H10.out.2])
            | (at_lookup; refine wpList_lookup_own_ok_int _ rfl _ _ 91 rfl 3 3 .i64 mkeyI Tryz.underlying91 Tryz.underlying3 (zeroR _) _ n D rfl hown _ _ rfl (keyOf_int_mk Tryz.underlying3 (show (Lit.int .i64 13).wf = true by decide)) ?_; intro cc hat hwc; rw [H13.out.1] at hat; injection hat with hat; injection hat with _ hat; subst hat; rw [H13.out.2])
            | go_in)
          go_ret2
          exact ⟨by rw [HO.out]; go_num, rfl⟩
      · have HO0 : Hid (hourP (gotK vs) = (h, !decide (t % 12 ≠ h % 12) && !(match gotK vs 13 with | some x => decide (x ≠ h / 12) | none => false))) := by unfold Hid hourP; rw [e9, e10]; simp only; rw [if_neg q]; cases gotK vs 13 <;> rfl
        have q1 : ¬ t < 1 := fun e => q (.inl e)
        have q2 : ¬ 12 < t := fun e => q (.inr e)
        by_cases q4 : t % 12 = h % 12
        · have t4 : ((t : Int) % 12 != (h : Int) % 12) = false := by rw [bne_eq_false_iff_eq]; omega
          have hd : decide (t % 12 ≠ h % 12) = false := by simp [q4]
          rw [hd] at HO0
          clear hd q4
          cases e13 : gotK vs 13 with
          | none =>
            have H13 := Lib.hid (show Lk D 13 0 false from hD.lk 13 e13)
            have HO : Hid (hourP (gotK vs) = (h, true)) := by rw [Hid, HO0.out, e13]; rfl
            clear e9 e10 e13 hD b9 b10 b13 HV hP HO0 q
            go_enter Tryz.func95, Tryz.ntmps95
            go_wp2_with (first
              | (at_lookup; refine wpList_lookup_own_ok_int _ rfl _ _ 91 rfl 3 3 .i64 mkeyI Tryz.underlying91 Tryz.underlying3 (zeroR _) _ n D rfl hown _ _ rfl (keyOf_int_mk Tryz.underlying3 (show (Lit.int .i64 9).wf = true by decide)) ?_; intro cc hat hwc; rw [H9.out.1] at hat; injection hat with hat; injection hat with _ hat; subst hat; rw [H9.out.2])
              | (at_lookup; refine wpList_lookup_own_ok_int _ rfl _ _ 91 rfl 3 3 .i64 mkeyI Tryz.underlying91 Tryz.underlying3 (zeroR _) _ n D rfl hown _ _ rfl (keyOf_int_mk Tryz.underlying3 (show (Lit.int .i64 10).wf = true by decide)) ?_; intro cc hat hwc; rw [H10.out.1] at hat; injection hat with hat; injection hat with _ hat; subst hat; rw [H10.out.2])
              | (at_lookup; refine wpList_lookup_own_ok_int _ rfl _ _ 91 rfl 3 3 .i64 mkeyI Tryz.underlying91 Tryz.underlying3 (zeroR _) _ n D rfl hown _ _ rfl (keyOf_int_mk Tryz.underlying3 (show (Lit.int .i64 13).wf = true by decide)) ?_; intro cc hat hwc; rw [H13.out.1] at hat; injection hat with hat; injection hat with _ hat; subst hat; rw [H13.out.2])
              | go_in)
            go_ret2
            exact ⟨by rw [HO.out]; go_num, rfl⟩
          | some x =>
            have hx := b13 x e13
            have H13 := Lib.hid (show Lk D 13 x true from hD.lk 13 e13)
            have HO : Hid (hourP (gotK vs) = (h, !decide (x ≠ h / 12))) := by rw [Hid, HO0.out, e13]; rfl
            clear e9 e10 e13 hD b9 b10 b13 HV hP HO0 q
            by_cases q3 : x = h / 12
            · have t3 : ((x : Int) != (h : Int) / 12) = false := by rw [bne_eq_false_iff_eq]; omega
              rw [decide_eq_false (by omega)] at HO
              clear q3
              go_enter Tryz.func95, Tryz.ntmps95
              go_wp2_with (first
                | (at_lookup; refine wpList_lookup_own_ok_int _ rfl _ _ 91 rfl 3 3 .i64 mkeyI Tryz.underlying91 Tryz.underlying3 (zeroR _) _ n D rfl hown _ _ rfl (keyOf_int_mk Tryz.underlying3 (show (Lit.int .i64 9).wf = true by decide)) ?_; intro cc hat hwc; rw [H9.out.1] at hat; injection hat with hat; injection hat with _ hat; subst hat; rw [H9.out.2])
                | (at_lookup; refine wpList_lookup_own_ok_int _ rfl _ _ 91 rfl 3 3 .i64 mkeyI Tryz.underlying91 Tryz.underlying3 (zeroR _) _ n D rfl hown _ _ rfl (keyOf_int_mk Tryz.underlying3 (show (Lit.int .i64 10).wf = true by decide)) ?_; intro cc hat hwc; rw [H10.out.1] at hat; injection hat with hat; injection hat with _ hat; subst hat; rw [H10.out.2])
                | (at_lookup; refine wpList_lookup_own_ok_int _ rfl _ _ 91 rfl 3 3 .i64 mkeyI Tryz.underlying91 Tryz.underlying3 (zeroR _) _ n D rfl hown _ _ rfl (keyOf_int_mk Tryz.underlying3 (show (Lit.int .i64 13).wf = true by decide)) ?_; intro cc hat hwc; rw [H13.out.1] at hat; injection hat with hat; injection hat with _ hat; subst hat; rw [H13.out.2])
                | go_in)
              go_ret2
              exact ⟨by rw [HO.out]; go_num, rfl⟩
            · have t3 : ((x : Int) != (h : Int) / 12) = true := by rw [bne_iff_ne]; omega
              rw [decide_eq_true (by omega)] at HO
              clear q3
              go_enter Tryz.func95, Tryz.ntmps95
              go_wp2_with (first
                | (at_lookup; refine wpList_lookup_own_ok_int _ rfl _ _ 91 rfl 3 3 .i64 mkeyI Tryz.underlying91 Tryz.underlying3 (zeroR _) _ n D rfl hown _ _ rfl (keyOf_int_mk Tryz.underlying3 (show (Lit.int .i64 9).wf = true by decide)) ?_; intro cc hat hwc; rw [H9.out.1] at hat; injection hat with hat; injection hat with _ hat; subst hat; rw [H9.out.2])
                | (at_lookup; refine wpList_lookup_own_ok_int _ rfl _ _ 91 rfl 3 3 .i64 mkeyI Tryz.underlying91 Tryz.underlying3 (zeroR _) _ n D rfl hown _ _ rfl (keyOf_int_mk Tryz.underlying3 (show (Lit.int .i64 10).wf = true by decide)) ?_; intro cc hat hwc; rw [H10.out.1] at hat; injection hat with hat; injection hat with _ hat; subst hat; rw [H10.out.2])
                | (at_lookup; refine wpList_lookup_own_ok_int _ rfl _ _ 91 rfl 3 3 .i64 mkeyI Tryz.underlying91 Tryz.underlying3 (zeroR _) _ n D rfl hown _ _ rfl (keyOf_int_mk Tryz.underlying3 (show (Lit.int .i64 13).wf = true by decide)) ?_; intro cc hat hwc; rw [H13.out.1] at hat; injection hat with hat; injection hat with _ hat; subst hat; rw [H13.out.2])
                | go_in)
              go_ret2
              exact ⟨by rw [HO.out]; go_num, rfl⟩
        · have t4 : ((t : Int) % 12 != (h : Int) % 12) = true := by rw [bne_iff_ne]; omega
          have HO : Hid (hourP (gotK vs) = (h, false)) := by rw [Hid, HO0.out, decide_eq_true q4]; rfl
          obtain ⟨o13, e13⟩ : ∃ o, gotK vs 13 = o := ⟨_, rfl⟩
          have H13 := Lib.hid (hD.lk 13 e13)
          generalize o13.getD 0 = x13 at H13
          generalize o13.isSome = f13 at H13
          clear e9 e10 e13 hD b9 b10 b13 HV hP HO0 q q4
          go_enter Tryz.func95, Tryz.ntmps95
          go_wp2_with (first
            | (at_lookup; refine wpList_lookup_own_ok_int _ rfl _ _ 91 rfl 3 3 .i64 mkeyI Tryz.underlying91 Tryz.underlying3 (zeroR _) _ n D rfl hown _ _ rfl (keyOf_int_mk Tryz.underlying3 (show (Lit.int .i64 9).wf = true by decide)) ?_; intro cc hat hwc; rw [H9.out.1] at hat; injection hat with hat; injection hat with _ hat; subst hat; rw [H9.out.2])
            | (at_lookup; refine wpList_lookup_own_ok_int _ rfl _ _ 91 rfl 3 3 .i64 mkeyI Tryz.underlying91 Tryz.underlying3 (zeroR _) _ n D rfl hown _ _ rfl (keyOf_int_mk Tryz.underlying3 (show (Lit.int .i64 10).wf = true by decide)) ?_; intro cc hat hwc; rw [H10.out.1] at hat; injection hat with hat; injection hat with _ hat; subst hat; rw [H10.out.2])
            | (at_lookup; refine wpList_lookup_own_ok_int _ rfl _ _ 91 rfl 3 3 .i64 mkeyI Tryz.underlying91 Tryz.underlying3 (zeroR _) _ n D rfl hown _ _ rfl (keyOf_int_mk Tryz.underlying3 (show (Lit.int .i64 13).wf = true by decide)) ?_; intro cc hat hwc; rw [H13.out.1] at hat; injection hat with hat; injection hat with _ hat; subst hat; rw [H13.out.2])
            | go_in)
          go_ret2
          exact ⟨by rw [HO.out]; go_num, rfl⟩
end Go.Proofs.YticckkadmhklmaaGreatDoor
