/- Locales: the walk of the law LocaleSums at a number that is not 0. -/
import Derived.Test.YtlmoibmmjonjoaaGreatDoorQ28
namespace Go.Proofs.YtlmoibmmjonjoaaGreatDoor
set_option linter.unusedVariables false
set_option linter.unusedSimpArgs false
open Go.RowKit

theorem mq_eq {l : Loc} {P : List Plu} {U : List Uni} {z : Nat} (h : ∀ i, i < U.length → unAt P U i) (hz : z < U.length) (k : Nat) (hk : k < (U[z]).f.length) (hp : k < P.length) : ((U[z]).f[k]).c = (P[k]).c := ((h z hz hz).2.2 k hk hp).1
set_option maxRecDepth 100000 in
set_option maxHeartbeats 4000000 in
theorem lsums_p (L : Loc) (N : Nat) (w : World) (h : LcV L w) (hb : bgL L) (hm : Lm w) (hNl : ∀ s ∈ L.N.all, s.length ≤ 2000000) (hv : validLB L = true) (hN0 : 0 < N) (hN1 : (N : Int) ≤ 4398046511104) :
    Calls Tryz.prog 6 #[.agg L.vals.toArray, .int .i64 (N : Int)] w fun e w' => e = .returned (.bool true) ∧ Ext w w' := by
  obtain ⟨v1, v2⟩ := duV_n (L := L) (n := (N : Int)) hv (by unfold dnrB; simp; omega) (by omega)
  rw [if_neg (by omega), Int.natAbs_natCast] at v2
  have hneg : -(N : Int) < (N : Int) := by omega
  have hneg2 : -(N : Int) ≤ (N : Int) := by omega
  have hmx : max (N : Int) (-(N : Int)) = (N : Int) := by omega
  have hUF := uf_of (vu hv).1 (vu hv).2
  obtain ⟨ps, hps⟩ : ∃ ps, (dst L.P L.U N).1 = ps := ⟨_, rfl⟩
  have h0 : ps ≠ [] := by rw [← hps]; exact (dst_end hUF N).2 hN0
  have hpl : 0 < ps.length := List.length_pos_iff.2 h0
  have hple : ps.length ≤ 10 := by
    have h1 := (dst_le L.P L.U N L.U.length (Nat.le_refl _)).2.1
    rw [List.take_of_length_le (Nat.le_refl _), hps] at h1
    exact Nat.le_trans h1 hUF.ten
  have h44 : ∀ a ∈ ps, ∀ x ∈ a, x ≠ 44 := by
    have h1 := dst_44 hUF (N := N) (j := L.U.length) (Nat.le_refl _)
    rw [List.take_of_length_le (Nat.le_refl _), hps] at h1
    exact h1
  have h50 : ∀ a ∈ ps, a.length ≤ 50 := by
    have h1 := dst_mem hUF (N := N) (j := L.U.length) (by omega) (Nat.le_refl _)
    rw [List.take_of_length_le (Nat.le_refl _), hps] at h1
    exact h1
  obtain ⟨T, hT⟩ : ∃ T, Lib.join ps [44, 32] = T := ⟨_, rfl⟩
  have hTl : T.length ≤ 1000 := by
    rw [← hT]
    refine Nat.le_trans (join_le ps [44, 32] 50 h50) ?_
    simp only [List.length_cons, List.length_nil]
    omega
  obtain ⟨F0, hF0⟩ : ∃ F, ps[0] = F := ⟨_, rfl⟩
  rw [hps, hT] at v2
  obtain ⟨TS, hTS⟩ : ∃ t, t = [] ++ T := ⟨_, rfl⟩
  rw [← hTS] at v2
  obtain ⟨dh, dr, hdh⟩ : ∃ d r, T = d :: r ∧ isDg d = true := by
    obtain ⟨x, r, e⟩ : ∃ x r, ps = x :: r := List.exists_cons_of_ne_nil h0
    have hx : ∃ d r2, x = d :: r2 ∧ isDg d = true := by
      obtain ⟨m, hml, -, e2⟩ := dst_first hUF N hN0 ps hps hpl
      have e3 : ps[0] = x := by simp only [e]; rfl
      obtain ⟨c, r3, e4, e5⟩ := itx_head (N / (L.U[m]).s.natAbs) 1
      refine ⟨c, r3 ++ 32 :: (((L.U[m]).f[fstI (N / (L.U[m]).s.natAbs) L.P]?.map (·.r)).getD []), ?_, e5⟩
      rw [← e3, e2]
      unfold amt
      rw [e4]; rfl
    obtain ⟨d, r2, e6, e7⟩ := hx
    rw [← hT, e, Lib.join_cons, e6]
    exact ⟨d, _, rfl, e7⟩
  have hCP : ∀ w', Calls Tryz.prog 14 #[.string ⟨TS.toArray⟩, .string ⟨#[45]⟩] w' fun e w'' => e = .returned (.tuple #[.string ⟨T.toArray⟩, .bool false]) ∧ w' = w'' := fun w' => by
    rw [hTS]
    refine cutm_c ([] ++ T) [45] T false w' ?_ (by first | rfl | simp)
    rw [hdh.1]
    have h2 := isDg_iff.1 hdh.2
    first
      | rfl
      | (simp only [List.nil_append, List.isPrefixOf, Bool.and_eq_false_iff]
         left
         rw [beq_eq_false_iff_ne]
         intro e
         rw [← e] at h2
         exact absurd h2.1 (by decide))
  have hIL := loc_size h.1
  have hE0 : Ext w (w.alloc (.cells L.vals.toArray 30)) := (Ext.refl w).alloc _
  have hB := LcB.new L w 30
  have hR := hB.2
  obtain ⟨-, -, -, g3, -⟩ := hB.cells h.1
  have HzB := Lib.hid hB.1
  have HE0 := Lib.hid hE0
  have HVl := Lib.hid hv
  obtain ⟨k1, k2⟩ := ruled_ok (valid_P hv).1
  have HUF := Lib.hid hUF
  have HPS := Lib.hid hps
  have H50 := Lib.hid h50
  have HF0 := Lib.hid hF0
  have HCP := Lib.hid hCP
  have Hun := Lib.hid (vu hv).2
  have HAw : Hid (∀ w', Ext w w' → Calls Tryz.prog 7 #[] w' fun e w'' => e = .returned (.bool true) ∧ Ext w' w'') := fun w' hE => awake55_c w' (hm.ext hE)
  have HFw : Hid (∀ w', Ext w w' → Calls Tryz.prog 8 #[.agg L.vals.toArray] w' (fun e w'' => ∃ b : Bool, e = .returned (.bool b) ∧ (b = true → shL L) ∧ Ext w' w'')) := fun w' hE => few_c L w' (h.ext hE) hb (hm.ext hE) hNl
  have HVa : Hid (∀ w', shL L → Ext w w' → Calls Tryz.prog 13 #[.agg L.vals.toArray] w' fun e w'' => e = .returned (.bool true) ∧ Ext w' w'') := fun w' hs hE => valid_c L true w' (h.ext hE) hs (hm.ext hE) hNl HVl.out
  have HDu : Hid (∀ w', shL L → Ext w w' → Calls Tryz.prog 18 #[.agg L.vals.toArray, .int .i64 (N : Int)] w' fun e w'' => e = .returned (.tuple #[.string ⟨TS.toArray⟩, .int .i64 0]) ∧ Ext w' w'') := fun w' hs hE => by have q := duration_c L (N : Int) w' (h.ext hE) hs (hm.ext hE) hNl; rw [v1, v2] at q; exact q
  have HSp : Hid (∀ w', Ext w w' → Calls Tryz.prog 22 #[.string ⟨T.toArray⟩, .string ⟨#[44, 32]⟩] w' fun e w'' => ∃ x, e = .returned x ∧ SpR ps x w'' ∧ Ext w' w'') := fun w' hE => split2_c ps T w' (hm.ext hE) h0 h44 (by omega) (by omega) hT
  have HPl : Hid (∀ w' (q : Nat), shL L → Ext w w' → (q : Int) ≤ 4398046511104 → ∀ (hl : fstI q L.P < L.P.length), Calls Tryz.prog 9 #[.agg L.vals.toArray, .int .i64 (q : Int)] w' fun e w'' => e = .returned (.tuple #[.string ⟨(L.P[fstI q L.P]).c.toArray⟩, .int .i64 0]) ∧ Ext w' w'') := fun w' q hs hE hq hl => by
    have z := plural_c L (q : Int) w' (h.ext hE) hs (hm.ext hE) hNl
    have e1 : plE L (q : Int) = 0 := by unfold plE inrB; simp [hv]; omega
    have e2 : plV L (q : Int) = (L.P[fstI q L.P]).c := by unfold plV; rw [if_pos e1]; show ((L.P[fstI q L.P]?).map (·.c)).getD [] = _; rw [List.getElem?_eq_getElem hl]; rfl
    rw [e1, e2] at z
    exact z
  have HRe : Hid (∀ w', shL L → Ext w w' → tmB (N : Int) = true → Calls Tryz.prog 20 #[.agg L.vals.toArray, .int .i64 (N : Int), .int .i64 0] w' fun e w'' => e = .returned (.tuple #[.string ⟨((if 0 < (N : Int) then 43 else 45) :: F0).toArray⟩, .int .i64 0]) ∧ Ext w' w'') := fun w' hs hE ht => by
    obtain ⟨m, hml, hmm, e2⟩ := dst_first hUF N hN0 ps hps hpl
    obtain ⟨r1, r2⟩ := reV_ne (L := L) (t := (N : Int)) (now := 0) (d := N) hv ht (by decide) (by omega) (by omega) hmm hml
    have z := relative_c L (N : Int) 0 w' (h.ext hE) hs (hm.ext hE) hNl
    rw [r1, r2, ← e2, hF0] at z
    exact z
  have HLm := Lib.hid (fun w' (hE : Ext w w') => hm.ext hE)
  have HUn := Lib.hid (fun w' (hE : Ext w w') => (h.ext hE).2.2.2)
  have HPn := Lib.hid (fun w' (hE : Ext w w') => (h.ext hE).2.1)
  have hP8 : 1 ≤ L.P.length := k1
  clear h hb hm hNl hv v1 v2 hUF hps h0 h44 h50 hT hdh hF0 hCP hTS hE0 hB k2 k1
  have t1 : decide ((N : Int) < 0) = false := by simp
  have t2 : decide ((N : Int) < -4398046511104) = false := decide_eq_false (by omega)
  have t3 : decide (4398046511104 < (N : Int)) = false := decide_eq_false (by omega)
  have t4 : ((N : Int) == 0) = false := by rw [beq_eq_false_iff_ne]; omega
  have t5 : ((N : Int) != 0) = true := by rw [bne_iff_ne]; omega
  have t6 : decide ((0 : Int) < (N : Int)) = true := by simp; omega
  have t7 : decide (0 < N) = true := by simp; omega
  go_enter Tryz.func6, Tryz.ntmps6
  go_upto_region 1 with fail
  generalize w.alloc (.cells L.vals.toArray 30) = W0 at *
  generalize w.heap.size = B at *
  go_wp2_with (first
    | (go_at_call 7; (with_reducible refine (HAw.out _ HE0.out).mono ?_); rintro e w1 ⟨rfl, hE1⟩; have hR1 := rng_ext hR HzB.out hE1; have hB1 := hE1.lt HzB.out)
    | (refine load_midg (by rfl) 30 _ rfl B 0 rfl L.vals _ hR1 Tryz.underlying30 rfl hIL ?_)
    | (go_at_call 8; (with_reducible refine (HFw.out _ (HE0.out.trans hE1)).mono ?_); rintro e w2 ⟨b, rfl, hsh, hE2⟩; have hR2 := rng_ext hR1 hB1 hE2; have hB2 := hE2.lt hB1; cases b)
    | (refine load_midg (by rfl) 30 _ rfl B 0 rfl L.vals _ hR2 Tryz.underlying30 rfl hIL ?_)
    | (go_at_call 13; (with_reducible refine (HVa.out _ (hsh (by trivial)) (HE0.out.trans (hE1.trans hE2))).mono ?_); rintro e w3 ⟨rfl, hE3⟩; have hR3 := rng_ext hR2 hB2 hE3; have hB3 := hE3.lt hB2; have hX3 := HE0.out.trans (hE1.trans (hE2.trans hE3)))
    | (refine load_midg (by rfl) 30 _ rfl B 0 rfl L.vals _ hR3 Tryz.underlying30 rfl hIL ?_)
    | (go_at_call 18; (with_reducible refine (HDu.out _ (hsh (by trivial)) hX3).mono ?_); rintro e w4 ⟨rfl, hE4⟩; have hX4 := hX3.trans hE4)
    | (go_at_call 14; (with_reducible refine (HCP.out _).mono ?_); rintro e w5 ⟨rfl, rfl⟩)
    | (go_at_call 22; (with_reducible refine (HSp.out _ hX4).mono ?_); rintro e w6 ⟨x, rfl, hx, hE6⟩; obtain ⟨g, cg, rfl, hg1, hg2, hg3⟩ := hx))
  · go_ret
    exact ⟨rfl, HE0.out.trans (hE1.trans hE2)⟩
  have HSh := Lib.hid (hsh (by trivial))
  have HX6 := Lib.hid (hX4.trans hE6)
  have hE06 := hE1.trans (hE2.trans (hE3.trans (hE4.trans hE6)))
  have g3V := (hE06.cells B 43 HzB.out).trans g3
  have HR6 := Lib.hid (rng_ext hR HzB.out hE06)
  have hzB6 := hE06.lt HzB.out
  have hgl := hg1.1
  have HG := Lib.hid hg1.2
  unfold maxLen at hg3
  obtain ⟨R, off, hua, hzR, hcu⟩ := (HUn.out w6 HX6.out).2.2.1 (by have := HUF.out.one; intro e; rw [e] at this; simp at this)
  have hul := (HUn.out w6 HX6.out).1
  have hul2 := (HUn.out w6 HX6.out).2.1
  unfold maxLen at hul2
  have HCu := Lib.hid hcu
  rw [hua] at g3V
  clear hg1 hcu hsh hR hR1 hR2 hR3 hB1 hB2 hB3 hX3 hX4 hE1 hE2 hE3 hE4 hE6 hE06 g3 hua
  go_loopw [9, 10, 11, 67] (fun s9 s10 s11 s67 wr => ∃ (i k r sm : Nat) (F : List UInt8), i ≤ ps.length ∧ k ≤ L.U.length ∧ sm + r = N ∧ s9 = .int .i64 (sm : Int) ∧ s10 = .int .i64 (k : Int) ∧ s11 = .string ⟨F.toArray⟩ ∧ s67 = .int .i64 (i : Int) ∧ Hid (i ≠ 0 → F = F0) ∧ Hid (dst L.P (L.U.take k) N = (ps.take i, r)) ∧ Ext w6 wr) (fun _ _ _ i _ => ps.length - (intOf i).toNat)
  case atStart => exact ⟨0, 0, N, 0, [], Nat.zero_le _, Nat.zero_le _, by omega, rfl, rfl, rfl, rfl, fun h => absurd rfl h, rfl, Ext.refl _⟩
  case round =>
    obtain ⟨i, k, r, sm, F, hi, hk, hsm, rfl, rfl, rfl, rfl, HF, HD, hE⟩ := hrel
    have g3r := (hE.cells B 43 hzB6).trans g3V
    have hBr := hE.lt hzB6
    have hRr := hE.lt hzR
    have HRr := Lib.hid (rng_ext HR6.out hzB6 hE)
    have HXr := Lib.hid (HX6.out.trans hE)
    by_cases hlt : i < ps.length
    · obtain ⟨z, hz, hkz, hlt2, hq0, hpi, hdz⟩ := dst_next HUF.out N r i ps HPS.out hlt (L.U.length - k) k (by omega) HD.out
      have c0p := HG.out i hlt
      rw [Nat.zero_add] at c0p
      replace c0p := (hE.cells g i hgl).trans c0p
      have hgr := hE.lt hgl
      have hal := H50.out ps[i] (List.getElem_mem _)
      obtain ⟨c0, c1⟩ := HCu.out z hz
      replace c0 := (hE.cells R _ hzR).trans c0
      replace c1 := (hE.cells R _ hzR).trans c1
      obtain ⟨s1, s2, s3, s4⟩ := HUF.out.at_ z hz
      have HLt : Hid (∀ t, k ≤ t → ∀ ht : t < z, wr.cell? ⟨R, off + t * 2, none⟩ = some (.int .i64 (L.U[t]'(by omega)).s) ∧ (r : Int) < (L.U[t]'(by omega)).s ∧ (L.U[t]'(by omega)).s ≤ 1099511627776) := fun t h1 h2 => ⟨(hE.cells R _ hzR).trans (HCu.out t (by omega)).1, hlt2 t h1 h2, (HUF.out.at_ t (by omega)).2.1⟩
      have HCat : Hid (∀ j (hj : j < (L.U[z]).f.length) (hp : j < L.P.length), ((L.U[z]).f[j]).c = (L.P[j]).c) := fun j hj hp => mq_eq (l := L) Hun.out hz j hj hp
      have HFv : Hid (PlV (L.U[z]).ao (L.U[z]).cap (L.U[z]).f wr) := (HUn.out wr HXr.out).2.2.2 L.U[z] (List.getElem_mem _)
      have HSf : Hid (shP (L.U[z]).f) := HSh.out.2.2.1 _ (List.getElem_mem _)
      have HF0i : Hid (i = 0 → ps[i] = F0) := fun e => by subst e; exact HF0.out
      obtain ⟨a, ha⟩ : ∃ a, a = ps[i] := ⟨_, rfl⟩
      rw [← ha] at c0p hal hpi HF0i
      obtain ⟨u, hu⟩ : ∃ u, u = L.U[z] := ⟨_, rfl⟩
      rw [← hu] at c0 c1 s1 s2 s3 s4 hq0 hpi hdz HCat HFv HSf
      clear ha hu hlt2
      obtain ⟨us, uao, ucap, uf⟩ := u
      simp only at c0 c1 s1 s2 s3 s4 hq0 hpi hdz HCat HFv HSf
      obtain ⟨s, rfl⟩ := Int.eq_ofNat_of_zero_le (show 0 ≤ us by omega)
      rw [Int.natAbs_natCast] at hq0 hpi hdz
      obtain ⟨q, hq⟩ : ∃ q, r / s = q := ⟨_, rfl⟩
      obtain ⟨p, hp⟩ : ∃ p, r % s = p := ⟨_, rfl⟩
      rw [hq] at hq0 hpi
      rw [hp] at hdz
      have hqr : q ≤ r := by rw [← hq]; exact Nat.div_le_self _ _
      have hsr : s ≤ r := by
        rcases Nat.lt_or_ge r s with h1 | h1
        · exact absurd (by rw [← hq]; exact Nat.div_eq_of_lt h1) hq0
        · exact h1
      have hmul : q * s + p = r := by rw [← hq, ← hp, Nat.mul_comm]; exact Nat.div_add_mod r s
      have hqi : (r : Int) / (s : Int) = (q : Int) := by rw [← hq]; rfl
      have hfl : fstI q L.P < L.P.length := fstI_lt hP8
      have hful : fstI q L.P < uf.length := by rw [s3]; exact hfl
      obtain ⟨D, hD⟩ : ∃ D, itx q 1 = D := ⟨_, rfl⟩
      obtain ⟨gf, hgf⟩ : ∃ g, (uf[fstI q L.P]).r = g := ⟨_, rfl⟩
      have hacut : a = itx q 1 ++ 32 :: gf := by
        rw [hpi, ← hgf]
        unfold amt
        rw [List.getElem?_eq_getElem hful]; rfl
      have hq4 : (q : Int) ≤ 4398046511104 := by omega
      have HCut : Hid (∀ w', Ext w w' → Calls Tryz.prog 23 #[.string ⟨a.toArray⟩, .string ⟨#[32]⟩] w' fun e w'' => e = .returned (.tuple #[.string ⟨D.toArray⟩, .string ⟨gf.toArray⟩, .bool true]) ∧ Ext w' w'') := fun w' hE' => cut1_c q gf D a w' (HLm.out w' hE') hD hacut (by omega)
      have HAt : Hid (∀ w', Calls Tryz.prog 24 #[.string ⟨D.toArray⟩] w' fun e w'' => e = .returned (.tuple #[.int .i64 (q : Int), .nilIface]) ∧ Ext w' w'') := fun w' => atoi16_c q D w' hq4 hD
      obtain ⟨cat, hcat⟩ : ∃ c, (L.P[fstI q L.P]).c = c := ⟨_, rfl⟩
      have HPq : Hid (∀ w', Ext w w' → Calls Tryz.prog 9 #[.agg L.vals.toArray, .int .i64 (q : Int)] w' fun e w'' => e = .returned (.tuple #[.string ⟨cat.toArray⟩, .int .i64 0]) ∧ Ext w' w'') := fun w' hE' => by rw [← hcat]; exact HPl.out w' q HSh.out hE' hq4 hfl
      have HAny : Hid ((uf.any fun x => (x.c == cat) && (x.r == gf)) = true) := by
        rw [Hid, List.any_eq_true]
        exact ⟨uf[fstI q L.P], List.getElem_mem _, by rw [HCat.out _ hful hfl, hcat, hgf]; simp⟩
      have hqpos : 1 ≤ q := by omega
      have HD2 := Lib.hid hdz
      have Hmul := Lib.hid hmul
      have Hq := Lib.hid hq
      clear hdz hq hp hpi hD hgf hacut hcat hful hfl hmul s3 s4
      have b1 : decide ((q : Int) < 0) = false := by simp
      have b2 : ((q : Int) == 0) = false := by rw [beq_eq_false_iff_ne]; omega
      have b3 : (N : Int) - (sm : Int) = (r : Int) := by omega
      go_upto_region 20 with (first
        | (go_at_call 23; (with_reducible refine (HCut.out _ HXr.out).mono ?_); rintro e w7 ⟨rfl, hE7⟩)
        | (go_at_call 24; (with_reducible refine (HAt.out _).mono ?_); rintro e w8 ⟨rfl, hE8⟩))
      have hE78 := hE7.trans hE8
      have g3s := (hE78.cells B 43 hBr).trans g3r
      have hBs := hE78.lt hBr
      have hRs := hE78.lt hRr
      have c0s := (hE78.cells R _ hRr).trans c0
      have c1s := (hE78.cells R _ hRr).trans c1
      have hE6s := Lib.hid (hE.trans hE78)
      have HLt2 : Hid (∀ t, k ≤ t → ∀ ht : t < z, w8.cell? ⟨R, off + t * 2, none⟩ = some (.int .i64 (L.U[t]'(by omega)).s) ∧ (r : Int) < (L.U[t]'(by omega)).s ∧ (L.U[t]'(by omega)).s ≤ 1099511627776) := fun t h1 h2 => ⟨(hE78.cells R _ hRr).trans (HLt.out t h1 h2).1, (HLt.out t h1 h2).2⟩
      have HFv8 := Lib.hid (HFv.out.ext hE78)
      have HXs := Lib.hid (HXr.out.trans hE78)
      have HRs := Lib.hid (rng_ext HRr.out hBr hE78)
      clear g3r hRr hBr c0 c1 c0p hgr HLt HFv hE hE7 hE8 hE78 b1 b2
      go_wp2_with fail
      go_loop [10] (fun s10 => ∃ t : Nat, k ≤ t ∧ t ≤ z ∧ s10 = .int .i64 (t : Int)) (fun s10 => z - (intOf s10).toNat)
      case atStart => exact ⟨k, Nat.le_refl _, hkz, rfl⟩
      case round =>
        obtain ⟨t, ht1, ht2, rfl⟩ := hrel
        by_cases htz : t < z
        · obtain ⟨ct, cl, cm⟩ := HLt2.out t ht1 htz
          have htl : t < L.U.length := by omega
          obtain ⟨st, hst⟩ : ∃ x, x = (L.U[t]'htl).s := ⟨_, rfl⟩
          rw [← hst] at ct cl cm
          clear hst
          have hdt : (r : Int) / st = 0 := Int.ediv_eq_zero_of_lt (by omega) cl
          have hst0 : 0 < st := by omega
          have d1 : ((0 : Int) != (q : Int)) = true := by rw [bne_iff_ne]; omega
          have d0 : (0 : Int) ≠ (q : Int) := by omega
          go_wp2_with fail
          go_round
          case rel => exact ⟨t + 1, by omega, by omega, by go_num⟩
          case measure => simp [intOf]; omega
        · obtain rfl : z = t := by omega
          have d2 : decide ((r : Int) < (s : Int)) = false := decide_eq_false (by omega)
          have d3 : decide (r < s) = false := decide_eq_false (by omega)
          have hR8 := HRs.out
          go_upto_region 28 with (first
            | (refine load_midg (by rfl) 30 _ rfl B 0 rfl L.vals _ hR8 Tryz.underlying30 rfl hIL ?_)
            | (go_at_call 9; (with_reducible refine (HPq.out _ HXs.out).mono ?_); rintro e w9 ⟨rfl, hE9⟩))
          have g3t := (hE9.cells B 43 hBs).trans g3s
          have hBt := hE9.lt hBs
          have hRt := hE9.lt hRs
          have c0t := (hE9.cells R _ hRs).trans c0s
          have c1t := (hE9.cells R _ hRs).trans c1s
          obtain ⟨f1, f2, f3⟩ := HFv8.out.ext hE9
          unfold maxLen at f2
          have HF3 := Lib.hid f3
          have HX9 := Lib.hid (hE6s.out.trans hE9)
          obtain ⟨M, hM⟩ : ∃ M, q * s = M := ⟨_, rfl⟩
          have hMi : (q : Int) * (s : Int) = (M : Int) := by rw [← hM]; exact (Int.natCast_mul q s).symm
          have hMr : M + p = r := by rw [← hM]; exact Hmul.out
          have HM := Lib.hid hM
          clear f3 hM g3s hBs hRs c0s c1s hE9 hR8 hmx hqi b3 d2 d3 htz
          go_wp2_with fail
          go_loopw [22, 164] (fun s22 s164 wt => ∃ j : Nat, j ≤ uf.length ∧ s164 = .int .i64 (j : Int) ∧ s22 = .bool ((uf.take j).any fun x => (x.c == cat) && (x.r == gf)) ∧ Ext w9 wt) (fun _ j _ => uf.length - (intOf j).toNat)
          case atStart => exact ⟨0, Nat.zero_le _, rfl, rfl, Ext.refl _⟩
          case round =>
            obtain ⟨j, hj, rfl, rfl, hEt⟩ := hrel
            by_cases hjl : j < uf.length
            · obtain ⟨R2, of2, rfl, hR2z, hc2⟩ := HF3.out (by intro e; rw [e] at hjl; simp at hjl)
              obtain ⟨x0, x1⟩ := hc2 j hjl
              replace x0 := (hEt.cells R2 _ hR2z).trans x0
              replace x1 := (hEt.cells R2 _ hR2z).trans x1
              have hR2t := hEt.lt hR2z
              have hfs := HSf.out uf[j] (List.getElem_mem _)
              have HS : Hid (((uf.take (j + 1)).any fun x => (x.c == cat) && (x.r == gf)) = (((uf.take j).any fun x => (x.c == cat) && (x.r == gf)) || ((uf[j].c == cat) && (uf[j].r == gf)))) := by rw [Hid, List.take_succ_eq_append_getElem hjl, List.any_append]; simp
              obtain ⟨x, hx⟩ : ∃ x, x = uf[j] := ⟨_, rfl⟩
              rw [← hx] at x0 x1 hfs HS
              clear hx hc2
              obtain ⟨xc, xr⟩ := x
              simp only at x0 x1 hfs HS
              obtain ⟨b0, hb0⟩ : ∃ b, ((uf.take j).any fun x => (x.c == cat) && (x.r == gf)) = b := ⟨_, rfl⟩
              rw [hb0] at HS ⊢
              clear hb0
              cases b0
              · rcases Bool.eq_false_or_eq_true (xc == cat) with y1 | y1
                · rcases Bool.eq_false_or_eq_true (xr == gf) with y2 | y2
                  · have HSn : Hid (((uf.take (j + 1)).any fun x => (x.c == cat) && (x.r == gf)) = true) := by rw [Hid, HS.out, y1, y2]; rfl
                    go_wp2_with fail
                    go_roundw
                    case rel => exact ⟨j + 1, by omega, by go_num, by rw [HSn.out], hEt.trans ((Ext.refl _).alloc _)⟩
                    case measure => simp [intOf]; omega
                  · have HSn : Hid (((uf.take (j + 1)).any fun x => (x.c == cat) && (x.r == gf)) = false) := by rw [Hid, HS.out, y1, y2]; rfl
                    go_wp2_with fail
                    go_roundw
                    case rel => exact ⟨j + 1, by omega, by go_num, by rw [HSn.out], hEt.trans ((Ext.refl _).alloc _)⟩
                    case measure => simp [intOf]; omega
                · have HSn : Hid (((uf.take (j + 1)).any fun x => (x.c == cat) && (x.r == gf)) = false) := by rw [Hid, HS.out, y1]; rfl
                  go_wp2_with fail
                  go_roundw
                  case rel => exact ⟨j + 1, by omega, by go_num, by rw [HSn.out], hEt.trans ((Ext.refl _).alloc _)⟩
                  case measure => simp [intOf]; omega
              · have HSn : Hid (((uf.take (j + 1)).any fun x => (x.c == cat) && (x.r == gf)) = true) := by rw [Hid, HS.out]; rfl
                go_wp2_with fail
                go_roundw
                case rel => exact ⟨j + 1, by omega, by go_num, by rw [HSn.out], hEt.trans ((Ext.refl _).alloc _)⟩
                case measure => simp [intOf]; omega
            · obtain rfl : j = uf.length := by omega
              have hfd : ((uf.take uf.length).any fun x => (x.c == cat) && (x.r == gf)) = true := by rw [List.take_length]; exact HAny.out
              rw [hfd]
              have g3u := (hEt.cells B 43 hBt).trans g3t
              have hBu := hEt.lt hBt
              have hRu := hEt.lt hRt
              have c0u := (hEt.cells R _ hRt).trans c0t
              have HXt := Lib.hid (HX9.out.trans hEt)
              clear hfd g3t hBt hRt c0t c1t hEt
              by_cases hi0 : i = 0
              · have t9 : ((i : Int) == 0) = true := by rw [beq_iff_eq]; omega
                have HFa := Lib.hid (HF0i.out hi0)
                clear hi0
                go_wp2_with fail
                go_roundw
                case rel => exact ⟨i + 1, z + 1, p, sm + M, a, by omega, by omega, by omega, by go_num, by go_num, rfl, by go_num, fun _ => HFa.out, HD2.out, HXt.out⟩
                case measure => simp [intOf]; omega
              · have t9 : ((i : Int) == 0) = false := by rw [beq_eq_false_iff_ne]; omega
                have HFa := Lib.hid (HF.out hi0)
                clear hi0
                go_wp2_with fail
                go_roundw
                case rel => exact ⟨i + 1, z + 1, p, sm + M, F, by omega, by omega, by omega, by go_num, by go_num, rfl, by go_num, fun _ => HFa.out, HD2.out, HXt.out⟩
                case measure => simp [intOf]; omega
    · obtain rfl : i = ps.length := by omega
      have hr0 : r = 0 := dst_done HUF.out N r ps HPS.out (L.U.length - k) k (by omega) (by have := HD.out; rwa [List.take_of_length_le (Nat.le_refl _)] at this)
      subst hr0
      obtain rfl : N = sm := by omega
      have hFF := HF.out (by omega)
      obtain ⟨Wt, hWt⟩ : ∃ W, W = (43 :: F0 : List UInt8) := ⟨_, rfl⟩
      have HRe2 : Hid (∀ w', Ext w w' → tmB (N : Int) = true → Calls Tryz.prog 20 #[.agg L.vals.toArray, .int .i64 (N : Int), .int .i64 0] w' fun e w'' => e = .returned (.tuple #[.string ⟨Wt.toArray⟩, .int .i64 0]) ∧ Ext w' w'') := fun w' hE' ht => by
        have z := HRe.out w' HSh.out hE' ht
        rw [hWt]
        first
          | rwa [if_pos (by omega)] at z
          | rwa [if_neg (by omega)] at z
      have hcc : (⟨#[43]⟩ : ByteArray) ++ ⟨F0.toArray⟩ = ⟨Wt.toArray⟩ := by rw [hWt]; apply ByteArray.ext; simp
      have hF0l : F0.length ≤ 50 := by rw [← HF0.out]; exact H50.out _ (List.getElem_mem _)
      rw [hFF]
      clear hFF hWt HF HD g3r
      by_cases q1 : 253402300800 < (N : Int)
      · go_wp2_with fail
        go_ret
        exact ⟨rfl, HXr.out⟩
      · by_cases q2 : (N : Int) < -62135596800
        · go_wp2_with fail
          go_ret
          exact ⟨rfl, HXr.out⟩
        · have HTm : Hid (tmB (N : Int) = true) := by unfold tmB; rw [Hid, decide_eq_true_eq]; omega
          have hRr2 := HRr.out
          go_wp2_with (first
            | (refine load_midg (by rfl) 30 _ rfl B 0 rfl L.vals _ hRr2 Tryz.underlying30 rfl hIL ?_)
            | (go_at_call 20; (with_reducible refine (HRe2.out _ HXr.out HTm.out).mono ?_); rintro e w9 ⟨rfl, hE9⟩))
          go_ret
          exact ⟨by first | rfl | simp, HXr.out.trans hE9⟩
end Go.Proofs.YtlmoibmmjonjoaaGreatDoor
/- Locales: the walk of the law LocaleSums at a negative number. -/
namespace Go.Proofs.YtlmoibmmjonjoaaGreatDoor
set_option linter.unusedVariables false
set_option linter.unusedSimpArgs false
open Go.RowKit

set_option maxRecDepth 100000 in
set_option maxHeartbeats 4000000 in
theorem lsums_m (L : Loc) (N : Nat) (w : World) (h : LcV L w) (hb : bgL L) (hm : Lm w) (hNl : ∀ s ∈ L.N.all, s.length ≤ 2000000) (hv : validLB L = true) (hN0 : 0 < N) (hN1 : (N : Int) ≤ 4398046511104) :
    Calls Tryz.prog 6 #[.agg L.vals.toArray, .int .i64 (-(N : Int))] w fun e w' => e = .returned (.bool true) ∧ Ext w w' := by
  obtain ⟨v1, v2⟩ := duV_n (L := L) (n := -(N : Int)) hv (by unfold dnrB; simp; omega) (by omega)
  rw [if_pos (by omega), Int.natAbs_neg, Int.natAbs_natCast] at v2
  have hneg : -(N : Int) < (N : Int) := by omega
  have hneg2 : -(N : Int) ≤ (N : Int) := by omega
  have hmx : max (-(N : Int)) (N : Int) = (N : Int) := by omega
  have hUF := uf_of (vu hv).1 (vu hv).2
  obtain ⟨ps, hps⟩ : ∃ ps, (dst L.P L.U N).1 = ps := ⟨_, rfl⟩
  have h0 : ps ≠ [] := by rw [← hps]; exact (dst_end hUF N).2 hN0
  have hpl : 0 < ps.length := List.length_pos_iff.2 h0
  have hple : ps.length ≤ 10 := by
    have h1 := (dst_le L.P L.U N L.U.length (Nat.le_refl _)).2.1
    rw [List.take_of_length_le (Nat.le_refl _), hps] at h1
    exact Nat.le_trans h1 hUF.ten
  have h44 : ∀ a ∈ ps, ∀ x ∈ a, x ≠ 44 := by
    have h1 := dst_44 hUF (N := N) (j := L.U.length) (Nat.le_refl _)
    rw [List.take_of_length_le (Nat.le_refl _), hps] at h1
    exact h1
  have h50 : ∀ a ∈ ps, a.length ≤ 50 := by
    have h1 := dst_mem hUF (N := N) (j := L.U.length) (by omega) (Nat.le_refl _)
    rw [List.take_of_length_le (Nat.le_refl _), hps] at h1
    exact h1
  obtain ⟨T, hT⟩ : ∃ T, Lib.join ps [44, 32] = T := ⟨_, rfl⟩
  have hTl : T.length ≤ 1000 := by
    rw [← hT]
    refine Nat.le_trans (join_le ps [44, 32] 50 h50) ?_
    simp only [List.length_cons, List.length_nil]
    omega
  obtain ⟨F0, hF0⟩ : ∃ F, ps[0] = F := ⟨_, rfl⟩
  rw [hps, hT] at v2
  obtain ⟨TS, hTS⟩ : ∃ t, t = [45] ++ T := ⟨_, rfl⟩
  rw [← hTS] at v2
  obtain ⟨dh, dr, hdh⟩ : ∃ d r, T = d :: r ∧ isDg d = true := by
    obtain ⟨x, r, e⟩ : ∃ x r, ps = x :: r := List.exists_cons_of_ne_nil h0
    have hx : ∃ d r2, x = d :: r2 ∧ isDg d = true := by
      obtain ⟨m, hml, -, e2⟩ := dst_first hUF N hN0 ps hps hpl
      have e3 : ps[0] = x := by simp only [e]; rfl
      obtain ⟨c, r3, e4, e5⟩ := itx_head (N / (L.U[m]).s.natAbs) 1
      refine ⟨c, r3 ++ 32 :: (((L.U[m]).f[fstI (N / (L.U[m]).s.natAbs) L.P]?.map (·.r)).getD []), ?_, e5⟩
      rw [← e3, e2]
      unfold amt
      rw [e4]; rfl
    obtain ⟨d, r2, e6, e7⟩ := hx
    rw [← hT, e, Lib.join_cons, e6]
    exact ⟨d, _, rfl, e7⟩
  have hCP : ∀ w', Calls Tryz.prog 14 #[.string ⟨TS.toArray⟩, .string ⟨#[45]⟩] w' fun e w'' => e = .returned (.tuple #[.string ⟨T.toArray⟩, .bool true]) ∧ w' = w'' := fun w' => by
    rw [hTS]
    refine cutm_c ([45] ++ T) [45] T true w' ?_ (by first | rfl | simp)
    rw [hdh.1]
    have h2 := isDg_iff.1 hdh.2
    first
      | rfl
      | (simp only [List.nil_append, List.isPrefixOf, Bool.and_eq_false_iff]
         left
         rw [beq_eq_false_iff_ne]
         intro e
         rw [← e] at h2
         exact absurd h2.1 (by decide))
  have hIL := loc_size h.1
  have hE0 : Ext w (w.alloc (.cells L.vals.toArray 30)) := (Ext.refl w).alloc _
  have hB := LcB.new L w 30
  have hR := hB.2
  obtain ⟨-, -, -, g3, -⟩ := hB.cells h.1
  have HzB := Lib.hid hB.1
  have HE0 := Lib.hid hE0
  have HVl := Lib.hid hv
  obtain ⟨k1, k2⟩ := ruled_ok (valid_P hv).1
  have HUF := Lib.hid hUF
  have HPS := Lib.hid hps
  have H50 := Lib.hid h50
  have HF0 := Lib.hid hF0
  have HCP := Lib.hid hCP
  have Hun := Lib.hid (vu hv).2
  have HAw : Hid (∀ w', Ext w w' → Calls Tryz.prog 7 #[] w' fun e w'' => e = .returned (.bool true) ∧ Ext w' w'') := fun w' hE => awake55_c w' (hm.ext hE)
  have HFw : Hid (∀ w', Ext w w' → Calls Tryz.prog 8 #[.agg L.vals.toArray] w' (fun e w'' => ∃ b : Bool, e = .returned (.bool b) ∧ (b = true → shL L) ∧ Ext w' w'')) := fun w' hE => few_c L w' (h.ext hE) hb (hm.ext hE) hNl
  have HVa : Hid (∀ w', shL L → Ext w w' → Calls Tryz.prog 13 #[.agg L.vals.toArray] w' fun e w'' => e = .returned (.bool true) ∧ Ext w' w'') := fun w' hs hE => valid_c L true w' (h.ext hE) hs (hm.ext hE) hNl HVl.out
  have HDu : Hid (∀ w', shL L → Ext w w' → Calls Tryz.prog 18 #[.agg L.vals.toArray, .int .i64 (-(N : Int))] w' fun e w'' => e = .returned (.tuple #[.string ⟨TS.toArray⟩, .int .i64 0]) ∧ Ext w' w'') := fun w' hs hE => by have q := duration_c L (-(N : Int)) w' (h.ext hE) hs (hm.ext hE) hNl; rw [v1, v2] at q; exact q
  have HSp : Hid (∀ w', Ext w w' → Calls Tryz.prog 22 #[.string ⟨T.toArray⟩, .string ⟨#[44, 32]⟩] w' fun e w'' => ∃ x, e = .returned x ∧ SpR ps x w'' ∧ Ext w' w'') := fun w' hE => split2_c ps T w' (hm.ext hE) h0 h44 (by omega) (by omega) hT
  have HPl : Hid (∀ w' (q : Nat), shL L → Ext w w' → (q : Int) ≤ 4398046511104 → ∀ (hl : fstI q L.P < L.P.length), Calls Tryz.prog 9 #[.agg L.vals.toArray, .int .i64 (q : Int)] w' fun e w'' => e = .returned (.tuple #[.string ⟨(L.P[fstI q L.P]).c.toArray⟩, .int .i64 0]) ∧ Ext w' w'') := fun w' q hs hE hq hl => by
    have z := plural_c L (q : Int) w' (h.ext hE) hs (hm.ext hE) hNl
    have e1 : plE L (q : Int) = 0 := by unfold plE inrB; simp [hv]; omega
    have e2 : plV L (q : Int) = (L.P[fstI q L.P]).c := by unfold plV; rw [if_pos e1]; show ((L.P[fstI q L.P]?).map (·.c)).getD [] = _; rw [List.getElem?_eq_getElem hl]; rfl
    rw [e1, e2] at z
    exact z
  have HRe : Hid (∀ w', shL L → Ext w w' → tmB (-(N : Int)) = true → Calls Tryz.prog 20 #[.agg L.vals.toArray, .int .i64 (-(N : Int)), .int .i64 0] w' fun e w'' => e = .returned (.tuple #[.string ⟨((if 0 < (-(N : Int)) then 43 else 45) :: F0).toArray⟩, .int .i64 0]) ∧ Ext w' w'') := fun w' hs hE ht => by
    obtain ⟨m, hml, hmm, e2⟩ := dst_first hUF N hN0 ps hps hpl
    obtain ⟨r1, r2⟩ := reV_ne (L := L) (t := (-(N : Int))) (now := 0) (d := N) hv ht (by decide) (by omega) (by omega) hmm hml
    have z := relative_c L (-(N : Int)) 0 w' (h.ext hE) hs (hm.ext hE) hNl
    rw [r1, r2, ← e2, hF0] at z
    exact z
  have HLm := Lib.hid (fun w' (hE : Ext w w') => hm.ext hE)
  have HUn := Lib.hid (fun w' (hE : Ext w w') => (h.ext hE).2.2.2)
  have HPn := Lib.hid (fun w' (hE : Ext w w') => (h.ext hE).2.1)
  have hP8 : 1 ≤ L.P.length := k1
  clear h hb hm hNl hv v1 v2 hUF hps h0 h44 h50 hT hdh hF0 hCP hTS hE0 hB k2 k1
  have t1 : decide (-(N : Int) < 0) = true := by simp; omega
  have t1b : -(N : Int) < 0 := by omega
  have t2 : decide (-(N : Int) < -4398046511104) = false := decide_eq_false (by omega)
  have t2b : decide (4398046511104 < (N : Int)) = false := decide_eq_false (by omega)
  have t3 : decide (4398046511104 < -(N : Int)) = false := decide_eq_false (by omega)
  have t4 : (-(N : Int) == 0) = false := by rw [beq_eq_false_iff_ne]; omega
  have t4b : ((N : Int) == 0) = false := by rw [beq_eq_false_iff_ne]; omega
  have t5 : (-(N : Int) != 0) = true := by rw [bne_iff_ne]; omega
  have t5b : ((N : Int) != 0) = true := by rw [bne_iff_ne]; omega
  have t6 : decide ((0 : Int) < -(N : Int)) = false := decide_eq_false (by omega)
  have t7 : decide ((0 : Int) < (N : Int)) = true := by simp; omega
  have t8 : decide (0 < N) = true := by simp; omega
  go_enter Tryz.func6, Tryz.ntmps6
  go_upto_region 1 with fail
  generalize w.alloc (.cells L.vals.toArray 30) = W0 at *
  generalize w.heap.size = B at *
  go_wp2_with (first
    | (go_at_call 7; (with_reducible refine (HAw.out _ HE0.out).mono ?_); rintro e w1 ⟨rfl, hE1⟩; have hR1 := rng_ext hR HzB.out hE1; have hB1 := hE1.lt HzB.out)
    | (refine load_midg (by rfl) 30 _ rfl B 0 rfl L.vals _ hR1 Tryz.underlying30 rfl hIL ?_)
    | (go_at_call 8; (with_reducible refine (HFw.out _ (HE0.out.trans hE1)).mono ?_); rintro e w2 ⟨b, rfl, hsh, hE2⟩; have hR2 := rng_ext hR1 hB1 hE2; have hB2 := hE2.lt hB1; cases b)
    | (refine load_midg (by rfl) 30 _ rfl B 0 rfl L.vals _ hR2 Tryz.underlying30 rfl hIL ?_)
    | (go_at_call 13; (with_reducible refine (HVa.out _ (hsh (by trivial)) (HE0.out.trans (hE1.trans hE2))).mono ?_); rintro e w3 ⟨rfl, hE3⟩; have hR3 := rng_ext hR2 hB2 hE3; have hB3 := hE3.lt hB2; have hX3 := HE0.out.trans (hE1.trans (hE2.trans hE3)))
    | (refine load_midg (by rfl) 30 _ rfl B 0 rfl L.vals _ hR3 Tryz.underlying30 rfl hIL ?_)
    | (go_at_call 18; (with_reducible refine (HDu.out _ (hsh (by trivial)) hX3).mono ?_); rintro e w4 ⟨rfl, hE4⟩; have hX4 := hX3.trans hE4)
    | (go_at_call 14; (with_reducible refine (HCP.out _).mono ?_); rintro e w5 ⟨rfl, rfl⟩)
    | (go_at_call 22; (with_reducible refine (HSp.out _ hX4).mono ?_); rintro e w6 ⟨x, rfl, hx, hE6⟩; obtain ⟨g, cg, rfl, hg1, hg2, hg3⟩ := hx))
  · go_ret
    exact ⟨rfl, HE0.out.trans (hE1.trans hE2)⟩
  have HSh := Lib.hid (hsh (by trivial))
  have HX6 := Lib.hid (hX4.trans hE6)
  have hE06 := hE1.trans (hE2.trans (hE3.trans (hE4.trans hE6)))
  have g3V := (hE06.cells B 43 HzB.out).trans g3
  have HR6 := Lib.hid (rng_ext hR HzB.out hE06)
  have hzB6 := hE06.lt HzB.out
  have hgl := hg1.1
  have HG := Lib.hid hg1.2
  unfold maxLen at hg3
  obtain ⟨R, off, hua, hzR, hcu⟩ := (HUn.out w6 HX6.out).2.2.1 (by have := HUF.out.one; intro e; rw [e] at this; simp at this)
  have hul := (HUn.out w6 HX6.out).1
  have hul2 := (HUn.out w6 HX6.out).2.1
  unfold maxLen at hul2
  have HCu := Lib.hid hcu
  rw [hua] at g3V
  clear hg1 hcu hsh hR hR1 hR2 hR3 hB1 hB2 hB3 hX3 hX4 hE1 hE2 hE3 hE4 hE6 hE06 g3 hua
  go_loopw [9, 10, 11, 67] (fun s9 s10 s11 s67 wr => ∃ (i k r sm : Nat) (F : List UInt8), i ≤ ps.length ∧ k ≤ L.U.length ∧ sm + r = N ∧ s9 = .int .i64 (sm : Int) ∧ s10 = .int .i64 (k : Int) ∧ s11 = .string ⟨F.toArray⟩ ∧ s67 = .int .i64 (i : Int) ∧ Hid (i ≠ 0 → F = F0) ∧ Hid (dst L.P (L.U.take k) N = (ps.take i, r)) ∧ Ext w6 wr) (fun _ _ _ i _ => ps.length - (intOf i).toNat)
  case atStart => exact ⟨0, 0, N, 0, [], Nat.zero_le _, Nat.zero_le _, by omega, rfl, rfl, rfl, rfl, fun h => absurd rfl h, rfl, Ext.refl _⟩
  case round =>
    obtain ⟨i, k, r, sm, F, hi, hk, hsm, rfl, rfl, rfl, rfl, HF, HD, hE⟩ := hrel
    have g3r := (hE.cells B 43 hzB6).trans g3V
    have hBr := hE.lt hzB6
    have hRr := hE.lt hzR
    have HRr := Lib.hid (rng_ext HR6.out hzB6 hE)
    have HXr := Lib.hid (HX6.out.trans hE)
    by_cases hlt : i < ps.length
    · obtain ⟨z, hz, hkz, hlt2, hq0, hpi, hdz⟩ := dst_next HUF.out N r i ps HPS.out hlt (L.U.length - k) k (by omega) HD.out
      have c0p := HG.out i hlt
      rw [Nat.zero_add] at c0p
      replace c0p := (hE.cells g i hgl).trans c0p
      have hgr := hE.lt hgl
      have hal := H50.out ps[i] (List.getElem_mem _)
      obtain ⟨c0, c1⟩ := HCu.out z hz
      replace c0 := (hE.cells R _ hzR).trans c0
      replace c1 := (hE.cells R _ hzR).trans c1
      obtain ⟨s1, s2, s3, s4⟩ := HUF.out.at_ z hz
      have HLt : Hid (∀ t, k ≤ t → ∀ ht : t < z, wr.cell? ⟨R, off + t * 2, none⟩ = some (.int .i64 (L.U[t]'(by omega)).s) ∧ (r : Int) < (L.U[t]'(by omega)).s ∧ (L.U[t]'(by omega)).s ≤ 1099511627776) := fun t h1 h2 => ⟨(hE.cells R _ hzR).trans (HCu.out t (by omega)).1, hlt2 t h1 h2, (HUF.out.at_ t (by omega)).2.1⟩
      have HCat : Hid (∀ j (hj : j < (L.U[z]).f.length) (hp : j < L.P.length), ((L.U[z]).f[j]).c = (L.P[j]).c) := fun j hj hp => mq_eq (l := L) Hun.out hz j hj hp
      have HFv : Hid (PlV (L.U[z]).ao (L.U[z]).cap (L.U[z]).f wr) := (HUn.out wr HXr.out).2.2.2 L.U[z] (List.getElem_mem _)
      have HSf : Hid (shP (L.U[z]).f) := HSh.out.2.2.1 _ (List.getElem_mem _)
      have HF0i : Hid (i = 0 → ps[i] = F0) := fun e => by subst e; exact HF0.out
      obtain ⟨a, ha⟩ : ∃ a, a = ps[i] := ⟨_, rfl⟩
      rw [← ha] at c0p hal hpi HF0i
      obtain ⟨u, hu⟩ : ∃ u, u = L.U[z] := ⟨_, rfl⟩
      rw [← hu] at c0 c1 s1 s2 s3 s4 hq0 hpi hdz HCat HFv HSf
      clear ha hu hlt2
      obtain ⟨us, uao, ucap, uf⟩ := u
      simp only at c0 c1 s1 s2 s3 s4 hq0 hpi hdz HCat HFv HSf
      obtain ⟨s, rfl⟩ := Int.eq_ofNat_of_zero_le (show 0 ≤ us by omega)
      rw [Int.natAbs_natCast] at hq0 hpi hdz
      obtain ⟨q, hq⟩ : ∃ q, r / s = q := ⟨_, rfl⟩
      obtain ⟨p, hp⟩ : ∃ p, r % s = p := ⟨_, rfl⟩
      rw [hq] at hq0 hpi
      rw [hp] at hdz
      have hqr : q ≤ r := by rw [← hq]; exact Nat.div_le_self _ _
      have hsr : s ≤ r := by
        rcases Nat.lt_or_ge r s with h1 | h1
        · exact absurd (by rw [← hq]; exact Nat.div_eq_of_lt h1) hq0
        · exact h1
      have hmul : q * s + p = r := by rw [← hq, ← hp, Nat.mul_comm]; exact Nat.div_add_mod r s
      have hqi : (r : Int) / (s : Int) = (q : Int) := by rw [← hq]; rfl
      have hfl : fstI q L.P < L.P.length := fstI_lt hP8
      have hful : fstI q L.P < uf.length := by rw [s3]; exact hfl
      obtain ⟨D, hD⟩ : ∃ D, itx q 1 = D := ⟨_, rfl⟩
      obtain ⟨gf, hgf⟩ : ∃ g, (uf[fstI q L.P]).r = g := ⟨_, rfl⟩
      have hacut : a = itx q 1 ++ 32 :: gf := by
        rw [hpi, ← hgf]
        unfold amt
        rw [List.getElem?_eq_getElem hful]; rfl
      have hq4 : (q : Int) ≤ 4398046511104 := by omega
      have HCut : Hid (∀ w', Ext w w' → Calls Tryz.prog 23 #[.string ⟨a.toArray⟩, .string ⟨#[32]⟩] w' fun e w'' => e = .returned (.tuple #[.string ⟨D.toArray⟩, .string ⟨gf.toArray⟩, .bool true]) ∧ Ext w' w'') := fun w' hE' => cut1_c q gf D a w' (HLm.out w' hE') hD hacut (by omega)
      have HAt : Hid (∀ w', Calls Tryz.prog 24 #[.string ⟨D.toArray⟩] w' fun e w'' => e = .returned (.tuple #[.int .i64 (q : Int), .nilIface]) ∧ Ext w' w'') := fun w' => atoi16_c q D w' hq4 hD
      obtain ⟨cat, hcat⟩ : ∃ c, (L.P[fstI q L.P]).c = c := ⟨_, rfl⟩
      have HPq : Hid (∀ w', Ext w w' → Calls Tryz.prog 9 #[.agg L.vals.toArray, .int .i64 (q : Int)] w' fun e w'' => e = .returned (.tuple #[.string ⟨cat.toArray⟩, .int .i64 0]) ∧ Ext w' w'') := fun w' hE' => by rw [← hcat]; exact HPl.out w' q HSh.out hE' hq4 hfl
      have HAny : Hid ((uf.any fun x => (x.c == cat) && (x.r == gf)) = true) := by
        rw [Hid, List.any_eq_true]
        exact ⟨uf[fstI q L.P], List.getElem_mem _, by rw [HCat.out _ hful hfl, hcat, hgf]; simp⟩
      have hqpos : 1 ≤ q := by omega
      have HD2 := Lib.hid hdz
      have Hmul := Lib.hid hmul
      have Hq := Lib.hid hq
      clear hdz hq hp hpi hD hgf hacut hcat hful hfl hmul s3 s4
      have b1 : decide ((q : Int) < 0) = false := by simp
      have b2 : ((q : Int) == 0) = false := by rw [beq_eq_false_iff_ne]; omega
      have b3 : (N : Int) - (sm : Int) = (r : Int) := by omega
      go_upto_region 20 with (first
        | (go_at_call 23; (with_reducible refine (HCut.out _ HXr.out).mono ?_); rintro e w7 ⟨rfl, hE7⟩)
        | (go_at_call 24; (with_reducible refine (HAt.out _).mono ?_); rintro e w8 ⟨rfl, hE8⟩))
      have hE78 := hE7.trans hE8
      have g3s := (hE78.cells B 43 hBr).trans g3r
      have hBs := hE78.lt hBr
      have hRs := hE78.lt hRr
      have c0s := (hE78.cells R _ hRr).trans c0
      have c1s := (hE78.cells R _ hRr).trans c1
      have hE6s := Lib.hid (hE.trans hE78)
      have HLt2 : Hid (∀ t, k ≤ t → ∀ ht : t < z, w8.cell? ⟨R, off + t * 2, none⟩ = some (.int .i64 (L.U[t]'(by omega)).s) ∧ (r : Int) < (L.U[t]'(by omega)).s ∧ (L.U[t]'(by omega)).s ≤ 1099511627776) := fun t h1 h2 => ⟨(hE78.cells R _ hRr).trans (HLt.out t h1 h2).1, (HLt.out t h1 h2).2⟩
      have HFv8 := Lib.hid (HFv.out.ext hE78)
      have HXs := Lib.hid (HXr.out.trans hE78)
      have HRs := Lib.hid (rng_ext HRr.out hBr hE78)
      clear g3r hRr hBr c0 c1 c0p hgr HLt HFv hE hE7 hE8 hE78 b1 b2
      go_wp2_with fail
      go_loop [10] (fun s10 => ∃ t : Nat, k ≤ t ∧ t ≤ z ∧ s10 = .int .i64 (t : Int)) (fun s10 => z - (intOf s10).toNat)
      case atStart => exact ⟨k, Nat.le_refl _, hkz, rfl⟩
      case round =>
        obtain ⟨t, ht1, ht2, rfl⟩ := hrel
        by_cases htz : t < z
        · obtain ⟨ct, cl, cm⟩ := HLt2.out t ht1 htz
          have htl : t < L.U.length := by omega
          obtain ⟨st, hst⟩ : ∃ x, x = (L.U[t]'htl).s := ⟨_, rfl⟩
          rw [← hst] at ct cl cm
          clear hst
          have hdt : (r : Int) / st = 0 := Int.ediv_eq_zero_of_lt (by omega) cl
          have hst0 : 0 < st := by omega
          have d1 : ((0 : Int) != (q : Int)) = true := by rw [bne_iff_ne]; omega
          have d0 : (0 : Int) ≠ (q : Int) := by omega
          go_wp2_with fail
          go_round
          case rel => exact ⟨t + 1, by omega, by omega, by go_num⟩
          case measure => simp [intOf]; omega
        · obtain rfl : z = t := by omega
          have d2 : decide ((r : Int) < (s : Int)) = false := decide_eq_false (by omega)
          have d3 : decide (r < s) = false := decide_eq_false (by omega)
          have hR8 := HRs.out
          go_upto_region 28 with (first
            | (refine load_midg (by rfl) 30 _ rfl B 0 rfl L.vals _ hR8 Tryz.underlying30 rfl hIL ?_)
            | (go_at_call 9; (with_reducible refine (HPq.out _ HXs.out).mono ?_); rintro e w9 ⟨rfl, hE9⟩))
          have g3t := (hE9.cells B 43 hBs).trans g3s
          have hBt := hE9.lt hBs
          have hRt := hE9.lt hRs
          have c0t := (hE9.cells R _ hRs).trans c0s
          have c1t := (hE9.cells R _ hRs).trans c1s
          obtain ⟨f1, f2, f3⟩ := HFv8.out.ext hE9
          unfold maxLen at f2
          have HF3 := Lib.hid f3
          have HX9 := Lib.hid (hE6s.out.trans hE9)
          obtain ⟨M, hM⟩ : ∃ M, q * s = M := ⟨_, rfl⟩
          have hMi : (q : Int) * (s : Int) = (M : Int) := by rw [← hM]; exact (Int.natCast_mul q s).symm
          have hMr : M + p = r := by rw [← hM]; exact Hmul.out
          have HM := Lib.hid hM
          clear f3 hM g3s hBs hRs c0s c1s hE9 hR8 hmx hqi b3 d2 d3 htz
          go_wp2_with fail
          go_loopw [22, 164] (fun s22 s164 wt => ∃ j : Nat, j ≤ uf.length ∧ s164 = .int .i64 (j : Int) ∧ s22 = .bool ((uf.take j).any fun x => (x.c == cat) && (x.r == gf)) ∧ Ext w9 wt) (fun _ j _ => uf.length - (intOf j).toNat)
          case atStart => exact ⟨0, Nat.zero_le _, rfl, rfl, Ext.refl _⟩
          case round =>
            obtain ⟨j, hj, rfl, rfl, hEt⟩ := hrel
            by_cases hjl : j < uf.length
            · obtain ⟨R2, of2, rfl, hR2z, hc2⟩ := HF3.out (by intro e; rw [e] at hjl; simp at hjl)
              obtain ⟨x0, x1⟩ := hc2 j hjl
              replace x0 := (hEt.cells R2 _ hR2z).trans x0
              replace x1 := (hEt.cells R2 _ hR2z).trans x1
              have hR2t := hEt.lt hR2z
              have hfs := HSf.out uf[j] (List.getElem_mem _)
              have HS : Hid (((uf.take (j + 1)).any fun x => (x.c == cat) && (x.r == gf)) = (((uf.take j).any fun x => (x.c == cat) && (x.r == gf)) || ((uf[j].c == cat) && (uf[j].r == gf)))) := by rw [Hid, List.take_succ_eq_append_getElem hjl, List.any_append]; simp
              obtain ⟨x, hx⟩ : ∃ x, x = uf[j] := ⟨_, rfl⟩
              rw [← hx] at x0 x1 hfs HS
              clear hx hc2
              obtain ⟨xc, xr⟩ := x
              simp only at x0 x1 hfs HS
              obtain ⟨b0, hb0⟩ : ∃ b, ((uf.take j).any fun x => (x.c == cat) && (x.r == gf)) = b := ⟨_, rfl⟩
              rw [hb0] at HS ⊢
              clear hb0
              cases b0
              · rcases Bool.eq_false_or_eq_true (xc == cat) with y1 | y1
                · rcases Bool.eq_false_or_eq_true (xr == gf) with y2 | y2
                  · have HSn : Hid (((uf.take (j + 1)).any fun x => (x.c == cat) && (x.r == gf)) = true) := by rw [Hid, HS.out, y1, y2]; rfl
                    go_wp2_with fail
                    go_roundw
                    case rel => exact ⟨j + 1, by omega, by go_num, by rw [HSn.out], hEt.trans ((Ext.refl _).alloc _)⟩
                    case measure => simp [intOf]; omega
                  · have HSn : Hid (((uf.take (j + 1)).any fun x => (x.c == cat) && (x.r == gf)) = false) := by rw [Hid, HS.out, y1, y2]; rfl
                    go_wp2_with fail
                    go_roundw
                    case rel => exact ⟨j + 1, by omega, by go_num, by rw [HSn.out], hEt.trans ((Ext.refl _).alloc _)⟩
                    case measure => simp [intOf]; omega
                · have HSn : Hid (((uf.take (j + 1)).any fun x => (x.c == cat) && (x.r == gf)) = false) := by rw [Hid, HS.out, y1]; rfl
                  go_wp2_with fail
                  go_roundw
                  case rel => exact ⟨j + 1, by omega, by go_num, by rw [HSn.out], hEt.trans ((Ext.refl _).alloc _)⟩
                  case measure => simp [intOf]; omega
              · have HSn : Hid (((uf.take (j + 1)).any fun x => (x.c == cat) && (x.r == gf)) = true) := by rw [Hid, HS.out]; rfl
                go_wp2_with fail
                go_roundw
                case rel => exact ⟨j + 1, by omega, by go_num, by rw [HSn.out], hEt.trans ((Ext.refl _).alloc _)⟩
                case measure => simp [intOf]; omega
            · obtain rfl : j = uf.length := by omega
              have hfd : ((uf.take uf.length).any fun x => (x.c == cat) && (x.r == gf)) = true := by rw [List.take_length]; exact HAny.out
              rw [hfd]
              have g3u := (hEt.cells B 43 hBt).trans g3t
              have hBu := hEt.lt hBt
              have hRu := hEt.lt hRt
              have c0u := (hEt.cells R _ hRt).trans c0t
              have HXt := Lib.hid (HX9.out.trans hEt)
              clear hfd g3t hBt hRt c0t c1t hEt
              by_cases hi0 : i = 0
              · have t9 : ((i : Int) == 0) = true := by rw [beq_iff_eq]; omega
                have HFa := Lib.hid (HF0i.out hi0)
                clear hi0
                go_wp2_with fail
                go_roundw
                case rel => exact ⟨i + 1, z + 1, p, sm + M, a, by omega, by omega, by omega, by go_num, by go_num, rfl, by go_num, fun _ => HFa.out, HD2.out, HXt.out⟩
                case measure => simp [intOf]; omega
              · have t9 : ((i : Int) == 0) = false := by rw [beq_eq_false_iff_ne]; omega
                have HFa := Lib.hid (HF.out hi0)
                clear hi0
                go_wp2_with fail
                go_roundw
                case rel => exact ⟨i + 1, z + 1, p, sm + M, F, by omega, by omega, by omega, by go_num, by go_num, rfl, by go_num, fun _ => HFa.out, HD2.out, HXt.out⟩
                case measure => simp [intOf]; omega
    · obtain rfl : i = ps.length := by omega
      have hr0 : r = 0 := dst_done HUF.out N r ps HPS.out (L.U.length - k) k (by omega) (by have := HD.out; rwa [List.take_of_length_le (Nat.le_refl _)] at this)
      subst hr0
      obtain rfl : N = sm := by omega
      have hFF := HF.out (by omega)
      obtain ⟨Wt, hWt⟩ : ∃ W, W = (45 :: F0 : List UInt8) := ⟨_, rfl⟩
      have HRe2 : Hid (∀ w', Ext w w' → tmB (-(N : Int)) = true → Calls Tryz.prog 20 #[.agg L.vals.toArray, .int .i64 (-(N : Int)), .int .i64 0] w' fun e w'' => e = .returned (.tuple #[.string ⟨Wt.toArray⟩, .int .i64 0]) ∧ Ext w' w'') := fun w' hE' ht => by
        have z := HRe.out w' HSh.out hE' ht
        rw [hWt]
        first
          | rwa [if_pos (by omega)] at z
          | rwa [if_neg (by omega)] at z
      have hcc : (⟨#[45]⟩ : ByteArray) ++ ⟨F0.toArray⟩ = ⟨Wt.toArray⟩ := by rw [hWt]; apply ByteArray.ext; simp
      have hF0l : F0.length ≤ 50 := by rw [← HF0.out]; exact H50.out _ (List.getElem_mem _)
      rw [hFF]
      clear hFF hWt HF HD g3r
      by_cases q1 : 253402300800 < (-(N : Int))
      · go_wp2_with fail
        go_ret
        exact ⟨rfl, HXr.out⟩
      · by_cases q2 : (-(N : Int)) < -62135596800
        · go_wp2_with fail
          go_ret
          exact ⟨rfl, HXr.out⟩
        · have HTm : Hid (tmB (-(N : Int)) = true) := by unfold tmB; rw [Hid, decide_eq_true_eq]; omega
          have hRr2 := HRr.out
          go_wp2_with (first
            | (refine load_midg (by rfl) 30 _ rfl B 0 rfl L.vals _ hRr2 Tryz.underlying30 rfl hIL ?_)
            | (go_at_call 20; (with_reducible refine (HRe2.out _ HXr.out HTm.out).mono ?_); rintro e w9 ⟨rfl, hE9⟩))
          go_ret
          exact ⟨by first | rfl | simp, HXr.out.trans hE9⟩
end Go.Proofs.YtlmoibmmjonjoaaGreatDoor
/- Locales: the walk of the law LocaleSums at 0. -/
namespace Go.Proofs.YtlmoibmmjonjoaaGreatDoor
set_option linter.unusedVariables false
set_option linter.unusedSimpArgs false
open Go.RowKit

set_option maxRecDepth 100000 in
set_option maxHeartbeats 4000000 in
theorem lsums_0 (L : Loc) (w : World) (h : LcV L w) (hb : bgL L) (hm : Lm w) (hNl : ∀ s ∈ L.N.all, s.length ≤ 2000000) (hv : validLB L = true) :
    Calls Tryz.prog 6 #[.agg L.vals.toArray, .int .i64 0] w fun e w' => e = .returned (.bool true) ∧ Ext w w' := by
  have hUF := uf_of (vu hv).1 (vu hv).2
  obtain ⟨v1, v2⟩ := duV_0 hv
  have h1 := hUF.one
  obtain ⟨z, hz⟩ : ∃ z, z = L.U.length - 1 := ⟨_, rfl⟩
  have hzl : z < L.U.length := by omega
  have hzi : (L.U.length : Int) - 1 = (z : Int) := by omega
  have hzu : z + 1 = L.U.length := by omega
  obtain ⟨k1, k2⟩ := ruled_ok (valid_P hv).1
  have hfl : fstI 0 L.P < L.P.length := fstI_lt k1
  have hful : fstI 0 L.P < (L.U[z]).f.length := by rw [(hUF.at_ z hzl).2.2.1]; exact hfl
  obtain ⟨a, ha⟩ : ∃ a, amt L.P (lastF L.U) 0 = a := ⟨_, rfl⟩
  obtain ⟨gf, hgf⟩ : ∃ g, ((L.U[z]).f[fstI 0 L.P]).r = g := ⟨_, rfl⟩
  obtain ⟨D, hD⟩ : ∃ D, itx 0 1 = D := ⟨_, rfl⟩
  obtain ⟨cat, hcat⟩ : ∃ c, (L.P[fstI 0 L.P]).c = c := ⟨_, rfl⟩
  have eL : lastF L.U = (L.U[z]).f := by rw [lastF_eq hUF]; subst hz; rfl
  have hacut : a = itx 0 1 ++ 32 :: gf := by
    rw [← ha, eL, ← hgf]
    unfold amt
    rw [List.getElem?_eq_getElem hful]; rfl
  have h44 : ∀ x ∈ a, x ≠ 44 := by rw [← ha, eL]; exact amt_44 (hUF.at_ z hzl).2.2.2
  have hal : a.length ≤ 50 := by rw [← ha, eL]; exact amt_len (hUF.at_ z hzl).2.2.2 (by omega)
  have hCP : ∀ w', Calls Tryz.prog 14 #[.string ⟨a.toArray⟩, .string ⟨#[45]⟩] w' fun e w'' => e = .returned (.tuple #[.string ⟨a.toArray⟩, .bool false]) ∧ w' = w'' := fun w' => by
    refine cutm_c a [45] a false w' ?_ (by simp)
    obtain ⟨c, r3, e4, e5⟩ := itx_head 0 1
    rw [hacut, e4]
    have h2 := isDg_iff.1 e5
    simp only [List.cons_append, List.isPrefixOf, Bool.and_eq_false_iff]
    left
    rw [beq_eq_false_iff_ne]
    intro e
    rw [← e] at h2
    exact absurd h2.1 (by decide)
  have hIL := loc_size h.1
  have hE0 : Ext w (w.alloc (.cells L.vals.toArray 30)) := (Ext.refl w).alloc _
  have hB := LcB.new L w 30
  have hR := hB.2
  obtain ⟨-, -, -, g3, -⟩ := hB.cells h.1
  have HzB := Lib.hid hB.1
  have HE0 := Lib.hid hE0
  have HVl := Lib.hid hv
  have HUF := Lib.hid hUF
  have HCP := Lib.hid hCP
  have HAw : Hid (∀ w', Ext w w' → Calls Tryz.prog 7 #[] w' fun e w'' => e = .returned (.bool true) ∧ Ext w' w'') := fun w' hE => awake55_c w' (hm.ext hE)
  have HFw : Hid (∀ w', Ext w w' → Calls Tryz.prog 8 #[.agg L.vals.toArray] w' (fun e w'' => ∃ b : Bool, e = .returned (.bool b) ∧ (b = true → shL L) ∧ Ext w' w'')) := fun w' hE => few_c L w' (h.ext hE) hb (hm.ext hE) hNl
  have HVa : Hid (∀ w', shL L → Ext w w' → Calls Tryz.prog 13 #[.agg L.vals.toArray] w' fun e w'' => e = .returned (.bool true) ∧ Ext w' w'') := fun w' hs hE => valid_c L true w' (h.ext hE) hs (hm.ext hE) hNl HVl.out
  have HDu : Hid (∀ w', shL L → Ext w w' → Calls Tryz.prog 18 #[.agg L.vals.toArray, .int .i64 0] w' fun e w'' => e = .returned (.tuple #[.string ⟨a.toArray⟩, .int .i64 0]) ∧ Ext w' w'') := fun w' hs hE => by have q := duration_c L 0 w' (h.ext hE) hs (hm.ext hE) hNl; rw [v1, v2, ha] at q; exact q
  have HSp : Hid (∀ w', Ext w w' → Calls Tryz.prog 22 #[.string ⟨a.toArray⟩, .string ⟨#[44, 32]⟩] w' fun e w'' => ∃ x, e = .returned x ∧ SpR [a] x w'' ∧ Ext w' w'') := fun w' hE => split2_c [a] a w' (hm.ext hE) (by simp) (fun b hb => by rw [List.mem_singleton.1 hb]; exact h44) (by omega) (by simp) (Lib.join_one a _)
  have HPq : Hid (∀ w', shL L → Ext w w' → Calls Tryz.prog 9 #[.agg L.vals.toArray, .int .i64 0] w' fun e w'' => e = .returned (.tuple #[.string ⟨cat.toArray⟩, .int .i64 0]) ∧ Ext w' w'') := fun w' hs hE => by
    have q := plural_c L 0 w' (h.ext hE) hs (hm.ext hE) hNl
    have e1 : plE L 0 = 0 := by unfold plE inrB; simp [hv]
    have e2 : plV L 0 = cat := by unfold plV; rw [if_pos e1, ← hcat]; show ((L.P[fstI 0 L.P]?).map (·.c)).getD [] = _; rw [List.getElem?_eq_getElem hfl]; rfl
    rw [e1, e2] at q
    exact q
  have HRe : Hid (∀ w', shL L → Ext w w' → Calls Tryz.prog 20 #[.agg L.vals.toArray, .int .i64 0, .int .i64 0] w' fun e w'' => e = .returned (.tuple #[.string ⟨a.toArray⟩, .int .i64 0]) ∧ Ext w' w'') := fun w' hs hE => by
    obtain ⟨r1, r2⟩ := reV_eq (L := L) (t := 0) hv (by decide)
    have q := relative_c L 0 0 w' (h.ext hE) hs (hm.ext hE) hNl
    rw [r1, r2, ha] at q
    exact q
  have HCut : Hid (∀ w', Ext w w' → Calls Tryz.prog 23 #[.string ⟨a.toArray⟩, .string ⟨#[32]⟩] w' fun e w'' => e = .returned (.tuple #[.string ⟨D.toArray⟩, .string ⟨gf.toArray⟩, .bool true]) ∧ Ext w' w'') := fun w' hE' => cut1_c 0 gf D a w' (hm.ext hE') hD hacut (by omega)
  have HAt : Hid (∀ w', Calls Tryz.prog 24 #[.string ⟨D.toArray⟩] w' fun e w'' => e = .returned (.tuple #[.int .i64 0, .nilIface]) ∧ Ext w' w'') := fun w' => atoi16_c 0 D w' (by omega) hD
  have HAny : Hid (((L.U[z]).f.any fun x => (x.c == cat) && (x.r == gf)) = true) := by
    rw [Hid, List.any_eq_true]
    refine ⟨(L.U[z]).f[fstI 0 L.P], List.getElem_mem _, ?_⟩
    rw [(((vu hv).2 z hzl hzl).2.2 _ hful hfl).1, hcat, hgf]; simp
  have hten := hUF.ten
  have s0 := hUF.at_ 0 h1
  have hs00 := s0.1
  have hs01 := s0.2.1
  have hsz := hUF.last
  have hszz : (L.U[z]).s = 1 := by rw [← hsz]; subst hz; rfl
  have HUn := Lib.hid (fun w' (hE : Ext w w') => (h.ext hE).2.2.2)
  have HSzz := Lib.hid hszz
  clear h hb hm hNl hv v1 v2 hUF ha hgf hD hcat eL hacut h44 hCP hE0 hB k1 k2 hfl hful hz s0 hsz hszz
  go_enter Tryz.func6, Tryz.ntmps6
  go_upto_region 1 with fail
  generalize w.alloc (.cells L.vals.toArray 30) = W0 at *
  generalize w.heap.size = B at *
  go_wp2_with (first
    | (go_at_call 7; (with_reducible refine (HAw.out _ HE0.out).mono ?_); rintro e w1 ⟨rfl, hE1⟩; have hR1 := rng_ext hR HzB.out hE1; have hB1 := hE1.lt HzB.out)
    | (refine load_midg (by rfl) 30 _ rfl B 0 rfl L.vals _ hR1 Tryz.underlying30 rfl hIL ?_)
    | (go_at_call 8; (with_reducible refine (HFw.out _ (HE0.out.trans hE1)).mono ?_); rintro e w2 ⟨b, rfl, hsh, hE2⟩; have hR2 := rng_ext hR1 hB1 hE2; have hB2 := hE2.lt hB1; cases b)
    | (refine load_midg (by rfl) 30 _ rfl B 0 rfl L.vals _ hR2 Tryz.underlying30 rfl hIL ?_)
    | (go_at_call 13; (with_reducible refine (HVa.out _ (hsh (by trivial)) (HE0.out.trans (hE1.trans hE2))).mono ?_); rintro e w3 ⟨rfl, hE3⟩; have hR3 := rng_ext hR2 hB2 hE3; have hB3 := hE3.lt hB2; have hX3 := HE0.out.trans (hE1.trans (hE2.trans hE3)))
    | (refine load_midg (by rfl) 30 _ rfl B 0 rfl L.vals _ hR3 Tryz.underlying30 rfl hIL ?_)
    | (go_at_call 18; (with_reducible refine (HDu.out _ (hsh (by trivial)) hX3).mono ?_); rintro e w4 ⟨rfl, hE4⟩; have hX4 := hX3.trans hE4)
    | (go_at_call 14; (with_reducible refine (HCP.out _).mono ?_); rintro e w5 ⟨rfl, rfl⟩)
    | (go_at_call 22; (with_reducible refine (HSp.out _ hX4).mono ?_); rintro e w6 ⟨x, rfl, hx, hE6⟩; obtain ⟨g, cg, rfl, hg1, hg2, hg3⟩ := hx))
  · go_ret
    exact ⟨rfl, HE0.out.trans (hE1.trans hE2)⟩
  have HSh := Lib.hid (hsh (by trivial))
  have HX6 := Lib.hid (hX4.trans hE6)
  have hE06 := hE1.trans (hE2.trans (hE3.trans (hE4.trans hE6)))
  have g3V := (hE06.cells B 43 HzB.out).trans g3
  have HR6 := Lib.hid (rng_ext hR HzB.out hE06)
  have hzB6 := hE06.lt HzB.out
  have hgl := hg1.1
  have HG := Lib.hid hg1.2
  unfold maxLen at hg3
  obtain ⟨R, off, hua, hzR, hcu⟩ := (HUn.out w6 HX6.out).2.2.1 (by have := HUF.out.one; intro e; rw [e] at this; simp at this)
  have hul := (HUn.out w6 HX6.out).1
  have hul2 := (HUn.out w6 HX6.out).2.1
  unfold maxLen at hul2
  have HCu := Lib.hid hcu
  rw [hua] at g3V
  obtain ⟨cz0, -⟩ := hcu 0 (by omega)
  obtain ⟨czz, cz1⟩ := hcu z hzl
  rw [HSzz.out] at czz
  obtain ⟨y0, hy0⟩ : ∃ y, y = (L.U[0]'(by omega)).s := ⟨_, rfl⟩
  rw [← hy0] at cz0 hs00 hs01
  have hpl : 0 < ([a] : List (List UInt8)).length := by simp
  have c0p0 := HG.out 0 hpl
  rw [Nat.zero_add] at c0p0
  have c0p1 : w6.cell? ⟨g, 0, none⟩ = some (.string ⟨a.toArray⟩) := c0p0
  have HFv6 : Hid (PlV (L.U[z]).ao (L.U[z]).cap (L.U[z]).f w6) := (HUn.out w6 HX6.out).2.2.2 L.U[z] (List.getElem_mem _)
  have HSf : Hid (shP (L.U[z]).f) := HSh.out.2.2.1 _ (List.getElem_mem _)
  obtain ⟨u, hu⟩ : ∃ u, u = L.U[z] := ⟨_, rfl⟩
  rw [← hu] at cz1 HFv6 HSf HAny
  obtain ⟨us, uao, ucap, uf⟩ := u
  simp only at cz1 HFv6 HSf HAny
  simp only [List.length_cons, List.length_nil, Nat.zero_add] at hg2
  clear hu hy0 c0p0 hg1 hcu hsh hR hR1 hR2 hR3 hB1 hB2 hB3 hX3 hX4 hE1 hE2 hE3 hE4 hE6 hE06 g3 hua HG hpl
  go_loopw [9, 10, 11, 67] (fun s9 s10 s11 s67 wr => ∃ (i k : Nat) (F : List UInt8), i ≤ 1 ∧ s9 = .int .i64 0 ∧ s10 = .int .i64 (k : Int) ∧ s11 = .string ⟨F.toArray⟩ ∧ s67 = .int .i64 (i : Int) ∧ Hid (i ≠ 0 → F = a) ∧ Hid (i = 0 → k = 0) ∧ Ext w6 wr) (fun _ _ _ i _ => 1 - (intOf i).toNat)
  case atStart => exact ⟨0, 0, [], Nat.zero_le _, rfl, rfl, rfl, rfl, fun h => absurd rfl h, fun _ => rfl, Ext.refl _⟩
  case round =>
    obtain ⟨i, k, F, hi, rfl, rfl, rfl, rfl, HF, HK, hE⟩ := hrel
    have g3r := (hE.cells B 43 hzB6).trans g3V
    have hBr := hE.lt hzB6
    have hRr := hE.lt hzR
    have HRr := Lib.hid (rng_ext HR6.out hzB6 hE)
    have HXr := Lib.hid (HX6.out.trans hE)
    by_cases hlt : i = 0
    · have hk0 := HK.out hlt
      subst hlt
      subst hk0
      have c0p := (hE.cells g 0 hgl).trans c0p1
      have hgr := hE.lt hgl
      have c0 := (hE.cells R _ hzR).trans cz0
      have cz := (hE.cells R _ hzR).trans czz
      have c1 := (hE.cells R _ hzR).trans cz1
      rw [Nat.zero_mul, Nat.add_zero] at c0
      have HFv := Lib.hid (HFv6.out.ext hE)
      have d1 : decide ((0 : Int) < y0) = true := decide_eq_true (by omega)
      have d0 : (0 : Int) < y0 := by omega
      have dz : (0 : Int) / y0 = 0 := Int.zero_ediv _
      have dl : (0 : Int) < (L.U.length : Int) := by omega
      have dl2 : 0 < L.U.length := by omega
      have dl3 : L.U.length ≠ 0 := by omega
      clear HK
      go_upto_region 20 with (first
        | (go_at_call 23; (with_reducible refine (HCut.out _ HXr.out).mono ?_); rintro e w7 ⟨rfl, hE7⟩)
        | (go_at_call 24; (with_reducible refine (HAt.out _).mono ?_); rintro e w8 ⟨rfl, hE8⟩))
      have hE78 := hE7.trans hE8
      have g3s := (hE78.cells B 43 hBr).trans g3r
      have hBs := hE78.lt hBr
      have hRs := hE78.lt hRr
      have c0s := (hE78.cells R _ hRr).trans c0
      have czs := (hE78.cells R _ hRr).trans cz
      have c1s := (hE78.cells R _ hRr).trans c1
      have HFv8 := Lib.hid (HFv.out.ext hE78)
      have HXs := Lib.hid (HXr.out.trans hE78)
      have HE6s := Lib.hid (hE.trans hE78)
      have HRs := Lib.hid (rng_ext HRr.out hBr hE78)
      clear g3r hRr hBr c0 c1 cz c0p hgr HFv hE hE7 hE8 hE78
      go_wp2_with fail
      go_loop [10] (fun s10 => s10 = .int .i64 0) (fun s10 => 1 - (intOf s10).toNat)
      case atStart => rfl
      case round =>
        subst hrel
        have hR8 := HRs.out
        go_upto_region 28 with (first
          | (refine load_midg (by rfl) 30 _ rfl B 0 rfl L.vals _ hR8 Tryz.underlying30 rfl hIL ?_)
          | (go_at_call 9; (with_reducible refine (HPq.out _ HSh.out HXs.out).mono ?_); rintro e w9 ⟨rfl, hE9⟩))
        have g3t := (hE9.cells B 43 hBs).trans g3s
        have hBt := hE9.lt hBs
        have hRt := hE9.lt hRs
        have czt := (hE9.cells R _ hRs).trans czs
        have c1t := (hE9.cells R _ hRs).trans c1s
        obtain ⟨f1, f2, f3⟩ := HFv8.out.ext hE9
        unfold maxLen at f2
        have HF3 := Lib.hid f3
        have HX9 := Lib.hid (HE6s.out.trans hE9)
        clear f3 g3s hBs hRs c0s c1s czs hE9 hR8 dz d1 d0
        go_wp2_with fail
        go_loopw [22, 164] (fun s22 s164 wt => ∃ j : Nat, j ≤ uf.length ∧ s164 = .int .i64 (j : Int) ∧ s22 = .bool ((uf.take j).any fun x => (x.c == cat) && (x.r == gf)) ∧ Ext w9 wt) (fun _ j _ => uf.length - (intOf j).toNat)
        case atStart => exact ⟨0, Nat.zero_le _, rfl, rfl, Ext.refl _⟩
        case round =>
          obtain ⟨j, hj, rfl, rfl, hEt⟩ := hrel
          by_cases hjl : j < uf.length
          · obtain ⟨R2, of2, rfl, hR2z, hc2⟩ := HF3.out (by intro e; rw [e] at hjl; simp at hjl)
            obtain ⟨x0, x1⟩ := hc2 j hjl
            replace x0 := (hEt.cells R2 _ hR2z).trans x0
            replace x1 := (hEt.cells R2 _ hR2z).trans x1
            have hR2t := hEt.lt hR2z
            have hfs := HSf.out uf[j] (List.getElem_mem _)
            have HS : Hid (((uf.take (j + 1)).any fun x => (x.c == cat) && (x.r == gf)) = (((uf.take j).any fun x => (x.c == cat) && (x.r == gf)) || ((uf[j].c == cat) && (uf[j].r == gf)))) := by rw [Hid, List.take_succ_eq_append_getElem hjl, List.any_append]; simp
            obtain ⟨x, hx⟩ : ∃ x, x = uf[j] := ⟨_, rfl⟩
            rw [← hx] at x0 x1 hfs HS
            clear hx hc2
            obtain ⟨xc, xr⟩ := x
            simp only at x0 x1 hfs HS
            obtain ⟨b0, hb0⟩ : ∃ b, ((uf.take j).any fun x => (x.c == cat) && (x.r == gf)) = b := ⟨_, rfl⟩
            rw [hb0] at HS ⊢
            clear hb0
            cases b0
            · rcases Bool.eq_false_or_eq_true (xc == cat) with y1 | y1
              · rcases Bool.eq_false_or_eq_true (xr == gf) with y2 | y2
                · have HSn : Hid (((uf.take (j + 1)).any fun x => (x.c == cat) && (x.r == gf)) = true) := by rw [Hid, HS.out, y1, y2]; rfl
                  go_wp2_with fail
                  go_roundw
                  case rel => exact ⟨j + 1, by omega, by go_num, by rw [HSn.out], hEt.trans ((Ext.refl _).alloc _)⟩
                  case measure => simp [intOf]; omega
                · have HSn : Hid (((uf.take (j + 1)).any fun x => (x.c == cat) && (x.r == gf)) = false) := by rw [Hid, HS.out, y1, y2]; rfl
                  go_wp2_with fail
                  go_roundw
                  case rel => exact ⟨j + 1, by omega, by go_num, by rw [HSn.out], hEt.trans ((Ext.refl _).alloc _)⟩
                  case measure => simp [intOf]; omega
              · have HSn : Hid (((uf.take (j + 1)).any fun x => (x.c == cat) && (x.r == gf)) = false) := by rw [Hid, HS.out, y1]; rfl
                go_wp2_with fail
                go_roundw
                case rel => exact ⟨j + 1, by omega, by go_num, by rw [HSn.out], hEt.trans ((Ext.refl _).alloc _)⟩
                case measure => simp [intOf]; omega
            · have HSn : Hid (((uf.take (j + 1)).any fun x => (x.c == cat) && (x.r == gf)) = true) := by rw [Hid, HS.out]; rfl
              go_wp2_with fail
              go_roundw
              case rel => exact ⟨j + 1, by omega, by go_num, by rw [HSn.out], hEt.trans ((Ext.refl _).alloc _)⟩
              case measure => simp [intOf]; omega
          · obtain rfl : j = uf.length := by omega
            have hfd : ((uf.take uf.length).any fun x => (x.c == cat) && (x.r == gf)) = true := by rw [List.take_length]; exact HAny.out
            rw [hfd]
            have g3u := (hEt.cells B 43 hBt).trans g3t
            have hBu := hEt.lt hBt
            have hRu := hEt.lt hRt
            have czu := (hEt.cells R _ hRt).trans czt
            have HXt := Lib.hid (HX9.out.trans hEt)
            clear hfd g3t hBt hRt czt c1t hEt
            go_wp2_with fail
            go_roundw
            case rel => exact ⟨1, z + 1, a, Nat.le_refl _, rfl, by go_num, rfl, rfl, fun _ => rfl, fun h => absurd h (by decide), HXt.out⟩
            case measure => simp [intOf]
    · obtain rfl : i = 1 := by omega
      have hFF := HF.out (by omega)
      rw [hFF]
      have hRr2 := HRr.out
      clear hFF HF g3r HK
      go_wp2_with (first
        | (refine load_midg (by rfl) 30 _ rfl B 0 rfl L.vals _ hRr2 Tryz.underlying30 rfl hIL ?_)
        | (go_at_call 20; (with_reducible refine (HRe.out _ HSh.out HXr.out).mono ?_); rintro e w9 ⟨rfl, hE9⟩))
      go_ret
      exact ⟨by first | rfl | simp, HXr.out.trans hE9⟩
end Go.Proofs.YtlmoibmmjonjoaaGreatDoor
/- Locales: the walk of the law LocaleSums, whole. -/
namespace Go.Proofs.YtlmoibmmjonjoaaGreatDoor
set_option linter.unusedVariables false
set_option linter.unusedSimpArgs false
open Go.RowKit

set_option maxRecDepth 100000 in
set_option maxHeartbeats 4000000 in
theorem lsums_walk (L : Loc) (n : Int) (w : World) (h : LcV L w) (hb : bgL L) (hm : Lm w) (hNl : ∀ s ∈ L.N.all, s.length ≤ 2000000) :
    Calls Tryz.prog 6 #[.agg L.vals.toArray, .int .i64 n] w fun e w' => e = .returned (.bool true) ∧ Ext w w' := by
  rcases Bool.eq_false_or_eq_true (validLB L) with hv | hv
  · by_cases q1 : n < -4398046511104
    · have d1 : decide (n < -4398046511104) = true := decide_eq_true q1
      have HVl := Lib.hid hv
      have hIL := loc_size h.1
      have hE0 : Ext w (w.alloc (.cells L.vals.toArray 30)) := (Ext.refl w).alloc _
      have hB := LcB.new L w 30
      have hR := hB.2
      have HzB := Lib.hid hB.1
      have HE0 := Lib.hid hE0
      have HAw : Hid (∀ w', Ext w w' → Calls Tryz.prog 7 #[] w' fun e w'' => e = .returned (.bool true) ∧ Ext w' w'') := fun w' hE => awake55_c w' (hm.ext hE)
      have HFw : Hid (∀ w', Ext w w' → Calls Tryz.prog 8 #[.agg L.vals.toArray] w' (fun e w'' => ∃ b : Bool, e = .returned (.bool b) ∧ (b = true → shL L) ∧ Ext w' w'')) := fun w' hE => few_c L w' (h.ext hE) hb (hm.ext hE) hNl
      have HVa : Hid (∀ w', shL L → Ext w w' → Calls Tryz.prog 13 #[.agg L.vals.toArray] w' fun e w'' => e = .returned (.bool true) ∧ Ext w' w'') := fun w' hs hE => valid_c L true w' (h.ext hE) hs (hm.ext hE) hNl HVl.out
      clear h hb hm hNl hv hE0 hB
      go_enter Tryz.func6, Tryz.ntmps6
      go_upto_region 1 with fail
      generalize w.alloc (.cells L.vals.toArray 30) = W0 at *
      generalize w.heap.size = B at *
      go_wp2_with (first
        | (go_at_call 7; (with_reducible refine (HAw.out _ HE0.out).mono ?_); rintro e w1 ⟨rfl, hE1⟩; have hR1 := rng_ext hR HzB.out hE1; have hB1 := hE1.lt HzB.out)
        | (refine load_midg (by rfl) 30 _ rfl B 0 rfl L.vals _ hR1 Tryz.underlying30 rfl hIL ?_)
        | (go_at_call 8; (with_reducible refine (HFw.out _ (HE0.out.trans hE1)).mono ?_); rintro e w2 ⟨b, rfl, hsh, hE2⟩; have hR2 := rng_ext hR1 hB1 hE2; have hB2 := hE2.lt hB1; cases b)
        | (refine load_midg (by rfl) 30 _ rfl B 0 rfl L.vals _ hR2 Tryz.underlying30 rfl hIL ?_)
        | (go_at_call 13; (with_reducible refine (HVa.out _ (hsh (by trivial)) (HE0.out.trans (hE1.trans hE2))).mono ?_); rintro e w3 ⟨rfl, hE3⟩))
      all_goals
        go_ret
        first
          | exact ⟨rfl, HE0.out.trans (hE1.trans hE2)⟩
          | exact ⟨rfl, HE0.out.trans (hE1.trans (hE2.trans hE3))⟩
    · have d1 : decide (n < -4398046511104) = false := decide_eq_false q1
      by_cases q2 : 4398046511104 < n
      · have d2 : decide (4398046511104 < n) = true := decide_eq_true q2
        have HVl := Lib.hid hv
        have hIL := loc_size h.1
        have hE0 : Ext w (w.alloc (.cells L.vals.toArray 30)) := (Ext.refl w).alloc _
        have hB := LcB.new L w 30
        have hR := hB.2
        have HzB := Lib.hid hB.1
        have HE0 := Lib.hid hE0
        have HAw : Hid (∀ w', Ext w w' → Calls Tryz.prog 7 #[] w' fun e w'' => e = .returned (.bool true) ∧ Ext w' w'') := fun w' hE => awake55_c w' (hm.ext hE)
        have HFw : Hid (∀ w', Ext w w' → Calls Tryz.prog 8 #[.agg L.vals.toArray] w' (fun e w'' => ∃ b : Bool, e = .returned (.bool b) ∧ (b = true → shL L) ∧ Ext w' w'')) := fun w' hE => few_c L w' (h.ext hE) hb (hm.ext hE) hNl
        have HVa : Hid (∀ w', shL L → Ext w w' → Calls Tryz.prog 13 #[.agg L.vals.toArray] w' fun e w'' => e = .returned (.bool true) ∧ Ext w' w'') := fun w' hs hE => valid_c L true w' (h.ext hE) hs (hm.ext hE) hNl HVl.out
        clear h hb hm hNl hv hE0 hB
        go_enter Tryz.func6, Tryz.ntmps6
        go_upto_region 1 with fail
        generalize w.alloc (.cells L.vals.toArray 30) = W0 at *
        generalize w.heap.size = B at *
        go_wp2_with (first
          | (go_at_call 7; (with_reducible refine (HAw.out _ HE0.out).mono ?_); rintro e w1 ⟨rfl, hE1⟩; have hR1 := rng_ext hR HzB.out hE1; have hB1 := hE1.lt HzB.out)
          | (refine load_midg (by rfl) 30 _ rfl B 0 rfl L.vals _ hR1 Tryz.underlying30 rfl hIL ?_)
          | (go_at_call 8; (with_reducible refine (HFw.out _ (HE0.out.trans hE1)).mono ?_); rintro e w2 ⟨b, rfl, hsh, hE2⟩; have hR2 := rng_ext hR1 hB1 hE2; have hB2 := hE2.lt hB1; cases b)
          | (refine load_midg (by rfl) 30 _ rfl B 0 rfl L.vals _ hR2 Tryz.underlying30 rfl hIL ?_)
          | (go_at_call 13; (with_reducible refine (HVa.out _ (hsh (by trivial)) (HE0.out.trans (hE1.trans hE2))).mono ?_); rintro e w3 ⟨rfl, hE3⟩))
        all_goals
          go_ret
          first
            | exact ⟨rfl, HE0.out.trans (hE1.trans hE2)⟩
            | exact ⟨rfl, HE0.out.trans (hE1.trans (hE2.trans hE3))⟩
      · rcases Int.lt_trichotomy n 0 with q | q | q
        · obtain ⟨N, hN⟩ := Int.eq_ofNat_of_zero_le (show 0 ≤ -n by omega)
          obtain rfl : n = -(N : Int) := by omega
          exact lsums_m L N w h hb hm hNl hv (by omega) (by omega)
        · subst q
          exact lsums_0 L w h hb hm hNl hv
        · obtain ⟨N, rfl⟩ := Int.eq_ofNat_of_zero_le (show 0 ≤ n by omega)
          exact lsums_p L N w h hb hm hNl hv (by omega) (by omega)
  · have HVl := Lib.hid hv
    have hIL := loc_size h.1
    have hE0 : Ext w (w.alloc (.cells L.vals.toArray 30)) := (Ext.refl w).alloc _
    have hB := LcB.new L w 30
    have hR := hB.2
    have HzB := Lib.hid hB.1
    have HE0 := Lib.hid hE0
    have HAw : Hid (∀ w', Ext w w' → Calls Tryz.prog 7 #[] w' fun e w'' => e = .returned (.bool true) ∧ Ext w' w'') := fun w' hE => awake55_c w' (hm.ext hE)
    have HFw : Hid (∀ w', Ext w w' → Calls Tryz.prog 8 #[.agg L.vals.toArray] w' (fun e w'' => ∃ b : Bool, e = .returned (.bool b) ∧ (b = true → shL L) ∧ Ext w' w'')) := fun w' hE => few_c L w' (h.ext hE) hb (hm.ext hE) hNl
    have HVa : Hid (∀ w', shL L → Ext w w' → Calls Tryz.prog 13 #[.agg L.vals.toArray] w' fun e w'' => e = .returned (.bool false) ∧ Ext w' w'') := fun w' hs hE => valid_c L false w' (h.ext hE) hs (hm.ext hE) hNl HVl.out
    clear h hb hm hNl hv hE0 hB
    go_enter Tryz.func6, Tryz.ntmps6
    go_upto_region 1 with fail
    generalize w.alloc (.cells L.vals.toArray 30) = W0 at *
    generalize w.heap.size = B at *
    go_wp2_with (first
      | (go_at_call 7; (with_reducible refine (HAw.out _ HE0.out).mono ?_); rintro e w1 ⟨rfl, hE1⟩; have hR1 := rng_ext hR HzB.out hE1; have hB1 := hE1.lt HzB.out)
      | (refine load_midg (by rfl) 30 _ rfl B 0 rfl L.vals _ hR1 Tryz.underlying30 rfl hIL ?_)
      | (go_at_call 8; (with_reducible refine (HFw.out _ (HE0.out.trans hE1)).mono ?_); rintro e w2 ⟨b, rfl, hsh, hE2⟩; have hR2 := rng_ext hR1 hB1 hE2; have hB2 := hE2.lt hB1; cases b)
      | (refine load_midg (by rfl) 30 _ rfl B 0 rfl L.vals _ hR2 Tryz.underlying30 rfl hIL ?_)
      | (go_at_call 13; (with_reducible refine (HVa.out _ (hsh (by trivial)) (HE0.out.trans (hE1.trans hE2))).mono ?_); rintro e w3 ⟨rfl, hE3⟩))
    all_goals
      go_ret
      first
        | exact ⟨rfl, HE0.out.trans (hE1.trans hE2)⟩
        | exact ⟨rfl, HE0.out.trans (hE1.trans (hE2.trans hE3))⟩
end Go.Proofs.YtlmoibmmjonjoaaGreatDoor
