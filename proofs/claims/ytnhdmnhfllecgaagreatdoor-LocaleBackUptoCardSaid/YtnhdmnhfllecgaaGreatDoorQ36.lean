/- Locales: the walk of the reference's comparison of locales. -/
import Derived.Test.YtnhdmnhfllecgaaGreatDoorQ35
import Derived.Test.YtnhdmnhfllecgaaGreatDoorQ26
import Derived.Test.YtnhdmnhfllecgaaGreatDoorQ25
namespace Go.Proofs.YtnhdmnhfllecgaaGreatDoor
set_option linter.unusedVariables false
set_option linter.unusedSimpArgs false
open Go.RowKit

/-- Two locales of equal contents. -/
structure SamL (L M : Loc) : Prop where
  nm : L.nm = M.nm
  N : L.N = M.N
  P : L.P = M.P
  O : L.O = M.O
  U : L.U.map Uni.sf = M.U.map Uni.sf
  pt : L.pt = M.pt
theorem Dat.sam {L M : Loc} {D : LocD} (h : Dat L D) (k : Dat M D) : SamL L M := ⟨h.nm.trans k.nm.symm, h.N.trans k.N.symm, h.P.trans k.P.symm, h.O.trans k.O.symm, h.U.trans k.U.symm, h.pt.trans k.pt.symm⟩
theorem SamL.at_ {L M : Loc} (h : SamL L M) (i : Nat) (hi : i < L.U.length) (hj : i < M.U.length) : (L.U[i]).s = (M.U[i]).s ∧ (L.U[i]).f = (M.U[i]).f := by
  have h1 : (L.U.map Uni.sf)[i]? = (M.U.map Uni.sf)[i]? := by rw [h.U]
  rw [List.getElem?_map, List.getElem?_map, List.getElem?_eq_getElem hi, List.getElem?_eq_getElem hj] at h1
  simp only [Option.map_some, Option.some.injEq, Uni.sf, Prod.mk.injEq] at h1
  exact h1
theorem SamL.len {L M : Loc} (h : SamL L M) : L.U.length = M.U.length := by
  have := congrArg List.length h.U
  simpa using this
set_option maxRecDepth 100000 in
set_option maxHeartbeats 4000000 in
theorem same_c (L M : Loc) (w : World) (h : LcV L w) (h' : LcV M w) (hs : SamL L M) :
    Calls Tryz.prog 13 #[.agg L.vals.toArray, .agg M.vals.toArray] w fun e w' => e = .returned (.bool true) ∧ Ext w w' := by
  obtain ⟨nm, N, P, O, U, pt⟩ := hs
  have hlen : L.U.length = M.U.length := (SamL.mk nm N P O U pt).len
  have Hat := Lib.hid (SamL.at_ (SamL.mk nm N P O U pt))
  have hI1 := loc_size h.1
  have hI2 := loc_size h'.1
  have hIN := names_size h.1
  have HNo := Lib.hid h.1
  have hE1 : Ext w (w.alloc (.cells L.vals.toArray 30)) := (Ext.refl w).alloc _
  have hE2 : Ext (w.alloc (.cells L.vals.toArray 30)) ((w.alloc (.cells L.vals.toArray 30)).alloc (.cells M.vals.toArray 30)) := (Ext.refl _).alloc _
  have hB1 := (LcB.new L w 30).ext hE2
  have hB2 := LcB.new M (w.alloc (.cells L.vals.toArray 30)) 30
  have hz : (w.alloc (.cells L.vals.toArray 30)).heap.size = w.heap.size + 1 := by simp
  rw [hz] at hB2
  have HE := Lib.hid (hE1.trans hE2)
  have HV := Lib.hid (h.ext (hE1.trans hE2))
  have HV' := Lib.hid (h'.ext (hE1.trans hE2))
  go_enter Tryz.func13, Tryz.ntmps13
  go_upto_region 1 with fail
  generalize (w.alloc (.cells L.vals.toArray 30)).alloc (.cells M.vals.toArray 30) = W at *
  clear hE1 hE2 hz
  obtain ⟨B2, hB2e⟩ : ∃ B, B = w.heap.size + 1 := ⟨_, rfl⟩
  obtain ⟨B1, hB1e⟩ : ∃ B, B = w.heap.size := ⟨_, rfl⟩
  rw [← hB2e] at hB2
  rw [← hB1e] at hB1
  rw [← hB2e, ← hB1e]
  clear hB2e hB1e h h'
  obtain ⟨g0, g1, g2, g3, g4⟩ := hB1.cells HV.out.1
  obtain ⟨k0, k1, k2, k3, k4⟩ := hB2.cells HV'.out.1
  have hR1 := hB1.names HV.out.1
  have hR2 := hB2.names HV'.out.1
  rw [← N] at hR2
  rw [← nm] at k0
  rw [← pt] at k4
  rw [← P] at k1
  rw [← O] at k2
  obtain ⟨n, hnL⟩ : ∃ n, L.U.length = n := ⟨_, rfl⟩
  have hnM : M.U.length = n := by rw [← hlen]; exact hnL
  rw [hnL] at g3
  rw [hnM] at k3
  have hz1 := hB1.1
  have hz2 := hB2.1
  have HVP := Lib.hid HV.out.2.1
  have HVO := Lib.hid HV.out.2.2.1
  have HVP' : Hid (PlV M.pa M.pc L.P W) := by rw [Hid, P]; exact HV'.out.2.1
  have HVO' : Hid (PlV M.oa M.oc L.O W) := by rw [Hid, O]; exact HV'.out.2.2.1
  have tl : ((n : Int) == (n : Int)) = true := by simp
  have hul := HV.out.2.2.2.1
  have huc := HV.out.2.2.2.2.1
  have hul' := HV'.out.2.2.2.1
  have huc' := HV'.out.2.2.2.2.1
  rw [hnL] at hul
  rw [hnM] at hul'
  unfold maxLen at huc huc'
  have HU := Lib.hid HV.out.2.2.2.2.2
  have HU' := Lib.hid HV'.out.2.2.2.2.2
  have HnL := Lib.hid hnL
  have HnM := Lib.hid hnM
  clear hB1 hB2 nm N P O U pt hlen hnL hnM
  go_wp2_with (first
    | (refine load_midg (by rfl) 26 _ rfl B1 1 rfl (sv L.N.all) _ hR1 Tryz.underlying26 rfl hIN ?_)
    | (refine load_midg (by rfl) 26 _ rfl B2 1 rfl (sv L.N.all) _ hR2 Tryz.underlying26 rfl hIN ?_)
    | (refine wpList_valg (op := ⟨some 16, .binOp .neq 26 _ _ _, _, _, _, _⟩) (by rfl) (neq_nms HNo.out rfl rfl rfl) ?_)
    | (go_at_call 54; (with_reducible refine (plurals_c L.P _ _ _ _ _ _ rfl HVP.out HVP'.out).mono ?_); rintro e w1 ⟨rfl, q1, rfl⟩)
    | (go_at_call 54; (with_reducible refine (plurals_c L.O _ _ _ _ _ _ rfl (HVO.out.ext ((Ext.refl _).drewN _)) (HVO'.out.ext ((Ext.refl _).drewN _))).mono ?_); rintro e w2 ⟨rfl, q2, rfl⟩))
  go_loopw [5] (fun i wr => ∃ j q : Nat, j ≤ n ∧ i = .int .i64 (j : Int) ∧ Hid (wr = W.drewN q)) (fun i _ => n - (intOf i).toNat)
  case atStart => exact ⟨0, _, Nat.zero_le _, rfl, rfl⟩
  case round =>
    obtain ⟨j, q, hj, rfl, Hw⟩ := hrel
    have hE : Ext W wr := by rw [Hw.out]; exact (Ext.refl W).drewN q
    have g3r := (hE.cells B1 43 hz1).trans g3
    have k3r := (hE.cells B2 43 hz2).trans k3
    have hz1r := hE.lt hz1
    have hz2r := hE.lt hz2
    by_cases hlt : j < n
    · have hjL : j < L.U.length := by rw [HnL.out]; exact hlt
      have hjM : j < M.U.length := by rw [HnM.out]; exact hlt
      obtain ⟨R, off, hua, hzR, hcu⟩ := HU.out.1 (by intro e; rw [e] at hjL; simp at hjL)
      obtain ⟨R', off', hua', hzR', hcu'⟩ := HU'.out.1 (by intro e; rw [e] at hjM; simp at hjM)
      obtain ⟨c0, c1⟩ := hcu j hjL
      obtain ⟨d0, d1⟩ := hcu' j hjM
      replace c0 := (hE.cells R _ hzR).trans c0
      replace c1 := (hE.cells R _ hzR).trans c1
      replace d0 := (hE.cells R' _ hzR').trans d0
      replace d1 := (hE.cells R' _ hzR').trans d1
      have hRr := hE.lt hzR
      have hRr' := hE.lt hzR'
      have HF := Lib.hid ((HU.out.2 _ (List.getElem_mem hjL)).ext hE)
      have HF' := Lib.hid ((HU'.out.2 _ (List.getElem_mem hjM)).ext hE)
      obtain ⟨e1, e2⟩ := Hat.out j hjL hjM
      rw [hua] at g3r
      rw [hua'] at k3r
      obtain ⟨u, hu⟩ : ∃ u, u = L.U[j] := ⟨_, rfl⟩
      obtain ⟨v, hv⟩ : ∃ v, v = M.U[j] := ⟨_, rfl⟩
      rw [← hu] at c0 c1 HF e1 e2
      rw [← hv] at d0 d1 HF' e1 e2
      clear hu hv hcu hcu' hua hua'
      obtain ⟨us, uao, ucap, uf⟩ := u
      obtain ⟨vs, vao, vcap, vf⟩ := v
      simp only at c0 c1 d0 d1 HF HF' e1 e2
      subst e1 e2
      have ts : (us == us) = true := by simp
      have HPl : Hid (∀ k, Calls Tryz.prog 54 #[.slice uao uf.length ucap, .slice vao uf.length vcap] (wr.drewN k) fun e w' => e = .returned (.bool true) ∧ ∃ q, (wr.drewN k).drewN q = w') := fun k => plurals_c uf _ _ _ _ _ _ rfl (HF.out.ext ((Ext.refl _).drewN _)) (HF'.out.ext ((Ext.refl _).drewN _))
      clear hE
      go_wp2_with fail
      go_quiet ((go_at_call 54; exact quiet_of0 (HPl.out _)))
      go_wp2_with fail
      go_roundw
      case rel => exact ⟨j + 1, _, by omega, by go_num, by rw [Hid, Hw.out, World.drewN_drewN]⟩
      case measure => simp [intOf]; omega
    · obtain rfl : j = n := by omega
      go_wp2_with fail
      go_ret
      exact ⟨rfl, HE.out.trans hE⟩
end Go.Proofs.YtnhdmnhfllecgaaGreatDoor
/- Locales: which bytes a valid locale's texts have, plainly. -/
namespace Go.Proofs.YtnhdmnhfllecgaaGreatDoor
set_option linter.unusedVariables false
set_option linter.unusedSimpArgs false
open Go.RowKit

def Cln (c : UInt8) (l : List UInt8) : Prop := ∀ x ∈ l, x ≠ c
theorem Cln.app {c : UInt8} {a b : List UInt8} (ha : Cln c a) (hb : Cln c b) : Cln c (a ++ b) := fun x hx => by
  rcases List.mem_append.1 hx with q | q
  · exact ha x q
  · exact hb x q
theorem Cln.cons {c d : UInt8} {b : List UInt8} (ha : d ≠ c) (hb : Cln c b) : Cln c (d :: b) := fun x hx => by
  rcases List.mem_cons.1 hx with q | q
  · rw [q]; exact ha
  · exact hb x q
theorem Cln.nil {c : UInt8} : Cln c [] := fun x hx => by cases hx
theorem cln_all {f : UInt8 → Bool} {c : UInt8} {l : List UInt8} (h : l.all f = true) (hf : f c = false) : Cln c l := fun x hx e => by
  have := List.all_eq_true.1 h x hx
  rw [e, hf] at this
  cases this
theorem cln_dec {c : UInt8} (l : List UInt8) (h : l.all (fun x => !(x == c)) = true) : Cln c l := fun x hx e => by
  have := List.all_eq_true.1 h x hx
  rw [e] at this
  simp at this
/-- Numbers, items, tests: no newline. -/
theorem numB_cln {s : List UInt8} {c : UInt8} (h : numB s = true) (hc : isDg c = false) : Cln c s := by
  unfold numB at h
  simp only [Bool.and_eq_true] at h
  exact cln_all h.2 hc
theorem join_cln {c : UInt8} {sep : List UInt8} (hs : Cln c sep) : ∀ l : List (List UInt8), (∀ a ∈ l, Cln c a) → Cln c (Lib.join l sep)
  | [], _ => by rw [Lib.join_nil]; exact Cln.nil
  | x :: r, h => by
    rw [Lib.join_cons]
    refine (h x (by simp)).app ?_
    intro y hy
    unfold Lib.joinTail at hy
    obtain ⟨z, hz, hyz⟩ := List.mem_flatten.1 hy
    obtain ⟨u, hu, rfl⟩ := List.mem_map.1 hz
    exact (hs.app (h u (by simp [hu]))) y hyz
theorem cut_two (s : List UInt8) : ((Lib.cut s [46, 46]).2.2 = true ∧ s = (Lib.cut s [46, 46]).1 ++ ([46, 46] ++ (Lib.cut s [46, 46]).2.1)) ∨ ((Lib.cut s [46, 46]).2.2 = false ∧ (Lib.cut s [46, 46]).1 = s) := by
  rcases Lib.index_spec s [46, 46] with ⟨h, -⟩ | ⟨i, hi, hl, ho, -⟩
  · right
    unfold Lib.cut
    rw [h, if_neg (by decide)]
    exact ⟨rfl, rfl⟩
  · left
    unfold Lib.cut
    rw [hi, if_pos (by omega)]
    refine ⟨rfl, ?_⟩
    simp only [Int.toNat_natCast]
    unfold Lib.occAt at ho
    obtain ⟨t, ht⟩ := List.isPrefixOf_iff_prefix.1 ho
    have e : s.drop (i + ([46, 46] : List UInt8).length) = t := by
      rw [← List.drop_drop, ← ht]; rfl
    rw [e, ht, List.take_append_drop]
theorem itB_cln {s : List UInt8} (h : itB s = true) : Cln 10 s := by
  unfold itB at h
  rw [Bool.and_eq_true] at h
  obtain ⟨h1, h2⟩ := h
  rcases cut_two s with ⟨a, e⟩ | ⟨a, e⟩
  · rw [a] at h2
    simp only [Bool.not_true, Bool.false_or] at h2
    rw [e]
    exact (numB_cln h1 (by decide)).app ((cln_dec _ (by decide)).app (numB_cln h2 (by decide)))
  · rw [e] at h1
    exact numB_cln h1 (by decide)
theorem listB_cln {w : List UInt8} (h : listB w = true) : Cln 10 w := by
  unfold listB at h
  rw [← join_spl 44 w]
  exact join_cln (cln_dec _ (by decide)) _ (fun a ha => itB_cln (List.all_eq_true.1 h a ha))
theorem whB_cln {ws : List (List UInt8)} (h : whB ws = true) : ∀ w ∈ ws, Cln 10 w ∨ w ∈ whR ws := by
  unfold whB at h
  rw [Bool.and_eq_true, decide_eq_true_eq] at h
  obtain ⟨h1, h2⟩ := h
  cases ws with
  | nil => intro w hw; cases hw
  | cons w0 r0 =>
    have e0 : w0 = wN := h1
    by_cases hm : (tl1 (w0 :: r0)).head? = some wMod
    · rw [decide_eq_false (by simpa using hm), Bool.false_or, Bool.and_eq_true] at h2
      unfold whR
      rw [if_pos hm]
      cases r0 with
      | nil => simp [tl1] at hm
      | cons w1 r1 =>
        have e1 : w1 = wMod := by simpa [tl1] using hm
        cases r1 with
        | nil => simp [tl1, hd1, numB] at h2
        | cons w2 r2 =>
          have n2 : numB w2 = true := h2.1
          intro w hw
          simp only [List.mem_cons] at hw
          rcases hw with q | q | q | q
          · left; rw [q, e0]; exact cln_dec _ (by decide)
          · left; rw [q, e1]; exact cln_dec _ (by decide)
          · left; rw [q]; exact numB_cln n2 (by decide)
          · right; exact q
    · unfold whR
      rw [if_neg hm]
      intro w hw
      rcases List.mem_cons.1 hw with q | q
      · left; rw [q, e0]; exact cln_dec _ (by decide)
      · right; exact q
theorem teB_cln {ws : List (List UInt8)} (h : teB ws = true) : ∀ w ∈ ws, Cln 10 w ∨ w ∈ teR ws := by
  unfold teB at h
  rw [Bool.and_eq_true, Bool.and_eq_true, decide_eq_true_eq] at h
  obtain ⟨⟨h1, h2⟩, h3⟩ := h
  intro w hw
  rcases whB_cln h1 w hw with q | q
  · exact .inl q
  · unfold teR
    cases e : whR ws with
    | nil => rw [e] at q; cases q
    | cons x r =>
      rw [e] at q h2 h3
      rcases List.mem_cons.1 q with q | q
      · left
        have h2 : x = wIs ∨ x = wNot := h2
        rw [q]
        rcases h2 with h2 | h2
        · rw [h2]; exact cln_dec _ (by decide)
        · rw [h2]; exact cln_dec _ (by decide)
      · cases r with
        | nil => cases q
        | cons y r =>
          rcases List.mem_cons.1 q with q | q
          · left; rw [q]; exact listB_cln h3
          · right; exact q
theorem rfL_cln (n : Nat) (k : Nat) : ∀ (any all : Bool) (ws : List (List UInt8)), ws.length ≤ k → (rfL n any all ws).1 = true → ∀ w ∈ ws, Cln 10 w := by
  induction k with
  | zero =>
    intro any all ws hk h w hw
    obtain rfl : ws = [] := List.length_eq_zero_iff.1 (by omega)
    cases hw
  | succ k ih =>
    intro any all ws hk h
    rw [rfL.eq_def] at h
    cases hb : teB ws with
    | false => rw [if_pos hb] at h; cases h
    | true =>
      rw [if_neg (by rw [hb]; simp)] at h
      have hc := teB_cln hb
      have hl := teR_len ws
      intro w hw
      rcases hc w hw with q | q
      · exact q
      · split at h
        · rename_i e
          rw [e] at q; cases q
        · rename_i x r e
          rw [e] at hl q
          simp only [List.length_cons] at hl
          split at h
          · rename_i hx
            rcases List.mem_cons.1 q with q | q
            · rw [q, hx]; exact cln_dec _ (by decide)
            · exact ih _ _ r (by omega) h w q
          · split at h
            · rename_i hx
              rcases List.mem_cons.1 q with q | q
              · rw [q, hx]; exact cln_dec _ (by decide)
              · exact ih _ _ r (by omega) h w q
            · cases h
theorem rfL_empty (n : Nat) : (rfL n false true [[]]).1 = false := by
  rw [rfL.eq_def, if_pos (by decide)]
/-- A rule: not empty, no newline. -/
theorem okR_cln {r : List UInt8} (h : okR r = true) : Cln 10 r ∧ r ≠ [] ∧ r.length ≤ 200 := by
  unfold okR at h
  rw [Bool.and_eq_true, decide_eq_true_eq] at h
  obtain ⟨h1, h2⟩ := h
  have h3 : (rfL 0 false true (wds r)).1 = true := by rw [rfL_rul, if_pos h1]
  refine ⟨?_, ?_, h2⟩
  · rw [← join_spl 32 r]
    exact join_cln (cln_dec _ (by decide)) _ (rfL_cln 0 _ _ _ _ (Nat.le_refl _) h3)
  · rintro rfl
    have e : (rfL 0 false true (wds [])).1 = false := rfL_empty 0
    rw [e] at h3; cases h3
theorem tw_mem (c : UInt8) : ∀ (r : List UInt8) (x : UInt8), x ∈ r.takeWhile (fun y => y == c) → x = c
  | [], x, h => by cases h
  | d :: r, x, h => by
    rw [List.takeWhile_cons] at h
    split at h
    · rename_i hd
      rcases List.mem_cons.1 h with e | e
      · rw [e]; simpa using hd
      · exact tw_mem c r x e
    · cases h
theorem drop_tw (c : UInt8) : ∀ (r : List UInt8), r.drop (r.takeWhile (fun y => y == c)).length = r.dropWhile (fun y => y == c)
  | [] => rfl
  | d :: r => by
    rw [List.takeWhile_cons, List.dropWhile_cons]
    split
    · simp only [List.length_cons, List.drop_succ_cons]; exact drop_tw c r
    · rfl
theorem cmpL_prn (k : Nat) : ∀ (r : List UInt8) (i : Nat) (q : Bool) (out : List Prt), r.length ≤ k → (cmpL r i q out).2.2 = 0 → ∀ x ∈ r, prn x = true := by
  induction k with
  | zero =>
    intro r i q out hk h x hx
    obtain rfl : r = [] := List.length_eq_zero_iff.1 (by omega)
    cases hx
  | succ k ih =>
    intro r i q out hk h
    cases r with
    | nil => intro x hx; cases hx
    | cons c r =>
      simp only [List.length_cons] at hk
      rw [cmpL.eq_def] at h
      simp only at h
      split at h
      · cases h
      · rename_i hc
        have hc : prn c = true := by simpa using hc
        split at h
        · rename_i h2
          cases r with
          | nil => simp at h2
          | cons d r =>
            have hd : d = 39 := by simpa using h2.2
            simp only [List.length_cons] at hk
            have := ih r _ _ _ (by omega) h
            intro x hx
            rcases List.mem_cons.1 hx with e | e
            · rw [e]; exact hc
            · rcases List.mem_cons.1 e with e | e
              · rw [e, hd]; decide
              · exact this x e
        · split at h
          · have := ih r _ _ _ (by omega) h
            intro x hx
            rcases List.mem_cons.1 hx with e | e
            · rw [e]; exact hc
            · exact this x e
          · split at h
            · have := ih r _ _ _ (by omega) h
              intro x hx
              rcases List.mem_cons.1 hx with e | e
              · rw [e]; exact hc
              · exact this x e
            · split at h
              · cases h
              · have := ih (r.drop (runN c r)) _ _ _ (by rw [List.length_drop]; omega) h
                intro x hx
                rcases List.mem_cons.1 hx with e | e
                · rw [e]; exact hc
                · rw [← List.takeWhile_append_dropWhile (p := fun x => x == c) (l := r)] at e
                  rcases List.mem_append.1 e with e | e
                  · rw [tw_mem c r x e]; exact hc
                  · refine this x ?_
                    have e2 : r.drop (runN c r) = r.dropWhile (fun x => x == c) := drop_tw c r
                    rw [e2]; exact e
theorem cmpT_cln {s : List UInt8} (h : (cmpT s).2.2 = 0) : Cln 10 s ∧ s.length ≤ 200 := by
  unfold cmpT at h
  split at h
  · cases h
  · refine ⟨?_, by omega⟩
    have := cmpL_prn _ s 0 false [] (Nat.le_refl _) h
    exact cln_all (f := prn) (List.all_eq_true.2 this) (by decide)
theorem zName_cln {s : List UInt8} (h : zNameB s = true) : Cln 10 s ∧ s.length ≤ 30 := by
  unfold zNameB at h
  simp only [Bool.and_eq_true, decide_eq_true_eq] at h
  exact ⟨cln_all h.2 (by decide), h.1.1.2⟩
theorem names_cln {l : List (List UInt8)} (h : nmsB 30 l = true) : ∀ a ∈ l, Cln 10 a ∧ Cln 44 a ∧ a.length ≤ 30 := by
  intro a ha
  have h1 := ((nmsL_iff 30 l []).1 h).1 a ha
  unfold nameB at h1
  simp only [Bool.and_eq_true, decide_eq_true_eq] at h1
  exact ⟨cln_all h1.2 (by decide), cln_all h1.2 (by decide), h1.1.1.2⟩
theorem word_cln {s : List UInt8} (h : wordB s = true) : Cln 10 s ∧ Cln 32 s ∧ s ≠ [] ∧ s.length ≤ 10 := by
  unfold wordB onlyB at h
  simp only [Bool.and_eq_true, decide_eq_true_eq] at h
  exact ⟨cln_all h.2 (by decide), cln_all h.2 (by decide), fun e => by rw [e] at h; simp at h, by omega⟩
theorem suff_cln {s : List UInt8} (h : suffB s = true) : Cln 10 s ∧ Cln 32 s ∧ s ≠ [] ∧ s.length ≤ 10 := by
  unfold suffB onlyB at h
  simp only [Bool.and_eq_true, decide_eq_true_eq] at h
  exact ⟨cln_all h.2 (by decide), cln_all h.2 (by decide), fun e => by rw [e] at h; simp at h, by omega⟩
theorem form_cln {s : List UInt8} (h : formB s = true) : Cln 10 s ∧ Cln 44 s ∧ s ≠ [] ∧ s.length ≤ 30 := by
  have hl := form_len h
  unfold formB onlyB at h
  simp only [Bool.and_eq_true, decide_eq_true_eq] at h
  exact ⟨cln_all h.1.2 (by decide), cln_all h.1.2 (by decide), fun e => by rw [e] at h; simp at h, hl⟩
/-- A list of categories: each without blanks and newlines, each rule without newlines. -/
theorem rul_cln {good : List UInt8 → Bool} (hg : ∀ s, good s = true → Cln 10 s ∧ Cln 32 s ∧ s ≠ [] ∧ s.length ≤ 10) {l : List Plu} (h : rulB good l = true) :
    1 ≤ l.length ∧ l.length ≤ 8 ∧ ∀ p ∈ l, Cln 10 p.c ∧ Cln 32 p.c ∧ p.c ≠ [] ∧ p.c.length ≤ 10 ∧ Cln 10 p.r ∧ p.r.length ≤ 200 := by
  unfold rulB ruledB at h
  simp only [Bool.and_eq_true, decide_eq_true_eq] at h
  obtain ⟨⟨⟨h1, h2⟩, h3⟩, h4⟩ := h
  refine ⟨h1, h2, fun p hp => ?_⟩
  obtain ⟨a1, a2, a3, a4⟩ := hg p.c (List.all_eq_true.1 h4 p hp)
  refine ⟨a1, a2, a3, a4, ?_⟩
  obtain ⟨i, hi, rfl⟩ := List.mem_iff_getElem.1 hp
  obtain ⟨b1, b2⟩ := h3 i hi hi
  by_cases q : i + 1 = l.length
  · rw [b1 q]; exact ⟨Cln.nil, by simp⟩
  · have := okR_cln (b2 q)
    exact ⟨this.1, this.2.2⟩
end Go.Proofs.YtnhdmnhfllecgaaGreatDoor
