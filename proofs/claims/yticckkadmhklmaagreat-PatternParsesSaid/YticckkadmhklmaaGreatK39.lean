/- The walk of the reference's Parse. -/
import Derived.Test.YticckkadmhklmaaGreatK38
import Derived.Deep.Cut
import Derived.BigQuiet
namespace Go.Proofs.YticckkadmhklmaaGreat
set_option linter.unusedVariables false
set_option linter.unusedSimpArgs false
open Go.RowKit Go.Maps

theorem sl_str (s : List UInt8) (k : Nat) (w : World) (hk : k ≤ s.length) : (Instr.sliceAt 9 (.string ⟨s.toArray⟩) (some (.int .i64 (k : Int))) none none).run Tryz.prog w = .ok (.string ⟨(s.drop k).toArray⟩) w := by
  have h := bdrop s k
  have h1 : ¬ (s.length : Int) < (k : Int) := by omega
  go_simp
theorem yr_slice1 {P : Program} {o : Oper} {a : Act} {w : World} {t : TypeId} {x lo : Operand} {u z v : Value} (hop : o.op = .slice t x (some lo) none none) (hx : a.eval x = u) (hlo : a.eval lo = z) (hrun : (Instr.sliceAt t u (some z) none none).run P w = .ok v w) : (execOp a.eval o).run P w = .ok (.value v) w := by
  unfold execOp; simp [hop, hx, hlo, hrun, Result.andThen]
theorem PtV.frm {ao : Option Addr} {cap : Nat} {l : List Prt} {S : Nat → Prop} {w w' : World} (h : PtV ao cap l w) (hF : Frm S w w') (hS : ∀ R off, l ≠ [] → ao = some ⟨R, off, none⟩ → ¬ S R) : PtV ao cap l w' := by
  refine ⟨h.1, h.2.1, fun hl => ?_⟩
  obtain ⟨R, off, e, hR, hc⟩ := h.2.2 hl
  have hs := hS R off hl e
  exact ⟨R, off, e, hF.lt hR, fun i hi => ⟨(hF.cel hR hs _).trans (hc i hi).1, (hF.cel hR hs _).trans (hc i hi).2.1, (hF.cel hR hs _).trans (hc i hi).2.2⟩⟩
theorem rd1_vv {N : Nms} {p : Prt} {q : Option Prt} {s : List UInt8} {n : Nat} {v : List (Int × Nat)} (hp : partB p = true) (h : rd1 N p q s = some (n, v)) :
    ((p.k = 1 ∨ p.k = 14 ∨ p.k = 15) ∧ v = []) ∨ (∃ (kn x : Nat), v = [((kn : Int), x)] ∧ p.k = (kn : Int) ∧ 2 ≤ kn ∧ kn ≤ 13) := by
  have hk0 := partB_kind hp
  unfold rd1 at h
  by_cases h1 : p.k = 1
  · rw [if_pos h1] at h
    split at h
    · injection h with h; injection h with _ h
      exact .inl ⟨.inl h1, h.symm⟩
    · cases h
  · rw [if_neg h1] at h
    by_cases h2 : p.k = 14
    · rw [if_pos h2] at h
      split at h
      · injection h with h; injection h with _ h
        exact .inl ⟨.inr (.inl h2), h.symm⟩
      · cases h
    · rw [if_neg h2] at h
      by_cases h3 : p.k = 15
      · rw [if_pos h3] at h
        split at h
        · cases h
        · injection h with h; injection h with _ h
          exact .inl ⟨.inr (.inr h3), h.symm⟩
      · rw [if_neg h3] at h
        have e : p.k = ((p.k.toNat : Nat) : Int) := by omega
        by_cases h4 : 0 < fullZ p.k
        · rw [if_pos h4] at h
          split at h
          · cases h
          · injection h with h; injection h with _ h
            exact .inr ⟨p.k.toNat, _, by rw [← h, ← e], e, by omega, by omega⟩
        · rw [if_neg h4] at h
          split at h
          · injection h with h; injection h with _ h
            exact .inr ⟨p.k.toNat, _, by rw [← h, ← e], e, by omega, by omega⟩
          · cases h
theorem rdL_step {N : Nms} {l : List Prt} {j k : Nat} {vs : List (Int × Nat)} {q0 : Option Prt} {p : Prt} {S : List UInt8} {r : Nat ⊕ List (Int × Nat)} (hj : j < l.length) (hp : l[j] = p) (hq : l[j + 1]? = q0) (h : r = rdL N (l.drop j) S k vs) :
    r = match rd1 N p q0 S with | none => .inl (k + 1) | some (n, v) => rdL N (l.drop (j + 1)) (S.drop n) (k + n) (vs ++ v) := by
  rw [h, List.drop_eq_getElem_cons hj, rdL, List.head?_drop, hp, hq]
  cases rd1 N p q0 S <;> rfl
theorem yr_ext2 {P : Program} {o : Oper} {a : Act} {w : World} {x : Operand} {i : Nat} {vs : Array Value} {v : Value} (hop : o.op = .extract x i) (hx : a.eval x = .tuple vs) (hv : vs[i]? = some v) : (execOp a.eval o).run P w = .ok (.value v) w := by
  unfold execOp
  simp [hop, hx, Instr.extract, hv, Result.andThen]
/-- What the reference's read gives back: b: whether it is there; then nn bytes, the value v. -/
def RdX (b : Bool) (nn v : Nat) (x : Value) : Prop := ∃ n u : Nat, x = .tuple #[.int .i64 (n : Int), .int .i64 (u : Int), .bool b] ∧ (b = true → n = nn ∧ u = v)
def RdJ (b : Bool) (m : Nat) (x : Value) : Prop := ∃ n : Nat, x = .int .i64 (n : Int) ∧ (b = true → n = m)
set_option maxRecDepth 100000 in
set_option maxHeartbeats 20000000 in
theorem rparse_ok (l : List Prt) (N : Nms) (s : List UInt8) (ao : Option Addr) (cap : Nat) (w : World) (h : PtV ao cap l w) (hl : ∀ p ∈ l, p.t.length ≤ 4000) (hN : N.ok) (hNl : ∀ s ∈ N.all, s.length ≤ 100000)
    (hv : validB l = true) (hn : nmOk N = true) (hs : s.length ≤ 4000) :
    Calls Tryz.prog 11 #[.slice ao l.length cap, .agg (sv N.all).toArray, .string ⟨s.toArray⟩] w (PrsR (prsT N l s) w) := by
  have hI := names_size hN
  have hmi := mk_int
  have hmb := mk_bool
  have HT : Hid (prsT N l s = match rdL N l s 0 [] with
      | .inl c => (0, c, 3)
      | .inr vs => if (momP (gotK vs) (clB vs)).2 = true then ((momP (gotK vs) (clB vs)).1, 0, 0) else (0, 0, 1)) := by
    unfold Hid prsT
    rw [if_pos ⟨hv, hn⟩, if_neg (by omega)]
    cases rdL N l s 0 [] <;> rfl
  have hR : ((w.alloc (.cells (sv N.all).toArray 27)).alloc (.cells #[.int .i64 0, .int .i64 0] 40)).rangeAt w.heap.size 0 (sv N.all) := by
    intro j v hv
    rw [World.cell?_alloc_lt _ _ _ (by simp), Nat.zero_add, World.cell?_alloc_new]
    simpa using hv
  have hEW : Ext w ((w.alloc (.cells (sv N.all).toArray 27)).alloc (.cells #[.int .i64 0, .int .i64 0] 40)) := ((Ext.refl w).alloc _).alloc _
  have p0 : ((w.alloc (.cells (sv N.all).toArray 27)).alloc (.cells #[.int .i64 0, .int .i64 0] 40)).cell? ⟨w.heap.size + 1, 0, none⟩ = some (.int .i64 0) := by
    simp
  have p1 : ((w.alloc (.cells (sv N.all).toArray 27)).alloc (.cells #[.int .i64 0, .int .i64 0] 40)).cell? ⟨w.heap.size + 1, 1, none⟩ = some (.int .i64 0) := by
    simp
  have pf : ∀ o, ((w.alloc (.cells (sv N.all).toArray 27)).alloc (.cells #[.int .i64 0, .int .i64 0] 40)).frozen? ⟨w.heap.size + 1, o, none⟩ = false := fun o => by
    simp
  have hz1 : w.heap.size < ((w.alloc (.cells (sv N.all).toArray 27)).alloc (.cells #[.int .i64 0, .int .i64 0] 40)).heap.size := by simp; omega
  have hz2 : w.heap.size + 1 < ((w.alloc (.cells (sv N.all).toArray 27)).alloc (.cells #[.int .i64 0, .int .i64 0] 40)).heap.size := by simp
  have h40 : l.length ≤ 40 := by
    have := hv
    unfold validB at this
    simp only [Bool.and_eq_true, decide_eq_true_eq] at this
    exact this.1
  have HP : Hid (∀ p ∈ l, partB p = true) := by
    have := hv
    unfold validB at this
    simp only [Bool.and_eq_true, decide_eq_true_eq] at this
    exact tailB_all l none this.2
  have Hv := Lib.hid hv
  have Hn := Lib.hid hn
  have Hl := Lib.hid hl
  have HN := Lib.hid hN
  have HNl := Lib.hid hNl
  have Hpt := Lib.hid h
  clear hv hn hl hN hNl h
  go_enter Tryz.func11, Tryz.ntmps11
  go_upto_region 1 with fail
  generalize (w.alloc (.cells (sv N.all).toArray 27)).alloc (.cells #[.int .i64 0, .int .i64 0] 40) = W0 at hR hEW p0 p1 pf hz1 hz2 ⊢
  obtain ⟨P0, hP⟩ : ∃ P0, w.heap.size + 1 = P0 := ⟨_, rfl⟩
  have hPw : w.heap.size ≤ P0 := by omega
  rw [hP] at p0 p1 pf hz2 ⊢
  clear hP
  generalize hB : w.heap.size = BN at hR hz1 ⊢
  have HB := Lib.hid hB
  clear hB
  go_upto_region 6 with (first
    | (go_at_call 27; (with_reducible refine (rvalid_lit l true ao cap _ (Hpt.out.ext hEW) Hl.out Hv.out).mono ?_); rintro e w1 ⟨rfl, hE1⟩; have hR1 := rangeAt_ext hR hz1 hE1)
    | (refine wpList_load_midg (by rfl) 27 _ rfl BN 0 rfl (sv N.all) _ hR1 Tryz.underlying27 rfl hI ?_)
    | (go_at_call 28; (with_reducible refine (rvalidnames_c N true HN.out _ HNl.out Hn.out).mono ?_); rintro e w2 ⟨rfl, hE2⟩))
  have hE02 := hE1.trans hE2
  have hR2 := rangeAt_ext hR1 (hE1.lt hz1) hE2
  have q0 := (hE02.cells _ _ hz2).trans p0
  have q1 := (hE02.cells _ _ hz2).trans p1
  have qf := fun o => (hE02.frozens _ o hz2).trans (pf o)
  have hB2 := hE02.lt hz1
  have hP2 := hE02.lt hz2
  have hEw2 := hEW.trans hE02
  have Hpt2 := Lib.hid (Hpt.out.ext hEw2)
  have HVS0 := Lib.hid (VsV.init w2)
  clear hR hR1 hE1 hE2 hE02 p0 p1 pf hz1 hz2 hEW
  go_upto_region 9 with fail
  have hE5 : Ext w2 ((w2.alloc (.cells #[.int .i64 0, .int .i64 0, .int .i64 0, .int .i64 0, .int .i64 0, .int .i64 0, .int .i64 0, .int .i64 0, .int .i64 0, .int .i64 0, .int .i64 0, .int .i64 0, .int .i64 0, .int .i64 0, .int .i64 0, .int .i64 0] 3)).alloc (.cells #[.bool false, .bool false, .bool false, .bool false, .bool false, .bool false, .bool false, .bool false, .bool false, .bool false, .bool false, .bool false, .bool false, .bool false, .bool false, .bool false] 4)) := ((Ext.refl w2).alloc _).alloc _
  obtain ⟨B1, hB1⟩ : ∃ b, w2.heap.size = b := ⟨_, rfl⟩
  have hbw : w.heap.size ≤ B1 := by rw [← hB1]; exact hEw2.size
  have HptR : Hid (∀ R off, l ≠ [] → ao = some ⟨R, off, none⟩ → ¬ RdS2 (B1 + 1) B1 R) := fun R off hne e => by
    obtain ⟨R', off', e', hr, _⟩ := Hpt2.out.2.2 hne
    rw [e] at e'
    injection e' with e'
    injection e' with e'
    subst e'
    rintro (q | q) <;> omega
  rw [hB1] at HVS0 hP2 hB2 ⊢
  generalize (w2.alloc (.cells #[.int .i64 0, .int .i64 0, .int .i64 0, .int .i64 0, .int .i64 0, .int .i64 0, .int .i64 0, .int .i64 0, .int .i64 0, .int .i64 0, .int .i64 0, .int .i64 0, .int .i64 0, .int .i64 0, .int .i64 0, .int .i64 0] 3)).alloc (.cells #[.bool false, .bool false, .bool false, .bool false, .bool false, .bool false, .bool false, .bool false, .bool false, .bool false, .bool false, .bool false, .bool false, .bool false, .bool false, .bool false] 4) = W5 at HVS0 hE5 ⊢
  have d0 := (hE5.cells _ _ (by rw [hB1]; exact hP2)).trans q0
  have d1 := (hE5.cells _ _ (by rw [hB1]; exact hP2)).trans q1
  have df := fun o => (hE5.frozens P0 o (by rw [hB1]; exact hP2)).trans (qf o)
  have hP5 := hE5.lt (show P0 < w2.heap.size by rw [hB1]; exact hP2)
  have hEw5 := Lib.hid (hEw2.trans hE5)
  have hR5 := Lib.hid (rangeAt_ext hR2 (by rw [hB1]; exact hB2) hE5)
  have hBN5 := hE5.lt (show BN < w2.heap.size by rw [hB1]; exact hB2)
  have hPB : ¬ RdS2 (B1 + 1) B1 P0 := by rintro (e | e) <;> omega
  have hNB : ¬ RdS2 (B1 + 1) B1 BN := by rintro (e | e) <;> omega
  have HPt5 := Lib.hid (Hpt2.out.ext hE5)
  obtain ⟨B2, hB2'⟩ : ∃ b, B1 + 1 = b := ⟨_, rfl⟩
  have hne12 : B1 ≠ B2 := by omega
  have hfar : ∀ k, k < w.heap.size → ¬ RdS2 B2 B1 k := by intro k hk; rintro (e | e) <;> omega
  rw [hB2'] at HVS0 hPB hNB HptR ⊢
  have hcap := Hpt2.out.1
  have hcap2 := Hpt2.out.2.1
  unfold maxLen at hcap2
  clear q0 q1 qf hR2 hB2 hP2 hEw2 hE5 Hpt2 hB1 hB2' hmi hmb
  go_wp2_with fail
  go_loopw [9, 12, 13] (fun at_ cl i wr => ∃ (j k : Nat) (vs : List (Int × Nat)) (c : Bool), j ≤ l.length ∧ i = .int .i64 (j : Int) ∧ at_ = .int .i64 (k : Int) ∧ cl = .bool c ∧ k ≤ s.length ∧ Hid (rdL N l s 0 [] = rdL N (l.drop j) (s.drop k) k vs) ∧ Hid (VsV (vs.map nrm) B1 B2 wr) ∧ Hid (c = false ↔ Cons (vs.map nrm)) ∧ Hid (∀ x ∈ vs, x.2 ≤ 100000) ∧ Hid (Frm (RdS2 B2 B1) W5 wr)) (fun _ _ i _ => l.length - (intOf i).toNat)
  case atStart => exact ⟨0, 0, [], false, Nat.zero_le _, rfl, rfl, rfl, Nat.zero_le _, rfl, HVS0.out, (by rw [Hid]; simp [Cons]), (by intro x hx; cases hx), Frm.refl _ _⟩
  case round =>
    obtain ⟨j, k, vs, c, hj, rfl, rfl, rfl, hk, HI, HVs, HC, HV, HF⟩ := hrel
    have e0 := (HF.out.cel hP5 hPB 0).trans d0
    have e1 := (HF.out.cel hP5 hPB 1).trans d1
    have ef := fun o => (HF.out.frz hP5 hPB o).trans (df o)
    have hPr := HF.out.lt hP5
    have hRr : wr.rangeAt BN 0 (sv N.all) := fun i v hi => (HF.out.cel hBN5 hNB _).trans (hR5.out i v hi)
    have hBNr := HF.out.lt hBN5
    have HPr := Lib.hid (HPt5.out.frm HF.out HptR.out)
    by_cases hlt : j < l.length
    · have hp0 := HP.out l[j] (List.getElem_mem _)
      obtain ⟨q0, hq0⟩ : ∃ q, l[j + 1]? = q := ⟨_, rfl⟩
      obtain ⟨R, off, rfl, hR0, hc0⟩ := HPr.out.2.2 (by rintro rfl; simp at hlt)
      obtain ⟨c0, -, -⟩ := hc0 j hlt
      obtain ⟨p, hpp⟩ : ∃ p, l[j] = p := ⟨_, rfl⟩
      obtain ⟨S, hS⟩ : ∃ S, s.drop k = S := ⟨_, rfl⟩
      rw [hS] at HI
      have hI3 := rdL_step hlt hpp hq0 HI.out
      have hSl : S.length ≤ 100000 := by rw [← hS, List.length_drop]; omega
      have hSl2 : S.length = s.length - k := by rw [← hS, List.length_drop]
      rw [hpp] at hp0 c0
      cases e : rd1 N p q0 S with
      | none =>
        have HIn : Hid (rdL N l s 0 [] = .inl (k + 1)) := by rw [Hid, hI3, e]
        have HX : Hid (prsT N l s = (0, k + 1, 3)) := by rw [Hid, HT.out, HIn.out]
        have HRD : Hid (∀ w, PtV (some ⟨R, off, none⟩) cap l w → Calls Tryz.prog 36 #[.slice (some ⟨R, off, none⟩) l.length cap, .int .i64 (j : Int), .agg (sv N.all).toArray, .string ⟨S.toArray⟩] w fun e w' => ∃ x, e = .returned x ∧ RdX false 0 0 x ∧ Ext w w') := fun w hw => (rread_n N HN.out HNl.out l j hlt p q0 hpp hq0 hp0 (some ⟨R, off, none⟩) cap S e w hw hSl).mono fun _ _ ⟨x, h1, ⟨n, v, h2⟩, h3⟩ => ⟨x, h1, ⟨n, v, h2, fun q => by cases q⟩, h3⟩
        clear hI3 e hc0 hpp hq0
        as_aux_lemma =>
          go_upto_region 12 with fail
          refine wp_region_grow [43, 44, 45, 46, 47, 48, 49, 42, 50, 51, 52, 14, 15, 16] [fun x _ => x = .slice (some ⟨R, off, none⟩) l.length cap, fun x _ => x = .int .i64 (j : Int), fun x _ => x = .agg (sv N.all).toArray, fun x _ => x = .string ⟨s.toArray⟩, fun x _ => x = .int .i64 (k : Int), fun x _ => x = .string ⟨S.toArray⟩, fun x _ => RdX false 0 0 x, fun x _ => RdX false 0 0 x, fun x _ => RdJ false 0 x, fun x _ => RdJ false 0 x, fun x _ => x = .bool false, fun x _ => RdJ false 0 x, fun x _ => RdJ false 0 x, fun x _ => x = .bool false] 0 (by kernel_rfl) (by kernel_rfl) (by kernel_rfl) (by kernel_rfl) ?_ ?_ ?_
          · intro R hR
            simp only [List.mem_cons, List.not_mem_nil, or_false] at hR
            rcases hR with rfl | rfl | rfl | rfl | rfl | rfl | rfl | rfl | rfl | rfl | rfl | rfl | rfl | rfl
            all_goals exact fun _ _ _ h _ => h
          · refine ⟨?_, ?_, ?_, ?_, ?_, ?_, ?_, ?_, ?_, ?_, ?_, ?_, ?_, ?_, trivial⟩
            all_goals intro A w hE hF hD K hK
            · exact gs_val rfl (yr_move rfl ((hF 0 (fr_of rfl)).trans rfl)) (hK _ _ rfl (Ext.refl _))
            · exact gs_val rfl (yr_move rfl ((hF 13 (fr_of rfl)).trans rfl)) (hK _ _ rfl (Ext.refl _))
            · exact gs_val rfl (yr_load rfl ((hF 4 (fr_of rfl)).trans rfl) (run_loadAt_mid w BN 0 _ _ _ (rangeAt_ext hRr hBNr hE) Tryz.underlying27 rfl hI)) (hK _ _ rfl (Ext.refl _))
            · exact gs_val rfl (yr_move rfl ((hF 2 (fr_of rfl)).trans rfl)) (hK _ _ rfl (Ext.refl _))
            · exact gs_val rfl (yr_move rfl ((hF 9 (fr_of rfl)).trans rfl)) (hK _ _ rfl (Ext.refl _))
            · have h1 : A.eval (.tmp 46) = .string ⟨s.toArray⟩ := hD 3 (by kernel_rfl)
              have h2 : A.eval (.tmp 47) = .int .i64 (k : Int) := hD 4 (by kernel_rfl)
              exact gs_val rfl (yr_slice1 rfl h1 h2 (sl_str s k w hk)) (hK _ _ (by rw [hS]; rfl) (Ext.refl _))
            · have h1 : A.eval (.tmp 43) = .slice (some ⟨R, off, none⟩) l.length cap := hD 0 (by kernel_rfl)
              have h2 : A.eval (.tmp 44) = .int .i64 (j : Int) := hD 1 (by kernel_rfl)
              have h3 : A.eval (.tmp 45) = .agg (sv N.all).toArray := hD 2 (by kernel_rfl)
              have h4 : A.eval (.tmp 48) = .string ⟨S.toArray⟩ := hD 5 (by kernel_rfl)
              refine gs_call (R := fun x _ => RdX false 0 0 x) rfl (yr_call rfl rfl (show (#[Operand.tmp 43, Operand.tmp 44, Operand.tmp 45, Operand.tmp 48] : Array Operand).map A.eval = #[.slice (some ⟨R, off, none⟩) l.length cap, .int .i64 (j : Int), .agg (sv N.all).toArray, .string ⟨S.toArray⟩] by simp [h1, h2, h3, h4]) (by kernel_rfl)) ?_ hK
              exact HRD.out w (HPr.out.ext hE)
            · obtain ⟨n9, u9, h1, h2⟩ : RdX false 0 0 (A.eval (.tmp 49)) := hD 6 (by kernel_rfl)
              exact gs_val rfl (yr_move rfl h1) (hK _ _ ⟨n9, u9, rfl, h2⟩ (Ext.refl _))
            · obtain ⟨n9, u9, h1, h2⟩ : RdX false 0 0 (A.eval (.tmp 42)) := hD 7 (by kernel_rfl)
              exact gs_val rfl (yr_ext2 rfl h1 rfl) (hK _ _ ⟨n9, rfl, fun q => (h2 q).1⟩ (Ext.refl _))
            · obtain ⟨n9, u9, h1, h2⟩ : RdX false 0 0 (A.eval (.tmp 42)) := hD 7 (by kernel_rfl)
              exact gs_val rfl (yr_ext2 rfl h1 rfl) (hK _ _ ⟨u9, rfl, fun q => (h2 q).2⟩ (Ext.refl _))
            · obtain ⟨n9, u9, h1, h2⟩ : RdX false 0 0 (A.eval (.tmp 42)) := hD 7 (by kernel_rfl)
              exact gs_val rfl (yr_ext2 rfl h1 rfl) (hK _ _ rfl (Ext.refl _))
            · obtain ⟨n9, h1, h2⟩ : RdJ false 0 (A.eval (.tmp 50)) := hD 8 (by kernel_rfl)
              exact gs_val rfl (yr_assign rfl h1) (hK _ _ ⟨n9, rfl, h2⟩ (Ext.refl _))
            · obtain ⟨n9, h1, h2⟩ : RdJ false 0 (A.eval (.tmp 51)) := hD 9 (by kernel_rfl)
              exact gs_val rfl (yr_assign rfl h1) (hK _ _ ⟨n9, rfl, h2⟩ (Ext.refl _))
            · have h1 : A.eval (.tmp 52) = .bool false := hD 10 (by kernel_rfl)
              exact gs_val rfl (yr_assign rfl h1) (hK _ _ rfl (Ext.refl _))
          intro vals w6 hE6 hR
          obtain ⟨h0, h1, h2, h3, h4, h5, h6, h7, h8, h9, h10, h11, h12, h13, -⟩ := hR
          obtain ⟨n9, e11, f11⟩ : RdJ false 0 (vals 11) := h11
          obtain ⟨u9, e12, f12⟩ : RdJ false 0 (vals 12) := h12
          have e13 : vals 13 = .bool false := h13
          clear h0 h1 h2 h3 h4 h5 h6 h7 h8 h9 h10 h13
          refine wpAny_done (by kernel_rfl) ?_ _
          simp only [putF, Act.put, List.length_cons, List.length_nil, List.getD_cons_zero, List.getD_cons_succ, List.setIfInBounds_toArray, List.set_cons_zero, List.set_cons_succ, Nat.reduceAdd, e11, e12, e13]
          have e09 := (hE6.cells P0 0 hPr).trans e0
          have e19 := (hE6.cells P0 1 hPr).trans e1
          have ef9 := fun o => (hE6.frozens P0 o hPr).trans (ef o)
          have hP9 := hE6.lt hPr
          have hEr9 := Lib.hid ((HF.out.far hEw5.out hfar).trans hE6)
          go_wp2_with fail
          refine bodyPost_ret (v := .tuple #[.int .i64 0, .agg #[.int .i64 1, .int .i64 ((k : Int) + 1)], .int .i64 3]) ?_ rfl ⟨?_, ?_⟩
          · simp [results, Tryz.results11, go_sem, e09, e19, hP9]
          · rw [HX.out]; simp [posV]
          · (repeat (with_reducible (first | exact hEr9.out | refine Ext.setCell ?_ hPw _ | refine Ext.alloc ?_ _ | refine Ext.drewN ?_ _ | refine Ext.drew ?_)))
      | some nv =>
        obtain ⟨nn, vv⟩ := nv
        obtain ⟨bd1, bd2, bd3⟩ := rd1_bd HN.out hp0 e
        have hIn0 : rdL N l s 0 [] = rdL N (l.drop (j + 1)) (s.drop (k + nn)) (k + nn) (vs ++ vv) := by
          rw [hI3, e, ← hS]
          show rdL N (l.drop (j + 1)) ((s.drop k).drop nn) (k + nn) (vs ++ vv) = _
          rw [List.drop_drop]
        have HIn := Lib.hid hIn0
        obtain ⟨v, hv⟩ : ∃ v, v = ((vv.head?).map (·.2)).getD 0 := ⟨_, rfl⟩
        have HRD : Hid (∀ w, PtV (some ⟨R, off, none⟩) cap l w → Calls Tryz.prog 36 #[.slice (some ⟨R, off, none⟩) l.length cap, .int .i64 (j : Int), .agg (sv N.all).toArray, .string ⟨S.toArray⟩] w fun e w' => ∃ x, e = .returned x ∧ RdX true nn v x ∧ Ext w w') := fun w hw => (rread_y N HN.out HNl.out l j hlt p q0 hpp hq0 hp0 (some ⟨R, off, none⟩) cap S nn v vv e hv w hw hSl).mono fun _ _ ⟨x, h1, h2, h3⟩ => ⟨x, h1, ⟨nn, v, h2, fun _ => ⟨rfl, rfl⟩⟩, h3⟩
        have hcls := rd1_vv hp0 e
        have Hbd : Hid (∀ x ∈ vs ++ vv, x.2 ≤ 100000) := fun x hx => by
          rcases List.mem_append.1 hx with q | q
          · exact HV.out x q
          · exact bd3 x q
        have Hbd3 := Lib.hid bd3
        obtain ⟨pk, pw, pt⟩ := p
        simp only at hcls c0
        clear hI3 e hc0 hpp hq0 hIn0 bd3 hp0
        rcases hcls with ⟨hk3, rfl⟩ | ⟨kn, vx, rfl, rfl, hkn2, hkn13⟩
        · clear hv
          as_aux_lemma =>
            go_upto_region 12 with fail
            refine wp_region_grow [43, 44, 45, 46, 47, 48, 49, 42, 50, 51, 52, 14, 15, 16] [fun x _ => x = .slice (some ⟨R, off, none⟩) l.length cap, fun x _ => x = .int .i64 (j : Int), fun x _ => x = .agg (sv N.all).toArray, fun x _ => x = .string ⟨s.toArray⟩, fun x _ => x = .int .i64 (k : Int), fun x _ => x = .string ⟨S.toArray⟩, fun x _ => RdX true nn v x, fun x _ => RdX true nn v x, fun x _ => RdJ true nn x, fun x _ => RdJ true v x, fun x _ => x = .bool true, fun x _ => RdJ true nn x, fun x _ => RdJ true v x, fun x _ => x = .bool true] 0 (by kernel_rfl) (by kernel_rfl) (by kernel_rfl) (by kernel_rfl) ?_ ?_ ?_
            · intro R hR
              simp only [List.mem_cons, List.not_mem_nil, or_false] at hR
              rcases hR with rfl | rfl | rfl | rfl | rfl | rfl | rfl | rfl | rfl | rfl | rfl | rfl | rfl | rfl
              all_goals exact fun _ _ _ h _ => h
            · refine ⟨?_, ?_, ?_, ?_, ?_, ?_, ?_, ?_, ?_, ?_, ?_, ?_, ?_, ?_, trivial⟩
              all_goals intro A w hE hF hD K hK
              · exact gs_val rfl (yr_move rfl ((hF 0 (fr_of rfl)).trans rfl)) (hK _ _ rfl (Ext.refl _))
              · exact gs_val rfl (yr_move rfl ((hF 13 (fr_of rfl)).trans rfl)) (hK _ _ rfl (Ext.refl _))
              · exact gs_val rfl (yr_load rfl ((hF 4 (fr_of rfl)).trans rfl) (run_loadAt_mid w BN 0 _ _ _ (rangeAt_ext hRr hBNr hE) Tryz.underlying27 rfl hI)) (hK _ _ rfl (Ext.refl _))
              · exact gs_val rfl (yr_move rfl ((hF 2 (fr_of rfl)).trans rfl)) (hK _ _ rfl (Ext.refl _))
              · exact gs_val rfl (yr_move rfl ((hF 9 (fr_of rfl)).trans rfl)) (hK _ _ rfl (Ext.refl _))
              · have h1 : A.eval (.tmp 46) = .string ⟨s.toArray⟩ := hD 3 (by kernel_rfl)
                have h2 : A.eval (.tmp 47) = .int .i64 (k : Int) := hD 4 (by kernel_rfl)
                exact gs_val rfl (yr_slice1 rfl h1 h2 (sl_str s k w hk)) (hK _ _ (by rw [hS]; rfl) (Ext.refl _))
              · have h1 : A.eval (.tmp 43) = .slice (some ⟨R, off, none⟩) l.length cap := hD 0 (by kernel_rfl)
                have h2 : A.eval (.tmp 44) = .int .i64 (j : Int) := hD 1 (by kernel_rfl)
                have h3 : A.eval (.tmp 45) = .agg (sv N.all).toArray := hD 2 (by kernel_rfl)
                have h4 : A.eval (.tmp 48) = .string ⟨S.toArray⟩ := hD 5 (by kernel_rfl)
                refine gs_call (R := fun x _ => RdX true nn v x) rfl (yr_call rfl rfl (show (#[Operand.tmp 43, Operand.tmp 44, Operand.tmp 45, Operand.tmp 48] : Array Operand).map A.eval = #[.slice (some ⟨R, off, none⟩) l.length cap, .int .i64 (j : Int), .agg (sv N.all).toArray, .string ⟨S.toArray⟩] by simp [h1, h2, h3, h4]) (by kernel_rfl)) ?_ hK
                exact HRD.out w (HPr.out.ext hE)
              · obtain ⟨n9, u9, h1, h2⟩ : RdX true nn v (A.eval (.tmp 49)) := hD 6 (by kernel_rfl)
                exact gs_val rfl (yr_move rfl h1) (hK _ _ ⟨n9, u9, rfl, h2⟩ (Ext.refl _))
              · obtain ⟨n9, u9, h1, h2⟩ : RdX true nn v (A.eval (.tmp 42)) := hD 7 (by kernel_rfl)
                exact gs_val rfl (yr_ext2 rfl h1 rfl) (hK _ _ ⟨n9, rfl, fun q => (h2 q).1⟩ (Ext.refl _))
              · obtain ⟨n9, u9, h1, h2⟩ : RdX true nn v (A.eval (.tmp 42)) := hD 7 (by kernel_rfl)
                exact gs_val rfl (yr_ext2 rfl h1 rfl) (hK _ _ ⟨u9, rfl, fun q => (h2 q).2⟩ (Ext.refl _))
              · obtain ⟨n9, u9, h1, h2⟩ : RdX true nn v (A.eval (.tmp 42)) := hD 7 (by kernel_rfl)
                exact gs_val rfl (yr_ext2 rfl h1 rfl) (hK _ _ rfl (Ext.refl _))
              · obtain ⟨n9, h1, h2⟩ : RdJ true nn (A.eval (.tmp 50)) := hD 8 (by kernel_rfl)
                exact gs_val rfl (yr_assign rfl h1) (hK _ _ ⟨n9, rfl, h2⟩ (Ext.refl _))
              · obtain ⟨n9, h1, h2⟩ : RdJ true v (A.eval (.tmp 51)) := hD 9 (by kernel_rfl)
                exact gs_val rfl (yr_assign rfl h1) (hK _ _ ⟨n9, rfl, h2⟩ (Ext.refl _))
              · have h1 : A.eval (.tmp 52) = .bool true := hD 10 (by kernel_rfl)
                exact gs_val rfl (yr_assign rfl h1) (hK _ _ rfl (Ext.refl _))
            intro vals w6 hE6 hR
            obtain ⟨h0, h1, h2, h3, h4, h5, h6, h7, h8, h9, h10, h11, h12, h13, -⟩ := hR
            obtain ⟨n9, e11, f11⟩ : RdJ true nn (vals 11) := h11
            obtain ⟨u9, e12, f12⟩ : RdJ true v (vals 12) := h12
            have e13 : vals 13 = .bool true := h13
            clear h0 h1 h2 h3 h4 h5 h6 h7 h8 h9 h10 h13
            refine wpAny_done (by kernel_rfl) ?_ _
            simp only [putF, Act.put, List.length_cons, List.length_nil, List.getD_cons_zero, List.getD_cons_succ, List.setIfInBounds_toArray, List.set_cons_zero, List.set_cons_succ, Nat.reduceAdd, e11, e12, e13]
            have e09 := (hE6.cells P0 0 hPr).trans e0
            have e19 := (hE6.cells P0 1 hPr).trans e1
            have ef9 := fun o => (hE6.frozens P0 o hPr).trans (ef o)
            have hP9 := hE6.lt hPr
            have hEr9 := Lib.hid ((HF.out.far hEw5.out hfar).trans hE6)
            obtain rfl : nn = n9 := (f11 rfl).symm
            have c9 := (hE6.cells R _ hR0).trans c0
            clear f11 f12
            rcases hk3 with rfl | rfl | rfl
            · as_aux_lemma =>
                go_wp2_with fail
                go_roundw
                case rel => exact ⟨j + 1, k + nn, vs ++ [], c, by omega, by go_num, by go_num, rfl, by omega, HIn.out, by rw [Hid, List.append_nil]; exact HVs.out.ext hE6, by rw [Hid, List.append_nil]; exact HC.out, Hbd.out, HF.out.trans (Frm.of_ext hE6)⟩
                case measure => simp [intOf]; omega
            · as_aux_lemma =>
                go_wp2_with fail
                go_roundw
                case rel => exact ⟨j + 1, k + nn, vs ++ [], c, by omega, by go_num, by go_num, rfl, by omega, HIn.out, by rw [Hid, List.append_nil]; exact HVs.out.ext hE6, by rw [Hid, List.append_nil]; exact HC.out, Hbd.out, HF.out.trans (Frm.of_ext hE6)⟩
                case measure => simp [intOf]; omega
            · as_aux_lemma =>
                go_wp2_with fail
                go_roundw
                case rel => exact ⟨j + 1, k + nn, vs ++ [], c, by omega, by go_num, by go_num, rfl, by omega, HIn.out, by rw [Hid, List.append_nil]; exact HVs.out.ext hE6, by rw [Hid, List.append_nil]; exact HC.out, Hbd.out, HF.out.trans (Frm.of_ext hE6)⟩
                case measure => simp [intOf]; omega
        · obtain rfl : vx = v := hv.symm
          have hx5 : vx ≤ 100000 := Hbd3.out ((kn : Int), vx) (by simp)
          as_aux_lemma =>
            go_upto_region 12 with fail
            refine wp_region_grow [43, 44, 45, 46, 47, 48, 49, 42, 50, 51, 52, 14, 15, 16] [fun x _ => x = .slice (some ⟨R, off, none⟩) l.length cap, fun x _ => x = .int .i64 (j : Int), fun x _ => x = .agg (sv N.all).toArray, fun x _ => x = .string ⟨s.toArray⟩, fun x _ => x = .int .i64 (k : Int), fun x _ => x = .string ⟨S.toArray⟩, fun x _ => RdX true nn vx x, fun x _ => RdX true nn vx x, fun x _ => RdJ true nn x, fun x _ => RdJ true vx x, fun x _ => x = .bool true, fun x _ => RdJ true nn x, fun x _ => RdJ true vx x, fun x _ => x = .bool true] 0 (by kernel_rfl) (by kernel_rfl) (by kernel_rfl) (by kernel_rfl) ?_ ?_ ?_
            · intro R hR
              simp only [List.mem_cons, List.not_mem_nil, or_false] at hR
              rcases hR with rfl | rfl | rfl | rfl | rfl | rfl | rfl | rfl | rfl | rfl | rfl | rfl | rfl | rfl
              all_goals exact fun _ _ _ h _ => h
            · refine ⟨?_, ?_, ?_, ?_, ?_, ?_, ?_, ?_, ?_, ?_, ?_, ?_, ?_, ?_, trivial⟩
              all_goals intro A w hE hF hD K hK
              · exact gs_val rfl (yr_move rfl ((hF 0 (fr_of rfl)).trans rfl)) (hK _ _ rfl (Ext.refl _))
              · exact gs_val rfl (yr_move rfl ((hF 13 (fr_of rfl)).trans rfl)) (hK _ _ rfl (Ext.refl _))
              · exact gs_val rfl (yr_load rfl ((hF 4 (fr_of rfl)).trans rfl) (run_loadAt_mid w BN 0 _ _ _ (rangeAt_ext hRr hBNr hE) Tryz.underlying27 rfl hI)) (hK _ _ rfl (Ext.refl _))
              · exact gs_val rfl (yr_move rfl ((hF 2 (fr_of rfl)).trans rfl)) (hK _ _ rfl (Ext.refl _))
              · exact gs_val rfl (yr_move rfl ((hF 9 (fr_of rfl)).trans rfl)) (hK _ _ rfl (Ext.refl _))
              · have h1 : A.eval (.tmp 46) = .string ⟨s.toArray⟩ := hD 3 (by kernel_rfl)
                have h2 : A.eval (.tmp 47) = .int .i64 (k : Int) := hD 4 (by kernel_rfl)
                exact gs_val rfl (yr_slice1 rfl h1 h2 (sl_str s k w hk)) (hK _ _ (by rw [hS]; rfl) (Ext.refl _))
              · have h1 : A.eval (.tmp 43) = .slice (some ⟨R, off, none⟩) l.length cap := hD 0 (by kernel_rfl)
                have h2 : A.eval (.tmp 44) = .int .i64 (j : Int) := hD 1 (by kernel_rfl)
                have h3 : A.eval (.tmp 45) = .agg (sv N.all).toArray := hD 2 (by kernel_rfl)
                have h4 : A.eval (.tmp 48) = .string ⟨S.toArray⟩ := hD 5 (by kernel_rfl)
                refine gs_call (R := fun x _ => RdX true nn vx x) rfl (yr_call rfl rfl (show (#[Operand.tmp 43, Operand.tmp 44, Operand.tmp 45, Operand.tmp 48] : Array Operand).map A.eval = #[.slice (some ⟨R, off, none⟩) l.length cap, .int .i64 (j : Int), .agg (sv N.all).toArray, .string ⟨S.toArray⟩] by simp [h1, h2, h3, h4]) (by kernel_rfl)) ?_ hK
                exact HRD.out w (HPr.out.ext hE)
              · obtain ⟨n9, u9, h1, h2⟩ : RdX true nn vx (A.eval (.tmp 49)) := hD 6 (by kernel_rfl)
                exact gs_val rfl (yr_move rfl h1) (hK _ _ ⟨n9, u9, rfl, h2⟩ (Ext.refl _))
              · obtain ⟨n9, u9, h1, h2⟩ : RdX true nn vx (A.eval (.tmp 42)) := hD 7 (by kernel_rfl)
                exact gs_val rfl (yr_ext2 rfl h1 rfl) (hK _ _ ⟨n9, rfl, fun q => (h2 q).1⟩ (Ext.refl _))
              · obtain ⟨n9, u9, h1, h2⟩ : RdX true nn vx (A.eval (.tmp 42)) := hD 7 (by kernel_rfl)
                exact gs_val rfl (yr_ext2 rfl h1 rfl) (hK _ _ ⟨u9, rfl, fun q => (h2 q).2⟩ (Ext.refl _))
              · obtain ⟨n9, u9, h1, h2⟩ : RdX true nn vx (A.eval (.tmp 42)) := hD 7 (by kernel_rfl)
                exact gs_val rfl (yr_ext2 rfl h1 rfl) (hK _ _ rfl (Ext.refl _))
              · obtain ⟨n9, h1, h2⟩ : RdJ true nn (A.eval (.tmp 50)) := hD 8 (by kernel_rfl)
                exact gs_val rfl (yr_assign rfl h1) (hK _ _ ⟨n9, rfl, h2⟩ (Ext.refl _))
              · obtain ⟨n9, h1, h2⟩ : RdJ true vx (A.eval (.tmp 51)) := hD 9 (by kernel_rfl)
                exact gs_val rfl (yr_assign rfl h1) (hK _ _ ⟨n9, rfl, h2⟩ (Ext.refl _))
              · have h1 : A.eval (.tmp 52) = .bool true := hD 10 (by kernel_rfl)
                exact gs_val rfl (yr_assign rfl h1) (hK _ _ rfl (Ext.refl _))
            intro vals w6 hE6 hR
            obtain ⟨h0, h1, h2, h3, h4, h5, h6, h7, h8, h9, h10, h11, h12, h13, -⟩ := hR
            obtain ⟨n9, e11, f11⟩ : RdJ true nn (vals 11) := h11
            obtain ⟨u9, e12, f12⟩ : RdJ true vx (vals 12) := h12
            have e13 : vals 13 = .bool true := h13
            clear h0 h1 h2 h3 h4 h5 h6 h7 h8 h9 h10 h13
            refine wpAny_done (by kernel_rfl) ?_ _
            simp only [putF, Act.put, List.length_cons, List.length_nil, List.getD_cons_zero, List.getD_cons_succ, List.setIfInBounds_toArray, List.set_cons_zero, List.set_cons_succ, Nat.reduceAdd, e11, e12, e13]
            have e09 := (hE6.cells P0 0 hPr).trans e0
            have e19 := (hE6.cells P0 1 hPr).trans e1
            have ef9 := fun o => (hE6.frozens P0 o hPr).trans (ef o)
            have hP9 := hE6.lt hPr
            have hEr9 := Lib.hid ((HF.out.far hEw5.out hfar).trans hE6)
            obtain rfl : nn = n9 := (f11 rfl).symm
            obtain rfl : vx = u9 := (f12 rfl).symm
            have c9 := (hE6.cells R _ hR0).trans c0
            clear f11 f12 hv
            by_cases k4 : kn = 4
            · subst k4
              obtain ⟨V, hV⟩ : ∃ V, V = vx + 1 := ⟨_, rfl⟩
              have hVi : (vx : Int) + 1 = (V : Int) := by omega
              have HNR : Hid ([(((4 : Nat) : Int), vx)].map nrm = [(((3 : Nat) : Int), V)]) := by rw [hV]; rfl
              clear hV
              go_upto_region 23 with fail
              have hVS6 := HVs.out.ext hE6
              have hv1 := hVS6.v 3 (by omega)
              have hs1 := hVS6.s 3 (by omega)
              have hf1 := hVS6.f1
              have hf2 := hVS6.f2
              have hlt1 := hVS6.lt1
              have hlt2 := hVS6.lt2
              have HCN := Lib.hid (clash_snoc HC.out ((3 : Nat) : Int) V)
              have HPUT := Lib.hid (hVS6.put hne12 3 V (by omega))
              have HMAP : Hid ((vs ++ [(((4 : Nat) : Int), vx)]).map nrm = vs.map nrm ++ [(((3 : Nat) : Int), V)]) := by
                rw [Hid, List.map_append, HNR.out]
              have HFF := Lib.hid (((HF.out.trans (Frm.of_ext hE6)).setCell (p := ⟨B2, 3, none⟩) (.inl (.inl rfl)) (.bool true)).setCell (p := ⟨B1, 3, none⟩) (.inl (.inr rfl)) (.int .i64 ((V : Nat) : Int)))
              obtain ⟨g, hg⟩ : ∃ g, gotK (vs.map nrm) ((3 : Nat) : Int) = g := ⟨_, rfl⟩
              rw [hg] at hv1 hs1 HCN
              clear hg hVS6
              cases c with
              | true =>
                have HCN2 : Hid (true = false ↔ Cons (vs.map nrm ++ [(((3 : Nat) : Int), V)])) := by
                  rw [Hid, ← HCN.out]; simp
                clear HCN
                have HCN := HCN2
                clear HCN2
                as_aux_lemma =>
                  go_wp2_with fail
                  go_roundw
                  case rel => exact ⟨j + 1, k + nn, vs ++ [(((4 : Nat) : Int), vx)], true, by omega, by go_num, by go_num, rfl, by omega, HIn.out, by rw [Hid, HMAP.out]; exact HPUT.out, by rw [Hid, HMAP.out]; exact HCN.out, Hbd.out, HFF.out⟩
                  case measure => simp [intOf]; omega
              | false =>
                cases g with
                | none =>
                  have HCN2 : Hid (false = false ↔ Cons (vs.map nrm ++ [(((3 : Nat) : Int), V)])) := by
                    rw [Hid, ← HCN.out]; simp
                  clear HCN
                  have HCN := HCN2
                  clear HCN2
                  simp only [Option.getD_none, Option.isSome_none] at hv1 hs1
                  as_aux_lemma =>
                    go_wp2_with fail
                    go_roundw
                    case rel => exact ⟨j + 1, k + nn, vs ++ [(((4 : Nat) : Int), vx)], false, by omega, by go_num, by go_num, rfl, by omega, HIn.out, by rw [Hid, HMAP.out]; exact HPUT.out, by rw [Hid, HMAP.out]; exact HCN.out, Hbd.out, HFF.out⟩
                    case measure => simp [intOf]; omega
                | some y =>
                  by_cases hy : y = V
                  · have hyb : ((y : Int) != ((V : Nat) : Int)) = false := by simp [hy]
                    have HCN2 : Hid (false = false ↔ Cons (vs.map nrm ++ [(((3 : Nat) : Int), V)])) := by
                      have := HCN.out
                      rw [hy] at this
                      rw [Hid, ← this]; simp
                    clear HCN
                    have HCN := HCN2
                    clear HCN2 hy
                    simp only [Option.getD_some, Option.isSome_some] at hv1 hs1
                    as_aux_lemma =>
                      go_wp2_with fail
                      go_roundw
                      case rel => exact ⟨j + 1, k + nn, vs ++ [(((4 : Nat) : Int), vx)], false, by omega, by go_num, by go_num, rfl, by omega, HIn.out, by rw [Hid, HMAP.out]; exact HPUT.out, by rw [Hid, HMAP.out]; exact HCN.out, Hbd.out, HFF.out⟩
                      case measure => simp [intOf]; omega
                  · have hyb : ((y : Int) != ((V : Nat) : Int)) = true := by rw [bne_iff_ne]; omega
                    have HCN2 : Hid (true = false ↔ Cons (vs.map nrm ++ [(((3 : Nat) : Int), V)])) := by
                      have := HCN.out
                      rw [Hid, ← this]; simp [hy]
                    clear HCN
                    have HCN := HCN2
                    clear HCN2 hy
                    simp only [Option.getD_some, Option.isSome_some] at hv1 hs1
                    as_aux_lemma =>
                      go_wp2_with fail
                      go_roundw
                      case rel => exact ⟨j + 1, k + nn, vs ++ [(((4 : Nat) : Int), vx)], true, by omega, by go_num, by go_num, rfl, by omega, HIn.out, by rw [Hid, HMAP.out]; exact HPUT.out, by rw [Hid, HMAP.out]; exact HCN.out, Hbd.out, HFF.out⟩
                      case measure => simp [intOf]; omega
            · by_cases k5 : kn = 5
              · subst k5
                obtain ⟨V, hV⟩ : ∃ V, V = vx + 1 := ⟨_, rfl⟩
                have hVi : (vx : Int) + 1 = (V : Int) := by omega
                have HNR : Hid ([(((5 : Nat) : Int), vx)].map nrm = [(((3 : Nat) : Int), V)]) := by rw [hV]; rfl
                clear hV k4
                go_upto_region 23 with fail
                have hVS6 := HVs.out.ext hE6
                have hv1 := hVS6.v 3 (by omega)
                have hs1 := hVS6.s 3 (by omega)
                have hf1 := hVS6.f1
                have hf2 := hVS6.f2
                have hlt1 := hVS6.lt1
                have hlt2 := hVS6.lt2
                have HCN := Lib.hid (clash_snoc HC.out ((3 : Nat) : Int) V)
                have HPUT := Lib.hid (hVS6.put hne12 3 V (by omega))
                have HMAP : Hid ((vs ++ [(((5 : Nat) : Int), vx)]).map nrm = vs.map nrm ++ [(((3 : Nat) : Int), V)]) := by
                  rw [Hid, List.map_append, HNR.out]
                have HFF := Lib.hid (((HF.out.trans (Frm.of_ext hE6)).setCell (p := ⟨B2, 3, none⟩) (.inl (.inl rfl)) (.bool true)).setCell (p := ⟨B1, 3, none⟩) (.inl (.inr rfl)) (.int .i64 ((V : Nat) : Int)))
                obtain ⟨g, hg⟩ : ∃ g, gotK (vs.map nrm) ((3 : Nat) : Int) = g := ⟨_, rfl⟩
                rw [hg] at hv1 hs1 HCN
                clear hg hVS6
                cases c with
                | true =>
                  have HCN2 : Hid (true = false ↔ Cons (vs.map nrm ++ [(((3 : Nat) : Int), V)])) := by
                    rw [Hid, ← HCN.out]; simp
                  clear HCN
                  have HCN := HCN2
                  clear HCN2
                  as_aux_lemma =>
                    go_wp2_with fail
                    go_roundw
                    case rel => exact ⟨j + 1, k + nn, vs ++ [(((5 : Nat) : Int), vx)], true, by omega, by go_num, by go_num, rfl, by omega, HIn.out, by rw [Hid, HMAP.out]; exact HPUT.out, by rw [Hid, HMAP.out]; exact HCN.out, Hbd.out, HFF.out⟩
                    case measure => simp [intOf]; omega
                | false =>
                  cases g with
                  | none =>
                    have HCN2 : Hid (false = false ↔ Cons (vs.map nrm ++ [(((3 : Nat) : Int), V)])) := by
                      rw [Hid, ← HCN.out]; simp
                    clear HCN
                    have HCN := HCN2
                    clear HCN2
                    simp only [Option.getD_none, Option.isSome_none] at hv1 hs1
                    as_aux_lemma =>
                      go_wp2_with fail
                      go_roundw
                      case rel => exact ⟨j + 1, k + nn, vs ++ [(((5 : Nat) : Int), vx)], false, by omega, by go_num, by go_num, rfl, by omega, HIn.out, by rw [Hid, HMAP.out]; exact HPUT.out, by rw [Hid, HMAP.out]; exact HCN.out, Hbd.out, HFF.out⟩
                      case measure => simp [intOf]; omega
                  | some y =>
                    by_cases hy : y = V
                    · have hyb : ((y : Int) != ((V : Nat) : Int)) = false := by simp [hy]
                      have HCN2 : Hid (false = false ↔ Cons (vs.map nrm ++ [(((3 : Nat) : Int), V)])) := by
                        have := HCN.out
                        rw [hy] at this
                        rw [Hid, ← this]; simp
                      clear HCN
                      have HCN := HCN2
                      clear HCN2 hy
                      simp only [Option.getD_some, Option.isSome_some] at hv1 hs1
                      as_aux_lemma =>
                        go_wp2_with fail
                        go_roundw
                        case rel => exact ⟨j + 1, k + nn, vs ++ [(((5 : Nat) : Int), vx)], false, by omega, by go_num, by go_num, rfl, by omega, HIn.out, by rw [Hid, HMAP.out]; exact HPUT.out, by rw [Hid, HMAP.out]; exact HCN.out, Hbd.out, HFF.out⟩
                        case measure => simp [intOf]; omega
                    · have hyb : ((y : Int) != ((V : Nat) : Int)) = true := by rw [bne_iff_ne]; omega
                      have HCN2 : Hid (true = false ↔ Cons (vs.map nrm ++ [(((3 : Nat) : Int), V)])) := by
                        have := HCN.out
                        rw [Hid, ← this]; simp [hy]
                      clear HCN
                      have HCN := HCN2
                      clear HCN2 hy
                      simp only [Option.getD_some, Option.isSome_some] at hv1 hs1
                      as_aux_lemma =>
                        go_wp2_with fail
                        go_roundw
                        case rel => exact ⟨j + 1, k + nn, vs ++ [(((5 : Nat) : Int), vx)], true, by omega, by go_num, by go_num, rfl, by omega, HIn.out, by rw [Hid, HMAP.out]; exact HPUT.out, by rw [Hid, HMAP.out]; exact HCN.out, Hbd.out, HFF.out⟩
                        case measure => simp [intOf]; omega
              · by_cases k8 : kn = 8
                · subst k8
                  have HNR : Hid ([(((8 : Nat) : Int), vx)].map nrm = [(((7 : Nat) : Int), vx)]) := rfl
                  clear k4 k5
                  go_upto_region 23 with fail
                  have hVS6 := HVs.out.ext hE6
                  have hv1 := hVS6.v 7 (by omega)
                  have hs1 := hVS6.s 7 (by omega)
                  have hf1 := hVS6.f1
                  have hf2 := hVS6.f2
                  have hlt1 := hVS6.lt1
                  have hlt2 := hVS6.lt2
                  have HCN := Lib.hid (clash_snoc HC.out ((7 : Nat) : Int) vx)
                  have HPUT := Lib.hid (hVS6.put hne12 7 vx (by omega))
                  have HMAP : Hid ((vs ++ [(((8 : Nat) : Int), vx)]).map nrm = vs.map nrm ++ [(((7 : Nat) : Int), vx)]) := by
                    rw [Hid, List.map_append, HNR.out]
                  have HFF := Lib.hid (((HF.out.trans (Frm.of_ext hE6)).setCell (p := ⟨B2, 7, none⟩) (.inl (.inl rfl)) (.bool true)).setCell (p := ⟨B1, 7, none⟩) (.inl (.inr rfl)) (.int .i64 ((vx : Nat) : Int)))
                  obtain ⟨g, hg⟩ : ∃ g, gotK (vs.map nrm) ((7 : Nat) : Int) = g := ⟨_, rfl⟩
                  rw [hg] at hv1 hs1 HCN
                  clear hg hVS6
                  cases c with
                  | true =>
                    have HCN2 : Hid (true = false ↔ Cons (vs.map nrm ++ [(((7 : Nat) : Int), vx)])) := by
                      rw [Hid, ← HCN.out]; simp
                    clear HCN
                    have HCN := HCN2
                    clear HCN2
                    as_aux_lemma =>
                      go_wp2_with fail
                      go_roundw
                      case rel => exact ⟨j + 1, k + nn, vs ++ [(((8 : Nat) : Int), vx)], true, by omega, by go_num, by go_num, rfl, by omega, HIn.out, by rw [Hid, HMAP.out]; exact HPUT.out, by rw [Hid, HMAP.out]; exact HCN.out, Hbd.out, HFF.out⟩
                      case measure => simp [intOf]; omega
                  | false =>
                    cases g with
                    | none =>
                      have HCN2 : Hid (false = false ↔ Cons (vs.map nrm ++ [(((7 : Nat) : Int), vx)])) := by
                        rw [Hid, ← HCN.out]; simp
                      clear HCN
                      have HCN := HCN2
                      clear HCN2
                      simp only [Option.getD_none, Option.isSome_none] at hv1 hs1
                      as_aux_lemma =>
                        go_wp2_with fail
                        go_roundw
                        case rel => exact ⟨j + 1, k + nn, vs ++ [(((8 : Nat) : Int), vx)], false, by omega, by go_num, by go_num, rfl, by omega, HIn.out, by rw [Hid, HMAP.out]; exact HPUT.out, by rw [Hid, HMAP.out]; exact HCN.out, Hbd.out, HFF.out⟩
                        case measure => simp [intOf]; omega
                    | some y =>
                      by_cases hy : y = vx
                      · have hyb : ((y : Int) != ((vx : Nat) : Int)) = false := by simp [hy]
                        have HCN2 : Hid (false = false ↔ Cons (vs.map nrm ++ [(((7 : Nat) : Int), vx)])) := by
                          have := HCN.out
                          rw [hy] at this
                          rw [Hid, ← this]; simp
                        clear HCN
                        have HCN := HCN2
                        clear HCN2 hy
                        simp only [Option.getD_some, Option.isSome_some] at hv1 hs1
                        as_aux_lemma =>
                          go_wp2_with fail
                          go_roundw
                          case rel => exact ⟨j + 1, k + nn, vs ++ [(((8 : Nat) : Int), vx)], false, by omega, by go_num, by go_num, rfl, by omega, HIn.out, by rw [Hid, HMAP.out]; exact HPUT.out, by rw [Hid, HMAP.out]; exact HCN.out, Hbd.out, HFF.out⟩
                          case measure => simp [intOf]; omega
                      · have hyb : ((y : Int) != ((vx : Nat) : Int)) = true := by rw [bne_iff_ne]; omega
                        have HCN2 : Hid (true = false ↔ Cons (vs.map nrm ++ [(((7 : Nat) : Int), vx)])) := by
                          have := HCN.out
                          rw [Hid, ← this]; simp [hy]
                        clear HCN
                        have HCN := HCN2
                        clear HCN2 hy
                        simp only [Option.getD_some, Option.isSome_some] at hv1 hs1
                        as_aux_lemma =>
                          go_wp2_with fail
                          go_roundw
                          case rel => exact ⟨j + 1, k + nn, vs ++ [(((8 : Nat) : Int), vx)], true, by omega, by go_num, by go_num, rfl, by omega, HIn.out, by rw [Hid, HMAP.out]; exact HPUT.out, by rw [Hid, HMAP.out]; exact HCN.out, Hbd.out, HFF.out⟩
                          case measure => simp [intOf]; omega
                · have HNR : Hid ([((kn : Int), vx)].map nrm = [((kn : Int), vx)]) := by
                    show [nrm ((kn : Int), vx)] = _
                    unfold nrm
                    rw [if_neg (by simp; omega), if_neg (by simp; omega)]
                  have g1 : ((kn : Int) == 1) = false := by rw [beq_eq_false_iff_ne]; omega
                  have g4 : ((kn : Int) == 4) = false := by rw [beq_eq_false_iff_ne]; omega
                  have g5 : ((kn : Int) == 5) = false := by rw [beq_eq_false_iff_ne]; omega
                  have g8 : ((kn : Int) == 8) = false := by rw [beq_eq_false_iff_ne]; omega
                  have g14 : ((kn : Int) == 14) = false := by rw [beq_eq_false_iff_ne]; omega
                  have g15 : ((kn : Int) == 15) = false := by rw [beq_eq_false_iff_ne]; omega
                  clear k4 k5 k8
                  go_upto_region 23 with fail
                  have hVS6 := HVs.out.ext hE6
                  have hv1 := hVS6.v kn (by omega)
                  have hs1 := hVS6.s kn (by omega)
                  have hf1 := hVS6.f1
                  have hf2 := hVS6.f2
                  have hlt1 := hVS6.lt1
                  have hlt2 := hVS6.lt2
                  have HCN := Lib.hid (clash_snoc HC.out ((kn : Nat) : Int) vx)
                  have HPUT := Lib.hid (hVS6.put hne12 kn vx (by omega))
                  have HMAP : Hid ((vs ++ [(((kn : Nat) : Int), vx)]).map nrm = vs.map nrm ++ [(((kn : Nat) : Int), vx)]) := by
                    rw [Hid, List.map_append, HNR.out]
                  have HFF := Lib.hid (((HF.out.trans (Frm.of_ext hE6)).setCell (p := ⟨B2, kn, none⟩) (.inl (.inl rfl)) (.bool true)).setCell (p := ⟨B1, kn, none⟩) (.inl (.inr rfl)) (.int .i64 ((vx : Nat) : Int)))
                  obtain ⟨g, hg⟩ : ∃ g, gotK (vs.map nrm) ((kn : Nat) : Int) = g := ⟨_, rfl⟩
                  rw [hg] at hv1 hs1 HCN
                  clear hg hVS6
                  cases c with
                  | true =>
                    have HCN2 : Hid (true = false ↔ Cons (vs.map nrm ++ [(((kn : Nat) : Int), vx)])) := by
                      rw [Hid, ← HCN.out]; simp
                    clear HCN
                    have HCN := HCN2
                    clear HCN2
                    as_aux_lemma =>
                      go_wp2_with fail
                      go_roundw
                      case rel => exact ⟨j + 1, k + nn, vs ++ [(((kn : Nat) : Int), vx)], true, by omega, by go_num, by go_num, rfl, by omega, HIn.out, by rw [Hid, HMAP.out]; exact HPUT.out, by rw [Hid, HMAP.out]; exact HCN.out, Hbd.out, HFF.out⟩
                      case measure => simp [intOf]; omega
                  | false =>
                    cases g with
                    | none =>
                      have HCN2 : Hid (false = false ↔ Cons (vs.map nrm ++ [(((kn : Nat) : Int), vx)])) := by
                        rw [Hid, ← HCN.out]; simp
                      clear HCN
                      have HCN := HCN2
                      clear HCN2
                      simp only [Option.getD_none, Option.isSome_none] at hv1 hs1
                      as_aux_lemma =>
                        go_wp2_with fail
                        go_roundw
                        case rel => exact ⟨j + 1, k + nn, vs ++ [(((kn : Nat) : Int), vx)], false, by omega, by go_num, by go_num, rfl, by omega, HIn.out, by rw [Hid, HMAP.out]; exact HPUT.out, by rw [Hid, HMAP.out]; exact HCN.out, Hbd.out, HFF.out⟩
                        case measure => simp [intOf]; omega
                    | some y =>
                      by_cases hy : y = vx
                      · have hyb : ((y : Int) != ((vx : Nat) : Int)) = false := by simp [hy]
                        have HCN2 : Hid (false = false ↔ Cons (vs.map nrm ++ [(((kn : Nat) : Int), vx)])) := by
                          have := HCN.out
                          rw [hy] at this
                          rw [Hid, ← this]; simp
                        clear HCN
                        have HCN := HCN2
                        clear HCN2 hy
                        simp only [Option.getD_some, Option.isSome_some] at hv1 hs1
                        as_aux_lemma =>
                          go_wp2_with fail
                          go_roundw
                          case rel => exact ⟨j + 1, k + nn, vs ++ [(((kn : Nat) : Int), vx)], false, by omega, by go_num, by go_num, rfl, by omega, HIn.out, by rw [Hid, HMAP.out]; exact HPUT.out, by rw [Hid, HMAP.out]; exact HCN.out, Hbd.out, HFF.out⟩
                          case measure => simp [intOf]; omega
                      · have hyb : ((y : Int) != ((vx : Nat) : Int)) = true := by rw [bne_iff_ne]; omega
                        have HCN2 : Hid (true = false ↔ Cons (vs.map nrm ++ [(((kn : Nat) : Int), vx)])) := by
                          have := HCN.out
                          rw [Hid, ← this]; simp [hy]
                        clear HCN
                        have HCN := HCN2
                        clear HCN2 hy
                        simp only [Option.getD_some, Option.isSome_some] at hv1 hs1
                        as_aux_lemma =>
                          go_wp2_with fail
                          go_roundw
                          case rel => exact ⟨j + 1, k + nn, vs ++ [(((kn : Nat) : Int), vx)], true, by omega, by go_num, by go_num, rfl, by omega, HIn.out, by rw [Hid, HMAP.out]; exact HPUT.out, by rw [Hid, HMAP.out]; exact HCN.out, Hbd.out, HFF.out⟩
                          case measure => simp [intOf]; omega
    · as_aux_lemma =>
        obtain rfl : j = l.length := by omega
        have HI2 := HI.out
        rw [List.drop_length, rdL] at HI2
        have hEr := Lib.hid (HF.out.far hEw5.out hfar)
        by_cases hks : k < s.length
        · have HIn : Hid (rdL N l s 0 [] = .inl (k + 1)) := by
            rw [Hid, HI2, if_neg]
            rw [List.isEmpty_iff, List.drop_eq_nil_iff]; omega
          have HX : Hid (prsT N l s = (0, k + 1, 3)) := by rw [Hid, HT.out, HIn.out]
          clear HI2
          go_wp2_with fail
          refine bodyPost_ret (v := .tuple #[.int .i64 0, .agg #[.int .i64 1, .int .i64 ((k : Int) + 1)], .int .i64 3]) ?_ rfl ⟨?_, ?_⟩
          · simp [results, Tryz.results11, go_sem, e0, e1, hPr]
          · rw [HX.out]; simp [posV]
          · (repeat (with_reducible (first | exact hEr.out | refine Ext.setCell ?_ hPw _ | refine Ext.alloc ?_ _ | refine Ext.drewN ?_ _ | refine Ext.drew ?_)))
        · obtain rfl : k = s.length := by omega
          have HIn : Hid (rdL N l s 0 [] = .inr vs) := by
            rw [Hid, HI2, if_pos]
            rw [List.isEmpty_iff, List.drop_eq_nil_iff]; omega
          have HX0 := prs_ref HC.out (R := prsT N l s) (by rw [HT.out, HIn.out])
          have HGB := Lib.hid (got_bd HV.out)
          clear HI2
          have hVr := HVs.out
          obtain ⟨us, hus⟩ : ∃ us, vs.map nrm = us := ⟨_, rfl⟩
          rw [hus] at HX0 HGB hVr
          have HX := Lib.hid HX0
          have hD1 := hVr.lt1
          have hD2 := hVr.lt2
          clear HX0 HC HVs HI HIn HV hus
          have hS0 : PrS us B1 B2 wr.heap.size P0 [1970, 1, 1, 0, 0, 0] (wr.alloc (.cells #[.int .i64 1970, .int .i64 1, .int .i64 1, .int .i64 0, .int .i64 0, .int .i64 0] 81)) := by
            refine ⟨hVr.ext ((Ext.refl wr).alloc _), fun o ho => ?_, fun o => by simp, by simp, (((Ext.refl wr).alloc _).cells _ _ hPr).trans e0, (((Ext.refl wr).alloc _).cells _ _ hPr).trans e1, fun o => (((Ext.refl wr).alloc _).frozens _ o hPr).trans (ef o), by simp; omega⟩
            rw [World.cell?_alloc_new]
            have : o = 0 ∨ o = 1 ∨ o = 2 ∨ o = 3 ∨ o = 4 ∨ o = 5 := by omega
            rcases this with rfl | rfl | rfl | rfl | rfl | rfl <;> rfl
          have hE0 : Ext w (wr.alloc (.cells #[.int .i64 1970, .int .i64 1, .int .i64 1, .int .i64 0, .int .i64 0, .int .i64 0] 81)) := hEr.out.alloc _
          clear HF hVr e0 e1 ef hEr
          go_upto_region 29 with fail
          generalize wr.alloc (.cells #[.int .i64 1970, .int .i64 1, .int .i64 1, .int .i64 0, .int .i64 0, .int .i64 0] 81) = V0 at hS0 hE0 ⊢
          have hwD : w.heap.size ≤ wr.heap.size := by omega
          generalize wr.heap.size = D at hD1 hD2 hPr hS0 hwD ⊢
          clear hRr hBNr HPr
          as_aux_lemma =>
            obtain ⟨g2, G2⟩ : ∃ g, gotK us 2 = g := ⟨_, rfl⟩
            obtain ⟨g3, G3⟩ : ∃ g, gotK us 3 = g := ⟨_, rfl⟩
            obtain ⟨g6, G6⟩ : ∃ g, gotK us 6 = g := ⟨_, rfl⟩
            obtain ⟨g7, G7⟩ : ∃ g, gotK us 7 = g := ⟨_, rfl⟩
            obtain ⟨g9, G9⟩ : ∃ g, gotK us 9 = g := ⟨_, rfl⟩
            obtain ⟨g10, G10⟩ : ∃ g, gotK us 10 = g := ⟨_, rfl⟩
            obtain ⟨g11, G11⟩ : ∃ g, gotK us 11 = g := ⟨_, rfl⟩
            obtain ⟨g12, G12⟩ : ∃ g, gotK us 12 = g := ⟨_, rfl⟩
            obtain ⟨g13, G13⟩ : ∃ g, gotK us 13 = g := ⟨_, rfl⟩
            have HXG : Hid (prsT N l s = if (ansG g2 g3 g6 g7 g9 g10 g11 g12 g13 c).2 = true then ((ansG g2 g3 g6 g7 g9 g10 g11 g12 g13 c).1, 0, 0) else (0, 0, 1)) := by
              rw [Hid, HX.out]; unfold ansR; rw [G2, G3, G6, G7, G9, G10, G11, G12, G13]
            have B9 : Hid (∀ x, g9 = some x → x ≤ 100001) := fun x e => HGB.out 9 x (G9.trans e)
            have B10 : Hid (∀ x, g10 = some x → x ≤ 100001) := fun x e => HGB.out 10 x (G10.trans e)
            have B13 : Hid (∀ x, g13 = some x → x ≤ 100001) := fun x e => HGB.out 13 x (G13.trans e)
            have B7 : Hid (∀ x, g7 = some x → x ≤ 100001) := fun x e => HGB.out 7 x (G7.trans e)
            replace G2 := Lib.hid G2
            replace G3 := Lib.hid G3
            replace G6 := Lib.hid G6
            replace G7 := Lib.hid G7
            replace G9 := Lib.hid G9
            replace G10 := Lib.hid G10
            replace G11 := Lib.hid G11
            replace G12 := Lib.hid G12
            replace G13 := Lib.hid G13
            have hn1 : ¬ D = B1 := by omega
            have hn2 : ¬ D = B2 := by omega
            have hn3 : ¬ B1 = D := by omega
            have hn4 : ¬ B2 = D := by omega
            clear HX HGB
            have hS := hS0
            have hE := hE0
            clear hS0 hE0
            have hvK := hS.vs.v 2 (by decide)
            have hsK := hS.vs.s 2 (by decide)
            rw [show ((2 : Nat) : Int) = 2 from rfl, G2.out] at hvK hsK
            have hfz := hS.fz
            have hlt := hS.lt
            have hz := hS.c 0 (by decide)
            simp only [List.getD_cons_zero, List.getD_cons_succ] at hz
            obtain ⟨bK, hbK⟩ : ∃ b, (g2).isSome = b := ⟨_, rfl⟩
            rw [hbK] at hsK
            go_upto_if 119 with fail
            go_cut [] from 21 (fun wx => PrS us B1 B2 D P0 [((g2.getD 1970 : Nat) : Int), 1, 1, 0, 0, 0] wx ∧ Ext w wx)
            case first =>
              as_aux_lemma =>
                cases g2 with
                | none =>
                  obtain rfl : bK = false := hbK.symm
                  go_wp2_with fail
                  go_meet
                  case rel => exact ⟨hS, hE⟩
                | some x =>
                  obtain rfl : bK = true := hbK.symm
                  simp only [Option.getD_some] at hvK
                  go_wp2_with fail
                  go_meet
                  case rel => exact ⟨hS.set rfl hD1 hD2 hPr 0 (by decide) _, hE.setCell hwD _⟩
            clear hvK hsK hfz hlt hz hbK hS hE
            obtain ⟨hS, hE⟩ := hcut
            have hvK := hS.vs.v 3 (by decide)
            have hsK := hS.vs.s 3 (by decide)
            rw [show ((3 : Nat) : Int) = 3 from rfl, G3.out] at hvK hsK
            have hfz := hS.fz
            have hlt := hS.lt
            have hz := hS.c 1 (by decide)
            simp only [List.getD_cons_zero, List.getD_cons_succ] at hz
            obtain ⟨bK, hbK⟩ : ∃ b, (g3).isSome = b := ⟨_, rfl⟩
            rw [hbK] at hsK
            go_upto_if 127 with fail
            go_cut [] from 21 (fun wx => PrS us B1 B2 D P0 [((g2.getD 1970 : Nat) : Int), ((g3.getD 1 : Nat) : Int), 1, 0, 0, 0] wx ∧ Ext w wx)
            case first =>
              as_aux_lemma =>
                cases g3 with
                | none =>
                  obtain rfl : bK = false := hbK.symm
                  go_wp2_with fail
                  go_meet
                  case rel => exact ⟨hS, hE⟩
                | some x =>
                  obtain rfl : bK = true := hbK.symm
                  simp only [Option.getD_some] at hvK
                  go_wp2_with fail
                  go_meet
                  case rel => exact ⟨hS.set rfl hD1 hD2 hPr 1 (by decide) _, hE.setCell hwD _⟩
            clear hvK hsK hfz hlt hz hbK hS hE
            obtain ⟨hS, hE⟩ := hcut
            have hvK := hS.vs.v 6 (by decide)
            have hsK := hS.vs.s 6 (by decide)
            rw [show ((6 : Nat) : Int) = 6 from rfl, G6.out] at hvK hsK
            have hfz := hS.fz
            have hlt := hS.lt
            have hz := hS.c 2 (by decide)
            simp only [List.getD_cons_zero, List.getD_cons_succ] at hz
            obtain ⟨bK, hbK⟩ : ∃ b, (g6).isSome = b := ⟨_, rfl⟩
            rw [hbK] at hsK
            go_upto_if 135 with fail
            go_cut [] from 21 (fun wx => PrS us B1 B2 D P0 [((g2.getD 1970 : Nat) : Int), ((g3.getD 1 : Nat) : Int), ((g6.getD 1 : Nat) : Int), 0, 0, 0] wx ∧ Ext w wx)
            case first =>
              as_aux_lemma =>
                cases g6 with
                | none =>
                  obtain rfl : bK = false := hbK.symm
                  go_wp2_with fail
                  go_meet
                  case rel => exact ⟨hS, hE⟩
                | some x =>
                  obtain rfl : bK = true := hbK.symm
                  simp only [Option.getD_some] at hvK
                  go_wp2_with fail
                  go_meet
                  case rel => exact ⟨hS.set rfl hD1 hD2 hPr 2 (by decide) _, hE.setCell hwD _⟩
            clear hvK hsK hfz hlt hz hbK hS hE
            obtain ⟨hS, hE⟩ := hcut
            as_aux_lemma =>
              have hv11 := hS.vs.v 11 (by decide)
              have hv12 := hS.vs.v 12 (by decide)
              have hs10 := hS.vs.s 10 (by decide)
              rw [show ((11 : Nat) : Int) = 11 from rfl, G11.out] at hv11
              rw [show ((12 : Nat) : Int) = 12 from rfl, G12.out] at hv12
              rw [show ((10 : Nat) : Int) = 10 from rfl, G10.out] at hs10
              have hfz := hS.fz
              have hlt := hS.lt
              have hz4 := hS.c 4 (by decide)
              have hz5 := hS.c 5 (by decide)
              simp only [List.getD_cons_zero, List.getD_cons_succ] at hz4 hz5
              obtain ⟨b10, hb10⟩ : ∃ b, g10.isSome = b := ⟨_, rfl⟩
              rw [hb10] at hs10
              go_upto_if 153 with fail
              have hS2 := (hS.set rfl hD1 hD2 hPr 4 (by decide) ((g11.getD 0 : Nat) : Int)).set rfl hD1 hD2 hPr 5 (by decide) ((g12.getD 0 : Nat) : Int)
              have hE2 := (hE.setCell (p := ⟨D, 4, none⟩) hwD (.int .i64 ((g11.getD 0 : Nat) : Int))).setCell (p := ⟨D, 5, none⟩) hwD (.int .i64 ((g12.getD 0 : Nat) : Int))
              simp only [List.set_cons_zero, List.set_cons_succ] at hS2
              clear hv11 hv12 hs10 hfz hlt hz4 hz5 hS hE
              have hS := hS2
              have hE := hE2
              clear hS2 hE2
              generalize (wc.setCell ⟨D, 4, none⟩ (.int .i64 ((g11.getD 0 : Nat) : Int))).setCell ⟨D, 5, none⟩ (.int .i64 ((g12.getD 0 : Nat) : Int)) = V4 at hS hE ⊢
              obtain ⟨x13, hx13⟩ : ∃ x, g13.getD 0 = x := ⟨_, rfl⟩
              have hx13b : x13 ≤ 100001 := by
                cases hg : g13 with
                | none => rw [hg] at hx13; simp at hx13; omega
                | some x => rw [hg] at hx13; have := B13.out x hg; simp at hx13; omega
              have Hx13 := Lib.hid hx13
              have hv10 := hS.vs.v 10 (by decide)
              have hv13 := hS.vs.v 13 (by decide)
              rw [show ((10 : Nat) : Int) = 10 from rfl, G10.out] at hv10
              rw [show ((13 : Nat) : Int) = 13 from rfl, G13.out, hx13] at hv13
              have hfz := hS.fz
              have hlt := hS.lt
              have hz3 := hS.c 3 (by decide)
              simp only [List.getD_cons_zero, List.getD_cons_succ] at hz3
              clear hx13
              go_cut [12] from 21 (fun cl wx => cl = .bool (c || cl10 g10) ∧ PrS us B1 B2 D P0 [((g2.getD 1970 : Nat) : Int), ((g3.getD 1 : Nat) : Int), ((g6.getD 1 : Nat) : Int), ((h10 g10 g13 : Nat) : Int), ((g11.getD 0 : Nat) : Int), ((g12.getD 0 : Nat) : Int)] wx ∧ Ext w wx)
              case first =>
                as_aux_lemma =>
                  cases g10 with
                  | none =>
                    obtain rfl : b10 = false := hb10.symm
                    go_wp2_with fail
                    go_meet
                    case rel => exact ⟨by simp [cl10], hS, hE⟩
                  | some t =>
                    obtain rfl : b10 = true := hb10.symm
                    simp only [Option.getD_some] at hv10
                    have htb := B10.out t rfl
                    have htm : (t : Int).tmod 12 = ((t % 12 : Nat) : Int) := by rw [Int.tmod_eq_emod_of_nonneg (by omega)]; rfl
                    have htm2 : (t : Int) % 12 = ((t % 12 : Nat) : Int) := rfl
                    have HH : Hid ((h10 (some t) g13 : Nat) = t % 12 + 12 * x13) := by rw [Hid, ← Hx13.out]; rfl
                    obtain ⟨tm, htm3⟩ : ∃ tm, tm = t % 12 := ⟨_, rfl⟩
                    have htm4 : tm ≤ 11 := by omega
                    rw [← htm3] at htm htm2 HH
                    clear htm3
                    have hSS := Lib.hid (hS.set rfl hD1 hD2 hPr 3 (by decide) ((tm : Int) + 12 * (x13 : Int)))
                    have hEE := Lib.hid (hE.setCell (p := ⟨D, 3, none⟩) hwD (.int .i64 ((tm : Int) + 12 * (x13 : Int))))
                    cases c with
                    | true => go_upto_region 39 with fail
                              go_region
                              go_wp2_with fail
                              go_meet
                              case rel =>
                                refine ⟨by first | (simp [cl10]; done) | (simp [cl10]; omega) | (refine congrArg Value.bool ?_; rw [Bool.eq_iff_iff]; simp [cl10]; omega), ?_, hEE.out.drew⟩
                                have q := hSS.out
                                rw [show ((tm : Int) + 12 * (x13 : Int)) = ((h10 (some t) g13 : Nat) : Int) by rw [HH.out]; omega] at q
                                rw [show ((tm : Int) + 12 * (x13 : Int)) = ((h10 (some t) g13 : Nat) : Int) by rw [HH.out]; omega]
                                exact q.ext (Ext.refl _).drew
                    | false =>
                      by_cases t1 : t < 1
                      · go_upto_region 39 with fail
                        go_region
                        go_wp2_with fail
                        go_meet
                        case rel =>
                          refine ⟨by first | (simp [cl10]; done) | (simp [cl10]; omega) | (refine congrArg Value.bool ?_; rw [Bool.eq_iff_iff]; simp [cl10]; omega), ?_, hEE.out.drew⟩
                          have q := hSS.out
                          rw [show ((tm : Int) + 12 * (x13 : Int)) = ((h10 (some t) g13 : Nat) : Int) by rw [HH.out]; omega] at q
                          rw [show ((tm : Int) + 12 * (x13 : Int)) = ((h10 (some t) g13 : Nat) : Int) by rw [HH.out]; omega]
                          exact q.ext (Ext.refl _).drew
                      · by_cases t2 : 12 < t
                        · go_upto_region 39 with fail
                          go_region
                          go_wp2_with fail
                          go_meet
                          case rel =>
                            refine ⟨by first | (simp [cl10]; done) | (simp [cl10]; omega) | (refine congrArg Value.bool ?_; rw [Bool.eq_iff_iff]; simp [cl10]; omega), ?_, hEE.out.drew⟩
                            have q := hSS.out
                            rw [show ((tm : Int) + 12 * (x13 : Int)) = ((h10 (some t) g13 : Nat) : Int) by rw [HH.out]; omega] at q
                            rw [show ((tm : Int) + 12 * (x13 : Int)) = ((h10 (some t) g13 : Nat) : Int) by rw [HH.out]; omega]
                            exact q.ext (Ext.refl _).drew
                        · go_upto_region 39 with fail
                          go_region
                          go_wp2_with fail
                          go_meet
                          case rel =>
                            refine ⟨by first | (simp [cl10]; done) | (simp [cl10]; omega) | (refine congrArg Value.bool ?_; rw [Bool.eq_iff_iff]; simp [cl10]; omega), ?_, hEE.out.drew⟩
                            have q := hSS.out
                            rw [show ((tm : Int) + 12 * (x13 : Int)) = ((h10 (some t) g13 : Nat) : Int) by rw [HH.out]; omega] at q
                            rw [show ((tm : Int) + 12 * (x13 : Int)) = ((h10 (some t) g13 : Nat) : Int) by rw [HH.out]; omega]
                            exact q.ext (Ext.refl _).drew
              clear hv10 hv13 hfz hlt hz3 hb10 hS hE
              obtain ⟨hcl, hS, hE⟩ := hcut
              as_aux_lemma =>
                obtain ⟨c1, hc1⟩ : ∃ b, (c || cl10 g10) = b := ⟨_, rfl⟩
                have Hc1 := Lib.hid hc1
                rw [hc1] at hcl
                subst hcl
                clear hc1
                have hs9 := hS.vs.s 9 (by decide)
                have hs10 := hS.vs.s 10 (by decide)
                have hs13 := hS.vs.s 13 (by decide)
                have hv9 := hS.vs.v 9 (by decide)
                have hv10 := hS.vs.v 10 (by decide)
                have hv13 := hS.vs.v 13 (by decide)
                rw [show ((9 : Nat) : Int) = 9 from rfl, G9.out] at hs9 hv9
                rw [show ((10 : Nat) : Int) = 10 from rfl, G10.out] at hs10 hv10
                rw [show ((13 : Nat) : Int) = 13 from rfl, G13.out] at hs13 hv13
                have hfz := hS.fz
                have hlt := hS.lt
                have hz3 := hS.c 3 (by decide)
                simp only [List.getD_cons_zero, List.getD_cons_succ] at hz3
                obtain ⟨b9, hb9⟩ : ∃ b, g9.isSome = b := ⟨_, rfl⟩
                rw [hb9] at hs9
                go_upto_if 180 with fail
                go_cut [12] from 21 (fun cl wx => cl = .bool (c1 || cl9 g9 g10 g13) ∧ PrS us B1 B2 D P0 [((g2.getD 1970 : Nat) : Int), ((g3.getD 1 : Nat) : Int), ((g6.getD 1 : Nat) : Int), ((h9 g9 g10 g13 : Nat) : Int), ((g11.getD 0 : Nat) : Int), ((g12.getD 0 : Nat) : Int)] wx ∧ Ext w wx)
                case first =>
                  cases g9 with
                  | none =>
                    obtain rfl : b9 = false := hb9.symm
                    go_wp2_with fail
                    go_meet
                    case rel => exact ⟨by simp [cl9], hS, hE⟩
                  | some h =>
                    obtain rfl : b9 = true := hb9.symm
                    simp only [Option.getD_some] at hv9
                    have hhb := B9.out h rfl
                    have hhm : (h : Int).tmod 12 = ((h % 12 : Nat) : Int) := by rw [Int.tmod_eq_emod_of_nonneg (by omega)]; rfl
                    have hhm2 : (h : Int) % 12 = ((h % 12 : Nat) : Int) := rfl
                    have hhd : (h : Int).tdiv 12 = ((h / 12 : Nat) : Int) := by rw [Int.tdiv_eq_ediv_of_nonneg (by omega)]; rfl
                    have hhd2 : (h : Int) / 12 = ((h / 12 : Nat) : Int) := rfl
                    obtain ⟨hm, hm3⟩ : ∃ m, m = h % 12 := ⟨_, rfl⟩
                    obtain ⟨hd, hd3⟩ : ∃ m, m = h / 12 := ⟨_, rfl⟩
                    have hm4 : hm ≤ 11 := by omega
                    have hd4 : hd ≤ 100001 := by omega
                    rw [← hm3] at hhm hhm2
                    rw [← hd3] at hhd hhd2
                    have Hm3 := Lib.hid hm3
                    have Hd3 := Lib.hid hd3
                    clear hm3 hd3
                    cases c1 with
                    | true =>
                      have HCL : Hid ((true || cl9 (some h) g10 g13) = true) := rfl
                      as_aux_lemma =>
                        go_upto_region 41 with fail
                        go_quiet (fail)
                        go_wp2_with fail
                        go_meet
                        case rel =>
                          refine ⟨by rw [HCL.out], ?_, ?_⟩
                          · exact (hS.ext ((Ext.refl _).drewN _)).set rfl hD1 hD2 hPr 3 (by decide) _
                          · exact (hE.drewN _).setCell hwD _
                    | false =>
                      cases g10 with
                      | none =>
                        have HC0 : Hid ((false || cl9 (some h) none g13) = cl13 (h / 12) g13) := rfl
                        cases g13 with
                        | none =>
                          have HCL : Hid (_ = false) := HC0.out
                          as_aux_lemma =>
                            go_upto_region 41 with fail
                            go_quiet (fail)
                            go_wp2_with fail
                            go_meet
                            case rel =>
                              refine ⟨by rw [HCL.out], ?_, ?_⟩
                              · exact (hS.ext ((Ext.refl _).drewN _)).set rfl hD1 hD2 hPr 3 (by decide) _
                              · exact (hE.drewN _).setCell hwD _
                        | some x =>
                          simp only [Option.getD_some, Option.isSome_some] at hv13 hs13
                          have hxb := B13.out x rfl
                          by_cases hex : hd = x
                          · have hne2 : ((hd : Int) != (x : Int)) = false := by simp [hex]
                            have HCL : Hid (_ = false) := HC0.out.trans (by
                              have : h / 12 = x := by rw [← Hd3.out, hex]
                              show decide (h / 12 ≠ x) = false
                              rw [this]; simp)
                            clear hex
                            as_aux_lemma =>
                              go_upto_region 41 with fail
                              go_quiet (fail)
                              go_wp2_with fail
                              go_meet
                              case rel =>
                                refine ⟨by rw [HCL.out], ?_, ?_⟩
                                · exact (hS.ext ((Ext.refl _).drewN _)).set rfl hD1 hD2 hPr 3 (by decide) _
                                · exact (hE.drewN _).setCell hwD _
                          · have hne2 : ((hd : Int) != (x : Int)) = true := by rw [bne_iff_ne]; omega
                            have HCL : Hid (_ = true) := HC0.out.trans (by
                              have : h / 12 ≠ x := by rw [← Hd3.out]; exact hex
                              show decide (h / 12 ≠ x) = true
                              exact decide_eq_true this)
                            clear hex
                            as_aux_lemma =>
                              go_upto_region 41 with fail
                              go_quiet (fail)
                              go_wp2_with fail
                              go_meet
                              case rel =>
                                refine ⟨by rw [HCL.out], ?_, ?_⟩
                                · exact (hS.ext ((Ext.refl _).drewN _)).set rfl hD1 hD2 hPr 3 (by decide) _
                                · exact (hE.drewN _).setCell hwD _
                      | some t =>
                        simp only [Option.getD_some, Option.isSome_some] at hv10 hs10
                        have htb := B10.out t rfl
                        have htm : (t : Int).tmod 12 = ((t % 12 : Nat) : Int) := by rw [Int.tmod_eq_emod_of_nonneg (by omega)]; rfl
                        have htm2 : (t : Int) % 12 = ((t % 12 : Nat) : Int) := rfl
                        obtain ⟨tm, tm3⟩ : ∃ m, m = t % 12 := ⟨_, rfl⟩
                        have tm4 : tm ≤ 11 := by omega
                        rw [← tm3] at htm htm2
                        by_cases he : hm = tm
                        · have hne : ((hm : Int) != (tm : Int)) = false := by simp [he]
                          have HC0 : Hid ((false || cl9 (some h) (some t) g13) = cl13 (h / 12) g13) := by
                            have : h % 12 = t % 12 := by rw [← Hm3.out, ← tm3, he]
                            show (decide (h % 12 ≠ t % 12) || _) = _
                            rw [this]
                            simp
                          clear he tm3
                          cases g13 with
                          | none =>
                            have HCL : Hid (_ = false) := HC0.out
                            as_aux_lemma =>
                              go_upto_region 41 with fail
                              go_quiet (fail)
                              go_wp2_with fail
                              go_meet
                              case rel =>
                                refine ⟨by rw [HCL.out], ?_, ?_⟩
                                · exact (hS.ext ((Ext.refl _).drewN _)).set rfl hD1 hD2 hPr 3 (by decide) _
                                · exact (hE.drewN _).setCell hwD _
                          | some x =>
                            simp only [Option.getD_some, Option.isSome_some] at hv13 hs13
                            have hxb := B13.out x rfl
                            by_cases hex : hd = x
                            · have hne2 : ((hd : Int) != (x : Int)) = false := by simp [hex]
                              have HCL : Hid (_ = false) := HC0.out.trans (by
                                have : h / 12 = x := by rw [← Hd3.out, hex]
                                show decide (h / 12 ≠ x) = false
                                rw [this]; simp)
                              clear hex
                              as_aux_lemma =>
                                go_upto_region 41 with fail
                                go_quiet (fail)
                                go_wp2_with fail
                                go_meet
                                case rel =>
                                  refine ⟨by rw [HCL.out], ?_, ?_⟩
                                  · exact (hS.ext ((Ext.refl _).drewN _)).set rfl hD1 hD2 hPr 3 (by decide) _
                                  · exact (hE.drewN _).setCell hwD _
                            · have hne2 : ((hd : Int) != (x : Int)) = true := by rw [bne_iff_ne]; omega
                              have HCL : Hid (_ = true) := HC0.out.trans (by
                                have : h / 12 ≠ x := by rw [← Hd3.out]; exact hex
                                show decide (h / 12 ≠ x) = true
                                exact decide_eq_true this)
                              clear hex
                              as_aux_lemma =>
                                go_upto_region 41 with fail
                                go_quiet (fail)
                                go_wp2_with fail
                                go_meet
                                case rel =>
                                  refine ⟨by rw [HCL.out], ?_, ?_⟩
                                  · exact (hS.ext ((Ext.refl _).drewN _)).set rfl hD1 hD2 hPr 3 (by decide) _
                                  · exact (hE.drewN _).setCell hwD _
                        · have hne : ((hm : Int) != (tm : Int)) = true := by rw [bne_iff_ne]; omega
                          have HCL : Hid ((false || cl9 (some h) (some t) g13) = true) := by
                            have : h % 12 ≠ t % 12 := by rw [← Hm3.out, ← tm3]; exact he
                            show (decide (h % 12 ≠ t % 12) || _) = _
                            rw [decide_eq_true this]
                            rfl
                          clear he tm3
                          as_aux_lemma =>
                            go_upto_region 41 with fail
                            go_quiet (fail)
                            go_wp2_with fail
                            go_meet
                            case rel =>
                              refine ⟨by rw [HCL.out], ?_, ?_⟩
                              · exact (hS.ext ((Ext.refl _).drewN _)).set rfl hD1 hD2 hPr 3 (by decide) _
                              · exact (hE.drewN _).setCell hwD _
                clear hs9 hs10 hs13 hv9 hv10 hv13 hfz hlt hz3 hb9 hS hE
                obtain ⟨hcl, hS, hE⟩ := hcut
                as_aux_lemma =>
                  obtain ⟨c2, hc2⟩ : ∃ b, (c1 || cl9 g9 g10 g13) = b := ⟨_, rfl⟩
                  have Hc2 := Lib.hid hc2
                  rw [hc2] at hcl
                  subst hcl
                  clear hc2
                  obtain ⟨Y, hY⟩ : ∃ Y : Int, ((g2.getD 1970 : Nat) : Int) = Y := ⟨_, rfl⟩
                  obtain ⟨Mo, hMo⟩ : ∃ Y : Int, ((g3.getD 1 : Nat) : Int) = Y := ⟨_, rfl⟩
                  obtain ⟨Da, hDa⟩ : ∃ Y : Int, ((g6.getD 1 : Nat) : Int) = Y := ⟨_, rfl⟩
                  obtain ⟨Hh, hHh⟩ : ∃ Y : Int, ((h9 g9 g10 g13 : Nat) : Int) = Y := ⟨_, rfl⟩
                  obtain ⟨Mi, hMi⟩ : ∃ Y : Int, ((g11.getD 0 : Nat) : Int) = Y := ⟨_, rfl⟩
                  obtain ⟨Se, hSe⟩ : ∃ Y : Int, ((g12.getD 0 : Nat) : Int) = Y := ⟨_, rfl⟩
                  have HXH : Hid (ansG g2 g3 g6 g7 g9 g10 g11 g12 g13 c = if c2 = true then (0, false) else if vldB Y Mo Da = true ∧ tmB Hh Mi Se = true then ans7 g7 (wdZ (dn Y Mo Da)) (inst Y Mo Da Hh Mi Se) else (0, false)) := by
                    rw [← Hc2.out, ← Hc1.out, ← hY, ← hMo, ← hDa, ← hHh, ← hMi, ← hSe]
                    rfl
                  rw [hY, hMo, hDa, hHh, hMi, hSe] at hS
                  clear hY hMo hDa hHh hMi hSe
                  have hs7 := hS.vs.s 7 (by decide)
                  have hv7 := hS.vs.v 7 (by decide)
                  rw [show ((7 : Nat) : Int) = 7 from rfl, G7.out] at hs7 hv7
                  have hfz := hS.fz
                  have z0 := hS.c 0 (by decide)
                  have z1 := hS.c 1 (by decide)
                  have z2 := hS.c 2 (by decide)
                  have z3 := hS.c 3 (by decide)
                  have z4 := hS.c 4 (by decide)
                  have z5 := hS.c 5 (by decide)
                  simp only [List.getD_cons_zero, List.getD_cons_succ] at z0 z1 z2 z3 z4 z5
                  have q0 := hS.p0
                  have q1 := hS.p1
                  have qf := hS.pf
                  have ql := hS.pl
                  cases c2 with
                  | true =>
                    have HXX : Hid (prsT N l s = (0, 0, 1)) := by rw [Hid, HXG.out, HXH.out]; rfl
                    clear HXG HXH
                    go_wp2_with fail
                    refine bodyPost_ret (v := .tuple #[.int .i64 0, .agg #[.int .i64 0, .int .i64 0], .int .i64 1]) ?_ rfl ⟨?_, ?_⟩
                    · simp [results, Tryz.results11, go_sem, q0, q1, ql]
                    · rw [HXX.out]; rfl
                    · (repeat (with_reducible (first | exact hE | refine Ext.setCell ?_ hPw _ | refine Ext.alloc ?_ _ | refine Ext.drewN ?_ _ | refine Ext.drew ?_)))
                  | false =>
                    by_cases hval : vldB Y Mo Da = true ∧ tmB Hh Mi Se = true
                    · obtain ⟨hv1, hv2⟩ := hval
                      have Hv1 := Lib.hid hv1
                      have Hv2 := Lib.hid hv2
                      obtain ⟨n1, n2⟩ := dn_bd hv1
                      have HXI : Hid (ansG g2 g3 g6 g7 g9 g10 g11 g12 g13 c = ans7 g7 (wdZ (dn Y Mo Da)) (inst Y Mo Da Hh Mi Se)) := by
                        rw [Hid, HXH.out, if_neg (by simp), if_pos ⟨hv1, hv2⟩]
                      clear HXH hv1 hv2
                      obtain ⟨nn, hnn⟩ : ∃ n, dn Y Mo Da = n := ⟨_, rfl⟩
                      have Hnn := Lib.hid hnn
                      rw [hnn] at n1 n2
                      have HDY : Hid (∀ w, Calls Tryz.prog 38 #[.agg #[.int .i64 Y, .int .i64 Mo, .int .i64 Da]] w fun e w' => e = .returned (.tuple #[.int .i64 nn, .int .i64 0]) ∧ Ext w w') := by
                        intro w; rw [← hnn]; exact rday_yes Y Mo Da w Hv1.out
                      clear hnn
                      obtain ⟨wz, hwz⟩ : ∃ x, wdZ nn = x := ⟨_, rfl⟩
                      have Hwz := Lib.hid hwz
                      have hwz7 : 1 ≤ wz ∧ wz ≤ 7 := by rw [← hwz]; unfold wdZ; omega
                      obtain ⟨hw1, hw7⟩ := hwz7
                      obtain ⟨X, hX⟩ : ∃ x, inst Y Mo Da Hh Mi Se = x := ⟨_, rfl⟩
                      have HOF : Hid (∀ w, Calls Tryz.prog 40 #[.agg #[.int .i64 Y, .int .i64 Mo, .int .i64 Da, .int .i64 Hh, .int .i64 Mi, .int .i64 Se]] w fun e w' => e = .returned (.int .i64 X) ∧ Ext w w') := by
                        intro w; rw [← hX]; exact rof_yes Y Mo Da Hh Mi Se w Hv1.out Hv2.out
                      rw [Hnn.out, hwz, hX] at HXI
                      clear hwz hX
                      cases g7 with
                      | none =>
                        have HXX : Hid (prsT N l s = (X, 0, 0)) := by rw [Hid, HXG.out, HXI.out]; rfl
                        clear HXG HXI
                        go_upto_region 45 with (first
                          | (go_at_call 37; (with_reducible refine (rvalidm_yes Y Mo Da Hh Mi Se _ Hv1.out Hv2.out).mono ?_); rintro e w8 ⟨rfl, hE8⟩))
                        replace hS := hS.ext hE8
                        replace hE := hE.trans hE8
                        clear hE8 z0 z1 z2 z3 z4 z5 q0 q1 qf ql hfz hs7 hv7
                        have z0 := hS.c 0 (by decide)
                        have z1 := hS.c 1 (by decide)
                        have z2 := hS.c 2 (by decide)
                        have z3 := hS.c 3 (by decide)
                        have z4 := hS.c 4 (by decide)
                        have z5 := hS.c 5 (by decide)
                        simp only [List.getD_cons_zero, List.getD_cons_succ] at z0 z1 z2 z3 z4 z5
                        have q0 := hS.p0
                        have q1 := hS.p1
                        have qf := hS.pf
                        have ql := hS.pl
                        go_upto_region 46 with (first
                          | (go_at_call 38; (with_reducible refine (HDY.out _).mono ?_); rintro e w9 ⟨rfl, hE9⟩))
                        replace hS := hS.ext hE9
                        replace hE := hE.trans hE9
                        clear hE9 z0 z1 z2 z3 z4 z5 q0 q1 qf ql
                        have hs7 := hS.vs.s 7 (by decide)
                        have hv7 := hS.vs.v 7 (by decide)
                        rw [show ((7 : Nat) : Int) = 7 from rfl, G7.out] at hs7 hv7
                        have z0 := hS.c 0 (by decide)
                        have z1 := hS.c 1 (by decide)
                        have z2 := hS.c 2 (by decide)
                        have z3 := hS.c 3 (by decide)
                        have z4 := hS.c 4 (by decide)
                        have z5 := hS.c 5 (by decide)
                        simp only [List.getD_cons_zero, List.getD_cons_succ] at z0 z1 z2 z3 z4 z5
                        have q0 := hS.p0
                        have q1 := hS.p1
                        have qf := hS.pf
                        have ql := hS.pl
                        go_quiet (fail)
                        go_wp2_with (first
                          | (go_at_call 40; (with_reducible refine (HOF.out _).mono ?_); rintro e w10 ⟨rfl, hE10⟩; have hSz := hS.ext (((Ext.refl _).drewN _).trans hE10); have q0 := hSz.p0; have q1 := hSz.p1; have qf := hSz.pf; have ql := hSz.pl))
                        replace hE := (hE.drewN _).trans hE10
                        refine bodyPost_ret (v := .tuple #[.int .i64 X, .agg #[.int .i64 0, .int .i64 0], .int .i64 0]) ?_ rfl ⟨?_, ?_⟩
                        · simp [results, Tryz.results11, go_sem, q0, q1, ql]
                        · rw [HXX.out]; rfl
                        · (repeat (with_reducible (first | exact hE | refine Ext.setCell ?_ hPw _ | refine Ext.alloc ?_ _ | refine Ext.drewN ?_ _ | refine Ext.drew ?_)))
                      | some x =>
                        simp only [Option.getD_some, Option.isSome_some] at hs7 hv7
                        have hxb := B7.out x rfl
                        by_cases hx : (x : Int) = wz - 1
                        · have HXX : Hid (prsT N l s = (X, 0, 0)) := by
                            have : ansG g2 g3 g6 (some x) g9 g10 g11 g12 g13 c = (X, true) := by rw [HXI.out]; show (if (x : Int) ≠ wz - 1 then _ else _) = _; rw [if_neg (by omega)]
                            rw [Hid, HXG.out, this]; rfl
                          have hne : ((x : Int) != wz - 1) = false := by rw [← hx]; simp
                          clear HXG HXI hx
                          go_upto_region 45 with (first
                            | (go_at_call 37; (with_reducible refine (rvalidm_yes Y Mo Da Hh Mi Se _ Hv1.out Hv2.out).mono ?_); rintro e w8 ⟨rfl, hE8⟩))
                          replace hS := hS.ext hE8
                          replace hE := hE.trans hE8
                          clear hE8 z0 z1 z2 z3 z4 z5 q0 q1 qf ql hfz hs7 hv7
                          have z0 := hS.c 0 (by decide)
                          have z1 := hS.c 1 (by decide)
                          have z2 := hS.c 2 (by decide)
                          have z3 := hS.c 3 (by decide)
                          have z4 := hS.c 4 (by decide)
                          have z5 := hS.c 5 (by decide)
                          simp only [List.getD_cons_zero, List.getD_cons_succ] at z0 z1 z2 z3 z4 z5
                          have q0 := hS.p0
                          have q1 := hS.p1
                          have qf := hS.pf
                          have ql := hS.pl
                          go_upto_region 46 with (first
                            | (go_at_call 38; (with_reducible refine (HDY.out _).mono ?_); rintro e w9 ⟨rfl, hE9⟩))
                          replace hS := hS.ext hE9
                          replace hE := hE.trans hE9
                          clear hE9 z0 z1 z2 z3 z4 z5 q0 q1 qf ql
                          have hs7 := hS.vs.s 7 (by decide)
                          have hv7 := hS.vs.v 7 (by decide)
                          rw [show ((7 : Nat) : Int) = 7 from rfl, G7.out] at hs7 hv7
                          have z0 := hS.c 0 (by decide)
                          have z1 := hS.c 1 (by decide)
                          have z2 := hS.c 2 (by decide)
                          have z3 := hS.c 3 (by decide)
                          have z4 := hS.c 4 (by decide)
                          have z5 := hS.c 5 (by decide)
                          simp only [List.getD_cons_zero, List.getD_cons_succ] at z0 z1 z2 z3 z4 z5
                          have q0 := hS.p0
                          have q1 := hS.p1
                          have qf := hS.pf
                          have ql := hS.pl
                          go_quiet ((go_at_call 39; (with_reducible refine Calls.quiet_of_same ((rweekday_s nn _ n1 n2 wz Hwz.out).mono fun _ _ q => ⟨q.1, q.2.symm⟩))))
                          go_wp2_with (first
                            | (go_at_call 40; (with_reducible refine (HOF.out _).mono ?_); rintro e w10 ⟨rfl, hE10⟩; have hSz := hS.ext (((Ext.refl _).drewN _).trans hE10); have q0 := hSz.p0; have q1 := hSz.p1; have qf := hSz.pf; have ql := hSz.pl))
                          replace hE := (hE.drewN _).trans hE10
                          refine bodyPost_ret (v := .tuple #[.int .i64 X, .agg #[.int .i64 0, .int .i64 0], .int .i64 0]) ?_ rfl ⟨?_, ?_⟩
                          · simp [results, Tryz.results11, go_sem, q0, q1, ql]
                          · rw [HXX.out]; rfl
                          · (repeat (with_reducible (first | exact hE | refine Ext.setCell ?_ hPw _ | refine Ext.alloc ?_ _ | refine Ext.drewN ?_ _ | refine Ext.drew ?_)))
                        · have HXX : Hid (prsT N l s = (0, 0, 1)) := by
                            have : ansG g2 g3 g6 (some x) g9 g10 g11 g12 g13 c = (0, false) := by rw [HXI.out]; show (if (x : Int) ≠ wz - 1 then _ else _) = _; rw [if_pos hx]
                            rw [Hid, HXG.out, this]; rfl
                          have hne : ((x : Int) != wz - 1) = true := by rw [bne_iff_ne]; exact hx
                          clear HXG HXI hx
                          go_upto_region 45 with (first
                            | (go_at_call 37; (with_reducible refine (rvalidm_yes Y Mo Da Hh Mi Se _ Hv1.out Hv2.out).mono ?_); rintro e w8 ⟨rfl, hE8⟩))
                          replace hS := hS.ext hE8
                          replace hE := hE.trans hE8
                          clear hE8 z0 z1 z2 z3 z4 z5 q0 q1 qf ql hfz hs7 hv7
                          have z0 := hS.c 0 (by decide)
                          have z1 := hS.c 1 (by decide)
                          have z2 := hS.c 2 (by decide)
                          have z3 := hS.c 3 (by decide)
                          have z4 := hS.c 4 (by decide)
                          have z5 := hS.c 5 (by decide)
                          simp only [List.getD_cons_zero, List.getD_cons_succ] at z0 z1 z2 z3 z4 z5
                          have q0 := hS.p0
                          have q1 := hS.p1
                          have qf := hS.pf
                          have ql := hS.pl
                          go_upto_region 46 with (first
                            | (go_at_call 38; (with_reducible refine (HDY.out _).mono ?_); rintro e w9 ⟨rfl, hE9⟩))
                          replace hS := hS.ext hE9
                          replace hE := hE.trans hE9
                          clear hE9 z0 z1 z2 z3 z4 z5 q0 q1 qf ql
                          have hs7 := hS.vs.s 7 (by decide)
                          have hv7 := hS.vs.v 7 (by decide)
                          rw [show ((7 : Nat) : Int) = 7 from rfl, G7.out] at hs7 hv7
                          have z0 := hS.c 0 (by decide)
                          have z1 := hS.c 1 (by decide)
                          have z2 := hS.c 2 (by decide)
                          have z3 := hS.c 3 (by decide)
                          have z4 := hS.c 4 (by decide)
                          have z5 := hS.c 5 (by decide)
                          simp only [List.getD_cons_zero, List.getD_cons_succ] at z0 z1 z2 z3 z4 z5
                          have q0 := hS.p0
                          have q1 := hS.p1
                          have qf := hS.pf
                          have ql := hS.pl
                          go_quiet ((go_at_call 39; (with_reducible refine Calls.quiet_of_same ((rweekday_s nn _ n1 n2 wz Hwz.out).mono fun _ _ q => ⟨q.1, q.2.symm⟩))))
                          go_wp2_with fail
                          refine bodyPost_ret (v := .tuple #[.int .i64 0, .agg #[.int .i64 0, .int .i64 0], .int .i64 1]) ?_ rfl ⟨?_, ?_⟩
                          · simp [results, Tryz.results11, go_sem, q0, q1, ql]
                          · rw [HXX.out]; rfl
                          · (repeat (with_reducible (first | exact hE | refine Ext.setCell ?_ hPw _ | refine Ext.alloc ?_ _ | refine Ext.drewN ?_ _ | refine Ext.drew ?_)))
                    · have HXX : Hid (prsT N l s = (0, 0, 1)) := by
                        have : ansG g2 g3 g6 g7 g9 g10 g11 g12 g13 c = (0, false) := by rw [HXH.out, if_neg (by simp), if_neg hval]
                        rw [Hid, HXG.out, this]; rfl
                      have Hval := Lib.hid hval
                      clear HXG HXH hval
                      go_wp2_with (first
                        | (go_at_call 37; (with_reducible refine (rvalidm_no Y Mo Da Hh Mi Se _ Hval.out).mono ?_); rintro e w8 ⟨rfl, hE8⟩; have hS := hS.ext hE8; have hE := hE.trans hE8; have q0 := hS.p0; have q1 := hS.p1; have qf := hS.pf; have ql := hS.pl))
                      refine bodyPost_ret (v := .tuple #[.int .i64 0, .agg #[.int .i64 0, .int .i64 0], .int .i64 1]) ?_ rfl ⟨?_, ?_⟩
                      · simp [results, Tryz.results11, go_sem, q0, q1, ql]
                      · rw [HXX.out]; rfl
                      · (repeat (with_reducible (first | exact hE | refine Ext.setCell ?_ hPw _ | refine Ext.alloc ?_ _ | refine Ext.drewN ?_ _ | refine Ext.drew ?_)))
end Go.Proofs.YticckkadmhklmaaGreat
