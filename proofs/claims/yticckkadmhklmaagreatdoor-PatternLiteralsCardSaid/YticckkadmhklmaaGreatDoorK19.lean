/- Patterns: the walk of reader.read, whole; the reader's block. -/
import Derived.Test.YticckkadmhklmaaGreatDoorK15
import Derived.Test.YticckkadmhklmaaGreatDoorK16
import Derived.Test.YticckkadmhklmaaGreatDoorK18
import Derived.Test.YticckkadmhklmaaGreatDoorK02
import Derived.Test.YticckkadmhklmaaGreatDoorK11
import Derived.Test.YticckkadmhklmaaGreatDoorK14
import Derived.Laws.Tables
namespace Go.Proofs.YticckkadmhklmaaGreatDoor
set_option linter.unusedVariables false
set_option linter.unusedSimpArgs false
open Go.RowKit Go.Maps

theorem read_c (N : Nms) (hN : N.ok) (B b : Nat) (q0 : Option Prt) (p q : Prt) (hp : partB p = true) (hq : (q0 = none ∧ q.k = 0) ∨ q0 = some q) (s : List UInt8) (vs : List (Int × Nat)) (w : World) (h : Rdr N B b s vs w) (hs : s.length ≤ 100000) (hvn : vs.length ≤ 1000) :
    Calls Tryz.prog 64 #[.pointer (some ⟨B, 0, none⟩), pv p, pv q] w (RdPost N B b p q0 s vs w) := by
  have hk := kinds p hp
  obtain ⟨k, wd, t⟩ := p
  rcases hk with hk | hk | hk | hk | hk
  · simp only at hk
    subst hk
    have ht : t.length ≤ 100000 := by
      unfold partB at hp
      rw [if_pos rfl] at hp
      simp only [Bool.and_eq_true, decide_eq_true_eq] at hp
      omega
    exact read_lit N hN B b q0 q s t vs wd w h hs ht
  · simp only at hk
    subst hk
    exact read_off N hN B b q0 q s t vs wd w h hs
  · simp only at hk
    subst hk
    exact read_typ N hN B b q0 q s t vs wd w h hs
  · obtain ⟨w1, w2⟩ := num_width hp hk
    exact read_num N hN B b q0 q s t vs k wd hk w1 w2 hq w h hs hvn
  · exact read_nam N hN B b q0 q s t vs k wd hk w h hs hvn
theorem build_rd (N : Nms) (hN : N.ok) (s : List UInt8) (b : Nat) (w : World) : ∃ A : List Value, (Instr.build 93 #[(0, .agg (sv N.all).toArray), (1, .string ⟨s.toArray⟩), (2, .map (some b))]).run Tryz.prog w = .ok (.agg A.toArray) w ∧
    (∀ i, i < 40 → A[i]? = (sv N.all)[i]?) ∧ A[40]? = some (.string ⟨s.toArray⟩) ∧ A[41]? = some (.map (some b)) ∧ A[42]? = some (.bool false) := by
  have hl : (sv N.all).length = 40 := sv_all_len hN
  obtain ⟨c, hc⟩ : ∃ c : Nat → Value, c = fun i => (sv N.all).getD i (.bool true) := ⟨_, rfl⟩
  have hl2 : (List.range 40).map c = sv N.all := by
    apply List.ext_getElem?
    intro i
    rw [List.getElem?_map]
    by_cases hi : i < 40
    · rw [List.getElem?_range hi, hc]
      simp [List.getD, List.getElem?_eq_getElem (show i < (sv N.all).length by omega)]
    · rw [List.getElem?_eq_none (by simpa using hi), List.getElem?_eq_none (by omega)]; rfl
  rw [← hl2]
  clear hl2 hl hc
  refine ⟨(List.range 40).map c ++ [.string ⟨s.toArray⟩, .map (some b), .bool false], run_build w _ _ _ (by kernel_rfl), fun i hi => ?_, ?_, ?_, ?_⟩
  · rw [List.getElem?_append_left (by simpa using hi)]
  · rw [List.getElem?_append_right (by simp)]; rfl
  · rw [List.getElem?_append_right (by simp)]; rfl
  · rw [List.getElem?_append_right (by simp)]; rfl
end Go.Proofs.YticckkadmhklmaaGreatDoor
/- Patterns: the walk of Parse. -/
namespace Go.Proofs.YticckkadmhklmaaGreatDoor
set_option linter.unusedVariables false
set_option linter.unusedSimpArgs false
open Go.RowKit Go.Maps

theorem wpList_val {P : Program} {ops : Array Oper} {rest : List Oper} {op : Oper} {a : Act} {w : World} {Q : Exit → Act → World → Prop} {v : Value} (hg : op.guard = none) (hrun : (execOp a.eval op).run P w = .ok (.value v) w)
    (h : wpList P ops Q rest (a.put op.dst v) w) : wpList P ops Q (op :: rest) a w := by
  refine wpList_plain hg fun K hK => ?_
  unfold Oper.wp
  rw [hrun]
  exact hK _ _ h
theorem yr_build3 {P : Program} {o : Oper} {a : Act} {w : World} {t : TypeId} {i j k : Nat} {x y z : Operand} {u1 u2 u3 v : Value} (hop : o.op = .build t #[(i, x), (j, y), (k, z)]) (h1 : a.eval x = u1) (h2 : a.eval y = u2) (h3 : a.eval z = u3) (hrun : (Instr.build t #[(i, u1), (j, u2), (k, u3)]).run P w = .ok v w) : (execOp a.eval o).run P w = .ok (.value v) w := by
  unfold execOp
  simp only [hop, List.map_toArray, List.map_cons, List.map_nil, h1, h2, h3]
  simp [hrun, Result.andThen]
theorem read_y (N : Nms) (hN : N.ok) (B b : Nat) (q0 : Option Prt) (p q : Prt) (hp : partB p = true) (hq : (q0 = none ∧ q.k = 0) ∨ q0 = some q) (s : List UInt8) (vs : List (Int × Nat)) (n : Nat) (v : List (Int × Nat)) (e : rd1 N p q0 s = some (n, v)) (w : World) (h : Rdr N B b s vs w) (hs : s.length ≤ 100000) (hvn : vs.length ≤ 1000) :
    Calls Tryz.prog 64 #[.pointer (some ⟨B, 0, none⟩), .agg #[.int .i64 p.k, .int .i64 p.w, .string ⟨p.t.toArray⟩], .agg #[.int .i64 q.k, .int .i64 q.w, .string ⟨q.t.toArray⟩]] w fun e w' => e = .returned (.bool true) ∧ Frm (RdS2 B b) w w' ∧ Rdr N B b (s.drop n) (vs ++ v) w' :=
  (read_c N hN B b q0 p q hp hq s vs w h hs hvn).mono fun x w' ⟨h1, h2, h3⟩ => ⟨by rw [h1, e]; rfl, h2, h3 n v e⟩
theorem read_n (N : Nms) (hN : N.ok) (B b : Nat) (q0 : Option Prt) (p q : Prt) (hp : partB p = true) (hq : (q0 = none ∧ q.k = 0) ∨ q0 = some q) (s : List UInt8) (vs : List (Int × Nat)) (e : rd1 N p q0 s = none) (w : World) (h : Rdr N B b s vs w) (hs : s.length ≤ 100000) (hvn : vs.length ≤ 1000) :
    Calls Tryz.prog 64 #[.pointer (some ⟨B, 0, none⟩), .agg #[.int .i64 p.k, .int .i64 p.w, .string ⟨p.t.toArray⟩], .agg #[.int .i64 q.k, .int .i64 q.w, .string ⟨q.t.toArray⟩]] w fun e w' => e = .returned (.bool false) ∧ Frm (RdS2 B b) w w' :=
  (read_c N hN B b q0 p q hp hq s vs w h hs hvn).mono fun x w' ⟨h1, h2, h3⟩ => ⟨by rw [h1, e]; rfl, h2⟩
theorem rmom_l (N : Nms) (B b : Nat) (s : List UInt8) (vs : List (Int × Nat)) (X : Int) (Y : Bool) (he : momP (gotK vs) (clB vs) = (X, Y)) (w : World) (h : Rdr N B b s vs w) (hvb : ∀ x ∈ vs, x.2 ≤ 100000) :
    Calls Tryz.prog 65 #[.pointer (some ⟨B, 0, none⟩)] w fun e w' => e = .returned (.tuple #[.int .i64 X, .bool Y]) ∧ Ext w w' := by
  refine (rmom_c N B b s vs w h hvb).mono ?_
  rintro e w' ⟨c, hc, h1, h2⟩
  have : c = clB vs := by
    have h3 := clB_iff vs
    cases c <;> cases hq : clB vs
    · rfl
    · rw [hq] at h3; simp at h3 hc; exact absurd hc h3
    · rw [hq] at h3; simp at h3 hc; exact absurd h3 hc
    · rfl
  subst this
  rw [he] at h1
  exact ⟨h1, h2⟩
def posV (c : Nat) : Value := .agg #[.int .i64 (if c = 0 then 0 else 1), .int .i64 (c : Int)]
def PrsR (R : Int × Nat × Int) (w : World) (e : Ending) (w' : World) : Prop := e = .returned (.tuple #[.int .i64 R.1, posV R.2.1, .int .i64 R.2.2]) ∧ Ext w w'
theorem rdr_new {N : Nms} (hN : N.ok) {s : List UInt8} {W : World} {A : List Value} (h1 : ∀ i, i < 40 → A[i]? = (sv N.all)[i]?) (h2 : A[40]? = some (.string ⟨s.toArray⟩)) (h3 : A[41]? = some (.map (some W.heap.size))) (h4 : A[42]? = some (.bool false)) (t : TypeId) :
    Rdr N (W.heap.size + 1) W.heap.size s [] ((W.alloc (.map #[] 0)).alloc (.cells A.toArray t)) := by
  have hc : ∀ o, ((W.alloc (.map #[] 0)).alloc (.cells A.toArray t)).cell? ⟨W.heap.size + 1, o, none⟩ = A[o]? := fun o => by
    simp
  refine ⟨false, .map [], 0, ⟨fun j v hv => ?_, by rw [hc]; exact h2, by rw [hc]; exact h3, by rw [hc]; exact h4, ?_, fun o => ?_, by simp, by simp; omega, by omega⟩, RdD.nil, Nat.le_refl _, ?_⟩
  · have hj : j < 40 := by
      have := (List.getElem?_eq_some_iff.1 hv).1
      rw [sv_all_len hN] at this
      exact this
    rw [hc, Nat.zero_add, h1 j hj]; exact hv
  · exact (World.ownsMap_made (H := Unit) W Tryz.prog 3 _).alloc _
  · simp
  · simp [Cons]
set_option maxRecDepth 100000 in
set_option maxHeartbeats 600000 in
theorem parse_ok (l : List Prt) (N : Nms) (s : List UInt8) (ao : Option Addr) (cap : Nat) (w : World) (h : PtV ao cap l w) (hl : ∀ p ∈ l, p.t.length ≤ 4000) (hN : N.ok) (hNl : ∀ s ∈ N.all, s.length ≤ 100000)
    (hv : validB l = true) (hn : nmOk N = true) (hs : s.length ≤ 4000) :
    Calls Tryz.prog 23 #[.slice ao l.length cap, .agg (sv N.all).toArray, .string ⟨s.toArray⟩] w (PrsR (prsT N l s) w) := by
  have hmm := @run_makeMap Tryz.prog
  have hI := names_size hN
  have HT : Hid (prsT N l s = match rdL N l s 0 [] with
      | .inl c => (0, c, 3)
      | .inr vs => if (momP (gotK vs) (clB vs)).2 = true then ((momP (gotK vs) (clB vs)).1, 0, 0) else (0, 0, 1)) := by
    unfold Hid prsT
    rw [if_pos ⟨hv, hn⟩, if_neg (by omega)]
    cases rdL N l s 0 [] <;> rfl
  have hR : ((w.alloc (.cells (sv N.all).toArray 27)).alloc (.cells #[.int .i64 0, .int .i64 0] 44)).rangeAt w.heap.size 0 (sv N.all) := by
    intro j v hv
    rw [World.cell?_alloc_lt _ _ _ (by simp), Nat.zero_add, World.cell?_alloc_new]
    simpa using hv
  have hEW : Ext w ((w.alloc (.cells (sv N.all).toArray 27)).alloc (.cells #[.int .i64 0, .int .i64 0] 44)) := ((Ext.refl w).alloc _).alloc _
  have p0 : ((w.alloc (.cells (sv N.all).toArray 27)).alloc (.cells #[.int .i64 0, .int .i64 0] 44)).cell? ⟨w.heap.size + 1, 0, none⟩ = some (.int .i64 0) := by
    simp
  have p1 : ((w.alloc (.cells (sv N.all).toArray 27)).alloc (.cells #[.int .i64 0, .int .i64 0] 44)).cell? ⟨w.heap.size + 1, 1, none⟩ = some (.int .i64 0) := by
    simp
  have pf : ∀ o, ((w.alloc (.cells (sv N.all).toArray 27)).alloc (.cells #[.int .i64 0, .int .i64 0] 44)).frozen? ⟨w.heap.size + 1, o, none⟩ = false := fun o => by
    simp
  have hz1 : w.heap.size < ((w.alloc (.cells (sv N.all).toArray 27)).alloc (.cells #[.int .i64 0, .int .i64 0] 44)).heap.size := by simp; omega
  have hz2 : w.heap.size + 1 < ((w.alloc (.cells (sv N.all).toArray 27)).alloc (.cells #[.int .i64 0, .int .i64 0] 44)).heap.size := by simp
  have h40 : l.length ≤ 40 := by
    have := hv
    unfold validB at this
    simp only [Bool.and_eq_true, decide_eq_true_eq] at this
    exact this.1
  have HP : Hid (∀ p ∈ l, partB p = true) := by
    have := hv
    unfold validB at this
    simp only [Bool.and_eq_true, decide_eq_true_eq] at this
    exact tailB_all l none this.2
  have Hv := Lib.hid hv
  have Hn := Lib.hid hn
  have Hl := Lib.hid hl
  have HN := Lib.hid hN
  have HNl := Lib.hid hNl
  have Hpt := Lib.hid h
  clear hv hn hl hN hNl h
  go_enter Tryz.func23, Tryz.ntmps23
  go_upto_region 1 with fail
  generalize (w.alloc (.cells (sv N.all).toArray 27)).alloc (.cells #[.int .i64 0, .int .i64 0] 44) = W0 at hR hEW p0 p1 pf hz1 hz2 ⊢
  obtain ⟨P0, hP⟩ : ∃ P0, w.heap.size + 1 = P0 := ⟨_, rfl⟩
  have hPw : w.heap.size ≤ P0 := by omega
  rw [hP] at p0 p1 pf hz2 ⊢
  clear hP
  generalize hB : w.heap.size = BN at hR hz1 ⊢
  have HB := Lib.hid hB
  clear hB
  go_upto_region 5 with (first
    | (go_at_call 29; (with_reducible refine (valid_lit l true ao cap _ (Hpt.out.ext hEW) Hl.out Hv.out).mono ?_); rintro e w1 ⟨rfl, hE1⟩; have hR1 := rangeAt_ext hR hz1 hE1)
    | (refine wpList_load_midg (by rfl) 27 _ rfl BN 0 rfl (sv N.all) _ hR1 Tryz.underlying27 rfl hI ?_)
    | (go_at_call 11; (with_reducible refine (names_lit N true HN.out _ HNl.out Hn.out).mono ?_); rintro e w2 ⟨rfl, hE2⟩))
  have hE02 := hE1.trans hE2
  have hR2 := rangeAt_ext hR1 (hE1.lt hz1) hE2
  have q0 := (hE02.cells _ _ hz2).trans p0
  have q1 := (hE02.cells _ _ hz2).trans p1
  have qf := fun o => (hE02.frozens _ o hz2).trans (pf o)
  have hB2 := hE02.lt hz1
  have hP2 := hE02.lt hz2
  have hEw2 := hEW.trans hE02
  have Hpt2 := Lib.hid (Hpt.out.ext hEw2)
  clear hR hR1 hE1 hE2 hE02 p0 p1 pf hz1 hz2 hEW Hpt
  obtain ⟨A, hA, a1, a2, a3, a4⟩ := build_rd N HN.out s w2.heap.size (w2.alloc (.map #[] 0))
  have HA := Lib.hid hA
  have HRD0 := Lib.hid (rdr_new HN.out a1 a2 a3 a4 93)
  clear hA a1 a2 a3 a4
  go_upto_region 6 with (first
    | (refine wpList_load_midg (by rfl) 27 _ rfl BN 0 rfl (sv N.all) _ hR2 Tryz.underlying27 rfl hI ?_)
    | (refine wpList_val (op := ⟨some 34, _, _, _, _, _⟩) rfl (yr_build3 (t := 93) (u1 := .agg (sv N.all).toArray) (u2 := .string ⟨s.toArray⟩) (u3 := .map (some w2.heap.size)) rfl rfl rfl rfl HA.out) ?_))
  have hE5 : Ext w2 ((w2.alloc (.map #[] 0)).alloc (.cells A.toArray 93)) := ((Ext.refl w2).alloc _).alloc _
  obtain ⟨b, hb⟩ : ∃ b, w2.heap.size = b := ⟨_, rfl⟩
  rw [hb] at HRD0 hP2 ⊢
  have Hb := Lib.hid hb
  generalize (w2.alloc (.map #[] 0)).alloc (.cells A.toArray 93) = W5 at HRD0 hE5 ⊢
  have d0 := (hE5.cells _ _ (by rw [hb]; exact hP2)).trans q0
  have d1 := (hE5.cells _ _ (by rw [hb]; exact hP2)).trans q1
  have df := fun o => (hE5.frozens P0 o (by rw [hb]; exact hP2)).trans (qf o)
  have hP5 := hE5.lt (by rw [hb]; exact hP2)
  have hEw5 := Lib.hid (hEw2.trans hE5)
  have hPB : ¬ RdS2 (b + 1) b P0 := by rintro (e | e) <;> omega
  have hPt5 : Hid (l ≠ [] → ∃ R off, ao = some ⟨R, off, none⟩ ∧ RdP l R off W5 ∧ ¬ RdS2 (b + 1) b R) := by
    intro hne
    obtain ⟨R, off, e, hr⟩ := Hpt2.out.2.2 hne
    exact ⟨R, off, e, hr.ext hE5, by have := hr.1; rintro (e | e) <;> omega⟩
  have hcap := Hpt2.out.1
  have hcap2 := Hpt2.out.2.1
  unfold maxLen at hcap2
  have hbw : w.heap.size ≤ b := by rw [← hb]; exact hEw2.size
  clear q0 q1 qf hR2 hB2 hP2 hEw2 hE5 Hpt2 hb HA
  obtain ⟨B, hBB⟩ : ∃ B, b + 1 = B := ⟨_, rfl⟩
  rw [hBB] at HRD0 hPB hPt5 ⊢
  have hbB : b < B := by omega
  have hfar : ∀ k, k < w.heap.size → ¬ RdS2 B b k := by intro k hk; rintro (e | e) <;> omega
  clear hBB
  go_wp2_with fail
  go_loopw [38] (fun i wr => ∃ (j k : Nat) (vs : List (Int × Nat)), j ≤ l.length ∧ i = .int .i64 (j : Int) ∧ k ≤ s.length ∧ vs.length ≤ j ∧ Hid (rdL N l s 0 [] = rdL N (l.drop j) (s.drop k) k vs) ∧ Hid (Rdr N B b (s.drop k) vs wr) ∧ Hid (∀ x ∈ vs, x.2 ≤ 100000) ∧ Hid (Frm (RdS2 B b) W5 wr)) (fun i _ => l.length - (intOf i).toNat)
  case atStart => exact ⟨0, 0, [], Nat.zero_le _, rfl, Nat.zero_le _, Nat.le_refl _, rfl, HRD0.out, (by intro x hx; cases hx), Frm.refl _ _⟩
  case round =>
    obtain ⟨j, k, vs, hj, rfl, hk, hvl, HI, HRr, HV, HF⟩ := hrel
    have e0 := (HF.out.cel hP5 hPB 0).trans d0
    have e1 := (HF.out.cel hP5 hPB 1).trans d1
    have ef := fun o => (HF.out.frz hP5 hPB o).trans (df o)
    have hPr := HF.out.lt hP5
    have c40 : ∃ c D n, RdM N B b (s.drop k) c D n wr := by obtain ⟨c, D, n, h, _⟩ := HRr.out; exact ⟨c, D, n, h⟩
    obtain ⟨c, D, n, hM⟩ := c40
    have c40 := hM.rest
    have ltB := hM.lt
    have ltb := hM.blt
    clear hM
    have hkl : (s.drop k).length = s.length - k := List.length_drop
    by_cases hlt : j < l.length
    · obtain ⟨R, off, rfl, ⟨hRl, hRc⟩, hRB⟩ := hPt5.out (by rintro rfl; simp at hlt)
      have HRc := Lib.hid hRc
      obtain ⟨g0, g1, g2⟩ := hRc j hlt
      replace g0 := (HF.out.cel hRl hRB _).trans g0
      replace g1 := (HF.out.cel hRl hRB _).trans g1
      replace g2 := (HF.out.cel hRl hRB _).trans g2
      have hRr := HF.out.lt hRl
      have hp := HP.out l[j] (List.getElem_mem _)
      have HI2 := HI.out
      rw [List.drop_eq_getElem_cons hlt] at HI2
      obtain ⟨p, hpp⟩ : ∃ p, p = l[j] := ⟨_, rfl⟩
      rw [← hpp] at g0 g1 g2 hp HI2
      clear hpp hRc
      obtain ⟨pk, pw, pt⟩ := p
      simp only at g0 g1 g2
      obtain ⟨S, hS⟩ : ∃ S, S = s.drop k := ⟨_, rfl⟩
      have HSS := Lib.hid hS
      rw [← hS] at HI2 HRr c40 hkl
      have hSl : S.length ≤ 100000 := by omega
      have hvs : vs.length ≤ 1000 := by omega
      have hp2 := Lib.hid hp
      clear hS hp
      by_cases hnx : j + 1 < l.length
      · obtain ⟨n0, n1, n2⟩ := HRc.out (j + 1) hnx
        replace n0 := (HF.out.cel hRl hRB _).trans n0
        replace n1 := (HF.out.cel hRl hRB _).trans n1
        replace n2 := (HF.out.cel hRl hRB _).trans n2
        have hq0 : (l.drop (j + 1)).head? = some l[j + 1] := by rw [List.drop_eq_getElem_cons hnx]; rfl
        obtain ⟨q, hqq⟩ : ∃ q, q = l[j + 1] := ⟨_, rfl⟩
        rw [← hqq] at n0 n1 n2 hq0
        clear hqq
        obtain ⟨qk, qw, qt⟩ := q
        simp only at n0 n1 n2
        have hnx' : (j : Int) + 1 < (l.length : Int) := by omega
        have HI3 : Hid (rdL N l s 0 [] = match rd1 N ⟨pk, pw, pt⟩ (some ⟨qk, qw, qt⟩) S with | none => .inl (k + 1) | some (n, v) => rdL N (l.drop (j + 1)) (S.drop n) (k + n) (vs ++ v)) := by
          rw [Hid, HI2, rdL, hq0]
          cases rd1 N ⟨pk, pw, pt⟩ (some ⟨qk, qw, qt⟩) S <;> rfl
        clear HI2 hq0
        cases e : rd1 N ⟨pk, pw, pt⟩ (some ⟨qk, qw, qt⟩) S with
        | none =>
          have HE := Lib.hid e
          have HIn : Hid (rdL N l s 0 [] = .inl (k + 1)) := by rw [Hid, HI3.out, e]
          have HX : Hid (prsT N l s = (0, k + 1, 3)) := by rw [Hid, HT.out, HIn.out]
          clear HI3 e
          go_wp2_with (first
            | (go_at_call 64; (with_reducible refine (read_n N HN.out B b (some ⟨qk, qw, qt⟩) ⟨pk, pw, pt⟩ ⟨qk, qw, qt⟩ hp2.out (.inr rfl) S vs HE.out _ (HRr.out.ext (by (repeat (with_reducible (first | exact Ext.refl _ | refine Ext.alloc ?_ _ | refine Ext.drewN ?_ _ | refine Ext.drew ?_))))) hSl hvs).mono ?_); rintro e w9 ⟨rfl, hF9⟩))
          have hTB : ¬ RdS2 B b (wr.heap.size + 1 + 1) := by rintro (e | e) <;> omega
          have t0 : w9.cell? ⟨wr.heap.size + 1 + 1, 0, none⟩ = some (.int .i64 1) := (hF9.cel (by simp) hTB 0).trans (by go_simp)
          have t1 : w9.cell? ⟨wr.heap.size + 1 + 1, 1, none⟩ = some (.int .i64 ((k : Int) + 1)) := (hF9.cel (by simp) hTB 1).trans (by go_simp; omega)
          have e09 : w9.cell? ⟨P0, 0, none⟩ = some (.int .i64 0) := (hF9.cel (by simp; omega) hPB 0).trans (((show Ext wr _ from (by (repeat (with_reducible (first | exact Ext.refl _ | refine Ext.alloc ?_ _ | refine Ext.drewN ?_ _ | refine Ext.drew ?_))))).cells P0 0 hPr).trans e0)
          have e19 : w9.cell? ⟨P0, 1, none⟩ = some (.int .i64 0) := (hF9.cel (by simp; omega) hPB 1).trans (((show Ext wr _ from (by (repeat (with_reducible (first | exact Ext.refl _ | refine Ext.alloc ?_ _ | refine Ext.drewN ?_ _ | refine Ext.drew ?_))))).cells P0 1 hPr).trans e1)
          have ef9 : ∀ o, w9.frozen? ⟨P0, o, none⟩ = false := fun o => (hF9.frz (by simp; omega) hPB o).trans (((show Ext wr _ from (by (repeat (with_reducible (first | exact Ext.refl _ | refine Ext.alloc ?_ _ | refine Ext.drewN ?_ _ | refine Ext.drew ?_))))).frozens P0 o hPr).trans (ef o))
          have hP9 := hF9.lt (show P0 < _ by simp; omega)
          have hE9 := Lib.hid ((HF.out.trans ((Frm.of_ext (by (repeat (with_reducible (first | exact Ext.refl _ | refine Ext.alloc ?_ _ | refine Ext.drewN ?_ _ | refine Ext.drew ?_))))).trans hF9)).far hEw5.out hfar)
          clear hF9 e0 e1 ef
          go_region
          go_wp2_with fail
          refine bodyPost_ret (v := .tuple #[.int .i64 0, .agg #[.int .i64 1, .int .i64 ((k : Int) + 1)], .int .i64 3]) ?_ rfl ⟨?_, ?_⟩
          · simp [results, Tryz.results23, go_sem, e09, e19, hP9]
          · rw [HX.out]; simp [posV]
          · (repeat (with_reducible (first | exact hE9.out | refine Ext.setCell ?_ hPw _ | refine Ext.alloc ?_ _ | refine Ext.drewN ?_ _ | refine Ext.drew ?_)))
        | some nv =>
          obtain ⟨nn, vv⟩ := nv
          obtain ⟨bd1, bd2, bd3⟩ := rd1_bd HN.out hp2.out e
          have HE := Lib.hid e
          have Hbd := Lib.hid bd3
          have HIn : Hid (rdL N l s 0 [] = rdL N (l.drop (j + 1)) (S.drop nn) (k + nn) (vs ++ vv)) := by rw [Hid, HI3.out, e]
          clear HI3 e bd3
          go_wp2_with (first
            | (go_at_call 64; (with_reducible refine (read_y N HN.out B b (some ⟨qk, qw, qt⟩) ⟨pk, pw, pt⟩ ⟨qk, qw, qt⟩ hp2.out (.inr rfl) S vs nn vv HE.out _ (HRr.out.ext (by (repeat (with_reducible (first | exact Ext.refl _ | refine Ext.alloc ?_ _ | refine Ext.drewN ?_ _ | refine Ext.drew ?_))))) hSl hvs).mono ?_); rintro e w9 ⟨rfl, hF9, hR9⟩; have HR9 := Lib.hid hR9; have HF9 := Lib.hid (HF.out.trans ((Frm.of_ext (by (repeat (with_reducible (first | exact Ext.refl _ | refine Ext.alloc ?_ _ | refine Ext.drewN ?_ _ | refine Ext.drew ?_))))).trans hF9)); clear hR9 hF9))
          go_roundw
          case rel => exact ⟨j + 1, k + nn, vs ++ vv, by omega, by go_num, by omega, by rw [List.length_append]; omega, by rw [Hid, HIn.out, HSS.out, List.drop_drop], by have := HR9.out; rw [HSS.out, List.drop_drop] at this; exact this, by intro x hx; rcases List.mem_append.1 hx with q | q; exact HV.out x q; exact Hbd.out x q, HF9.out⟩
          case measure => simp [intOf]; omega
      · have hq0 : (l.drop (j + 1)).head? = none := by rw [List.drop_eq_nil_of_le (by omega)]; rfl
        have hnx' : ¬ (j : Int) + 1 < (l.length : Int) := by omega
        have HI3 : Hid (rdL N l s 0 [] = match rd1 N ⟨pk, pw, pt⟩ none S with | none => .inl (k + 1) | some (n, v) => rdL N (l.drop (j + 1)) (S.drop n) (k + n) (vs ++ v)) := by
          rw [Hid, HI2, rdL, hq0]
          cases rd1 N ⟨pk, pw, pt⟩ none S <;> rfl
        clear HI2 hq0 hnx
        cases e : rd1 N ⟨pk, pw, pt⟩ none S with
        | none =>
          have HE := Lib.hid e
          have HIn : Hid (rdL N l s 0 [] = .inl (k + 1)) := by rw [Hid, HI3.out, e]
          have HX : Hid (prsT N l s = (0, k + 1, 3)) := by rw [Hid, HT.out, HIn.out]
          clear HI3 e
          go_wp2_with (first
            | (go_at_call 64; (with_reducible refine (read_n N HN.out B b none ⟨pk, pw, pt⟩ ⟨0, 0, []⟩ hp2.out (.inl ⟨rfl, rfl⟩) S vs HE.out _ (HRr.out.ext (by (repeat (with_reducible (first | exact Ext.refl _ | refine Ext.alloc ?_ _ | refine Ext.drewN ?_ _ | refine Ext.drew ?_))))) hSl hvs).mono ?_); rintro e w9 ⟨rfl, hF9⟩))
          have hTB : ¬ RdS2 B b (wr.heap.size + 1 + 1) := by rintro (e | e) <;> omega
          have t0 : w9.cell? ⟨wr.heap.size + 1 + 1, 0, none⟩ = some (.int .i64 1) := (hF9.cel (by simp) hTB 0).trans (by go_simp)
          have t1 : w9.cell? ⟨wr.heap.size + 1 + 1, 1, none⟩ = some (.int .i64 ((k : Int) + 1)) := (hF9.cel (by simp) hTB 1).trans (by go_simp; omega)
          have e09 : w9.cell? ⟨P0, 0, none⟩ = some (.int .i64 0) := (hF9.cel (by simp; omega) hPB 0).trans (((show Ext wr _ from (by (repeat (with_reducible (first | exact Ext.refl _ | refine Ext.alloc ?_ _ | refine Ext.drewN ?_ _ | refine Ext.drew ?_))))).cells P0 0 hPr).trans e0)
          have e19 : w9.cell? ⟨P0, 1, none⟩ = some (.int .i64 0) := (hF9.cel (by simp; omega) hPB 1).trans (((show Ext wr _ from (by (repeat (with_reducible (first | exact Ext.refl _ | refine Ext.alloc ?_ _ | refine Ext.drewN ?_ _ | refine Ext.drew ?_))))).cells P0 1 hPr).trans e1)
          have ef9 : ∀ o, w9.frozen? ⟨P0, o, none⟩ = false := fun o => (hF9.frz (by simp; omega) hPB o).trans (((show Ext wr _ from (by (repeat (with_reducible (first | exact Ext.refl _ | refine Ext.alloc ?_ _ | refine Ext.drewN ?_ _ | refine Ext.drew ?_))))).frozens P0 o hPr).trans (ef o))
          have hP9 := hF9.lt (show P0 < _ by simp; omega)
          have hE9 := Lib.hid ((HF.out.trans ((Frm.of_ext (by (repeat (with_reducible (first | exact Ext.refl _ | refine Ext.alloc ?_ _ | refine Ext.drewN ?_ _ | refine Ext.drew ?_))))).trans hF9)).far hEw5.out hfar)
          clear hF9 e0 e1 ef
          go_region
          go_wp2_with fail
          refine bodyPost_ret (v := .tuple #[.int .i64 0, .agg #[.int .i64 1, .int .i64 ((k : Int) + 1)], .int .i64 3]) ?_ rfl ⟨?_, ?_⟩
          · simp [results, Tryz.results23, go_sem, e09, e19, hP9]
          · rw [HX.out]; simp [posV]
          · (repeat (with_reducible (first | exact hE9.out | refine Ext.setCell ?_ hPw _ | refine Ext.alloc ?_ _ | refine Ext.drewN ?_ _ | refine Ext.drew ?_)))
        | some nv =>
          obtain ⟨nn, vv⟩ := nv
          obtain ⟨bd1, bd2, bd3⟩ := rd1_bd HN.out hp2.out e
          have HE := Lib.hid e
          have Hbd := Lib.hid bd3
          have HIn : Hid (rdL N l s 0 [] = rdL N (l.drop (j + 1)) (S.drop nn) (k + nn) (vs ++ vv)) := by rw [Hid, HI3.out, e]
          clear HI3 e bd3
          go_wp2_with (first
            | (go_at_call 64; (with_reducible refine (read_y N HN.out B b none ⟨pk, pw, pt⟩ ⟨0, 0, []⟩ hp2.out (.inl ⟨rfl, rfl⟩) S vs nn vv HE.out _ (HRr.out.ext (by (repeat (with_reducible (first | exact Ext.refl _ | refine Ext.alloc ?_ _ | refine Ext.drewN ?_ _ | refine Ext.drew ?_))))) hSl hvs).mono ?_); rintro e w9 ⟨rfl, hF9, hR9⟩; have HR9 := Lib.hid hR9; have HF9 := Lib.hid (HF.out.trans ((Frm.of_ext (by (repeat (with_reducible (first | exact Ext.refl _ | refine Ext.alloc ?_ _ | refine Ext.drewN ?_ _ | refine Ext.drew ?_))))).trans hF9)); clear hR9 hF9))
          go_roundw
          case rel => exact ⟨j + 1, k + nn, vs ++ vv, by omega, by go_num, by omega, by rw [List.length_append]; omega, by rw [Hid, HIn.out, HSS.out, List.drop_drop], by have := HR9.out; rw [HSS.out, List.drop_drop] at this; exact this, by intro x hx; rcases List.mem_append.1 hx with q | q; exact HV.out x q; exact Hbd.out x q, HF9.out⟩
          case measure => simp [intOf]; omega
    · obtain rfl : j = l.length := by omega
      have HI2 := HI.out
      rw [List.drop_length, rdL] at HI2
      have hEr := Lib.hid (HF.out.far hEw5.out hfar)
      obtain ⟨S, hS⟩ : ∃ S, S = s.drop k := ⟨_, rfl⟩
      have HSS := Lib.hid hS
      rw [← hS] at HI2 HRr c40 hkl
      clear hS hlt
      by_cases hSe : S = []
      · subst hSe
        have HI3 : Hid (rdL N l s 0 [] = .inr vs) := HI2
        obtain ⟨X, Y, hXY⟩ : ∃ X Y, momP (gotK vs) (clB vs) = (X, Y) := ⟨_, _, rfl⟩
        have HM := Lib.hid hXY
        have HX : Hid (prsT N l s = if Y = true then (X, 0, 0) else (0, 0, 1)) := by rw [Hid, HT.out, HI3.out]; simp only [hXY]
        clear HI2 hXY
        cases Y with
        | true =>
          go_upto_region 19 with (first
            | (go_at_call 65; (with_reducible refine (rmom_l N B b [] vs X _ HM.out _ HRr.out HV.out).mono ?_); rintro e w9 ⟨rfl, hE9⟩; have e09 := (hE9.cells P0 0 hPr).trans e0; have e19 := (hE9.cells P0 1 hPr).trans e1; have ef9 := fun o => (hE9.frozens P0 o hPr).trans (ef o); have hP9 := hE9.lt hPr; have hEr9 := Lib.hid (hEr.out.trans hE9); clear hE9))
          clear e0 e1 ef hPr
          go_wp2_with fail
          refine bodyPost_ret (v := .tuple #[.int .i64 X, .agg #[.int .i64 0, .int .i64 0], .int .i64 0]) ?_ rfl ⟨?_, ?_⟩
          · simp [results, Tryz.results23, go_sem, e09, e19, hP9]
          · rw [HX.out]; rfl
          · (repeat (with_reducible (first | exact hEr9.out | refine Ext.setCell ?_ hPw _ | refine Ext.alloc ?_ _ | refine Ext.drewN ?_ _ | refine Ext.drew ?_)))
        | false =>
          go_upto_region 19 with (first
            | (go_at_call 65; (with_reducible refine (rmom_l N B b [] vs X _ HM.out _ HRr.out HV.out).mono ?_); rintro e w9 ⟨rfl, hE9⟩; have e09 := (hE9.cells P0 0 hPr).trans e0; have e19 := (hE9.cells P0 1 hPr).trans e1; have ef9 := fun o => (hE9.frozens P0 o hPr).trans (ef o); have hP9 := hE9.lt hPr; have hEr9 := Lib.hid (hEr.out.trans hE9); clear hE9))
          clear e0 e1 ef hPr
          go_wp2_with fail
          refine bodyPost_ret (v := .tuple #[.int .i64 0, .agg #[.int .i64 0, .int .i64 0], .int .i64 1]) ?_ rfl ⟨?_, ?_⟩
          · simp [results, Tryz.results23, go_sem, e09, e19, hP9]
          · rw [HX.out]; rfl
          · (repeat (with_reducible (first | exact hEr9.out | refine Ext.setCell ?_ hPw _ | refine Ext.alloc ?_ _ | refine Ext.drewN ?_ _ | refine Ext.drew ?_)))
      · have HIn : Hid (rdL N l s 0 [] = .inl (k + 1)) := by
          rw [Hid, HI2, if_neg (by simpa using hSe)]
        have HX : Hid (prsT N l s = (0, k + 1, 3)) := by rw [Hid, HT.out, HIn.out]
        have hne : (S == []) = false := by simpa using hSe
        clear HI2 hSe
        go_upto_region 17 with fail
        go_region
        go_wp2_with fail
        refine bodyPost_ret (v := .tuple #[.int .i64 0, .agg #[.int .i64 1, .int .i64 ((k : Int) + 1)], .int .i64 3]) ?_ rfl ⟨?_, ?_⟩
        · simp [results, Tryz.results23, go_sem, e0, e1, hPr]
          omega
        · rw [HX.out]; simp [posV]
        · (repeat (with_reducible (first | exact hEr.out | refine Ext.setCell ?_ hPw _ | refine Ext.alloc ?_ _ | refine Ext.drewN ?_ _ | refine Ext.drew ?_)))
end Go.Proofs.YticckkadmhklmaaGreatDoor
/- Patterns: the walk of Parse, whole. -/
namespace Go.Proofs.YticckkadmhklmaaGreatDoor
set_option linter.unusedVariables false
set_option linter.unusedSimpArgs false
open Go.RowKit Go.Maps

set_option maxRecDepth 100000 in
set_option maxHeartbeats 1000000 in
theorem parse_no (l : List Prt) (N : Nms) (s : List UInt8) (ao : Option Addr) (cap : Nat) (w : World) (h : PtV ao cap l w) (hl : ∀ p ∈ l, p.t.length ≤ 4000) (hN : N.ok) (hNl : ∀ s ∈ N.all, s.length ≤ 100000)
    (hs : s.length ≤ 9223372036854775806) (hno : ¬ (validB l = true ∧ nmOk N = true ∧ s.length ≤ 4000)) :
    Calls Tryz.prog 23 #[.slice ao l.length cap, .agg (sv N.all).toArray, .string ⟨s.toArray⟩] w (PrsR (prsT N l s) w) := by
  have hI := names_size hN
  have hR : ((w.alloc (.cells (sv N.all).toArray 27)).alloc (.cells #[.int .i64 0, .int .i64 0] 44)).rangeAt w.heap.size 0 (sv N.all) := by
    intro j v hv
    rw [World.cell?_alloc_lt _ _ _ (by simp), Nat.zero_add, World.cell?_alloc_new]
    simpa using hv
  have hEW : Ext w ((w.alloc (.cells (sv N.all).toArray 27)).alloc (.cells #[.int .i64 0, .int .i64 0] 44)) := ((Ext.refl w).alloc _).alloc _
  have p0 : ((w.alloc (.cells (sv N.all).toArray 27)).alloc (.cells #[.int .i64 0, .int .i64 0] 44)).cell? ⟨w.heap.size + 1, 0, none⟩ = some (.int .i64 0) := by
    simp
  have p1 : ((w.alloc (.cells (sv N.all).toArray 27)).alloc (.cells #[.int .i64 0, .int .i64 0] 44)).cell? ⟨w.heap.size + 1, 1, none⟩ = some (.int .i64 0) := by
    simp
  have pf : ∀ o, ((w.alloc (.cells (sv N.all).toArray 27)).alloc (.cells #[.int .i64 0, .int .i64 0] 44)).frozen? ⟨w.heap.size + 1, o, none⟩ = false := fun o => by
    simp
  have hz1 : w.heap.size < ((w.alloc (.cells (sv N.all).toArray 27)).alloc (.cells #[.int .i64 0, .int .i64 0] 44)).heap.size := by simp; omega
  have hz2 : w.heap.size + 1 < ((w.alloc (.cells (sv N.all).toArray 27)).alloc (.cells #[.int .i64 0, .int .i64 0] 44)).heap.size := by simp
  have Hl := Lib.hid hl
  have HN := Lib.hid hN
  have HNl := Lib.hid hNl
  have Hpt := Lib.hid h
  clear hl hN hNl h
  rcases Bool.eq_false_or_eq_true (validB l) with hv | hv
  · rcases Bool.eq_false_or_eq_true (nmOk N) with hn | hn
    · have h4 : 4000 < s.length := by
        rcases Nat.lt_or_ge 4000 s.length with q | q
        · exact q
        · exact absurd ⟨hv, hn, q⟩ hno
      have HX : Hid (prsT N l s = (0, 0, 5)) := by unfold Hid prsT; rw [if_pos ⟨hv, hn⟩, if_pos h4]
      have h4' : (4000 : Int) < (s.length : Int) := by omega
      have Hv := Lib.hid hv
      have Hn := Lib.hid hn
      clear hv hn hno h4
      go_enter Tryz.func23, Tryz.ntmps23
      go_upto_region 1 with fail
      generalize (w.alloc (.cells (sv N.all).toArray 27)).alloc (.cells #[.int .i64 0, .int .i64 0] 44) = W0 at hR hEW p0 p1 pf hz1 hz2 ⊢
      obtain ⟨P0, hP⟩ : ∃ P0, w.heap.size + 1 = P0 := ⟨_, rfl⟩
      have hPw : w.heap.size ≤ P0 := by omega
      rw [hP] at p0 p1 pf hz2 ⊢
      clear hP
      generalize hB : w.heap.size = BN at hR hz1 ⊢
      have HB := Lib.hid hB
      clear hB
      go_upto_region 3 with (first
        | (go_at_call 29; (with_reducible refine (valid_lit l true ao cap _ (Hpt.out.ext hEW) Hl.out Hv.out).mono ?_); rintro e w1 ⟨rfl, hE1⟩; have hR1 := rangeAt_ext hR hz1 hE1)
        | (refine wpList_load_midg (by rfl) 27 _ rfl BN 0 rfl (sv N.all) _ hR1 Tryz.underlying27 rfl hI ?_)
        | (go_at_call 11; (with_reducible refine (names_lit N true HN.out _ HNl.out Hn.out).mono ?_); rintro e w2 ⟨rfl, hE2⟩))
      have hE12 := hE1.trans hE2
      have e0 := (hE12.cells _ _ hz2).trans p0
      have e1 := (hE12.cells _ _ hz2).trans p1
      have ef := fun o => (hE12.frozens _ o hz2).trans (pf o)
      have hPr := hE12.lt hz2
      have hEr := Lib.hid (hEW.trans hE12)
      clear p0 p1 pf hz2 hE1 hE2 hE12 hR hR1
      go_wp2_with fail
      refine bodyPost_ret (v := .tuple #[.int .i64 0, .agg #[.int .i64 0, .int .i64 0], .int .i64 5]) ?_ rfl ⟨?_, ?_⟩
      · simp [results, Tryz.results23, go_sem, e0, e1, hPr]
      · rw [HX.out]; rfl
      · (repeat (with_reducible (first | exact hEr.out | refine Ext.setCell ?_ hPw _ | refine Ext.alloc ?_ _ | refine Ext.drewN ?_ _ | refine Ext.drew ?_)))
    · have HX : Hid (prsT N l s = (0, 0, 1)) := by unfold Hid prsT; rw [if_neg (by rw [hn]; simp)]
      have Hv := Lib.hid hv
      have Hn := Lib.hid hn
      clear hv hn hno
      go_enter Tryz.func23, Tryz.ntmps23
      go_upto_region 1 with fail
      generalize (w.alloc (.cells (sv N.all).toArray 27)).alloc (.cells #[.int .i64 0, .int .i64 0] 44) = W0 at hR hEW p0 p1 pf hz1 hz2 ⊢
      obtain ⟨P0, hP⟩ : ∃ P0, w.heap.size + 1 = P0 := ⟨_, rfl⟩
      have hPw : w.heap.size ≤ P0 := by omega
      rw [hP] at p0 p1 pf hz2 ⊢
      clear hP
      generalize hB : w.heap.size = BN at hR hz1 ⊢
      have HB := Lib.hid hB
      clear hB
      go_upto_region 2 with (first
        | (go_at_call 29; (with_reducible refine (valid_lit l true ao cap _ (Hpt.out.ext hEW) Hl.out Hv.out).mono ?_); rintro e w1 ⟨rfl, hE1⟩; have hR1 := rangeAt_ext hR hz1 hE1)
        | (refine wpList_load_midg (by rfl) 27 _ rfl BN 0 rfl (sv N.all) _ hR1 Tryz.underlying27 rfl hI ?_)
        | (go_at_call 11; (with_reducible refine (names_lit N false HN.out _ HNl.out Hn.out).mono ?_); rintro e w2 ⟨rfl, hE2⟩))
      have hE12 := hE1.trans hE2
      have e0 := (hE12.cells _ _ hz2).trans p0
      have e1 := (hE12.cells _ _ hz2).trans p1
      have ef := fun o => (hE12.frozens _ o hz2).trans (pf o)
      have hPr := hE12.lt hz2
      have hEr := Lib.hid (hEW.trans hE12)
      clear p0 p1 pf hz2 hE1 hE2 hE12 hR hR1
      go_wp2_with fail
      refine bodyPost_ret (v := .tuple #[.int .i64 0, .agg #[.int .i64 0, .int .i64 0], .int .i64 1]) ?_ rfl ⟨?_, ?_⟩
      · simp [results, Tryz.results23, go_sem, e0, e1, hPr]
      · rw [HX.out]; rfl
      · (repeat (with_reducible (first | exact hEr.out | refine Ext.setCell ?_ hPw _ | refine Ext.alloc ?_ _ | refine Ext.drewN ?_ _ | refine Ext.drew ?_)))
  · have HX : Hid (prsT N l s = (0, 0, 1)) := by unfold Hid prsT; rw [if_neg (by rw [hv]; simp)]
    have Hv := Lib.hid hv
    clear hv hno
    go_enter Tryz.func23, Tryz.ntmps23
    go_upto_region 1 with fail
    generalize (w.alloc (.cells (sv N.all).toArray 27)).alloc (.cells #[.int .i64 0, .int .i64 0] 44) = W0 at hR hEW p0 p1 pf hz1 hz2 ⊢
    obtain ⟨P0, hP⟩ : ∃ P0, w.heap.size + 1 = P0 := ⟨_, rfl⟩
    have hPw : w.heap.size ≤ P0 := by omega
    rw [hP] at p0 p1 pf hz2 ⊢
    clear hP
    go_upto_region 2 with (first
      | (go_at_call 29; (with_reducible refine (valid_lit l false ao cap _ (Hpt.out.ext hEW) Hl.out Hv.out).mono ?_); rintro e w1 ⟨rfl, hE1⟩))
    have e0 := (hE1.cells _ _ hz2).trans p0
    have e1 := (hE1.cells _ _ hz2).trans p1
    have ef := fun o => (hE1.frozens _ o hz2).trans (pf o)
    have hPr := hE1.lt hz2
    have hEr := Lib.hid (hEW.trans hE1)
    clear p0 p1 pf hz2 hE1 hR
    go_wp2_with fail
    refine bodyPost_ret (v := .tuple #[.int .i64 0, .agg #[.int .i64 0, .int .i64 0], .int .i64 1]) ?_ rfl ⟨?_, ?_⟩
    · simp [results, Tryz.results23, go_sem, e0, e1, hPr]
    · rw [HX.out]; rfl
    · (repeat (with_reducible (first | exact hEr.out | refine Ext.setCell ?_ hPw _ | refine Ext.alloc ?_ _ | refine Ext.drewN ?_ _ | refine Ext.drew ?_)))
theorem parse_c (l : List Prt) (N : Nms) (s : List UInt8) (ao : Option Addr) (cap : Nat) (w : World) (h : PtV ao cap l w) (hl : ∀ p ∈ l, p.t.length ≤ 4000) (hN : N.ok) (hNl : ∀ s ∈ N.all, s.length ≤ 100000) (hs : s.length ≤ 9223372036854775806) :
    Calls Tryz.prog 23 #[.slice ao l.length cap, .agg (sv N.all).toArray, .string ⟨s.toArray⟩] w (PrsR (prsT N l s) w) := by
  by_cases q : validB l = true ∧ nmOk N = true ∧ s.length ≤ 4000
  · exact parse_ok l N s ao cap w h hl hN hNl q.1 q.2.1 q.2.2
  · exact parse_no l N s ao cap w h hl hN hNl hs q
end Go.Proofs.YticckkadmhklmaaGreatDoor
