/- Locales: a valid locale's text is read as its contents, plainly; its size. -/
import Derived.Test.YtnhdmnhfllecgaaGreatDoorQ36
import Derived.Test.YtnhdmnhfllecgaaGreatDoorQ27
import Derived.Test.YtnhdmnhfllecgaaGreatDoorQ07
import Derived.Test.YtnhdmnhfllecgaaGreatDoorQ09
import Derived.Test.YtnhdmnhfllecgaaGreatDoorQ25
import Derived.Test.YtnhdmnhfllecgaaGreatDoorQ04
namespace Go.Proofs.YtnhdmnhfllecgaaGreatDoor
set_option linter.unusedVariables false
set_option linter.unusedSimpArgs false
open Go.RowKit

/-- A locale's contents. -/
def Loc.dat (L : Loc) : LocD := ⟨L.nm, L.N, L.P, L.O, L.U.map (fun u => ⟨u.s.natAbs, u.f⟩), L.pt⟩
theorem dat_of {L : Loc} (h : ∀ u ∈ L.U, 0 ≤ u.s) : Dat L L.dat := by
  refine ⟨rfl, rfl, rfl, rfl, ?_, rfl⟩
  unfold Loc.dat LocD.loc
  simp only [List.map_map]
  refine List.map_congr_left fun u hu => ?_
  have := h u hu
  simp only [Function.comp, Uni.sf, UniD.uni]
  congr 1
  omega
theorem lnU_sf {u v : Uni} (h : u.sf = v.sf) : lnU u = lnU v := by
  unfold Uni.sf at h
  injection h with h1 h2
  unfold lnU
  rw [h1, h2]
theorem lnsU_sf : ∀ {l m : List Uni}, l.map Uni.sf = m.map Uni.sf → lnsU l = lnsU m
  | [], [], _ => rfl
  | [], _ :: _, h => by simp at h
  | _ :: _, [], h => by simp at h
  | u :: l, v :: m, h => by
    simp only [List.map_cons, List.cons.injEq] at h
    have := lnsU_sf h.2
    unfold lnsU at *
    simp only [List.map_cons, List.flatten_cons]
    rw [lnU_sf h.1, this]
/-- The text hangs on the contents. -/
theorem txL_dat {L : Loc} {D : LocD} (h : Dat L D) : txL L = txL D.loc := by
  unfold txL
  rw [h.nm, h.N, h.P, h.O, h.pt, lnsU_sf h.U]
  rfl
theorem wrd_inj (i j : Nat) (hi : i ≤ 9) (hj : j ≤ 9) (h : wrd i = wrd j) : i = j := by
  have a : ∀ i ≤ 9, ∀ j ≤ 9, wrd i = wrd j → i = j := by decide
  exact a i hi j hj h
theorem cut_wrd (st : Nat) (t : List UInt8) : cut1 (wrd st ++ 32 :: t) = (wrd st, t, true) := cut1_at _ _ (wrd_blank st)
theorem stg_wrd (st cnt : Nat) (t : List UInt8) (hs : st ≤ 9) : stgL st cnt (wrd st ++ 32 :: t) = st ∧ cntL st cnt (wrd st ++ 32 :: t) = cnt := by
  have h : ¬ (6 ≤ st ∧ st ≤ 8 ∧ 0 < cnt ∧ (cut1 (wrd st ++ 32 :: t)).2.2 = true ∧ (cut1 (wrd st ++ 32 :: t)).1 = wrd (st + 1)) := by
    rintro ⟨a, b, c, d, e⟩
    rw [cut_wrd] at e
    have := wrd_inj st (st + 1) hs (by omega) e
    omega
  unfold stgL cntL
  rw [if_neg h, if_neg h]
  exact ⟨rfl, rfl⟩
theorem runl_one (tl : Bool) (st cnt at_ : Nat) (D D' : LocD) (t : List UInt8) (ls : List (List UInt8)) (hs : st < 6 ∨ st = 9) (ha : addL st D t = some D') :
    runL tl st cnt at_ D ((wrd st ++ 32 :: t) :: ls) = runL tl (st + 1) 0 (at_ + 1) D' ls := by
  obtain ⟨e1, e2⟩ := stg_wrd st cnt t (by omega)
  rw [runL, if_neg (by omega), e1, cut_wrd, if_neg (by simp), ha]
  simp only
  rw [if_pos hs]
theorem runl_more (tl : Bool) (st cnt at_ : Nat) (D D' : LocD) (t : List UInt8) (ls : List (List UInt8)) (h1 : 6 ≤ st) (h2 : st ≤ 8) (ha : addL st D t = some D') :
    runL tl st cnt at_ D ((wrd st ++ 32 :: t) :: ls) = runL tl st (cnt + 1) (at_ + 1) D' ls := by
  obtain ⟨e1, e2⟩ := stg_wrd st cnt t (by omega)
  rw [runL, if_neg (by omega), e1, e2, cut_wrd, if_neg (by simp), ha]
  simp only
  rw [if_neg (by omega)]
theorem runl_next (tl : Bool) (st cnt at_ : Nat) (D : LocD) (t : List UInt8) (ls : List (List UInt8)) (h1 : 6 ≤ st) (h2 : st ≤ 8) (hc : 0 < cnt) :
    runL tl st cnt at_ D ((wrd (st + 1) ++ 32 :: t) :: ls) = runL tl (st + 1) 0 at_ D ((wrd (st + 1) ++ 32 :: t) :: ls) := by
  obtain ⟨e1, e2⟩ := stg_wrd (st + 1) 0 t (by omega)
  have hq : 6 ≤ st ∧ st ≤ 8 ∧ 0 < cnt ∧ (cut1 (wrd (st + 1) ++ 32 :: t)).2.2 = true ∧ (cut1 (wrd (st + 1) ++ 32 :: t)).1 = wrd (st + 1) := by
    rw [cut_wrd]; exact ⟨h1, h2, hc, rfl, rfl⟩
  have f1 : stgL st cnt (wrd (st + 1) ++ 32 :: t) = st + 1 := by unfold stgL; rw [if_pos hq]
  have f2 : cntL st cnt (wrd (st + 1) ++ 32 :: t) = 0 := by unfold cntL; rw [if_pos hq]
  have g1 : ¬ 10 ≤ st := by omega
  have g2 : ¬ 10 ≤ st + 1 := by omega
  rw [runL, f1, f2, if_neg g1]
  conv => rhs; rw [runL, e1, e2, if_neg g2]
/-- A line of a category without its word. -/
def tlC (p : Plu) : List UInt8 := p.c ++ (if p.r = [] then [] else 32 :: p.r)
theorem lnC_tl (w : List UInt8) (p : Plu) : lnC w p = (w ++ 32 :: tlC p) ++ [10] := by unfold lnC tlC; simp
theorem cut_tlC {p : Plu} (h : Cln 32 p.c) : (cut1 (tlC p)).1 = p.c ∧ (cut1 (tlC p)).2.1 = p.r ∧ ((cut1 (tlC p)).2.2 = true → p.r ≠ []) := by
  unfold tlC
  by_cases e : p.r = []
  · rw [if_pos e, List.append_nil, cut1_no p.c h, e]
    exact ⟨rfl, rfl, fun q => by cases q⟩
  · rw [if_neg e, cut1_at p.c p.r h]
    exact ⟨rfl, rfl, fun _ => e⟩
theorem add_P (D : LocD) (p : Plu) (h : Cln 32 p.c) (h2 : p.c ≠ []) : addL 6 D (tlC p) = some { D with P := D.P ++ [p] } := by
  obtain ⟨a, b, c⟩ := cut_tlC h
  rw [addL, if_neg (by decide), if_neg (by decide), if_pos (by decide), if_neg ?_, if_pos rfl, a, b]
  rw [a, b]
  rintro (q | ⟨q1, q2⟩)
  · exact h2 q
  · exact c q1 q2
theorem add_O (D : LocD) (p : Plu) (h : Cln 32 p.c) (h2 : p.c ≠ []) : addL 7 D (tlC p) = some { D with O := D.O ++ [p] } := by
  obtain ⟨a, b, c⟩ := cut_tlC h
  rw [addL, if_neg (by decide), if_neg (by decide), if_pos (by decide), if_neg ?_, if_neg (by decide), a, b]
  rw [a, b]
  rintro (q | ⟨q1, q2⟩)
  · exact h2 q
  · exact c q1 q2
theorem run_P (tl : Bool) : ∀ (l : List Plu) (cnt at_ : Nat) (D : LocD) (ls : List (List UInt8)), (∀ p ∈ l, Cln 32 p.c ∧ p.c ≠ []) →
    runL tl 6 cnt at_ D (l.map (fun p => wPlural ++ 32 :: tlC p) ++ ls) = runL tl 6 (cnt + l.length) (at_ + l.length) { D with P := D.P ++ l } ls
  | [], cnt, at_, D, ls, h => by simp
  | p :: l, cnt, at_, D, ls, h => by
    rw [List.map_cons, List.cons_append]
    have := runl_more tl 6 cnt at_ D _ (tlC p) (l.map (fun p => wPlural ++ 32 :: tlC p) ++ ls) (by decide) (by decide) (add_P D p (h p (by simp)).1 (h p (by simp)).2)
    refine this.trans ?_
    rw [run_P tl l (cnt + 1) (at_ + 1) _ ls (fun q hq => h q (by simp [hq]))]
    simp only [List.length_cons, List.append_assoc, List.singleton_append]
    congr 1 <;> omega
theorem run_O (tl : Bool) : ∀ (l : List Plu) (cnt at_ : Nat) (D : LocD) (ls : List (List UInt8)), (∀ p ∈ l, Cln 32 p.c ∧ p.c ≠ []) →
    runL tl 7 cnt at_ D (l.map (fun p => wOrdinal ++ 32 :: tlC p) ++ ls) = runL tl 7 (cnt + l.length) (at_ + l.length) { D with O := D.O ++ l } ls
  | [], cnt, at_, D, ls, h => by simp
  | p :: l, cnt, at_, D, ls, h => by
    rw [List.map_cons, List.cons_append]
    have := runl_more tl 7 cnt at_ D _ (tlC p) (l.map (fun p => wOrdinal ++ 32 :: tlC p) ++ ls) (by decide) (by decide) (add_O D p (h p (by simp)).1 (h p (by simp)).2)
    refine this.trans ?_
    rw [run_O tl l (cnt + 1) (at_ + 1) _ ls (fun q hq => h q (by simp [hq]))]
    simp only [List.length_cons, List.append_assoc, List.singleton_append]
    congr 1 <;> omega
theorem spl_join (c : UInt8) : ∀ (l : List (List UInt8)), l ≠ [] → (∀ a ∈ l, Cln c a) → spl c (Lib.join l [c]) = l
  | [], h, _ => absurd rfl h
  | [x], _, h => by rw [Lib.join_one]; exact spl_nno c x (h x (by simp))
  | x :: y :: r, _, h => by
    have ih := spl_join c (y :: r) (by simp) (fun a ha => h a (by simp [ha]))
    have e : Lib.join (x :: y :: r) [c] = x ++ c :: Lib.join (y :: r) [c] := by
      rw [Lib.join_cons, Lib.join_cons]; simp [Lib.joinTail]
    rw [e, spl_stp c _ x (h x (by simp)), ih]
/-- A line of a unit without its word. -/
def tlU (u : Uni) : List UInt8 := itx u.s.natAbs 1 ++ 32 :: Lib.join (u.f.map (·.r)) [44]
theorem lnU_tl (u : Uni) : lnU u = (wUnit ++ 32 :: tlU u) ++ [10] := by unfold lnU tlU; simp
theorem itx_cln (n : Nat) (c : UInt8) (h : isDg c = false) : Cln c (itx n 1) := cln_all (itx_all n 1) h
theorem itx_numM {n : Nat} (h1 : 1 ≤ n) (h2 : n ≤ 1099511627776) : numM 13 (itx n 1) = true := by
  have hl := itx_len_le (n := n) (k := 1) (m := 13) (by decide) (by decide) (by omega)
  unfold numM
  simp only [Bool.and_eq_true, decide_eq_true_eq, Bool.not_eq_true', Bool.and_eq_false_iff, beq_eq_false_iff_ne, decide_eq_false_iff_not]
  refine ⟨⟨⟨hl.2.2, hl.2.1⟩, ?_⟩, itx_all n 1⟩
  left
  intro q
  have hp := Lib.nDigits_pos n
  unfold itx at q
  obtain ⟨k, hk⟩ : ∃ k, max (Lib.nDigits n) 1 = k + 1 := ⟨max (Lib.nDigits n) 1 - 1, by omega⟩
  rw [hk, padN_cons, List.head?_cons] at q
  injection q with q
  have h3 := pow_nDigits n k (by omega) (by omega)
  have h4 : n / 10 ^ k < 10 := by
    have := Lib.lt_pow_nDigits n
    rw [show Lib.nDigits n = k + 1 by omega, Nat.pow_succ] at this
    exact Nat.div_lt_of_lt_mul (by rw [Nat.mul_comm] at this; rwa [Nat.mul_comm])
  have h5 := congrArg UInt8.toNat q
  rw [dg1_toNat, Nat.mod_eq_of_lt h4] at h5
  have h6 : (48 : UInt8).toNat = 48 := rfl
  omega
theorem zip_f : ∀ (P f : List Plu), f.length = P.length → (∀ k (hk : k < f.length) (hp : k < P.length), (f[k]).c = (P[k]).c) → (P.zip (f.map (·.r))).map (fun q : Plu × List UInt8 => (⟨q.1.c, q.2⟩ : Plu)) = f
  | [], [], _, _ => rfl
  | [], _ :: _, h, _ => by simp at h
  | _ :: _, [], h, _ => by simp at h
  | p :: P, x :: f, h, hc => by
    have h0 := hc 0 (by simp) (by simp)
    have ih := zip_f P f (by simpa using h) (fun k hk hp => by
      have := hc (k + 1) (by simpa using hk) (by simpa using hp)
      simpa using this)
    simp only [List.map_cons, List.zip_cons_cons]
    rw [ih]
    congr 1
    have h0 : x.c = p.c := h0
    rw [← h0]
/-- What is asked of a unit. -/
def UOk (P : List Plu) (u : Uni) : Prop := 1 ≤ u.s ∧ u.s ≤ 1099511627776 ∧ u.f.length = P.length ∧ (∀ k (hk : k < u.f.length) (hp : k < P.length), (u.f[k]).c = (P[k]).c) ∧ ∀ p ∈ u.f, formB p.r = true
theorem join_ne {x : List UInt8} {r : List (List UInt8)} (h : x ≠ []) (sep : List UInt8) : Lib.join (x :: r) sep ≠ [] := by
  rw [Lib.join_cons]
  cases x with
  | nil => exact absurd rfl h
  | cons a b => simp
theorem forms_cln {P : List Plu} {u : Uni} (h : UOk P u) : ∀ a ∈ u.f.map (·.r), Cln 10 a ∧ Cln 44 a ∧ a ≠ [] ∧ a.length ≤ 30 := by
  intro a ha
  obtain ⟨p, hp, rfl⟩ := List.mem_map.1 ha
  exact form_cln (h.2.2.2.2 p hp)
theorem add_U (D : LocD) (u : Uni) (h : UOk D.P u) (hP : 1 ≤ D.P.length) : addL 8 D (tlU u) = some { D with U := D.U ++ [⟨u.s.natAbs, u.f⟩] } := by
  have hf := forms_cln h
  obtain ⟨h1, h2, h3, h4, h5⟩ := h
  have hne : u.f.map (·.r) ≠ [] := by
    intro e
    have := congrArg List.length e
    simp at this
    rw [this] at h3
    simp at h3
    omega
  have hc : cut1 (tlU u) = (itx u.s.natAbs 1, Lib.join (u.f.map (·.r)) [44], true) := cut1_at _ _ (itx_cln _ 32 (by decide))
  have hs := spl_join 44 _ hne (fun a ha => (hf a ha).2.1)
  have hj : Lib.join (u.f.map (·.r)) [44] ≠ [] := by
    obtain ⟨x, r, e⟩ := List.exists_cons_of_ne_nil hne
    rw [e]
    exact join_ne (hf x (by rw [e]; simp)).2.2.1 _
  rw [addL, if_neg (by decide), if_neg (by decide), if_neg (by decide), if_pos rfl, hc]
  simp only
  rw [hs, if_neg ?_, zip_f D.P u.f h3 h4, itx_val]
  rw [itx_numM (by omega) (by omega), List.length_map]
  simp only [Bool.true_eq_false, false_or, not_or]
  exact ⟨hj, fun q => q h3⟩
theorem run_U (tl : Bool) (P : List Plu) (hP : 1 ≤ P.length) : ∀ (l : List Uni) (cnt at_ : Nat) (D : LocD) (ls : List (List UInt8)), D.P = P → (∀ u ∈ l, UOk P u) →
    runL tl 8 cnt at_ D (l.map (fun u => wUnit ++ 32 :: tlU u) ++ ls) = runL tl 8 (cnt + l.length) (at_ + l.length) { D with U := D.U ++ l.map (fun u => ⟨u.s.natAbs, u.f⟩) } ls
  | [], cnt, at_, D, ls, hD, h => by simp
  | p :: l, cnt, at_, D, ls, hD, h => by
    rw [List.map_cons, List.cons_append]
    have := runl_more tl 8 cnt at_ D _ (tlU p) (l.map (fun u => wUnit ++ 32 :: tlU u) ++ ls) (by decide) (by decide) (add_U D p (by rw [hD]; exact h p (by simp)) (by rw [hD]; exact hP))
    refine this.trans ?_
    rw [run_U tl P hP l (cnt + 1) (at_ + 1) { D with U := D.U ++ [⟨p.s.natAbs, p.f⟩] } ls hD (fun q hq => h q (by simp [hq]))]
    simp only [List.length_cons, List.append_assoc, List.singleton_append, List.map_cons]
    congr 1 <;> omega
/-- The lines of a locale's text. -/
def lnsL (L : Loc) : List (List UInt8) :=
  (wrd 0 ++ 32 :: L.nm) :: (wrd 1 ++ 32 :: Lib.join L.N.mo [44]) :: (wrd 2 ++ 32 :: Lib.join L.N.sh [44]) :: (wrd 3 ++ 32 :: Lib.join L.N.da [44]) :: (wrd 4 ++ 32 :: Lib.join L.N.sd [44]) :: (wrd 5 ++ 32 :: Lib.join L.N.ha [44]) ::
  (L.P.map (fun p => wPlural ++ 32 :: tlC p) ++ (L.O.map (fun p => wOrdinal ++ 32 :: tlC p) ++ (L.U.map (fun u => wUnit ++ 32 :: tlU u) ++ [wrd 9 ++ 32 :: L.pt])))
theorem lnsC_tl (w : List UInt8) : ∀ l : List Plu, lnsC w l = ((l.map (fun p => w ++ 32 :: tlC p)).map (· ++ [10])).flatten
  | [] => rfl
  | p :: l => by
    have := lnsC_tl w l
    unfold lnsC at *
    simp only [List.map_cons, List.flatten_cons]
    rw [this, lnC_tl]
theorem lnsU_tl : ∀ l : List Uni, lnsU l = ((l.map (fun u => wUnit ++ 32 :: tlU u)).map (· ++ [10])).flatten
  | [] => rfl
  | p :: l => by
    have := lnsU_tl l
    unfold lnsU at *
    simp only [List.map_cons, List.flatten_cons]
    rw [this, lnU_tl]
theorem txL_lns (L : Loc) : txL L = ((lnsL L).map (· ++ [10])).flatten := by
  unfold txL lnsL
  rw [lnsC_tl, lnsC_tl, lnsU_tl]
  simp [wrd, lnN, List.append_assoc]
theorem spl_lns (c : UInt8) : ∀ ls : List (List UInt8), (∀ a ∈ ls, Cln c a) → spl c ((ls.map (· ++ [c])).flatten) = ls ++ [[]]
  | [], _ => rfl
  | l :: ls, h => by
    simp only [List.map_cons, List.flatten_cons, List.append_assoc, List.singleton_append]
    rw [spl_stp c _ l (h l (by simp)), spl_lns c ls (fun a ha => h a (by simp [ha]))]
    rfl
theorem val_facts {L : Loc} (h : validLB L = true) : (cmpT L.pt).2.2 = 0 ∧ zNameB L.nm = true ∧ nmOk L.N = true ∧ rulB wordB L.P = true ∧ rulB suffB L.O = true := by
  unfold validLB at h
  simp only [Bool.and_eq_true, decide_eq_true_eq] at h
  obtain ⟨⟨⟨⟨⟨⟨a, b⟩, c⟩, d⟩, e⟩, f⟩, g⟩ := h
  exact ⟨a, b, c, d, e⟩
theorem val_units {L : Loc} (h : validLB L = true) : L.U.length ≤ 10 ∧ ∀ u ∈ L.U, UOk L.P u := by
  obtain ⟨v1, v2⟩ := vu h
  have hu := uf_of v1 v2
  refine ⟨hu.ten, fun u hm => ?_⟩
  obtain ⟨i, hi, rfl⟩ := List.mem_iff_getElem.1 hm
  obtain ⟨a1, a2, a3, a4⟩ := hu.at_ i hi
  obtain ⟨-, -, b3⟩ := v2 i hi hi
  refine ⟨a1, a2, a3, fun k hk hp => (b3 k hk hp).1, fun p hp => ?_⟩
  obtain ⟨k, hk, rfl⟩ := List.mem_iff_getElem.1 hp
  exact a4 k hk
theorem nms_facts {L : Loc} (h : validLB L = true) : ∀ l, (l = L.N.mo ∨ l = L.N.sh ∨ l = L.N.da ∨ l = L.N.sd ∨ l = L.N.ha) → ∀ a ∈ l, Cln 10 a ∧ Cln 44 a ∧ a.length ≤ 30 := by
  have h1 := (val_facts h).2.2.1
  unfold nmOk at h1
  simp only [Bool.and_eq_true] at h1
  rintro l (rfl | rfl | rfl | rfl | rfl)
  · exact names_cln h1.1.1.1.1
  · exact names_cln h1.1.1.1.2
  · exact names_cln h1.1.1.2
  · exact names_cln h1.1.2
  · exact names_cln h1.2
theorem lnsL_all {L : Loc} (Q : List UInt8 → Prop) (h0 : Q (wrd 0 ++ 32 :: L.nm)) (h1 : ∀ w l, (∃ k, w = wrd k) → (l = L.N.mo ∨ l = L.N.sh ∨ l = L.N.da ∨ l = L.N.sd ∨ l = L.N.ha) → Q (w ++ 32 :: Lib.join l [44]))
    (h2 : ∀ p ∈ L.P, Q (wPlural ++ 32 :: tlC p)) (h3 : ∀ p ∈ L.O, Q (wOrdinal ++ 32 :: tlC p)) (h4 : ∀ u ∈ L.U, Q (wUnit ++ 32 :: tlU u)) (h5 : Q (wrd 9 ++ 32 :: L.pt)) : ∀ a ∈ lnsL L, Q a := by
  intro a ha
  unfold lnsL at ha
  simp only [List.mem_cons, List.mem_append, List.mem_map, List.not_mem_nil, or_false] at ha
  rcases ha with rfl | rfl | rfl | rfl | rfl | rfl | ⟨p, hp, rfl⟩ | ⟨p, hp, rfl⟩ | ⟨p, hp, rfl⟩ | rfl
  · exact h0
  · exact h1 _ _ ⟨1, rfl⟩ (.inl rfl)
  · exact h1 _ _ ⟨2, rfl⟩ (.inr (.inl rfl))
  · exact h1 _ _ ⟨3, rfl⟩ (.inr (.inr (.inl rfl)))
  · exact h1 _ _ ⟨4, rfl⟩ (.inr (.inr (.inr (.inl rfl))))
  · exact h1 _ _ ⟨5, rfl⟩ (.inr (.inr (.inr (.inr rfl))))
  · exact h2 p hp
  · exact h3 p hp
  · exact h4 p hp
  · exact h5
theorem wrd_len (k : Nat) : (wrd k).length ≤ 9 := by unfold wrd; split <;> decide
theorem wrd_cln (k : Nat) : Cln 10 (wrd k) := by
  intro x hx e
  subst e
  unfold wrd at hx
  split at hx <;> exact absurd hx (by decide)
/-- The lines: no newline, of moderate length. -/
theorem lns_cln {L : Loc} (h : validLB L = true) (hN : L.N.ok) : ∀ a ∈ lnsL L, Cln 10 a ∧ a.length ≤ 400 := by
  obtain ⟨f1, f2, f3, f4, f5⟩ := val_facts h
  obtain ⟨p1, p2⟩ := cmpT_cln f1
  obtain ⟨z1, z2⟩ := zName_cln f2
  obtain ⟨r1, r2, r3⟩ := rul_cln (fun s hs => word_cln hs) f4
  obtain ⟨o1, o2, o3⟩ := rul_cln (fun s hs => suff_cln hs) f5
  obtain ⟨u1, u2⟩ := val_units h
  have c32 : ∀ {a b : List UInt8}, Cln 10 a → Cln 10 b → Cln 10 (a ++ 32 :: b) := fun ha hb => ha.app (hb.cons (by decide))
  have ctl : ∀ p : Plu, Cln 10 p.c → Cln 10 p.r → Cln 10 (tlC p) := fun p a b => by
    unfold tlC
    refine a.app ?_
    split
    · exact Cln.nil
    · exact b.cons (by decide)
  have ltl : ∀ p : Plu, p.c.length ≤ 10 → p.r.length ≤ 200 → (tlC p).length ≤ 211 := fun p a b => by
    unfold tlC
    rw [List.length_append]
    split
    · simp; omega
    · rw [List.length_cons]; omega
  have w0 := wrd_len 0
  have w9 := wrd_len 9
  refine lnsL_all (fun a => Cln 10 a ∧ a.length ≤ 400) ⟨c32 (wrd_cln 0) z1, ?_⟩ ?_ ?_ ?_ ?_ ⟨c32 (wrd_cln 9) p1, ?_⟩
  · simp only [List.length_append, List.length_cons]; omega
  · rintro w l ⟨k, rfl⟩ hl
    have hn := nms_facts h l hl
    have hk := wrd_len k
    refine ⟨c32 (wrd_cln k) (join_cln (cln_dec _ (by decide)) l (fun a ha => (hn a ha).1)), ?_⟩
    have hj := join_le l [44] 30 (fun a ha => (hn a ha).2.2)
    have hl12 : l.length ≤ 12 := by
      obtain ⟨n1, n2, n3, n4, n5⟩ := hN
      rcases hl with rfl | rfl | rfl | rfl | rfl <;> omega
    simp only [List.length_append, List.length_cons, List.length_nil] at *
    omega
  · intro p hp
    obtain ⟨a1, a2, a3, a4, a5, a6⟩ := r3 p hp
    have := ltl p a4 a6
    refine ⟨c32 (wrd_cln 6) (ctl p a1 a5), ?_⟩
    have hw : wPlural.length = 6 := rfl
    simp only [List.length_append, List.length_cons]; omega
  · intro p hp
    obtain ⟨a1, a2, a3, a4, a5, a6⟩ := o3 p hp
    have := ltl p a4 a6
    refine ⟨c32 (wrd_cln 7) (ctl p a1 a5), ?_⟩
    have hw : wOrdinal.length = 7 := rfl
    simp only [List.length_append, List.length_cons]; omega
  · intro u hu
    have hf := forms_cln (u2 u hu)
    obtain ⟨b1, b2, b3, b4, b5⟩ := u2 u hu
    have hj := join_le (u.f.map (·.r)) [44] 30 (fun a ha => (hf a ha).2.2.2)
    have hx := nDig20 u.s.natAbs (by omega)
    refine ⟨c32 (wrd_cln 8) ((itx_cln _ 10 (by decide)).app ((join_cln (cln_dec _ (by decide)) _ (fun a ha => (hf a ha).1)).cons (by decide))), ?_⟩
    have hw : wUnit.length = 4 := rfl
    have hf8 : u.f.length ≤ 8 := by omega
    unfold tlU
    rw [List.length_map] at hj
    simp only [List.length_append, List.length_cons, List.length_nil] at *
    omega
  · simp only [List.length_append, List.length_cons]; omega
theorem lns_count {L : Loc} (h : validLB L = true) : (lnsL L).length ≤ 33 := by
  obtain ⟨f1, f2, f3, f4, f5⟩ := val_facts h
  obtain ⟨r1, r2, r3⟩ := rul_cln (fun s hs => word_cln hs) f4
  obtain ⟨o1, o2, o3⟩ := rul_cln (fun s hs => suff_cln hs) f5
  obtain ⟨u1, u2⟩ := val_units h
  unfold lnsL
  simp only [List.length_cons, List.length_append, List.length_map, List.length_nil]
  omega
theorem flat_le (m : Nat) : ∀ l : List (List UInt8), (∀ a ∈ l, a.length ≤ m) → ((l.map (· ++ [10])).flatten).length ≤ (m + 1) * l.length
  | [], _ => by simp
  | a :: l, h => by
    have ih := flat_le m l (fun x hx => h x (by simp [hx]))
    have h1 := h a (by simp)
    simp only [List.map_cons, List.flatten_cons, List.length_append, List.length_cons, List.length_nil, Nat.mul_succ]
    omega
/-- A valid locale's text is short. -/
theorem txL_len {L : Loc} (h : validLB L = true) (hN : L.N.ok) : (txL L).length ≤ 14000 := by
  rw [txL_lns]
  refine Nat.le_trans (flat_le 400 _ (fun a ha => (lns_cln h hN a ha).2)) ?_
  exact Nat.le_trans (Nat.mul_le_mul_left _ (lns_count h)) (by decide)
theorem nms_add (D : LocD) (st : Nat) (l : List (List UInt8)) (h1 : 1 ≤ st) (h2 : st ≤ 5) (hl : l.length = nmLen st) (hc : ∀ a ∈ l, Cln 44 a) :
    addL st D (Lib.join l [44]) = some { D with N := setN D.N st l } := by
  have hne : l ≠ [] := by
    rintro rfl
    obtain rfl | rfl | rfl | rfl | rfl : st = 1 ∨ st = 2 ∨ st = 3 ∨ st = 4 ∨ st = 5 := by omega
    all_goals simp [nmLen] at hl
  rw [addL, if_neg (by omega), if_pos h2, spl_join 44 l hne hc, if_pos hl]
/-- A valid locale's text is read as its contents. -/
theorem par_tx {L : Loc} (h : validLB L = true) (hN : L.N.ok) : parL (txL L) = .ok L.dat := by
  have hc := lns_cln h hN
  have hn := nms_facts h
  obtain ⟨f1, f2, f3, f4, f5⟩ := val_facts h
  obtain ⟨r1, r2, r3⟩ := rul_cln (fun s hs => word_cln hs) f4
  obtain ⟨o1, o2, o3⟩ := rul_cln (fun s hs => suff_cln hs) f5
  obtain ⟨u1, u2⟩ := val_units h
  have hu1 : 1 ≤ L.U.length := (uf_of (vu h).1 (vu h).2).one
  obtain ⟨n1, n2, n3, n4, n5⟩ := hN
  have hs := spl_lns 10 (lnsL L) (fun a ha => (hc a ha).1)
  rw [← txL_lns] at hs
  unfold parL
  rw [hs, List.dropLast_concat, List.getLastD_concat]
  show runL false 0 0 0 LocD.zero (lnsL L) = _
  unfold lnsL
  rw [runl_one false 0 0 0 _ _ _ _ (by decide) (by rw [addL, if_pos rfl]),
    runl_one false 1 0 _ _ _ _ _ (by decide) (nms_add _ 1 L.N.mo (by decide) (by decide) n1 (fun a ha => (hn _ (.inl rfl) a ha).2.1)),
    runl_one false 2 0 _ _ _ _ _ (by decide) (nms_add _ 2 L.N.sh (by decide) (by decide) n2 (fun a ha => (hn _ (.inr (.inl rfl)) a ha).2.1)),
    runl_one false 3 0 _ _ _ _ _ (by decide) (nms_add _ 3 L.N.da (by decide) (by decide) n3 (fun a ha => (hn _ (.inr (.inr (.inl rfl))) a ha).2.1)),
    runl_one false 4 0 _ _ _ _ _ (by decide) (nms_add _ 4 L.N.sd (by decide) (by decide) n4 (fun a ha => (hn _ (.inr (.inr (.inr (.inl rfl)))) a ha).2.1)),
    runl_one false 5 0 _ _ _ _ _ (by decide) (nms_add _ 5 L.N.ha (by decide) (by decide) n5 (fun a ha => (hn _ (.inr (.inr (.inr (.inr rfl)))) a ha).2.1)),
    run_P false L.P _ _ _ _ (fun p hp => ⟨(r3 p hp).2.1, (r3 p hp).2.2.1⟩)]
  obtain ⟨o0, ol, hO⟩ := List.exists_cons_of_ne_nil (show L.O ≠ [] by intro e; rw [e] at o1; simp at o1)
  obtain ⟨u0, ul, hU⟩ := List.exists_cons_of_ne_nil (show L.U ≠ [] by intro e; rw [e] at hu1; simp at hu1)
  have eO : L.O.map (fun p => wOrdinal ++ 32 :: tlC p) ++ (L.U.map (fun u => wUnit ++ 32 :: tlU u) ++ [wrd 9 ++ 32 :: L.pt]) = (wrd (6 + 1) ++ 32 :: tlC o0) :: (ol.map (fun p => wOrdinal ++ 32 :: tlC p) ++ (L.U.map (fun u => wUnit ++ 32 :: tlU u) ++ [wrd 9 ++ 32 :: L.pt])) := by rw [hO]; rfl
  have eU : L.U.map (fun u => wUnit ++ 32 :: tlU u) ++ [wrd 9 ++ 32 :: L.pt] = (wrd (7 + 1) ++ 32 :: tlU u0) :: (ul.map (fun u => wUnit ++ 32 :: tlU u) ++ [wrd 9 ++ 32 :: L.pt]) := by rw [hU]; rfl
  rw [eO, runl_next false 6 _ _ _ _ _ (by decide) (by decide) (by omega), ← eO, run_O false L.O _ _ _ _ (fun p hp => ⟨(o3 p hp).2.1, (o3 p hp).2.2.1⟩),
    eU, runl_next false 7 _ _ _ _ _ (by decide) (by decide) (by omega), ← eU, run_U false L.P r1 L.U _ _ _ _ rfl u2,
    runl_next false 8 _ _ _ _ _ (by decide) (by decide) (by omega), runl_one false 9 0 _ _ _ _ _ (by decide) (by rw [addL, if_neg (by decide), if_neg (by decide), if_neg (by decide), if_neg (by decide)]), runL, if_pos (by decide)]
  simp only [Bool.false_eq_true, if_false]
  have hd : Dat L L.dat := dat_of (fun u hu => by have := (u2 u hu).1; omega)
  have hv : validLB L.dat.loc = true := by rw [← hd.valid]; exact h
  unfold finL
  have ed : (({ nm := L.nm, N := setN (setN (setN (setN (setN LocD.zero.N 1 L.N.mo) 2 L.N.sh) 3 L.N.da) 4 L.N.sd) 5 L.N.ha, P := LocD.zero.P ++ L.P, O := LocD.zero.O ++ L.O, U := LocD.zero.U ++ L.U.map (fun u => ⟨u.s.natAbs, u.f⟩), pt := L.pt } : LocD)) = L.dat := rfl
  rw [ed, if_pos hv]
end Go.Proofs.YtnhdmnhfllecgaaGreatDoor
/- Locales: the walks of categories, the reference's rules, Text$1. -/
namespace Go.Proofs.YtnhdmnhfllecgaaGreatDoor
set_option linter.unusedVariables false
set_option linter.unusedSimpArgs false
open Go.RowKit

theorem lnsC_len (w : List UInt8) (l : List Plu) (hs : shP l) (k : Nat) (hk : k ≤ l.length) : (lnsC w (l.take k)).length ≤ k * (w.length + 14010) := by
  induction k with
  | zero => simp [lnsC]
  | succ k ih =>
    rw [lnsC_succ w l k (by omega), List.length_append]
    have h1 := ih (by omega)
    obtain ⟨h2, h3⟩ := hs l[k] (List.getElem_mem _)
    have h4 : (lnC w l[k]).length ≤ w.length + 14010 := by
      unfold lnC
      simp only [List.length_append, List.length_cons, List.length_nil]
      split
      · simp; omega
      · simp only [List.length_cons]; omega
    rw [Nat.succ_mul]
    omega
theorem lnC_r (w : List UInt8) (c r : List UInt8) (h : r ≠ []) : lnC w ⟨c, r⟩ = w ++ (32 :: (c ++ ((32 :: r) ++ [10]))) := by unfold lnC; simp only; rw [if_neg h]
theorem lnC_0 (w : List UInt8) (c : List UInt8) : lnC w ⟨c, []⟩ = w ++ (32 :: (c ++ [10])) := by unfold lnC; simp
set_option maxRecDepth 100000 in
set_option maxHeartbeats 1000000 in
theorem cats_c (l : List Plu) (ao : Option Addr) (cap : Nat) (wd X : List UInt8) (w : World) (h : PlV ao cap l w) (hs : shP l) (hn : l.length ≤ 100) (hw : wd.length ≤ 100) (hX : lnsC wd l = X) :
    Calls Tryz.prog 19 #[.string ⟨wd.toArray⟩, .slice ao l.length cap] w fun e w' => e = .returned (.string ⟨X.toArray⟩) ∧ Ext w w' := by
  have hlen := h.1
  have hcap := h.2.1
  unfold maxLen at hcap
  have HL := Lib.hid h.2.2
  have Hs := Lib.hid hs
  have HX := Lib.hid hX
  have HLn : Hid (∀ k, k ≤ l.length → (lnsC wd (l.take k)).length ≤ 2000000) := fun k hk => by
    refine Nat.le_trans (lnsC_len wd l hs k hk) ?_
    exact Nat.le_trans (Nat.mul_le_mul (Nat.le_trans hk hn) (by omega : wd.length + 14010 ≤ 14110)) (by decide)
  clear h hs hX
  go_enter Tryz.func19, Tryz.ntmps19
  go_wp2_with fail
  go_loopw [5, 10] (fun s i wr => ∃ j : Nat, j ≤ l.length ∧ i = .int .i64 (j : Int) ∧ s = .string ⟨(lnsC wd (l.take j)).toArray⟩ ∧ Ext w wr) (fun _ i _ => l.length - (intOf i).toNat)
  case atStart => exact ⟨0, Nat.zero_le _, rfl, rfl, Ext.refl _⟩
  case round =>
    obtain ⟨j, hj, rfl, rfl, hE⟩ := hrel
    by_cases hlt : j < l.length
    · obtain ⟨R, off, rfl, hR0, hc⟩ := HL.out (by rintro rfl; simp at hlt)
      obtain ⟨c0, c1⟩ := hc j hlt
      replace c0 := (hE.cells R _ hR0).trans c0
      replace c1 := (hE.cells R _ hR0).trans c1
      have hRr := hE.lt hR0
      have hsz := Hs.out l[j] (List.getElem_mem _)
      have hSl := HLn.out j (by omega)
      have HS := Lib.hid (lnsC_succ wd l j hlt)
      obtain ⟨p, hp⟩ : ∃ p, p = l[j] := ⟨_, rfl⟩
      obtain ⟨A, hA⟩ : ∃ A, A = lnsC wd (l.take j) := ⟨_, rfl⟩
      rw [← hp] at c0 c1 hsz HS
      rw [← hA] at hSl HS ⊢
      clear hp hc hA
      obtain ⟨pc, pr⟩ := p
      simp only at c0 c1 hsz HS
      obtain ⟨z1, z2⟩ := hsz
      by_cases h0 : pr = []
      · subst h0
        have HS2 : Hid (lnsC wd (l.take (j + 1)) = A ++ (wd ++ (32 :: (pc ++ [10])))) := by rw [Hid, HS.out, lnC_0]
        clear HS
        go_wp2_with fail
        go_roundw
        case rel => exact ⟨j + 1, by omega, by go_num, by rw [HS2.out]; congr 1; apply ByteArray.ext; simp, hE.trans ((Ext.refl wr).alloc _)⟩
        case measure => simp [intOf]; omega
      · have HS2 : Hid (lnsC wd (l.take (j + 1)) = A ++ (wd ++ (32 :: (pc ++ ((32 :: pr) ++ [10]))))) := by rw [Hid, HS.out, lnC_r wd pc pr h0]
        have t1 : (pr == []) = false := by simpa using h0
        have t2 : (pr != []) = true := by simpa using h0
        have t3 : pr.isEmpty = false := by simpa using h0
        have Hh0 := Lib.hid h0
        clear HS h0
        go_wp2_with fail
        go_roundw
        case rel => exact ⟨j + 1, by omega, by go_num, by rw [HS2.out]; congr 1; apply ByteArray.ext; simp, hE.trans ((Ext.refl wr).alloc _)⟩
        case measure => simp [intOf]; omega
    · obtain rfl : j = l.length := by omega
      rw [List.take_of_length_le (Nat.le_refl _), HX.out]
      go_wp2_with fail
      go_ret
      exact ⟨rfl, hE⟩
set_option maxRecDepth 100000 in
set_option maxHeartbeats 1000000 in
theorem rrules_c (l : List Plu) (ao : Option Addr) (cap : Nat) (wd X : List UInt8) (w : World) (h : PlV ao cap l w) (hs : shP l) (hn : l.length ≤ 100) (hw : wd.length ≤ 100) (hX : lnsC wd l = X) :
    Calls Tryz.prog 24 #[.string ⟨wd.toArray⟩, .slice ao l.length cap] w fun e w' => e = .returned (.string ⟨X.toArray⟩) ∧ w = w' := by
  have hlen := h.1
  have hcap := h.2.1
  unfold maxLen at hcap
  have HL := Lib.hid h.2.2
  have Hs := Lib.hid hs
  have HX := Lib.hid hX
  have HLn : Hid (∀ k, k ≤ l.length → (lnsC wd (l.take k)).length ≤ 2000000) := fun k hk => by
    refine Nat.le_trans (lnsC_len wd l hs k hk) ?_
    exact Nat.le_trans (Nat.mul_le_mul (Nat.le_trans hk hn) (by omega : wd.length + 14010 ≤ 14110)) (by decide)
  clear h hs hX
  go_enter Tryz.func24, Tryz.ntmps24
  go_wp2_with fail
  go_loop [5, 6] (fun s i => ∃ j : Nat, j ≤ l.length ∧ i = .int .i64 (j : Int) ∧ s = .string ⟨(lnsC wd (l.take j)).toArray⟩) (fun _ i => l.length - (intOf i).toNat)
  case atStart => exact ⟨0, Nat.zero_le _, rfl, rfl⟩
  case round =>
    obtain ⟨j, hj, rfl, rfl⟩ := hrel
    by_cases hlt : j < l.length
    · obtain ⟨R, off, rfl, hR0, hc⟩ := HL.out (by rintro rfl; simp at hlt)
      obtain ⟨c0, c1⟩ := hc j hlt
      have hsz := Hs.out l[j] (List.getElem_mem _)
      have hSl := HLn.out j (by omega)
      have HS := Lib.hid (lnsC_succ wd l j hlt)
      obtain ⟨p, hp⟩ : ∃ p, p = l[j] := ⟨_, rfl⟩
      obtain ⟨A, hA⟩ : ∃ A, A = lnsC wd (l.take j) := ⟨_, rfl⟩
      rw [← hp] at c0 c1 hsz HS
      rw [← hA] at hSl HS ⊢
      clear hp hc hA
      obtain ⟨pc, pr⟩ := p
      simp only at c0 c1 hsz HS
      obtain ⟨z1, z2⟩ := hsz
      by_cases h0 : pr = []
      · subst h0
        have HS2 : Hid (lnsC wd (l.take (j + 1)) = A ++ (wd ++ (32 :: (pc ++ [10])))) := by rw [Hid, HS.out, lnC_0]
        clear HS
        go_wp2_with fail
        go_round
        case rel => exact ⟨j + 1, by omega, by go_num, by rw [HS2.out]; congr 1; apply ByteArray.ext; simp⟩
        case measure => simp [intOf]; omega
      · have HS2 : Hid (lnsC wd (l.take (j + 1)) = A ++ (wd ++ (32 :: (pc ++ ((32 :: pr) ++ [10]))))) := by rw [Hid, HS.out, lnC_r wd pc pr h0]
        have t1 : (pr == []) = false := by simpa using h0
        have t2 : (pr != []) = true := by simpa using h0
        have t3 : pr.isEmpty = false := by simpa using h0
        have Hh0 := Lib.hid h0
        clear HS h0
        go_wp2_with fail
        go_round
        case rel => exact ⟨j + 1, by omega, by go_num, by rw [HS2.out]; congr 1; apply ByteArray.ext; simp⟩
        case measure => simp [intOf]; omega
    · obtain rfl : j = l.length := by omega
      rw [List.take_of_length_le (Nat.le_refl _), HX.out]
      go_wp2_with fail
      go_ret
      exact ⟨rfl, rfl⟩
/-- A line with names, by the program. -/
theorem txj_c (wd : List UInt8) (ws : List (List UInt8)) (R off cap : Nat) (X : List UInt8) (w : World) (h : RdS ws R off w) (hc : ws.length ≤ cap) (hn : ws.length ≤ 1000) (hm : ∀ a ∈ ws, a.length ≤ 1000) (hw : wd.length ≤ 1000) (hX : lnN wd ws = X) :
    Calls Tryz.prog 18 #[.string ⟨wd.toArray⟩, .slice (some ⟨R, off, none⟩) ws.length cap] w fun e w' => e = .returned (.string ⟨X.toArray⟩) ∧ Ext w w' := by
  obtain ⟨J, hJ⟩ : ∃ J, Lib.join ws [44] = J := ⟨_, rfl⟩
  have hJl : J.length ≤ 1001000 := by
    rw [← hJ]
    refine Nat.le_trans (join_le ws [44] 1000 hm) ?_
    exact Nat.le_trans (Nat.mul_le_mul_left _ hn) (by decide)
  have HJ : Hid (Calls Tryz.prog 17 #[.slice (some ⟨R, off, none⟩) ws.length cap, .string ⟨#[44]⟩] w fun e w' => e = .returned (.string ⟨J.toArray⟩) ∧ Ext w w') := sjoin_c ws R off cap [44] J w h hc (by omega) (by rw [hJ]; omega) hJ
  have HX : Hid (X = wd ++ (32 :: (J ++ [10]))) := by rw [Hid, ← hX, ← hJ]; rfl
  clear hX hJ h hm
  go_enter Tryz.func18, Tryz.ntmps18
  go_wp2_with (first
    | (go_at_call 17; (with_reducible refine HJ.out.mono ?_); rintro e w1 ⟨rfl, hE1⟩))
  go_ret
  exact ⟨ret_s (by rw [HX.out]; apply ByteArray.ext; simp), hE1⟩
theorem txj_l (wd : List UInt8) (ws : List (List UInt8)) (R off n : Nat) (X : List UInt8) (w : World) (h : RdS ws R off w) (hn : ws.length = n) (hn2 : n ≤ 100) (hm : ∀ a ∈ ws, a.length ≤ 30) (hw : wd.length ≤ 1000) (hX : lnN wd ws = X) :
    Calls Tryz.prog 18 #[.string ⟨wd.toArray⟩, .slice (some ⟨R, off, none⟩) n n] w fun e w' => e = .returned (.string ⟨X.toArray⟩) ∧ Ext w w' := by
  have := txj_c wd ws R off n X w h (by omega) (by omega) (fun a ha => by have := hm a ha; omega) hw hX
  rwa [hn] at this
end Go.Proofs.YtnhdmnhfllecgaaGreatDoor
