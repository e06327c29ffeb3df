/- Locales: the walks of the reader of lines at a stage: take, many, list. -/
import Derived.Test.YtnhdmnhfllecgaaGreatDoorQ37
namespace Go.Proofs.YtnhdmnhfllecgaaGreatDoor
set_option linter.unusedVariables false
set_option linter.unusedSimpArgs false
open Go.RowKit

theorem setN_all {N : Nms} (st : Nat) (h1 : 1 ≤ st) (h5 : st ≤ 5) (l : List (List UInt8)) : ∀ s ∈ (setN N st l).all, s ∈ N.all ∨ s ∈ l := by
  intro s hs
  obtain rfl | rfl | rfl | rfl | rfl : st = 1 ∨ st = 2 ∨ st = 3 ∨ st = 4 ∨ st = 5 := by omega
  all_goals
    simp only [setN, Nms.all, List.mem_append] at hs ⊢
    rcases hs with q | q | q | q | q <;> simp [q]
/-- Sizes stay moderate. -/
theorem DSz.add {D D' : LocD} {k st : Nat} {t : List UInt8} (h : DSz D k) (ht : t.length ≤ 6000) (hs : st ≤ 9) (ha : addL st D t = some D') : DSz D' (k + 1) := by
  obtain ⟨h1, h2, h3, h4, h5, h6, h7, h8, h9, h10⟩ := h
  have hcut : ∀ s : List UInt8, s.length ≤ 6000 → (cut1 s).1.length ≤ 6000 ∧ (cut1 s).2.1.length ≤ 6000 := fun s hs => by
    have := cut_len s [32]
    unfold cut1
    omega
  obtain rfl | ⟨a1, a2⟩ | rfl | rfl | rfl | rfl : st = 0 ∨ (1 ≤ st ∧ st ≤ 5) ∨ st = 6 ∨ st = 7 ∨ st = 8 ∨ st = 9 := by omega
  · rw [addL, if_pos rfl] at ha
    injection ha with ha
    subst ha
    exact ⟨ht, h2, h3, h4, h5, h6, h7, Nat.le_succ_of_le h8, Nat.le_succ_of_le h9, Nat.le_succ_of_le h10⟩
  · rw [addL, if_neg (by omega), if_pos a2] at ha
    split at ha
    · rename_i hl
      injection ha with ha
      subst ha
      refine ⟨h1, h2, fun s hs => ?_, h4, h5, h6, setN_ok h7 st a1 a2 _ hl, Nat.le_succ_of_le h8, Nat.le_succ_of_le h9, Nat.le_succ_of_le h10⟩
      rcases setN_all st a1 a2 _ s hs with q | q
      · exact h3 s q
      · have := spl_len 44 t s q; omega
    · cases ha
  · rw [addL, if_neg (by decide), if_neg (by decide), if_pos (by decide)] at ha
    split at ha
    · cases ha
    · injection ha with ha
      rw [if_pos rfl] at ha
      subst ha
      refine ⟨h1, h2, h3, fun p hp => ?_, h5, h6, h7, by simp; omega, Nat.le_succ_of_le h9, Nat.le_succ_of_le h10⟩
      rcases List.mem_append.1 hp with q | q
      · exact h4 p q
      · rw [List.mem_singleton.1 q]; exact hcut t ht
  · rw [addL, if_neg (by decide), if_neg (by decide), if_pos (by decide)] at ha
    split at ha
    · cases ha
    · injection ha with ha
      rw [if_neg (by decide)] at ha
      subst ha
      refine ⟨h1, h2, h3, h4, fun p hp => ?_, h6, h7, Nat.le_succ_of_le h8, by simp; omega, Nat.le_succ_of_le h10⟩
      rcases List.mem_append.1 hp with q | q
      · exact h5 p q
      · rw [List.mem_singleton.1 q]; exact hcut t ht
  · rw [addL, if_neg (by decide), if_neg (by decide), if_neg (by decide), if_pos rfl] at ha
    split at ha
    · cases ha
    · injection ha with ha
      subst ha
      refine ⟨h1, h2, h3, h4, h5, fun u hu p hp => ?_, h7, Nat.le_succ_of_le h8, Nat.le_succ_of_le h9, by simp; omega⟩
      rcases List.mem_append.1 hu with q | q
      · exact h6 u q p hp
      · rw [List.mem_singleton.1 q] at hp
        obtain ⟨r, hr, rfl⟩ := List.mem_map.1 hp
        obtain ⟨r1, r2⟩ := List.of_mem_zip hr
        have e1 := (h4 _ r1).1
        have e2 := spl_len 44 _ _ r2
        have e3 := (hcut t ht).2
        exact ⟨e1, by simp only; omega⟩
  · rw [addL, if_neg (by decide), if_neg (by decide), if_neg (by decide), if_neg (by decide)] at ha
    injection ha with ha
    subst ha
    exact ⟨h1, ht, h3, h4, h5, h6, h7, Nat.le_succ_of_le h8, Nat.le_succ_of_le h9, Nat.le_succ_of_le h10⟩
theorem wrd_inj2 (st : Nat) (h : st ≤ 8) : wrd st ≠ wrd (st + 1) := by
  have a : ∀ i ≤ 8, wrd i ≠ wrd (i + 1) := by decide
  exact a st h
theorem wrd_no10 (k : Nat) : ∀ x ∈ wrd k, x ≠ 10 := by
  intro x hx e
  subst e
  unfold wrd at hx
  split at hx <;> exact absurd hx (by decide)
/-- A line that begins with the stage's word is read there. -/
theorem stgL_same (st cnt : Nat) (a : List UInt8) (hs : st ≤ 9) (h : cnt = 0 ∨ (cut1 a).1 = wrd st) : stgL st cnt a = st ∧ cntL st cnt a = cnt := by
  have hn : ¬ (6 ≤ st ∧ st ≤ 8 ∧ 0 < cnt ∧ (cut1 a).2.2 = true ∧ (cut1 a).1 = wrd (st + 1)) := by
    rintro ⟨q1, q2, q3, q4, q5⟩
    rcases h with h | h
    · omega
    · exact wrd_inj2 st q2 (h.symm.trans q5)
  unfold stgL cntL
  rw [if_neg hn, if_neg hn]
  exact ⟨rfl, rfl⟩
theorem pre_line {w a r : List UInt8} (hw : ∀ x ∈ w, x ≠ 10) : (w ++ [32]).isPrefixOf (a ++ 10 :: r) = (w ++ [32]).isPrefixOf a := by
  rw [Bool.eq_iff_iff, List.isPrefixOf_iff_prefix, List.isPrefixOf_iff_prefix]
  constructor
  · rintro ⟨t, e⟩
    have hn : ∀ x ∈ w ++ [32], x ≠ 10 := fun x hx => by
      rcases List.mem_append.1 hx with q | q
      · exact hw x q
      · rw [List.mem_singleton.1 q]; decide
    rcases List.append_eq_append_iff.1 e with ⟨c, e1, e2⟩ | ⟨c, e1, e2⟩
    · exact ⟨c, e1.symm⟩
    · cases c with
      | nil => exact ⟨[], by rw [e1]; simp⟩
      | cons d c =>
        injection e2 with e2 e3
        exfalso
        refine hn d (by rw [e1]; simp) e2.symm
  · rintro ⟨t, rfl⟩
    exact ⟨t ++ 10 :: r, by simp⟩
/-- No line of the stage follows: the next stage reads on. -/
theorem runS_next (st cnt at_ : Nat) (D : LocD) (rest : List UInt8) (h6 : 6 ≤ st) (h8 : st ≤ 8) (hc : 0 < cnt) (hp : (wrd st ++ [32]).isPrefixOf rest = false) :
    runS st cnt at_ D rest = runS (st + 1) 0 at_ D rest := by
  rcases split_first 10 rest with q | ⟨a, r, rfl, q⟩
  · rw [runS_tail _ _ _ _ _ q, runS_tail _ _ _ _ _ q, if_neg (by omega), if_neg (by omega)]
  · rw [pre_line (wrd_no10 st), pre_word (wrd_blank st), decide_eq_false_iff_not] at hp
    have g1 : ¬ 10 ≤ st := by omega
    have g2 : ¬ 10 ≤ st + 1 := by omega
    rw [runS_line _ _ _ _ _ _ q, runS_line _ _ _ _ _ _ q, if_neg g1, if_neg g2]
    obtain ⟨e1, e2⟩ := stgL_same (st + 1) 0 a (by omega) (.inl rfl)
    by_cases hn : (cut1 a).2.2 = true ∧ (cut1 a).1 = wrd (st + 1)
    · have hq : 6 ≤ st ∧ st ≤ 8 ∧ 0 < cnt ∧ (cut1 a).2.2 = true ∧ (cut1 a).1 = wrd (st + 1) := ⟨h6, h8, hc, hn.1, hn.2⟩
      have f1 : stgL st cnt a = st + 1 := by unfold stgL; rw [if_pos hq]
      have f2 : cntL st cnt a = 0 := by unfold cntL; rw [if_pos hq]
      rw [e1, e2, f1, f2]
    · have hq : ¬ (6 ≤ st ∧ st ≤ 8 ∧ 0 < cnt ∧ (cut1 a).2.2 = true ∧ (cut1 a).1 = wrd (st + 1)) := fun q => hn q.2.2.2
      have f1 : stgL st cnt a = st := by unfold stgL; rw [if_neg hq]
      have g3 : (cut1 a).2.2 = false ∨ (cut1 a).1 ≠ wrd st := by
        by_cases h1 : (cut1 a).2.2 = true
        · exact .inr (fun h2 => hp ⟨h1, h2⟩)
        · exact .inl (by simpa using h1)
      have g4 : (cut1 a).2.2 = false ∨ (cut1 a).1 ≠ wrd (st + 1) := by
        by_cases h1 : (cut1 a).2.2 = true
        · exact .inr (fun h2 => hn ⟨h1, h2⟩)
        · exact .inl (by simpa using h1)
      rw [e1, f1, if_pos g3, if_pos g4]
/-- Parse's state between two lines: all was well so far. -/
def OKS (tx : List UInt8) (b B X : Nat) (Kd : Loc → World → Prop) (st cnt : Nat) (rest : List UInt8) (w : World) : Prop :=
  ∃ (L : Loc) (D : LocD) (at_ : Nat), LSw L b B w ∧ Far L B X ∧ Dat L D ∧ DSz D at_ ∧ LX rest at_ 0 0 0 X w ∧ parL tx = runS st cnt at_ D rest ∧ at_ + rest.length ≤ 50000 ∧ (∀ a ∈ spl 10 rest, a.length ≤ 6000) ∧ Kd L w
/-- An error stands. -/
def ERS (tx : List UInt8) (X : Nat) (w : World) : Prop :=
  ∃ (rest : List UInt8) (ln e al ac : Nat), LX rest ln e al ac X w ∧ ((e = 3 ∧ ac = 1 ∧ parL tx = .er 3 al ∧ 1 ≤ al) ∨ (e = 4 ∧ al = 0 ∧ ac = 0 ∧ parL tx = .er 4 0))
theorem ERS.ne {tx : List UInt8} {X : Nat} {w : World} (h : ERS tx X w) : ∃ (rest : List UInt8) (ln e al ac : Nat), LX rest ln e al ac X w ∧ e ≠ 0 := by
  obtain ⟨rest, ln, e, al, ac, h1, h2⟩ := h
  exact ⟨rest, ln, e, al, ac, h1, by rcases h2 with q | q <;> omega⟩
structure KdOk (B X : Nat) (Kd : Loc → World → Prop) : Prop where
  stp : ∀ L L' w w', Kd L w → Stp L L' B w w' → Kd L' w'
  lin : ∀ L w w', Kd L w → Frm (AtX X) w w' → Kd L w'
theorem kd_true (B X : Nat) : KdOk B X (fun _ _ => True) := ⟨fun _ _ _ _ _ _ => trivial, fun _ _ _ _ _ => trivial⟩
theorem kd_box (B X Y : Nat) (v : Value) (hY : Y ≠ X) : KdOk B X (KdB B Y v) := by
  refine ⟨fun L L' w w' h hS => ?_, fun L w w' h hF => ?_⟩
  · obtain ⟨h1, h2, h3⟩ := h
    obtain ⟨f1, f2⟩ := hS.far h3 h2
    exact ⟨(blk_cell f2 0).trans h1, Nat.lt_of_lt_of_le h2 hS.frm.size, f1⟩
  · obtain ⟨h1, h2, h3⟩ := h
    exact ⟨(hF.cel h2 hY 0).trans h1, hF.lt h2, h3⟩
theorem LX.blk {rest : List UInt8} {ln e al ac X : Nat} {w w' : World} (h : LX rest ln e al ac X w) (hb : w'.heap[X]? = w.heap[X]?) : LX rest ln e al ac X w' := by
  refine ⟨(blk_cell hb 0).trans h.c0, (blk_cell hb 1).trans h.c1, (blk_cell hb 2).trans h.c2, (blk_cell hb 3).trans h.c3, (blk_cell hb 4).trans h.c4, fun o => (blk_frz hb o).trans (h.free o), ?_⟩
  rcases Nat.lt_or_ge X w'.heap.size with q | q
  · exact q
  · have h0 := h.lt
    rw [Array.getElem?_eq_none q, Array.getElem?_eq_getElem h0] at hb
    cases hb
theorem LSw.lin {L : Loc} {b B X : Nat} {w w' : World} (h : LSw L b B w) (hf : Far L B X) (hF : Frm (AtX X) w w') : LSw L b B w' :=
  h.frm hF (fun e => hf.1 e.symm) (fun k x hx e => hf.2 k (by rw [hx, e]))
theorem spl_cons_mem {c : UInt8} {a r : List UInt8} (h : ∀ x ∈ a, x ≠ c) : spl c (a ++ c :: r) = a :: spl c r := spl_stp c r a h
set_option maxHeartbeats 1000000 in
/-- One line at a stage. -/
theorem take_st (tx : List UInt8) (b B X st cnt fid : Nat) (cap : Value) (Kd : Loc → World → Prop) (rest : List UInt8) (w0 w : World)
    (hA : AccS st fid cap b B Kd) (hK : KdOk B X Kd) (hs : st ≤ 9) (hX : w0.heap.size ≤ X) (hb : w0.heap.size ≤ b) (hm : Lm w0) (hE : Ext w0 w) (h : OKS tx b B X Kd st cnt rest w) (hc : cnt = 0 ∨ (wrd st ++ [32]).isPrefixOf rest = true) :
    Calls Tryz.prog 41 #[.pointer (some ⟨X, 0, none⟩), .string ⟨(wrd st).toArray⟩, .func (.func fid) #[] #[cap]] w fun e w' => e = .returned (.tuple #[]) ∧ Ext w0 w' ∧
      ((∃ rest', rest'.length < rest.length ∧ OKS tx b B X Kd (nxtL st) (if st < 6 ∨ st = 9 then 0 else cnt + 1) rest' w') ∨ ERS tx X w') := by
  obtain ⟨L, D, at_, hL, hf, hD, hz, hx, hp, hl, hsp, hk⟩ := h
  have hG : 0 ≠ X := fun e => by have := hm.lt; omega
  have hw9 : (wrd st).length ≤ 1000 := by
    have a : ∀ i ≤ 9, (wrd i).length ≤ 1000 := by decide
    exact a st hs
  have hXE : ∀ w1, Frm (AtX X) w w1 → Ext w0 w1 := fun w1 hF => ext_frm hE hF (fun k q => by unfold AtX at q; omega)
  rcases split_first 10 rest with hn | ⟨a, r, rfl, hn⟩
  · refine (take_no rest (wrd st) at_ X _ w hx (hm.ext hE) hG (by omega) (by omega) hn).mono ?_
    rintro e w' ⟨rfl, h1, h2⟩
    refine ⟨rfl, hXE w' h2, .inr ⟨rest, at_ + 1, 4, 0, 0, h1, .inr ⟨rfl, rfl, rfl, ?_⟩⟩⟩
    rw [hp, runS_tail _ _ _ _ _ hn, if_neg (by omega)]
  · rw [List.length_append, List.length_cons] at hl
    have hsp2 := hsp
    rw [spl_stp 10 r a hn] at hsp2
    have ha6 := hsp2 a (by simp)
    rcases Bool.eq_false_or_eq_true ((wrd st ++ [32]).isPrefixOf a) with hpa | hpa
    · have hpw := hpa
      rw [pre_word (wrd_blank st), decide_eq_true_eq] at hpw
      obtain ⟨c1, c2⟩ := hpw
      obtain ⟨e1, e2⟩ := stgL_same st cnt a hs (.inr c2)
      have ea := (cut1_t c1).1
      rw [c2] at ea
      obtain ⟨t, ht⟩ : ∃ t, (cut1 a).2.1 = t := ⟨_, rfl⟩
      rw [ht] at ea
      have ht6 : t.length ≤ 6000 := by
        rw [ea] at ha6
        simp only [List.length_append, List.length_cons] at ha6
        omega
      have hrun : parL tx = match addL st D t with
          | none => PR.er 3 (at_ + 1)
          | some D' => if st < 6 ∨ st = 9 then runS (st + 1) 0 (at_ + 1) D' r else runS st (cnt + 1) (at_ + 1) D' r := by
        rw [hp, runS_line _ _ _ _ _ _ hn, if_neg (by omega), e1, e2, if_neg (by rw [c1, c2]; simp), ht]
        cases addL st D t <;> rfl
      obtain ⟨hA1, hA2⟩ := hA
      refine (take_yes (a ++ 10 :: r) (wrd st) t r at_ X fid cap w (fun bb w2 => ∃ (w1 : World) (L' : Loc), Frm (AtX X) w w1 ∧ Stp L L' B w1 w2 ∧ X < w1.heap.size ∧ Kd L w1 ∧ (bb = true → ∃ D', addL st D t = some D' ∧ LSw L' b B w2 ∧ Dat L' D') ∧ (bb = false → addL st D t = none)) hx (hm.ext hE) hG (by omega) (by simp only [List.length_append, List.length_cons]; omega) hw9 (by rw [← ea]) (by rw [← ea]; exact hn) hA1 ?_).mono ?_
      · intro w1 hx1 hF1
        have hk1 := hK.lin _ _ _ hk hF1
        refine (hA2 L D at_ t w1 (hL.lin hf hF1) hD hz (by omega) ht6 ((hm.ext hE).frm hF1 (fun e => hG e)) hk1).mono ?_
        rintro e w2 ⟨bb, L', rfl, hS, q1, q2⟩
        exact ⟨bb, rfl, ⟨w1, L', hF1, hS, hx1.lt, hk1, q1, q2⟩, hx1.blk (hS.far hf hx1.lt).2⟩
      · rintro e w' ⟨rfl, bb, w2, ⟨w1, L', hF1, hS, hlt1, hk1, q1, q2⟩, hF2, r1, r2⟩
        have hE1 := hXE w1 hF1
        have hE2 : Ext w0 w2 := hS.ext (hL.lin hf hF1) hE1 hb
        have hE' : Ext w0 w' := ext_frm hE2 hF2 (fun k q => by unfold AtX at q; omega)
        refine ⟨rfl, hE', ?_⟩
        cases bb with
        | true =>
          obtain ⟨D', d1, d2, d3⟩ := q1 rfl
          have hf2 := (hS.far hf hlt1).1
          left
          refine ⟨r, by simp only [List.length_append, List.length_cons]; omega, L', D', at_ + 1, d2.lin hf2 hF2, hf2, d3, hz.add ht6 hs d1, r1 rfl, ?_, by omega, fun y hy => hsp2 y (by simp [hy]), hK.lin _ _ _ (hK.stp _ _ _ _ hk1 hS) hF2⟩
          rw [hrun, d1]
          unfold nxtL
          simp only
          split <;> rfl
        | false =>
          right
          refine ⟨_, _, _, _, _, r2 rfl, .inl ⟨rfl, rfl, ?_, by omega⟩⟩
          rw [hrun, q2 rfl]
    · have hcz : cnt = 0 := by
        rcases hc with q | q
        · exact q
        · rw [pre_line (wrd_no10 st), hpa] at q; cases q
      obtain ⟨e1, e2⟩ := stgL_same st cnt a hs (.inl hcz)
      refine (take_bad (a ++ 10 :: r) (wrd st) a r at_ X _ w hx (hm.ext hE) hG (by omega) (by simp only [List.length_append, List.length_cons]; omega) hw9 rfl hn hpa).mono ?_
      rintro e w' ⟨rfl, h1, h2⟩
      refine ⟨rfl, hXE w' h2, .inr ⟨_, _, _, _, _, h1, .inl ⟨rfl, rfl, ?_, by omega⟩⟩⟩
      rw [hp, runS_line _ _ _ _ _ _ hn, if_neg (by omega), e1, if_pos]
      rw [pre_word (wrd_blank st), decide_eq_false_iff_not] at hpa
      by_cases h3 : (cut1 a).2.2 = true
      · exact .inr (fun h4 => hpa ⟨h3, h4⟩)
      · exact .inl (by simpa using h3)
/-- One line, or an error. -/
theorem take_er (tx : List UInt8) (X : Nat) (wd : List UInt8) (fv : Value) (w0 w : World) (hE : Ext w0 w) (h : ERS tx X w) :
    Calls Tryz.prog 41 #[.pointer (some ⟨X, 0, none⟩), .string ⟨wd.toArray⟩, fv] w fun e w' => e = .returned (.tuple #[]) ∧ Ext w0 w' ∧ ERS tx X w' := by
  obtain ⟨rest, ln, e, al, ac, h1, h2⟩ := h.ne
  refine (take_err rest wd ln e al ac X fv w h1 h2).mono ?_
  rintro e w' ⟨rfl, rfl⟩
  exact ⟨rfl, hE, h⟩
end Go.Proofs.YtnhdmnhfllecgaaGreatDoor
/- Locales: the walks of the reader of lines: many lines, a list, a category's closure. -/
namespace Go.Proofs.YtnhdmnhfllecgaaGreatDoor
set_option linter.unusedVariables false
set_option linter.unusedSimpArgs false
open Go.RowKit

/-- How many bytes are left; none behind an error. -/
noncomputable def mlen (X : Nat) (w : World) : Nat := match w.cell? ⟨X, 2, none⟩, w.cell? ⟨X, 0, none⟩ with
  | some (.int .i64 e), some (.string s) => if e = 0 then s.size + 1 else 0
  | _, _ => 0
theorem mlen_eq {rest : List UInt8} {ln e al ac X : Nat} {w : World} (h : LX rest ln e al ac X w) : mlen X w = if e = 0 then rest.length + 1 else 0 := by
  unfold mlen
  rw [h.c2, h.c0]
  have e1 : (⟨rest.toArray⟩ : ByteArray).size = rest.length := by show rest.toArray.size = _; simp
  simp only [e1]
  by_cases h0 : e = 0
  · subst h0; simp
  · rw [if_neg h0, if_neg (by omega)]
theorem OKS.lx {tx : List UInt8} {b B X st cnt : Nat} {Kd : Loc → World → Prop} {rest : List UInt8} {w : World} (h : OKS tx b B X Kd st cnt rest w) : ∃ at_, at_ ≤ 50000 ∧ rest.length ≤ 50000 ∧ LX rest at_ 0 0 0 X w := by
  obtain ⟨L, D, at_, -, -, -, -, hx, -, hl, -⟩ := h
  exact ⟨at_, by omega, by omega, hx⟩
theorem OKS.kd {tx : List UInt8} {b B X st cnt : Nat} {Kd Kd' : Loc → World → Prop} {rest : List UInt8} {w : World} (h : OKS tx b B X Kd st cnt rest w) (hk : ∀ L, LSw L b B w → Kd L w → Kd' L w) : OKS tx b B X Kd' st cnt rest w := by
  obtain ⟨L, D, at_, h1, h2, h3, h4, h5, h6, h7, h8, h9⟩ := h
  exact ⟨L, D, at_, h1, h2, h3, h4, h5, h6, h7, h8, hk L h1 h9⟩
theorem OKS.ext {tx : List UInt8} {b B X st cnt : Nat} {rest : List UInt8} {w w' : World} (h : OKS tx b B X (fun _ _ => True) st cnt rest w) (hE : Ext w w') : OKS tx b B X (fun _ _ => True) st cnt rest w' := by
  obtain ⟨L, D, at_, h1, h2, h3, h4, h5, h6, h7, h8, h9⟩ := h
  exact ⟨L, D, at_, h1.ext hE, h2, h3, h4, h5.ext hE, h6, h7, h8, trivial⟩
theorem ERS.ext {tx : List UInt8} {X : Nat} {w w' : World} (h : ERS tx X w) (hE : Ext w w') : ERS tx X w' := by
  obtain ⟨rest, ln, e, al, ac, h1, h2⟩ := h
  exact ⟨rest, ln, e, al, ac, h1.ext hE, h2⟩
theorem OKS.next {tx : List UInt8} {b B X st cnt : Nat} {Kd : Loc → World → Prop} {rest : List UInt8} {w : World} (h : OKS tx b B X Kd st cnt rest w) (h6 : 6 ≤ st) (h8 : st ≤ 8) (hc : 0 < cnt) (hp : (wrd st ++ [32]).isPrefixOf rest = false) :
    OKS tx b B X (fun _ _ => True) (st + 1) 0 rest w := by
  obtain ⟨L, D, at_, h1, h2, h3, h4, h5, h6', h7, h8', h9⟩ := h
  exact ⟨L, D, at_, h1, h2, h3, h4, h5, by rw [h6', runS_next st cnt at_ D rest h6 h8 hc hp], h7, h8', trivial⟩
/-- A box of the reader's own is made. -/
theorem OKS.box {tx : List UInt8} {b B X st cnt : Nat} {rest : List UInt8} {w : World} {v : Value} {t : TypeId} (h : OKS tx b B X (fun _ _ => True) st cnt rest w) :
    OKS tx b B X (KdB B w.heap.size v) st cnt rest (w.alloc (.cells #[v] t)) := by
  have hE : Ext w (w.alloc (.cells #[v] t)) := (Ext.refl w).alloc _
  obtain ⟨L, D, at_, h1, h2, h3, h4, h5, h6, h7, h8, h9⟩ := h
  refine ⟨L, D, at_, h1.ext hE, h2, h3, h4, h5.ext hE, h6, h7, h8, ?_, by simp, ?_, fun i e => ?_⟩
  · rw [World.cell?_alloc_new]; rfl
  · have := h1.lt; omega
  · have := (h1.blk_in i _ e).2; omega
section
variable (tx : List UInt8) (b B X st fid : Nat) (cap : Value) (Kd : Loc → World → Prop) (w0 w : World)
set_option maxRecDepth 100000 in
set_option maxHeartbeats 2000000 in
/-- One line or more. -/
theorem many_st (hA : AccS st fid cap b B Kd) (hK : KdOk B X Kd) (h6 : 6 ≤ st) (h8 : st ≤ 8) (hX : w0.heap.size ≤ X) (hb : w0.heap.size ≤ b) (hm : Lm w0) (hE : Ext w0 w) (h : (∃ rest, OKS tx b B X Kd st 0 rest w) ∨ ERS tx X w) :
    Calls Tryz.prog 44 #[.pointer (some ⟨X, 0, none⟩), .string ⟨(wrd st).toArray⟩, .func (.func fid) #[] #[cap]] w fun e w' => e = .returned (.tuple #[]) ∧ Ext w0 w' ∧
      ((∃ rest', OKS tx b B X (fun _ _ => True) (st + 1) 0 rest' w') ∨ ERS tx X w') := by
  have HT : Hid (∀ (w1 : World) (cnt : Nat) (rest : List UInt8), Ext w0 w1 → OKS tx b B X Kd st cnt rest w1 → (cnt = 0 ∨ (wrd st ++ [32]).isPrefixOf rest = true) →
      Calls Tryz.prog 41 #[.pointer (some ⟨X, 0, none⟩), .string ⟨(wrd st).toArray⟩, .func (.func fid) #[] #[cap]] w1 fun e w' => e = .returned (.tuple #[]) ∧ Ext w0 w' ∧
      ((∃ rest', rest'.length < rest.length ∧ OKS tx b B X Kd st (cnt + 1) rest' w') ∨ ERS tx X w')) := fun w1 cnt rest hE1 hO hc => by
    refine (take_st tx b B X st cnt fid cap Kd rest w0 w1 hA hK (by omega) hX hb hm hE1 hO hc).mono ?_
    rintro e w' ⟨r1, r2, r3⟩
    refine ⟨r1, r2, r3.imp (fun ⟨rest', q1, q2⟩ => ⟨rest', q1, ?_⟩) id⟩
    unfold nxtL at q2
    rw [if_neg (by omega), if_neg (by omega)] at q2
    exact q2
  have HT0 : Hid (Calls Tryz.prog 41 #[.pointer (some ⟨X, 0, none⟩), .string ⟨(wrd st).toArray⟩, .func (.func fid) #[] #[cap]] w fun e w' => e = .returned (.tuple #[]) ∧ Ext w0 w' ∧ ((∃ cnt rest, 0 < cnt ∧ OKS tx b B X Kd st cnt rest w') ∨ ERS tx X w')) := by
    rcases h with ⟨rest, h⟩ | h
    · refine (HT.out w 0 rest hE h (.inl rfl)).mono ?_
      rintro e w' ⟨r1, r2, r3⟩
      exact ⟨r1, r2, r3.imp (fun ⟨rest', q1, q2⟩ => ⟨0 + 1, rest', by omega, q2⟩) id⟩
    · refine (take_er tx X (wrd st) _ w0 w hE h).mono ?_
      rintro e w' ⟨r1, r2, r3⟩
      exact ⟨r1, r2, .inr r3⟩
  have hw9 : (wrd st).length ≤ 1000 := by
    have a : ∀ i ≤ 9, (wrd i).length ≤ 1000 := by decide
    exact a st (by omega)
  have HN : Hid (∀ (w1 : World) (cnt : Nat) (rest : List UInt8), OKS tx b B X Kd st cnt rest w1 → 0 < cnt → (wrd st ++ [32]).isPrefixOf rest = false → OKS tx b B X (fun _ _ => True) (st + 1) 0 rest w1) := fun w1 cnt rest hO hc hp => hO.next h6 h8 hc hp
  obtain ⟨wd, hwd⟩ : ∃ wd, wrd st = wd := ⟨_, rfl⟩
  rw [hwd] at HT HT0 HN hw9 ⊢
  clear h hwd hA hK hX hb hm hE h6 h8
  go_enter Tryz.func44, Tryz.ntmps44
  go_wp2_with (first
    | (go_at_call 41; (with_reducible refine HT0.out.mono ?_); rintro e w1 ⟨rfl, hE1, hS1⟩; have HS1 := Lib.hid hS1; have HE1 := Lib.hid hE1; clear hS1 hE1))
  go_loopw [] (fun wr => Hid (Ext w0 wr) ∧ Hid ((∃ cnt rest, 0 < cnt ∧ OKS tx b B X Kd st cnt rest wr) ∨ ERS tx X wr)) (fun wr => mlen X wr)
  case atStart => exact ⟨HE1, HS1⟩
  case round =>
    obtain ⟨HE, HS⟩ := hrel
    rcases HS.out with ⟨cnt, rest, hc, hO⟩ | hR
    · obtain ⟨at_, hat, hrl, hx⟩ := hO.lx
      have HO := Lib.hid hO
      have Hx := Lib.hid hx
      have hml := mlen_eq hx
      rw [if_pos rfl] at hml
      have Hml := Lib.hid hml
      obtain ⟨c0, c1, c2, c3, c4, cf, cX⟩ := hx
      have HNw := Lib.hid (HN.out wr cnt rest hO hc)
      clear hO cf hml
      rcases Bool.eq_false_or_eq_true ((wd ++ [32]).isPrefixOf rest) with hp | hp
      · have Hp := Lib.hid hp
        clear hp
        go_wp2_with (first
          | (go_at_call 92; (with_reducible refine (begins_c rest wd at_ 0 0 0 X true _ Hx.out hw9 Hp.out).mono ?_); rintro e w2 ⟨rfl, rfl⟩)
          | (go_at_call 41; (with_reducible refine (HT.out _ cnt rest HE.out HO.out (.inr Hp.out)).mono ?_); rintro e w3 ⟨rfl, hE3, hS3⟩; have HS3 := Lib.hid hS3; have HE3 := Lib.hid hE3; clear hS3 hE3))
        go_roundw
        case rel => exact ⟨HE3, HS3.out.imp (fun ⟨rest', q1, q2⟩ => ⟨cnt + 1, rest', by omega, q2⟩) id⟩
        case measure =>
          rw [Hml.out]
          rcases HS3.out with ⟨rest', q1, q2⟩ | q
          · obtain ⟨at2, -, -, hx2⟩ := q2.lx
            rw [mlen_eq hx2, if_pos rfl]; omega
          · obtain ⟨r2, l2, e2, a2, a3, hx2, hne⟩ := q.ne
            rw [mlen_eq hx2, if_neg hne]; omega
      · have Hp := Lib.hid hp
        clear hp
        go_wp2_with (first
          | (go_at_call 92; (with_reducible refine (begins_c rest wd at_ 0 0 0 X false _ Hx.out hw9 Hp.out).mono ?_); rintro e w2 ⟨rfl, rfl⟩))
        go_end0
        exact ⟨rfl, HE.out, .inl ⟨rest, HNw.out Hp.out⟩⟩
    · obtain ⟨rest, ln, e, al, ac, hx, hne⟩ := hR.ne
      have HR := Lib.hid hR
      obtain ⟨c0, c1, c2, c3, c4, cf, cX⟩ := hx
      have t0 : ((e : Int) == 0) = false := by rw [beq_eq_false_iff_ne]; omega
      clear hR cf hne c0 c1 c3 c4
      go_wp2_with fail
      go_end0
      exact ⟨rfl, HE.out, .inr HR.out⟩
set_option maxRecDepth 100000 in
set_option maxHeartbeats 1000000 in
/-- A line with names. -/
theorem list_st (n off : Nat) (h1 : 1 ≤ st) (h5 : st ≤ 5) (hn : nmLen st = n) (ho : nmOff st = off) (hX : w0.heap.size ≤ X) (hb : w0.heap.size ≤ b) (hm : Lm w0) (hE : Ext w0 w) (h : (∃ rest, OKS tx b B X (fun _ _ => True) st 0 rest w) ∨ ERS tx X w) :
    Calls Tryz.prog 43 #[.pointer (some ⟨X, 0, none⟩), .string ⟨(wrd st).toArray⟩, .slice (some ⟨B, off, none⟩) n n] w fun e w' => e = .returned (.tuple #[]) ∧ Ext w0 w' ∧
      ((∃ rest', OKS tx b B X (fun _ _ => True) (st + 1) 0 rest' w') ∨ ERS tx X w') := by
  have hE1 : Ext w0 (w.alloc (.cells #[.slice (some ⟨B, off, none⟩) n n] 54)) := hE.alloc _
  have HT : Hid (Calls Tryz.prog 41 #[.pointer (some ⟨X, 0, none⟩), .string ⟨(wrd st).toArray⟩, .func (.func 91) #[] #[.pointer (some ⟨w.heap.size, 0, none⟩)]] (w.alloc (.cells #[.slice (some ⟨B, off, none⟩) n n] 54)) fun e w' => e = .returned (.tuple #[]) ∧ Ext w0 w' ∧
      ((∃ rest', OKS tx b B X (fun _ _ => True) (st + 1) 0 rest' w') ∨ ERS tx X w')) := by
    rcases h with ⟨rest, h⟩ | h
    · have hlt : X < w.heap.size := by
        obtain ⟨at_, -, -, hx⟩ := h.lx
        exact hx.lt
      refine (take_st tx b B X st 0 _ _ (KdB B w.heap.size (.slice (some ⟨B, off, none⟩) n n)) rest w0 _ (acc_ls st b B w.heap.size n off h1 h5 hn ho) (kd_box B X _ _ (by omega)) (by omega) hX hb hm hE1 h.box (.inl rfl)).mono ?_
      rintro e w' ⟨r1, r2, r3⟩
      refine ⟨r1, r2, r3.imp (fun ⟨rest', q1, q2⟩ => ⟨rest', ?_⟩) id⟩
      unfold nxtL at q2
      rw [if_pos (by omega), if_pos (by omega)] at q2
      exact q2.kd (fun _ _ _ => trivial)
    · refine (take_er tx X (wrd st) _ w0 _ hE1 (h.ext ((Ext.refl w).alloc _))).mono ?_
      rintro e w' ⟨r1, r2, r3⟩
      exact ⟨r1, r2, .inr r3⟩
  obtain ⟨wd, hwd⟩ : ∃ wd, wrd st = wd := ⟨_, rfl⟩
  rw [hwd] at HT ⊢
  clear h hwd hX hb hm hE hn ho hE1
  go_enter Tryz.func43, Tryz.ntmps43
  go_wp2_with (first
    | (go_at_call 41; (with_reducible refine HT.out.mono ?_); rintro e w1 ⟨rfl, hE1, hS1⟩))
  go_end0
  exact ⟨rfl, hE1, hS1⟩
end
theorem category_c (p : Addr) (w : World) : Calls Tryz.prog 45 #[.pointer (some p)] w fun e w' => e = .returned (.func (.func 93) #[] #[.pointer (some ⟨w.heap.size, 0, none⟩)]) ∧ w' = w.alloc (.cells #[.pointer (some p)] 79) := by
  go_enter Tryz.func45, Tryz.ntmps45
  go_wp2
  go_ret
  exact ⟨rfl, rfl⟩
end Go.Proofs.YtnhdmnhfllecgaaGreatDoor
