/- Locales: what was read has the text from which it was, plainly. -/
import Derived.Test.YtnhdmnhfllecgaaGreatDoorQ09
import Derived.Test.YtnhdmnhfllecgaaGreatDoorQ32
import Derived.Test.YtnhdmnhfllecgaaGreatDoorQ06
namespace Go.Proofs.YtnhdmnhfllecgaaGreatDoor
set_option linter.unusedVariables false
set_option linter.unusedSimpArgs false
open Go.RowKit

structure InvL (st : Nat) (D : LocD) : Prop where
  P : st < 6 → D.P = []
  O : st < 7 → D.O = []
  U : st < 8 → D.U = []
theorem InvL.up {st : Nat} {D : LocD} (h : InvL st D) : InvL (st + 1) D := ⟨fun q => h.P (by omega), fun q => h.O (by omega), fun q => h.U (by omega)⟩
def nxtL (st : Nat) : Nat := if st < 6 ∨ st = 9 then st + 1 else st
end Go.Proofs.YtnhdmnhfllecgaaGreatDoor
/- Locales: the walks of the reader of lines: fail, begins, take. -/
namespace Go.Proofs.YtnhdmnhfllecgaaGreatDoor
set_option linter.unusedVariables false
set_option linter.unusedSimpArgs false
open Go.RowKit

/-- The reader of lines in block X. -/
structure LX (rest : List UInt8) (ln e al ac : Nat) (X : Nat) (w : World) : Prop where
  c0 : w.cell? ⟨X, 0, none⟩ = some (.string ⟨rest.toArray⟩)
  c1 : w.cell? ⟨X, 1, none⟩ = some (.int .i64 (ln : Int))
  c2 : w.cell? ⟨X, 2, none⟩ = some (.int .i64 (e : Int))
  c3 : w.cell? ⟨X, 3, none⟩ = some (.int .i64 (al : Int))
  c4 : w.cell? ⟨X, 4, none⟩ = some (.int .i64 (ac : Int))
  free : ∀ o, w.frozen? ⟨X, o, none⟩ = false
  lt : X < w.heap.size
section
variable {rest : List UInt8} {ln e al ac X : Nat} {w w' : World}
theorem LX.frm {S : Nat → Prop} (h : LX rest ln e al ac X w) (hF : Frm S w w') (hS : ¬ S X) : LX rest ln e al ac X w' :=
  ⟨(hF.cel h.lt hS 0).trans h.c0, (hF.cel h.lt hS 1).trans h.c1, (hF.cel h.lt hS 2).trans h.c2, (hF.cel h.lt hS 3).trans h.c3, (hF.cel h.lt hS 4).trans h.c4, fun o => (hF.frz h.lt hS o).trans (h.free o), hF.lt h.lt⟩
theorem LX.ext (h : LX rest ln e al ac X w) (hE : Ext w w') : LX rest ln e al ac X w' := h.frm (S := fun _ => False) (Frm.of_ext hE) id
theorem LX.set0 (h : LX rest ln e al ac X w) (r : List UInt8) : LX r ln e al ac X (w.setCell ⟨X, 0, none⟩ (.string ⟨r.toArray⟩)) :=
  ⟨World.cell?_setCell_same _ _ _ h.c0, (World.cell?_setCell_other _ _ _ _ (by simp)).trans h.c1, (World.cell?_setCell_other _ _ _ _ (by simp)).trans h.c2, (World.cell?_setCell_other _ _ _ _ (by simp)).trans h.c3, (World.cell?_setCell_other _ _ _ _ (by simp)).trans h.c4, fun o => by rw [World.frozen?_setCell]; exact h.free o, by simpa using h.lt⟩
theorem LX.set1 (h : LX rest ln e al ac X w) (r : Nat) : LX rest r e al ac X (w.setCell ⟨X, 1, none⟩ (.int .i64 (r : Int))) :=
  ⟨(World.cell?_setCell_other _ _ _ _ (by simp)).trans h.c0, World.cell?_setCell_same _ _ _ h.c1, (World.cell?_setCell_other _ _ _ _ (by simp)).trans h.c2, (World.cell?_setCell_other _ _ _ _ (by simp)).trans h.c3, (World.cell?_setCell_other _ _ _ _ (by simp)).trans h.c4, fun o => by rw [World.frozen?_setCell]; exact h.free o, by simpa using h.lt⟩
theorem LX.set2 (h : LX rest ln e al ac X w) (r : Nat) : LX rest ln r al ac X (w.setCell ⟨X, 2, none⟩ (.int .i64 (r : Int))) :=
  ⟨(World.cell?_setCell_other _ _ _ _ (by simp)).trans h.c0, (World.cell?_setCell_other _ _ _ _ (by simp)).trans h.c1, World.cell?_setCell_same _ _ _ h.c2, (World.cell?_setCell_other _ _ _ _ (by simp)).trans h.c3, (World.cell?_setCell_other _ _ _ _ (by simp)).trans h.c4, fun o => by rw [World.frozen?_setCell]; exact h.free o, by simpa using h.lt⟩
theorem LX.set3 (h : LX rest ln e al ac X w) (r : Nat) : LX rest ln e r ac X (w.setCell ⟨X, 3, none⟩ (.int .i64 (r : Int))) :=
  ⟨(World.cell?_setCell_other _ _ _ _ (by simp)).trans h.c0, (World.cell?_setCell_other _ _ _ _ (by simp)).trans h.c1, (World.cell?_setCell_other _ _ _ _ (by simp)).trans h.c2, World.cell?_setCell_same _ _ _ h.c3, (World.cell?_setCell_other _ _ _ _ (by simp)).trans h.c4, fun o => by rw [World.frozen?_setCell]; exact h.free o, by simpa using h.lt⟩
theorem LX.set4 (h : LX rest ln e al ac X w) (r : Nat) : LX rest ln e al r X (w.setCell ⟨X, 4, none⟩ (.int .i64 (r : Int))) :=
  ⟨(World.cell?_setCell_other _ _ _ _ (by simp)).trans h.c0, (World.cell?_setCell_other _ _ _ _ (by simp)).trans h.c1, (World.cell?_setCell_other _ _ _ _ (by simp)).trans h.c2, (World.cell?_setCell_other _ _ _ _ (by simp)).trans h.c3, World.cell?_setCell_same _ _ _ h.c4, fun o => by rw [World.frozen?_setCell]; exact h.free o, by simpa using h.lt⟩
end
def AtX (X : Nat) (k : Nat) : Prop := k = X
theorem frm_atX (w : World) (B o : Nat) (u : Value) : Frm (AtX B) w (w.setCell ⟨B, o, none⟩ u) := (Frm.refl (AtX B) w).setCell (p := ⟨B, o, none⟩) (.inl rfl) u
theorem frm_atX2 {w w' : World} {B : Nat} (h : Frm (AtX B) w w') (o : Nat) (u : Value) : Frm (AtX B) w (w'.setCell ⟨B, o, none⟩ u) := h.trans (frm_atX w' B o u)
set_option maxHeartbeats 1000000 in
theorem lfail_c (rest : List UInt8) (ln X : Nat) (w : World) (h : LX rest ln 0 0 0 X w) (hl : ln ≤ 2000000) :
    Calls Tryz.prog 50 #[.pointer (some ⟨X, 0, none⟩)] w fun e w' => e = .returned (.tuple #[]) ∧ LX rest ln 3 ln 1 X w' ∧ Frm (AtX X) w w' := by
  have H := Lib.hid h
  obtain ⟨c0, c1, c2, c3, c4, hf, hX⟩ := h
  have f2 := hf 2
  have f3 := hf 3
  have f4 := hf 4
  clear hf
  go_enter Tryz.func50, Tryz.ntmps50
  go_wp2
  go_end0
  exact ⟨rfl, ((H.out.set2 3).set3 ln).set4 1, frm_atX2 (frm_atX2 (frm_atX w X 2 _) _ _) _ _⟩
theorem begins_c (rest wd : List UInt8) (ln e al ac X : Nat) (b : Bool) (w : World) (h : LX rest ln e al ac X w) (hw : wd.length ≤ 1000) (hb : (wd ++ [32]).isPrefixOf rest = b) :
    Calls Tryz.prog 92 #[.pointer (some ⟨X, 0, none⟩), .string ⟨wd.toArray⟩] w fun e w' => e = .returned (.bool b) ∧ w = w' := by
  obtain ⟨c0, c1, c2, c3, c4, hf, hX⟩ := h
  have HB := Lib.hid hb
  clear hb c1 c2 c3 c4 hf
  have hcc := snoc_str wd 32
  go_enter Tryz.func92, Tryz.ntmps92
  go_wp2_with (first
    | (go_at_call 76; (with_reducible refine (hasPrefix_l rest (wd ++ [32]) b _ HB.out).mono ?_); rintro e w1 ⟨rfl, rfl⟩))
  go_ret
  exact ⟨rfl, rfl⟩
theorem cutS_c (s sep A B : List UInt8) (b : Bool) (w : World) (hm : Lm w) (hs : s.length ≤ 100000) (hc : Lib.cut s sep = (A, B, b)) :
    Calls Tryz.prog 47 #[.string ⟨s.toArray⟩, .string ⟨sep.toArray⟩] w fun e w' => e = .returned (.tuple #[.string ⟨A.toArray⟩, .string ⟨B.toArray⟩, .bool b]) ∧ Ext w w' := by
  obtain ⟨m, hm⟩ := hm
  refine (Tryz.strings_Cut ⟨s.toArray⟩ ⟨sep.toArray⟩ m w (by show s.toArray.size < _; simp; omega) hm).mono ?_
  rintro e w' ⟨rfl, nq, rfl⟩
  have eT : (⟨s.toArray⟩ : ByteArray).data.toList = s := by simp
  have eS : (⟨sep.toArray⟩ : ByteArray).data.toList = sep := by simp
  rw [eT, eS, hc]
  exact ⟨rfl, (Ext.refl w).drewN nq⟩
theorem cutP_c (s p X : List UInt8) (b : Bool) (w : World) (hb : p.isPrefixOf s = b) (hX : (if b then s.drop p.length else s) = X) : Calls Tryz.prog 90 #[.string ⟨s.toArray⟩, .string ⟨p.toArray⟩] w fun e w' => e = .returned (.tuple #[.string ⟨X.toArray⟩, .bool b]) ∧ w = w' := by
  refine (Tryz.strings_CutPrefix ⟨s.toArray⟩ ⟨p.toArray⟩ w).mono ?_
  rintro e w' ⟨rfl, rfl⟩
  refine ⟨?_, rfl⟩
  have h1 : (⟨s.toArray⟩ : ByteArray).data.toList = s := by simp
  have h2 : (⟨p.toArray⟩ : ByteArray).data.toList = p := by simp
  rw [h1, h2]
  subst hb
  subst hX
  rfl
theorem cutc_at (c : UInt8) (a r : List UInt8) (h : ∀ x ∈ a, x ≠ c) : Lib.cut (a ++ c :: r) [c] = (a, r, true) := by
  unfold Lib.cut
  rw [ix1_at c r a h, if_pos (by omega), Int.toNat_natCast, List.take_append_of_le_length (Nat.le_refl _), List.take_length, List.drop_append]
  simp
theorem cutc_no (c : UInt8) (l : List UInt8) (h : ∀ x ∈ l, x ≠ c) : Lib.cut l [c] = (l, [], false) := by
  unfold Lib.cut
  rw [ix1_no c l h, if_neg (by omega)]
/-- An error stands: nothing is done. -/
theorem take_err (rest wd : List UInt8) (ln e al ac X : Nat) (fv : Value) (w : World) (h : LX rest ln e al ac X w) (he : e ≠ 0) :
    Calls Tryz.prog 41 #[.pointer (some ⟨X, 0, none⟩), .string ⟨wd.toArray⟩, fv] w fun e w' => e = .returned (.tuple #[]) ∧ w = w' := by
  obtain ⟨c0, c1, c2, c3, c4, hf, hX⟩ := h
  have t0 : ((e : Int) == 0) = false := by rw [beq_eq_false_iff_ne]; omega
  have t1 : ((e : Int) != 0) = true := by rw [bne, t0]; rfl
  clear c0 c1 c3 c4 hf he
  go_enter Tryz.func41, Tryz.ntmps41
  go_wp2
  ((try simp only [Exit.inBlock, Exit.then]); refine bodyPost_ret (results_none rfl _ _ _) rfl ?_)
  exact ⟨rfl, rfl⟩
set_option maxRecDepth 100000 in
set_option maxHeartbeats 2000000 in
/-- No whole line is left. -/
theorem take_no (rest wd : List UInt8) (ln X : Nat) (fv : Value) (w : World) (h : LX rest ln 0 0 0 X w) (hm : Lm w) (hG : 0 ≠ X) (hl : ln ≤ 1000000) (hr : rest.length ≤ 70000) (hn : ∀ x ∈ rest, x ≠ 10) :
    Calls Tryz.prog 41 #[.pointer (some ⟨X, 0, none⟩), .string ⟨wd.toArray⟩, fv] w fun e w' => e = .returned (.tuple #[]) ∧ LX rest (ln + 1) 4 0 0 X w' ∧ Frm (AtX X) w w' := by
  have H := Lib.hid h
  have HM := Lib.hid hm
  have HC := Lib.hid (cutc_no 10 rest hn)
  obtain ⟨c0, c1, c2, c3, c4, hf, hX⟩ := h
  have f1 := hf 1
  have hw1 : IntKind.i64.wrap ((ln : Int) + 1) = ((ln + 1 : Nat) : Int) := by rw [IntWalk.i64_in _ (by omega)]; omega
  clear c3 c4 hf hm
  by_cases hne : rest = []
  · subst hne
    clear hn
    go_enter Tryz.func41, Tryz.ntmps41
    go_upto_region 2 with fail
    have hL1 := H.out.set1 (ln + 1)
    have hF1 := frm_atX w X 1 (.int .i64 ((ln + 1 : Nat) : Int))
    rw [show ((ln : Int) + 1) = ((ln + 1 : Nat) : Int) by omega]
    generalize w.setCell ⟨X, 1, none⟩ (.int .i64 ((ln + 1 : Nat) : Int)) = W1 at hL1 hF1 ⊢
    have H1 := Lib.hid hL1
    obtain ⟨d0, d1, d2, d3, d4, hf, hX1⟩ := hL1
    have f2 := hf 2
    clear c0 c1 c2 f1 hX hf
    go_wp2_with fail
    ((try simp only [Exit.inBlock, Exit.then]); refine bodyPost_ret (results_none rfl _ _ _) rfl ?_)
    exact ⟨rfl, H1.out.set2 4, frm_atX2 hF1 _ _⟩
  · have t0 : (rest == []) = false := by simpa using hne
    have t1 : rest.isEmpty = false := by simpa using hne
    clear hn hne
    go_enter Tryz.func41, Tryz.ntmps41
    go_upto_region 2 with fail
    have hL1 := H.out.set1 (ln + 1)
    have hF1 := frm_atX w X 1 (.int .i64 ((ln + 1 : Nat) : Int))
    rw [show ((ln : Int) + 1) = ((ln + 1 : Nat) : Int) by omega]
    generalize w.setCell ⟨X, 1, none⟩ (.int .i64 ((ln + 1 : Nat) : Int)) = W1 at hL1 hF1 ⊢
    have H1 := Lib.hid hL1
    have HM1 := Lib.hid (HM.out.frm hF1 (fun e => hG e))
    obtain ⟨d0, d1, d2, d3, d4, hf, hX1⟩ := hL1
    clear c0 c1 c2 f1 hX hf
    go_upto_region 6 with (first
      | (go_at_call 47; (with_reducible refine (cutS_c rest [10] rest [] false _ HM1.out (by omega) HC.out).mono ?_); rintro e w2 ⟨rfl, hE2⟩))
    have H2 := Lib.hid (H1.out.ext hE2)
    have hF2 := hF1.trans (Frm.of_ext hE2)
    obtain ⟨d0, d1, d2, d3, d4, hf, hX1⟩ := H2.out
    have f2 := hf 2
    clear hf
    go_wp2_with fail
    ((try simp only [Exit.inBlock, Exit.then]); refine bodyPost_ret (results_none rfl _ _ _) rfl ?_)
    exact ⟨rfl, H2.out.set2 4, frm_atX2 hF2 _ _⟩
set_option maxRecDepth 100000 in
set_option maxHeartbeats 2000000 in
/-- A line that begins otherwise. -/
theorem take_bad (rest wd a r : List UInt8) (ln X : Nat) (fv : Value) (w : World) (h : LX rest ln 0 0 0 X w) (hm : Lm w) (hG : 0 ≠ X) (hl : ln ≤ 1000000) (hr : rest.length ≤ 70000) (hw : wd.length ≤ 1000)
    (he : rest = a ++ 10 :: r) (hn : ∀ x ∈ a, x ≠ 10) (hp : (wd ++ [32]).isPrefixOf a = false) :
    Calls Tryz.prog 41 #[.pointer (some ⟨X, 0, none⟩), .string ⟨wd.toArray⟩, fv] w fun e w' => e = .returned (.tuple #[]) ∧ LX rest (ln + 1) 3 (ln + 1) 1 X w' ∧ Frm (AtX X) w w' := by
  have H := Lib.hid h
  have HM := Lib.hid hm
  have HC : Hid (Lib.cut rest [10] = (a, r, true)) := by rw [Hid, he]; exact cutc_at 10 a r hn
  have HP := Lib.hid hp
  have HCP := Lib.hid (fun (w' : World) => cutP_c a (wd ++ [32]) a false w' hp (by simp))
  have hne : rest ≠ [] := by rw [he]; simp
  have t0 : (rest == []) = false := by simpa using hne
  have t1 : rest.isEmpty = false := by simpa using hne
  have hcc := snoc_str wd 32
  obtain ⟨c0, c1, c2, c3, c4, hf, hX⟩ := h
  have f1 := hf 1
  have hw1 : IntKind.i64.wrap ((ln : Int) + 1) = ((ln + 1 : Nat) : Int) := by rw [IntWalk.i64_in _ (by omega)]; omega
  clear c3 c4 hf hm he hn hp hne
  go_enter Tryz.func41, Tryz.ntmps41
  go_upto_region 2 with fail
  have hL1 := H.out.set1 (ln + 1)
  have hF1 := frm_atX w X 1 (.int .i64 ((ln + 1 : Nat) : Int))
  rw [show ((ln : Int) + 1) = ((ln + 1 : Nat) : Int) by omega]
  generalize w.setCell ⟨X, 1, none⟩ (.int .i64 ((ln + 1 : Nat) : Int)) = W1 at hL1 hF1 ⊢
  have H1 := Lib.hid hL1
  have HM1 := Lib.hid (HM.out.frm hF1 (fun e => hG e))
  obtain ⟨d0, d1, d2, d3, d4, hf, hX1⟩ := hL1
  clear c0 c1 c2 f1 hX hf
  go_wp2_with (first
    | (go_at_call 47; (with_reducible refine (cutS_c rest [10] a r true _ HM1.out (by omega) HC.out).mono ?_); rintro e w2 ⟨rfl, hE2⟩; have H2 := Lib.hid (H1.out.ext hE2); have hF2 := hF1.trans (Frm.of_ext hE2))
    | (go_at_call 90; (with_reducible refine (HCP.out _).mono ?_); rintro e w3 ⟨rfl, rfl⟩)
    | (go_at_call 50; (with_reducible refine (lfail_c rest (ln + 1) X _ H2.out (by omega)).mono ?_); rintro e w4 ⟨rfl, h4, hF4⟩))
  ((try simp only [Exit.inBlock, Exit.then]); refine bodyPost_ret (results_none rfl _ _ _) rfl ?_)
  exact ⟨rfl, h4, hF2.trans hF4⟩
set_option maxRecDepth 100000 in
set_option maxHeartbeats 2000000 in
/-- A line that begins with the word: a closure reads what stands behind it. -/
theorem take_yes (rest wd t r : List UInt8) (ln X fid : Nat) (cap : Value) (w : World) (R : Bool → World → Prop) (h : LX rest ln 0 0 0 X w) (hm : Lm w) (hG : 0 ≠ X) (hl : ln ≤ 1000000) (hr : rest.length ≤ 70000) (hw : wd.length ≤ 1000)
    (he : rest = (wd ++ 32 :: t) ++ 10 :: r) (hn : ∀ x ∈ wd ++ 32 :: t, x ≠ 10)
    (hcf : ∀ (xs : Array Value) (w' : World), (callFunc fid xs).run Tryz.prog w' = .ok (.enter fid xs) w')
    (hacc : ∀ w1, LX rest (ln + 1) 0 0 0 X w1 → Frm (AtX X) w w1 → Calls Tryz.prog fid #[.string ⟨t.toArray⟩, cap] w1 fun e w2 => ∃ b, e = .returned (.bool b) ∧ R b w2 ∧ LX rest (ln + 1) 0 0 0 X w2) :
    Calls Tryz.prog 41 #[.pointer (some ⟨X, 0, none⟩), .string ⟨wd.toArray⟩, .func (.func fid) #[] #[cap]] w fun e w' => e = .returned (.tuple #[]) ∧ ∃ b w2, R b w2 ∧ Frm (AtX X) w2 w' ∧ (b = true → LX r (ln + 1) 0 0 0 X w') ∧ (b = false → LX rest (ln + 1) 3 (ln + 1) 1 X w') := by
  have H := Lib.hid h
  have HM := Lib.hid hm
  have HA := Lib.hid hacc
  have HC : Hid (Lib.cut rest [10] = (wd ++ 32 :: t, r, true)) := by rw [Hid, he]; exact cutc_at 10 _ r hn
  have hpp : (wd ++ [32]).isPrefixOf (wd ++ 32 :: t) = true := by
    rw [List.isPrefixOf_iff_prefix]; exact ⟨t, by simp⟩
  have HP := Lib.hid hpp
  have HCP := Lib.hid (fun (w' : World) => cutP_c (wd ++ 32 :: t) (wd ++ [32]) t true w' hpp (by rw [if_pos rfl, show wd ++ 32 :: t = (wd ++ [32]) ++ t by simp, List.drop_left]))
  have hne : rest ≠ [] := by rw [he]; simp
  have t0 : (rest == []) = false := by simpa using hne
  have t1 : rest.isEmpty = false := by simpa using hne
  have hcc := snoc_str wd 32
  obtain ⟨c0, c1, c2, c3, c4, hf, hX⟩ := h
  have f1 := hf 1
  have hw1 : IntKind.i64.wrap ((ln : Int) + 1) = ((ln + 1 : Nat) : Int) := by rw [IntWalk.i64_in _ (by omega)]; omega
  clear c3 c4 hf hm he hn hpp hne hacc
  obtain ⟨a, ha⟩ : ∃ a, a = wd ++ 32 :: t := ⟨_, rfl⟩
  rw [← ha] at HC HCP
  clear ha
  go_enter Tryz.func41, Tryz.ntmps41
  go_upto_region 2 with fail
  have hL1 := H.out.set1 (ln + 1)
  have hF1 := frm_atX w X 1 (.int .i64 ((ln + 1 : Nat) : Int))
  rw [show ((ln : Int) + 1) = ((ln + 1 : Nat) : Int) by omega]
  generalize w.setCell ⟨X, 1, none⟩ (.int .i64 ((ln + 1 : Nat) : Int)) = W1 at hL1 hF1 ⊢
  have H1 := Lib.hid hL1
  have HM1 := Lib.hid (HM.out.frm hF1 (fun e => hG e))
  obtain ⟨d0, d1, d2, d3, d4, hf, hX1⟩ := hL1
  clear c0 c1 c2 f1 hX hf
  go_wp2_with (first
    | (go_at_call 47; (with_reducible refine (cutS_c rest [10] a r true _ HM1.out (by omega) HC.out).mono ?_); rintro e w2 ⟨rfl, hE2⟩; have H2 := Lib.hid (H1.out.ext hE2); have hF2 := hF1.trans (Frm.of_ext hE2))
    | (go_at_call 90; (with_reducible refine (HCP.out _).mono ?_); rintro e w3 ⟨rfl, rfl⟩))
  refine (HA.out _ H2.out hF2).mono ?_
  rintro e w4 ⟨bb, rfl, hR4, h4⟩
  have H4 := Lib.hid h4
  have HR4 := Lib.hid hR4
  obtain ⟨x0, x1, x2, x3, x4, xf, xX⟩ := h4
  have xf0 := xf 0
  clear hR4 xf
  cases bb
  all_goals
    go_wp2_with (first
      | (go_at_call 50; (with_reducible refine (lfail_c rest (ln + 1) X _ H4.out (by omega)).mono ?_); rintro e w5 ⟨rfl, h5, hF5⟩))
  · ((try simp only [Exit.inBlock, Exit.then]); refine bodyPost_ret (results_none rfl _ _ _) rfl ?_)
    exact ⟨rfl, false, w4, HR4.out, hF5, (fun q => by cases q), fun _ => h5⟩
  · go_end0
    exact ⟨rfl, true, w4, HR4.out, frm_atX _ _ _ _, (fun _ => H4.out.set0 r), fun q => by cases q⟩
end Go.Proofs.YtnhdmnhfllecgaaGreatDoor
