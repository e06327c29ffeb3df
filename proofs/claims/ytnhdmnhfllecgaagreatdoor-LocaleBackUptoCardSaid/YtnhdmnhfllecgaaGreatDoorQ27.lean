/- Locales: the walks of the reader of lines: fail, begins, take. -/
import Derived.Test.YtnhdmnhfllecgaaGreatDoorQ26
import Derived.Test.YtnhdmnhfllecgaaGreatDoorQ06
import Derived.Test.YtnhdmnhfllecgaaGreatDoorQ09
import Derived.Test.YtnhdmnhfllecgaaGreatDoorQ10
import Derived.Test.YtnhdmnhfllecgaaGreatDoorQ02
namespace Go.Proofs.YtnhdmnhfllecgaaGreatDoor
set_option linter.unusedVariables false
set_option linter.unusedSimpArgs false
open Go.RowKit

/-- The reader of lines in block X. -/
structure LX (rest : List UInt8) (ln e al ac : Nat) (X : Nat) (w : World) : Prop where
  c0 : w.cell? ⟨X, 0, none⟩ = some (.string ⟨rest.toArray⟩)
  c1 : w.cell? ⟨X, 1, none⟩ = some (.int .i64 (ln : Int))
  c2 : w.cell? ⟨X, 2, none⟩ = some (.int .i64 (e : Int))
  c3 : w.cell? ⟨X, 3, none⟩ = some (.int .i64 (al : Int))
  c4 : w.cell? ⟨X, 4, none⟩ = some (.int .i64 (ac : Int))
  free : ∀ o, w.frozen? ⟨X, o, none⟩ = false
  lt : X < w.heap.size
section
variable {rest : List UInt8} {ln e al ac X : Nat} {w w' : World}
theorem LX.frm {S : Nat → Prop} (h : LX rest ln e al ac X w) (hF : Frm S w w') (hS : ¬ S X) : LX rest ln e al ac X w' :=
  ⟨(hF.cel h.lt hS 0).trans h.c0, (hF.cel h.lt hS 1).trans h.c1, (hF.cel h.lt hS 2).trans h.c2, (hF.cel h.lt hS 3).trans h.c3, (hF.cel h.lt hS 4).trans h.c4, fun o => (hF.frz h.lt hS o).trans (h.free o), hF.lt h.lt⟩
theorem LX.ext (h : LX rest ln e al ac X w) (hE : Ext w w') : LX rest ln e al ac X w' := h.frm (S := fun _ => False) (Frm.of_ext hE) id
theorem LX.set0 (h : LX rest ln e al ac X w) (r : List UInt8) : LX r ln e al ac X (w.setCell ⟨X, 0, none⟩ (.string ⟨r.toArray⟩)) :=
  ⟨World.cell?_setCell_same _ _ _ h.c0, (World.cell?_setCell_other _ _ _ _ (by simp)).trans h.c1, (World.cell?_setCell_other _ _ _ _ (by simp)).trans h.c2, (World.cell?_setCell_other _ _ _ _ (by simp)).trans h.c3, (World.cell?_setCell_other _ _ _ _ (by simp)).trans h.c4, fun o => by rw [World.frozen?_setCell]; exact h.free o, by simpa using h.lt⟩
theorem LX.set1 (h : LX rest ln e al ac X w) (r : Nat) : LX rest r e al ac X (w.setCell ⟨X, 1, none⟩ (.int .i64 (r : Int))) :=
  ⟨(World.cell?_setCell_other _ _ _ _ (by simp)).trans h.c0, World.cell?_setCell_same _ _ _ h.c1, (World.cell?_setCell_other _ _ _ _ (by simp)).trans h.c2, (World.cell?_setCell_other _ _ _ _ (by simp)).trans h.c3, (World.cell?_setCell_other _ _ _ _ (by simp)).trans h.c4, fun o => by rw [World.frozen?_setCell]; exact h.free o, by simpa using h.lt⟩
theorem LX.set2 (h : LX rest ln e al ac X w) (r : Nat) : LX rest ln r al ac X (w.setCell ⟨X, 2, none⟩ (.int .i64 (r : Int))) :=
  ⟨(World.cell?_setCell_other _ _ _ _ (by simp)).trans h.c0, (World.cell?_setCell_other _ _ _ _ (by simp)).trans h.c1, World.cell?_setCell_same _ _ _ h.c2, (World.cell?_setCell_other _ _ _ _ (by simp)).trans h.c3, (World.cell?_setCell_other _ _ _ _ (by simp)).trans h.c4, fun o => by rw [World.frozen?_setCell]; exact h.free o, by simpa using h.lt⟩
theorem LX.set3 (h : LX rest ln e al ac X w) (r : Nat) : LX rest ln e r ac X (w.setCell ⟨X, 3, none⟩ (.int .i64 (r : Int))) :=
  ⟨(World.cell?_setCell_other _ _ _ _ (by simp)).trans h.c0, (World.cell?_setCell_other _ _ _ _ (by simp)).trans h.c1, (World.cell?_setCell_other _ _ _ _ (by simp)).trans h.c2, World.cell?_setCell_same _ _ _ h.c3, (World.cell?_setCell_other _ _ _ _ (by simp)).trans h.c4, fun o => by rw [World.frozen?_setCell]; exact h.free o, by simpa using h.lt⟩
theorem LX.set4 (h : LX rest ln e al ac X w) (r : Nat) : LX rest ln e al r X (w.setCell ⟨X, 4, none⟩ (.int .i64 (r : Int))) :=
  ⟨(World.cell?_setCell_other _ _ _ _ (by simp)).trans h.c0, (World.cell?_setCell_other _ _ _ _ (by simp)).trans h.c1, (World.cell?_setCell_other _ _ _ _ (by simp)).trans h.c2, (World.cell?_setCell_other _ _ _ _ (by simp)).trans h.c3, World.cell?_setCell_same _ _ _ h.c4, fun o => by rw [World.frozen?_setCell]; exact h.free o, by simpa using h.lt⟩
end
def AtX (X : Nat) (k : Nat) : Prop := k = X
theorem frm_atX (w : World) (B o : Nat) (u : Value) : Frm (AtX B) w (w.setCell ⟨B, o, none⟩ u) := (Frm.refl (AtX B) w).setCell (p := ⟨B, o, none⟩) (.inl rfl) u
theorem frm_atX2 {w w' : World} {B : Nat} (h : Frm (AtX B) w w') (o : Nat) (u : Value) : Frm (AtX B) w (w'.setCell ⟨B, o, none⟩ u) := h.trans (frm_atX w' B o u)
set_option maxHeartbeats 1000000 in
theorem lfail_c (rest : List UInt8) (ln X : Nat) (w : World) (h : LX rest ln 0 0 0 X w) (hl : ln ≤ 2000000) :
    Calls Tryz.prog 50 #[.pointer (some ⟨X, 0, none⟩)] w fun e w' => e = .returned (.tuple #[]) ∧ LX rest ln 3 ln 1 X w' ∧ Frm (AtX X) w w' := by
  have H := Lib.hid h
  obtain ⟨c0, c1, c2, c3, c4, hf, hX⟩ := h
  have f2 := hf 2
  have f3 := hf 3
  have f4 := hf 4
  clear hf
  go_enter Tryz.func50, Tryz.ntmps50
  go_wp2
  go_end0
  exact ⟨rfl, ((H.out.set2 3).set3 ln).set4 1, frm_atX2 (frm_atX2 (frm_atX w X 2 _) _ _) _ _⟩
theorem begins_c (rest wd : List UInt8) (ln e al ac X : Nat) (b : Bool) (w : World) (h : LX rest ln e al ac X w) (hw : wd.length ≤ 1000) (hb : (wd ++ [32]).isPrefixOf rest = b) :
    Calls Tryz.prog 92 #[.pointer (some ⟨X, 0, none⟩), .string ⟨wd.toArray⟩] w fun e w' => e = .returned (.bool b) ∧ w = w' := by
  obtain ⟨c0, c1, c2, c3, c4, hf, hX⟩ := h
  have HB := Lib.hid hb
  clear hb c1 c2 c3 c4 hf
  have hcc := snoc_str wd 32
  go_enter Tryz.func92, Tryz.ntmps92
  go_wp2_with (first
    | (go_at_call 76; (with_reducible refine (hasPrefix_l rest (wd ++ [32]) b _ HB.out).mono ?_); rintro e w1 ⟨rfl, rfl⟩))
  go_ret
  exact ⟨rfl, rfl⟩
theorem cutS_c (s sep A B : List UInt8) (b : Bool) (w : World) (hm : Lm w) (hs : s.length ≤ 100000) (hc : Lib.cut s sep = (A, B, b)) :
    Calls Tryz.prog 47 #[.string ⟨s.toArray⟩, .string ⟨sep.toArray⟩] w fun e w' => e = .returned (.tuple #[.string ⟨A.toArray⟩, .string ⟨B.toArray⟩, .bool b]) ∧ Ext w w' := by
  obtain ⟨m, hm⟩ := hm
  refine (Tryz.strings_Cut ⟨s.toArray⟩ ⟨sep.toArray⟩ m w (by show s.toArray.size < _; simp; omega) hm).mono ?_
  rintro e w' ⟨rfl, nq, rfl⟩
  have eT : (⟨s.toArray⟩ : ByteArray).data.toList = s := by simp
  have eS : (⟨sep.toArray⟩ : ByteArray).data.toList = sep := by simp
  rw [eT, eS, hc]
  exact ⟨rfl, (Ext.refl w).drewN nq⟩
theorem cutP_c (s p X : List UInt8) (b : Bool) (w : World) (hb : p.isPrefixOf s = b) (hX : (if b then s.drop p.length else s) = X) : Calls Tryz.prog 90 #[.string ⟨s.toArray⟩, .string ⟨p.toArray⟩] w fun e w' => e = .returned (.tuple #[.string ⟨X.toArray⟩, .bool b]) ∧ w = w' := by
  refine (Tryz.strings_CutPrefix ⟨s.toArray⟩ ⟨p.toArray⟩ w).mono ?_
  rintro e w' ⟨rfl, rfl⟩
  refine ⟨?_, rfl⟩
  have h1 : (⟨s.toArray⟩ : ByteArray).data.toList = s := by simp
  have h2 : (⟨p.toArray⟩ : ByteArray).data.toList = p := by simp
  rw [h1, h2]
  subst hb
  subst hX
  rfl
theorem cutc_at (c : UInt8) (a r : List UInt8) (h : ∀ x ∈ a, x ≠ c) : Lib.cut (a ++ c :: r) [c] = (a, r, true) := by
  unfold Lib.cut
  rw [ix1_at c r a h, if_pos (by omega), Int.toNat_natCast, List.take_append_of_le_length (Nat.le_refl _), List.take_length, List.drop_append]
  simp
theorem cutc_no (c : UInt8) (l : List UInt8) (h : ∀ x ∈ l, x ≠ c) : Lib.cut l [c] = (l, [], false) := by
  unfold Lib.cut
  rw [ix1_no c l h, if_neg (by omega)]
/-- An error stands: nothing is done. -/
theorem take_err (rest wd : List UInt8) (ln e al ac X : Nat) (fv : Value) (w : World) (h : LX rest ln e al ac X w) (he : e ≠ 0) :
    Calls Tryz.prog 41 #[.pointer (some ⟨X, 0, none⟩), .string ⟨wd.toArray⟩, fv] w fun e w' => e = .returned (.tuple #[]) ∧ w = w' := by
  obtain ⟨c0, c1, c2, c3, c4, hf, hX⟩ := h
  have t0 : ((e : Int) == 0) = false := by rw [beq_eq_false_iff_ne]; omega
  have t1 : ((e : Int) != 0) = true := by rw [bne, t0]; rfl
  clear c0 c1 c3 c4 hf he
  go_enter Tryz.func41, Tryz.ntmps41
  go_wp2
  ((try simp only [Exit.inBlock, Exit.then]); refine bodyPost_ret (results_none rfl _ _ _) rfl ?_)
  exact ⟨rfl, rfl⟩
set_option maxRecDepth 100000 in
set_option maxHeartbeats 2000000 in
/-- No whole line is left. -/
theorem take_no (rest wd : List UInt8) (ln X : Nat) (fv : Value) (w : World) (h : LX rest ln 0 0 0 X w) (hm : Lm w) (hG : 0 ≠ X) (hl : ln ≤ 1000000) (hr : rest.length ≤ 70000) (hn : ∀ x ∈ rest, x ≠ 10) :
    Calls Tryz.prog 41 #[.pointer (some ⟨X, 0, none⟩), .string ⟨wd.toArray⟩, fv] w fun e w' => e = .returned (.tuple #[]) ∧ LX rest (ln + 1) 4 0 0 X w' ∧ Frm (AtX X) w w' := by
  have H := Lib.hid h
  have HM := Lib.hid hm
  have HC := Lib.hid (cutc_no 10 rest hn)
  obtain ⟨c0, c1, c2, c3, c4, hf, hX⟩ := h
  have f1 := hf 1
  have hw1 : IntKind.i64.wrap ((ln : Int) + 1) = ((ln + 1 : Nat) : Int) := by rw [IntWalk.i64_in _ (by omega)]; omega
  clear c3 c4 hf hm
  by_cases hne : rest = []
  · subst hne
    clear hn
    go_enter Tryz.func41, Tryz.ntmps41
    go_upto_region 2 with fail
    have hL1 := H.out.set1 (ln + 1)
    have hF1 := frm_atX w X 1 (.int .i64 ((ln + 1 : Nat) : Int))
    rw [show ((ln : Int) + 1) = ((ln + 1 : Nat) : Int) by omega]
    generalize w.setCell ⟨X, 1, none⟩ (.int .i64 ((ln + 1 : Nat) : Int)) = W1 at hL1 hF1 ⊢
    have H1 := Lib.hid hL1
    obtain ⟨d0, d1, d2, d3, d4, hf, hX1⟩ := hL1
    have f2 := hf 2
    clear c0 c1 c2 f1 hX hf
    go_wp2_with fail
    ((try simp only [Exit.inBlock, Exit.then]); refine bodyPost_ret (results_none rfl _ _ _) rfl ?_)
    exact ⟨rfl, H1.out.set2 4, frm_atX2 hF1 _ _⟩
  · have t0 : (rest == []) = false := by simpa using hne
    have t1 : rest.isEmpty = false := by simpa using hne
    clear hn hne
    go_enter Tryz.func41, Tryz.ntmps41
    go_upto_region 2 with fail
    have hL1 := H.out.set1 (ln + 1)
    have hF1 := frm_atX w X 1 (.int .i64 ((ln + 1 : Nat) : Int))
    rw [show ((ln : Int) + 1) = ((ln + 1 : Nat) : Int) by omega]
    generalize w.setCell ⟨X, 1, none⟩ (.int .i64 ((ln + 1 : Nat) : Int)) = W1 at hL1 hF1 ⊢
    have H1 := Lib.hid hL1
    have HM1 := Lib.hid (HM.out.frm hF1 (fun e => hG e))
    obtain ⟨d0, d1, d2, d3, d4, hf, hX1⟩ := hL1
    clear c0 c1 c2 f1 hX hf
    go_upto_region 6 with (first
      | (go_at_call 47; (with_reducible refine (cutS_c rest [10] rest [] false _ HM1.out (by omega) HC.out).mono ?_); rintro e w2 ⟨rfl, hE2⟩))
    have H2 := Lib.hid (H1.out.ext hE2)
    have hF2 := hF1.trans (Frm.of_ext hE2)
    obtain ⟨d0, d1, d2, d3, d4, hf, hX1⟩ := H2.out
    have f2 := hf 2
    clear hf
    go_wp2_with fail
    ((try simp only [Exit.inBlock, Exit.then]); refine bodyPost_ret (results_none rfl _ _ _) rfl ?_)
    exact ⟨rfl, H2.out.set2 4, frm_atX2 hF2 _ _⟩
set_option maxRecDepth 100000 in
set_option maxHeartbeats 2000000 in
/-- A line that begins otherwise. -/
theorem take_bad (rest wd a r : List UInt8) (ln X : Nat) (fv : Value) (w : World) (h : LX rest ln 0 0 0 X w) (hm : Lm w) (hG : 0 ≠ X) (hl : ln ≤ 1000000) (hr : rest.length ≤ 70000) (hw : wd.length ≤ 1000)
    (he : rest = a ++ 10 :: r) (hn : ∀ x ∈ a, x ≠ 10) (hp : (wd ++ [32]).isPrefixOf a = false) :
    Calls Tryz.prog 41 #[.pointer (some ⟨X, 0, none⟩), .string ⟨wd.toArray⟩, fv] w fun e w' => e = .returned (.tuple #[]) ∧ LX rest (ln + 1) 3 (ln + 1) 1 X w' ∧ Frm (AtX X) w w' := by
  have H := Lib.hid h
  have HM := Lib.hid hm
  have HC : Hid (Lib.cut rest [10] = (a, r, true)) := by rw [Hid, he]; exact cutc_at 10 a r hn
  have HP := Lib.hid hp
  have HCP := Lib.hid (fun (w' : World) => cutP_c a (wd ++ [32]) a false w' hp (by simp))
  have hne : rest ≠ [] := by rw [he]; simp
  have t0 : (rest == []) = false := by simpa using hne
  have t1 : rest.isEmpty = false := by simpa using hne
  have hcc := snoc_str wd 32
  obtain ⟨c0, c1, c2, c3, c4, hf, hX⟩ := h
  have f1 := hf 1
  have hw1 : IntKind.i64.wrap ((ln : Int) + 1) = ((ln + 1 : Nat) : Int) := by rw [IntWalk.i64_in _ (by omega)]; omega
  clear c3 c4 hf hm he hn hp hne
  go_enter Tryz.func41, Tryz.ntmps41
  go_upto_region 2 with fail
  have hL1 := H.out.set1 (ln + 1)
  have hF1 := frm_atX w X 1 (.int .i64 ((ln + 1 : Nat) : Int))
  rw [show ((ln : Int) + 1) = ((ln + 1 : Nat) : Int) by omega]
  generalize w.setCell ⟨X, 1, none⟩ (.int .i64 ((ln + 1 : Nat) : Int)) = W1 at hL1 hF1 ⊢
  have H1 := Lib.hid hL1
  have HM1 := Lib.hid (HM.out.frm hF1 (fun e => hG e))
  obtain ⟨d0, d1, d2, d3, d4, hf, hX1⟩ := hL1
  clear c0 c1 c2 f1 hX hf
  go_wp2_with (first
    | (go_at_call 47; (with_reducible refine (cutS_c rest [10] a r true _ HM1.out (by omega) HC.out).mono ?_); rintro e w2 ⟨rfl, hE2⟩; have H2 := Lib.hid (H1.out.ext hE2); have hF2 := hF1.trans (Frm.of_ext hE2))
    | (go_at_call 90; (with_reducible refine (HCP.out _).mono ?_); rintro e w3 ⟨rfl, rfl⟩)
    | (go_at_call 50; (with_reducible refine (lfail_c rest (ln + 1) X _ H2.out (by omega)).mono ?_); rintro e w4 ⟨rfl, h4, hF4⟩))
  ((try simp only [Exit.inBlock, Exit.then]); refine bodyPost_ret (results_none rfl _ _ _) rfl ?_)
  exact ⟨rfl, h4, hF2.trans hF4⟩
set_option maxRecDepth 100000 in
set_option maxHeartbeats 2000000 in
/-- A line that begins with the word: a closure reads what stands behind it. -/
theorem take_yes (rest wd t r : List UInt8) (ln X fid : Nat) (cap : Value) (w : World) (R : Bool → World → Prop) (h : LX rest ln 0 0 0 X w) (hm : Lm w) (hG : 0 ≠ X) (hl : ln ≤ 1000000) (hr : rest.length ≤ 70000) (hw : wd.length ≤ 1000)
    (he : rest = (wd ++ 32 :: t) ++ 10 :: r) (hn : ∀ x ∈ wd ++ 32 :: t, x ≠ 10)
    (hcf : ∀ (xs : Array Value) (w' : World), (callFunc fid xs).run Tryz.prog w' = .ok (.enter fid xs) w')
    (hacc : ∀ w1, LX rest (ln + 1) 0 0 0 X w1 → Frm (AtX X) w w1 → Calls Tryz.prog fid #[.string ⟨t.toArray⟩, cap] w1 fun e w2 => ∃ b, e = .returned (.bool b) ∧ R b w2 ∧ LX rest (ln + 1) 0 0 0 X w2) :
    Calls Tryz.prog 41 #[.pointer (some ⟨X, 0, none⟩), .string ⟨wd.toArray⟩, .func (.func fid) #[] #[cap]] w fun e w' => e = .returned (.tuple #[]) ∧ ∃ b w2, R b w2 ∧ Frm (AtX X) w2 w' ∧ (b = true → LX r (ln + 1) 0 0 0 X w') ∧ (b = false → LX rest (ln + 1) 3 (ln + 1) 1 X w') := by
  have H := Lib.hid h
  have HM := Lib.hid hm
  have HA := Lib.hid hacc
  have HC : Hid (Lib.cut rest [10] = (wd ++ 32 :: t, r, true)) := by rw [Hid, he]; exact cutc_at 10 _ r hn
  have hpp : (wd ++ [32]).isPrefixOf (wd ++ 32 :: t) = true := by
    rw [List.isPrefixOf_iff_prefix]; exact ⟨t, by simp⟩
  have HP := Lib.hid hpp
  have HCP := Lib.hid (fun (w' : World) => cutP_c (wd ++ 32 :: t) (wd ++ [32]) t true w' hpp (by rw [if_pos rfl, show wd ++ 32 :: t = (wd ++ [32]) ++ t by simp, List.drop_left]))
  have hne : rest ≠ [] := by rw [he]; simp
  have t0 : (rest == []) = false := by simpa using hne
  have t1 : rest.isEmpty = false := by simpa using hne
  have hcc := snoc_str wd 32
  obtain ⟨c0, c1, c2, c3, c4, hf, hX⟩ := h
  have f1 := hf 1
  have hw1 : IntKind.i64.wrap ((ln : Int) + 1) = ((ln + 1 : Nat) : Int) := by rw [IntWalk.i64_in _ (by omega)]; omega
  clear c3 c4 hf hm he hn hpp hne hacc
  obtain ⟨a, ha⟩ : ∃ a, a = wd ++ 32 :: t := ⟨_, rfl⟩
  rw [← ha] at HC HCP
  clear ha
  go_enter Tryz.func41, Tryz.ntmps41
  go_upto_region 2 with fail
  have hL1 := H.out.set1 (ln + 1)
  have hF1 := frm_atX w X 1 (.int .i64 ((ln + 1 : Nat) : Int))
  rw [show ((ln : Int) + 1) = ((ln + 1 : Nat) : Int) by omega]
  generalize w.setCell ⟨X, 1, none⟩ (.int .i64 ((ln + 1 : Nat) : Int)) = W1 at hL1 hF1 ⊢
  have H1 := Lib.hid hL1
  have HM1 := Lib.hid (HM.out.frm hF1 (fun e => hG e))
  obtain ⟨d0, d1, d2, d3, d4, hf, hX1⟩ := hL1
  clear c0 c1 c2 f1 hX hf
  go_wp2_with (first
    | (go_at_call 47; (with_reducible refine (cutS_c rest [10] a r true _ HM1.out (by omega) HC.out).mono ?_); rintro e w2 ⟨rfl, hE2⟩; have H2 := Lib.hid (H1.out.ext hE2); have hF2 := hF1.trans (Frm.of_ext hE2))
    | (go_at_call 90; (with_reducible refine (HCP.out _).mono ?_); rintro e w3 ⟨rfl, rfl⟩))
  refine (HA.out _ H2.out hF2).mono ?_
  rintro e w4 ⟨bb, rfl, hR4, h4⟩
  have H4 := Lib.hid h4
  have HR4 := Lib.hid hR4
  obtain ⟨x0, x1, x2, x3, x4, xf, xX⟩ := h4
  have xf0 := xf 0
  clear hR4 xf
  cases bb
  all_goals
    go_wp2_with (first
      | (go_at_call 50; (with_reducible refine (lfail_c rest (ln + 1) X _ H4.out (by omega)).mono ?_); rintro e w5 ⟨rfl, h5, hF5⟩))
  · ((try simp only [Exit.inBlock, Exit.then]); refine bodyPost_ret (results_none rfl _ _ _) rfl ?_)
    exact ⟨rfl, false, w4, HR4.out, hF5, (fun q => by cases q), fun _ => h5⟩
  · go_end0
    exact ⟨rfl, true, w4, HR4.out, frm_atX _ _ _ _, (fun _ => H4.out.set0 r), fun q => by cases q⟩
end Go.Proofs.YtnhdmnhfllecgaaGreatDoor
/- Locales: a locale's contents decide whether it is valid. -/
namespace Go.Proofs.YtnhdmnhfllecgaaGreatDoor
set_option linter.unusedVariables false
set_option linter.unusedSimpArgs false
open Go.RowKit

def Uni.sf (u : Uni) : Int × List Plu := (u.s, u.f)
def unS (q : Int × List Plu) : Uni := ⟨q.1, none, 0, q.2⟩
theorem uHead_strip (l : List Uni) : uHead (l.map fun u => unS u.sf) ↔ uHead l := by
  unfold uHead
  simp [unS, Uni.sf]
theorem unAt_strip (P : List Plu) (l : List Uni) (i : Nat) : unAt P (l.map fun u => unS u.sf) i ↔ unAt P l i := by
  unfold unAt
  simp [unS, Uni.sf]
theorem unB_iff (P : List Plu) (l : List Uni) : unB P l = true ↔ uHead l ∧ ∀ i, i < l.length → unAt P l i := by
  unfold unB
  exact @decide_eq_true_iff _ (_)
theorem unB_strip (P : List Plu) (l : List Uni) : unB P (l.map fun u => unS u.sf) = unB P l := by
  rw [Bool.eq_iff_iff, unB_iff, unB_iff, uHead_strip, List.length_map]
  exact ⟨fun q => ⟨q.1, fun i hi => (unAt_strip P l i).1 (q.2 i hi)⟩, fun q => ⟨q.1, fun i hi => (unAt_strip P l i).2 (q.2 i hi)⟩⟩
theorem unB_congr (P : List Plu) {l l' : List Uni} (h : l.map Uni.sf = l'.map Uni.sf) : unB P l = unB P l' := by
  rw [← unB_strip P l, ← unB_strip P l']
  have e : ∀ l : List Uni, (l.map fun u => unS u.sf) = (l.map Uni.sf).map unS := fun l => by simp
  rw [e, e, h]
/-- The locale's contents. -/
structure Dat (L : Loc) (D : LocD) : Prop where
  nm : L.nm = D.nm
  N : L.N = D.N
  P : L.P = D.P
  O : L.O = D.O
  U : L.U.map Uni.sf = D.loc.U.map Uni.sf
  pt : L.pt = D.pt
theorem Dat.valid {L : Loc} {D : LocD} (h : Dat L D) : validLB L = validLB D.loc := by
  unfold validLB
  rw [h.nm, h.N, h.P, h.O, h.pt, unB_congr _ h.U]
  rfl
theorem Dat.ulen {L : Loc} {D : LocD} (h : Dat L D) : L.U.length = D.U.length := by
  have := congrArg List.length h.U
  simpa [LocD.loc] using this
/-- Moderate sizes. -/
structure DSz (D : LocD) (k : Nat) : Prop where
  nm : D.nm.length ≤ 6000
  pt : D.pt.length ≤ 6000
  N : ∀ s ∈ D.N.all, s.length ≤ 6000
  P : ∀ p ∈ D.P, p.c.length ≤ 6000 ∧ p.r.length ≤ 6000
  O : ∀ p ∈ D.O, p.c.length ≤ 6000 ∧ p.r.length ≤ 6000
  F : ∀ u ∈ D.U, ∀ p ∈ u.f, p.c.length ≤ 6000 ∧ p.r.length ≤ 6000
  ok : D.N.ok
  nP : D.P.length ≤ k
  nO : D.O.length ≤ k
  nU : D.U.length ≤ k
theorem Dat.sh {L : Loc} {D : LocD} {k : Nat} (h : Dat L D) (hz : DSz D k) : shL L ∧ ∀ s ∈ L.N.all, s.length ≤ 2000000 := by
  refine ⟨⟨?_, ?_, ?_, ?_, ?_⟩, ?_⟩
  · rw [h.P]; intro p hp; have := hz.P p hp; omega
  · rw [h.O]; intro p hp; have := hz.O p hp; omega
  · intro u hu p hp
    have h1 : u.sf ∈ D.loc.U.map Uni.sf := by rw [← h.U]; exact List.mem_map.2 ⟨u, hu, rfl⟩
    obtain ⟨v, hv, e⟩ := List.mem_map.1 h1
    obtain ⟨d, hd, rfl⟩ := List.mem_map.1 (show v ∈ D.U.map UniD.uni from hv)
    have e2 : u.f = d.f := by
      have := congrArg Prod.snd e
      exact this.symm
    rw [e2] at hp
    have := hz.F d hd p hp
    omega
  · rw [h.nm]; have := hz.nm; omega
  · rw [h.pt]; have := hz.pt; omega
  · rw [h.N]; intro s hs; have := hz.N s hs; omega
end Go.Proofs.YtnhdmnhfllecgaaGreatDoor
/- Locales: the walk of the reference's number, at 13 digits. -/
namespace Go.Proofs.YtnhdmnhfllecgaaGreatDoor
set_option linter.unusedVariables false
set_option linter.unusedSimpArgs false
open Go.RowKit

def numMN (s : List UInt8) : Nat := if numM 13 s then val s else 0
theorem numM_iff (s : List UInt8) : numM 13 s = true ↔ 1 ≤ s.length ∧ s.length ≤ 13 ∧ ¬ (s.head? = some 48 ∧ 1 < s.length) ∧ s.all isDg = true := by
  unfold numM
  simp only [Bool.and_eq_true, decide_eq_true_eq, Bool.not_eq_true', Bool.and_eq_false_iff, beq_eq_false_iff_ne, decide_eq_false_iff_not, ne_eq]
  constructor
  · rintro ⟨⟨⟨a, b⟩, c⟩, d⟩
    exact ⟨a, b, fun ⟨q1, q2⟩ => by rcases c with c | c; exact c q1; exact c q2, d⟩
  · rintro ⟨a, b, c, d⟩
    refine ⟨⟨⟨a, b⟩, ?_⟩, d⟩
    by_cases q : s.head? = some 48
    · exact .inr (fun q2 => c ⟨q, q2⟩)
    · exact .inl q
set_option maxRecDepth 100000 in
set_option maxHeartbeats 1000000 in
theorem rnumM_loop (s : List UInt8) (w : World) (h1 : 1 ≤ s.length) (h2 : s.length ≤ 13) (hz : ¬ (s.head? = some 48 ∧ 1 < s.length)) :
    Calls Tryz.prog 53 #[.string ⟨s.toArray⟩, .int .i64 13] w fun e w' => e = .returned (.tuple #[.int .i64 (numMN s : Nat), .bool (numM 13 s)]) ∧ w = w' := by
  have HB : Hid (∀ q, s.all isDg = q → numM 13 s = q) := by
    intro q hq
    rw [← hq, Bool.eq_iff_iff, numM_iff]
    exact ⟨fun h => h.2.2.2, fun h => ⟨h1, h2, hz, h⟩⟩
  have h0 : 0 < s.length := by omega
  have hne : s ≠ [] := by intro e; rw [e] at h0; simp at h0
  obtain ⟨c, hc⟩ : ∃ c, c = s[0] := ⟨_, rfl⟩
  have b0 := bget s 0 h0 c hc
  have t0 : (s == []) = false := by simpa using hne
  have d2 : decide (13 < (s.length : Int)) = false := by simp; omega
  have hcz : ¬ (c = 48 ∧ 1 < s.length) := by
    rintro ⟨q1, q2⟩
    refine hz ⟨?_, q2⟩
    rw [List.head?_eq_getElem?, List.getElem?_eq_getElem h0, ← hc, q1]
  clear hc hz
  by_cases hl1 : 1 < s.length
  · have d3 : decide (1 < (s.length : Int)) = true := by simp; omega
    have q1 : ((c.toNat : Int) == 48) = false := by
      rw [beq_eq_false_iff_ne]; intro e; exact hcz ⟨UInt8.toNat_inj.1 (by show c.toNat = 48; omega), hl1⟩
    clear hcz hne
    go_enter Tryz.func53, Tryz.ntmps53
    go_wp2_with fail
    go_loop [6, 7] (fun n i => ∃ k : Nat, k ≤ s.length ∧ i = .int .i64 (k : Int) ∧ n = .int .i64 (val (s.take k) : Int) ∧ Hid (∀ c ∈ s.take k, isDg c = true)) (fun _ i => s.length - (intOf i).toNat)
    case atStart => exact ⟨0, by omega, rfl, rfl, by intro c hc; simp at hc⟩
    case round =>
      obtain ⟨k, hk, rfl, rfl, Hd⟩ := hrel
      have hv0 : val (s.take k) < 10000000000000 := by
        have g2 := val_lt (s.take k) Hd.out
        have g3 : (s.take k).length ≤ 13 := by rw [List.length_take]; omega
        have g4 : (10 : Nat) ^ (s.take k).length ≤ 10 ^ 13 := Nat.pow_le_pow_right (by omega) g3
        have g5 : (10 : Nat) ^ 13 = 10000000000000 := rfl
        omega
      obtain ⟨v, hv⟩ : ∃ v, v = val (s.take k) := ⟨_, rfl⟩
      rw [← hv] at hv0 ⊢
      have Hv := Lib.hid hv
      clear hv
      by_cases hlt : k < s.length
      · have Hs := val_take_succ s k hlt
        have Ht : Hid (s.take (k + 1) = s.take k ++ [s[k]]) := List.take_succ_eq_append_getElem hlt
        have Hm : Hid (s[k] ∈ s) := List.getElem_mem _
        obtain ⟨x, hx⟩ : ∃ x, x = s[k] := ⟨_, rfl⟩
        have hi := bget s k hlt x hx
        rw [← hx] at Hs Ht Hm
        rw [← Hv.out] at Hs
        have Hs := Lib.hid Hs
        clear hx
        rcases Bool.eq_false_or_eq_true (isDg x) with hdx | hdx
        · have hd2 := isDg_iff.1 hdx
          have e1 : ¬ (x.toNat : Int) < 48 := by omega
          have e2 : ¬ 57 < (x.toNat : Int) := by omega
          have e3 : 48 ≤ (x.toNat : Int) := by omega
          have e4 : (x.toNat : Int) ≤ 57 := by omega
          have Hdx := Lib.hid hdx
          clear hd2 hdx
          go_wp2
          go_round
          case rel => exact ⟨k + 1, by omega, by go_num, by rw [Hs.out]; congr 1; omega, by
            intro c hc
            rw [Ht.out] at hc
            rcases List.mem_append.1 hc with q | q
            · exact Hd.out c q
            · rw [List.mem_singleton.1 q]; exact Hdx.out⟩
          case measure => simp [intOf]; omega
        · have hn2 : ¬ (48 ≤ x.toNat ∧ x.toNat ≤ 57) := by rw [← isDg_iff, hdx]; simp
          have HA : Hid (s.all isDg = false) := by
            rw [Hid, ← Bool.not_eq_true]
            intro q
            rw [List.all_eq_true.1 q x Hm.out] at hdx
            cases hdx
          have HB2 := Lib.hid (HB.out false HA.out)
          have HN : Hid (numMN s = 0) := by unfold Hid numMN; rw [HB2.out]; rfl
          clear hdx
          by_cases e1 : (x.toNat : Int) < 48
          · clear hn2
            go_wp2
            go_ret2
            exact ⟨by rw [HN.out, HB2.out]; rfl, rfl⟩
          · have e2 : 57 < (x.toNat : Int) := by omega
            clear hn2
            go_wp2
            go_ret2
            exact ⟨by rw [HN.out, HB2.out]; rfl, rfl⟩
      · obtain rfl : k = s.length := by omega
        have HA : Hid (s.all isDg = true) := by
          rw [Hid, List.all_eq_true]
          intro c hc
          exact Hd.out c (by rw [List.take_length]; exact hc)
        have HB2 := Lib.hid (HB.out true HA.out)
        have HN : Hid (v = numMN s) := by unfold Hid numMN; rw [HB2.out, if_pos rfl, Hv.out, List.take_length]
        go_wp2
        go_ret2
        exact ⟨by rw [HB2.out, ← HN.out]; rfl, rfl⟩
  · have d3 : decide (1 < (s.length : Int)) = false := by simp; omega
    clear hcz hne
    go_enter Tryz.func53, Tryz.ntmps53
    go_wp2_with fail
    go_loop [6, 7] (fun n i => ∃ k : Nat, k ≤ s.length ∧ i = .int .i64 (k : Int) ∧ n = .int .i64 (val (s.take k) : Int) ∧ Hid (∀ c ∈ s.take k, isDg c = true)) (fun _ i => s.length - (intOf i).toNat)
    case atStart => exact ⟨0, by omega, rfl, rfl, by intro c hc; simp at hc⟩
    case round =>
      obtain ⟨k, hk, rfl, rfl, Hd⟩ := hrel
      have hv0 : val (s.take k) < 10000000000000 := by
        have g2 := val_lt (s.take k) Hd.out
        have g3 : (s.take k).length ≤ 13 := by rw [List.length_take]; omega
        have g4 : (10 : Nat) ^ (s.take k).length ≤ 10 ^ 13 := Nat.pow_le_pow_right (by omega) g3
        have g5 : (10 : Nat) ^ 13 = 10000000000000 := rfl
        omega
      obtain ⟨v, hv⟩ : ∃ v, v = val (s.take k) := ⟨_, rfl⟩
      rw [← hv] at hv0 ⊢
      have Hv := Lib.hid hv
      clear hv
      by_cases hlt : k < s.length
      · have Hs := val_take_succ s k hlt
        have Ht : Hid (s.take (k + 1) = s.take k ++ [s[k]]) := List.take_succ_eq_append_getElem hlt
        have Hm : Hid (s[k] ∈ s) := List.getElem_mem _
        obtain ⟨x, hx⟩ : ∃ x, x = s[k] := ⟨_, rfl⟩
        have hi := bget s k hlt x hx
        rw [← hx] at Hs Ht Hm
        rw [← Hv.out] at Hs
        have Hs := Lib.hid Hs
        clear hx
        rcases Bool.eq_false_or_eq_true (isDg x) with hdx | hdx
        · have hd2 := isDg_iff.1 hdx
          have e1 : ¬ (x.toNat : Int) < 48 := by omega
          have e2 : ¬ 57 < (x.toNat : Int) := by omega
          have e3 : 48 ≤ (x.toNat : Int) := by omega
          have e4 : (x.toNat : Int) ≤ 57 := by omega
          have Hdx := Lib.hid hdx
          clear hd2 hdx
          go_wp2
          go_round
          case rel => exact ⟨k + 1, by omega, by go_num, by rw [Hs.out]; congr 1; omega, by
            intro c hc
            rw [Ht.out] at hc
            rcases List.mem_append.1 hc with q | q
            · exact Hd.out c q
            · rw [List.mem_singleton.1 q]; exact Hdx.out⟩
          case measure => simp [intOf]; omega
        · have hn2 : ¬ (48 ≤ x.toNat ∧ x.toNat ≤ 57) := by rw [← isDg_iff, hdx]; simp
          have HA : Hid (s.all isDg = false) := by
            rw [Hid, ← Bool.not_eq_true]
            intro q
            rw [List.all_eq_true.1 q x Hm.out] at hdx
            cases hdx
          have HB2 := Lib.hid (HB.out false HA.out)
          have HN : Hid (numMN s = 0) := by unfold Hid numMN; rw [HB2.out]; rfl
          clear hdx
          by_cases e1 : (x.toNat : Int) < 48
          · clear hn2
            go_wp2
            go_ret2
            exact ⟨by rw [HN.out, HB2.out]; rfl, rfl⟩
          · have e2 : 57 < (x.toNat : Int) := by omega
            clear hn2
            go_wp2
            go_ret2
            exact ⟨by rw [HN.out, HB2.out]; rfl, rfl⟩
      · obtain rfl : k = s.length := by omega
        have HA : Hid (s.all isDg = true) := by
          rw [Hid, List.all_eq_true]
          intro c hc
          exact Hd.out c (by rw [List.take_length]; exact hc)
        have HB2 := Lib.hid (HB.out true HA.out)
        have HN : Hid (v = numMN s) := by unfold Hid numMN; rw [HB2.out, if_pos rfl, Hv.out, List.take_length]
        go_wp2
        go_ret2
        exact ⟨by rw [HB2.out, ← HN.out]; rfl, rfl⟩
set_option maxRecDepth 100000 in
theorem rnumM_c (s : List UInt8) (w : World) (hs : s.length ≤ 7000) :
    Calls Tryz.prog 53 #[.string ⟨s.toArray⟩, .int .i64 13] w fun e w' => e = .returned (.tuple #[.int .i64 (numMN s : Nat), .bool (numM 13 s)]) ∧ w = w' := by
  by_cases hn : s.length < 1 ∨ 13 < s.length ∨ (s.head? = some 48 ∧ 1 < s.length)
  · have hb : numM 13 s = false := by
      rw [← Bool.not_eq_true, numM_iff]
      rintro ⟨a, b, c, _⟩
      rcases hn with q | q | q
      · omega
      · omega
      · exact c q
    have HN : Hid (numMN s = 0) := by unfold Hid numMN; rw [hb]; rfl
    by_cases h1 : s = []
    · subst h1
      clear hn
      go_enter Tryz.func53, Tryz.ntmps53
      go_wp2
      go_ret2
      exact ⟨by rw [HN.out, hb]; rfl, rfl⟩
    · have t0 : (s == []) = false := by simpa using h1
      have hl := List.length_pos_iff.2 h1
      by_cases h9 : 13 < s.length
      · have d2 : decide (13 < (s.length : Int)) = true := by simp; omega
        clear hn h1
        go_enter Tryz.func53, Tryz.ntmps53
        go_wp2
        go_ret2
        exact ⟨by rw [HN.out, hb]; rfl, rfl⟩
      · have d2 : decide (13 < (s.length : Int)) = false := by simp; omega
        obtain ⟨q1, q2⟩ : s.head? = some 48 ∧ 1 < s.length := by
          rcases hn with q | q | q
          · omega
          · omega
          · exact q
        have hs0 : s[0] = 48 := by
          rw [List.head?_eq_getElem?, List.getElem?_eq_getElem hl] at q1
          exact Option.some.inj q1
        have b0 := bget s 0 hl 48 hs0.symm
        have d3 : decide (1 < (s.length : Int)) = true := by simp; omega
        clear hn h1 q1 hs0
        go_enter Tryz.func53, Tryz.ntmps53
        go_wp2
        go_ret2
        exact ⟨by rw [HN.out, hb]; rfl, rfl⟩
  · exact rnumM_loop s w (by omega) (by omega) (fun q => hn (.inr (.inr q)))
end Go.Proofs.YtnhdmnhfllecgaaGreatDoor
