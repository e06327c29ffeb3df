/- Patterns, plainly: a quoted text is a literal. No program in sight. -/
import Derived.Test.YticckkadmhklmaaGreatDoorK41
import Derived.Test.YticckkadmhklmaaGreatDoorK02
import Derived.Test.YticckkadmhklmaaGreatDoorK00
namespace Go.Proofs.YticckkadmhklmaaGreatDoor
set_option linter.unusedVariables false
set_option linter.unusedSimpArgs false

theorem qtT_len (t : List UInt8) : (qtT t).length ≤ 2 * t.length := by
  induction t with
  | nil => simp [qtT_nil]
  | cons c t ih =>
    rw [qtT_cons]
    split <;> simp <;> omega
theorem lit_end (s : List UInt8) (h100 : s.length ≤ 100) (j : Nat) : cmpL [] j false [⟨1, 0, s⟩] = ([⟨1, 0, s⟩], 0, 0) := by
  rw [cmpL_end, if_neg (by simp)]
  have : longB [⟨1, 0, s⟩] = false := by unfold longB; simp; omega
  rw [this]
  rfl
theorem lit_quoted (s : List UInt8) (hs : s ≠ []) (h : s.length ≤ 90) (hp : s.all prn = true) (hq : (s.any fun c => !(c == 39)) = true) : cmpT (39 :: (qtT s ++ [39])) = ([⟨1, 0, s⟩], 0, 0) := by
  have := qtT_len s
  unfold cmpT
  rw [if_neg (by simp; omega)]
  obtain ⟨j, hj⟩ := cmp_quoted [] (by simp) s 0 [] hp hq
  rw [hj, fold_new s [] hs rfl]
  exact lit_end s (by omega) j
theorem lit_plain (s : List UInt8) (hs : s ≠ []) (h : s.length ≤ 90) (hp : s.all prn = true) (hq : (s.any fun c => !(c == 39)) = false) : cmpT (qtT s) = ([⟨1, 0, s⟩], 0, 0) := by
  have := qtT_len s
  unfold cmpT
  rw [if_neg (by omega)]
  have hn : s.any isLt = false := by
    cases e : s.any isLt with
    | false => rfl
    | true => rw [lt_q e] at hq; cases hq
  obtain ⟨j, hj⟩ := cmp_qt [] s 0 false [] hp (.inr hn)
  rw [List.append_nil] at hj
  rw [hj, fold_new s [] hs rfl]
  exact lit_end s (by omega) j
theorem lit_valid (s : List UInt8) (hs : s ≠ []) (h : s.length ≤ 90) (hp : s.all prn = true) : validB [⟨1, 0, s⟩] = true := by
  have := List.length_pos_iff.2 hs
  unfold validB
  simp only [tailB]
  unfold partB
  rw [if_pos rfl, hp]
  simp; omega
theorem lit_fmt (N : Nms) (F : Fv) (o : Int) (tn s : List UInt8) : fmtL N F o tn [⟨1, 0, s⟩] = s := by
  unfold fmtL fmt1; simp
theorem lit_read (N : Nms) (s r : List UInt8) : rdL N [⟨1, 0, s⟩] (s ++ r) 0 [] = if r.isEmpty then .inr [] else .inl (s.length + 1) := by
  simp only [rdL, rd1]
  have : s.isPrefixOf (s ++ r) = true := by rw [List.isPrefixOf_iff_prefix]; exact List.prefix_append _ _
  simp [this]
theorem mom_none : momP (gotK []) (clB []) = (0, true) := by kernel_rfl
theorem lit_prs (N : Nms) (hn : nmOk N = true) (s : List UInt8) (hs : s ≠ []) (h : s.length ≤ 90) (hp : s.all prn = true) : prsT N [⟨1, 0, s⟩] s = (0, 0, 0) := by
  unfold prsT
  rw [if_pos ⟨lit_valid s hs h hp, hn⟩, if_neg (by omega)]
  have := lit_read N s []
  rw [List.append_nil] at this
  rw [this, if_pos (show ([] : List UInt8).isEmpty = true from rfl)]
  simp only [mom_none]
  rfl
theorem lit_prsx (N : Nms) (hn : nmOk N = true) (s : List UInt8) (c : UInt8) (hs : s ≠ []) (h : s.length ≤ 90) (hp : s.all prn = true) : prsT N [⟨1, 0, s⟩] (s ++ [c]) = (0, s.length + 1, 3) := by
  unfold prsT
  rw [if_pos ⟨lit_valid s hs h hp, hn⟩, if_neg (by simp; omega), lit_read N s [c], if_neg (by simp)]
end Go.Proofs.YticckkadmhklmaaGreatDoor
