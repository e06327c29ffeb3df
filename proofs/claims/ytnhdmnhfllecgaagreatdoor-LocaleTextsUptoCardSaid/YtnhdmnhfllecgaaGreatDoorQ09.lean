/- Locales: their texts, plainly. -/
import Derived.Test.YtnhdmnhfllecgaaGreatDoorQ08
import Derived.Test.YtnhdmnhfllecgaaGreatDoorQ06
import Derived.Test.YtnhdmnhfllecgaaGreatDoorQ00
import Derived.Test.YtnhdmnhfllecgaaGreatDoorQ01
import Derived.Test.YtnhdmnhfllecgaaGreatDoorQ07
import Derived.Lib.Join
import Derived.Test.YtnhdmnhfllecgaaGreatDoorShelf
namespace Go.Proofs.YtnhdmnhfllecgaaGreatDoor
set_option linter.unusedVariables false
set_option linter.unusedSimpArgs false
open Go.RowKit

def wLocale : List UInt8 := [108, 111, 99, 97, 108, 101]
def wMonths : List UInt8 := [109, 111, 110, 116, 104, 115]
def wShort : List UInt8 := [115, 104, 111, 114, 116]
def wDays : List UInt8 := [100, 97, 121, 115]
def wShortdays : List UInt8 := [115, 104, 111, 114, 116, 100, 97, 121, 115]
def wHalves : List UInt8 := [104, 97, 108, 118, 101, 115]
def wPlural : List UInt8 := [112, 108, 117, 114, 97, 108]
def wOrdinal : List UInt8 := [111, 114, 100, 105, 110, 97, 108]
def wUnit : List UInt8 := [117, 110, 105, 116]
def wPattern : List UInt8 := [112, 97, 116, 116, 101, 114, 110]
/-- A line with names. -/
def lnN (w : List UInt8) (ns : List (List UInt8)) : List UInt8 := w ++ (32 :: (Lib.join ns [44] ++ [10]))
/-- A line with a category. -/
def lnC (w : List UInt8) (p : Plu) : List UInt8 := w ++ (32 :: (p.c ++ ((if p.r = [] then [] else 32 :: p.r) ++ [10])))
def lnsC (w : List UInt8) (l : List Plu) : List UInt8 := (l.map (lnC w)).flatten
def lnU (u : Uni) : List UInt8 := wUnit ++ (32 :: (itx u.s.natAbs 1 ++ (32 :: (Lib.join (u.f.map (·.r)) [44] ++ [10]))))
def lnsU (l : List Uni) : List UInt8 := (l.map lnU).flatten
/-- The text of a locale. -/
def txL (L : Loc) : List UInt8 := wLocale ++ (32 :: (L.nm ++ (10 :: (lnN wMonths L.N.mo ++ (lnN wShort L.N.sh ++ (lnN wDays L.N.da ++ (lnN wShortdays L.N.sd ++ (lnN wHalves L.N.ha ++ (lnsC wPlural L.P ++ (lnsC wOrdinal L.O ++ (lnsU L.U ++ (wPattern ++ (32 :: (L.pt ++ [10]))))))))))))))
noncomputable def txE (L : Loc) : Nat := if validLB L = true then 0 else 1
noncomputable def txV (L : Loc) : List UInt8 := if validLB L = true then txL L else []
theorem lnsC_succ (w : List UInt8) (l : List Plu) (k : Nat) (h : k < l.length) : lnsC w (l.take (k + 1)) = lnsC w (l.take k) ++ lnC w l[k] := by
  unfold lnsC
  rw [List.take_succ_eq_append_getElem h, List.map_append, List.flatten_append]; simp
theorem lnsU_succ (l : List Uni) (k : Nat) (h : k < l.length) : lnsU (l.take (k + 1)) = lnsU (l.take k) ++ lnU l[k] := by
  unfold lnsU
  rw [List.take_succ_eq_append_getElem h, List.map_append, List.flatten_append]; simp
end Go.Proofs.YtnhdmnhfllecgaaGreatDoor
/- Locales: what Parse makes of a text, plainly: line by line. -/
namespace Go.Proofs.YtnhdmnhfllecgaaGreatDoor
set_option linter.unusedVariables false
set_option linter.unusedSimpArgs false
open Go.RowKit

/-- A locale's contents. -/
structure UniD where
  s : Nat
  f : List Plu
structure LocD where
  nm : List UInt8
  N : Nms
  P : List Plu
  O : List Plu
  U : List UniD
  pt : List UInt8
def emN (k : Nat) : List (List UInt8) := List.replicate k []
def LocD.zero : LocD := ⟨[], ⟨emN 12, emN 12, emN 7, emN 7, emN 2⟩, [], [], [], []⟩
def UniD.uni (u : UniD) : Uni := ⟨(u.s : Int), none, 0, u.f⟩
def LocD.loc (D : LocD) : Loc := ⟨D.nm, D.N, none, 0, D.P, none, 0, D.O, none, 0, D.U.map UniD.uni, D.pt⟩
/-- The words of the lines. -/
def wrd : Nat → List UInt8
  | 0 => wLocale | 1 => wMonths | 2 => wShort | 3 => wDays | 4 => wShortdays | 5 => wHalves | 6 => wPlural | 7 => wOrdinal | 8 => wUnit | _ => wPattern
def nmLen : Nat → Nat
  | 1 => 12 | 2 => 12 | 3 => 7 | 4 => 7 | _ => 2
def setN (N : Nms) (st : Nat) (l : List (List UInt8)) : Nms := match st with
  | 1 => { N with mo := l } | 2 => { N with sh := l } | 3 => { N with da := l } | 4 => { N with sd := l } | _ => { N with ha := l }
/-- A number of at most so many digits. -/
def numM (m : Nat) (s : List UInt8) : Bool := decide (1 ≤ s.length) && decide (s.length ≤ m) && !(s.head? == some 48 && decide (1 < s.length)) && s.all isDg
def cut1 (s : List UInt8) : List UInt8 × List UInt8 × Bool := Lib.cut s [32]
/-- What a line adds at a stage (its word taken off). -/
def addL (st : Nat) (D : LocD) (t : List UInt8) : Option LocD :=
  if st = 0 then some { D with nm := t }
  else if st ≤ 5 then (if (spl 44 t).length = nmLen st then some { D with N := setN D.N st (spl 44 t) } else none)
  else if st ≤ 7 then
    (if (cut1 t).1 = [] ∨ ((cut1 t).2.2 = true ∧ (cut1 t).2.1 = []) then none
     else some (if st = 6 then { D with P := D.P ++ [⟨(cut1 t).1, (cut1 t).2.1⟩] } else { D with O := D.O ++ [⟨(cut1 t).1, (cut1 t).2.1⟩] }))
  else if st = 8 then
    (if (cut1 t).2.2 = false ∨ numM 13 (cut1 t).1 = false ∨ (cut1 t).2.1 = [] ∨ (spl 44 (cut1 t).2.1).length ≠ D.P.length then none
     else some { D with U := D.U ++ [⟨val (cut1 t).1, (D.P.zip (spl 44 (cut1 t).2.1)).map fun q => ⟨q.1.c, q.2⟩⟩] })
  else some { D with pt := t }
inductive PR where
  | er (e : Nat) (line : Nat)
  | ok (D : LocD)
/-- The stage at which a line is read. -/
def stgL (st cnt : Nat) (l : List UInt8) : Nat := if 6 ≤ st ∧ st ≤ 8 ∧ 0 < cnt ∧ (cut1 l).2.2 = true ∧ (cut1 l).1 = wrd (st + 1) then st + 1 else st
def cntL (st cnt : Nat) (l : List UInt8) : Nat := if 6 ≤ st ∧ st ≤ 8 ∧ 0 < cnt ∧ (cut1 l).2.2 = true ∧ (cut1 l).1 = wrd (st + 1) then 0 else cnt
noncomputable def finL (D : LocD) : PR := if validLB D.loc = true then .ok D else .er 1 0
/-- The lines' reading; 'tl': something stands behind the last newline. -/
noncomputable def runL (tl : Bool) : Nat → Nat → Nat → LocD → List (List UInt8) → PR
  | st, cnt, at_, D, [] => if 10 ≤ st then (if tl then .er 3 (at_ + 1) else finL D) else .er 4 0
  | st, cnt, at_, D, l :: ls =>
    if 10 ≤ st then .er 3 (at_ + 1)
    else if (cut1 l).2.2 = false ∨ (cut1 l).1 ≠ wrd (stgL st cnt l) then .er 3 (at_ + 1)
    else match addL (stgL st cnt l) D (cut1 l).2.1 with
      | none => .er 3 (at_ + 1)
      | some D' => if stgL st cnt l < 6 ∨ stgL st cnt l = 9 then runL tl (stgL st cnt l + 1) 0 (at_ + 1) D' ls else runL tl (stgL st cnt l) (cntL st cnt l + 1) (at_ + 1) D' ls
/-- What Parse answers. -/
noncomputable def parL (s : List UInt8) : PR := runL (!((spl 10 s).getLastD [] == [])) 0 0 0 LocD.zero (spl 10 s).dropLast
end Go.Proofs.YtnhdmnhfllecgaaGreatDoor
/- Locales: words at the beginnings of lines, plainly. -/
namespace Go.Proofs.YtnhdmnhfllecgaaGreatDoor
set_option linter.unusedVariables false
set_option linter.unusedSimpArgs false
open Go.RowKit

theorem ix1_at (c : UInt8) (r : List UInt8) : ∀ a : List UInt8, (∀ x ∈ a, x ≠ c) → Lib.index (a ++ c :: r) [c] = (a.length : Int)
  | [], _ => by rw [List.nil_append, index1_cons]; simp
  | b :: a, h => by
    have ih := ix1_at c r a (fun x hx => h x (by simp [hx]))
    rw [List.cons_append, index1_cons, if_neg (h b (by simp)), ih, if_neg (by omega)]
    simp
theorem ix1_no (c : UInt8) : ∀ a : List UInt8, (∀ x ∈ a, x ≠ c) → Lib.index a [c] = -1
  | [], _ => by rw [Lib.index]; rfl
  | b :: a, h => by
    rw [index1_cons, if_neg (h b (by simp)), ix1_no c a (fun x hx => h x (by simp [hx])), if_pos rfl]
theorem split_first (c : UInt8) : ∀ l : List UInt8, (∀ x ∈ l, x ≠ c) ∨ ∃ a r, l = a ++ c :: r ∧ ∀ x ∈ a, x ≠ c
  | [] => .inl (fun x h => by cases h)
  | b :: l => by
    by_cases h : b = c
    · exact .inr ⟨[], l, by rw [h]; rfl, fun x h => by cases h⟩
    · rcases split_first c l with q | ⟨a, r, e, q⟩
      · exact .inl (fun x hx => by
          rcases List.mem_cons.1 hx with e | e
          · rw [e]; exact h
          · exact q x e)
      · exact .inr ⟨b :: a, r, by rw [e]; rfl, fun x hx => by
          rcases List.mem_cons.1 hx with e | e
          · rw [e]; exact h
          · exact q x e⟩
theorem cut1_at (a r : List UInt8) (h : ∀ x ∈ a, x ≠ 32) : cut1 (a ++ 32 :: r) = (a, r, true) := by
  unfold cut1 Lib.cut
  rw [ix1_at 32 r a h, if_pos (by omega), Int.toNat_natCast, List.take_append_of_le_length (Nat.le_refl _), List.take_length, List.drop_append]
  simp
theorem cut1_no (l : List UInt8) (h : ∀ x ∈ l, x ≠ 32) : cut1 l = (l, [], false) := by
  unfold cut1 Lib.cut
  rw [ix1_no 32 l h, if_neg (by omega)]
theorem cut1_t {l : List UInt8} (h : (cut1 l).2.2 = true) : l = (cut1 l).1 ++ 32 :: (cut1 l).2.1 ∧ ∀ x ∈ (cut1 l).1, x ≠ 32 := by
  rcases split_first 32 l with q | ⟨a, r, e, q⟩
  · rw [cut1_no l q] at h; cases h
  · rw [e, cut1_at a r q]; exact ⟨rfl, q⟩
/-- A line begins with a word and a blank, or does not. -/
theorem pre_word {w : List UInt8} (hw : ∀ x ∈ w, x ≠ 32) (l : List UInt8) : (w ++ [32]).isPrefixOf l = decide ((cut1 l).2.2 = true ∧ (cut1 l).1 = w) := by
  rw [Bool.eq_iff_iff, decide_eq_true_eq, List.isPrefixOf_iff_prefix]
  constructor
  · rintro ⟨t, rfl⟩
    rw [List.append_assoc, List.singleton_append, cut1_at w t hw]
    exact ⟨rfl, rfl⟩
  · rintro ⟨h1, h2⟩
    obtain ⟨e, -⟩ := cut1_t h1
    rw [h2] at e
    exact ⟨(cut1 l).2.1, by rw [List.append_assoc, List.singleton_append]; exact e.symm⟩
theorem drop_word {w : List UInt8} {l : List UInt8} (h1 : (cut1 l).2.2 = true) (h2 : (cut1 l).1 = w) : l.drop (w ++ [32]).length = (cut1 l).2.1 := by
  obtain ⟨e, -⟩ := cut1_t h1
  rw [h2] at e
  conv => lhs; rw [e]
  rw [show w ++ 32 :: (cut1 l).2.1 = (w ++ [32]) ++ (cut1 l).2.1 by simp, List.drop_left]
theorem wrd_blank (k : Nat) : ∀ x ∈ wrd k, x ≠ 32 := by
  intro x hx e
  subst e
  unfold wrd at hx
  split at hx <;> exact absurd hx (by decide)
theorem spl_nno (c : UInt8) : ∀ a : List UInt8, (∀ x ∈ a, x ≠ c) → spl c a = [a]
  | [], _ => rfl
  | d :: r, h => by rw [spl, if_neg (h d (by simp)), spl_nno c r (fun x hx => h x (by simp [hx]))]
theorem spl_stp (c : UInt8) (b : List UInt8) : ∀ a : List UInt8, (∀ x ∈ a, x ≠ c) → spl c (a ++ c :: b) = a :: spl c b
  | [], _ => spl_hit c b
  | d :: r, h => by rw [List.cons_append, spl, if_neg (h d (by simp)), spl_stp c b r (fun x hx => h x (by simp [hx]))]
/-- The reading of what is left of a text. -/
noncomputable def runS (st cnt at_ : Nat) (D : LocD) (s : List UInt8) : PR := runL (!((spl 10 s).getLastD [] == [])) st cnt at_ D (spl 10 s).dropLast
theorem spl_split (c : UInt8) (a r : List UInt8) (h : ∀ x ∈ a, x ≠ c) : (spl c (a ++ c :: r)).dropLast = a :: (spl c r).dropLast ∧ (spl c (a ++ c :: r)).getLastD [] = (spl c r).getLastD [] := by
  rw [spl_stp c r a h]
  have hne := spl_ne c r
  obtain ⟨x, t, e⟩ := List.exists_cons_of_ne_nil hne
  rw [e]
  exact ⟨rfl, by simp [List.getLastD]⟩
theorem runS_line (st cnt at_ : Nat) (D : LocD) (a r : List UInt8) (h : ∀ x ∈ a, x ≠ 10) : runS st cnt at_ D (a ++ 10 :: r) =
    if 10 ≤ st then .er 3 (at_ + 1)
    else if (cut1 a).2.2 = false ∨ (cut1 a).1 ≠ wrd (stgL st cnt a) then .er 3 (at_ + 1)
    else match addL (stgL st cnt a) D (cut1 a).2.1 with
      | none => .er 3 (at_ + 1)
      | some D' => if stgL st cnt a < 6 ∨ stgL st cnt a = 9 then runS (stgL st cnt a + 1) 0 (at_ + 1) D' r else runS (stgL st cnt a) (cntL st cnt a + 1) (at_ + 1) D' r := by
  obtain ⟨h1, h2⟩ := spl_split 10 a r h
  unfold runS
  rw [h1, h2, runL]
  all_goals rfl
theorem runS_tail (st cnt at_ : Nat) (D : LocD) (a : List UInt8) (h : ∀ x ∈ a, x ≠ 10) : runS st cnt at_ D a = if 10 ≤ st then (if a = [] then finL D else .er 3 (at_ + 1)) else .er 4 0 := by
  unfold runS
  rw [spl_nno 10 a h]
  show runL (!(a == [])) st cnt at_ D [] = _
  rw [runL]
  by_cases q : 10 ≤ st
  · rw [if_pos q, if_pos q]
    by_cases e : a = []
    · subst e; simp
    · have : (a == []) = false := by simpa using e
      rw [this, if_neg e]; rfl
  · rw [if_neg q, if_neg q]
theorem parL_run (s : List UInt8) : parL s = runS 0 0 0 LocD.zero s := rfl
end Go.Proofs.YtnhdmnhfllecgaaGreatDoor
/- Locales: the walks of the small functions: letters, words, forms, names. -/
namespace Go.Proofs.YtnhdmnhfllecgaaGreatDoor
set_option linter.unusedVariables false
set_option linter.unusedSimpArgs false
open Go.RowKit

theorem small_c (c : UInt8) (b : Bool) (w : World) (h : smC c = b) : Calls Tryz.prog 78 #[.int .u8 (c.toNat : Int)] w fun e w' => e = .returned (.bool b) ∧ w = w' := by
  subst h
  have hc : c.toNat < 256 := c.toNat_lt
  go_enter Tryz.func78, Tryz.ntmps78
  go_wp2
  all_goals
    go_ret
    refine ⟨?_, rfl⟩
    refine congrArg (fun b => Ending.returned (Value.bool b)) ?_
    unfold smC
    rw [Bool.eq_iff_iff]
    simp
    omega
theorem frm1_c (c : UInt8) (b : Bool) (w : World) (h : frC c = b) : Calls Tryz.prog 109 #[.int .u8 (c.toNat : Int)] w fun e w' => e = .returned (.bool b) ∧ w = w' := by
  subst h
  have hc : c.toNat < 256 := c.toNat_lt
  go_enter Tryz.func109, Tryz.ntmps109
  go_wp2
  all_goals
    go_ret
    refine ⟨?_, rfl⟩
    refine congrArg (fun b => Ending.returned (Value.bool b)) ?_
    unfold frC
    rw [Bool.eq_iff_iff]
    simp
    omega
theorem zlet_c (c : UInt8) (b : Bool) (w : World) (h : isLt c = b) : Calls Tryz.prog 69 #[.int .u8 (c.toNat : Int)] w fun e w' => e = .returned (.bool b) ∧ w = w' := by
  subst h
  have hc : c.toNat < 256 := c.toNat_lt
  go_enter Tryz.func69, Tryz.ntmps69
  go_wp2
  all_goals
    go_ret
    refine ⟨?_, rfl⟩
    refine congrArg (fun b => Ending.returned (Value.bool b)) ?_
    unfold isLt
    rw [Bool.eq_iff_iff]
    simp
    omega
theorem zdig_c (c : UInt8) (b : Bool) (w : World) (h : isDg c = b) : Calls Tryz.prog 70 #[.int .u8 (c.toNat : Int)] w fun e w' => e = .returned (.bool b) ∧ w = w' := by
  subst h
  have hc : c.toNat < 256 := c.toNat_lt
  go_enter Tryz.func70, Tryz.ntmps70
  go_wp2
  all_goals
    go_ret
    refine ⟨?_, rfl⟩
    refine congrArg (fun b => Ending.returned (Value.bool b)) ?_
    unfold isDg
    rw [Bool.eq_iff_iff]
    simp
    omega
theorem rzlet_c (c : UInt8) (b : Bool) (w : World) (h : isLt c = b) : Calls Tryz.prog 86 #[.int .u8 (c.toNat : Int)] w fun e w' => e = .returned (.bool b) ∧ w = w' := by
  subst h
  have hc : c.toNat < 256 := c.toNat_lt
  go_enter Tryz.func86, Tryz.ntmps86
  go_wp2
  all_goals
    go_ret
    refine ⟨?_, rfl⟩
    refine congrArg (fun b => Ending.returned (Value.bool b)) ?_
    unfold isLt
    rw [Bool.eq_iff_iff]
    simp
    omega
theorem rzdig_c (c : UInt8) (b : Bool) (w : World) (h : isDg c = b) : Calls Tryz.prog 87 #[.int .u8 (c.toNat : Int)] w fun e w' => e = .returned (.bool b) ∧ w = w' := by
  subst h
  have hc : c.toNat < 256 := c.toNat_lt
  go_enter Tryz.func87, Tryz.ntmps87
  go_wp2
  all_goals
    go_ret
    refine ⟨?_, rfl⟩
    refine congrArg (fun b => Ending.returned (Value.bool b)) ?_
    unfold isDg
    rw [Bool.eq_iff_iff]
    simp
    omega
theorem lletter_c (c : UInt8) (b : Bool) (w : World) (h : isLt c = b) : Calls Tryz.prog 80 #[.int .u8 (c.toNat : Int)] w fun e w' => e = .returned (.bool b) ∧ w = w' := by
  subst h
  have hc : c.toNat < 256 := c.toNat_lt
  rcases Bool.eq_false_or_eq_true (smC c) with hs | hs
  all_goals
    have HS := Lib.hid hs
    unfold smC at hs
    simp at hs
    go_enter Tryz.func80, Tryz.ntmps80
    go_wp2_with (first
      | (go_at_call 78; (with_reducible refine (small_c c _ _ HS.out).mono ?_); rintro e w1 ⟨rfl, rfl⟩))
    all_goals
      go_ret
      refine ⟨?_, rfl⟩
      refine congrArg (fun b => Ending.returned (Value.bool b)) ?_
      unfold isLt
      rw [Bool.eq_iff_iff]
      simp
      omega
theorem suf1_c (c : UInt8) (b : Bool) (w : World) (h : sfC c = b) : Calls Tryz.prog 79 #[.int .u8 (c.toNat : Int)] w fun e w' => e = .returned (.bool b) ∧ w = w' := by
  subst h
  have hc : c.toNat < 256 := c.toNat_lt
  rcases Bool.eq_false_or_eq_true (isLt c) with hs | hs
  all_goals
    have HS := Lib.hid hs
    have HF : Hid (sfC c = (isLt c || decide (c.toNat = 46))) := rfl
    clear hs
    go_enter Tryz.func79, Tryz.ntmps79
    go_wp2_with (first
      | (go_at_call 80; (with_reducible refine (lletter_c c _ _ HS.out).mono ?_); rintro e w1 ⟨rfl, rfl⟩))
    all_goals
      go_ret
      refine ⟨?_, rfl⟩
      refine congrArg (fun b => Ending.returned (Value.bool b)) ?_
      rw [HF.out, HS.out]
      first | rfl | (rw [Bool.eq_iff_iff]; simp; omega)
theorem only_sm (s : List UInt8) (m : Int) (b : Bool) (w : World) (hs : s.length ≤ 9223372036854775806) (hb : onlyB smC m s = b) : Calls Tryz.prog 77 #[.string ⟨s.toArray⟩, .int .i64 m, .func (.func 78) #[] #[]] w fun e w' => e = .returned (.bool b) ∧ w = w' := by
  unfold onlyB at hb
  by_cases h1 : 1 ≤ s.length
  · by_cases h2 : (s.length : Int) ≤ m
    · rw [decide_eq_true h1, decide_eq_true h2, Bool.true_and, Bool.true_and] at hb
      have HB := Lib.hid hb
      clear hb
      go_enter Tryz.func77, Tryz.ntmps77
      go_wp2_with fail
      go_loop [19] (fun i => ∃ j : Nat, j ≤ s.length ∧ i = .int .i64 (j : Int) ∧ Hid ((s.take j).all smC = true)) (fun i => s.length - (intOf i).toNat)
      case atStart => exact ⟨0, Nat.zero_le _, rfl, rfl⟩
      case round =>
        obtain ⟨j, hj, rfl, Hall⟩ := hrel
        by_cases hlt : j < s.length
        · have hbg := bget s j hlt _ rfl
          have Hs := Lib.hid (all_take smC s j hlt)
          have HN := Lib.hid (fun q : smC s[j] = false => all_no j hlt q)
          obtain ⟨c, hc⟩ : ∃ c, c = s[j] := ⟨_, rfl⟩
          rw [← hc] at hbg Hs HN
          clear hc
          rcases Bool.eq_false_or_eq_true (smC c) with hq | hq
          · have Hq := Lib.hid hq
            have Hn : Hid ((s.take (j + 1)).all smC = true) := by rw [Hid, Hs.out, Hall.out, hq]; rfl
            clear hq
            go_wp2_with (first
              | (go_at_call 78; (with_reducible refine (small_c c true _ Hq.out).mono ?_); rintro e w1 ⟨rfl, rfl⟩))
            go_round
            case rel => exact ⟨j + 1, by omega, by go_num, Hn⟩
            case measure => simp [intOf]; omega
          · have Hq := Lib.hid hq
            have Hn : Hid (b = false) := by rw [Hid, ← HB.out]; exact HN.out hq
            clear hq
            go_wp2_with (first
              | (go_at_call 78; (with_reducible refine (small_c c false _ Hq.out).mono ?_); rintro e w1 ⟨rfl, rfl⟩))
            go_ret
            exact ⟨by rw [Hn.out]; rfl, rfl⟩
        · obtain rfl : j = s.length := by omega
          have Hn : Hid (b = true) := by rw [Hid, ← HB.out]; have := Hall.out; rwa [List.take_length] at this
          go_wp2_with fail
          go_ret
          exact ⟨by rw [Hn.out]; rfl, rfl⟩
    · rw [decide_eq_false h2] at hb
      simp at hb
      subst hb
      have h3 : m < (s.length : Int) := by omega
      clear h2
      go_enter Tryz.func77, Tryz.ntmps77
      go_wp2_with fail
      go_ret
      exact ⟨rfl, rfl⟩
  · rw [decide_eq_false h1] at hb
    simp at hb
    subst hb
    have h3 : (s.length : Int) < 1 := by omega
    clear h1
    go_enter Tryz.func77, Tryz.ntmps77
    go_wp2_with fail
    go_ret
    exact ⟨rfl, rfl⟩
theorem only_sf (s : List UInt8) (m : Int) (b : Bool) (w : World) (hs : s.length ≤ 9223372036854775806) (hb : onlyB sfC m s = b) : Calls Tryz.prog 77 #[.string ⟨s.toArray⟩, .int .i64 m, .func (.func 79) #[] #[]] w fun e w' => e = .returned (.bool b) ∧ w = w' := by
  unfold onlyB at hb
  by_cases h1 : 1 ≤ s.length
  · by_cases h2 : (s.length : Int) ≤ m
    · rw [decide_eq_true h1, decide_eq_true h2, Bool.true_and, Bool.true_and] at hb
      have HB := Lib.hid hb
      clear hb
      go_enter Tryz.func77, Tryz.ntmps77
      go_wp2_with fail
      go_loop [19] (fun i => ∃ j : Nat, j ≤ s.length ∧ i = .int .i64 (j : Int) ∧ Hid ((s.take j).all sfC = true)) (fun i => s.length - (intOf i).toNat)
      case atStart => exact ⟨0, Nat.zero_le _, rfl, rfl⟩
      case round =>
        obtain ⟨j, hj, rfl, Hall⟩ := hrel
        by_cases hlt : j < s.length
        · have hbg := bget s j hlt _ rfl
          have Hs := Lib.hid (all_take sfC s j hlt)
          have HN := Lib.hid (fun q : sfC s[j] = false => all_no j hlt q)
          obtain ⟨c, hc⟩ : ∃ c, c = s[j] := ⟨_, rfl⟩
          rw [← hc] at hbg Hs HN
          clear hc
          rcases Bool.eq_false_or_eq_true (sfC c) with hq | hq
          · have Hq := Lib.hid hq
            have Hn : Hid ((s.take (j + 1)).all sfC = true) := by rw [Hid, Hs.out, Hall.out, hq]; rfl
            clear hq
            go_wp2_with (first
              | (go_at_call 79; (with_reducible refine (suf1_c c true _ Hq.out).mono ?_); rintro e w1 ⟨rfl, rfl⟩))
            go_round
            case rel => exact ⟨j + 1, by omega, by go_num, Hn⟩
            case measure => simp [intOf]; omega
          · have Hq := Lib.hid hq
            have Hn : Hid (b = false) := by rw [Hid, ← HB.out]; exact HN.out hq
            clear hq
            go_wp2_with (first
              | (go_at_call 79; (with_reducible refine (suf1_c c false _ Hq.out).mono ?_); rintro e w1 ⟨rfl, rfl⟩))
            go_ret
            exact ⟨by rw [Hn.out]; rfl, rfl⟩
        · obtain rfl : j = s.length := by omega
          have Hn : Hid (b = true) := by rw [Hid, ← HB.out]; have := Hall.out; rwa [List.take_length] at this
          go_wp2_with fail
          go_ret
          exact ⟨by rw [Hn.out]; rfl, rfl⟩
    · rw [decide_eq_false h2] at hb
      simp at hb
      subst hb
      have h3 : m < (s.length : Int) := by omega
      clear h2
      go_enter Tryz.func77, Tryz.ntmps77
      go_wp2_with fail
      go_ret
      exact ⟨rfl, rfl⟩
  · rw [decide_eq_false h1] at hb
    simp at hb
    subst hb
    have h3 : (s.length : Int) < 1 := by omega
    clear h1
    go_enter Tryz.func77, Tryz.ntmps77
    go_wp2_with fail
    go_ret
    exact ⟨rfl, rfl⟩
theorem only_fr (s : List UInt8) (m : Int) (b : Bool) (w : World) (hs : s.length ≤ 9223372036854775806) (hb : onlyB frC m s = b) : Calls Tryz.prog 77 #[.string ⟨s.toArray⟩, .int .i64 m, .func (.func 109) #[] #[]] w fun e w' => e = .returned (.bool b) ∧ w = w' := by
  unfold onlyB at hb
  by_cases h1 : 1 ≤ s.length
  · by_cases h2 : (s.length : Int) ≤ m
    · rw [decide_eq_true h1, decide_eq_true h2, Bool.true_and, Bool.true_and] at hb
      have HB := Lib.hid hb
      clear hb
      go_enter Tryz.func77, Tryz.ntmps77
      go_wp2_with fail
      go_loop [19] (fun i => ∃ j : Nat, j ≤ s.length ∧ i = .int .i64 (j : Int) ∧ Hid ((s.take j).all frC = true)) (fun i => s.length - (intOf i).toNat)
      case atStart => exact ⟨0, Nat.zero_le _, rfl, rfl⟩
      case round =>
        obtain ⟨j, hj, rfl, Hall⟩ := hrel
        by_cases hlt : j < s.length
        · have hbg := bget s j hlt _ rfl
          have Hs := Lib.hid (all_take frC s j hlt)
          have HN := Lib.hid (fun q : frC s[j] = false => all_no j hlt q)
          obtain ⟨c, hc⟩ : ∃ c, c = s[j] := ⟨_, rfl⟩
          rw [← hc] at hbg Hs HN
          clear hc
          rcases Bool.eq_false_or_eq_true (frC c) with hq | hq
          · have Hq := Lib.hid hq
            have Hn : Hid ((s.take (j + 1)).all frC = true) := by rw [Hid, Hs.out, Hall.out, hq]; rfl
            clear hq
            go_wp2_with (first
              | (go_at_call 109; (with_reducible refine (frm1_c c true _ Hq.out).mono ?_); rintro e w1 ⟨rfl, rfl⟩))
            go_round
            case rel => exact ⟨j + 1, by omega, by go_num, Hn⟩
            case measure => simp [intOf]; omega
          · have Hq := Lib.hid hq
            have Hn : Hid (b = false) := by rw [Hid, ← HB.out]; exact HN.out hq
            clear hq
            go_wp2_with (first
              | (go_at_call 109; (with_reducible refine (frm1_c c false _ Hq.out).mono ?_); rintro e w1 ⟨rfl, rfl⟩))
            go_ret
            exact ⟨by rw [Hn.out]; rfl, rfl⟩
        · obtain rfl : j = s.length := by omega
          have Hn : Hid (b = true) := by rw [Hid, ← HB.out]; have := Hall.out; rwa [List.take_length] at this
          go_wp2_with fail
          go_ret
          exact ⟨by rw [Hn.out]; rfl, rfl⟩
    · rw [decide_eq_false h2] at hb
      simp at hb
      subst hb
      have h3 : m < (s.length : Int) := by omega
      clear h2
      go_enter Tryz.func77, Tryz.ntmps77
      go_wp2_with fail
      go_ret
      exact ⟨rfl, rfl⟩
  · rw [decide_eq_false h1] at hb
    simp at hb
    subst hb
    have h3 : (s.length : Int) < 1 := by omega
    clear h1
    go_enter Tryz.func77, Tryz.ntmps77
    go_wp2_with fail
    go_ret
    exact ⟨rfl, rfl⟩
theorem isWord_c (s : List UInt8) (b : Bool) (w : World) (hs : s.length ≤ 9223372036854775806) (hb : wordB s = b) : Calls Tryz.prog 30 #[.string ⟨s.toArray⟩] w fun e w' => e = .returned (.bool b) ∧ w = w' := by
  have HB := Lib.hid (show onlyB smC 10 s = b from hb)
  clear hb
  go_enter Tryz.func30, Tryz.ntmps30
  go_wp2_with (first
    | (go_at_call 77; (with_reducible refine (only_sm s 10 b _ hs HB.out).mono ?_); rintro e w1 ⟨rfl, rfl⟩))
  go_ret
  exact ⟨rfl, rfl⟩
theorem isSuffix_c (s : List UInt8) (b : Bool) (w : World) (hs : s.length ≤ 9223372036854775806) (hb : suffB s = b) : Calls Tryz.prog 31 #[.string ⟨s.toArray⟩] w fun e w' => e = .returned (.bool b) ∧ w = w' := by
  have HB := Lib.hid (show onlyB sfC 8 s = b from hb)
  clear hb
  go_enter Tryz.func31, Tryz.ntmps31
  go_wp2_with (first
    | (go_at_call 77; (with_reducible refine (only_sf s 8 b _ hs HB.out).mono ?_); rintro e w1 ⟨rfl, rfl⟩))
  go_ret
  exact ⟨rfl, rfl⟩
theorem trim32_c (s : List UInt8) (w : World) (hs : s.length ≤ 9223372036854775806) : Calls Tryz.prog 95 #[.string ⟨s.toArray⟩, .string ⟨#[32]⟩] w fun e w' => e = .returned (.string ⟨(Lib.trimB s 32).toArray⟩) ∧ Ext w w' := by
  refine (Tryz.strings_Trim_one ⟨s.toArray⟩ 32 (by decide) w (by show s.toArray.size ≤ _; simp; omega)).mono ?_
  rintro e w' ⟨rfl, rfl | rfl⟩
  · exact ⟨rfl, Ext.refl _⟩
  · exact ⟨rfl, (Ext.refl _).drew⟩
theorem isForm_c (s : List UInt8) (b : Bool) (w : World) (hs : s.length ≤ 9223372036854775806) (hb : formB s = b) : Calls Tryz.prog 82 #[.string ⟨s.toArray⟩] w fun e w' => e = .returned (.bool b) ∧ Ext w w' := by
  unfold formB at hb
  rcases Bool.eq_false_or_eq_true (onlyB frC 30 s) with ho | ho
  · have hne : s ≠ [] := by rintro rfl; simp [onlyB] at ho
    rw [ho, Bool.true_and, ← trim_id s hne] at hb
    have HO := Lib.hid ho
    obtain ⟨T, hT⟩ : ∃ T, Lib.trimB s 32 = T := ⟨_, rfl⟩
    have HT := trim32_c s
    rw [hT] at HT hb
    have HT := Lib.hid HT
    clear ho hT
    by_cases q : T = s
    · subst q
      have Hb : Hid (b = true) := by rw [Hid, ← hb]; simp
      clear hb hne
      go_enter Tryz.func82, Tryz.ntmps82
      go_wp2_with (first
        | (go_at_call 77; (with_reducible refine (only_fr T 30 true _ hs HO.out).mono ?_); rintro e w1 ⟨rfl, rfl⟩)
        | (go_at_call 95; (with_reducible refine (HT.out _ hs).mono ?_); rintro e w2 ⟨rfl, hE2⟩))
      go_ret
      exact ⟨by rw [Hb.out]; first | rfl | simp, hE2⟩
    · have Hb : Hid (b = false) := by rw [Hid, ← hb]; simp [q]
      have hq : (T == s) = false := by simpa using q
      clear hb hne q
      go_enter Tryz.func82, Tryz.ntmps82
      go_wp2_with (first
        | (go_at_call 77; (with_reducible refine (only_fr s 30 true _ hs HO.out).mono ?_); rintro e w1 ⟨rfl, rfl⟩)
        | (go_at_call 95; (with_reducible refine (HT.out _ hs).mono ?_); rintro e w2 ⟨rfl, hE2⟩))
      go_ret
      exact ⟨by rw [Hb.out]; rfl, hE2⟩
  · rw [ho, Bool.false_and] at hb
    subst hb
    have HO := Lib.hid ho
    clear ho
    go_enter Tryz.func82, Tryz.ntmps82
    go_wp2_with (first
      | (go_at_call 77; (with_reducible refine (only_fr s 30 false _ hs HO.out).mono ?_); rintro e w1 ⟨rfl, rfl⟩))
    go_ret
    exact ⟨rfl, Ext.refl _⟩
end Go.Proofs.YtnhdmnhfllecgaaGreatDoor
