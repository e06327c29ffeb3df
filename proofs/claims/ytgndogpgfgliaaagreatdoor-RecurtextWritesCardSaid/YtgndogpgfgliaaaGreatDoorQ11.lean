/- Slices of strings that a function makes; plain lemmas. -/
import Derived.Test.YtgndogpgfgliaaaGreatDoorQ00
import Derived.Test.YtgndogpgfgliaaaGreatDoorQ10
import Derived.Test.YtgndogpgfgliaaaGreatDoorQ02
import Derived.Laws.AppendOwn
import Derived.Maps.AppendAt
import Derived.Test.YtgndogpgfgliaaaGreatDoorShelf
import Derived.Laws.OwnMore
namespace Go.Proofs.YtgndogpgfgliaaaGreatDoor
set_option linter.unusedVariables false
set_option linter.unnecessarySimpa false
set_option linter.unusedSimpArgs false
open Go.RowKit

theorem ext_grown {a b c : World} {v : Value} {e : TypeId} {size n : Nat} {xs : List Value} (h : Ext a b) (hown : b.ownsRow a.heap.size e size v n xs) (hg : b.grownBy c v.ownBlock) : Ext a c := by
  have q := (Frm.of_ext (S := fun _ => False) h).grown hg (by
    intro k hk
    right
    rcases hown with ⟨_, ⟨rfl, _⟩ | ⟨g, cap, cur, rfl, hb, _⟩⟩
    · cases hk
    · have : g = k := Option.some.inj hk
      omega)
  exact q.ext (fun k hk => hk.elim)
theorem own_slice {w : World} {base size n : Nat} {e : TypeId} {v : Value} {xs : List Value} (h : w.ownsRow base e size v n xs) : ∃ ao cv, v = .slice ao n cv := by
  obtain ⟨_, ⟨rfl, rfl⟩ | ⟨g, cap, cur, rfl, _⟩⟩ := h
  · exact ⟨_, _, rfl⟩
  · exact ⟨_, _, rfl⟩
/-- The strings' values. -/
def sv (P : List (List UInt8)) : List Value := P.map fun l => Value.string ⟨l.toArray⟩
theorem sv_app (P : List (List UInt8)) (x : List UInt8) : sv (P ++ [x]) = sv P ++ [.string ⟨x.toArray⟩] := by simp [sv]
/-- A readable row of strings. -/
def RdS (ws : List (List UInt8)) (R off : Nat) (w : World) : Prop := R < w.heap.size ∧ ∀ i (h : i < ws.length), w.cell? ⟨R, off + i, none⟩ = some (.string ⟨ws[i].toArray⟩)
theorem RdS.ext {ws : List (List UInt8)} {R off : Nat} {w w' : World} (h : RdS ws R off w) (hE : Ext w w') : RdS ws R off w' := ⟨hE.lt h.1, fun i hi => (hE.cells _ _ h.1).trans (h.2 i hi)⟩
theorem RdS.drop {ws : List (List UInt8)} {R off : Nat} {w : World} (h : RdS ws R off w) (k : Nat) : RdS (ws.drop k) R (off + k) w := by
  refine ⟨h.1, fun i hi => ?_⟩
  rw [List.length_drop] at hi
  have := h.2 (k + i) (by omega)
  rw [← Nat.add_assoc] at this
  rw [List.getElem_drop]
  exact this
theorem RdS.of_own {w : World} {base n : Nat} {e : TypeId} {v : Value} {P : List (List UInt8)} (h : w.ownsRow base e 1 v n (sv P)) (hn : n = P.length) (hp : P ≠ []) : ∃ R cap, v = .slice (some ⟨R, 0, none⟩) P.length cap ∧ P.length ≤ cap ∧ cap ≤ maxLen ∧ RdS P R 0 w ∧ base ≤ R := by
  subst hn
  obtain ⟨_, ⟨_, h0⟩ | ⟨g, cap, cur, rfl, hb, hg, hc, hm, hs, ht⟩⟩ := h
  · exact absurd (List.length_eq_zero_iff.1 h0) hp
  · refine ⟨g, cap, rfl, hc, hm, ⟨?_, fun i hi => ?_⟩, hb⟩
    · rcases Nat.lt_or_ge g w.heap.size with q | q
      · exact q
      · rw [Array.getElem?_eq_none q] at hg; cases hg
    · have e1 : cur[i]? = (sv P)[i]? := by
        rw [← ht, Nat.mul_one, List.getElem?_take_of_lt hi, Array.getElem?_toList]
      have e2 : w.cell? ⟨g, 0 + i, none⟩ = cur[i]? := by simp [World.cell?, hg]
      rw [e2, e1]
      simp [sv, hi]
theorem spl_no (c : UInt8) : ∀ a : List UInt8, (∀ x ∈ a, x ≠ c) → spl c a = [a]
  | [], _ => rfl
  | d :: r, h => by rw [spl, if_neg (h d (by simp)), spl_no c r (fun x hx => h x (by simp [hx]))]
theorem spl_step (c : UInt8) (b : List UInt8) : ∀ a : List UInt8, (∀ x ∈ a, x ≠ c) → spl c (a ++ c :: b) = a :: spl c b
  | [], _ => spl_hit c b
  | d :: r, h => by rw [List.cons_append, spl, if_neg (h d (by simp)), spl_step c b r (fun x hx => h x (by simp [hx]))]
end Go.Proofs.YtgndogpgfgliaaaGreatDoor
/- The one listed variable that the library's search reads: internal/bytealg.MaxLen holds some number; strings.Split at one byte. -/
namespace Go.Proofs.YtgndogpgfgliaaaGreatDoor
set_option linter.unusedVariables false
set_option linter.unnecessarySimpa false
set_option linter.unusedSimpArgs false
open Go.RowKit

def Lm (w : World) : Prop := ∃ m : Int, w.cell? ⟨0, 0, none⟩ = some (.int .i64 m)
theorem Lm.lt {w : World} (h : Lm w) : 0 < w.heap.size := by
  obtain ⟨m, hm⟩ := h
  exact World.block_lt_of_cell? _ _ hm
theorem Lm.ext {w w' : World} (h : Lm w) (hE : Ext w w') : Lm w' := by
  have h0 := h.lt
  obtain ⟨m, hm⟩ := h
  exact ⟨m, (hE.cells _ _ h0).trans hm⟩
theorem split_c (s : List UInt8) (c : UInt8) (w : World) (hm : Lm w) (hs : s.length ≤ 100000) :
    Calls Tryz.prog 31 #[.string ⟨s.toArray⟩, .string ⟨#[c]⟩] w fun e w' => e = .returned (.slice (some ⟨w.heap.size, 0, none⟩) (spl c s).length (spl c s).length) ∧ w' = w.alloc (.cells ((spl c s).map fun l => Value.string ⟨l.toArray⟩).toArray 9) := by
  obtain ⟨m, hm⟩ := hm
  refine (Tryz.strings_Split ⟨s.toArray⟩ ⟨#[c]⟩ m w (by show s.toArray.size < _; simp; omega) hm (Nat.le_refl 1)).mono ?_
  rintro e w' ⟨rfl, rfl⟩
  rw [split_count, split_vals]
  exact ⟨rfl, rfl⟩
theorem spl_len (c : UInt8) (l : List UInt8) : ∀ x ∈ spl c l, x.length ≤ l.length := by
  induction l with
  | nil => simp [spl]
  | cons d r ih =>
    intro x hx
    by_cases hd : d = c
    · rw [spl, if_pos hd] at hx
      rcases List.mem_cons.1 hx with rfl | hx
      · simp
      · have := ih x hx; simp; omega
    · obtain ⟨y, t, e1, e2⟩ := spl_cons c d r hd
      rw [e2] at hx
      rw [e1] at ih
      rcases List.mem_cons.1 hx with rfl | hx
      · have := ih y (by simp); simp; omega
      · have := ih x (by simp [hx]); simp; omega
theorem spl_count (c : UInt8) (l : List UInt8) : (spl c l).length ≤ l.length + 1 := by
  induction l with
  | nil => simp [spl]
  | cons d r ih =>
    by_cases hd : d = c
    · rw [spl, if_pos hd]; simp; omega
    · obtain ⟨y, t, e1, e2⟩ := spl_cons c d r hd
      rw [e2]
      rw [e1] at ih
      simp at ih ⊢; omega
end Go.Proofs.YtgndogpgfgliaaaGreatDoor
/- Recurrence rules: a rule in memory: its five numbers, its nine slices. -/
namespace Go.Proofs.YtgndogpgfgliaaaGreatDoor
set_option linter.unusedVariables false
set_option linter.unnecessarySimpa false
set_option linter.unusedSimpArgs false
open Go.RowKit

def iv (zs : List Int) : List Value := zs.map (Value.int .i64)
theorem iv_app (a : List Int) (x : Int) : iv (a ++ [x]) = iv a ++ [.int .i64 x] := by simp [iv]
def RdIv (zs : List Int) (R off : Nat) (w : World) : Prop := R < w.heap.size ∧ ∀ i (h : i < zs.length), w.cell? ⟨R, off + i, none⟩ = some (.int .i64 zs[i])
theorem RdIv.ext {zs : List Int} {R off : Nat} {w w' : World} (h : RdIv zs R off w) (hE : Ext w w') : RdIv zs R off w' :=
  ⟨hE.lt h.1, fun i hi => (hE.cells _ _ h.1).trans (h.2 i hi)⟩
/-- A slice of ints. -/
def IsV (ao : Option Addr) (cap : Nat) (zs : List Int) (w : World) : Prop := zs.length ≤ cap ∧ cap ≤ maxLen ∧ (zs ≠ [] → ∃ R off, ao = some ⟨R, off, none⟩ ∧ RdIv zs R off w)
theorem IsV.ext {ao : Option Addr} {cap : Nat} {zs : List Int} {w w' : World} (h : IsV ao cap zs w) (hE : Ext w w') : IsV ao cap zs w' := by
  refine ⟨h.1, h.2.1, fun hl => ?_⟩
  obtain ⟨R, off, e, hR⟩ := h.2.2 hl
  exact ⟨R, off, e, hR.ext hE⟩
theorem IsV.nil (w : World) : IsV none 0 [] w := ⟨Nat.le_refl _, by decide, fun h => absurd rfl h⟩
theorem IsV.of_own {w : World} {base n : Nat} {e : TypeId} {ao : Option Addr} {cap : Nat} {zs : List Int} (h : w.ownsRow base e 1 (.slice ao n cap) n (iv zs)) (hn : n = zs.length) : IsV ao cap zs w := by
  subst hn
  obtain ⟨_, ⟨h1, h0⟩ | ⟨g, cap', cur, he, hb, hg, hc, hm, hs, ht⟩⟩ := h
  · have : zs = [] := List.length_eq_zero_iff.1 h0
    subst this
    injection h1 with e1 e2 e3
    subst e1; subst e3
    exact IsV.nil w
  · injection he with e1 e2 e3
    subst e1; subst e3
    refine ⟨hc, hm, fun _ => ⟨g, 0, rfl, ?_, fun i hi => ?_⟩⟩
    · rcases Nat.lt_or_ge g w.heap.size with q | q
      · exact q
      · rw [Array.getElem?_eq_none q] at hg; cases hg
    · have e1 : cur[i]? = (iv zs)[i]? := by
        rw [← ht, List.getElem?_take_of_lt (by omega), Array.getElem?_toList]
      have e2 : w.cell? ⟨g, i, none⟩ = cur[i]? := by simp [World.cell?, hg]
      rw [Nat.zero_add, e2, e1]
      simp [iv, hi]
/-- A slice of weekdays with numbers. -/
def ov (l : List (Int × Int)) : List Value := l.flatMap fun o => [.int .i64 o.1, .int .i64 o.2]
theorem ov_app (l : List (Int × Int)) (o : Int × Int) : ov (l ++ [o]) = ov l ++ [.int .i64 o.1, .int .i64 o.2] := by unfold ov; simp
theorem ov_len (l : List (Int × Int)) : (ov l).length = l.length * 2 := by
  unfold ov
  induction l with
  | nil => rfl
  | cons o r ih => rw [List.flatMap_cons, List.length_append, ih, List.length_cons]; simp; omega
theorem ov_at (l : List (Int × Int)) : ∀ i (h : i < l.length), (ov l)[i * 2]? = some (.int .i64 (l[i]).1) ∧ (ov l)[i * 2 + 1]? = some (.int .i64 (l[i]).2) := by
  induction l with
  | nil => intro i h; cases h
  | cons p r ih =>
    intro i h
    have e : ov (p :: r) = .int .i64 p.1 :: .int .i64 p.2 :: ov r := rfl
    rw [e]
    cases i with
    | zero => exact ⟨rfl, rfl⟩
    | succ i =>
      obtain ⟨a, c⟩ := ih i (by simpa using h)
      rw [show (i + 1) * 2 = i * 2 + 1 + 1 by omega]
      exact ⟨a, c⟩
def RdOv (l : List (Int × Int)) (R off : Nat) (w : World) : Prop := R < w.heap.size ∧ ∀ i (h : i < l.length), w.cell? ⟨R, off + i * 2, none⟩ = some (.int .i64 (l[i]).1) ∧ w.cell? ⟨R, off + i * 2 + 1, none⟩ = some (.int .i64 (l[i]).2)
theorem RdOv.ext {l : List (Int × Int)} {R off : Nat} {w w' : World} (h : RdOv l R off w) (hE : Ext w w') : RdOv l R off w' :=
  ⟨hE.lt h.1, fun i hi => ⟨(hE.cells _ _ h.1).trans (h.2 i hi).1, (hE.cells _ _ h.1).trans (h.2 i hi).2⟩⟩
def OsV (ao : Option Addr) (cap : Nat) (l : List (Int × Int)) (w : World) : Prop := l.length ≤ cap ∧ cap ≤ maxLen ∧ (l ≠ [] → ∃ R off, ao = some ⟨R, off, none⟩ ∧ RdOv l R off w)
theorem OsV.ext {ao : Option Addr} {cap : Nat} {l : List (Int × Int)} {w w' : World} (h : OsV ao cap l w) (hE : Ext w w') : OsV ao cap l w' := by
  refine ⟨h.1, h.2.1, fun hl => ?_⟩
  obtain ⟨R, off, e, hR⟩ := h.2.2 hl
  exact ⟨R, off, e, hR.ext hE⟩
theorem OsV.nil (w : World) : OsV none 0 [] w := ⟨Nat.le_refl _, by decide, fun h => absurd rfl h⟩
theorem OsV.of_own {w : World} {base n : Nat} {e : TypeId} {ao : Option Addr} {cap : Nat} {l : List (Int × Int)} (h : w.ownsRow base e 2 (.slice ao n cap) n (ov l)) (hn : n = l.length) : OsV ao cap l w := by
  subst hn
  obtain ⟨_, ⟨h1, h0⟩ | ⟨g, cap', cur, he, hb, hg, hc, hm, hs, ht⟩⟩ := h
  · have : l = [] := List.length_eq_zero_iff.1 h0
    subst this
    injection h1 with e1 e2 e3
    subst e1; subst e3
    exact OsV.nil w
  · injection he with e1 e2 e3
    subst e1; subst e3
    refine ⟨hc, hm, fun _ => ⟨g, 0, rfl, ?_, fun i hi => ?_⟩⟩
    · rcases Nat.lt_or_ge g w.heap.size with q | q
      · exact q
      · rw [Array.getElem?_eq_none q] at hg; cases hg
    · have ee : ∀ j, w.cell? ⟨g, j, none⟩ = cur[j]? := fun j => by simp [World.cell?, hg]
      obtain ⟨a, c⟩ := ov_at l i hi
      rw [← ht, List.getElem?_take_of_lt (by omega), Array.getElem?_toList] at a c
      rw [Nat.zero_add, ee, ee]
      exact ⟨a, c⟩
/-- A rule with its slices' places: 0 Months, 1 MonthDays, 2 YearDays, 3 Weeks, 4 Days, 5 Hours, 6 Minutes, 7 Seconds, 8 Positions. -/
structure Rec where
  D : RecD
  a : Nat → Option Addr
  c : Nat → Nat
def Rec.vals (r : Rec) : List Value :=
  [.int .i64 r.D.fr, .int .i64 r.D.iv, .int .i64 r.D.ct, .int .i64 r.D.un, .slice (r.a 0) r.D.mo.length (r.c 0), .slice (r.a 1) r.D.md.length (r.c 1), .slice (r.a 2) r.D.yd.length (r.c 2), .slice (r.a 3) r.D.wk.length (r.c 3),
    .slice (r.a 4) r.D.da.length (r.c 4), .slice (r.a 5) r.D.ho.length (r.c 5), .slice (r.a 6) r.D.mi.length (r.c 6), .slice (r.a 7) r.D.se.length (r.c 7), .slice (r.a 8) r.D.po.length (r.c 8), .int .i64 r.D.ws]
theorem Rec.len (r : Rec) : r.vals.length = 14 := rfl
theorem rec_one (r : Rec) : ∀ v ∈ r.vals, v.oneCell' = true := by
  intro v hv
  unfold Rec.vals at hv
  simp only [List.mem_cons, List.not_mem_nil, or_false] at hv
  rcases hv with rfl | rfl | rfl | rfl | rfl | rfl | rfl | rfl | rfl | rfl | rfl | rfl | rfl | rfl <;> rfl
/-- The rule's slices lie in memory. -/
structure RcV (r : Rec) (w : World) : Prop where
  mo : IsV (r.a 0) (r.c 0) r.D.mo w
  md : IsV (r.a 1) (r.c 1) r.D.md w
  yd : IsV (r.a 2) (r.c 2) r.D.yd w
  wk : IsV (r.a 3) (r.c 3) r.D.wk w
  da : OsV (r.a 4) (r.c 4) r.D.da w
  ho : IsV (r.a 5) (r.c 5) r.D.ho w
  mi : IsV (r.a 6) (r.c 6) r.D.mi w
  se : IsV (r.a 7) (r.c 7) r.D.se w
  po : IsV (r.a 8) (r.c 8) r.D.po w
theorem RcV.ext {r : Rec} {w w' : World} (h : RcV r w) (hE : Ext w w') : RcV r w' :=
  ⟨h.mo.ext hE, h.md.ext hE, h.yd.ext hE, h.wk.ext hE, h.da.ext hE, h.ho.ext hE, h.mi.ext hE, h.se.ext hE, h.po.ext hE⟩
/-- The zero rule. -/
def Rec.zero : Rec := ⟨RecD.zero, fun _ => none, fun _ => 0⟩
theorem rec_zero (w : World) : RcV Rec.zero w := ⟨IsV.nil w, IsV.nil w, IsV.nil w, IsV.nil w, OsV.nil w, IsV.nil w, IsV.nil w, IsV.nil w, IsV.nil w⟩
/-- Numbers that an int can hold. -/
def i64 (n : Int) : Prop := -9223372036854775808 ≤ n ∧ n ≤ 9223372036854775807
/-- The statement's bound: at most 100 elements in each list. -/
def greatR (R : RecD) : Bool := decide (100 < R.mo.length ∨ 100 < R.md.length ∨ 100 < R.yd.length ∨ 100 < R.wk.length ∨ 100 < R.da.length ∨ 100 < R.ho.length ∨ 100 < R.mi.length ∨ 100 < R.se.length ∨ 100 < R.po.length)
end Go.Proofs.YtgndogpgfgliaaaGreatDoor
/- Recurrence rules: the walks of number and numbers. -/
namespace Go.Proofs.YtgndogpgfgliaaaGreatDoor
set_option linter.unusedVariables false
set_option linter.unnecessarySimpa false
set_option linter.unusedSimpArgs false
open Go.RowKit Go.Maps

theorem unumber_c (s : List UInt8) (w : World) (hs : s.length ≤ 100000) :
    Calls Tryz.prog 65 #[.string ⟨s.toArray⟩] w fun e w' => e = .returned (.tuple #[.int .i64 ((numZ s).getD 0), .bool (numZ s).isSome]) ∧ w = w' := by
  obtain ⟨n, hn⟩ : ∃ n, n = (numZ s).getD 0 := ⟨_, rfl⟩
  obtain ⟨b, hb⟩ : ∃ b, b = (numZ s).isSome := ⟨_, rfl⟩
  have HZ : Hid (∀ w', Calls Tryz.prog 115 #[.string ⟨s.toArray⟩, .int .i64 (-999999999), .int .i64 999999999] w' fun e w'' => (∃ ec : Int, e = .returned (.tuple #[.int .i64 n, .int .i64 ec]) ∧ (ec == 0) = b) ∧ w' = w'') := fun w' => by
    rw [hn, hb]
    exact znum_c s w' hs
  rw [← hn, ← hb]
  clear hn hb
  go_enter Tryz.func65, Tryz.ntmps65
  go_wp2_with (go_at_call 115; (with_reducible refine (HZ.out _).mono ?_); rintro e w1 ⟨⟨ec, rfl, hec⟩, rfl⟩)
  go_ret2
  refine ⟨?_, rfl⟩
  rw [← hec]
  rfl
theorem infoIv : (Tryz.prog.info? 3).map (fun i => (i.zero, i.size, i.bytes)) = some (some (.int .i64 0), 1, 8) := by kernel_rfl
/-- What numbers gives back. -/
theorem own_base {w : World} {b n sz : Nat} {e : TypeId} {ao : Option Addr} {cap : Nat} {xs : List Value} (h : w.ownsRow b e sz (.slice ao n cap) n xs) : ∀ R o m, ao = some ⟨R, o, m⟩ → b ≤ R := by
  obtain ⟨_, ⟨h1, h0⟩ | ⟨g, cap', cur, he, hb, hg, hc, hm, hs, ht⟩⟩ := h
  · injection h1 with e1
    intro R o m e; rw [e1] at e; cases e
  · injection he with e1
    intro R o m e; rw [e1] at e; injection e with e; injection e with e; omega
def NumsR (s : List UInt8) (w : World) (e : Ending) (w' : World) : Prop :=
  match numsZ s with
  | some l => ∃ ao cap, e = .returned (.tuple #[.slice ao l.length cap, .bool true]) ∧ IsV ao cap l w' ∧ (∀ R o m, ao = some ⟨R, o, m⟩ → w.heap.size ≤ R) ∧ Ext w w'
  | none => e = .returned (.tuple #[.slice none 0 0, .bool false]) ∧ Ext w w'
set_option maxRecDepth 100000 in
set_option maxHeartbeats 2000000 in
theorem unumbers_c (s : List UInt8) (w : World) (hm : Lm w) (hs : s.length ≤ 50000) :
    Calls Tryz.prog 137 #[.string ⟨s.toArray⟩] w (NumsR s w) := by
  have hcnt := spl_count 44 s
  have hlen := spl_len 44 s
  obtain ⟨S, hS⟩ : ∃ S, S = spl 44 s := ⟨_, rfl⟩
  have HSp : Hid (Calls Tryz.prog 31 #[.string ⟨s.toArray⟩, .string ⟨#[44]⟩] w fun e w' => e = .returned (.slice (some ⟨w.heap.size, 0, none⟩) S.length S.length) ∧ RdS S w.heap.size 0 w' ∧ Ext w w') := by
    rw [hS]
    refine (split_c s 44 w hm (by omega)).mono ?_
    rintro e w' ⟨rfl, rfl⟩
    refine ⟨rfl, ⟨by simp, fun i hi => ?_⟩, (Ext.refl w).alloc _⟩
    rw [Nat.zero_add, World.cell?_alloc_new]
    simp [hi]
  have HNZ : Hid (numsZ s = allO numZ S) := by rw [Hid, hS]; rfl
  rw [← hS] at hcnt hlen
  have HL := Lib.hid hlen
  obtain ⟨i0, hi, hz0, hz1, hz2⟩ := info_parts infoIv
  have Hi := Lib.hid hi
  have Hz0 := Lib.hid hz0
  have Hz1 := Lib.hid hz1
  have Hz2 := Lib.hid hz2
  clear hi hz0 hz1 hz2 hS hm hlen
  go_enter Tryz.func137, Tryz.ntmps137
  go_upto_region 3 with (go_at_call 31; (with_reducible refine HSp.out.mono ?_); rintro e w1 ⟨rfl, hR, hE1⟩)
  have HR := Lib.hid hR
  have HE1 := Lib.hid hE1
  clear hR hE1
  go_loopw [4, 12] (fun o i wr => ∃ (l : List Int) (ao : Option Addr) (cv : Nat), l.length ≤ S.length ∧ o = .slice ao l.length cv ∧ i = .int .i64 (l.length : Int) ∧ (∀ k (h : k < S.length) (h2 : k < l.length), numZ S[k] = some l[k]) ∧ wr.ownsRow w1.heap.size 3 1 o l.length (iv l) ∧ Ext w1 wr) (fun _ i _ => S.length - (intOf i).toNat)
  case atStart => exact ⟨[], none, 0, Nat.zero_le _, rfl, rfl, (fun k h h2 => by cases h2), World.ownsRow_nil _ _ _ _, Ext.refl _⟩
  case round =>
    obtain ⟨l, ao, cv, hl, rfl, rfl, hk, hown, hE⟩ := hrel
    have hRr := HR.out.ext hE
    by_cases hlt : l.length < S.length
    · have hRz := hRr.1
      have x0 := hRr.2 l.length hlt
      rw [Nat.zero_add] at x0
      have hx5 := HL.out _ (List.getElem_mem hlt)
      obtain ⟨x, hx⟩ : ∃ x, x = S[l.length] := ⟨_, rfl⟩
      rw [← hx] at x0 hx5
      have Hx := Lib.hid hx
      have HRr := Lib.hid hRr
      have Hk := Lib.hid hk
      clear hx hRr hk
      cases hz : numZ x with
      | none =>
        have HNu : Hid (∀ w', Calls Tryz.prog 65 #[.string ⟨x.toArray⟩] w' fun e w'' => e = .returned (.tuple #[.int .i64 0, .bool false]) ∧ w' = w'') := fun w' => by
          have := unumber_c x w' (by omega)
          rwa [hz] at this
        have hn : numsZ s = none := by
          rw [HNZ.out]
          exact allO_none hlt (by rw [← Hx.out]; exact hz)
        have Hn := Lib.hid hn
        clear hz hn
        go_wp2_with (go_at_call 65; (with_reducible refine (HNu.out _).mono ?_); rintro e w2 ⟨rfl, rfl⟩)
        go_ret2
        unfold NumsR
        rw [Hn.out]
        exact ⟨rfl, HE1.out.trans hE⟩
      | some n =>
        have HNu : Hid (∀ w', Calls Tryz.prog 65 #[.string ⟨x.toArray⟩] w' fun e w'' => e = .returned (.tuple #[.int .i64 n, .bool true]) ∧ w' = w'') := fun w' => by
          have := unumber_c x w' (by omega)
          rwa [hz] at this
        have HK2 : Hid (∀ k (h : k < S.length) (h2 : k < (l ++ [n]).length), numZ S[k] = some (l ++ [n])[k]) := fun k h h2 => by
          by_cases q : k < l.length
          · rw [List.getElem_append_left q]; exact Hk.out k h q
          · have : k = l.length := by simp at h2; omega
            subst this
            rw [← Hx.out, hz]
            simp
        clear hz
        go_wp2_with (first
          | (go_at_call 65; (with_reducible refine (HNu.out _).mono ?_); rintro e w2 ⟨rfl, rfl⟩)
          | (at_builtin; refine wpList_append_own _ rfl _ _ 22 rfl w1.heap.size 3 i0 (.int .i64 0) 1 8 Tryz.underlying22 Hi.out Hz0.out Hz1.out Hz2.out rfl (by decide) _ _ _ rfl (hown.alloc _) ⟨wr.heap.size, 0, none⟩ 1 1 [.int .i64 n] rfl rfl (cell_one_new _ _ _) (fun x hx => by simp at hx; subst hx; rfl) (by unfold maxLen; omega) (by omega) (by have := hE.size; simp; omega) ?_; intro v' w3 hown' hgrow3 hnil3))
        have hExt := ext_grown (v := .slice ao l.length cv) (hE.alloc _) (hown.alloc _) hgrow3
        obtain ⟨ao2, cv2, rfl⟩ := own_slice hown'
        go_roundw
        case rel => exact ⟨l ++ [n], ao2, cv2, by rw [List.length_append]; exact hlt, by rw [List.length_append]; rfl, by rw [List.length_append]; go_num, HK2.out, by rw [iv_app, List.length_append]; exact hown', hExt⟩
        case measure => simp [intOf]; omega
    · obtain hll : l.length = S.length := by omega
      have hn : numsZ s = some l := by
        rw [HNZ.out]
        exact allO_some hll (fun i h => hk i h (by omega))
      have Hn := Lib.hid hn
      have hV := IsV.of_own hown rfl
      have hbs := own_base hown
      have hsz := HE1.out.size
      clear hn hk
      go_wp2_with fail
      go_ret2
      unfold NumsR
      rw [Hn.out]
      exact ⟨ao, cv, rfl, hV, fun R o m e => Nat.le_trans hsz (hbs R o m e), HE1.out.trans hE⟩
end Go.Proofs.YtgndogpgfgliaaaGreatDoor
