/- Patterns: the walks of the closures of Lossless. -/
import Derived.Test.YticckkadmhklmaaGreatDoorK18
import Derived.Test.YticckkadmhklmaaGreatDoorK11
import Derived.Test.YticckkadmhklmaaGreatDoorK14
import Derived.Test.YticckkadmhklmaaGreatDoorShelf
namespace Go.Proofs.YticckkadmhklmaaGreatDoor
set_option linter.unusedVariables false
set_option linter.unusedSimpArgs false
open Go.RowKit

theorem contains_c (ks : List Int) (R off cap : Nat) (x : Int) (w : World) (h : RdI ks R off w) (hn : ks.length ≤ 1000) (b : Bool) (hb : ks.contains x = b) : Calls Tryz.prog 43 #[.slice (some ⟨R, off, none⟩) ks.length cap, .int .i64 x] w fun e w' => e = .returned (.bool b) ∧ w = w' := by
  subst hb
  refine (Tryz.slices_Contains_int R off ks.length cap ks x w (Nat.le_refl _) (by omega) (fun j hj => by rw [h.2 j hj]; simp [List.getD, hj])).mono ?_
  rintro e w' ⟨rfl, rfl⟩
  exact ⟨by rw [List.take_length], rfl⟩
set_option maxRecDepth 100000 in
theorem hcl_c (p : Prt) (ks : List Int) (R off cap K : Nat) (b : Bool) (w : World) (h : RdI ks R off w) (hn : ks.length ≤ 1000) (hK : w.cell? ⟨K, 0, none⟩ = some (.slice (some ⟨R, off, none⟩) ks.length cap)) (hKl : K < w.heap.size) (hb : ks.contains p.k = b) :
    Calls Tryz.prog 42 #[.agg #[.int .i64 p.k, .int .i64 p.w, .string ⟨p.t.toArray⟩], .pointer (some ⟨K, 0, none⟩)] w fun e w' => e = .returned (.bool b) ∧ Ext w w' := by
  obtain ⟨k, wd, t⟩ := p
  have hE : Ext w (w.alloc (.cells #[.int .i64 k, .int .i64 wd, .string ⟨t.toArray⟩] 38)) := (Ext.refl w).alloc _
  have HC := Lib.hid (contains_c ks R off cap k (w.alloc (.cells #[.int .i64 k, .int .i64 wd, .string ⟨t.toArray⟩] 38)) ⟨hE.lt h.1, fun i hi => (hE.cells _ _ h.1).trans (h.2 i hi)⟩ hn b hb)
  clear hb h
  show Calls _ _ #[.agg #[.int .i64 k, .int .i64 wd, .string ⟨t.toArray⟩], _] w _
  go_enter Tryz.func42, Tryz.ntmps42
  go_wp2_with (first
    | (go_at_call 43; (with_reducible refine HC.out.mono ?_); rintro e w1 ⟨rfl, rfl⟩)
    | go_in)
  go_ret
  exact ⟨rfl, hE⟩
set_option maxRecDepth 100000 in
set_option maxHeartbeats 1000000 in
theorem idxP_c (l : List Prt) (ao : Option Addr) (cap : Nat) (ks : List Int) (R off cp K : Nat) (w : World) (hl : PtV ao cap l w) (h : RdI ks R off w) (hn : ks.length ≤ 1000) (hK : w.cell? ⟨K, 0, none⟩ = some (.slice (some ⟨R, off, none⟩) ks.length cp)) (hKl : K < w.heap.size) :
    Calls Tryz.prog 66 #[.slice ao l.length cap, .func (.func 42) #[] #[.pointer (some ⟨K, 0, none⟩)]] w fun e w' => (∃ z : Int, e = .returned (.int .i64 z) ∧ decide (0 ≤ z) = hasK l ks) ∧ Ext w w' := by
  have hlen := hl.1
  have hcap := hl.2.1
  unfold maxLen at hcap
  have HL := Lib.hid hl.2.2
  have HP : Hid (hasK l ks = l.any fun p => ks.contains p.k) := rfl
  have HI := Lib.hid h
  clear hl h
  go_enter Tryz.func66, Tryz.ntmps66
  go_wp2_with fail
  go_loopw [8] (fun i wr => ∃ j : Nat, j ≤ l.length ∧ i = .int .i64 (j : Int) ∧ Hid ((l.take j).any (fun p => ks.contains p.k) = false) ∧ Ext w wr) (fun i _ => l.length - (intOf i).toNat)
  case atStart => exact ⟨0, Nat.zero_le _, rfl, rfl, Ext.refl _⟩
  case round =>
    obtain ⟨j, hj, rfl, Hall, hE⟩ := hrel
    by_cases hlt : j < l.length
    · obtain ⟨R2, of2, rfl, hR0, hc⟩ := HL.out (by rintro rfl; simp at hlt)
      obtain ⟨c0, c1, c2⟩ := hc j hlt
      replace c0 := (hE.cells _ _ hR0).trans c0
      replace c1 := (hE.cells _ _ hR0).trans c1
      replace c2 := (hE.cells _ _ hR0).trans c2
      have Hs : Hid ((l.take (j + 1)).any (fun p => ks.contains p.k) = ((l.take j).any (fun p => ks.contains p.k) || ks.contains l[j].k)) := by rw [Hid, List.take_add_one, List.any_append]; simp [hlt]
      have hmem : l[j] ∈ l := List.getElem_mem _
      obtain ⟨p, hp⟩ : ∃ p, p = l[j] := ⟨_, rfl⟩
      rw [← hp] at c0 c1 c2 Hs hmem
      clear hp hc
      obtain ⟨k, wd, t⟩ := p
      simp only at c0 c1 c2
      have HIr : Hid (RdI ks R off wr) := ⟨hE.lt HI.out.1, fun i hi => (hE.cells _ _ HI.out.1).trans (HI.out.2 i hi)⟩
      have hKr := (hE.cells _ 0 hKl).trans hK
      have hKlr := hE.lt hKl
      rcases Bool.eq_false_or_eq_true (ks.contains k) with hq | hq
      · have HV : Hid (hasK l ks = true) := by rw [Hid, HP.out, List.any_eq_true]; exact ⟨_, hmem, hq⟩
        have Hq := Lib.hid hq
        clear hq hmem
        go_wp2_with (first
          | (go_at_call 42; (with_reducible refine (hcl_c ⟨k, wd, t⟩ ks R off cp K true _ HIr.out hn hKr hKlr Hq.out).mono ?_); rintro e w1 ⟨rfl, hE1⟩))
        go_ret
        exact ⟨⟨(j : Int), rfl, by rw [HV.out]; simp⟩, hE.trans hE1⟩
      · have Hq := Lib.hid hq
        have Hn : Hid ((l.take (j + 1)).any (fun p => ks.contains p.k) = false) := by rw [Hid, Hs.out, Hall.out, hq]; rfl
        clear hq hmem
        go_wp2_with (first
          | (go_at_call 42; (with_reducible refine (hcl_c ⟨k, wd, t⟩ ks R off cp K false _ HIr.out hn hKr hKlr Hq.out).mono ?_); rintro e w1 ⟨rfl, hE1⟩))
        go_roundw
        case rel => exact ⟨j + 1, by omega, by go_num, Hn, hE.trans hE1⟩
        case measure => simp [intOf]; omega
    · obtain rfl : j = l.length := by omega
      have HV : Hid (hasK l ks = false) := by rw [Hid, HP.out]; have := Hall.out; rwa [List.take_length] at this
      go_wp2_with fail
      go_ret
      exact ⟨⟨-1, rfl, by rw [HV.out]; rfl⟩, hE⟩
theorem cfP_c (l : List Prt) (ao : Option Addr) (cap : Nat) (ks : List Int) (R off cp K : Nat) (b : Bool) (w : World) (hl : PtV ao cap l w) (h : RdI ks R off w) (hn : ks.length ≤ 1000) (hK : w.cell? ⟨K, 0, none⟩ = some (.slice (some ⟨R, off, none⟩) ks.length cp)) (hKl : K < w.heap.size) (hb : hasK l ks = b) :
    Calls Tryz.prog 24 #[.slice ao l.length cap, .func (.func 42) #[] #[.pointer (some ⟨K, 0, none⟩)]] w fun e w' => e = .returned (.bool b) ∧ Ext w w' := by
  have HC := Lib.hid (idxP_c l ao cap ks R off cp K w hl h hn hK hKl)
  have Hb := Lib.hid hb
  clear hl h hb
  go_enter Tryz.func24, Tryz.ntmps24
  go_wp2_with (first
    | (go_at_call 66; (with_reducible refine HC.out.mono ?_); rintro e w1 ⟨⟨z, rfl, hz⟩, hE1⟩))
  go_ret
  exact ⟨congrArg (fun b => Ending.returned (Value.bool b)) Hb.out, hE1⟩
set_option maxRecDepth 100000 in
theorem has_c (l : List Prt) (ao : Option Addr) (cap : Nat) (ks : List Int) (R off cp T : Nat) (b : Bool) (w : World) (hl : PtV ao cap l w) (h : RdI ks R off w) (hn : ks.length ≤ 1000) (hT : w.cell? ⟨T, 0, none⟩ = some (.slice ao l.length cap)) (hTl : T < w.heap.size) (hb : hasK l ks = b) :
    Calls Tryz.prog 41 #[.slice (some ⟨R, off, none⟩) ks.length cp, .pointer (some ⟨T, 0, none⟩)] w fun e w' => e = .returned (.bool b) ∧ Ext w w' := by
  have hE : Ext w (w.alloc (.cells #[.slice (some ⟨R, off, none⟩) ks.length cp] 36)) := (Ext.refl w).alloc _
  have hK : (w.alloc (.cells #[.slice (some ⟨R, off, none⟩) ks.length cp] 36)).cell? ⟨w.heap.size, 0, none⟩ = some (.slice (some ⟨R, off, none⟩) ks.length cp) := by rw [World.cell?_alloc_new]; rfl
  have HC := Lib.hid (cfP_c l ao cap ks R off cp w.heap.size b (w.alloc (.cells #[.slice (some ⟨R, off, none⟩) ks.length cp] 36)) (hl.ext hE) ⟨hE.lt h.1, fun i hi => (hE.cells _ _ h.1).trans (h.2 i hi)⟩ hn hK (by simp) hb)
  clear hl h hb hK
  go_enter Tryz.func41, Tryz.ntmps41
  go_wp2_with (first
    | (go_at_call 24; (with_reducible refine HC.out.mono ?_); rintro e w1 ⟨rfl, hE1⟩)
    | go_in)
  go_ret
  exact ⟨rfl, hE.trans hE1⟩
theorem RdI.new1 (w : World) (x : Int) (t : TypeId) : RdI [x] w.heap.size 0 (w.alloc (.cells #[.int .i64 x] t)) :=
  ⟨by simp, fun i hi => by
    rw [World.cell?_alloc_new, Nat.zero_add]
    match i, hi with
    | 0, _ => rfl⟩
/-- Asked of one kind: a new slice of it. -/
theorem has1 (l : List Prt) (ao : Option Addr) (cap T : Nat) (k : Int) (b : Bool) (w : World) (hl : PtV ao cap l w) (hT : w.cell? ⟨T, 0, none⟩ = some (.slice ao l.length cap)) (hTl : T < w.heap.size) (hb : hasK l [k] = b) :
    Calls Tryz.prog 41 #[.slice (some ⟨w.heap.size, 0, none⟩) 1 1, .pointer (some ⟨T, 0, none⟩)] (w.alloc (.cells #[.int .i64 k] 3)) fun e w' => e = .returned (.bool b) ∧ Ext w w' := by
  have hE : Ext w (w.alloc (.cells #[.int .i64 k] 3)) := (Ext.refl w).alloc _
  refine (has_c l ao cap [k] w.heap.size 0 1 T b _ (hl.ext hE) (RdI.new1 w k 3) (by simp) ((hE.cells _ _ hTl).trans hT) (hE.lt hTl) hb).mono ?_
  rintro e w' ⟨h1, h2⟩
  exact ⟨h1, hE.trans h2⟩
theorem has3 (l : List Prt) (ao : Option Addr) (cap T : Nat) (k k2 k3 : Int) (b : Bool) (w : World) (hl : PtV ao cap l w) (hT : w.cell? ⟨T, 0, none⟩ = some (.slice ao l.length cap)) (hTl : T < w.heap.size) (hb : hasK l [k, k2, k3] = b) :
    Calls Tryz.prog 41 #[.slice (some ⟨w.heap.size, 0, none⟩) 3 3, .pointer (some ⟨T, 0, none⟩)] (w.alloc (.cells #[.int .i64 k, .int .i64 k2, .int .i64 k3] 3)) fun e w' => e = .returned (.bool b) ∧ Ext w w' := by
  have hE : Ext w (w.alloc (.cells #[.int .i64 k, .int .i64 k2, .int .i64 k3] 3)) := (Ext.refl w).alloc _
  refine (has_c l ao cap [k, k2, k3] w.heap.size 0 3 T b _ (hl.ext hE) (RdI.new3 w k k2 k3 3) (by simp) ((hE.cells _ _ hTl).trans hT) (hE.lt hTl) hb).mono ?_
  rintro e w' ⟨h1, h2⟩
  exact ⟨h1, hE.trans h2⟩
end Go.Proofs.YticckkadmhklmaaGreatDoor
/- Patterns: the walk of Lossless: plain facts of what stands side by side. -/
namespace Go.Proofs.YticckkadmhklmaaGreatDoor
set_option linter.unusedVariables false
set_option linter.unusedSimpArgs false
open Go.RowKit

theorem losL_at (l : List Prt) (j : Nat) (h : j + 1 < l.length) : losL (l.drop j) = (!badB l[j] l[j + 1] && losL (l.drop (j + 1))) := by
  rw [List.drop_eq_getElem_cons (show j < l.length by omega), List.drop_eq_getElem_cons h, losL]
theorem losL_end (l : List Prt) (j : Nat) (h : l.length ≤ j + 1) : losL (l.drop j) = true := by
  have : (l.drop j).length ≤ 1 := by rw [List.length_drop]; omega
  match hd : l.drop j, this with
  | [], _ => rfl
  | [_], _ => rfl
  | _ :: _ :: _, h => simp at h
theorem full_q (k F : Int) (w : World) (n : Nat) (h : fullZ k = F) : Calls Tryz.prog 44 #[.int .i64 k] (w.drewN n) fun e w' => e = .returned (.int .i64 F) ∧ w' = w.drewN n :=
  (full_l k F _ h).mono fun _ _ q => ⟨q.1, q.2.symm⟩
theorem isDg_q (c : UInt8) (b : Bool) (w : World) (n : Nat) (h : isDg c = b) : Calls Tryz.prog 45 #[.int .u8 (c.toNat : Int)] (w.drewN n) fun e w' => e = .returned (.bool b) ∧ w' = w.drewN n :=
  (isDg_lit c b _ h).mono fun _ _ q => ⟨q.1, q.2.symm⟩
theorem isDg_y (x : Int) (c : UInt8) (b : Bool) (w : World) (hx : x = (c.toNat : Int)) (h : isDg c = b) : Calls Tryz.prog 45 #[.int .u8 x] w fun e w' => e = .returned (.bool b) ∧ w = w' := by
  rw [hx]; exact isDg_lit c b w h
theorem isLt_z (x : Int) (c : UInt8) (b : Bool) (w : World) (hx : x = (c.toNat : Int)) (h : isLt c = b) : Calls Tryz.prog 30 #[.int .u8 x] w fun e w' => e = .returned (.bool b) ∧ w = w' := by
  rw [hx]; exact isLt_lit c b w h
theorem isDg_z (x : Int) (c : UInt8) (b : Bool) (w : World) (n : Nat) (hx : x = (c.toNat : Int)) (h : isDg c = b) : Calls Tryz.prog 45 #[.int .u8 x] (w.drewN n) fun e w' => e = .returned (.bool b) ∧ w' = w.drewN n :=
  (isDg_y x c b _ hx h).mono fun _ _ q => ⟨q.1, q.2.symm⟩
end Go.Proofs.YticckkadmhklmaaGreatDoor
