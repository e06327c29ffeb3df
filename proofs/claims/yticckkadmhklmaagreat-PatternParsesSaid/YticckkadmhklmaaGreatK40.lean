/- The walk of the reference's Parse, where something is not valid; and whole. -/
import Derived.Test.YticckkadmhklmaaGreatK39
import Derived.Test.YticckkadmhklmaaGreatK36
namespace Go.Proofs.YticckkadmhklmaaGreat
set_option linter.unusedVariables false
set_option linter.unusedSimpArgs false
open Go.RowKit Go.Maps

set_option maxRecDepth 100000 in
set_option maxHeartbeats 1000000 in
theorem rparse_no (l : List Prt) (N : Nms) (s : List UInt8) (ao : Option Addr) (cap : Nat) (w : World) (h : PtV ao cap l w) (hl : ∀ p ∈ l, p.t.length ≤ 4000) (hN : N.ok) (hNl : ∀ s ∈ N.all, s.length ≤ 100000)
    (hs : s.length ≤ 9223372036854775807) (hno : ¬ (validB l = true ∧ nmOk N = true ∧ s.length ≤ 4000)) :
    Calls Tryz.prog 11 #[.slice ao l.length cap, .agg (sv N.all).toArray, .string ⟨s.toArray⟩] w (PrsR (prsT N l s) w) := by
  have hI := names_size hN
  have hR : ((w.alloc (.cells (sv N.all).toArray 27)).alloc (.cells #[.int .i64 0, .int .i64 0] 40)).rangeAt w.heap.size 0 (sv N.all) := by
    intro j v hv
    rw [World.cell?_alloc_lt _ _ _ (by simp), Nat.zero_add, World.cell?_alloc_new]
    simpa using hv
  have hEW : Ext w ((w.alloc (.cells (sv N.all).toArray 27)).alloc (.cells #[.int .i64 0, .int .i64 0] 40)) := ((Ext.refl w).alloc _).alloc _
  have p0 : ((w.alloc (.cells (sv N.all).toArray 27)).alloc (.cells #[.int .i64 0, .int .i64 0] 40)).cell? ⟨w.heap.size + 1, 0, none⟩ = some (.int .i64 0) := by
    simp
  have p1 : ((w.alloc (.cells (sv N.all).toArray 27)).alloc (.cells #[.int .i64 0, .int .i64 0] 40)).cell? ⟨w.heap.size + 1, 1, none⟩ = some (.int .i64 0) := by
    simp
  have pf : ∀ o, ((w.alloc (.cells (sv N.all).toArray 27)).alloc (.cells #[.int .i64 0, .int .i64 0] 40)).frozen? ⟨w.heap.size + 1, o, none⟩ = false := fun o => by
    simp
  have hz1 : w.heap.size < ((w.alloc (.cells (sv N.all).toArray 27)).alloc (.cells #[.int .i64 0, .int .i64 0] 40)).heap.size := by simp; omega
  have hz2 : w.heap.size + 1 < ((w.alloc (.cells (sv N.all).toArray 27)).alloc (.cells #[.int .i64 0, .int .i64 0] 40)).heap.size := by simp
  have Hl := Lib.hid hl
  have HN := Lib.hid hN
  have HNl := Lib.hid hNl
  have Hpt := Lib.hid h
  clear hl hN hNl h
  rcases Bool.eq_false_or_eq_true (validB l) with hv | hv
  · rcases Bool.eq_false_or_eq_true (nmOk N) with hn | hn
    · have h4 : 4000 < s.length := by
        rcases Nat.lt_or_ge 4000 s.length with q | q
        · exact q
        · exact absurd ⟨hv, hn, q⟩ hno
      have HX : Hid (prsT N l s = (0, 0, 5)) := by unfold Hid prsT; rw [if_pos ⟨hv, hn⟩, if_pos h4]
      have h4' : (4000 : Int) < (s.length : Int) := by omega
      have Hv := Lib.hid hv
      have Hn := Lib.hid hn
      clear hv hn hno h4
      go_enter Tryz.func11, Tryz.ntmps11
      go_upto_region 1 with fail
      generalize (w.alloc (.cells (sv N.all).toArray 27)).alloc (.cells #[.int .i64 0, .int .i64 0] 40) = W0 at hR hEW p0 p1 pf hz1 hz2 ⊢
      obtain ⟨P0, hP⟩ : ∃ P0, w.heap.size + 1 = P0 := ⟨_, rfl⟩
      have hPw : w.heap.size ≤ P0 := by omega
      rw [hP] at p0 p1 pf hz2 ⊢
      clear hP
      generalize hB : w.heap.size = BN at hR hz1 ⊢
      have HB := Lib.hid hB
      clear hB
      go_upto_region 4 with (first
        | (go_at_call 27; (with_reducible refine (rvalid_lit l true ao cap _ (Hpt.out.ext hEW) Hl.out Hv.out).mono ?_); rintro e w1 ⟨rfl, hE1⟩; have hR1 := rangeAt_ext hR hz1 hE1)
        | (refine wpList_load_midg (by rfl) 27 _ rfl BN 0 rfl (sv N.all) _ hR1 Tryz.underlying27 rfl hI ?_)
        | (go_at_call 28; (with_reducible refine (rvalidnames_c N true HN.out _ HNl.out Hn.out).mono ?_); rintro e w2 ⟨rfl, hE2⟩))
      have hE12 := hE1.trans hE2
      have e0 := (hE12.cells _ _ hz2).trans p0
      have e1 := (hE12.cells _ _ hz2).trans p1
      have ef := fun o => (hE12.frozens _ o hz2).trans (pf o)
      have hPr := hE12.lt hz2
      have hEr := Lib.hid (hEW.trans hE12)
      clear p0 p1 pf hz2 hE1 hE2 hE12 hR hR1
      go_wp2_with fail
      refine bodyPost_ret (v := .tuple #[.int .i64 0, .agg #[.int .i64 0, .int .i64 0], .int .i64 5]) ?_ rfl ⟨?_, ?_⟩
      · simp [results, Tryz.results11, go_sem, e0, e1, hPr]
      · rw [HX.out]; rfl
      · (repeat (with_reducible (first | exact hEr.out | refine Ext.setCell ?_ hPw _ | refine Ext.alloc ?_ _ | refine Ext.drewN ?_ _ | refine Ext.drew ?_)))
    · have HX : Hid (prsT N l s = (0, 0, 1)) := by unfold Hid prsT; rw [if_neg (by rw [hn]; simp)]
      have Hv := Lib.hid hv
      have Hn := Lib.hid hn
      clear hv hn hno
      go_enter Tryz.func11, Tryz.ntmps11
      go_upto_region 1 with fail
      generalize (w.alloc (.cells (sv N.all).toArray 27)).alloc (.cells #[.int .i64 0, .int .i64 0] 40) = W0 at hR hEW p0 p1 pf hz1 hz2 ⊢
      obtain ⟨P0, hP⟩ : ∃ P0, w.heap.size + 1 = P0 := ⟨_, rfl⟩
      have hPw : w.heap.size ≤ P0 := by omega
      rw [hP] at p0 p1 pf hz2 ⊢
      clear hP
      generalize hB : w.heap.size = BN at hR hz1 ⊢
      have HB := Lib.hid hB
      clear hB
      go_upto_region 2 with (first
        | (go_at_call 27; (with_reducible refine (rvalid_lit l true ao cap _ (Hpt.out.ext hEW) Hl.out Hv.out).mono ?_); rintro e w1 ⟨rfl, hE1⟩; have hR1 := rangeAt_ext hR hz1 hE1)
        | (refine wpList_load_midg (by rfl) 27 _ rfl BN 0 rfl (sv N.all) _ hR1 Tryz.underlying27 rfl hI ?_)
        | (go_at_call 28; (with_reducible refine (rvalidnames_c N false HN.out _ HNl.out Hn.out).mono ?_); rintro e w2 ⟨rfl, hE2⟩))
      have hE12 := hE1.trans hE2
      have e0 := (hE12.cells _ _ hz2).trans p0
      have e1 := (hE12.cells _ _ hz2).trans p1
      have ef := fun o => (hE12.frozens _ o hz2).trans (pf o)
      have hPr := hE12.lt hz2
      have hEr := Lib.hid (hEW.trans hE12)
      clear p0 p1 pf hz2 hE1 hE2 hE12 hR hR1
      go_wp2_with fail
      refine bodyPost_ret (v := .tuple #[.int .i64 0, .agg #[.int .i64 0, .int .i64 0], .int .i64 1]) ?_ rfl ⟨?_, ?_⟩
      · simp [results, Tryz.results11, go_sem, e0, e1, hPr]
      · rw [HX.out]; rfl
      · (repeat (with_reducible (first | exact hEr.out | refine Ext.setCell ?_ hPw _ | refine Ext.alloc ?_ _ | refine Ext.drewN ?_ _ | refine Ext.drew ?_)))
  · have HX : Hid (prsT N l s = (0, 0, 1)) := by unfold Hid prsT; rw [if_neg (by rw [hv]; simp)]
    have Hv := Lib.hid hv
    clear hv hno
    go_enter Tryz.func11, Tryz.ntmps11
    go_upto_region 1 with fail
    generalize (w.alloc (.cells (sv N.all).toArray 27)).alloc (.cells #[.int .i64 0, .int .i64 0] 40) = W0 at hR hEW p0 p1 pf hz1 hz2 ⊢
    obtain ⟨P0, hP⟩ : ∃ P0, w.heap.size + 1 = P0 := ⟨_, rfl⟩
    have hPw : w.heap.size ≤ P0 := by omega
    rw [hP] at p0 p1 pf hz2 ⊢
    clear hP
    go_upto_region 2 with (first
      | (go_at_call 27; (with_reducible refine (rvalid_lit l false ao cap _ (Hpt.out.ext hEW) Hl.out Hv.out).mono ?_); rintro e w1 ⟨rfl, hE1⟩))
    have e0 := (hE1.cells _ _ hz2).trans p0
    have e1 := (hE1.cells _ _ hz2).trans p1
    have ef := fun o => (hE1.frozens _ o hz2).trans (pf o)
    have hPr := hE1.lt hz2
    have hEr := Lib.hid (hEW.trans hE1)
    clear p0 p1 pf hz2 hE1 hR
    go_wp2_with fail
    refine bodyPost_ret (v := .tuple #[.int .i64 0, .agg #[.int .i64 0, .int .i64 0], .int .i64 1]) ?_ rfl ⟨?_, ?_⟩
    · simp [results, Tryz.results11, go_sem, e0, e1, hPr]
    · rw [HX.out]; rfl
    · (repeat (with_reducible (first | exact hEr.out | refine Ext.setCell ?_ hPw _ | refine Ext.alloc ?_ _ | refine Ext.drewN ?_ _ | refine Ext.drew ?_)))
set_option maxRecDepth 100000 in
set_option maxHeartbeats 1000000 in
theorem parse_no7 (l : List Prt) (N : Nms) (s : List UInt8) (ao : Option Addr) (cap : Nat) (w : World) (h : PtV ao cap l w) (hl : ∀ p ∈ l, p.t.length ≤ 4000) (hN : N.ok) (hNl : ∀ s ∈ N.all, s.length ≤ 100000)
    (hs : s.length ≤ 9223372036854775807) (hno : ¬ (validB l = true ∧ nmOk N = true ∧ s.length ≤ 4000)) :
    Calls Tryz.prog 10 #[.slice ao l.length cap, .agg (sv N.all).toArray, .string ⟨s.toArray⟩] w (PrsR (prsT N l s) w) := by
  have hI := names_size hN
  have hR : ((w.alloc (.cells (sv N.all).toArray 27)).alloc (.cells #[.int .i64 0, .int .i64 0] 40)).rangeAt w.heap.size 0 (sv N.all) := by
    intro j v hv
    rw [World.cell?_alloc_lt _ _ _ (by simp), Nat.zero_add, World.cell?_alloc_new]
    simpa using hv
  have hEW : Ext w ((w.alloc (.cells (sv N.all).toArray 27)).alloc (.cells #[.int .i64 0, .int .i64 0] 40)) := ((Ext.refl w).alloc _).alloc _
  have p0 : ((w.alloc (.cells (sv N.all).toArray 27)).alloc (.cells #[.int .i64 0, .int .i64 0] 40)).cell? ⟨w.heap.size + 1, 0, none⟩ = some (.int .i64 0) := by
    simp
  have p1 : ((w.alloc (.cells (sv N.all).toArray 27)).alloc (.cells #[.int .i64 0, .int .i64 0] 40)).cell? ⟨w.heap.size + 1, 1, none⟩ = some (.int .i64 0) := by
    simp
  have pf : ∀ o, ((w.alloc (.cells (sv N.all).toArray 27)).alloc (.cells #[.int .i64 0, .int .i64 0] 40)).frozen? ⟨w.heap.size + 1, o, none⟩ = false := fun o => by
    simp
  have hz1 : w.heap.size < ((w.alloc (.cells (sv N.all).toArray 27)).alloc (.cells #[.int .i64 0, .int .i64 0] 40)).heap.size := by simp; omega
  have hz2 : w.heap.size + 1 < ((w.alloc (.cells (sv N.all).toArray 27)).alloc (.cells #[.int .i64 0, .int .i64 0] 40)).heap.size := by simp
  have Hl := Lib.hid hl
  have HN := Lib.hid hN
  have HNl := Lib.hid hNl
  have Hpt := Lib.hid h
  clear hl hN hNl h
  rcases Bool.eq_false_or_eq_true (validB l) with hv | hv
  · rcases Bool.eq_false_or_eq_true (nmOk N) with hn | hn
    · have h4 : 4000 < s.length := by
        rcases Nat.lt_or_ge 4000 s.length with q | q
        · exact q
        · exact absurd ⟨hv, hn, q⟩ hno
      have HX : Hid (prsT N l s = (0, 0, 5)) := by unfold Hid prsT; rw [if_pos ⟨hv, hn⟩, if_pos h4]
      have h4' : (4000 : Int) < (s.length : Int) := by omega
      have Hv := Lib.hid hv
      have Hn := Lib.hid hn
      clear hv hn hno h4
      go_enter Tryz.func10, Tryz.ntmps10
      go_upto_region 1 with fail
      generalize (w.alloc (.cells (sv N.all).toArray 27)).alloc (.cells #[.int .i64 0, .int .i64 0] 40) = W0 at hR hEW p0 p1 pf hz1 hz2 ⊢
      obtain ⟨P0, hP⟩ : ∃ P0, w.heap.size + 1 = P0 := ⟨_, rfl⟩
      have hPw : w.heap.size ≤ P0 := by omega
      rw [hP] at p0 p1 pf hz2 ⊢
      clear hP
      generalize hB : w.heap.size = BN at hR hz1 ⊢
      have HB := Lib.hid hB
      clear hB
      go_upto_region 3 with (first
        | (go_at_call 20; (with_reducible refine (valid_lit l true ao cap _ (Hpt.out.ext hEW) Hl.out Hv.out).mono ?_); rintro e w1 ⟨rfl, hE1⟩; have hR1 := rangeAt_ext hR hz1 hE1)
        | (refine wpList_load_midg (by rfl) 27 _ rfl BN 0 rfl (sv N.all) _ hR1 Tryz.underlying27 rfl hI ?_)
        | (go_at_call 21; (with_reducible refine (names_lit N true HN.out _ HNl.out Hn.out).mono ?_); rintro e w2 ⟨rfl, hE2⟩))
      have hE12 := hE1.trans hE2
      have e0 := (hE12.cells _ _ hz2).trans p0
      have e1 := (hE12.cells _ _ hz2).trans p1
      have ef := fun o => (hE12.frozens _ o hz2).trans (pf o)
      have hPr := hE12.lt hz2
      have hEr := Lib.hid (hEW.trans hE12)
      clear p0 p1 pf hz2 hE1 hE2 hE12 hR hR1
      go_wp2_with fail
      refine bodyPost_ret (v := .tuple #[.int .i64 0, .agg #[.int .i64 0, .int .i64 0], .int .i64 5]) ?_ rfl ⟨?_, ?_⟩
      · simp [results, Tryz.results10, go_sem, e0, e1, hPr]
      · rw [HX.out]; rfl
      · (repeat (with_reducible (first | exact hEr.out | refine Ext.setCell ?_ hPw _ | refine Ext.alloc ?_ _ | refine Ext.drewN ?_ _ | refine Ext.drew ?_)))
    · have HX : Hid (prsT N l s = (0, 0, 1)) := by unfold Hid prsT; rw [if_neg (by rw [hn]; simp)]
      have Hv := Lib.hid hv
      have Hn := Lib.hid hn
      clear hv hn hno
      go_enter Tryz.func10, Tryz.ntmps10
      go_upto_region 1 with fail
      generalize (w.alloc (.cells (sv N.all).toArray 27)).alloc (.cells #[.int .i64 0, .int .i64 0] 40) = W0 at hR hEW p0 p1 pf hz1 hz2 ⊢
      obtain ⟨P0, hP⟩ : ∃ P0, w.heap.size + 1 = P0 := ⟨_, rfl⟩
      have hPw : w.heap.size ≤ P0 := by omega
      rw [hP] at p0 p1 pf hz2 ⊢
      clear hP
      generalize hB : w.heap.size = BN at hR hz1 ⊢
      have HB := Lib.hid hB
      clear hB
      go_upto_region 2 with (first
        | (go_at_call 20; (with_reducible refine (valid_lit l true ao cap _ (Hpt.out.ext hEW) Hl.out Hv.out).mono ?_); rintro e w1 ⟨rfl, hE1⟩; have hR1 := rangeAt_ext hR hz1 hE1)
        | (refine wpList_load_midg (by rfl) 27 _ rfl BN 0 rfl (sv N.all) _ hR1 Tryz.underlying27 rfl hI ?_)
        | (go_at_call 21; (with_reducible refine (names_lit N false HN.out _ HNl.out Hn.out).mono ?_); rintro e w2 ⟨rfl, hE2⟩))
      have hE12 := hE1.trans hE2
      have e0 := (hE12.cells _ _ hz2).trans p0
      have e1 := (hE12.cells _ _ hz2).trans p1
      have ef := fun o => (hE12.frozens _ o hz2).trans (pf o)
      have hPr := hE12.lt hz2
      have hEr := Lib.hid (hEW.trans hE12)
      clear p0 p1 pf hz2 hE1 hE2 hE12 hR hR1
      go_wp2_with fail
      refine bodyPost_ret (v := .tuple #[.int .i64 0, .agg #[.int .i64 0, .int .i64 0], .int .i64 1]) ?_ rfl ⟨?_, ?_⟩
      · simp [results, Tryz.results10, go_sem, e0, e1, hPr]
      · rw [HX.out]; rfl
      · (repeat (with_reducible (first | exact hEr.out | refine Ext.setCell ?_ hPw _ | refine Ext.alloc ?_ _ | refine Ext.drewN ?_ _ | refine Ext.drew ?_)))
  · have HX : Hid (prsT N l s = (0, 0, 1)) := by unfold Hid prsT; rw [if_neg (by rw [hv]; simp)]
    have Hv := Lib.hid hv
    clear hv hno
    go_enter Tryz.func10, Tryz.ntmps10
    go_upto_region 1 with fail
    generalize (w.alloc (.cells (sv N.all).toArray 27)).alloc (.cells #[.int .i64 0, .int .i64 0] 40) = W0 at hR hEW p0 p1 pf hz1 hz2 ⊢
    obtain ⟨P0, hP⟩ : ∃ P0, w.heap.size + 1 = P0 := ⟨_, rfl⟩
    have hPw : w.heap.size ≤ P0 := by omega
    rw [hP] at p0 p1 pf hz2 ⊢
    clear hP
    go_upto_region 2 with (first
      | (go_at_call 20; (with_reducible refine (valid_lit l false ao cap _ (Hpt.out.ext hEW) Hl.out Hv.out).mono ?_); rintro e w1 ⟨rfl, hE1⟩))
    have e0 := (hE1.cells _ _ hz2).trans p0
    have e1 := (hE1.cells _ _ hz2).trans p1
    have ef := fun o => (hE1.frozens _ o hz2).trans (pf o)
    have hPr := hE1.lt hz2
    have hEr := Lib.hid (hEW.trans hE1)
    clear p0 p1 pf hz2 hE1 hR
    go_wp2_with fail
    refine bodyPost_ret (v := .tuple #[.int .i64 0, .agg #[.int .i64 0, .int .i64 0], .int .i64 1]) ?_ rfl ⟨?_, ?_⟩
    · simp [results, Tryz.results10, go_sem, e0, e1, hPr]
    · rw [HX.out]; rfl
    · (repeat (with_reducible (first | exact hEr.out | refine Ext.setCell ?_ hPw _ | refine Ext.alloc ?_ _ | refine Ext.drewN ?_ _ | refine Ext.drew ?_)))
theorem rparse_c (l : List Prt) (N : Nms) (s : List UInt8) (ao : Option Addr) (cap : Nat) (w : World) (h : PtV ao cap l w) (hl : ∀ p ∈ l, p.t.length ≤ 4000) (hN : N.ok) (hNl : ∀ s ∈ N.all, s.length ≤ 100000) (hs : s.length ≤ 9223372036854775807) :
    Calls Tryz.prog 11 #[.slice ao l.length cap, .agg (sv N.all).toArray, .string ⟨s.toArray⟩] w (PrsR (prsT N l s) w) := by
  by_cases q : validB l = true ∧ nmOk N = true ∧ s.length ≤ 4000
  · exact rparse_ok l N s ao cap w h hl hN hNl q.1 q.2.1 q.2.2
  · exact rparse_no l N s ao cap w h hl hN hNl hs q
theorem parse_c7 (l : List Prt) (N : Nms) (s : List UInt8) (ao : Option Addr) (cap : Nat) (w : World) (h : PtV ao cap l w) (hl : ∀ p ∈ l, p.t.length ≤ 4000) (hN : N.ok) (hNl : ∀ s ∈ N.all, s.length ≤ 100000) (hs : s.length ≤ 9223372036854775807) :
    Calls Tryz.prog 10 #[.slice ao l.length cap, .agg (sv N.all).toArray, .string ⟨s.toArray⟩] w (PrsR (prsT N l s) w) := by
  by_cases q : validB l = true ∧ nmOk N = true ∧ s.length ≤ 4000
  · exact parse_ok l N s ao cap w h hl hN hNl q.1 q.2.1 q.2.2
  · exact parse_no7 l N s ao cap w h hl hN hNl hs q
end Go.Proofs.YticckkadmhklmaaGreat
/- The walk of the law on Parse: the program's answer is the reference's. -/
namespace Go.Proofs.YticckkadmhklmaaGreat
set_option linter.unusedVariables false
set_option linter.unusedSimpArgs false
open Go.RowKit Go.Maps

theorem parses_both (l : List Prt) (N : Nms) (s : List UInt8) (ao : Option Addr) (cap : Nat) (hl : ∀ p ∈ l, p.t.length ≤ 4000) (hN : N.ok) (hNl : ∀ s ∈ N.all, s.length ≤ 100000) (hs : s.length ≤ 9223372036854775807) :
    ∃ (a p q z : Int),
      (∀ w, PtV ao cap l w → Calls Tryz.prog 10 #[.slice ao l.length cap, .agg (sv N.all).toArray, .string ⟨s.toArray⟩] w fun e w' => e = .returned (.tuple #[.int .i64 a, .agg #[.int .i64 p, .int .i64 q], .int .i64 z]) ∧ Ext w w') ∧
      (∀ w, PtV ao cap l w → Calls Tryz.prog 11 #[.slice ao l.length cap, .agg (sv N.all).toArray, .string ⟨s.toArray⟩] w fun e w' => e = .returned (.tuple #[.int .i64 a, .agg #[.int .i64 p, .int .i64 q], .int .i64 z]) ∧ Ext w w') :=
  ⟨(prsT N l s).1, _, _, (prsT N l s).2.2, fun w hp => parse_c7 l N s ao cap w hp hl hN hNl hs, fun w hp => rparse_c l N s ao cap w hp hl hN hNl hs⟩
set_option maxRecDepth 100000 in
set_option maxHeartbeats 600000 in
theorem parses_w1 (l : List Prt) (ao : Option Addr) (cap : Nat) (N : Nms) (sb : ByteArray) (w : World) (h : PtV ao cap l w) (hN : N.ok) (hsb : sb.size ≤ maxLen) (hg : greatB l = true) :
    Calls Tryz.prog 4 #[.slice ao l.length cap, .agg (sv N.all).toArray, .string sb] w fun e w' => e = .returned (.bool true) ∧ Ext w w' := by
  obtain ⟨s, rfl⟩ : ∃ s : List UInt8, sb = ⟨s.toArray⟩ := ⟨sb.data.toList, ba_mk sb⟩
  have hsl : s.length ≤ 9223372036854775807 := by unfold maxLen at hsb; simpa [ByteArray.size] using hsb
  have hI := names_size hN
  have hR : (w.alloc (.cells (sv N.all).toArray 27)).rangeAt w.heap.size 0 (sv N.all) := by
    intro j v hv
    rw [Nat.zero_add, World.cell?_alloc_new]
    simpa using hv
  have hEW : Ext w (w.alloc (.cells (sv N.all).toArray 27)) := (Ext.refl w).alloc _
  have hz1 : w.heap.size < (w.alloc (.cells (sv N.all).toArray 27)).heap.size := by simp
  have HPt := Lib.hid (h.ext hEW)
  have HEW := Lib.hid hEW
  have HN := Lib.hid hN
  clear hsb h hEW hN
  have HG := Lib.hid hg
  clear hg
  go_enter Tryz.func4, Tryz.ntmps4
  go_upto_region 1 with fail
  generalize w.alloc (.cells (sv N.all).toArray 27) = W0 at hR HEW hz1 HPt ⊢
  generalize w.heap.size = B at hR hz1 ⊢
  go_wp2_with fail
  (with_reducible refine (awake_c _).mono ?_)
  rintro e w1 ⟨rfl, hX1⟩
  go_wp2_with fail
  (with_reducible refine (great_c l ao cap _ _ (HPt.out.ext hX1) HG.out).mono ?_)
  rintro e w2 ⟨rfl, hE2⟩
  have hX2 : Ext W0 w2 := hX1.trans hE2
  have HX1 := Lib.hid hX1
  clear hE2 hX1
  go_wp2_with fail
  go_ret
  exact ⟨rfl, HEW.out.trans hX2⟩
set_option maxRecDepth 100000 in
set_option maxHeartbeats 600000 in
theorem parses_w2 (l : List Prt) (ao : Option Addr) (cap : Nat) (N : Nms) (sb : ByteArray) (w : World) (h : PtV ao cap l w) (hN : N.ok) (hsb : sb.size ≤ maxLen) (hg : greatB l = false) (hlg : lngB N = true) :
    Calls Tryz.prog 4 #[.slice ao l.length cap, .agg (sv N.all).toArray, .string sb] w fun e w' => e = .returned (.bool true) ∧ Ext w w' := by
  obtain ⟨s, rfl⟩ : ∃ s : List UInt8, sb = ⟨s.toArray⟩ := ⟨sb.data.toList, ba_mk sb⟩
  have hsl : s.length ≤ 9223372036854775807 := by unfold maxLen at hsb; simpa [ByteArray.size] using hsb
  have hI := names_size hN
  have hR : (w.alloc (.cells (sv N.all).toArray 27)).rangeAt w.heap.size 0 (sv N.all) := by
    intro j v hv
    rw [Nat.zero_add, World.cell?_alloc_new]
    simpa using hv
  have hEW : Ext w (w.alloc (.cells (sv N.all).toArray 27)) := (Ext.refl w).alloc _
  have hz1 : w.heap.size < (w.alloc (.cells (sv N.all).toArray 27)).heap.size := by simp
  have HPt := Lib.hid (h.ext hEW)
  have HEW := Lib.hid hEW
  have HN := Lib.hid hN
  clear hsb h hEW hN
  have HG := Lib.hid hg
  have HLN := Lib.hid hlg
  clear hg hlg
  go_enter Tryz.func4, Tryz.ntmps4
  go_upto_region 1 with fail
  generalize w.alloc (.cells (sv N.all).toArray 27) = W0 at hR HEW hz1 HPt ⊢
  generalize w.heap.size = B at hR hz1 ⊢
  go_wp2_with fail
  (with_reducible refine (awake_c _).mono ?_)
  rintro e w1 ⟨rfl, hX1⟩
  go_wp2_with fail
  (with_reducible refine (great_c l ao cap _ _ (HPt.out.ext hX1) HG.out).mono ?_)
  rintro e w2 ⟨rfl, hE2⟩
  have hX2 : Ext W0 w2 := hX1.trans hE2
  have HX1 := Lib.hid hX1
  clear hE2 hX1
  have hRR := rangeAt_ext hR hz1 hX2
  go_wp2_with (refine wpList_load_midg (by rfl) 27 _ rfl B 0 rfl (sv N.all) _ hRR Tryz.underlying27 rfl hI ?_)
  (with_reducible refine (long_c N HN.out _ _ HLN.out).mono ?_)
  rintro e w3 ⟨rfl, hE3⟩
  have hX3 : Ext W0 w3 := hX2.trans hE3
  have HX2 := Lib.hid hX2
  clear hE3 hX2 hRR
  go_wp2_with fail
  go_ret
  exact ⟨rfl, HEW.out.trans hX3⟩
set_option maxRecDepth 100000 in
set_option maxHeartbeats 600000 in
theorem parses_w3 (l : List Prt) (ao : Option Addr) (cap : Nat) (N : Nms) (sb : ByteArray) (w : World) (h : PtV ao cap l w) (hN : N.ok) (hsb : sb.size ≤ maxLen) (hg : greatB l = false) (hlg : lngB N = false) (hsz : 1000 < sb.size) (hsz2 : sb.size ≤ 4000) :
    Calls Tryz.prog 4 #[.slice ao l.length cap, .agg (sv N.all).toArray, .string sb] w fun e w' => e = .returned (.bool true) ∧ Ext w w' := by
  obtain ⟨s, rfl⟩ : ∃ s : List UInt8, sb = ⟨s.toArray⟩ := ⟨sb.data.toList, ba_mk sb⟩
  have hsl : s.length ≤ 9223372036854775807 := by unfold maxLen at hsb; simpa [ByteArray.size] using hsb
  have hI := names_size hN
  have hR : (w.alloc (.cells (sv N.all).toArray 27)).rangeAt w.heap.size 0 (sv N.all) := by
    intro j v hv
    rw [Nat.zero_add, World.cell?_alloc_new]
    simpa using hv
  have hEW : Ext w (w.alloc (.cells (sv N.all).toArray 27)) := (Ext.refl w).alloc _
  have hz1 : w.heap.size < (w.alloc (.cells (sv N.all).toArray 27)).heap.size := by simp
  have HPt := Lib.hid (h.ext hEW)
  have HEW := Lib.hid hEW
  have HN := Lib.hid hN
  clear hsb h hEW hN
  have HG := Lib.hid hg
  have HLN := Lib.hid hlg
  clear hg hlg
  have hsz' : 1000 < s.length := by simpa [ByteArray.size] using hsz
  have hsz2' : s.length ≤ 4000 := by simpa [ByteArray.size] using hsz2
  have d1 : (1000 : Int) < (s.length : Int) := by omega
  have d2 : (s.length : Int) ≤ 4000 := by omega
  clear hsz hsz2
  go_enter Tryz.func4, Tryz.ntmps4
  go_upto_region 1 with fail
  generalize w.alloc (.cells (sv N.all).toArray 27) = W0 at hR HEW hz1 HPt ⊢
  generalize w.heap.size = B at hR hz1 ⊢
  go_wp2_with fail
  (with_reducible refine (awake_c _).mono ?_)
  rintro e w1 ⟨rfl, hX1⟩
  go_wp2_with fail
  (with_reducible refine (great_c l ao cap _ _ (HPt.out.ext hX1) HG.out).mono ?_)
  rintro e w2 ⟨rfl, hE2⟩
  have hX2 : Ext W0 w2 := hX1.trans hE2
  have HX1 := Lib.hid hX1
  clear hE2 hX1
  have hRR := rangeAt_ext hR hz1 hX2
  go_wp2_with (refine wpList_load_midg (by rfl) 27 _ rfl B 0 rfl (sv N.all) _ hRR Tryz.underlying27 rfl hI ?_)
  (with_reducible refine (long_c N HN.out _ _ HLN.out).mono ?_)
  rintro e w3 ⟨rfl, hE3⟩
  have hX3 : Ext W0 w3 := hX2.trans hE3
  have HX2 := Lib.hid hX2
  clear hE3 hX2 hRR
  go_wp2_with fail
  go_ret
  exact ⟨rfl, HEW.out.trans hX3⟩
set_option maxRecDepth 100000 in
set_option maxHeartbeats 600000 in
theorem parses_w4 (l : List Prt) (ao : Option Addr) (cap : Nat) (N : Nms) (sb : ByteArray) (w : World) (h : PtV ao cap l w) (hN : N.ok) (hsb : sb.size ≤ maxLen) (hg : greatB l = false) (hlg : lngB N = false) (hsz : ¬ 1000 < sb.size) :
    Calls Tryz.prog 4 #[.slice ao l.length cap, .agg (sv N.all).toArray, .string sb] w fun e w' => e = .returned (.bool true) ∧ Ext w w' := by
  obtain ⟨s, rfl⟩ : ∃ s : List UInt8, sb = ⟨s.toArray⟩ := ⟨sb.data.toList, ba_mk sb⟩
  have hsl : s.length ≤ 9223372036854775807 := by unfold maxLen at hsb; simpa [ByteArray.size] using hsb
  have hI := names_size hN
  have hR : (w.alloc (.cells (sv N.all).toArray 27)).rangeAt w.heap.size 0 (sv N.all) := by
    intro j v hv
    rw [Nat.zero_add, World.cell?_alloc_new]
    simpa using hv
  have hEW : Ext w (w.alloc (.cells (sv N.all).toArray 27)) := (Ext.refl w).alloc _
  have hz1 : w.heap.size < (w.alloc (.cells (sv N.all).toArray 27)).heap.size := by simp
  have HPt := Lib.hid (h.ext hEW)
  have HEW := Lib.hid hEW
  have HN := Lib.hid hN
  clear hsb h hEW hN
  have HG := Lib.hid hg
  have Hl := Lib.hid (great_texts hg)
  have HLN := Lib.hid hlg
  have HNl := Lib.hid (long_names hlg)
  clear hg hlg
  have hsz' : ¬ 1000 < s.length := by simpa [ByteArray.size] using hsz
  have d1 : ¬ (1000 : Int) < (s.length : Int) := by omega
  clear hsz
  obtain ⟨a, p, q, z, h1, h2⟩ := parses_both l N s ao cap Hl.out HN.out HNl.out hsl
  have HFM := Lib.hid h1
  have HRM := Lib.hid h2
  clear h1 h2
  go_enter Tryz.func4, Tryz.ntmps4
  go_upto_region 1 with fail
  generalize w.alloc (.cells (sv N.all).toArray 27) = W0 at hR HEW hz1 HPt ⊢
  generalize w.heap.size = B at hR hz1 ⊢
  go_wp2_with fail
  (with_reducible refine (awake_c _).mono ?_)
  rintro e w1 ⟨rfl, hX1⟩
  go_wp2_with fail
  (with_reducible refine (great_c l ao cap _ _ (HPt.out.ext hX1) HG.out).mono ?_)
  rintro e w2 ⟨rfl, hE2⟩
  have hX2 : Ext W0 w2 := hX1.trans hE2
  have HX1 := Lib.hid hX1
  clear hE2 hX1
  have hRR := rangeAt_ext hR hz1 hX2
  go_wp2_with (refine wpList_load_midg (by rfl) 27 _ rfl B 0 rfl (sv N.all) _ hRR Tryz.underlying27 rfl hI ?_)
  (with_reducible refine (long_c N HN.out _ _ HLN.out).mono ?_)
  rintro e w3 ⟨rfl, hE3⟩
  have hX3 : Ext W0 w3 := hX2.trans hE3
  have HX2 := Lib.hid hX2
  clear hE3 hX2 hRR
  have hRR := rangeAt_ext hR hz1 hX3
  go_wp2_with (refine wpList_load_midg (by rfl) 27 _ rfl B 0 rfl (sv N.all) _ hRR Tryz.underlying27 rfl hI ?_)
  (with_reducible refine (HFM.out _ (HPt.out.ext hX3)).mono ?_)
  rintro e w5 ⟨rfl, hE5⟩
  have hX5a : Ext W0 w5 := hX3.trans hE5
  clear hE5 hX3 hRR
  go_upto_region 6 with fail
  have y0 : (w5.alloc (.cells #[.int .i64 p, .int .i64 q] 40)).cell? ⟨w5.heap.size, 0, none⟩ = some (.int .i64 p) := by rw [World.cell?_alloc_new]; rfl
  have y1 : (w5.alloc (.cells #[.int .i64 p, .int .i64 q] 40)).cell? ⟨w5.heap.size, 1, none⟩ = some (.int .i64 q) := by rw [World.cell?_alloc_new]; rfl
  have yz : w5.heap.size < (w5.alloc (.cells #[.int .i64 p, .int .i64 q] 40)).heap.size := by simp
  have hX5 : Ext W0 (w5.alloc (.cells #[.int .i64 p, .int .i64 q] 40)) := hX5a.alloc _
  clear hX5a
  generalize w5.alloc (.cells #[.int .i64 p, .int .i64 q] 40) = V5 at y0 y1 yz hX5 ⊢
  generalize w5.heap.size = D5 at y0 y1 yz ⊢
  have HX5 := Lib.hid hX5
  have HR5 := Lib.hid (rangeAt_ext hR hz1 hX5)
  go_upto_region 7 with (first
    | (go_at_call 11; (with_reducible refine (HRM.out _ (HPt.out.ext HX5.out)).mono ?_); rintro e w6 ⟨rfl, hE6⟩; have z0 := (hE6.cells _ _ yz).trans y0; have z1 := (hE6.cells _ _ yz).trans y1; have zz := hE6.lt yz; have HX6 := Lib.hid (HX5.out.trans hE6); clear hE6 y0 y1 yz)
    | (refine wpList_load_midg (by rfl) 27 _ rfl B 0 rfl (sv N.all) _ HR5.out Tryz.underlying27 rfl hI ?_))
  go_wp2_with fail
  go_ret
  exact ⟨rfl, HEW.out.trans (HX6.out.alloc _)⟩
set_option maxRecDepth 100000 in
set_option maxHeartbeats 600000 in
theorem parses_w5 (l : List Prt) (ao : Option Addr) (cap : Nat) (N : Nms) (sb : ByteArray) (w : World) (h : PtV ao cap l w) (hN : N.ok) (hsb : sb.size ≤ maxLen) (hg : greatB l = false) (hlg : lngB N = false) (hsz : 1000 < sb.size) (hsz2 : ¬ sb.size ≤ 4000) :
    Calls Tryz.prog 4 #[.slice ao l.length cap, .agg (sv N.all).toArray, .string sb] w fun e w' => e = .returned (.bool true) ∧ Ext w w' := by
  obtain ⟨s, rfl⟩ : ∃ s : List UInt8, sb = ⟨s.toArray⟩ := ⟨sb.data.toList, ba_mk sb⟩
  have hsl : s.length ≤ 9223372036854775807 := by unfold maxLen at hsb; simpa [ByteArray.size] using hsb
  have hI := names_size hN
  have hR : (w.alloc (.cells (sv N.all).toArray 27)).rangeAt w.heap.size 0 (sv N.all) := by
    intro j v hv
    rw [Nat.zero_add, World.cell?_alloc_new]
    simpa using hv
  have hEW : Ext w (w.alloc (.cells (sv N.all).toArray 27)) := (Ext.refl w).alloc _
  have hz1 : w.heap.size < (w.alloc (.cells (sv N.all).toArray 27)).heap.size := by simp
  have HPt := Lib.hid (h.ext hEW)
  have HEW := Lib.hid hEW
  have HN := Lib.hid hN
  clear hsb h hEW hN
  have HG := Lib.hid hg
  have Hl := Lib.hid (great_texts hg)
  have HLN := Lib.hid hlg
  have HNl := Lib.hid (long_names hlg)
  clear hg hlg
  have hsz' : 1000 < s.length := by simpa [ByteArray.size] using hsz
  have hsz2' : ¬ s.length ≤ 4000 := by simpa [ByteArray.size] using hsz2
  have d1 : (1000 : Int) < (s.length : Int) := by omega
  have d2 : ¬ (s.length : Int) ≤ 4000 := by omega
  clear hsz hsz2
  obtain ⟨a, p, q, z, h1, h2⟩ := parses_both l N s ao cap Hl.out HN.out HNl.out hsl
  have HFM := Lib.hid h1
  have HRM := Lib.hid h2
  clear h1 h2
  go_enter Tryz.func4, Tryz.ntmps4
  go_upto_region 1 with fail
  generalize w.alloc (.cells (sv N.all).toArray 27) = W0 at hR HEW hz1 HPt ⊢
  generalize w.heap.size = B at hR hz1 ⊢
  go_wp2_with fail
  (with_reducible refine (awake_c _).mono ?_)
  rintro e w1 ⟨rfl, hX1⟩
  go_wp2_with fail
  (with_reducible refine (great_c l ao cap _ _ (HPt.out.ext hX1) HG.out).mono ?_)
  rintro e w2 ⟨rfl, hE2⟩
  have hX2 : Ext W0 w2 := hX1.trans hE2
  have HX1 := Lib.hid hX1
  clear hE2 hX1
  have hRR := rangeAt_ext hR hz1 hX2
  go_wp2_with (refine wpList_load_midg (by rfl) 27 _ rfl B 0 rfl (sv N.all) _ hRR Tryz.underlying27 rfl hI ?_)
  (with_reducible refine (long_c N HN.out _ _ HLN.out).mono ?_)
  rintro e w3 ⟨rfl, hE3⟩
  have hX3 : Ext W0 w3 := hX2.trans hE3
  have HX2 := Lib.hid hX2
  clear hE3 hX2 hRR
  have hRR := rangeAt_ext hR hz1 hX3
  go_wp2_with (refine wpList_load_midg (by rfl) 27 _ rfl B 0 rfl (sv N.all) _ hRR Tryz.underlying27 rfl hI ?_)
  (with_reducible refine (HFM.out _ (HPt.out.ext hX3)).mono ?_)
  rintro e w5 ⟨rfl, hE5⟩
  have hX5a : Ext W0 w5 := hX3.trans hE5
  clear hE5 hX3 hRR
  go_upto_region 6 with fail
  have y0 : (w5.alloc (.cells #[.int .i64 p, .int .i64 q] 40)).cell? ⟨w5.heap.size, 0, none⟩ = some (.int .i64 p) := by rw [World.cell?_alloc_new]; rfl
  have y1 : (w5.alloc (.cells #[.int .i64 p, .int .i64 q] 40)).cell? ⟨w5.heap.size, 1, none⟩ = some (.int .i64 q) := by rw [World.cell?_alloc_new]; rfl
  have yz : w5.heap.size < (w5.alloc (.cells #[.int .i64 p, .int .i64 q] 40)).heap.size := by simp
  have hX5 : Ext W0 (w5.alloc (.cells #[.int .i64 p, .int .i64 q] 40)) := hX5a.alloc _
  clear hX5a
  generalize w5.alloc (.cells #[.int .i64 p, .int .i64 q] 40) = V5 at y0 y1 yz hX5 ⊢
  generalize w5.heap.size = D5 at y0 y1 yz ⊢
  have HX5 := Lib.hid hX5
  have HR5 := Lib.hid (rangeAt_ext hR hz1 hX5)
  go_upto_region 7 with (first
    | (go_at_call 11; (with_reducible refine (HRM.out _ (HPt.out.ext HX5.out)).mono ?_); rintro e w6 ⟨rfl, hE6⟩; have z0 := (hE6.cells _ _ yz).trans y0; have z1 := (hE6.cells _ _ yz).trans y1; have zz := hE6.lt yz; have HX6 := Lib.hid (HX5.out.trans hE6); clear hE6 y0 y1 yz)
    | (refine wpList_load_midg (by rfl) 27 _ rfl B 0 rfl (sv N.all) _ HR5.out Tryz.underlying27 rfl hI ?_))
  go_wp2_with fail
  go_ret
  exact ⟨rfl, HEW.out.trans (HX6.out.alloc _)⟩
theorem parses_walk (l : List Prt) (ao : Option Addr) (cap : Nat) (N : Nms) (sb : ByteArray) (w : World) (h : PtV ao cap l w) (hN : N.ok) (hsb : sb.size ≤ maxLen) :
    Calls Tryz.prog 4 #[.slice ao l.length cap, .agg (sv N.all).toArray, .string sb] w fun e w' => e = .returned (.bool true) ∧ Ext w w' := by
  rcases Bool.eq_false_or_eq_true (greatB l) with hg | hg
  · exact parses_w1 l ao cap N sb w h hN hsb hg
  · rcases Bool.eq_false_or_eq_true (lngB N) with hlg | hlg
    · exact parses_w2 l ao cap N sb w h hN hsb hg hlg
    · by_cases h1 : 1000 < sb.size
      · by_cases h2 : sb.size ≤ 4000
        · exact parses_w3 l ao cap N sb w h hN hsb hg hlg h1 h2
        · exact parses_w5 l ao cap N sb w h hN hsb hg hlg h1 h2
      · exact parses_w4 l ao cap N sb w h hN hsb hg hlg h1
end Go.Proofs.YticckkadmhklmaaGreat
