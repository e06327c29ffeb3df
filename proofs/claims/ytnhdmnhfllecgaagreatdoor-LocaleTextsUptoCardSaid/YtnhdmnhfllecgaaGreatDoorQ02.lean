/- The walks of the reader of words: numbers. -/
import Derived.Test.YtnhdmnhfllecgaaGreatDoorQ01
namespace Go.Proofs.YtnhdmnhfllecgaaGreatDoor
set_option linter.unusedVariables false
set_option linter.unusedSimpArgs false
open Go.RowKit

theorem frm_ext {S : Nat → Prop} {a b c : World} (h : Ext a b) (k : Frm S b c) : Frm S a c := (Frm.of_ext h).trans k
set_option maxRecDepth 100000 in
set_option maxHeartbeats 1000000 in
theorem number_no (B : Nat) (ws : List (List UInt8)) (n : Int) (b : Bool) (s : List UInt8) (w : World) (h : WS B ws n b w) (hl : s.length ≤ 7000) (hno : s.length < 1 ∨ 9 < s.length) :
    Calls Tryz.prog 173 #[.pointer (some ⟨B, 0, none⟩), .string ⟨s.toArray⟩] w fun e w' => e = .returned (.int .i64 0) ∧ WS B ws n false w' ∧ Frm (At B) w w' := by
  have H := Lib.hid h
  have c2 := h.fail
  have f2 := h.free 2
  have hB := h.lt
  clear h
  by_cases h1 : s.length < 1
  · have d1 : decide ((s.length : Int) < 1) = true := by simp; omega
    clear hno
    go_enter Tryz.func173, Tryz.ntmps173
    go_wp2
    go_ret
    exact ⟨rfl, H.out.bad, frm_at _ _ _ _⟩
  · have d1 : decide ((s.length : Int) < 1) = false := by simp; omega
    have d2 : decide (9 < (s.length : Int)) = true := by simp; omega
    clear hno
    go_enter Tryz.func173, Tryz.ntmps173
    go_wp2
    go_ret
    exact ⟨rfl, H.out.bad, frm_at _ _ _ _⟩
set_option maxRecDepth 100000 in
set_option maxHeartbeats 1000000 in
theorem number_zero (B : Nat) (ws : List (List UInt8)) (n : Int) (b : Bool) (s : List UInt8) (w : World) (h : WS B ws n b w) (h1 : 1 < s.length) (h2 : s.length ≤ 9) (hz : s.head? = some 48) :
    Calls Tryz.prog 173 #[.pointer (some ⟨B, 0, none⟩), .string ⟨s.toArray⟩] w fun e w' => e = .returned (.int .i64 0) ∧ WS B ws n false w' ∧ Frm (At B) w w' := by
  have H := Lib.hid h
  have c2 := h.fail
  have f2 := h.free 2
  have hB := h.lt
  clear h
  have h0 : 0 < s.length := by omega
  have hs0 : s[0] = 48 := by
    rw [List.head?_eq_getElem?, List.getElem?_eq_getElem h0] at hz
    exact Option.some.inj hz
  have b0 := bget s 0 h0 48 hs0.symm
  have d1 : decide ((s.length : Int) < 1) = false := by simp; omega
  have d2 : decide (9 < (s.length : Int)) = false := by simp; omega
  have d3 : decide (1 < (s.length : Int)) = true := by simp; omega
  clear hz hs0
  go_enter Tryz.func173, Tryz.ntmps173
  go_wp2
  go_ret
  exact ⟨rfl, H.out.bad, frm_at _ _ _ _⟩
set_option maxRecDepth 100000 in
set_option maxHeartbeats 1000000 in
theorem number_bad (B : Nat) (ws : List (List UInt8)) (n : Int) (b : Bool) (s : List UInt8) (w : World) (h : WS B ws n b w) (h1 : 1 ≤ s.length) (h2 : s.length ≤ 9) (hz : ¬ (s.head? = some 48 ∧ 1 < s.length)) (ha : s.all isDg = false) :
    Calls Tryz.prog 173 #[.pointer (some ⟨B, 0, none⟩), .string ⟨s.toArray⟩] w fun e w' => e = .returned (.int .i64 0) ∧ WS B ws n false w' ∧ Frm (At B) w w' := by
  have H := Lib.hid h
  have c2 := h.fail
  have f2 := h.free 2
  have hB := h.lt
  clear h
  have h0 : 0 < s.length := by omega
  obtain ⟨c, hc⟩ : ∃ c, c = s[0] := ⟨_, rfl⟩
  have b0 := bget s 0 h0 c hc
  have d1 : decide ((s.length : Int) < 1) = false := by simp; omega
  have d2 : decide (9 < (s.length : Int)) = false := by simp; omega
  have t1 : (Lib.trimS s digs).isEmpty = s.all isDg := trim_digs s
  rw [ha] at t1
  have hcz : ¬ (c = 48 ∧ 1 < s.length) := by
    rintro ⟨q1, q2⟩
    refine hz ⟨?_, q2⟩
    rw [List.head?_eq_getElem?, List.getElem?_eq_getElem h0, ← hc, q1]
  clear hc hz
  by_cases hl1 : 1 < s.length
  · have d3 : decide (1 < (s.length : Int)) = true := by simp; omega
    have q1 : ((c.toNat : Int) == 48) = false := by
      rw [beq_eq_false_iff_ne]; intro e; exact hcz ⟨UInt8.toNat_inj.1 (by show c.toNat = 48; omega), hl1⟩
    clear hcz
    go_enter Tryz.func173, Tryz.ntmps173
    go_wp2_with (go_at_call 95; (with_reducible refine (trim_c s _ (by omega)).mono ?_); rintro e w1 ⟨rfl, hE1⟩; have k2 := (hE1.cells _ _ hB).trans c2; have g2 := (hE1.frozens _ _ hB).trans f2; have z2 := hE1.lt hB)
    go_ret
    exact ⟨rfl, (H.out.frm hE1).bad, frm_ext hE1 (frm_at _ _ _ _)⟩
  · have d3 : decide (1 < (s.length : Int)) = false := by simp; omega
    clear hcz
    by_cases q1 : ((c.toNat : Int) == 48) = true
    · go_enter Tryz.func173, Tryz.ntmps173
      go_wp2_with (go_at_call 95; (with_reducible refine (trim_c s _ (by omega)).mono ?_); rintro e w1 ⟨rfl, hE1⟩; have k2 := (hE1.cells _ _ hB).trans c2; have g2 := (hE1.frozens _ _ hB).trans f2; have z2 := hE1.lt hB)
      go_ret
      exact ⟨rfl, (H.out.frm hE1).bad, frm_ext hE1 (frm_at _ _ _ _)⟩
    · have q1 : ((c.toNat : Int) == 48) = false := by simpa using q1
      go_enter Tryz.func173, Tryz.ntmps173
      go_wp2_with (go_at_call 95; (with_reducible refine (trim_c s _ (by omega)).mono ?_); rintro e w1 ⟨rfl, hE1⟩; have k2 := (hE1.cells _ _ hB).trans c2; have g2 := (hE1.frozens _ _ hB).trans f2; have z2 := hE1.lt hB)
      go_ret
      exact ⟨rfl, (H.out.frm hE1).bad, frm_ext hE1 (frm_at _ _ _ _)⟩
set_option maxRecDepth 100000 in
set_option maxHeartbeats 1000000 in
theorem number_good (B : Nat) (ws : List (List UInt8)) (n : Int) (b : Bool) (s : List UInt8) (w : World) (h : WS B ws n b w) (h1 : 1 ≤ s.length) (h2 : s.length ≤ 9) (hz : ¬ (s.head? = some 48 ∧ 1 < s.length)) (ha : s.all isDg = true) :
    Calls Tryz.prog 173 #[.pointer (some ⟨B, 0, none⟩), .string ⟨s.toArray⟩] w fun e w' => e = .returned (.int .i64 (val s : Nat)) ∧ WS B ws n b w' ∧ Frm (At B) w w' := by
  have HA := Lib.hid (fun c (hc : c ∈ s) => List.all_eq_true.1 ha c hc)
  have H := Lib.hid h
  have c2 := h.fail
  have f2 := h.free 2
  have hB := h.lt
  clear h
  have h0 : 0 < s.length := by omega
  obtain ⟨c, hc⟩ : ∃ c, c = s[0] := ⟨_, rfl⟩
  have b0 := bget s 0 h0 c hc
  have d1 : decide ((s.length : Int) < 1) = false := by simp; omega
  have d2 : decide (9 < (s.length : Int)) = false := by simp; omega
  have t1 : (Lib.trimS s digs).isEmpty = s.all isDg := trim_digs s
  rw [ha] at t1
  have hcz : ¬ (c = 48 ∧ 1 < s.length) := by
    rintro ⟨q1, q2⟩
    refine hz ⟨?_, q2⟩
    rw [List.head?_eq_getElem?, List.getElem?_eq_getElem h0, ← hc, q1]
  clear hc hz
  by_cases hl1 : 1 < s.length
  · have d3 : decide (1 < (s.length : Int)) = true := by simp; omega
    have q1 : ((c.toNat : Int) == 48) = false := by
      rw [beq_eq_false_iff_ne]; intro e; exact hcz ⟨UInt8.toNat_inj.1 (by show c.toNat = 48; omega), hl1⟩
    clear hcz
    go_enter Tryz.func173, Tryz.ntmps173
    go_wp2_with (first
      | (go_at_call 95; (with_reducible refine (trim_c s _ (by omega)).mono ?_); rintro e w1 ⟨rfl, hE1⟩)
      | (go_at_call 96; (with_reducible refine (atoi_c s _ (by omega) (by omega) HA.out).mono ?_); rintro e w2 ⟨rfl, hE2⟩))
    go_ret
    exact ⟨rfl, H.out.frm (hE1.trans hE2), Frm.of_ext (hE1.trans hE2)⟩
  · have d3 : decide (1 < (s.length : Int)) = false := by simp; omega
    clear hcz
    by_cases q1 : ((c.toNat : Int) == 48) = true
    · go_enter Tryz.func173, Tryz.ntmps173
      go_wp2_with (first
        | (go_at_call 95; (with_reducible refine (trim_c s _ (by omega)).mono ?_); rintro e w1 ⟨rfl, hE1⟩)
        | (go_at_call 96; (with_reducible refine (atoi_c s _ (by omega) (by omega) HA.out).mono ?_); rintro e w2 ⟨rfl, hE2⟩))
      go_ret
      exact ⟨rfl, H.out.frm (hE1.trans hE2), Frm.of_ext (hE1.trans hE2)⟩
    · have q1 : ((c.toNat : Int) == 48) = false := by simpa using q1
      go_enter Tryz.func173, Tryz.ntmps173
      go_wp2_with (first
        | (go_at_call 95; (with_reducible refine (trim_c s _ (by omega)).mono ?_); rintro e w1 ⟨rfl, hE1⟩)
        | (go_at_call 96; (with_reducible refine (atoi_c s _ (by omega) (by omega) HA.out).mono ?_); rintro e w2 ⟨rfl, hE2⟩))
      go_ret
      exact ⟨rfl, H.out.frm (hE1.trans hE2), Frm.of_ext (hE1.trans hE2)⟩
theorem numB_iff (s : List UInt8) : numB s = true ↔ 1 ≤ s.length ∧ s.length ≤ 9 ∧ ¬ (s.head? = some 48 ∧ 1 < s.length) ∧ s.all isDg = true := by
  unfold numB
  simp only [Bool.and_eq_true, decide_eq_true_eq, Bool.not_eq_true', Bool.and_eq_false_iff, beq_eq_false_iff_ne, decide_eq_false_iff_not, ne_eq]
  constructor
  · rintro ⟨⟨⟨a, b⟩, c⟩, d⟩
    exact ⟨a, b, fun ⟨q1, q2⟩ => by rcases c with c | c; exact c q1; exact c q2, d⟩
  · rintro ⟨a, b, c, d⟩
    refine ⟨⟨⟨a, b⟩, ?_⟩, d⟩
    by_cases q : s.head? = some 48
    · exact .inr (fun q2 => c ⟨q, q2⟩)
    · exact .inl q
theorem number_w (B : Nat) (ws : List (List UInt8)) (n : Int) (b : Bool) (s : List UInt8) (w : World) (h : WS B ws n b w) (hl : s.length ≤ 7000) :
    Calls Tryz.prog 173 #[.pointer (some ⟨B, 0, none⟩), .string ⟨s.toArray⟩] w fun e w' => e = .returned (.int .i64 (numN s : Nat)) ∧ WS B ws n (b && numB s) w' ∧ Frm (At B) w w' := by
  rcases Bool.eq_false_or_eq_true (numB s) with hb | hb
  · obtain ⟨h1, h2, h3, h4⟩ := (numB_iff s).1 hb
    unfold numN
    rw [hb, if_pos rfl, Bool.and_true]
    exact number_good B ws n b s w h h1 h2 h3 h4
  · unfold numN
    rw [hb, if_neg (by simp), Bool.and_false]
    have hn : ¬ (1 ≤ s.length ∧ s.length ≤ 9 ∧ ¬ (s.head? = some 48 ∧ 1 < s.length) ∧ s.all isDg = true) := by
      rw [← numB_iff, hb]; simp
    by_cases h1 : s.length < 1 ∨ 9 < s.length
    · exact number_no B ws n b s w h hl h1
    · by_cases h3 : s.head? = some 48 ∧ 1 < s.length
      · exact number_zero B ws n b s w h h3.2 (by omega) h3.1
      · refine number_bad B ws n b s w h (by omega) (by omega) h3 ?_
        rw [← Bool.not_eq_true]
        intro h4
        exact hn ⟨by omega, by omega, h3, h4⟩
end Go.Proofs.YtnhdmnhfllecgaaGreatDoor
/- The walks of the reader of words: lists. -/
namespace Go.Proofs.YtnhdmnhfllecgaaGreatDoor
set_option linter.unusedVariables false
set_option linter.unusedSimpArgs false
open Go.RowKit

/-- The library's variable MaxLen holds some number. -/
def Lm (w : World) : Prop := ∃ m : Int, w.cell? ⟨0, 0, none⟩ = some (.int .i64 m)
theorem Lm.lt {w : World} (h : Lm w) : 0 < w.heap.size := by
  obtain ⟨m, hm⟩ := h
  exact World.block_lt_of_cell? _ _ hm
theorem Lm.frm {w w' : World} {S : Nat → Prop} (h : Lm w) (hF : Frm S w w') (hS : ¬ S 0) : Lm w' := by
  obtain ⟨m, hm⟩ := h
  exact ⟨m, (hF.cel (World.block_lt_of_cell? _ _ hm) hS 0).trans hm⟩
theorem Lm.ext {w w' : World} (h : Lm w) (hE : Ext w w') : Lm w' := by
  obtain ⟨m, hm⟩ := h
  exact ⟨m, (hE.cells _ _ (World.block_lt_of_cell? _ _ hm)).trans hm⟩
theorem split_c (s : List UInt8) (c : UInt8) (w : World) (hm : Lm w) (hs : s.length ≤ 100000) :
    Calls Tryz.prog 16 #[.string ⟨s.toArray⟩, .string ⟨#[c]⟩] w fun e w' => e = .returned (.slice (some ⟨w.heap.size, 0, none⟩) (spl c s).length (spl c s).length) ∧ w' = w.alloc (.cells ((spl c s).map fun l => Value.string ⟨l.toArray⟩).toArray 9) := by
  obtain ⟨m, hm⟩ := hm
  refine (Tryz.strings_Split ⟨s.toArray⟩ ⟨#[c]⟩ m w (by show s.toArray.size < _; simp; omega) hm (Nat.le_refl 1)).mono ?_
  rintro e w' ⟨rfl, rfl⟩
  rw [split_count, split_vals]
  exact ⟨rfl, rfl⟩
theorem cut2_c (s a b : List UInt8) (t : Bool) (w : World) (hm : Lm w) (hs : s.length ≤ 100000) (hc : Lib.cut s [46, 46] = (a, b, t)) :
    Calls Tryz.prog 47 #[.string ⟨s.toArray⟩, .string ⟨#[46, 46]⟩] w fun e w' => e = .returned (.tuple #[.string ⟨a.toArray⟩, .string ⟨b.toArray⟩, .bool t]) ∧ ∃ n, w.drewN n = w' := by
  obtain ⟨m, hm⟩ := hm
  refine (Tryz.strings_Cut ⟨s.toArray⟩ ⟨#[46, 46]⟩ m w (by show s.toArray.size < _; simp; omega) hm).mono ?_
  rintro e w' ⟨rfl, nq, rfl⟩
  have hc' : Lib.cut (⟨s.toArray⟩ : ByteArray).data.toList (⟨#[46, 46]⟩ : ByteArray).data.toList = (a, b, t) := hc
  rw [hc']
  exact ⟨rfl, nq, rfl⟩
theorem cut_len (s sep : List UInt8) : (Lib.cut s sep).1.length ≤ s.length ∧ (Lib.cut s sep).2.1.length ≤ s.length := by
  unfold Lib.cut
  split
  · simp only [List.length_take, List.length_drop]; omega
  · simp
theorem spl_len (c : UInt8) (l : List UInt8) : ∀ x ∈ spl c l, x.length ≤ l.length := by
  induction l with
  | nil => simp [spl]
  | cons d r ih =>
    intro x hx
    by_cases hd : d = c
    · rw [spl, if_pos hd] at hx
      rcases List.mem_cons.1 hx with rfl | hx
      · simp
      · have := ih x hx; simp; omega
    · obtain ⟨y, t, e1, e2⟩ := spl_cons c d r hd
      rw [e2] at hx
      rw [e1] at ih
      rcases List.mem_cons.1 hx with rfl | hx
      · have := ih y (by simp); simp; omega
      · have := ih x (by simp [hx]); simp; omega
theorem spl_count (c : UInt8) (l : List UInt8) : (spl c l).length ≤ l.length + 1 := by
  induction l with
  | nil => simp [spl]
  | cons d r ih =>
    by_cases hd : d = c
    · rw [spl, if_pos hd]; simp; omega
    · obtain ⟨y, t, e1, e2⟩ := spl_cons c d r hd
      rw [e2]
      rw [e1] at ih
      simp at ih ⊢; omega
theorem any_succ {α : Type} (P : List α) (f : α → Bool) (j : Nat) (h : j < P.length) : (P.take (j + 1)).any f = ((P.take j).any f || f P[j]) := by
  rw [List.take_succ_eq_append_getElem h, List.any_append]; simp
theorem all_succ {α : Type} (P : List α) (f : α → Bool) (j : Nat) (h : j < P.length) : (P.take (j + 1)).all f = ((P.take j).all f && f P[j]) := by
  rw [List.take_succ_eq_append_getElem h, List.all_append]; simp
theorem hd1_short {ws : List (List UInt8)} (h : ∀ x ∈ ws, x.length ≤ 7000) : (hd1 ws).length ≤ 7000 := by
  cases ws with
  | nil => simp [hd1]
  | cons x r => exact h x (by simp)
set_option maxRecDepth 100000 in
set_option maxHeartbeats 2000000 in
theorem list_c (B : Nat) (ws : List (List UInt8)) (n : Int) (b : Bool) (k : Nat) (w : World) (h : WS B ws n b w) (hm : Lm w) (hG : 0 ≠ B) :
    Calls Tryz.prog 167 #[.pointer (some ⟨B, 0, none⟩), .int .i64 (k : Int)] w fun e w' => e = .returned (.bool (inList k (hd1 ws))) ∧ WS B (tl1 ws) n (b && listB (hd1 ws)) w' ∧ Frm (At B) w w' := by
  have H := Lib.hid h
  have Hm := Lib.hid hm
  have hs0 := hd1_short h.short
  clear h hm
  go_enter Tryz.func167, Tryz.ntmps167
  go_wp2_with (first
    | (go_at_call 166; refine (next_c B ws n b _ H.out).mono ?_; rintro e w1 ⟨rfl, h1, hF1⟩; have H1 := Lib.hid h1; clear h1; have Hm1 := Lib.hid (Hm.out.frm hF1 hG))
    | (go_at_call 16; (with_reducible refine (split_c (hd1 ws) 44 _ Hm1.out (by omega)).mono ?_); rintro e w2 ⟨rfl, rfl⟩))
  have hPl := spl_len 44 (hd1 ws)
  have hPc := spl_count 44 (hd1 ws)
  have Hin : Hid (inList k (hd1 ws) = (spl 44 (hd1 ws)).any (inIt k)) := rfl
  have Hal : Hid (listB (hd1 ws) = (spl 44 (hd1 ws)).all itB) := rfl
  have hne : w1.heap.size ≠ B := by have := H1.out.lt; omega
  have hcell : ∀ i (hi : i < (spl 44 (hd1 ws)).length), (w1.alloc (.cells ((spl 44 (hd1 ws)).map fun l => Value.string ⟨l.toArray⟩).toArray 9)).cell? ⟨w1.heap.size, i, none⟩ = some (.string ⟨((spl 44 (hd1 ws))[i]).toArray⟩) := by
    intro i hi
    rw [World.cell?_alloc_new]
    simp [hi]
  have hF2 : Frm (At B) w (w1.alloc (.cells ((spl 44 (hd1 ws)).map fun l => Value.string ⟨l.toArray⟩).toArray 9)) := hF1.alloc _
  have H2 := Lib.hid (H1.out.frm ((Ext.refl w1).alloc (.cells ((spl 44 (hd1 ws)).map fun l => Value.string ⟨l.toArray⟩).toArray 9)))
  have Hm2 := Lib.hid (Hm1.out.ext ((Ext.refl w1).alloc (.cells ((spl 44 (hd1 ws)).map fun l => Value.string ⟨l.toArray⟩).toArray 9)))
  have hR : w1.heap.size < (w1.alloc (.cells ((spl 44 (hd1 ws)).map fun l => Value.string ⟨l.toArray⟩).toArray 9)).heap.size := by simp
  have Hcell := Lib.hid hcell
  generalize w1.alloc (.cells ((spl 44 (hd1 ws)).map fun l => Value.string ⟨l.toArray⟩).toArray 9) = W2 at hF2 H2 Hm2 hR Hcell ⊢
  generalize w1.heap.size = R at hne hR Hcell ⊢
  clear hcell
  generalize spl 44 (hd1 ws) = P at hPl hPc Hin Hal Hcell ⊢
  have HPl := Lib.hid hPl
  clear hPl
  go_loopw [5, 17] (fun fo i wr => ∃ j : Nat, j ≤ P.length ∧ i = .int .i64 (j : Int) ∧ fo = .bool ((P.take j).any (inIt k)) ∧ Hid (WS B (tl1 ws) n (b && (P.take j).all itB) wr) ∧ Frm (At B) W2 wr) (fun _ i _ => P.length - (intOf i).toNat)
  case atStart => exact ⟨0, Nat.zero_le _, rfl, rfl, by simpa using H2, Frm.refl _ _⟩
  case round =>
    obtain ⟨j, hj, rfl, rfl, hr, hFr⟩ := hrel
    by_cases hlt : j < P.length
    · have hsj := HPl.out P[j] (List.getElem_mem _)
      have hce := (hFr.cel hR hne j).trans (Hcell.out j hlt)
      have Hany := Lib.hid (any_succ P (inIt k) j hlt)
      have Hall := Lib.hid (all_succ P itB j hlt)
      obtain ⟨s, hs⟩ : ∃ s, s = P[j] := ⟨_, rfl⟩
      rw [← hs] at hsj hce Hany Hall
      clear hs
      obtain ⟨ca, cb, t, hcut⟩ : ∃ ca cb t, Lib.cut s [46, 46] = (ca, cb, t) := ⟨_, _, _, rfl⟩
      have hcl := cut_len s [46, 46]
      rw [hcut] at hcl
      obtain ⟨hcl1, hcl2⟩ := hcl
      have hcl1 : ca.length ≤ s.length := hcl1
      have hcl2 : cb.length ≤ s.length := hcl2
      have Hcut := Lib.hid hcut
      have HIt : Hid (∀ z, inIt z s = decide (numN ca ≤ z ∧ z ≤ if t then numN cb else numN ca)) := by
        intro z; unfold inIt itHi itLo; rw [hcut]
      have HIb : Hid (itB s = (numB ca && (!t || numB cb))) := by unfold Hid itB; rw [hcut]
      clear hcut
      have Hmr := Lib.hid (Hm2.out.frm hFr hG)
      generalize hfo : (P.take j).any (inIt k) = fo at Hany ⊢
      clear hfo
      generalize hbo : (P.take j).all itB = bo at hr Hall
      clear hbo
      by_cases hlo : numN ca ≤ k
      · have d1 : decide ((numN ca : Int) ≤ (k : Int)) = true := by simp; omega
        cases t
        · cases fo
          all_goals
            go_wp2_with (first
              | (go_at_call 47; (with_reducible refine (cut2_c s ca cb _ _ Hmr.out (by omega) Hcut.out).mono ?_); rintro e w3 ⟨rfl, nq, rfl⟩)
              | (go_at_call 173; (with_reducible refine (number_w B (tl1 ws) n _ ca _ (hr.out.frm ((Ext.refl _).drewN _)) (by omega)).mono ?_); rintro e w4 ⟨rfl, h3, hF3⟩)
              | (go_at_call 173; (with_reducible refine (number_w B (tl1 ws) n _ cb _ h3 (by omega)).mono ?_); rintro e w5 ⟨rfl, h4, hF4⟩))
            go_roundw
            case rel => exact ⟨j + 1, by omega, by go_num, congrArg Value.bool (by rw [Hany.out, HIt.out]; simp <;> omega), (by rw [Hid, Hall.out, HIb.out]; simpa [Bool.and_assoc] using h3), hFr.trans (frm_ext ((Ext.refl _).drewN _) hF3)⟩
            case measure => simp [intOf]; omega
        · cases fo
          all_goals
            go_wp2_with (first
              | (go_at_call 47; (with_reducible refine (cut2_c s ca cb _ _ Hmr.out (by omega) Hcut.out).mono ?_); rintro e w3 ⟨rfl, nq, rfl⟩)
              | (go_at_call 173; (with_reducible refine (number_w B (tl1 ws) n _ ca _ (hr.out.frm ((Ext.refl _).drewN _)) (by omega)).mono ?_); rintro e w4 ⟨rfl, h3, hF3⟩)
              | (go_at_call 173; (with_reducible refine (number_w B (tl1 ws) n _ cb _ h3 (by omega)).mono ?_); rintro e w5 ⟨rfl, h4, hF4⟩))
            go_roundw
            case rel => exact ⟨j + 1, by omega, by go_num, congrArg Value.bool (by rw [Hany.out, HIt.out]; simp <;> omega), (by rw [Hid, Hall.out, HIb.out]; simpa [Bool.and_assoc] using h4), hFr.trans ((frm_ext ((Ext.refl _).drewN _) hF3).trans hF4)⟩
            case measure => simp [intOf]; omega
      · have d1 : decide ((numN ca : Int) ≤ (k : Int)) = false := by simp; omega
        cases t
        · cases fo
          all_goals
            go_wp2_with (first
              | (go_at_call 47; (with_reducible refine (cut2_c s ca cb _ _ Hmr.out (by omega) Hcut.out).mono ?_); rintro e w3 ⟨rfl, nq, rfl⟩)
              | (go_at_call 173; (with_reducible refine (number_w B (tl1 ws) n _ ca _ (hr.out.frm ((Ext.refl _).drewN _)) (by omega)).mono ?_); rintro e w4 ⟨rfl, h3, hF3⟩)
              | (go_at_call 173; (with_reducible refine (number_w B (tl1 ws) n _ cb _ h3 (by omega)).mono ?_); rintro e w5 ⟨rfl, h4, hF4⟩))
            go_roundw
            case rel => exact ⟨j + 1, by omega, by go_num, congrArg Value.bool (by rw [Hany.out, HIt.out]; simp <;> omega), (by rw [Hid, Hall.out, HIb.out]; simpa [Bool.and_assoc] using h3), hFr.trans (frm_ext ((Ext.refl _).drewN _) hF3)⟩
            case measure => simp [intOf]; omega
        · cases fo
          all_goals
            go_wp2_with (first
              | (go_at_call 47; (with_reducible refine (cut2_c s ca cb _ _ Hmr.out (by omega) Hcut.out).mono ?_); rintro e w3 ⟨rfl, nq, rfl⟩)
              | (go_at_call 173; (with_reducible refine (number_w B (tl1 ws) n _ ca _ (hr.out.frm ((Ext.refl _).drewN _)) (by omega)).mono ?_); rintro e w4 ⟨rfl, h3, hF3⟩)
              | (go_at_call 173; (with_reducible refine (number_w B (tl1 ws) n _ cb _ h3 (by omega)).mono ?_); rintro e w5 ⟨rfl, h4, hF4⟩))
            go_roundw
            case rel => exact ⟨j + 1, by omega, by go_num, congrArg Value.bool (by rw [Hany.out, HIt.out]; simp <;> omega), (by rw [Hid, Hall.out, HIb.out]; simpa [Bool.and_assoc] using h4), hFr.trans ((frm_ext ((Ext.refl _).drewN _) hF3).trans hF4)⟩
            case measure => simp [intOf]; omega
    · obtain rfl : j = P.length := by omega
      rw [List.take_length] at hr ⊢
      go_wp2
      go_ret
      exact ⟨ret_b (by rw [Hin.out]), by rw [Hal.out]; exact hr.out, hF2.trans hFr⟩
end Go.Proofs.YtnhdmnhfllecgaaGreatDoor
