/- The walks of the reader of words: numbers. -/
import Derived.Test.YtbagbnceiadpdaaDoorWrd
namespace Go.Proofs.YtbagbnceiadpdaaDoor
set_option linter.unusedVariables false
set_option linter.unusedSimpArgs false
open Go.RowKit

theorem frm_ext {S : Nat → Prop} {a b c : World} (h : Ext a b) (k : Frm S b c) : Frm S a c := (Frm.of_ext h).trans k
set_option maxRecDepth 100000 in
set_option maxHeartbeats 1000000 in
theorem number_no (B : Nat) (ws : List (List UInt8)) (n : Int) (b : Bool) (s : List UInt8) (w : World) (h : WS B ws n b w) (hl : s.length ≤ 4000) (hno : s.length < 1 ∨ 9 < s.length) :
    Calls Tryd.prog 67 #[.pointer (some ⟨B, 0, none⟩), .string ⟨s.toArray⟩] w fun e w' => e = .returned (.int .i64 0) ∧ WS B ws n false w' ∧ Frm (At B) w w' := by
  have H := Lib.hid h
  have c2 := h.fail
  have f2 := h.free 2
  have hB := h.lt
  clear h
  by_cases h1 : s.length < 1
  · have d1 : decide ((s.length : Int) < 1) = true := by simp; omega
    clear hno
    go_enter Tryd.func67, Tryd.ntmps67
    go_wp2
    go_ret
    exact ⟨rfl, H.out.bad, frm_at _ _ _ _⟩
  · have d1 : decide ((s.length : Int) < 1) = false := by simp; omega
    have d2 : decide (9 < (s.length : Int)) = true := by simp; omega
    clear hno
    go_enter Tryd.func67, Tryd.ntmps67
    go_wp2
    go_ret
    exact ⟨rfl, H.out.bad, frm_at _ _ _ _⟩
set_option maxRecDepth 100000 in
set_option maxHeartbeats 1000000 in
theorem number_zero (B : Nat) (ws : List (List UInt8)) (n : Int) (b : Bool) (s : List UInt8) (w : World) (h : WS B ws n b w) (h1 : 1 < s.length) (h2 : s.length ≤ 9) (hz : s.head? = some 48) :
    Calls Tryd.prog 67 #[.pointer (some ⟨B, 0, none⟩), .string ⟨s.toArray⟩] w fun e w' => e = .returned (.int .i64 0) ∧ WS B ws n false w' ∧ Frm (At B) w w' := by
  have H := Lib.hid h
  have c2 := h.fail
  have f2 := h.free 2
  have hB := h.lt
  clear h
  have h0 : 0 < s.length := by omega
  have hs0 : s[0] = 48 := by
    rw [List.head?_eq_getElem?, List.getElem?_eq_getElem h0] at hz
    exact Option.some.inj hz
  have b0 := bget s 0 h0 48 hs0.symm
  have d1 : decide ((s.length : Int) < 1) = false := by simp; omega
  have d2 : decide (9 < (s.length : Int)) = false := by simp; omega
  have d3 : decide (1 < (s.length : Int)) = true := by simp; omega
  clear hz hs0
  go_enter Tryd.func67, Tryd.ntmps67
  go_wp2
  go_ret
  exact ⟨rfl, H.out.bad, frm_at _ _ _ _⟩
set_option maxRecDepth 100000 in
set_option maxHeartbeats 1000000 in
theorem number_bad (B : Nat) (ws : List (List UInt8)) (n : Int) (b : Bool) (s : List UInt8) (w : World) (h : WS B ws n b w) (h1 : 1 ≤ s.length) (h2 : s.length ≤ 9) (hz : ¬ (s.head? = some 48 ∧ 1 < s.length)) (ha : s.all isDg = false) :
    Calls Tryd.prog 67 #[.pointer (some ⟨B, 0, none⟩), .string ⟨s.toArray⟩] w fun e w' => e = .returned (.int .i64 0) ∧ WS B ws n false w' ∧ Frm (At B) w w' := by
  have H := Lib.hid h
  have c2 := h.fail
  have f2 := h.free 2
  have hB := h.lt
  clear h
  have h0 : 0 < s.length := by omega
  obtain ⟨c, hc⟩ : ∃ c, c = s[0] := ⟨_, rfl⟩
  have b0 := bget s 0 h0 c hc
  have d1 : decide ((s.length : Int) < 1) = false := by simp; omega
  have d2 : decide (9 < (s.length : Int)) = false := by simp; omega
  have t1 : (Lib.trimS s digs).isEmpty = s.all isDg := trim_digs s
  rw [ha] at t1
  have hcz : ¬ (c = 48 ∧ 1 < s.length) := by
    rintro ⟨q1, q2⟩
    refine hz ⟨?_, q2⟩
    rw [List.head?_eq_getElem?, List.getElem?_eq_getElem h0, ← hc, q1]
  clear hc hz
  by_cases hl1 : 1 < s.length
  · have d3 : decide (1 < (s.length : Int)) = true := by simp; omega
    have q1 : ((c.toNat : Int) == 48) = false := by
      rw [beq_eq_false_iff_ne]; intro e; exact hcz ⟨UInt8.toNat_inj.1 (by show c.toNat = 48; omega), hl1⟩
    clear hcz
    go_enter Tryd.func67, Tryd.ntmps67
    go_wp2_with (go_at_call 73; (with_reducible refine (trim_c s _ (by omega)).mono ?_); rintro e w1 ⟨rfl, hE1⟩; have k2 := (hE1.cells _ _ hB).trans c2; have g2 := (hE1.frozens _ _ hB).trans f2; have z2 := hE1.lt hB)
    go_ret
    exact ⟨rfl, (H.out.frm hE1).bad, frm_ext hE1 (frm_at _ _ _ _)⟩
  · have d3 : decide (1 < (s.length : Int)) = false := by simp; omega
    clear hcz
    by_cases q1 : ((c.toNat : Int) == 48) = true
    · go_enter Tryd.func67, Tryd.ntmps67
      go_wp2_with (go_at_call 73; (with_reducible refine (trim_c s _ (by omega)).mono ?_); rintro e w1 ⟨rfl, hE1⟩; have k2 := (hE1.cells _ _ hB).trans c2; have g2 := (hE1.frozens _ _ hB).trans f2; have z2 := hE1.lt hB)
      go_ret
      exact ⟨rfl, (H.out.frm hE1).bad, frm_ext hE1 (frm_at _ _ _ _)⟩
    · have q1 : ((c.toNat : Int) == 48) = false := by simpa using q1
      go_enter Tryd.func67, Tryd.ntmps67
      go_wp2_with (go_at_call 73; (with_reducible refine (trim_c s _ (by omega)).mono ?_); rintro e w1 ⟨rfl, hE1⟩; have k2 := (hE1.cells _ _ hB).trans c2; have g2 := (hE1.frozens _ _ hB).trans f2; have z2 := hE1.lt hB)
      go_ret
      exact ⟨rfl, (H.out.frm hE1).bad, frm_ext hE1 (frm_at _ _ _ _)⟩
set_option maxRecDepth 100000 in
set_option maxHeartbeats 1000000 in
theorem number_good (B : Nat) (ws : List (List UInt8)) (n : Int) (b : Bool) (s : List UInt8) (w : World) (h : WS B ws n b w) (h1 : 1 ≤ s.length) (h2 : s.length ≤ 9) (hz : ¬ (s.head? = some 48 ∧ 1 < s.length)) (ha : s.all isDg = true) :
    Calls Tryd.prog 67 #[.pointer (some ⟨B, 0, none⟩), .string ⟨s.toArray⟩] w fun e w' => e = .returned (.int .i64 (val s : Nat)) ∧ WS B ws n b w' ∧ Frm (At B) w w' := by
  have HA := Lib.hid (fun c (hc : c ∈ s) => List.all_eq_true.1 ha c hc)
  have H := Lib.hid h
  have c2 := h.fail
  have f2 := h.free 2
  have hB := h.lt
  clear h
  have h0 : 0 < s.length := by omega
  obtain ⟨c, hc⟩ : ∃ c, c = s[0] := ⟨_, rfl⟩
  have b0 := bget s 0 h0 c hc
  have d1 : decide ((s.length : Int) < 1) = false := by simp; omega
  have d2 : decide (9 < (s.length : Int)) = false := by simp; omega
  have t1 : (Lib.trimS s digs).isEmpty = s.all isDg := trim_digs s
  rw [ha] at t1
  have hcz : ¬ (c = 48 ∧ 1 < s.length) := by
    rintro ⟨q1, q2⟩
    refine hz ⟨?_, q2⟩
    rw [List.head?_eq_getElem?, List.getElem?_eq_getElem h0, ← hc, q1]
  clear hc hz
  by_cases hl1 : 1 < s.length
  · have d3 : decide (1 < (s.length : Int)) = true := by simp; omega
    have q1 : ((c.toNat : Int) == 48) = false := by
      rw [beq_eq_false_iff_ne]; intro e; exact hcz ⟨UInt8.toNat_inj.1 (by show c.toNat = 48; omega), hl1⟩
    clear hcz
    go_enter Tryd.func67, Tryd.ntmps67
    go_wp2_with (first
      | (go_at_call 73; (with_reducible refine (trim_c s _ (by omega)).mono ?_); rintro e w1 ⟨rfl, hE1⟩)
      | (go_at_call 11; (with_reducible refine (atoi_c s _ (by omega) (by omega) HA.out).mono ?_); rintro e w2 ⟨rfl, hE2⟩))
    go_ret
    exact ⟨rfl, H.out.frm (hE1.trans hE2), Frm.of_ext (hE1.trans hE2)⟩
  · have d3 : decide (1 < (s.length : Int)) = false := by simp; omega
    clear hcz
    by_cases q1 : ((c.toNat : Int) == 48) = true
    · go_enter Tryd.func67, Tryd.ntmps67
      go_wp2_with (first
        | (go_at_call 73; (with_reducible refine (trim_c s _ (by omega)).mono ?_); rintro e w1 ⟨rfl, hE1⟩)
        | (go_at_call 11; (with_reducible refine (atoi_c s _ (by omega) (by omega) HA.out).mono ?_); rintro e w2 ⟨rfl, hE2⟩))
      go_ret
      exact ⟨rfl, H.out.frm (hE1.trans hE2), Frm.of_ext (hE1.trans hE2)⟩
    · have q1 : ((c.toNat : Int) == 48) = false := by simpa using q1
      go_enter Tryd.func67, Tryd.ntmps67
      go_wp2_with (first
        | (go_at_call 73; (with_reducible refine (trim_c s _ (by omega)).mono ?_); rintro e w1 ⟨rfl, hE1⟩)
        | (go_at_call 11; (with_reducible refine (atoi_c s _ (by omega) (by omega) HA.out).mono ?_); rintro e w2 ⟨rfl, hE2⟩))
      go_ret
      exact ⟨rfl, H.out.frm (hE1.trans hE2), Frm.of_ext (hE1.trans hE2)⟩
theorem numB_iff (s : List UInt8) : numB s = true ↔ 1 ≤ s.length ∧ s.length ≤ 9 ∧ ¬ (s.head? = some 48 ∧ 1 < s.length) ∧ s.all isDg = true := by
  unfold numB
  simp only [Bool.and_eq_true, decide_eq_true_eq, Bool.not_eq_true', Bool.and_eq_false_iff, beq_eq_false_iff_ne, decide_eq_false_iff_not, ne_eq]
  constructor
  · rintro ⟨⟨⟨a, b⟩, c⟩, d⟩
    exact ⟨a, b, fun ⟨q1, q2⟩ => by rcases c with c | c; exact c q1; exact c q2, d⟩
  · rintro ⟨a, b, c, d⟩
    refine ⟨⟨⟨a, b⟩, ?_⟩, d⟩
    by_cases q : s.head? = some 48
    · exact .inr (fun q2 => c ⟨q, q2⟩)
    · exact .inl q
theorem number_w (B : Nat) (ws : List (List UInt8)) (n : Int) (b : Bool) (s : List UInt8) (w : World) (h : WS B ws n b w) (hl : s.length ≤ 4000) :
    Calls Tryd.prog 67 #[.pointer (some ⟨B, 0, none⟩), .string ⟨s.toArray⟩] w fun e w' => e = .returned (.int .i64 (numN s : Nat)) ∧ WS B ws n (b && numB s) w' ∧ Frm (At B) w w' := by
  rcases Bool.eq_false_or_eq_true (numB s) with hb | hb
  · obtain ⟨h1, h2, h3, h4⟩ := (numB_iff s).1 hb
    unfold numN
    rw [hb, if_pos rfl, Bool.and_true]
    exact number_good B ws n b s w h h1 h2 h3 h4
  · unfold numN
    rw [hb, if_neg (by simp), Bool.and_false]
    have hn : ¬ (1 ≤ s.length ∧ s.length ≤ 9 ∧ ¬ (s.head? = some 48 ∧ 1 < s.length) ∧ s.all isDg = true) := by
      rw [← numB_iff, hb]; simp
    by_cases h1 : s.length < 1 ∨ 9 < s.length
    · exact number_no B ws n b s w h hl h1
    · by_cases h3 : s.head? = some 48 ∧ 1 < s.length
      · exact number_zero B ws n b s w h h3.2 (by omega) h3.1
      · refine number_bad B ws n b s w h (by omega) (by omega) h3 ?_
        rw [← Bool.not_eq_true]
        intro h4
        exact hn ⟨by omega, by omega, h3, h4⟩
end Go.Proofs.YtbagbnceiadpdaaDoor
