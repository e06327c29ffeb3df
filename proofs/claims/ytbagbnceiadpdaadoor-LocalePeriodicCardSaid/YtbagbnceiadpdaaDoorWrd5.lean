/- The walks of the reader of words: tests, groups, rules. -/
import Derived.Test.YtbagbnceiadpdaaDoorWrd4
namespace Go.Proofs.YtbagbnceiadpdaaDoor
set_option linter.unusedVariables false
set_option linter.unusedSimpArgs false
open Go.RowKit

theorem lm_at {B : Nat} {w w' : World} (h : Lm w) (hF : Frm (At B) w w') (hG : 0 ≠ B) : Lm w' := h.frm hF hG
set_option maxRecDepth 100000 in
set_option maxHeartbeats 1000000 in
theorem test_is (B : Nat) (ws : List (List UInt8)) (N : Nat) (b : Bool) (w : World) (h : WS B ws N b w) (hN : (N : Int) ≤ 4611686018427387904) (hm : Lm w) (hG : 0 ≠ B) (he : hd1 (whR ws) = wIs) (ho : hd1 (whR ws) ≠ wNot) :
    Calls Tryd.prog 57 #[.pointer (some ⟨B, 0, none⟩)] w fun e w' => e = .returned (.bool (teH N ws)) ∧ WS B (teR ws) N (b && teB ws) w' ∧ Frm (At B) w w' := by
  have H := Lib.hid h
  have Hm := Lib.hid hm
  have t1 : (hd1 (whR ws) == [105, 115]) = true := by rw [Bool.eq_iff_iff, beq_iff_eq]; exact ⟨fun q => by first | rfl | exact absurd q he, fun q => by first | exact he | cases q⟩
  have t2 : (hd1 (whR ws) != [105, 115]) = !true := by rw [bne, t1]
  have t3 : (hd1 (whR ws) == [110, 111, 116]) = false := by rw [Bool.eq_iff_iff, beq_iff_eq]; exact ⟨fun q => by first | rfl | exact absurd q ho, fun q => by first | exact ho | cases q⟩
  have t4 : (hd1 (whR ws) != [110, 111, 116]) = !false := by rw [bne, t3]
  have He := Lib.hid he
  have Ho := Lib.hid ho
  have hB := h.lt
  clear h he ho hm
  go_enter Tryd.func57, Tryd.ntmps57
  go_wp2_with (first
    | (go_at_call 63; (with_reducible refine (what_c B ws N b _ H.out hN).mono ?_); rintro e w1 ⟨rfl, h1, hF1⟩; have H1 := Lib.hid h1; clear h1)
    | (go_at_call 64; (with_reducible refine (next_c B (whR ws) N (b && whB ws) _ H1.out).mono ?_); rintro e w2 ⟨rfl, h2, hF2⟩; have H2 := Lib.hid h2; have c2 := h2.fail; have f2 := h2.free 2; have z2 := h2.lt; clear h2; have Hm2 := Lib.hid (Hm.out.frm (hF1.trans hF2) hG))
    | (go_at_call 65; (with_reducible refine (list_c B (tl1 (whR ws)) N (b && whB ws) (whN N ws) _ H2.out Hm2.out hG).mono ?_); rintro e w3 ⟨rfl, h3, hF3⟩))
  go_ret
  exact ⟨ret_b (by unfold teH; simp [He.out]), by unfold teR teB; simpa [He.out, Bool.and_assoc] using h3, (hF1.trans hF2).trans hF3⟩
set_option maxRecDepth 100000 in
set_option maxHeartbeats 1000000 in
theorem test_not (B : Nat) (ws : List (List UInt8)) (N : Nat) (b : Bool) (w : World) (h : WS B ws N b w) (hN : (N : Int) ≤ 4611686018427387904) (hm : Lm w) (hG : 0 ≠ B) (he : hd1 (whR ws) ≠ wIs) (ho : hd1 (whR ws) = wNot) :
    Calls Tryd.prog 57 #[.pointer (some ⟨B, 0, none⟩)] w fun e w' => e = .returned (.bool (teH N ws)) ∧ WS B (teR ws) N (b && teB ws) w' ∧ Frm (At B) w w' := by
  have H := Lib.hid h
  have Hm := Lib.hid hm
  have t1 : (hd1 (whR ws) == [105, 115]) = false := by rw [Bool.eq_iff_iff, beq_iff_eq]; exact ⟨fun q => by first | rfl | exact absurd q he, fun q => by first | exact he | cases q⟩
  have t2 : (hd1 (whR ws) != [105, 115]) = !false := by rw [bne, t1]
  have t3 : (hd1 (whR ws) == [110, 111, 116]) = true := by rw [Bool.eq_iff_iff, beq_iff_eq]; exact ⟨fun q => by first | rfl | exact absurd q ho, fun q => by first | exact ho | cases q⟩
  have t4 : (hd1 (whR ws) != [110, 111, 116]) = !true := by rw [bne, t3]
  have He := Lib.hid he
  have Ho := Lib.hid ho
  have hB := h.lt
  clear h he ho hm
  go_enter Tryd.func57, Tryd.ntmps57
  go_wp2_with (first
    | (go_at_call 63; (with_reducible refine (what_c B ws N b _ H.out hN).mono ?_); rintro e w1 ⟨rfl, h1, hF1⟩; have H1 := Lib.hid h1; clear h1)
    | (go_at_call 64; (with_reducible refine (next_c B (whR ws) N (b && whB ws) _ H1.out).mono ?_); rintro e w2 ⟨rfl, h2, hF2⟩; have H2 := Lib.hid h2; have c2 := h2.fail; have f2 := h2.free 2; have z2 := h2.lt; clear h2; have Hm2 := Lib.hid (Hm.out.frm (hF1.trans hF2) hG))
    | (go_at_call 65; (with_reducible refine (list_c B (tl1 (whR ws)) N (b && whB ws) (whN N ws) _ H2.out Hm2.out hG).mono ?_); rintro e w3 ⟨rfl, h3, hF3⟩))
  go_ret
  exact ⟨ret_b (by unfold teH; simp [He.out]), by unfold teR teB; simpa [Ho.out, Bool.and_assoc] using h3, (hF1.trans hF2).trans hF3⟩
set_option maxRecDepth 100000 in
set_option maxHeartbeats 1000000 in
theorem test_no (B : Nat) (ws : List (List UInt8)) (N : Nat) (b : Bool) (w : World) (h : WS B ws N b w) (hN : (N : Int) ≤ 4611686018427387904) (hm : Lm w) (hG : 0 ≠ B) (he : hd1 (whR ws) ≠ wIs) (ho : hd1 (whR ws) ≠ wNot) :
    Calls Tryd.prog 57 #[.pointer (some ⟨B, 0, none⟩)] w fun e w' => e = .returned (.bool (teH N ws)) ∧ WS B (teR ws) N (b && teB ws) w' ∧ Frm (At B) w w' := by
  have H := Lib.hid h
  have Hm := Lib.hid hm
  have t1 : (hd1 (whR ws) == [105, 115]) = false := by rw [Bool.eq_iff_iff, beq_iff_eq]; exact ⟨fun q => by first | rfl | exact absurd q he, fun q => by first | exact he | cases q⟩
  have t2 : (hd1 (whR ws) != [105, 115]) = !false := by rw [bne, t1]
  have t3 : (hd1 (whR ws) == [110, 111, 116]) = false := by rw [Bool.eq_iff_iff, beq_iff_eq]; exact ⟨fun q => by first | rfl | exact absurd q ho, fun q => by first | exact ho | cases q⟩
  have t4 : (hd1 (whR ws) != [110, 111, 116]) = !false := by rw [bne, t3]
  have He := Lib.hid he
  have Ho := Lib.hid ho
  have hB := h.lt
  clear h he ho hm
  go_enter Tryd.func57, Tryd.ntmps57
  go_wp2_with (first
    | (go_at_call 63; (with_reducible refine (what_c B ws N b _ H.out hN).mono ?_); rintro e w1 ⟨rfl, h1, hF1⟩; have H1 := Lib.hid h1; clear h1)
    | (go_at_call 64; (with_reducible refine (next_c B (whR ws) N (b && whB ws) _ H1.out).mono ?_); rintro e w2 ⟨rfl, h2, hF2⟩; have H2 := Lib.hid h2; have c2 := h2.fail; have f2 := h2.free 2; have z2 := h2.lt; clear h2; have Hm2 := Lib.hid (Hm.out.frm (hF1.trans hF2) hG))
    | (go_at_call 65; (with_reducible refine (list_c B (tl1 (whR ws)) N false (whN N ws) _ H2.out.bad (lm_at Hm2.out (frm_at _ _ _ _) hG) hG).mono ?_); rintro e w3 ⟨rfl, h3, hF3⟩))
  go_ret
  exact ⟨ret_b (by unfold teH; simp [He.out]), by unfold teR teB; simpa [He.out, Ho.out, Bool.and_assoc] using h3, ((hF1.trans hF2).trans (frm_at _ _ _ _)).trans hF3⟩
theorem is_not : wIs ≠ wNot := by decide
theorem test_c (B : Nat) (ws : List (List UInt8)) (N : Nat) (b : Bool) (w : World) (h : WS B ws N b w) (hN : (N : Int) ≤ 4611686018427387904) (hm : Lm w) (hG : 0 ≠ B) :
    Calls Tryd.prog 57 #[.pointer (some ⟨B, 0, none⟩)] w fun e w' => e = .returned (.bool (teH N ws)) ∧ WS B (teR ws) N (b && teB ws) w' ∧ Frm (At B) w w' := by
  by_cases he : hd1 (whR ws) = wIs
  · exact test_is B ws N b w h hN hm hG he (by rw [he]; exact is_not)
  · by_cases ho : hd1 (whR ws) = wNot
    · exact test_not B ws N b w h hN hm hG he ho
    · exact test_no B ws N b w h hN hm hG he ho
def wlen (B : Nat) (w : World) : Nat := match w.cell? ⟨B, 0, none⟩ with | some (.slice _ l _) => l | _ => 0
theorem wlen_eq {B : Nat} {ws : List (List UInt8)} {n : Int} {b : Bool} {w : World} (h : WS B ws n b w) : wlen B w = ws.length := by
  obtain ⟨R, off, c0, _⟩ := h.cells
  unfold wlen
  rw [c0]
set_option maxRecDepth 100000 in
set_option maxHeartbeats 1000000 in
theorem group_c (B : Nat) (ws : List (List UInt8)) (N : Nat) (b : Bool) (w : World) (h : WS B ws N b w) (hN : (N : Int) ≤ 4611686018427387904) (hm : Lm w) (hG : 0 ≠ B) :
    Calls Tryd.prog 43 #[.pointer (some ⟨B, 0, none⟩)] w fun e w' => e = .returned (.bool (grp N ws b).1) ∧ WS B (grp N ws b).2.1 N (grp N ws b).2.2 w' ∧ Frm (At B) w w' := by
  have H := Lib.hid h
  have Hm := Lib.hid hm
  clear h hm
  obtain ⟨T, hT⟩ : ∃ T, T = grp N ws b := ⟨_, rfl⟩
  have HT : Hid (grL N (teH N ws) (teR ws) (b && teB ws) = T) := by rw [Hid, hT]; rfl
  rw [← hT]
  clear hT
  go_enter Tryd.func43, Tryd.ntmps43
  go_wp2_with (go_at_call 57; (with_reducible refine (test_c B ws N b _ H.out hN Hm.out hG).mono ?_); rintro e w1 ⟨rfl, h1, hF1⟩; have H1 := Lib.hid h1; clear h1; have Hm1 := Lib.hid (lm_at Hm.out hF1 hG))
  go_loopw [3] (fun hv wr => ∃ (hb b' : Bool) (ws' : List (List UInt8)), hv = .bool hb ∧ Hid (WS B ws' N b' wr) ∧ Hid (grL N hb ws' b' = T) ∧ Frm (At B) w wr ∧ Hid (Lm wr)) (fun _ wr => wlen B wr)
  case atStart => exact ⟨teH N ws, b && teB ws, teR ws, rfl, H1, HT, hF1, Hm1⟩
  case round =>
    obtain ⟨hb, b', ws', rfl, hr, HTr, hFr, Hmr⟩ := hrel
    by_cases ha : ws'.head? = some wAnd
    · obtain ⟨e1, e2⟩ := isB_true ha
      obtain ⟨r, hr2⟩ : ∃ r, ws' = wAnd :: r := by
        cases ws' with
        | nil => cases ha
        | cons x r => exact ⟨r, by rw [Option.some.inj ha]⟩
      have HT2 : Hid (grL N (teH N r && hb) (teR r) (b' && teB r) = T) := by
        have := HTr.out
        rw [hr2, grL_and] at this
        exact this
      have e3 : tl1 ws' = r := by rw [hr2]; rfl
      rw [e3] at e2
      have E1 := Lib.hid e1
      have E2 := Lib.hid e2
      have Hlen : Hid (wlen B wr = r.length + 1) := by rw [Hid, wlen_eq hr.out, hr2]; rfl
      clear ha e1 e2 e3 hr2 HT H H1 Hm Hm1 HTr
      obtain ⟨tv, htv⟩ : ∃ tv, tv = teH N r := ⟨_, rfl⟩
      have Htv := Lib.hid htv
      rw [← htv] at HT2
      clear htv
      cases tv
      all_goals
        go_wp2_with (first
          | (go_at_call 44; (with_reducible refine (is_and B ws' N b' _ hr.out).mono ?_); (with_reducible rw [E1.out, E2.out]); rintro e w2 ⟨rfl, h2, hF2⟩; have H2 := Lib.hid h2; clear h2; have Hm2 := Lib.hid (lm_at Hmr.out hF2 hG))
          | (go_at_call 57; (with_reducible refine (test_c B r N b' _ H2.out hN Hm2.out hG).mono ?_); (with_reducible rw [← Htv.out]); rintro e w3 ⟨rfl, h3, hF3⟩))
        go_roundw
        case rel => exact ⟨_, b' && teB r, teR r, rfl, h3, HT2, (hFr.trans hF2).trans hF3, lm_at Hm2.out hF3 hG⟩
        case measure =>
          rw [wlen_eq h3, Hlen.out]
          have := teR_len r
          omega
    · obtain ⟨e1, e2⟩ := isB_false ha
      have HT2 : Hid (T = (hb, ws', b')) := by
        rw [Hid, ← HTr.out]
        cases ws' with
        | nil => rw [grL_nil]
        | cons x r => rw [grL_no _ _ _ _ _ (fun q => ha (by rw [q]; rfl))]
      have E1 := Lib.hid e1
      have E2 := Lib.hid e2
      clear ha e1 e2 HT H H1 Hm Hm1 HTr
      go_wp2_with (go_at_call 44; (with_reducible refine (is_and B ws' N b' _ hr.out).mono ?_); (with_reducible rw [E1.out, E2.out]); rintro e w2 ⟨rfl, h2, hF2⟩)
      go_ret
      exact ⟨ret_b (by rw [HT2.out]), by rw [HT2.out]; exact h2, hFr.trans hF2⟩
end Go.Proofs.YtbagbnceiadpdaaDoor
