/- The walks of the reader of words: tests, groups, rules. -/
import Derived.Test.YtnhdmnhfllecgaaGreatDoorQ03
import Derived.Test.YtnhdmnhfllecgaaGreatDoorQ01
import Derived.Test.YtnhdmnhfllecgaaGreatDoorQ00
import Derived.Maps.RangeWalk
import Derived.Maps.Own
namespace Go.Proofs.YtnhdmnhfllecgaaGreatDoor
set_option linter.unusedVariables false
set_option linter.unusedSimpArgs false
open Go.RowKit

theorem lm_at {B : Nat} {w w' : World} (h : Lm w) (hF : Frm (At B) w w') (hG : 0 ≠ B) : Lm w' := h.frm hF hG
set_option maxRecDepth 100000 in
set_option maxHeartbeats 1000000 in
theorem test_is (B : Nat) (ws : List (List UInt8)) (N : Nat) (b : Bool) (w : World) (h : WS B ws N b w) (hN : (N : Int) ≤ 4611686018427387904) (hm : Lm w) (hG : 0 ≠ B) (he : hd1 (whR ws) = wIs) (ho : hd1 (whR ws) ≠ wNot) :
    Calls Tryz.prog 150 #[.pointer (some ⟨B, 0, none⟩)] w fun e w' => e = .returned (.bool (teH N ws)) ∧ WS B (teR ws) N (b && teB ws) w' ∧ Frm (At B) w w' := by
  have H := Lib.hid h
  have Hm := Lib.hid hm
  have t1 : (hd1 (whR ws) == [105, 115]) = true := by rw [Bool.eq_iff_iff, beq_iff_eq]; exact ⟨fun q => by first | rfl | exact absurd q he, fun q => by first | exact he | cases q⟩
  have t2 : (hd1 (whR ws) != [105, 115]) = !true := by rw [bne, t1]
  have t3 : (hd1 (whR ws) == [110, 111, 116]) = false := by rw [Bool.eq_iff_iff, beq_iff_eq]; exact ⟨fun q => by first | rfl | exact absurd q ho, fun q => by first | exact ho | cases q⟩
  have t4 : (hd1 (whR ws) != [110, 111, 116]) = !false := by rw [bne, t3]
  have He := Lib.hid he
  have Ho := Lib.hid ho
  have hB := h.lt
  clear h he ho hm
  go_enter Tryz.func150, Tryz.ntmps150
  go_wp2_with (first
    | (go_at_call 165; (with_reducible refine (what_c B ws N b _ H.out hN).mono ?_); rintro e w1 ⟨rfl, h1, hF1⟩; have H1 := Lib.hid h1; clear h1)
    | (go_at_call 166; (with_reducible refine (next_c B (whR ws) N (b && whB ws) _ H1.out).mono ?_); rintro e w2 ⟨rfl, h2, hF2⟩; have H2 := Lib.hid h2; have c2 := h2.fail; have f2 := h2.free 2; have z2 := h2.lt; clear h2; have Hm2 := Lib.hid (Hm.out.frm (hF1.trans hF2) hG))
    | (go_at_call 167; (with_reducible refine (list_c B (tl1 (whR ws)) N (b && whB ws) (whN N ws) _ H2.out Hm2.out hG).mono ?_); rintro e w3 ⟨rfl, h3, hF3⟩))
  go_ret
  exact ⟨ret_b (by unfold teH; simp [He.out]), by unfold teR teB; simpa [He.out, Bool.and_assoc] using h3, (hF1.trans hF2).trans hF3⟩
set_option maxRecDepth 100000 in
set_option maxHeartbeats 1000000 in
theorem test_not (B : Nat) (ws : List (List UInt8)) (N : Nat) (b : Bool) (w : World) (h : WS B ws N b w) (hN : (N : Int) ≤ 4611686018427387904) (hm : Lm w) (hG : 0 ≠ B) (he : hd1 (whR ws) ≠ wIs) (ho : hd1 (whR ws) = wNot) :
    Calls Tryz.prog 150 #[.pointer (some ⟨B, 0, none⟩)] w fun e w' => e = .returned (.bool (teH N ws)) ∧ WS B (teR ws) N (b && teB ws) w' ∧ Frm (At B) w w' := by
  have H := Lib.hid h
  have Hm := Lib.hid hm
  have t1 : (hd1 (whR ws) == [105, 115]) = false := by rw [Bool.eq_iff_iff, beq_iff_eq]; exact ⟨fun q => by first | rfl | exact absurd q he, fun q => by first | exact he | cases q⟩
  have t2 : (hd1 (whR ws) != [105, 115]) = !false := by rw [bne, t1]
  have t3 : (hd1 (whR ws) == [110, 111, 116]) = true := by rw [Bool.eq_iff_iff, beq_iff_eq]; exact ⟨fun q => by first | rfl | exact absurd q ho, fun q => by first | exact ho | cases q⟩
  have t4 : (hd1 (whR ws) != [110, 111, 116]) = !true := by rw [bne, t3]
  have He := Lib.hid he
  have Ho := Lib.hid ho
  have hB := h.lt
  clear h he ho hm
  go_enter Tryz.func150, Tryz.ntmps150
  go_wp2_with (first
    | (go_at_call 165; (with_reducible refine (what_c B ws N b _ H.out hN).mono ?_); rintro e w1 ⟨rfl, h1, hF1⟩; have H1 := Lib.hid h1; clear h1)
    | (go_at_call 166; (with_reducible refine (next_c B (whR ws) N (b && whB ws) _ H1.out).mono ?_); rintro e w2 ⟨rfl, h2, hF2⟩; have H2 := Lib.hid h2; have c2 := h2.fail; have f2 := h2.free 2; have z2 := h2.lt; clear h2; have Hm2 := Lib.hid (Hm.out.frm (hF1.trans hF2) hG))
    | (go_at_call 167; (with_reducible refine (list_c B (tl1 (whR ws)) N (b && whB ws) (whN N ws) _ H2.out Hm2.out hG).mono ?_); rintro e w3 ⟨rfl, h3, hF3⟩))
  go_ret
  exact ⟨ret_b (by unfold teH; simp [He.out]), by unfold teR teB; simpa [Ho.out, Bool.and_assoc] using h3, (hF1.trans hF2).trans hF3⟩
set_option maxRecDepth 100000 in
set_option maxHeartbeats 1000000 in
theorem test_no (B : Nat) (ws : List (List UInt8)) (N : Nat) (b : Bool) (w : World) (h : WS B ws N b w) (hN : (N : Int) ≤ 4611686018427387904) (hm : Lm w) (hG : 0 ≠ B) (he : hd1 (whR ws) ≠ wIs) (ho : hd1 (whR ws) ≠ wNot) :
    Calls Tryz.prog 150 #[.pointer (some ⟨B, 0, none⟩)] w fun e w' => e = .returned (.bool (teH N ws)) ∧ WS B (teR ws) N (b && teB ws) w' ∧ Frm (At B) w w' := by
  have H := Lib.hid h
  have Hm := Lib.hid hm
  have t1 : (hd1 (whR ws) == [105, 115]) = false := by rw [Bool.eq_iff_iff, beq_iff_eq]; exact ⟨fun q => by first | rfl | exact absurd q he, fun q => by first | exact he | cases q⟩
  have t2 : (hd1 (whR ws) != [105, 115]) = !false := by rw [bne, t1]
  have t3 : (hd1 (whR ws) == [110, 111, 116]) = false := by rw [Bool.eq_iff_iff, beq_iff_eq]; exact ⟨fun q => by first | rfl | exact absurd q ho, fun q => by first | exact ho | cases q⟩
  have t4 : (hd1 (whR ws) != [110, 111, 116]) = !false := by rw [bne, t3]
  have He := Lib.hid he
  have Ho := Lib.hid ho
  have hB := h.lt
  clear h he ho hm
  go_enter Tryz.func150, Tryz.ntmps150
  go_wp2_with (first
    | (go_at_call 165; (with_reducible refine (what_c B ws N b _ H.out hN).mono ?_); rintro e w1 ⟨rfl, h1, hF1⟩; have H1 := Lib.hid h1; clear h1)
    | (go_at_call 166; (with_reducible refine (next_c B (whR ws) N (b && whB ws) _ H1.out).mono ?_); rintro e w2 ⟨rfl, h2, hF2⟩; have H2 := Lib.hid h2; have c2 := h2.fail; have f2 := h2.free 2; have z2 := h2.lt; clear h2; have Hm2 := Lib.hid (Hm.out.frm (hF1.trans hF2) hG))
    | (go_at_call 167; (with_reducible refine (list_c B (tl1 (whR ws)) N false (whN N ws) _ H2.out.bad (lm_at Hm2.out (frm_at _ _ _ _) hG) hG).mono ?_); rintro e w3 ⟨rfl, h3, hF3⟩))
  go_ret
  exact ⟨ret_b (by unfold teH; simp [He.out]), by unfold teR teB; simpa [He.out, Ho.out, Bool.and_assoc] using h3, ((hF1.trans hF2).trans (frm_at _ _ _ _)).trans hF3⟩
theorem is_not : wIs ≠ wNot := by decide
theorem test_c (B : Nat) (ws : List (List UInt8)) (N : Nat) (b : Bool) (w : World) (h : WS B ws N b w) (hN : (N : Int) ≤ 4611686018427387904) (hm : Lm w) (hG : 0 ≠ B) :
    Calls Tryz.prog 150 #[.pointer (some ⟨B, 0, none⟩)] w fun e w' => e = .returned (.bool (teH N ws)) ∧ WS B (teR ws) N (b && teB ws) w' ∧ Frm (At B) w w' := by
  by_cases he : hd1 (whR ws) = wIs
  · exact test_is B ws N b w h hN hm hG he (by rw [he]; exact is_not)
  · by_cases ho : hd1 (whR ws) = wNot
    · exact test_not B ws N b w h hN hm hG he ho
    · exact test_no B ws N b w h hN hm hG he ho
def wlen (B : Nat) (w : World) : Nat := match w.cell? ⟨B, 0, none⟩ with | some (.slice _ l _) => l | _ => 0
theorem wlen_eq {B : Nat} {ws : List (List UInt8)} {n : Int} {b : Bool} {w : World} (h : WS B ws n b w) : wlen B w = ws.length := by
  obtain ⟨R, off, c0, _⟩ := h.cells
  unfold wlen
  rw [c0]
set_option maxRecDepth 100000 in
set_option maxHeartbeats 1000000 in
theorem group_c (B : Nat) (ws : List (List UInt8)) (N : Nat) (b : Bool) (w : World) (h : WS B ws N b w) (hN : (N : Int) ≤ 4611686018427387904) (hm : Lm w) (hG : 0 ≠ B) :
    Calls Tryz.prog 124 #[.pointer (some ⟨B, 0, none⟩)] w fun e w' => e = .returned (.bool (grp N ws b).1) ∧ WS B (grp N ws b).2.1 N (grp N ws b).2.2 w' ∧ Frm (At B) w w' := by
  have H := Lib.hid h
  have Hm := Lib.hid hm
  clear h hm
  obtain ⟨T, hT⟩ : ∃ T, T = grp N ws b := ⟨_, rfl⟩
  have HT : Hid (grL N (teH N ws) (teR ws) (b && teB ws) = T) := by rw [Hid, hT]; rfl
  rw [← hT]
  clear hT
  go_enter Tryz.func124, Tryz.ntmps124
  go_wp2_with (go_at_call 150; (with_reducible refine (test_c B ws N b _ H.out hN Hm.out hG).mono ?_); rintro e w1 ⟨rfl, h1, hF1⟩; have H1 := Lib.hid h1; clear h1; have Hm1 := Lib.hid (lm_at Hm.out hF1 hG))
  go_loopw [3] (fun hv wr => ∃ (hb b' : Bool) (ws' : List (List UInt8)), hv = .bool hb ∧ Hid (WS B ws' N b' wr) ∧ Hid (grL N hb ws' b' = T) ∧ Frm (At B) w wr ∧ Hid (Lm wr)) (fun _ wr => wlen B wr)
  case atStart => exact ⟨teH N ws, b && teB ws, teR ws, rfl, H1, HT, hF1, Hm1⟩
  case round =>
    obtain ⟨hb, b', ws', rfl, hr, HTr, hFr, Hmr⟩ := hrel
    by_cases ha : ws'.head? = some wAnd
    · obtain ⟨e1, e2⟩ := isB_true ha
      obtain ⟨r, hr2⟩ : ∃ r, ws' = wAnd :: r := by
        cases ws' with
        | nil => cases ha
        | cons x r => exact ⟨r, by rw [Option.some.inj ha]⟩
      have HT2 : Hid (grL N (teH N r && hb) (teR r) (b' && teB r) = T) := by
        have := HTr.out
        rw [hr2, grL_and] at this
        exact this
      have e3 : tl1 ws' = r := by rw [hr2]; rfl
      rw [e3] at e2
      have E1 := Lib.hid e1
      have E2 := Lib.hid e2
      have Hlen : Hid (wlen B wr = r.length + 1) := by rw [Hid, wlen_eq hr.out, hr2]; rfl
      clear ha e1 e2 e3 hr2 HT H H1 Hm Hm1 HTr
      obtain ⟨tv, htv⟩ : ∃ tv, tv = teH N r := ⟨_, rfl⟩
      have Htv := Lib.hid htv
      rw [← htv] at HT2
      clear htv
      cases tv
      all_goals
        go_wp2_with (first
          | (go_at_call 125; (with_reducible refine (is_and B ws' N b' _ hr.out).mono ?_); (with_reducible rw [E1.out, E2.out]); rintro e w2 ⟨rfl, h2, hF2⟩; have H2 := Lib.hid h2; clear h2; have Hm2 := Lib.hid (lm_at Hmr.out hF2 hG))
          | (go_at_call 150; (with_reducible refine (test_c B r N b' _ H2.out hN Hm2.out hG).mono ?_); (with_reducible rw [← Htv.out]); rintro e w3 ⟨rfl, h3, hF3⟩))
        go_roundw
        case rel => exact ⟨_, b' && teB r, teR r, rfl, h3, HT2, (hFr.trans hF2).trans hF3, lm_at Hm2.out hF3 hG⟩
        case measure =>
          rw [wlen_eq h3, Hlen.out]
          have := teR_len r
          omega
    · obtain ⟨e1, e2⟩ := isB_false ha
      have HT2 : Hid (T = (hb, ws', b')) := by
        rw [Hid, ← HTr.out]
        cases ws' with
        | nil => rw [grL_nil]
        | cons x r => rw [grL_no _ _ _ _ _ (fun q => ha (by rw [q]; rfl))]
      have E1 := Lib.hid e1
      have E2 := Lib.hid e2
      clear ha e1 e2 HT H H1 Hm Hm1 HTr
      go_wp2_with (go_at_call 125; (with_reducible refine (is_and B ws' N b' _ hr.out).mono ?_); (with_reducible rw [E1.out, E2.out]); rintro e w2 ⟨rfl, h2, hF2⟩)
      go_ret
      exact ⟨ret_b (by rw [HT2.out]), by rw [HT2.out]; exact h2, hFr.trans hF2⟩
end Go.Proofs.YtnhdmnhfllecgaaGreatDoor
/- The walks of the reader of words: rules. -/
namespace Go.Proofs.YtnhdmnhfllecgaaGreatDoor
set_option linter.unusedVariables false
set_option linter.unusedSimpArgs false
open Go.RowKit

theorem WS.put {B : Nat} {ws : List (List UInt8)} {n : Int} {b : Bool} {w : World} (h : WS B ws n b w) (b' : Bool) : WS B ws n b' (w.setCell ⟨B, 2, none⟩ (.bool (!b'))) := by
  obtain ⟨⟨R, off, c0, hR, hRB, hc⟩, c1, c2, hf, hB, hs, hw⟩ := h
  refine ⟨⟨R, off, (World.cell?_setCell_other _ _ _ _ (by simp)).trans c0, by simpa using hR, hRB, fun i hi => (World.cell?_setCell_other _ _ _ _ (by simp <;> omega)).trans (hc i hi)⟩, (World.cell?_setCell_other _ _ _ _ (by simp)).trans c1, World.cell?_setCell_same _ _ _ c2, fun o => by rw [World.frozen?_setCell]; exact hf o, by simpa using hB, hs, hw⟩
set_option maxRecDepth 100000 in
set_option maxHeartbeats 1000000 in
theorem rule_c (B : Nat) (ws : List (List UInt8)) (N : Nat) (w : World) (h : WS B ws N true w) (hN : (N : Int) ≤ 4611686018427387904) (hm : Lm w) (hG : 0 ≠ B) :
    Calls Tryz.prog 97 #[.pointer (some ⟨B, 0, none⟩)] w fun e w' => e = .returned (.bool (rul N ws).1) ∧ (∃ r, WS B r N (rul N ws).2 w') ∧ Frm (At B) w w' := by
  have H := Lib.hid h
  have Hm := Lib.hid hm
  clear h hm
  obtain ⟨T, hT⟩ : ∃ T, T = ruL N (grp N ws true).1 (grp N ws true).2.1 (grp N ws true).2.2 := ⟨_, rfl⟩
  have HT := Lib.hid hT.symm
  have HU : Hid (rul N ws = (T.1, T.2.2 && T.2.1.isEmpty)) := by rw [Hid, hT]; rfl
  clear hT
  go_enter Tryz.func97, Tryz.ntmps97
  go_wp2_with (go_at_call 124; (with_reducible refine (group_c B ws N true _ H.out hN Hm.out hG).mono ?_); rintro e w1 ⟨rfl, h1, hF1⟩; have H1 := Lib.hid h1; clear h1; have Hm1 := Lib.hid (lm_at Hm.out hF1 hG))
  go_loopw [3] (fun hv wr => ∃ (hb b' : Bool) (ws' : List (List UInt8)), hv = .bool hb ∧ Hid (WS B ws' N b' wr) ∧ Hid (ruL N hb ws' b' = T) ∧ Frm (At B) w wr ∧ Hid (Lm wr)) (fun _ wr => wlen B wr)
  case atStart => exact ⟨_, _, _, rfl, H1, HT, hF1, Hm1⟩
  case round =>
    obtain ⟨hb, b', ws', rfl, hr, HTr, hFr, Hmr⟩ := hrel
    by_cases ha : ws'.head? = some wOr
    · obtain ⟨e1, e2⟩ := isB_true ha
      obtain ⟨r, hr2⟩ : ∃ r, ws' = wOr :: r := by
        cases ws' with
        | nil => cases ha
        | cons x r => exact ⟨r, by rw [Option.some.inj ha]⟩
      have HT2 : Hid (ruL N ((grp N r b').1 || hb) (grp N r b').2.1 (grp N r b').2.2 = T) := by
        have := HTr.out
        rw [hr2, ruL_or] at this
        exact this
      have e3 : tl1 ws' = r := by rw [hr2]; rfl
      rw [e3] at e2
      have E1 := Lib.hid e1
      have E2 := Lib.hid e2
      have Hlen : Hid (wlen B wr = r.length + 1) := by rw [Hid, wlen_eq hr.out, hr2]; rfl
      clear ha e1 e2 e3 hr2 HT H H1 Hm Hm1 HTr
      obtain ⟨tv, htv⟩ : ∃ tv, tv = (grp N r b').1 := ⟨_, rfl⟩
      have Htv := Lib.hid htv
      rw [← htv] at HT2
      clear htv
      cases tv
      all_goals
        go_wp2_with (first
          | (go_at_call 125; (with_reducible refine (is_or B ws' N b' _ hr.out).mono ?_); (with_reducible rw [E1.out, E2.out]); rintro e w2 ⟨rfl, h2, hF2⟩; have H2 := Lib.hid h2; clear h2; have Hm2 := Lib.hid (lm_at Hmr.out hF2 hG))
          | (go_at_call 124; (with_reducible refine (group_c B r N b' _ H2.out hN Hm2.out hG).mono ?_); (with_reducible rw [← Htv.out]); rintro e w3 ⟨rfl, h3, hF3⟩))
        go_roundw
        case rel => exact ⟨_, _, _, rfl, h3, HT2, (hFr.trans hF2).trans hF3, lm_at Hm2.out hF3 hG⟩
        case measure =>
          rw [wlen_eq h3, Hlen.out]
          have := grp_len N r b'
          omega
    · obtain ⟨e1, e2⟩ := isB_false ha
      have HT2 : Hid (T = (hb, ws', b')) := by
        rw [Hid, ← HTr.out]
        cases ws' with
        | nil => rw [ruL_nil]
        | cons x r => rw [ruL_no _ _ _ _ _ (fun q => ha (by rw [q]; rfl))]
      have E1 := Lib.hid e1
      have E2 := Lib.hid e2
      clear ha e1 e2 HT H H1 Hm Hm1 HTr
      have HU2 : Hid (rul N ws = (hb, b' && ws'.isEmpty)) := by rw [Hid, HU.out, HT2.out]
      clear HU HT2
      cases ws' with
      | nil =>
        cases b'
        all_goals
          go_wp2_with (go_at_call 125; (with_reducible refine (is_or B _ N _ _ hr.out).mono ?_); (with_reducible rw [E1.out, E2.out]); rintro e w2 ⟨rfl, h2, hF2⟩; have H2 := Lib.hid h2; obtain ⟨⟨R, off, c0, _⟩, c1, c2, f2, z2, _, few⟩ := h2; have g2 := f2 2; clear f2)
          go_ret
          exact ⟨ret_b (by rw [HU2.out]), ⟨[], by rw [HU2.out]; exact H2.out.put _⟩, (hFr.trans hF2).trans (frm_at _ _ _ _)⟩
      | cons x r =>
        cases b'
        all_goals
          go_wp2_with (go_at_call 125; (with_reducible refine (is_or B _ N _ _ hr.out).mono ?_); (with_reducible rw [E1.out, E2.out]); rintro e w2 ⟨rfl, h2, hF2⟩; have H2 := Lib.hid h2; obtain ⟨⟨R, off, c0, _⟩, c1, c2, f2, z2, _, few⟩ := h2; have g2 := f2 2; clear f2; rw [List.length_cons] at c0 few)
          go_ret
          exact ⟨ret_b (by rw [HU2.out]), ⟨x :: r, by rw [HU2.out]; exact H2.out.put _⟩, (hFr.trans hF2).trans (frm_at _ _ _ _)⟩
/-- What the parts of a rule's text are. -/
def wds (s : List UInt8) : List (List UInt8) := spl 32 s
theorem ws_new (w : World) (P : List (List UInt8)) (n : Int) (h1 : ∀ x ∈ P, x.length ≤ 7000) (h2 : P.length ≤ 1000000) :
    WS (w.heap.size + 1) P n true ((w.alloc (.cells (P.map fun l => Value.string ⟨l.toArray⟩).toArray 9)).alloc (.cells #[.slice (some ⟨w.heap.size, 0, none⟩) P.length P.length, .int .i64 n, .bool false] 127)) := by
  refine ⟨⟨w.heap.size, 0, by simp, by simp; omega, by omega, fun i hi => ?_⟩, by simp, by simp, fun o => by simp, by simp, h1, h2⟩
  rw [World.cell?_alloc_lt _ _ _ (by simp), World.cell?_alloc_new]
  simp [hi]
set_option maxRecDepth 100000 in
set_option maxHeartbeats 1000000 in
theorem read_c (s : List UInt8) (N : Nat) (w : World) (hN : (N : Int) ≤ 4611686018427387904) (hm : Lm w) (hs : s.length ≤ 7000) :
    Calls Tryz.prog 57 #[.string ⟨s.toArray⟩, .int .i64 (N : Int)] w fun e w' => e = .returned (.tuple #[.bool (rul N (wds s)).1, .bool ((rul N (wds s)).2 && decide (s.length ≤ 200))]) ∧ Ext w w' := by
  have Hm := Lib.hid hm
  have hlt := hm.lt
  have hPc := spl_count 32 s
  have HN := Lib.hid (ws_new w (spl 32 s) N (fun x hx => Nat.le_trans (spl_len 32 s x hx) hs) (by omega))
  have Hm2 := Lib.hid (hm.ext (((Ext.refl w).alloc (.cells ((spl 32 s).map fun l => Value.string ⟨l.toArray⟩).toArray 9)).alloc (.cells #[.slice (some ⟨w.heap.size, 0, none⟩) (spl 32 s).length (spl 32 s).length, .int .i64 (N : Int), .bool false] 127)))
  have HG : Hid (0 ≠ w.heap.size + 1) := by unfold Hid; omega
  unfold wds
  generalize hrv : (rul N (spl 32 s)).2 = rv
  have Hrv := Lib.hid hrv
  clear hm hrv
  cases rv
  all_goals
    go_enter Tryz.func57, Tryz.ntmps57
    go_wp2_with (first
      | (go_at_call 16; (with_reducible refine (split_c s 32 _ Hm.out (by omega)).mono ?_); rintro e w2 ⟨rfl, rfl⟩)
      | (go_at_call 97; (with_reducible refine (rule_c (w.heap.size + 1) (spl 32 s) N _ HN.out hN Hm2.out HG.out).mono ?_); (with_reducible rw [Hrv.out]); rintro e w3 ⟨rfl, ⟨r, h3⟩, hF3⟩; have c2 := h3.fail; have z2 := h3.lt; clear h3))
    go_ret2
    refine ⟨?_, Frm.far (((Ext.refl w).alloc _).alloc _) hF3 (by intro k hk; unfold At; omega)⟩
    first | rfl | (congr 3; simp <;> omega)
theorem size_c (n : Int) (w : World) (h1 : -4611686018427387904 ≤ n) (h2 : n ≤ 4611686018427387904) :
    Calls Tryz.prog 58 #[.int .i64 n] w fun e w' => e = .returned (.int .i64 (n.natAbs : Nat)) ∧ w = w' := by
  have Hz : Hid (((n.natAbs : Nat) : Int) = if -n < n then n else -n) := by unfold Hid; split <;> omega
  by_cases h : -n < n
  all_goals
    go_enter Tryz.func58, Tryz.ntmps58
    go_wp2
    go_ret
    exact ⟨ret_i (by rw [Hz.out]; first | (split <;> omega) | (simp [h] <;> omega)), rfl⟩
def inrB (n : Int) : Bool := decide (-4611686018427387904 ≤ n ∧ n ≤ 4611686018427387904)
theorem inr_c (n : Int) (w : World) : Calls Tryz.prog 56 #[.int .i64 n] w fun e w' => e = .returned (.bool (inrB n)) ∧ w = w' := by
  by_cases a : -4611686018427387904 ≤ n
  · by_cases c : n ≤ 4611686018427387904
    all_goals
      go_enter Tryz.func56, Tryz.ntmps56
      go_wp2
      go_ret
      exact ⟨ret_b (by simp [inrB, a, c]), rfl⟩
  · have d : decide (-4611686018427387904 ≤ n) = false := by simp; omega
    go_enter Tryz.func56, Tryz.ntmps56
    go_wp2
    go_ret
    exact ⟨ret_b (by simp [inrB] <;> omega), rfl⟩
/-- Whether a text is a rule. -/
def okR (s : List UInt8) : Bool := (rul 0 (wds s)).2 && decide (s.length ≤ 200)
theorem isRule_c (s : List UInt8) (w : World) (hm : Lm w) (hs : s.length ≤ 7000) :
    Calls Tryz.prog 55 #[.string ⟨s.toArray⟩] w fun e w' => e = .returned (.bool (okR s)) ∧ Ext w w' := by
  have Hm := Lib.hid hm
  clear hm
  have HO : Hid (((rul 0 (wds s)).2 && decide (s.length ≤ 200)) = okR s) := rfl
  go_enter Tryz.func55, Tryz.ntmps55
  go_wp2_with (go_at_call 57; refine (read_c s 0 _ (by omega) Hm.out hs).mono ?_; (with_reducible rw [HO.out]); rintro e w1 ⟨rfl, hE1⟩)
  go_ret
  exact ⟨rfl, hE1⟩
def hoE (s : List UInt8) (n : Int) : Int := if okR s = false then 3 else if inrB n = false then 2 else 0
def hoV (s : List UInt8) (n : Int) : Bool := if hoE s n = 0 then (rul n.natAbs (wds s)).1 else false
theorem holds_c (s : List UInt8) (n : Int) (w : World) (hm : Lm w) (hs : s.length ≤ 7000) :
    Calls Tryz.prog 14 #[.string ⟨s.toArray⟩, .int .i64 n] w fun e w' => e = .returned (.tuple #[.bool (hoV s n), .int .i64 (hoE s n)]) ∧ Ext w w' := by
  have Hm := Lib.hid hm
  clear hm
  rcases Bool.eq_false_or_eq_true (okR s) with h1 | h1
  · rcases Bool.eq_false_or_eq_true (inrB n) with h2 | h2
    · have HE : Hid (hoE s n = 0) := by simp [Hid, hoE, h1, h2]
      have HV : Hid (hoV s n = (rul n.natAbs (wds s)).1) := by simp [Hid, hoV, HE.out]
      obtain ⟨a, c⟩ : -4611686018427387904 ≤ n ∧ n ≤ 4611686018427387904 := of_decide_eq_true h2
      go_enter Tryz.func14, Tryz.ntmps14
      go_wp2_with (first
        | (go_at_call 55; refine (isRule_c s _ Hm.out hs).mono ?_; rw [h1]; rintro e w1 ⟨rfl, hE1⟩; have Hm1 := Lib.hid (Hm.out.ext hE1))
        | (go_at_call 56; refine (inr_c n _).mono ?_; rw [h2]; rintro e w2 ⟨rfl, rfl⟩)
        | (go_at_call 58; refine (size_c n _ a c).mono ?_; rintro e w3 ⟨rfl, rfl⟩)
        | (go_at_call 57; refine (read_c s n.natAbs _ (by omega) Hm1.out hs).mono ?_; rintro e w4 ⟨rfl, hE4⟩))
      go_ret2
      exact ⟨by rw [HE.out, HV.out]; rfl, hE1.trans hE4⟩
    · have HE : Hid (hoE s n = 2) := by simp [Hid, hoE, h1, h2]
      have HV : Hid (hoV s n = false) := by simp [Hid, hoV, HE.out]
      go_enter Tryz.func14, Tryz.ntmps14
      go_wp2_with (first
        | (go_at_call 55; refine (isRule_c s _ Hm.out hs).mono ?_; rw [h1]; rintro e w1 ⟨rfl, hE1⟩; have Hm1 := Lib.hid (Hm.out.ext hE1))
        | (go_at_call 56; refine (inr_c n _).mono ?_; rw [h2]; rintro e w2 ⟨rfl, rfl⟩))
      go_ret2
      exact ⟨by rw [HE.out, HV.out]; rfl, hE1⟩
  · have HE : Hid (hoE s n = 3) := by simp [Hid, hoE, h1]
    have HV : Hid (hoV s n = false) := by simp [Hid, hoV, HE.out]
    go_enter Tryz.func14, Tryz.ntmps14
    go_wp2_with (first
      | (go_at_call 55; refine (isRule_c s _ Hm.out hs).mono ?_; rw [h1]; rintro e w1 ⟨rfl, hE1⟩; have Hm1 := Lib.hid (Hm.out.ext hE1)))
    go_ret2
    exact ⟨by rw [HE.out, HV.out]; rfl, hE1⟩
end Go.Proofs.YtnhdmnhfllecgaaGreatDoor
/- Locales: slices of categories in a world; what is a valid list of them. -/
namespace Go.Proofs.YtnhdmnhfllecgaaGreatDoor
set_option linter.unusedVariables false
set_option linter.unusedSimpArgs false
open Go.RowKit

structure Plu where
  c : List UInt8
  r : List UInt8
def RdPl (l : List Plu) (R off : Nat) (w : World) : Prop := R < w.heap.size ∧ ∀ i (h : i < l.length),
  w.cell? ⟨R, off + i * 2, none⟩ = some (.string ⟨l[i].c.toArray⟩) ∧ w.cell? ⟨R, off + i * 2 + 1, none⟩ = some (.string ⟨l[i].r.toArray⟩)
theorem RdPl.ext {l : List Plu} {R off : Nat} {w w' : World} (h : RdPl l R off w) (hE : Ext w w') : RdPl l R off w' := by
  refine ⟨hE.lt h.1, fun i hi => ?_⟩
  obtain ⟨a, b⟩ := h.2 i hi
  exact ⟨(hE.cells _ _ h.1).trans a, (hE.cells _ _ h.1).trans b⟩
/-- A slice of categories. -/
def PlV (ao : Option Addr) (cap : Nat) (l : List Plu) (w : World) : Prop :=
  l.length ≤ cap ∧ cap ≤ maxLen ∧ (l ≠ [] → ∃ R off, ao = some ⟨R, off, none⟩ ∧ RdPl l R off w)
theorem PlV.ext {ao : Option Addr} {cap : Nat} {l : List Plu} {w w' : World} (h : PlV ao cap l w) (hE : Ext w w') : PlV ao cap l w' := by
  refine ⟨h.1, h.2.1, fun hl => ?_⟩
  obtain ⟨R, off, e, hR⟩ := h.2.2 hl
  exact ⟨R, off, e, hR.ext hE⟩
theorem PlV.nil (w : World) : PlV none 0 [] w := ⟨Nat.le_refl _, by decide, fun h => absurd rfl h⟩
/-- Texts of a moderate length. -/
def shP (l : List Plu) : Prop := ∀ p ∈ l, p.c.length ≤ 7000 ∧ p.r.length ≤ 7000
/-- The rule at a place: empty at the end, a rule elsewhere. -/
def rdAt (l : List Plu) (i : Nat) : Prop := ∀ h : i < l.length, (i + 1 = l.length → l[i].r = []) ∧ (i + 1 ≠ l.length → okR l[i].r = true)
instance (l : List Plu) (i : Nat) : Decidable (rdAt l i) := by unfold rdAt; exact inferInstance
def ruledB (l : List Plu) : Bool := decide (1 ≤ l.length) && decide (l.length ≤ 8) && decide (∀ i, i < l.length → rdAt l i)
def rulB (good : List UInt8 → Bool) (l : List Plu) : Bool := ruledB l && l.all fun p => good p.c
theorem ruled_no {l : List Plu} (i : Nat) (hi : i < l.length) (h : ¬ rdAt l i) : ruledB l = false := by
  unfold ruledB
  have e : decide (∀ i, i < l.length → rdAt l i) = false := decide_eq_false (fun q => h (q i hi))
  rw [e]
  simp
theorem ruled_yes {l : List Plu} (h1 : 1 ≤ l.length) (h2 : l.length ≤ 8) (h : ∀ i, i < l.length → rdAt l i) : ruledB l = true := by
  unfold ruledB
  have e : decide (∀ i, i < l.length → rdAt l i) = true := decide_eq_true h
  rw [decide_eq_true h1, decide_eq_true h2, e]; rfl
theorem all_plu {good : List UInt8 → Bool} {l : List Plu} (h : ∀ i (hi : i < l.length), good l[i].c = true) : (l.all fun p => good p.c) = true := by
  rw [List.all_eq_true]
  intro p hp
  obtain ⟨i, hi, rfl⟩ := List.mem_iff_getElem.1 hp
  exact h i hi
theorem all_plu_no {good : List UInt8 → Bool} {l : List Plu} (i : Nat) (hi : i < l.length) (h : good l[i].c = false) : (l.all fun p => good p.c) = false := by
  rw [List.all_eq_false]; exact ⟨l[i], List.getElem_mem _, by simp [h]⟩
end Go.Proofs.YtnhdmnhfllecgaaGreatDoor
/- A map literal's entries; plain laws at the operations. -/
namespace Go.Proofs.YtnhdmnhfllecgaaGreatDoor
set_option linter.unusedVariables false
set_option linter.unusedSimpArgs false
open Go.RowKit Go.Maps

theorem wpList_insert_own {H : Type} {P : Program} (w : World) {ops : Array Oper} {rest : List Oper} {o : Oper} {a : Act} {Q : Exit → Act → World → Prop}
    (hg : o.guard = none) (m x v : Operand) (t : TypeId) (hop : o.op = Op.insert t m x v)
    (k e : TypeId) (K : Keyed P k) (ht : P.underlying t = some (.map k e)) (R : Value → Option (DataW H × List MemPlace)) (b n : Nat) (D : DataW H)
    (hm : a.eval m = .map (some b)) (hown : w.ownsMap P k R b n D) (hn : n < maxLen) (key val : Value) (kl : Lit) (hx : a.eval x = key) (hv : a.eval v = val) (hkey : keyOf P k key = some kl)
    (d : DataW H) (ps : List MemPlace) (hval : R val = some (d, ps))
    (hK : ∀ w', w'.ownsMap P k R b (n + 1) (D.put kl d) → w.grownBy w' (some b) → wpList P ops Q rest (a.put o.dst undef) w') :
    wpList P ops Q (o :: rest) a w := by
  refine wpList_plain hg fun K' hK' => ?_
  obtain ⟨w', hrun, r1, r2⟩ := hown.update K ht hn hkey hval
  unfold Oper.wp
  simp [execOp, hop, hm, hx, hv, hrun, Result.andThen]
  exact hK' _ _ (hK w' r1 r2)
theorem ext_grown_at {a b c : World} {g : Nat} (h : Ext a b) (hg : b.grownBy c (some g)) (hb : a.heap.size ≤ g) : Ext a c := by
  refine ⟨hg.os.trans h.os, hg.tape.trans h.tape, hg.output.trans h.output, Nat.le_trans h.size hg.size, fun k hk => ?_⟩
  rw [hg.block k (Nat.lt_of_lt_of_le hk h.size) (by intro e; injection e with e; omega)]
  exact h.block k hk
theorem ext_grown_none {a b c : World} (h : Ext a b) (hg : b.grownBy c none) : Ext a c := by
  refine ⟨hg.os.trans h.os, hg.tape.trans h.tape, hg.output.trans h.output, Nat.le_trans h.size hg.size, fun k hk => ?_⟩
  rw [hg.block k (Nat.lt_of_lt_of_le hk h.size) (by intro e; cases e)]
  exact h.block k hk
theorem grown_ext {a b : World} (h : Ext a b) (row : Option Nat) : a.grownBy b row := ⟨h.os, h.tape, h.output, h.size, fun k hk _ => h.block k hk⟩
end Go.Proofs.YtnhdmnhfllecgaaGreatDoor
