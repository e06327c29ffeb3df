/- The walks of the reader of words: rules. -/
import Derived.Test.YtbagbnceiadpdaaDoorWrd5
namespace Go.Proofs.YtbagbnceiadpdaaDoor
set_option linter.unusedVariables false
set_option linter.unusedSimpArgs false
open Go.RowKit

theorem WS.put {B : Nat} {ws : List (List UInt8)} {n : Int} {b : Bool} {w : World} (h : WS B ws n b w) (b' : Bool) : WS B ws n b' (w.setCell ⟨B, 2, none⟩ (.bool (!b'))) := by
  obtain ⟨⟨R, off, c0, hR, hRB, hc⟩, c1, c2, hf, hB, hs, hw⟩ := h
  refine ⟨⟨R, off, (World.cell?_setCell_other _ _ _ _ (by simp)).trans c0, by simpa using hR, hRB, fun i hi => (World.cell?_setCell_other _ _ _ _ (by simp <;> omega)).trans (hc i hi)⟩, (World.cell?_setCell_other _ _ _ _ (by simp)).trans c1, World.cell?_setCell_same _ _ _ c2, fun o => by rw [World.frozen?_setCell]; exact hf o, by simpa using hB, hs, hw⟩
set_option maxRecDepth 100000 in
set_option maxHeartbeats 1000000 in
theorem rule_c (B : Nat) (ws : List (List UInt8)) (N : Nat) (w : World) (h : WS B ws N true w) (hN : (N : Int) ≤ 4611686018427387904) (hm : Lm w) (hG : 0 ≠ B) :
    Calls Tryd.prog 28 #[.pointer (some ⟨B, 0, none⟩)] w fun e w' => e = .returned (.bool (rul N ws).1) ∧ (∃ r, WS B r N (rul N ws).2 w') ∧ Frm (At B) w w' := by
  have H := Lib.hid h
  have Hm := Lib.hid hm
  clear h hm
  obtain ⟨T, hT⟩ : ∃ T, T = ruL N (grp N ws true).1 (grp N ws true).2.1 (grp N ws true).2.2 := ⟨_, rfl⟩
  have HT := Lib.hid hT.symm
  have HU : Hid (rul N ws = (T.1, T.2.2 && T.2.1.isEmpty)) := by rw [Hid, hT]; rfl
  clear hT
  go_enter Tryd.func28, Tryd.ntmps28
  go_wp2_with (go_at_call 43; (with_reducible refine (group_c B ws N true _ H.out hN Hm.out hG).mono ?_); rintro e w1 ⟨rfl, h1, hF1⟩; have H1 := Lib.hid h1; clear h1; have Hm1 := Lib.hid (lm_at Hm.out hF1 hG))
  go_loopw [3] (fun hv wr => ∃ (hb b' : Bool) (ws' : List (List UInt8)), hv = .bool hb ∧ Hid (WS B ws' N b' wr) ∧ Hid (ruL N hb ws' b' = T) ∧ Frm (At B) w wr ∧ Hid (Lm wr)) (fun _ wr => wlen B wr)
  case atStart => exact ⟨_, _, _, rfl, H1, HT, hF1, Hm1⟩
  case round =>
    obtain ⟨hb, b', ws', rfl, hr, HTr, hFr, Hmr⟩ := hrel
    by_cases ha : ws'.head? = some wOr
    · obtain ⟨e1, e2⟩ := isB_true ha
      obtain ⟨r, hr2⟩ : ∃ r, ws' = wOr :: r := by
        cases ws' with
        | nil => cases ha
        | cons x r => exact ⟨r, by rw [Option.some.inj ha]⟩
      have HT2 : Hid (ruL N ((grp N r b').1 || hb) (grp N r b').2.1 (grp N r b').2.2 = T) := by
        have := HTr.out
        rw [hr2, ruL_or] at this
        exact this
      have e3 : tl1 ws' = r := by rw [hr2]; rfl
      rw [e3] at e2
      have E1 := Lib.hid e1
      have E2 := Lib.hid e2
      have Hlen : Hid (wlen B wr = r.length + 1) := by rw [Hid, wlen_eq hr.out, hr2]; rfl
      clear ha e1 e2 e3 hr2 HT H H1 Hm Hm1 HTr
      obtain ⟨tv, htv⟩ : ∃ tv, tv = (grp N r b').1 := ⟨_, rfl⟩
      have Htv := Lib.hid htv
      rw [← htv] at HT2
      clear htv
      cases tv
      all_goals
        go_wp2_with (first
          | (go_at_call 44; (with_reducible refine (is_or B ws' N b' _ hr.out).mono ?_); (with_reducible rw [E1.out, E2.out]); rintro e w2 ⟨rfl, h2, hF2⟩; have H2 := Lib.hid h2; clear h2; have Hm2 := Lib.hid (lm_at Hmr.out hF2 hG))
          | (go_at_call 43; (with_reducible refine (group_c B r N b' _ H2.out hN Hm2.out hG).mono ?_); (with_reducible rw [← Htv.out]); rintro e w3 ⟨rfl, h3, hF3⟩))
        go_roundw
        case rel => exact ⟨_, _, _, rfl, h3, HT2, (hFr.trans hF2).trans hF3, lm_at Hm2.out hF3 hG⟩
        case measure =>
          rw [wlen_eq h3, Hlen.out]
          have := grp_len N r b'
          omega
    · obtain ⟨e1, e2⟩ := isB_false ha
      have HT2 : Hid (T = (hb, ws', b')) := by
        rw [Hid, ← HTr.out]
        cases ws' with
        | nil => rw [ruL_nil]
        | cons x r => rw [ruL_no _ _ _ _ _ (fun q => ha (by rw [q]; rfl))]
      have E1 := Lib.hid e1
      have E2 := Lib.hid e2
      clear ha e1 e2 HT H H1 Hm Hm1 HTr
      have HU2 : Hid (rul N ws = (hb, b' && ws'.isEmpty)) := by rw [Hid, HU.out, HT2.out]
      clear HU HT2
      cases ws' with
      | nil =>
        cases b'
        all_goals
          go_wp2_with (go_at_call 44; (with_reducible refine (is_or B _ N _ _ hr.out).mono ?_); (with_reducible rw [E1.out, E2.out]); rintro e w2 ⟨rfl, h2, hF2⟩; have H2 := Lib.hid h2; obtain ⟨⟨R, off, c0, _⟩, c1, c2, f2, z2, _, few⟩ := h2; have g2 := f2 2; clear f2)
          go_ret
          exact ⟨ret_b (by rw [HU2.out]), ⟨[], by rw [HU2.out]; exact H2.out.put _⟩, (hFr.trans hF2).trans (frm_at _ _ _ _)⟩
      | cons x r =>
        cases b'
        all_goals
          go_wp2_with (go_at_call 44; (with_reducible refine (is_or B _ N _ _ hr.out).mono ?_); (with_reducible rw [E1.out, E2.out]); rintro e w2 ⟨rfl, h2, hF2⟩; have H2 := Lib.hid h2; obtain ⟨⟨R, off, c0, _⟩, c1, c2, f2, z2, _, few⟩ := h2; have g2 := f2 2; clear f2; rw [List.length_cons] at c0 few)
          go_ret
          exact ⟨ret_b (by rw [HU2.out]), ⟨x :: r, by rw [HU2.out]; exact H2.out.put _⟩, (hFr.trans hF2).trans (frm_at _ _ _ _)⟩
/-- What the parts of a rule's text are. -/
def wds (s : List UInt8) : List (List UInt8) := spl 32 s
theorem ws_new (w : World) (P : List (List UInt8)) (n : Int) (h1 : ∀ x ∈ P, x.length ≤ 4000) (h2 : P.length ≤ 1000000) :
    WS (w.heap.size + 1) P n true ((w.alloc (.cells (P.map fun l => Value.string ⟨l.toArray⟩).toArray 9)).alloc (.cells #[.slice (some ⟨w.heap.size, 0, none⟩) P.length P.length, .int .i64 n, .bool false] 57)) := by
  refine ⟨⟨w.heap.size, 0, by simp, by simp; omega, by omega, fun i hi => ?_⟩, by simp, by simp, fun o => by simp, by simp, h1, h2⟩
  rw [World.cell?_alloc_lt _ _ _ (by simp), World.cell?_alloc_new]
  simp [hi]
set_option maxRecDepth 100000 in
set_option maxHeartbeats 1000000 in
theorem read_c (s : List UInt8) (N : Nat) (w : World) (hN : (N : Int) ≤ 4611686018427387904) (hm : Lm w) (hs : s.length ≤ 4000) :
    Calls Tryd.prog 15 #[.string ⟨s.toArray⟩, .int .i64 (N : Int)] w fun e w' => e = .returned (.tuple #[.bool (rul N (wds s)).1, .bool ((rul N (wds s)).2 && decide (s.length ≤ 200))]) ∧ Ext w w' := by
  have Hm := Lib.hid hm
  have hlt := hm.lt
  have hPc := spl_count 32 s
  have HN := Lib.hid (ws_new w (spl 32 s) N (fun x hx => Nat.le_trans (spl_len 32 s x hx) hs) (by omega))
  have Hm2 := Lib.hid (hm.ext (((Ext.refl w).alloc (.cells ((spl 32 s).map fun l => Value.string ⟨l.toArray⟩).toArray 9)).alloc (.cells #[.slice (some ⟨w.heap.size, 0, none⟩) (spl 32 s).length (spl 32 s).length, .int .i64 (N : Int), .bool false] 57)))
  have HG : Hid (0 ≠ w.heap.size + 1) := by unfold Hid; omega
  unfold wds
  generalize hrv : (rul N (spl 32 s)).2 = rv
  have Hrv := Lib.hid hrv
  clear hm hrv
  cases rv
  all_goals
    go_enter Tryd.func15, Tryd.ntmps15
    go_wp2_with (first
      | (go_at_call 10; (with_reducible refine (split_c s 32 _ Hm.out (by omega)).mono ?_); rintro e w2 ⟨rfl, rfl⟩)
      | (go_at_call 28; (with_reducible refine (rule_c (w.heap.size + 1) (spl 32 s) N _ HN.out hN Hm2.out HG.out).mono ?_); (with_reducible rw [Hrv.out]); rintro e w3 ⟨rfl, ⟨r, h3⟩, hF3⟩; have c2 := h3.fail; have z2 := h3.lt; clear h3))
    go_ret2
    refine ⟨?_, Frm.far (((Ext.refl w).alloc _).alloc _) hF3 (by intro k hk; unfold At; omega)⟩
    first | rfl | (congr 3; simp <;> omega)
theorem size_c (n : Int) (w : World) (h1 : -4611686018427387904 ≤ n) (h2 : n ≤ 4611686018427387904) :
    Calls Tryd.prog 16 #[.int .i64 n] w fun e w' => e = .returned (.int .i64 (n.natAbs : Nat)) ∧ w = w' := by
  have Hz : Hid (((n.natAbs : Nat) : Int) = if -n < n then n else -n) := by unfold Hid; split <;> omega
  by_cases h : -n < n
  all_goals
    go_enter Tryd.func16, Tryd.ntmps16
    go_wp2
    go_ret
    exact ⟨ret_i (by rw [Hz.out]; first | (split <;> omega) | (simp [h] <;> omega)), rfl⟩
def inrB (n : Int) : Bool := decide (-4611686018427387904 ≤ n ∧ n ≤ 4611686018427387904)
theorem inr_c (n : Int) (w : World) : Calls Tryd.prog 14 #[.int .i64 n] w fun e w' => e = .returned (.bool (inrB n)) ∧ w = w' := by
  by_cases a : -4611686018427387904 ≤ n
  · by_cases c : n ≤ 4611686018427387904
    all_goals
      go_enter Tryd.func14, Tryd.ntmps14
      go_wp2
      go_ret
      exact ⟨ret_b (by simp [inrB, a, c]), rfl⟩
  · have d : decide (-4611686018427387904 ≤ n) = false := by simp; omega
    go_enter Tryd.func14, Tryd.ntmps14
    go_wp2
    go_ret
    exact ⟨ret_b (by simp [inrB] <;> omega), rfl⟩
/-- Whether a text is a rule. -/
def okR (s : List UInt8) : Bool := (rul 0 (wds s)).2 && decide (s.length ≤ 200)
theorem isRule_c (s : List UInt8) (w : World) (hm : Lm w) (hs : s.length ≤ 4000) :
    Calls Tryd.prog 13 #[.string ⟨s.toArray⟩] w fun e w' => e = .returned (.bool (okR s)) ∧ Ext w w' := by
  have Hm := Lib.hid hm
  clear hm
  have HO : Hid (((rul 0 (wds s)).2 && decide (s.length ≤ 200)) = okR s) := rfl
  go_enter Tryd.func13, Tryd.ntmps13
  go_wp2_with (go_at_call 15; refine (read_c s 0 _ (by omega) Hm.out hs).mono ?_; (with_reducible rw [HO.out]); rintro e w1 ⟨rfl, hE1⟩)
  go_ret
  exact ⟨rfl, hE1⟩
def hoE (s : List UInt8) (n : Int) : Int := if okR s = false then 3 else if inrB n = false then 2 else 0
def hoV (s : List UInt8) (n : Int) : Bool := if hoE s n = 0 then (rul n.natAbs (wds s)).1 else false
theorem holds_c (s : List UInt8) (n : Int) (w : World) (hm : Lm w) (hs : s.length ≤ 4000) :
    Calls Tryd.prog 7 #[.string ⟨s.toArray⟩, .int .i64 n] w fun e w' => e = .returned (.tuple #[.bool (hoV s n), .int .i64 (hoE s n)]) ∧ Ext w w' := by
  have Hm := Lib.hid hm
  clear hm
  rcases Bool.eq_false_or_eq_true (okR s) with h1 | h1
  · rcases Bool.eq_false_or_eq_true (inrB n) with h2 | h2
    · have HE : Hid (hoE s n = 0) := by simp [Hid, hoE, h1, h2]
      have HV : Hid (hoV s n = (rul n.natAbs (wds s)).1) := by simp [Hid, hoV, HE.out]
      obtain ⟨a, c⟩ : -4611686018427387904 ≤ n ∧ n ≤ 4611686018427387904 := of_decide_eq_true h2
      go_enter Tryd.func7, Tryd.ntmps7
      go_wp2_with (first
        | (go_at_call 13; refine (isRule_c s _ Hm.out hs).mono ?_; rw [h1]; rintro e w1 ⟨rfl, hE1⟩; have Hm1 := Lib.hid (Hm.out.ext hE1))
        | (go_at_call 14; refine (inr_c n _).mono ?_; rw [h2]; rintro e w2 ⟨rfl, rfl⟩)
        | (go_at_call 16; refine (size_c n _ a c).mono ?_; rintro e w3 ⟨rfl, rfl⟩)
        | (go_at_call 15; refine (read_c s n.natAbs _ (by omega) Hm1.out hs).mono ?_; rintro e w4 ⟨rfl, hE4⟩))
      go_ret2
      exact ⟨by rw [HE.out, HV.out]; rfl, hE1.trans hE4⟩
    · have HE : Hid (hoE s n = 2) := by simp [Hid, hoE, h1, h2]
      have HV : Hid (hoV s n = false) := by simp [Hid, hoV, HE.out]
      go_enter Tryd.func7, Tryd.ntmps7
      go_wp2_with (first
        | (go_at_call 13; refine (isRule_c s _ Hm.out hs).mono ?_; rw [h1]; rintro e w1 ⟨rfl, hE1⟩; have Hm1 := Lib.hid (Hm.out.ext hE1))
        | (go_at_call 14; refine (inr_c n _).mono ?_; rw [h2]; rintro e w2 ⟨rfl, rfl⟩))
      go_ret2
      exact ⟨by rw [HE.out, HV.out]; rfl, hE1⟩
  · have HE : Hid (hoE s n = 3) := by simp [Hid, hoE, h1]
    have HV : Hid (hoV s n = false) := by simp [Hid, hoV, HE.out]
    go_enter Tryd.func7, Tryd.ntmps7
    go_wp2_with (first
      | (go_at_call 13; refine (isRule_c s _ Hm.out hs).mono ?_; rw [h1]; rintro e w1 ⟨rfl, hE1⟩; have Hm1 := Lib.hid (Hm.out.ext hE1)))
    go_ret2
    exact ⟨by rw [HE.out, HV.out]; rfl, hE1⟩
end Go.Proofs.YtbagbnceiadpdaaDoor
