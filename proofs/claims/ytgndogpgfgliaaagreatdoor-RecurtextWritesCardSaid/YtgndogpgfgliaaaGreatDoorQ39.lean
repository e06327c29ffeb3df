/- Recurrence rules: the parts of a text in another order, plainly; slices.Clone, slices.Reverse at a list of strings. -/
import Derived.Test.YtgndogpgfgliaaaGreatDoorQ38
import Derived.Test.YtgndogpgfgliaaaGreatDoorQ13
import Derived.Test.YtgndogpgfgliaaaGreatDoorQ29
import Derived.Test.YtgndogpgfgliaaaGreatDoorQ17
import Derived.Test.YtgndogpgfgliaaaGreatDoorQ24
import Derived.Test.YtgndogpgfgliaaaGreatDoorQ20
import Derived.Test.YtgndogpgfgliaaaGreatDoorQ31
import Derived.Test.YtgndogpgfgliaaaGreatDoorShelf2
import Derived.Sort.OwnSorted
namespace Go.Proofs.YtgndogpgfgliaaaGreatDoor
set_option linter.unusedVariables false
set_option linter.unnecessarySimpa false
set_option linter.unusedSimpArgs false
open Go.RowKit Go.Sort Go.Lib

theorem lens_app (a b : List (List UInt8)) : Lib.lens (a ++ b) = Lib.lens a + Lib.lens b := by simp [Lib.lens]
theorem lens_rev : ∀ a : List (List UInt8), Lib.lens a.reverse = Lib.lens a
  | [] => rfl
  | x :: r => by rw [List.reverse_cons, lens_app, lens_rev r]; simp [Lib.lens]; omega
theorem joinl : ∀ l : List (List UInt8), l ≠ [] → (Lib.join l [59]).length + 1 = Lib.lens l + l.length
  | [], h => absurd rfl h
  | x :: r, _ => by rw [Lib.join_length]; simp; omega
theorem joinl_eq {l m : List (List UInt8)} (h : l ≠ []) (h1 : Lib.lens l = Lib.lens m) (h2 : l.length = m.length) : (Lib.join l [59]).length = (Lib.join m [59]).length := by
  have hm : m ≠ [] := fun e => by rw [e] at h2; exact h (List.length_eq_zero_iff.1 h2)
  have := joinl l h
  have := joinl m hm
  omega
/-- The parts of a valid rule's text. -/
noncomputable def prts (R : RecD) : List (List UInt8) := (ksZ momT R).map (ptxZ momT R)
theorem prts_ne {R : RecD} (h : vldR R = true) : prts R ≠ [] := by
  have h2 := vld_rd mom_ok h
  intro e
  have h0 : (0 : Nat) ∈ ksZ momT R := by
    rw [ks_mem]
    refine ⟨by omega, fun e => ?_⟩
    have h3 := wrt_nil h2.1 h2.2 0 (by omega) e
    have h1 := h2.1.fr.1
    have e2 : RecD.start.fr = R.fr := h3
    rw [← e2] at h1
    exact absurd h1 (by decide)
  unfold prts at e
  rw [List.map_eq_nil_iff] at e
  rw [e] at h0
  cases h0
theorem prts_len (R : RecD) : (prts R).length ≤ 14 := by
  unfold prts ksZ
  rw [List.length_map]
  exact Nat.le_trans (List.length_filter_le _ _) (by simp)
theorem prts_txt (R : RecD) : txtZ momT R = Lib.join (prts R) [59] := rfl
theorem prts_cl {R : RecD} (h : vldR R = true) : ∀ a ∈ prts R, Cl 59 a := by
  intro a ha
  obtain ⟨k, hk, rfl⟩ := List.mem_map.1 ha
  exact ptx_cl (vld_rd mom_ok h).1 k ((ks_mem momT R k).1 hk).1
theorem prts_spl {R : RecD} (h : vldR R = true) : spl 59 (txtZ momT R) = prts R := uSpl_join 59 _ (prts_ne h) (prts_cl h)
theorem prts_turn {R : RecD} (h : vldR R = true) (n : Nat) : (Lib.join ((prts R).drop n ++ (prts R).take n) [59]).length ≤ 3100 ∧ parZ untZ vldR (Lib.join ((prts R).drop n ++ (prts R).take n) [59]) = .ok R := by
  have h2 := vld_rd mom_ok h
  have hl : (Lib.join ((prts R).drop n ++ (prts R).take n) [59]).length ≤ 3100 := by
    have e : (prts R).drop n ++ (prts R).take n ≠ [] := fun e => by
      have := congrArg List.length e
      rw [List.length_append, List.length_drop, List.length_take, List.length_nil] at this
      exact prts_ne h (List.length_eq_zero_iff.1 (by omega))
    rw [joinl_eq e (m := prts R) ?_ ?_]
    · exact txt_len mom_ok h
    · rw [lens_app, Nat.add_comm, ← lens_app, List.take_append_drop]
    · have := congrArg List.length ((prts R).take_append_drop n)
      simp at this ⊢
      omega
  refine ⟨hl, ?_⟩
  have e : (prts R).drop n ++ (prts R).take n = ((ksZ momT R).drop n ++ (ksZ momT R).take n).map (ptxZ momT R) := by
    unfold prts; rw [List.map_append, List.map_drop, List.map_take]
  rw [e] at hl ⊢
  have key := fun a b => par_ks h2.1 vldR h2.2 ((ksZ momT R).drop n ++ (ksZ momT R).take n) a b (Nat.le_trans hl (by decide))
  rw [if_pos h] at key
  refine key ?_ ?_
  · have hn := ks_nodup momT R
    rw [← (ksZ momT R).take_append_drop n] at hn
    rw [List.nodup_append] at hn ⊢
    exact ⟨hn.2.1, hn.1, fun a ha b hb e => hn.2.2 b hb a ha e.symm⟩
  · intro k
    rw [← ks_mem momT R k]
    constructor
    · intro q
      rcases List.mem_append.1 q with q | q
      · exact List.mem_of_mem_drop q
      · exact List.mem_of_mem_take q
    · intro q
      rw [← (ksZ momT R).take_append_drop n] at q
      exact List.mem_append.2 (List.mem_append.1 q).symm
theorem prts_back {R : RecD} (h : vldR R = true) : (Lib.join (prts R).reverse [59]).length ≤ 3100 ∧ parZ untZ vldR (Lib.join (prts R).reverse [59]) = .ok R := by
  have h2 := vld_rd mom_ok h
  have hl : (Lib.join (prts R).reverse [59]).length ≤ 3100 := by
    rw [joinl_eq (m := prts R) (by simpa using prts_ne h) (lens_rev _) (by simp)]
    exact txt_len mom_ok h
  refine ⟨hl, ?_⟩
  have e : (prts R).reverse = (ksZ momT R).reverse.map (ptxZ momT R) := by unfold prts; rw [List.map_reverse]
  rw [e] at hl ⊢
  have key := par_ks h2.1 vldR h2.2 (ksZ momT R).reverse (List.pairwise_reverse.2 ((ks_nodup momT R).imp fun h => h.symm)) (fun k => by rw [List.mem_reverse]; exact ks_mem momT R k) (Nat.le_trans hl (by decide))
  rw [if_pos h] at key
  exact key
theorem prts_twice {R : RecD} (h : vldR R = true) (n : Nat) (hn : n < (prts R).length) (hl : (txtZ momT R).length + (prts R)[n].length ≤ 3999) : parZ untZ vldR (txtZ momT R ++ 59 :: (prts R)[n]) = .er 8 := by
  have h2 := vld_rd mom_ok h
  have hk : n < (ksZ momT R).length := by unfold prts at hn; simpa using hn
  have e : (prts R)[n] = ptxZ momT R (ksZ momT R)[n] := List.getElem_map _
  rw [e] at hl ⊢
  exact par_twice h2.1 vldR _ (ks_nodup momT R) (ks_mem momT R) _ (List.getElem_mem hk) (by
    have e2 : Lib.join ((ksZ momT R).map (ptxZ momT R)) [59] = txtZ momT R := rfl
    rw [e2, List.length_append, List.length_cons]; omega)
theorem sv_len (ws : List (List UInt8)) : (sv ws).length = ws.length := by unfold sv; simp
theorem clones_c (ws : List (List UInt8)) (R off cap : Nat) (w : World) (h : RdS ws R off w) (h0 : ws ≠ []) (hn : ws.length ≤ 1000) :
    Calls Tryz.prog 32 #[.slice (some ⟨R, off, none⟩) ws.length cap] w fun e w' => ∃ g cv, e = .returned (.slice (some ⟨g, 0, none⟩) ws.length cv) ∧ w'.ownsRow w.heap.size 9 1 (.slice (some ⟨g, 0, none⟩) ws.length cv) ws.length (sv ws) ∧ Ext w w' := by
  refine (Tryz.slices_Clone_string R off ws.length cap (ws.map fun l => (⟨l.toArray⟩ : ByteArray)) w (by simp) (by omega) (fun j hj => ?_)).mono ?_
  · have hj' : j < ws.length := by simpa using hj
    rw [h.2 j hj']
    simp [List.getD, hj']
  · rintro e w' ⟨v', rfl, hown, hne, hE⟩
    rw [List.take_of_length_le (by simp)] at hown
    have e2 : (ws.map fun l => (⟨l.toArray⟩ : ByteArray)).map Value.string = sv ws := by unfold sv; rw [List.map_map]; rfl
    rw [e2] at hown
    obtain ⟨g, cap', hv, -⟩ := RdS.of_own hown rfl h0
    subst hv
    exact ⟨g, cap', rfl, hown, hE⟩
theorem revs_c (ws : List (List UInt8)) (base g cv : Nat) (w : World) (hown : w.ownsRow base 9 1 (.slice (some ⟨g, 0, none⟩) ws.length cv) ws.length (sv ws)) (hn : ws.length ≤ 1000) :
    Calls Tryz.prog 33 #[.slice (some ⟨g, 0, none⟩) ws.length cv] w fun e w' => e = .returned (.tuple #[]) ∧ RdS ws.reverse g 0 w' ∧ ∀ V, V.heap.size ≤ base → Ext V w → Ext V w' := by
  rcases hown.2 with ⟨e0, _⟩ | ⟨g', cap', cur, e0, hb, hg, hn2, hm, hs, ht⟩
  · cases e0
  · injection e0 with e1 _ e3
    injection e1 with e1
    injection e1 with e1
    subst e1; subst e3
    have hH : Holds encStr w g 0 ws.toArray := holds_of_block hg (by rw [Nat.mul_one] at ht; exact ht)
    have hlt : g < w.heap.size := (Array.getElem?_eq_some_iff.1 hg).1
    refine (Tryz.slices_Reverse_string g 0 cv ws w hH (by omega)).mono ?_
    rintro e w' ⟨rfl, n, rfl⟩
    have hH2 := holds_putRow encStr (Sort.ahead w n) g 0 ws.toArray ws.reverse.toArray hH (by simp)
    refine ⟨rfl, ⟨?_, fun i hi => ?_⟩, fun V hV hE => ⟨hE.os, hE.tape, hE.output, ?_, fun k hk => ?_⟩⟩
    · simpa [putRow, mapBlock, Sort.ahead] using hlt
    · have := (hH2 i (by simpa using hi)).1
      rw [this]
      have hi' : i < ws.reverse.toArray.size := by simpa using hi
      rw [getElem!_pos _ i hi']
      simp
    · have := hE.size
      simpa [putRow, mapBlock, Sort.ahead] using this
    · rw [← hE.block k hk]
      have : g ≠ k := by omega
      simp [putRow, mapBlock, Sort.ahead, Array.getElem?_modify, this]
end Go.Proofs.YtgndogpgfgliaaaGreatDoor
/- Recurrence rules: the reference's within, Local (ref29). -/
namespace Go.Proofs.YtgndogpgfgliaaaGreatDoor
set_option linter.unusedVariables false
set_option linter.unnecessarySimpa false
set_option linter.unusedSimpArgs false
open Go.RowKit

set_option maxRecDepth 100000 in
set_option maxHeartbeats 4000000 in
theorem rwithin_c (zs : List Int) (ao : Option Addr) (cap : Nat) (lo hi : Int) (sg : Bool) (b : Bool) (w : World) (hV : IsV ao cap zs w) (h0 : 0 ≤ lo) (h1 : lo ≤ hi) (h2 : hi ≤ 999) (hb : btwZ zs lo hi sg = b) :
    Calls Tryz.prog 70 #[.slice ao zs.length cap, .int .i64 lo, .int .i64 hi, .bool sg] w fun e w' => e = .returned (.bool b) ∧ w = w' := by
  have hlen := hV.1
  have hcap := hV.2.1
  unfold maxLen at hcap
  have HL := Lib.hid hV.2.2
  unfold btwZ at hb
  by_cases g : 60 < zs.length
  · have t0 : decide ((60 : Int) < (zs.length : Int)) = true := decide_eq_true (by omega)
    have hb0 : b = false := by rw [← hb, decide_eq_false (by omega)]; rfl
    subst hb0
    clear hb hV
    go_enter Tryz.func70, Tryz.ntmps70
    go_wp2_with fail
    go_ret
    exact ⟨rfl, rfl⟩
  · have t0 : decide ((60 : Int) < (zs.length : Int)) = false := decide_eq_false (by omega)
    rw [decide_eq_true (by omega), Bool.true_and] at hb
    have HB := Lib.hid hb
    have w1 : IntKind.i64.wrap (0 - hi) = -hi := by rw [IntWalk.i64_in _ (by omega)]; omega
    have w2 : IntKind.i64.wrap (-hi) = -hi := IntWalk.i64_in _ (by omega)
    clear hb hV
    go_enter Tryz.func70, Tryz.ntmps70
    go_wp2_with fail
    go_loopw [9] (fun i wr => ∃ j : Nat, j ≤ zs.length ∧ i = .int .i64 (j : Int) ∧ Hid ((zs.take j).all (inZ lo hi sg) = true) ∧ w = wr) (fun i _ => zs.length - (intOf i).toNat)
    case atStart => exact ⟨0, Nat.zero_le _, rfl, rfl, rfl⟩
    case round =>
      obtain ⟨j, hj, rfl, Hall, rfl⟩ := hrel
      by_cases hlt : j < zs.length
      · obtain ⟨R, off, rfl, hR⟩ := HL.out (by rintro rfl; simp at hlt)
        have hRz := hR.1
        have x0 := hR.2 j hlt
        have Hs : Hid ((zs.take (j + 1)).all (inZ lo hi sg) = ((zs.take j).all (inZ lo hi sg) && inZ lo hi sg zs[j])) := by rw [Hid, List.take_succ_eq_append_getElem hlt, List.all_append]; simp
        have hmem : zs[j] ∈ zs := List.getElem_mem _
        obtain ⟨n, hn⟩ : ∃ n, n = zs[j] := ⟨_, rfl⟩
        rw [← hn] at x0 Hs hmem
        have HNo : Hid (inZ lo hi sg n = false → b = false) := fun q => by rw [← HB.out, List.all_eq_false]; exact ⟨n, hmem, by simp [q]⟩
        have HYs : Hid (inZ lo hi sg n = true → (zs.take (j + 1)).all (inZ lo hi sg) = true) := fun q => by rw [Hs.out, Hall.out, q]; rfl
        have HI : Hid (inZ lo hi sg n = decide ((lo ≤ n ∧ n ≤ hi) ∨ (sg = true ∧ -hi ≤ n ∧ n ≤ -lo))) := rfl
        clear hn hR hmem Hs
        cases sg
        · by_cases q1 : n < lo
          · have t1 : decide (n < lo) = true := decide_eq_true q1
            have hb0 := HNo.out (by rw [HI.out]; simp; omega)
            subst hb0
            go_wp2_with fail
            go_ret
            exact ⟨rfl, rfl⟩
          · have t1 : decide (n < lo) = false := decide_eq_false q1
            by_cases q2 : hi < n
            · have t2 : decide (hi < n) = true := decide_eq_true q2
              have hb0 := HNo.out (by rw [HI.out]; simp; omega)
              subst hb0
              go_wp2_with fail
              go_ret
              exact ⟨rfl, rfl⟩
            · have t2 : decide (hi < n) = false := decide_eq_false q2
              have HYs2 := Lib.hid (HYs.out (by rw [HI.out]; simp; omega))
              go_wp2_with fail
              go_roundw
              case rel => exact ⟨j + 1, by omega, by go_num, HYs2.out, by first | rfl | trivial⟩
              case measure => simp [intOf]; omega
        · by_cases q0 : n < 0
          · have u0 : decide (n < 0) = true := decide_eq_true q0
            by_cases q3 : -hi ≤ n
            · have u3 : decide (-hi ≤ n) = true := decide_eq_true q3
              have t2 : decide (hi < -n) = false := decide_eq_false (by omega)
              have v1 : (0 : Int) - n = -n := by omega
              by_cases q1 : -n < lo
              · have t1 : decide (-n < lo) = true := decide_eq_true q1
                have hb0 := HNo.out (by rw [HI.out]; simp; omega)
                subst hb0
                go_wp2_with fail
                go_ret
                exact ⟨rfl, rfl⟩
              · have t1 : decide (-n < lo) = false := decide_eq_false q1
                have HYs2 := Lib.hid (HYs.out (by rw [HI.out]; simp; omega))
                go_wp2_with fail
                go_roundw
                case rel => exact ⟨j + 1, by omega, by go_num, HYs2.out, by first | rfl | trivial⟩
                case measure => simp [intOf]; omega
            · have u3 : decide (-hi ≤ n) = false := decide_eq_false q3
              have t1 : decide (n < lo) = true := decide_eq_true (by omega)
              have hb0 := HNo.out (by rw [HI.out]; simp; omega)
              subst hb0
              go_wp2_with fail
              go_ret
              exact ⟨rfl, rfl⟩
          · have u0 : decide (n < 0) = false := decide_eq_false q0
            by_cases q1 : n < lo
            · have t1 : decide (n < lo) = true := decide_eq_true q1
              have hb0 := HNo.out (by rw [HI.out]; simp; omega)
              subst hb0
              go_wp2_with fail
              go_ret
              exact ⟨rfl, rfl⟩
            · have t1 : decide (n < lo) = false := decide_eq_false q1
              by_cases q2 : hi < n
              · have t2 : decide (hi < n) = true := decide_eq_true q2
                have hb0 := HNo.out (by rw [HI.out]; simp; omega)
                subst hb0
                go_wp2_with fail
                go_ret
                exact ⟨rfl, rfl⟩
              · have t2 : decide (hi < n) = false := decide_eq_false q2
                have HYs2 := Lib.hid (HYs.out (by rw [HI.out]; simp; omega))
                go_wp2_with fail
                go_roundw
                case rel => exact ⟨j + 1, by omega, by go_num, HYs2.out, by first | rfl | trivial⟩
                case measure => simp [intOf]; omega
      · obtain rfl : j = zs.length := by omega
        have hbt : b = true := by rw [← HB.out, ← Hall.out, List.take_length]
        subst hbt
        go_wp2_with fail
        go_ret
        exact ⟨rfl, rfl⟩
theorem rlocal_c (l : Int) (b : Bool) (w : World) (hb : locZ l = b) : Calls Tryz.prog 69 #[.int .i64 l] w fun e w' => e = .returned (.bool b) ∧ w = w' := by
  subst hb
  unfold locZ
  go_enter Tryz.func69, Tryz.ntmps69
  go_wp2
  all_goals
    go_ret
    first
      | (simp_all; done)
      | (simp_all; omega)
end Go.Proofs.YtgndogpgfgliaaaGreatDoor
/- Recurrence rules: the reference's days (ref29). -/
namespace Go.Proofs.YtgndogpgfgliaaaGreatDoor
set_option linter.unusedVariables false
set_option linter.unnecessarySimpa false
set_option linter.unusedSimpArgs false
open Go.RowKit

set_option maxRecDepth 100000 in
set_option maxHeartbeats 8000000 in
theorem rdys_c (r : Rec) (b : Bool) (w : World) (hV : RcV r w) (hb : (decide (r.D.da.length ≤ 60) && r.D.da.all (dayV r.D.fr)) = b) :
    Calls Tryz.prog 71 #[.agg r.vals.toArray] w fun e w' => e = .returned (.bool b) ∧ Ext w w' := by
  have hE0 : Ext w (w.alloc (.cells r.vals.toArray 25)) := (Ext.refl w).alloc _
  have HE0 := Lib.hid hE0
  have hB := RcB.new r w 25
  obtain ⟨c0, -, -, -, -, -, -, -, c8, -, -, -, -, -⟩ := hB.all
  have hBl := hB.1
  have hO := (hV.ext hE0).da
  obtain ⟨l, hl⟩ : ∃ l, l = r.D.da := ⟨_, rfl⟩
  obtain ⟨fr, hfr⟩ : ∃ fr, fr = r.D.fr := ⟨_, rfl⟩
  rw [← hl] at c8 hO
  obtain ⟨ao, hao⟩ : ∃ x, x = r.a 4 := ⟨_, rfl⟩
  rw [← hao] at c8 hO
  rw [← hfr] at c0
  rw [← hl, ← hfr] at hb
  have h1 := hO.1
  have h2 := hO.2.1
  unfold maxLen at h2
  have HL := Lib.hid hO.2.2
  have HC0 := Lib.hid c0
  have HC8 := Lib.hid c8
  clear hE0 hB hV hO hl hfr hao
  by_cases g : 60 < l.length
  · have t0 : decide ((60 : Int) < (l.length : Int)) = true := decide_eq_true (by omega)
    have hb0 : b = false := by rw [← hb, decide_eq_false (by omega)]; rfl
    subst hb0
    clear hb
    go_enter Tryz.func71, Tryz.ntmps71
    go_upto_region 1 with fail
    generalize w.alloc (.cells r.vals.toArray 25) = W0 at *
    generalize w.heap.size = B at *
    go_wp2_with fail
    go_ret
    exact ⟨rfl, HE0.out⟩
  · have t0 : decide ((60 : Int) < (l.length : Int)) = false := decide_eq_false (by omega)
    rw [decide_eq_true (by omega), Bool.true_and] at hb
    have HB := Lib.hid hb
    clear hb
    go_enter Tryz.func71, Tryz.ntmps71
    go_upto_region 1 with fail
    generalize w.alloc (.cells r.vals.toArray 25) = W0 at *
    generalize w.heap.size = B at *
    go_wp2_with fail
    go_loopw [3] (fun i wr => ∃ j : Nat, j ≤ l.length ∧ i = .int .i64 (j : Int) ∧ Hid ((l.take j).all (dayV fr) = true) ∧ Ext W0 wr) (fun i _ => l.length - (intOf i).toNat)
    case atStart => exact ⟨0, Nat.zero_le _, rfl, rfl, Ext.refl _⟩
    case round =>
      obtain ⟨j, hj, rfl, Hall, hE⟩ := hrel
      have c8 := (hE.cells B 8 hBl).trans HC8.out
      have hBr := hE.lt hBl
      by_cases hlt : j < l.length
      · obtain ⟨R, off, rfl, hR⟩ := HL.out (by rintro rfl; simp at hlt)
        have hRr := hR.ext hE
        have hRz := hRr.1
        obtain ⟨x0, x1⟩ := hRr.2 j hlt
        have Hs : Hid ((l.take (j + 1)).all (dayV fr) = ((l.take j).all (dayV fr) && dayV fr l[j])) := by rw [Hid, List.take_succ_eq_append_getElem hlt, List.all_append]; simp
        have hmem : l[j] ∈ l := List.getElem_mem _
        obtain ⟨o, ho⟩ : ∃ o, o = l[j] := ⟨_, rfl⟩
        rw [← ho] at x0 x1 Hs hmem
        have HNo : Hid (dayV fr o = false → b = false) := fun q => by rw [← HB.out, List.all_eq_false]; exact ⟨o, hmem, by simp [q]⟩
        have HYs : Hid (dayV fr o = true → (l.take (j + 1)).all (dayV fr) = true) := fun q => by rw [Hs.out, Hall.out, q]; rfl
        clear ho hR hRr hmem Hs
        obtain ⟨n, d⟩ := o
        simp only at x0 x1
        have HI : Hid (dayV fr (n, d) = decide (1 ≤ d ∧ d ≤ 7 ∧ -53 ≤ n ∧ n ≤ 53 ∧ (n = 0 ∨ fr = 1 ∨ fr = 2))) := rfl
        have hEn : Ext wr (wr.alloc (.cells #[.int .i64 n, .int .i64 d] 48)) := (Ext.refl wr).alloc _
        have d0 : (wr.alloc (.cells #[.int .i64 n, .int .i64 d] 48)).cell? ⟨wr.heap.size, 0, none⟩ = some (.int .i64 n) := by rw [World.cell?_alloc_new]; rfl
        have d1 : (wr.alloc (.cells #[.int .i64 n, .int .i64 d] 48)).cell? ⟨wr.heap.size, 1, none⟩ = some (.int .i64 d) := by rw [World.cell?_alloc_new]; rfl
        have hBn : wr.heap.size < (wr.alloc (.cells #[.int .i64 n, .int .i64 d] 48)).heap.size := by simp
        go_upto_region 7 with fail
        generalize wr.alloc (.cells #[.int .i64 n, .int .i64 d] 48) = W1 at *
        have hEa := hE.trans hEn
        have HEa := Lib.hid hEa
        have c0 := (hEa.cells B 0 hBl).trans HC0.out
        have hB1 := hEa.lt hBl
        clear hE hEn hEa c8 hBr x0 x1 hRz
        generalize wr.heap.size = D at *
        by_cases q0 : d < 1
        · have t0 : decide (d < 1) = true := decide_eq_true q0
          have hb0 := HNo.out (by rw [HI.out]; simp; omega)
          subst hb0
          go_wp2_with fail
          go_ret
          exact ⟨rfl, HE0.out.trans HEa.out⟩
        have t0 : decide (d < 1) = false := decide_eq_false q0
        by_cases q1 : 7 < d
        · have t1 : decide (7 < d) = true := decide_eq_true q1
          have hb0 := HNo.out (by rw [HI.out]; simp; omega)
          subst hb0
          go_wp2_with fail
          go_ret
          exact ⟨rfl, HE0.out.trans HEa.out⟩
        have t1 : decide (7 < d) = false := decide_eq_false q1
        by_cases q2 : n < -53
        · have t2 : decide (n < -53) = true := decide_eq_true q2
          have hb0 := HNo.out (by rw [HI.out]; simp; omega)
          subst hb0
          go_wp2_with fail
          go_ret
          exact ⟨rfl, HE0.out.trans HEa.out⟩
        have t2 : decide (n < -53) = false := decide_eq_false q2
        by_cases q3 : 53 < n
        · have t3 : decide (53 < n) = true := decide_eq_true q3
          have hb0 := HNo.out (by rw [HI.out]; simp; omega)
          subst hb0
          go_wp2_with fail
          go_ret
          exact ⟨rfl, HE0.out.trans HEa.out⟩
        have t3 : decide (53 < n) = false := decide_eq_false q3
        by_cases q9 : n = 0
        · have t9 : (n != 0) = false := by rw [q9]; rfl
          have t9b : (n == 0) = true := by rw [q9]; rfl
          have HYs2 := Lib.hid (HYs.out (by rw [HI.out]; simp; omega))
          go_wp2_with fail
          go_roundw
          case rel => exact ⟨j + 1, by omega, by go_num, HYs2.out, HEa.out⟩
          case measure => simp [intOf]; omega
        · have t9 : (n != 0) = true := by simpa using q9
          have t9b : (n == 0) = false := by simpa using q9
          by_cases q10 : fr = 1
          · have t10 : (fr != 1) = false := by rw [q10]; rfl
            have t10b : (fr == 1) = true := by rw [q10]; rfl
            have HYs2 := Lib.hid (HYs.out (by rw [HI.out]; simp; omega))
            go_wp2_with fail
            go_roundw
            case rel => exact ⟨j + 1, by omega, by go_num, HYs2.out, HEa.out⟩
            case measure => simp [intOf]; omega
          · have t10 : (fr != 1) = true := by simpa using q10
            have t10b : (fr == 1) = false := by simpa using q10
            by_cases q11 : fr = 2
            · have t11 : (fr != 2) = false := by rw [q11]; rfl
              have t11b : (fr == 2) = true := by rw [q11]; rfl
              have HYs2 := Lib.hid (HYs.out (by rw [HI.out]; simp; omega))
              go_wp2_with fail
              go_roundw
              case rel => exact ⟨j + 1, by omega, by go_num, HYs2.out, HEa.out⟩
              case measure => simp [intOf]; omega
            · have t11 : (fr != 2) = true := by simpa using q11
              have t11b : (fr == 2) = false := by simpa using q11
              have hb0 := HNo.out (by rw [HI.out]; simp; omega)
              subst hb0
              go_wp2_with fail
              go_ret
              exact ⟨rfl, HE0.out.trans HEa.out⟩
      · obtain rfl : j = l.length := by omega
        have hbt : b = true := by rw [← HB.out, ← Hall.out, List.take_length]
        subst hbt
        go_wp2_with fail
        go_ret
        exact ⟨rfl, HE0.out.trans hE⟩
end Go.Proofs.YtgndogpgfgliaaaGreatDoor
/- Recurrence rules: the reference's number and Valid (ref29). -/
namespace Go.Proofs.YtgndogpgfgliaaaGreatDoor
set_option linter.unusedVariables false
set_option linter.unnecessarySimpa false
set_option linter.unusedSimpArgs false
open Go.RowKit

theorem yr_mul30 {o : Oper} {a : Act} {w : World} {x y : Operand} {t2 : TypeId} {A B C : Nat} (hop : o.op = .binOp .mul 3 x y t2) (hx : a.eval x = .int .i64 (A : Int)) (hy : a.eval y = .int .i64 (B : Int)) (hb : IntKind.i64.wrap ((A : Int) * (B : Int)) = (C : Int)) : (execOp a.eval o).run Tryz.prog w = .ok (.value (.int .i64 (C : Int))) w := by
  unfold execOp
  simp only [hop, hx, hy]
  simp [Result.andThen, go_sem, hb]
theorem yr_leq30 {o : Oper} {a : Act} {w : World} {x y : Operand} {t2 : TypeId} {A : Nat} {B : Int} {b : Bool} (hop : o.op = .binOp .leq 3 x y t2) (hx : a.eval x = .int .i64 (A : Int)) (hy : a.eval y = .int .i64 B) (hb : decide ((A : Int) ≤ B) = b) : (execOp a.eval o).run Tryz.prog w = .ok (.value (.bool b)) w := by
  unfold execOp
  simp only [hop, hx, hy]
  simp [Result.andThen, go_sem, hb]
theorem wrap64n (n : Nat) (h : n ≤ 1000000) : IntKind.i64.wrap (n : Int) = (n : Int) := by
  have h2 : (n : Int) ≤ 1000000 := by omega
  simp [IntKind.wrap, IntKind.bits]
  omega
theorem nd_le29 (l : List Int) : ndZ l ≤ l.length := by
  have := setZ_len l []
  unfold ndZ
  simpa using this
theorem cnt_le29 {l : List Int} {h : Nat} (hl : l.length ≤ 60) (hh : h ≤ 60) : cntZ l h ≤ 60 := by
  have := nd_le29 l
  unfold cntZ
  split <;> omega
set_option maxRecDepth 100000 in
set_option maxHeartbeats 4000000 in
theorem rnumber29_c (l : List Int) (ao : Option Addr) (cap : Nat) (h : Nat) (w : World) (hV : IsV ao cap l w) (hn : l.length ≤ 60) (hh : h ≤ 60) :
    Calls Tryz.prog 72 #[.slice ao l.length cap, .int .i64 (h : Int)] w fun e w' => e = .returned (.int .i64 (cntZ l h : Int)) ∧ Ext w w' := by
  have HS := Lib.hid (rset_c l ao cap w hV hn)
  have hnd := nd_le29 l
  by_cases hl : l = []
  · have hc : cntZ l h = h := by unfold cntZ; rw [if_pos hl]
    have h0 : l.length = 0 := by rw [hl]; rfl
    rw [hc, h0]
    clear HS hV hl
    go_enter Tryz.func72, Tryz.ntmps72
    go_wp2_with fail
    go_ret
    exact ⟨rfl, Ext.refl _⟩
  · have hc : cntZ l h = ndZ l := by unfold cntZ; rw [if_neg hl]
    have h0 : 0 < l.length := List.length_pos_iff.2 hl
    rw [hc]
    have t0 : ((l.length : Int) == 0) = false := by simp; omega
    generalize l.length = n at *
    clear hV hl
    go_enter Tryz.func72, Tryz.ntmps72
    go_wp2_with (go_at_call 121; (with_reducible refine HS.out.mono ?_); rintro e w1 ⟨⟨a2, c2, rfl⟩, hE1⟩)
    go_ret
    exact ⟨rfl, hE1⟩
theorem numb_leaves {R : RecD} (h : numbV R = true) : ¬ R.fr < 1 ∧ ¬ 5 < R.fr ∧ ¬ R.iv < 1 ∧ ¬ 1000 < R.iv ∧ ¬ R.ct < 0 ∧ ¬ 1000 < R.ct ∧ (R.un = 0 ∨ (R.un ≠ 0 ∧ locZ R.un = true ∧ R.ct = 0)) ∧ ¬ R.ws < 1 ∧ ¬ 7 < R.ws := by
  unfold numbV at h
  obtain ⟨h1, h2, h3, h4, h5, h6, h7, h8, h9⟩ := of_decide_eq_true h
  refine ⟨by omega, by omega, by omega, by omega, by omega, by omega, ?_, by omega, by omega⟩
  by_cases e : R.un = 0
  · exact .inl e
  · rcases h7 with h | h
    · exact absurd h e
    · exact .inr ⟨e, h.1, h.2⟩
theorem numb_yes {R : RecD} (h1 : ¬ R.fr < 1) (h2 : ¬ 5 < R.fr) (h3 : ¬ R.iv < 1) (h4 : ¬ 1000 < R.iv) (h5 : ¬ R.ct < 0) (h6 : ¬ 1000 < R.ct) (h7 : R.un = 0 ∨ (locZ R.un = true ∧ R.ct = 0)) (h8 : ¬ R.ws < 1) (h9 : ¬ 7 < R.ws) : numbV R = true := by
  unfold numbV
  exact decide_eq_true ⟨by omega, by omega, by omega, by omega, by omega, by omega, h7, by omega, by omega⟩
set_option maxRecDepth 100000 in
set_option maxHeartbeats 8000000 in
theorem rvalid_no (r : Rec) (b : Bool) (w : World) (hV : RcV r w) (hb : numbV r.D = false) :
    Calls Tryz.prog 30 #[.agg r.vals.toArray] w fun e w' => e = .returned (.bool false) ∧ Ext w w' := by
  have hE0 : Ext w (w.alloc (.cells r.vals.toArray 25)) := (Ext.refl w).alloc _
  have HE0 := Lib.hid hE0
  have hB := RcB.new r w 25
  have hVe := hV.ext hE0
  have HB := Lib.hid hB
  obtain ⟨c0, c1, c2, c3, c4, c5, c6, c7, c8, c9, c10, c11, c12, c13⟩ := hB.all
  have hBl := hB.1
  have hRs := rec_size r
  have HNo : Hid (numbV r.D = false) := hb
  have HLo : Hid (∀ lb, locZ r.D.un = lb → ∀ w', Calls Tryz.prog 69 #[.int .i64 r.D.un] w' fun e w'' => e = .returned (.bool lb) ∧ w' = w'') := fun lb h w' => rlocal_c _ _ _ h
  clear hE0 hB hV hVe hb
  go_enter Tryz.func30, Tryz.ntmps30
  go_upto_region 1 with fail
  generalize w.alloc (.cells r.vals.toArray 25) = W0 at *
  generalize w.heap.size = B at *
  by_cases q1 : r.D.fr < 1
  · have t : decide (r.D.fr < 1) = true := decide_eq_true q1
    clear q1
    go_wp2_with fail
    go_ret
    exact ⟨rfl, HE0.out⟩
  have tq1 : decide (r.D.fr < 1) = false := decide_eq_false q1
  by_cases q2 : 5 < r.D.fr
  · have t : decide (5 < r.D.fr) = true := decide_eq_true q2
    clear q2
    go_wp2_with fail
    go_ret
    exact ⟨rfl, HE0.out⟩
  have tq2 : decide (5 < r.D.fr) = false := decide_eq_false q2
  by_cases q3 : r.D.iv < 1
  · have t : decide (r.D.iv < 1) = true := decide_eq_true q3
    clear q3
    go_wp2_with fail
    go_ret
    exact ⟨rfl, HE0.out⟩
  have tq3 : decide (r.D.iv < 1) = false := decide_eq_false q3
  by_cases q4 : 1000 < r.D.iv
  · have t : decide (1000 < r.D.iv) = true := decide_eq_true q4
    clear q4
    go_wp2_with fail
    go_ret
    exact ⟨rfl, HE0.out⟩
  have tq4 : decide (1000 < r.D.iv) = false := decide_eq_false q4
  by_cases q5 : r.D.ct < 0
  · have t : decide (r.D.ct < 0) = true := decide_eq_true q5
    clear q5
    go_wp2_with fail
    go_ret
    exact ⟨rfl, HE0.out⟩
  have tq5 : decide (r.D.ct < 0) = false := decide_eq_false q5
  by_cases q6 : 1000 < r.D.ct
  · have t : decide (1000 < r.D.ct) = true := decide_eq_true q6
    clear q6
    go_wp2_with fail
    go_ret
    exact ⟨rfl, HE0.out⟩
  have tq6 : decide (1000 < r.D.ct) = false := decide_eq_false q6
  by_cases a1 : r.D.un = 0
  · have t1 : (r.D.un == 0) = true := by simpa using a1
    have t2 : (r.D.un != 0) = false := by simpa using a1
    have F7 := Lib.hid (Or.inl a1 : r.D.un = 0 ∨ (locZ r.D.un = true ∧ r.D.ct = 0))
    clear a1
    by_cases q8 : r.D.ws < 1
    · have t : decide (r.D.ws < 1) = true := decide_eq_true q8
      clear q1 q2 q3 q4 q5 q6
      clear q8
      go_wp2_with fail
      go_ret
      exact ⟨rfl, HE0.out⟩
    have tq8 : decide (r.D.ws < 1) = false := decide_eq_false q8
    by_cases q9 : 7 < r.D.ws
    · have t : decide (7 < r.D.ws) = true := decide_eq_true q9
      clear q1 q2 q3 q4 q5 q6
      clear q9
      go_wp2_with fail
      go_ret
      exact ⟨rfl, HE0.out⟩
    have tq9 : decide (7 < r.D.ws) = false := decide_eq_false q9
    exact absurd (HNo.out.symm.trans (numb_yes q1 q2 q3 q4 q5 q6 F7.out q8 q9)) (by decide)
  have t1 : (r.D.un == 0) = false := by simpa using a1
  have t2 : (r.D.un != 0) = true := by simpa using a1
  obtain ⟨lb, hlb⟩ : ∃ lb, locZ r.D.un = lb := ⟨_, rfl⟩
  have Hlb := Lib.hid hlb
  have HLb := Lib.hid (HLo.out lb hlb)
  clear hlb a1
  cases lb with
  | false =>
    clear q1 q2 q3 q4 q5 q6
    go_wp2_with (go_at_call 69; (with_reducible refine (HLb.out _).mono ?_); rintro e w1 ⟨rfl, rfl⟩)
    go_ret
    exact ⟨rfl, HE0.out⟩
  | true =>
  by_cases a2 : r.D.ct = 0
  · have t3 : (r.D.ct == 0) = true := by simpa using a2
    have t4 : (r.D.ct != 0) = false := by simpa using a2
    have F7 := Lib.hid (Or.inr ⟨Hlb.out, a2⟩ : r.D.un = 0 ∨ (locZ r.D.un = true ∧ r.D.ct = 0))
    clear a2
    by_cases q8 : r.D.ws < 1
    · have t : decide (r.D.ws < 1) = true := decide_eq_true q8
      clear q1 q2 q3 q4 q5 q6
      clear q8
      go_wp2_with (go_at_call 69; (with_reducible refine (HLb.out _).mono ?_); rintro e w1 ⟨rfl, rfl⟩)
      go_ret
      exact ⟨rfl, HE0.out⟩
    have tq8 : decide (r.D.ws < 1) = false := decide_eq_false q8
    by_cases q9 : 7 < r.D.ws
    · have t : decide (7 < r.D.ws) = true := decide_eq_true q9
      clear q1 q2 q3 q4 q5 q6
      clear q9
      go_wp2_with (go_at_call 69; (with_reducible refine (HLb.out _).mono ?_); rintro e w1 ⟨rfl, rfl⟩)
      go_ret
      exact ⟨rfl, HE0.out⟩
    have tq9 : decide (7 < r.D.ws) = false := decide_eq_false q9
    exact absurd (HNo.out.symm.trans (numb_yes q1 q2 q3 q4 q5 q6 F7.out q8 q9)) (by decide)
  have t3 : (r.D.ct == 0) = false := by simpa using a2
  have t4 : (r.D.ct != 0) = true := by simpa using a2
  clear q1 q2 q3 q4 q5 q6 a2
  go_wp2_with (go_at_call 69; (with_reducible refine (HLb.out _).mono ?_); rintro e w1 ⟨rfl, rfl⟩)
  go_ret
  exact ⟨rfl, HE0.out⟩
end Go.Proofs.YtgndogpgfgliaaaGreatDoor
