/- Recurrence rules: the walks of set, and of the times of one list. -/
import Derived.Test.YtgndogpgfgliaaaGreatDoorQ17
import Derived.Sort.OwnSortedInts
import Derived.Lib.OwnBridge
namespace Go.Proofs.YtgndogpgfgliaaaGreatDoor
set_option linter.unusedVariables false
set_option linter.unnecessarySimpa false
set_option linter.unusedSimpArgs false
open Go.RowKit Go.Sort Go.Lib

def srt (zs : List Int) : List Int := zs.mergeSort fun x y => decide (x ≤ y)
theorem srt_len (zs : List Int) : (srt zs).length = zs.length := List.length_mergeSort _
theorem clone_c (zs : List Int) (ao : Option Addr) (cap : Nat) (w : World) (hV : IsV ao cap zs w) (h0 : zs ≠ []) (hn : zs.length ≤ 1000) :
    Calls Tryz.prog 162 #[.slice ao zs.length cap] w fun e w' => (∃ g cv, e = .returned (.slice (some ⟨g, 0, none⟩) zs.length cv) ∧ w'.ownsRow w.heap.size 3 1 (.slice (some ⟨g, 0, none⟩) zs.length cv) zs.length (zs.map (Value.int .i64)) ∧ w.heap.size ≤ g) ∧ Ext w w' := by
  obtain ⟨R, off, rfl, hR, hc⟩ := hV.2.2 h0
  refine (Tryz.slices_Clone_int R off zs.length cap zs w (Nat.le_refl _) (by omega) (fun j hj => ?_)).mono ?_
  · rw [hc j hj]
    simp [List.getD, hj]
  · rintro e w' ⟨v', rfl, hown, hne, hE⟩
    rw [List.take_length] at hown
    obtain ⟨g, cv, rfl, hb, -⟩ := holds_of_ownsRow hown hne
    exact ⟨⟨g, cv, rfl, hown, hb⟩, hE⟩
theorem sort_c (zs : List Int) (base g cv : Nat) (w : World) (hown : w.ownsRow base 3 1 (.slice (some ⟨g, 0, none⟩) zs.length cv) zs.length (zs.map (Value.int .i64))) (hn : zs.length ≤ 1000) :
    Calls Tryz.prog 163 #[.slice (some ⟨g, 0, none⟩) zs.length cv] w fun e w' => e = .returned (.tuple #[]) ∧ w'.ownsRow base 3 1 (.slice (some ⟨g, 0, none⟩) zs.length cv) zs.length ((srt zs).map (Value.int .i64)) ∧ w.grownBy w' (some g) := by
  obtain ⟨g2, cv2, he, hb, hlt, -, -, -, hH⟩ := holds_of_ownsRow hown (by intro e; cases e)
  injection he with e1 e2 e3
  injection e1 with e1
  injection e1 with e1
  subst e1; subst e3
  refine (Tryz.slices_Sort_int g 0 cv zs w hH hlt (by omega)).mono ?_
  rintro e w' ⟨rfl, n, os, rfl⟩
  refine ⟨rfl, ?_, grownBy_sortedI _⟩
  rcases hown.2 with ⟨e0, _⟩ | ⟨g', cap', cur, e0, hb, hg, hn2, hm, hs, ht⟩
  · cases e0
  · injection e0 with e1 _ e3
    injection e1 with e1
    injection e1 with e1
    subst e1; subst e3
    exact ownsRow_sortedI (ss := zs) (ts := srt zs) (srt_len zs) hb hg hn2 hm hs
theorem comp_c (zs : List Int) (base g cv : Nat) (w : World) (hown : w.ownsRow base 3 1 (.slice (some ⟨g, 0, none⟩) zs.length cv) zs.length ((srt zs).map (Value.int .i64))) (hn : zs.length ≤ 1000) :
    Calls Tryz.prog 164 #[.slice (some ⟨g, 0, none⟩) zs.length cv] w fun e w' => e = .returned (.slice (some ⟨g, 0, none⟩) (ndZ zs) cv) ∧ w'.ownsRow base 3 1 (.slice (some ⟨g, 0, none⟩) (ndZ zs) cv) (ndZ zs) ((Lib.compact (srt zs)).map (Value.int .i64)) ∧ w.grownBy w' (some g) := by
  have hl := srt_len zs
  have hc : (Lib.compact (srt zs)).length = ndZ zs := cmp_len zs
  obtain ⟨g2, cv2, he, hb, hlt, hcv, -, -, hH⟩ := holds_of_ownsRow hown (by intro e; cases e)
  injection he with e1 e2 e3
  injection e1 with e1
  injection e1 with e1
  subst e1; subst e3
  have h1 := Tryz.slices_Compact_int g 0 cv (srt zs) w hH (by omega) (by omega)
  rw [hl, hc] at h1
  refine h1.mono ?_
  rintro e w' ⟨rfl, q, rfl⟩
  have hle : ndZ zs ≤ zs.length := by
    have := Lib.compact_length_le (srt zs)
    omega
  refine ⟨rfl, ?_, ?_⟩
  · have := ownsRow_putRow (q := q) (k := ndZ zs) (ys := Lib.compact (srt zs) ++ List.replicate (zs.length - ndZ zs) 0) hown (by rw [List.length_append, List.length_replicate, hc]; omega) hle
    rwa [List.take_append_of_le_length (by omega), List.take_of_length_le (by omega)] at this
  · have := grownBy_sortedI (w := w) (g := g) (n := q) (os := #[]) (Lib.compact (srt zs) ++ List.replicate (zs.length - ndZ zs) 0).toArray
    rwa [grow_empty] at this
set_option maxRecDepth 100000 in
theorem uset_c (zs : List Int) (ao : Option Addr) (cap : Nat) (w : World) (hV : IsV ao cap zs w) (h0 : zs ≠ []) (hn : zs.length ≤ 1000) :
    Calls Tryz.prog 120 #[.slice ao zs.length cap] w fun e w' => (∃ ao2 cap2 ys, e = .returned (.slice ao2 ys.length cap2) ∧ ys.length = ndZ zs ∧ IsV ao2 cap2 ys w') ∧ Ext w w' := by
  have HClo := Lib.hid (clone_c zs ao cap w hV h0 hn)
  have hc : (Lib.compact (srt zs)).length = ndZ zs := cmp_len zs
  have Hc := Lib.hid hc
  obtain ⟨N, hN⟩ : ∃ N, N = zs.length := ⟨_, rfl⟩
  have HSo : Hid (∀ g cv W, W.ownsRow w.heap.size 3 1 (.slice (some ⟨g, 0, none⟩) N cv) N (zs.map (Value.int .i64)) → Calls Tryz.prog 163 #[.slice (some ⟨g, 0, none⟩) N cv] W fun e w' => e = .returned (.tuple #[]) ∧ w'.ownsRow w.heap.size 3 1 (.slice (some ⟨g, 0, none⟩) N cv) N ((srt zs).map (Value.int .i64)) ∧ W.grownBy w' (some g)) := by
    rw [Hid, hN]; exact fun g cv W q => sort_c zs _ g cv W q hn
  have HCo : Hid (∀ g cv W, W.ownsRow w.heap.size 3 1 (.slice (some ⟨g, 0, none⟩) N cv) N ((srt zs).map (Value.int .i64)) → Calls Tryz.prog 164 #[.slice (some ⟨g, 0, none⟩) N cv] W fun e w' => e = .returned (.slice (some ⟨g, 0, none⟩) (ndZ zs) cv) ∧ w'.ownsRow w.heap.size 3 1 (.slice (some ⟨g, 0, none⟩) (ndZ zs) cv) (ndZ zs) ((Lib.compact (srt zs)).map (Value.int .i64)) ∧ W.grownBy w' (some g)) := by
    rw [Hid, hN]; exact fun g cv W q => comp_c zs _ g cv W q hn
  rw [← hN] at HClo ⊢
  clear hV h0 hn hc hN
  go_enter Tryz.func120, Tryz.ntmps120
  go_wp2_with (first
    | (go_at_call 162; (with_reducible refine HClo.out.mono ?_); rintro e w1 ⟨⟨g, cv, rfl, ho1, hg⟩, hE1⟩; have HS2 := Lib.hid (HSo.out g cv w1 ho1); clear ho1)
    | (go_at_call 163; (with_reducible refine HS2.out.mono ?_); rintro e w2 ⟨rfl, ho2, hg2⟩; have HC2 := Lib.hid (HCo.out g cv w2 ho2); have hE2 := ext_grown_at hE1 hg2 hg; clear ho2 hg2)
    | (go_at_call 164; (with_reducible refine HC2.out.mono ?_); rintro e w3 ⟨rfl, ho3, hg3⟩; have hE3 := ext_grown_at hE2 hg3 hg; have HO := Lib.hid ho3; clear ho3 hg3))
  go_ret
  refine ⟨⟨some ⟨g, 0, none⟩, cv, Lib.compact (srt zs), by rw [Hc.out]; rfl, Hc.out, ?_⟩, hE3⟩
  exact IsV.of_own (HO.out) (Hc.out.symm)
set_option maxRecDepth 100000 in
theorem tpart_c (zs : List Int) (ao : Option Addr) (cap : Nat) (x : Int) (w : World) (hV : IsV ao cap zs w) (hn : zs.length ≤ 1000) :
    Calls Tryz.prog 119 #[.slice ao zs.length cap, .int .i64 x] w fun e w' => (∃ ao2 cap2 ys, e = .returned (.slice ao2 ys.length cap2) ∧ ys.length = cntZ zs 1 ∧ IsV ao2 cap2 ys w') ∧ Ext w w' := by
  by_cases h0 : zs = []
  · subst h0
    clear hV hn
    go_enter Tryz.func119, Tryz.ntmps119
    go_wp2_with fail
    go_ret
    refine ⟨⟨some ⟨w.heap.size, 0, none⟩, 1, [x], rfl, rfl, ?_⟩, (Ext.refl w).alloc _⟩
    refine ⟨Nat.le_refl _, by decide, fun _ => ⟨w.heap.size, 0, rfl, by simp, fun i hi => ?_⟩⟩
    obtain rfl : i = 0 := by simpa using hi
    rw [World.cell?_alloc_new]; rfl
  · have HS := Lib.hid (uset_c zs ao cap w hV h0 hn)
    have hl : ((zs.length : Int) == 0) = false := by
      rw [beq_eq_false_iff_ne]
      have := List.length_pos_iff.2 h0
      omega
    have hc : cntZ zs 1 = ndZ zs := by unfold cntZ; rw [if_neg h0]
    rw [hc]
    clear hV hn h0 hc
    go_enter Tryz.func119, Tryz.ntmps119
    go_wp2_with (go_at_call 120; (with_reducible refine HS.out.mono ?_); rintro e w1 ⟨⟨ao2, cap2, ys, rfl, hy, hV2⟩, hE1⟩; have Hy := Lib.hid hy; have HV2 := Lib.hid hV2; clear hy hV2)
    go_ret
    exact ⟨⟨ao2, cap2, ys, rfl, Hy.out, HV2.out⟩, hE1⟩
end Go.Proofs.YtgndogpgfgliaaaGreatDoor
