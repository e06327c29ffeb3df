/- Locales: Relative, both sides, whole. -/
import Derived.Test.YtlmoibmmjonjoaaGreatDoorQ25
import Derived.Test.YtlmoibmmjonjoaaGreatDoorQ03
namespace Go.Proofs.YtlmoibmmjonjoaaGreatDoor
set_option linter.unusedVariables false
set_option linter.unusedSimpArgs false
open Go.RowKit

set_option maxRecDepth 100000 in
set_option maxHeartbeats 2000000 in
theorem relative_c (L : Loc) (t now : Int) (w : World) (h : LcV L w) (hs : shL L) (hm : Lm w) (hNl : ∀ s ∈ L.N.all, s.length ≤ 2000000) :
    Calls Tryz.prog 20 #[.agg L.vals.toArray, .int .i64 t, .int .i64 now] w fun e w' => e = .returned (.tuple #[.string ⟨(reV L t now).toArray⟩, .int .i64 (reE L t now : Int)]) ∧ Ext w w' := by
  rcases Bool.eq_false_or_eq_true (validLB L) with hv | hv
  · rcases Bool.eq_false_or_eq_true (tmB t && tmB now) with hi | hi
    · obtain ⟨ht, hn⟩ : tmB t = true ∧ tmB now = true := by simpa using hi
      rcases Int.lt_trichotomy t now with q | q | q
      · obtain ⟨d, hd⟩ := Int.eq_ofNat_of_zero_le (show 0 ≤ now - t by omega)
        exact relative_m L t now d w h hs hm hNl hv ht hn q (by omega)
      · subst q
        exact relative_0 L t w h hs hm hNl hv ht
      · obtain ⟨d, hd⟩ := Int.eq_ofNat_of_zero_le (show 0 ≤ t - now by omega)
        exact relative_p L t now d w h hs hm hNl hv ht hn q (by omega)
    · have HE : Hid (reE L t now = 2) := by rw [Hid]; simp [reE, hv, hi]
      have HP := Lib.hid (reV_e HE.out (by decide))
      have HVl := Lib.hid hv
      have Hi := Lib.hid hi
      have hIL := loc_size h.1
      have hE0 : Ext w (w.alloc (.cells L.vals.toArray 30)) := (Ext.refl w).alloc _
      have hB := LcB.new L w 30
      have HV := Lib.hid (h.ext hE0)
      have HE0 := Lib.hid hE0
      have HNl := Lib.hid hNl
      have Hs := Lib.hid hs
      have hR := hB.2
      clear hs hNl h hE0 hB
      have Hm := Lib.hid (hm.ext HE0.out)
      clear hm
      clear hv hi
      rcases Bool.eq_false_or_eq_true (tmB t) with ht | ht
      · have hn : tmB now = false := by have := Hi.out; rw [ht] at this; simpa using this
        have HT := Lib.hid ht
        have HNw := Lib.hid hn
        clear ht hn
        go_enter Tryz.func20, Tryz.ntmps20
        go_upto_region 1 with fail
        generalize w.alloc (.cells L.vals.toArray 30) = W0 at *
        generalize w.heap.size = B at *
        go_wp2_with (first
          | (refine load_midg (by rfl) 30 _ rfl B 0 rfl L.vals _ hR Tryz.underlying30 rfl hIL ?_)
          | (go_at_call 50; (with_reducible refine (in_c t true _ HT.out).mono ?_); rintro e w2 ⟨rfl, rfl⟩)
          | (go_at_call 50; (with_reducible refine (in_c now _ _ HNw.out).mono ?_); rintro e w2 ⟨rfl, rfl⟩)
          | (go_at_call 13; (with_reducible refine (valid_c L true _ HV.out Hs.out Hm.out HNl.out HVl.out).mono ?_); rintro e w1 ⟨rfl, hE1⟩))
        go_ret2
        exact ⟨by rw [HP.out, HE.out]; rfl, HE0.out.trans hE1⟩
      · have HT := Lib.hid ht
        have HNw := Lib.hid (rfl : tmB now = tmB now)
        clear ht
        go_enter Tryz.func20, Tryz.ntmps20
        go_upto_region 1 with fail
        generalize w.alloc (.cells L.vals.toArray 30) = W0 at *
        generalize w.heap.size = B at *
        go_wp2_with (first
          | (refine load_midg (by rfl) 30 _ rfl B 0 rfl L.vals _ hR Tryz.underlying30 rfl hIL ?_)
          | (go_at_call 50; (with_reducible refine (in_c t false _ HT.out).mono ?_); rintro e w2 ⟨rfl, rfl⟩)
          | (go_at_call 50; (with_reducible refine (in_c now _ _ HNw.out).mono ?_); rintro e w2 ⟨rfl, rfl⟩)
          | (go_at_call 13; (with_reducible refine (valid_c L true _ HV.out Hs.out Hm.out HNl.out HVl.out).mono ?_); rintro e w1 ⟨rfl, hE1⟩))
        go_ret2
        exact ⟨by rw [HP.out, HE.out]; rfl, HE0.out.trans hE1⟩
  · have HE : Hid (reE L t now = 1) := by rw [Hid]; simp [reE, hv]
    have HP := Lib.hid (reV_e HE.out (by decide))
    have HVl := Lib.hid hv
    have hIL := loc_size h.1
    have hE0 : Ext w (w.alloc (.cells L.vals.toArray 30)) := (Ext.refl w).alloc _
    have hB := LcB.new L w 30
    have HV := Lib.hid (h.ext hE0)
    have HE0 := Lib.hid hE0
    have HNl := Lib.hid hNl
    have Hs := Lib.hid hs
    have hR := hB.2
    clear hs hNl h hE0 hB
    have Hm := Lib.hid (hm.ext HE0.out)
    clear hm
    clear hv
    go_enter Tryz.func20, Tryz.ntmps20
    go_upto_region 1 with fail
    generalize w.alloc (.cells L.vals.toArray 30) = W0 at *
    generalize w.heap.size = B at *
    go_wp2_with (first
      | (refine load_midg (by rfl) 30 _ rfl B 0 rfl L.vals _ hR Tryz.underlying30 rfl hIL ?_)
      | (go_at_call 13; (with_reducible refine (valid_c L false _ HV.out Hs.out Hm.out HNl.out HVl.out).mono ?_); rintro e w1 ⟨rfl, hE1⟩))
    go_ret2
    exact ⟨by rw [HP.out, HE.out]; rfl, HE0.out.trans hE1⟩
set_option maxRecDepth 100000 in
set_option maxHeartbeats 2000000 in
theorem rrelative_c (L : Loc) (t now : Int) (w : World) (h : LcV L w) (hs : shL L) (hNl : ∀ s ∈ L.N.all, s.length ≤ 2000000) :
    Calls Tryz.prog 21 #[.agg L.vals.toArray, .int .i64 t, .int .i64 now] w fun e w' => e = .returned (.tuple #[.string ⟨(reV L t now).toArray⟩, .int .i64 (reE L t now : Int)]) ∧ Ext w w' := by
  rcases Bool.eq_false_or_eq_true (validLB L) with hv | hv
  · rcases Bool.eq_false_or_eq_true (tmB t && tmB now) with hi | hi
    · obtain ⟨ht, hn⟩ : tmB t = true ∧ tmB now = true := by simpa using hi
      rcases Int.lt_trichotomy t now with q | q | q
      · obtain ⟨d, hd⟩ := Int.eq_ofNat_of_zero_le (show 0 ≤ now - t by omega)
        exact rrelative_m L t now d w h hs hNl hv ht hn q (by omega)
      · subst q
        exact rrelative_0 L t w h hs hNl hv ht
      · obtain ⟨d, hd⟩ := Int.eq_ofNat_of_zero_le (show 0 ≤ t - now by omega)
        exact rrelative_p L t now d w h hs hNl hv ht hn q (by omega)
    · have HE : Hid (reE L t now = 2) := by rw [Hid]; simp [reE, hv, hi]
      have HP := Lib.hid (reV_e HE.out (by decide))
      have HVl := Lib.hid hv
      have Hi := Lib.hid hi
      have hIL := loc_size h.1
      have hE0 : Ext w (w.alloc (.cells L.vals.toArray 30)) := (Ext.refl w).alloc _
      have hB := LcB.new L w 30
      have HV := Lib.hid (h.ext hE0)
      have HE0 := Lib.hid hE0
      have HNl := Lib.hid hNl
      have Hs := Lib.hid hs
      have hR := hB.2
      clear hs hNl h hE0 hB
      clear hv hi
      by_cases q1 : t < -62135596800
      · go_enter Tryz.func21, Tryz.ntmps21
        go_upto_region 1 with fail
        generalize w.alloc (.cells L.vals.toArray 30) = W0 at *
        generalize w.heap.size = B at *
        go_wp2_with (first
          | (refine load_midg (by rfl) 30 _ rfl B 0 rfl L.vals _ hR Tryz.underlying30 rfl hIL ?_)
          | (go_at_call 29; (with_reducible refine (rvalid_c L true _ HV.out Hs.out HNl.out HVl.out).mono ?_); rintro e w1 ⟨rfl, hE1⟩))
        go_ret2
        exact ⟨by rw [HP.out, HE.out]; rfl, HE0.out.trans hE1⟩
      · by_cases q2 : 253402300800 < t
        · go_enter Tryz.func21, Tryz.ntmps21
          go_upto_region 1 with fail
          generalize w.alloc (.cells L.vals.toArray 30) = W0 at *
          generalize w.heap.size = B at *
          go_wp2_with (first
            | (refine load_midg (by rfl) 30 _ rfl B 0 rfl L.vals _ hR Tryz.underlying30 rfl hIL ?_)
            | (go_at_call 29; (with_reducible refine (rvalid_c L true _ HV.out Hs.out HNl.out HVl.out).mono ?_); rintro e w1 ⟨rfl, hE1⟩))
          go_ret2
          exact ⟨by rw [HP.out, HE.out]; rfl, HE0.out.trans hE1⟩
        · by_cases q3 : now < -62135596800
          · go_enter Tryz.func21, Tryz.ntmps21
            go_upto_region 1 with fail
            generalize w.alloc (.cells L.vals.toArray 30) = W0 at *
            generalize w.heap.size = B at *
            go_wp2_with (first
              | (refine load_midg (by rfl) 30 _ rfl B 0 rfl L.vals _ hR Tryz.underlying30 rfl hIL ?_)
              | (go_at_call 29; (with_reducible refine (rvalid_c L true _ HV.out Hs.out HNl.out HVl.out).mono ?_); rintro e w1 ⟨rfl, hE1⟩))
            go_ret2
            exact ⟨by rw [HP.out, HE.out]; rfl, HE0.out.trans hE1⟩
          · have q4 : 253402300800 < now := by
              have := Hi.out
              unfold tmB at this
              simp at this
              omega
            go_enter Tryz.func21, Tryz.ntmps21
            go_upto_region 1 with fail
            generalize w.alloc (.cells L.vals.toArray 30) = W0 at *
            generalize w.heap.size = B at *
            go_wp2_with (first
              | (refine load_midg (by rfl) 30 _ rfl B 0 rfl L.vals _ hR Tryz.underlying30 rfl hIL ?_)
              | (go_at_call 29; (with_reducible refine (rvalid_c L true _ HV.out Hs.out HNl.out HVl.out).mono ?_); rintro e w1 ⟨rfl, hE1⟩))
            go_ret2
            exact ⟨by rw [HP.out, HE.out]; rfl, HE0.out.trans hE1⟩
  · have HE : Hid (reE L t now = 1) := by rw [Hid]; simp [reE, hv]
    have HP := Lib.hid (reV_e HE.out (by decide))
    have HVl := Lib.hid hv
    have hIL := loc_size h.1
    have hE0 : Ext w (w.alloc (.cells L.vals.toArray 30)) := (Ext.refl w).alloc _
    have hB := LcB.new L w 30
    have HV := Lib.hid (h.ext hE0)
    have HE0 := Lib.hid hE0
    have HNl := Lib.hid hNl
    have Hs := Lib.hid hs
    have hR := hB.2
    clear hs hNl h hE0 hB
    clear hv
    go_enter Tryz.func21, Tryz.ntmps21
    go_upto_region 1 with fail
    generalize w.alloc (.cells L.vals.toArray 30) = W0 at *
    generalize w.heap.size = B at *
    go_wp2_with (first
      | (refine load_midg (by rfl) 30 _ rfl B 0 rfl L.vals _ hR Tryz.underlying30 rfl hIL ?_)
      | (go_at_call 29; (with_reducible refine (rvalid_c L false _ HV.out Hs.out HNl.out HVl.out).mono ?_); rintro e w1 ⟨rfl, hE1⟩))
    go_ret2
    exact ⟨by rw [HP.out, HE.out]; rfl, HE0.out.trans hE1⟩
end Go.Proofs.YtlmoibmmjonjoaaGreatDoor
/- The walk of awake of chapter 55. -/
namespace Go.Proofs.YtlmoibmmjonjoaaGreatDoor
set_option linter.unusedVariables false
set_option linter.unusedSimpArgs false
open Go.RowKit Go.Maps

theorem mkey : Keyed Tryz.prog 3 := int_keyed Tryz.underlying3
theorem wf1 : (Lit.int .i64 1).wf = true := by decide
theorem wf21 : (Lit.int .i64 21).wf = true := by decide
theorem wf101 : (Lit.int .i64 101).wf = true := by decide
theorem wf11 : (Lit.int .i64 11).wf = true := by decide
/-- The examples of the chapter, as a map. -/
def exD : DataW Unit := ((((DataW.map []).put (.int .i64 1) (.lit (.bool true))).put (.int .i64 21) (.lit (.bool true))).put (.int .i64 101) (.lit (.bool true))).put (.int .i64 11) (.lit (.bool false))
theorem exD_eq : exD = .map [(.int .i64 1, .lit (.bool true)), (.int .i64 11, .lit (.bool false)), (.int .i64 21, .lit (.bool true)), (.int .i64 101, .lit (.bool true))] := by rfl
theorem exD_at (x : Int) (c : Bool) (h : ∀ zd, exD.atKey (.int .i64 x) zd = .lit (.bool c)) : (x = 1 ∧ c = true) ∨ (x = 21 ∧ c = true) ∨ (x = 101 ∧ c = true) ∨ (x = 11 ∧ c = false) := by
  have h1 := h (.lit (.bool true))
  have h2 := h (.lit (.bool false))
  rw [exD_eq] at h1 h2
  by_cases a : x = 1
  · subst a
    have : DataW.lit (H := Unit) (.bool true) = .lit (.bool c) := h1
    injection this with this
    injection this with this
    exact .inl ⟨rfl, this.symm⟩
  by_cases b : x = 21
  · subst b
    have : DataW.lit (H := Unit) (.bool true) = .lit (.bool c) := h1
    injection this with this
    injection this with this
    exact .inr (.inl ⟨rfl, this.symm⟩)
  by_cases d : x = 101
  · subst d
    have : DataW.lit (H := Unit) (.bool true) = .lit (.bool c) := h1
    injection this with this
    injection this with this
    exact .inr (.inr (.inl ⟨rfl, this.symm⟩))
  by_cases e : x = 11
  · subst e
    have : DataW.lit (H := Unit) (.bool false) = .lit (.bool c) := h1
    injection this with this
    injection this with this
    exact .inr (.inr (.inr ⟨rfl, this.symm⟩))
  exfalso
  simp [DataW.atKey, Lit.sameKey, Ne.symm a, Ne.symm b, Ne.symm d, Ne.symm e, a, b, d, e] at h1 h2
  rw [h1] at h2
  cases h2
set_option maxRecDepth 100000 in
theorem plain_bool_inv {v : Value} {y : DataW Unit × List MemPlace} (h : plainElem Tryz.prog 4 v = some y) : ∃ c, v = .bool c := by
  unfold plainElem at h
  rw [Tryz.underlying4] at h
  cases v <;> simp at h
  exact ⟨_, rfl⟩
/-- The rule of the examples. -/
def exR : List UInt8 := [110, 32, 109, 111, 100, 32, 49, 48, 32, 105, 115, 32, 49, 32, 97, 110, 100, 32, 110, 32, 109, 111, 100, 32, 49, 48, 48, 32, 110, 111, 116, 32, 49, 49]
def exW2 : List (List UInt8) := [[110], [109, 111, 100], [49, 48, 48], [110, 111, 116], [49, 49]]
def exW : List (List UInt8) := [110] :: [109, 111, 100] :: [49, 48] :: [105, 115] :: [49] :: wAnd :: exW2
theorem exW_eq : wds exR = exW := by decide
theorem exW_te : teR exW = wAnd :: exW2 ∧ teB exW = true ∧ teR exW2 = [] ∧ teB exW2 = true := by decide
theorem ex_rul (n : Nat) : rul n exW = (teH n exW2 && teH n exW, true) := by
  obtain ⟨e1, e2, e3, e4⟩ := exW_te
  unfold rul grp
  rw [e1, e2, grL_and, e3, e4, grL_nil]
  simp only
  rw [ruL_nil]
  rfl
theorem ex_ok : okR exR = true := by
  unfold okR
  rw [exW_eq, ex_rul]
  decide
theorem ex_holds (n : Int) (h : inrB n = true) : hoE exR n = 0 ∧ hoV exR n = (teH n.natAbs exW2 && teH n.natAbs exW) := by
  have e : hoE exR n = 0 := by unfold hoE; rw [ex_ok, h]; rfl
  refine ⟨e, ?_⟩
  unfold hoV
  rw [e, exW_eq, ex_rul]
  rfl
theorem ex_at (x : Int) (c : Bool) (h : (x = 1 ∧ c = true) ∨ (x = 21 ∧ c = true) ∨ (x = 101 ∧ c = true) ∨ (x = 11 ∧ c = false)) : hoE exR x = 0 ∧ hoV exR x = c := by
  rcases h with ⟨rfl, rfl⟩ | ⟨rfl, rfl⟩ | ⟨rfl, rfl⟩ | ⟨rfl, rfl⟩
  · obtain ⟨a, b⟩ := ex_holds 1 (by decide); exact ⟨a, b.trans (by decide)⟩
  · obtain ⟨a, b⟩ := ex_holds 21 (by decide); exact ⟨a, b.trans (by decide)⟩
  · obtain ⟨a, b⟩ := ex_holds 101 (by decide); exact ⟨a, b.trans (by decide)⟩
  · obtain ⟨a, b⟩ := ex_holds 11 (by decide); exact ⟨a, b.trans (by decide)⟩
theorem exholds_c (x : Int) (c : Bool) (w : World) (hm : Lm w) (h : hoE exR x = 0 ∧ hoV exR x = c) :
    Calls Tryz.prog 17 #[.string ⟨#[110, 32, 109, 111, 100, 32, 49, 48, 32, 105, 115, 32, 49, 32, 97, 110, 100, 32, 110, 32, 109, 111, 100, 32, 49, 48, 48, 32, 110, 111, 116, 32, 49, 49]⟩, .int .i64 x] w fun e w' => e = .returned (.tuple #[.bool c, .int .i64 0]) ∧ Ext w w' := by
  have q := holds_c exR x w hm (by decide)
  rw [h.1, h.2] at q
  exact q
set_option maxRecDepth 100000 in
theorem awake55_c (w : World) (hm : Lm w) : Calls Tryz.prog 7 #[] w fun e w' => e = .returned (.bool true) ∧ Ext w w' := by
  have Hm := Lib.hid hm
  clear hm
  have hmm := @run_makeMap Tryz.prog
  go_enter Tryz.func7, Tryz.ntmps7
  have hown0 := World.ownsMap_made (H := Unit) w Tryz.prog 3 (plainElem Tryz.prog 4)
  go_wp2_with (first
    | (refine wpList_insert_own _ rfl (.tmp 5) (.const (.int .i64 1)) (.const (.bool true)) 60 rfl 3 4 mkey Tryz.underlying60 _ w.heap.size 0 _ rfl hown0 (by decide) _ _ _ rfl rfl (keyOf_int_mk Tryz.underlying3 wf1) _ [] (plainElem_bool Tryz.underlying4 _) ?_; intro w1 hown1 hg1)
    | (refine wpList_insert_own _ rfl (.tmp 5) (.const (.int .i64 21)) (.const (.bool true)) 60 rfl 3 4 mkey Tryz.underlying60 _ w.heap.size 1 _ rfl hown1 (by decide) _ _ _ rfl rfl (keyOf_int_mk Tryz.underlying3 wf21) _ [] (plainElem_bool Tryz.underlying4 _) ?_; intro w2 hown2 hg2)
    | (refine wpList_insert_own _ rfl (.tmp 5) (.const (.int .i64 101)) (.const (.bool true)) 60 rfl 3 4 mkey Tryz.underlying60 _ w.heap.size 2 _ rfl hown2 (by decide) _ _ _ rfl rfl (keyOf_int_mk Tryz.underlying3 wf101) _ [] (plainElem_bool Tryz.underlying4 _) ?_; intro w3 hown3 hg3)
    | (refine wpList_insert_own _ rfl (.tmp 5) (.const (.int .i64 11)) (.const (.bool false)) 60 rfl 3 4 mkey Tryz.underlying60 _ w.heap.size 3 _ rfl hown3 (by decide) _ _ _ rfl rfl (keyOf_int_mk Tryz.underlying3 wf11) _ [] (plainElem_bool Tryz.underlying4 _) ?_; intro w4 hown4 hg4)
    | (at_range; refine wpList_range_own _ rfl _ 60 rfl 3 4 mkey Tryz.underlying60 _ w.heap.size 4 _ rfl hown4 ?_; intro w5 hrg0 hg5 hs5)
    | go_in)
  have hE5 : Ext w w5 := ext_grown_none (ext_grown_at (ext_grown_at (ext_grown_at (ext_grown_at ((Ext.refl w).alloc _) hg1 (Nat.le_refl _)) hg2 (Nat.le_refl _)) hg3 (Nat.le_refl _)) hg4 (Nat.le_refl _)) hg5
  have hz4 : w.heap.size < w4.heap.size := hown4.lt
  have Hm5 := Lib.hid (Hm.out.ext hE5)
  have HR : Hid (w5.ranges Tryz.prog 3 (plainElem Tryz.prog 4) w.heap.size w4.heap.size 4 exD (Maps.has exD) (Maps.size exD)) := hrg0
  clear hown0 hown1 hown2 hown3 hown4 hg1 hg2 hg3 hg4 hg5 hs5 hrg0 hmm
  generalize w4.heap.size = r at HR hz4 ⊢
  go_frame
  go_loopw [1, 2, 3, 4] (fun _ _ _ _ wr => ∃ left cnt, Hid (wr.ranges Tryz.prog 3 (plainElem Tryz.prog 4) w.heap.size r 4 exD left cnt) ∧ Ext w wr ∧ Hid (Lm wr)) (fun _ _ _ _ wr => wr.rangeLeft w.heap.size r)
  case atStart => exact ⟨_, _, HR, hE5, Hm5⟩
  case round =>
    obtain ⟨left, cnt, hr, hE, Hmr⟩ := hrel
    have hrg := hr.out
    go_wp2_with (first
      | (at_next; refine wpList_next_ranges _ rfl _ rfl 3 mkey (plainElem Tryz.prog 4) (fun x => Value.int .i64 x) (fun n : Nat => Value.bool (decide (n = 1))) (fun key kl hk => by obtain ⟨x, h, _⟩ := keyOf_int_inv Tryz.underlying3 hk; exact ⟨x, h⟩) (fun v y hv => by obtain ⟨c, hc⟩ := plain_bool_inv hv; exact ⟨if c then 1 else 0, by rw [hc]; cases c <;> rfl⟩) w.heap.size r 4 exD left cnt rfl hrg ?_ ?_
         rotate_left
         intro x cn kl y w6 cnt1 hk hlk hv hat hrg1 hlt hg1 hs1 hen
         have HX : Hid (hoE exR x = 0 ∧ hoV exR x = decide (cn = 1)) := by
           obtain ⟨x', hx', rfl, _⟩ := keyOf_int_inv Tryz.underlying3 hk
           obtain rfl : x = x' := by injection hx'
           have hy : y.1 = .lit (.bool (decide (cn = 1))) := by
             have := hv.symm.trans (plainElem_bool (H := Unit) Tryz.underlying4 (decide (cn = 1)))
             rw [Option.some.inj this]
           exact ex_at x _ (exD_at x _ (fun zd => by rw [hat zd, hy]))
         have hE6 : Ext w w6 := ext_grown_at hE hg1 (Nat.le_of_lt hz4)
         have Hm6 := Lib.hid (Hm.out.ext hE6)
         have Hr1 := Lib.hid hrg1
         have Hlt : Hid (cnt1 < cnt) := hlt
         clear hk hlk hv hat hrg1 hlt hg1 hs1
         replace hen : Sem.run Tryz.prog (Instr.entry (Value.pointer (some { block := r, off := 0 }))) w6 = Result.ok (Value.tuple #[Value.int IntKind.i64 x, Value.bool (decide (cn = 1))]) w6 := hen
         have ht : (fun n : Nat => Value.bool (decide (n = 1))) cn = Value.bool (decide (cn = 1)) := rfl
         try rw [ht]
         clear ht
         generalize decide (cn = 1) = c at HX hen ⊢
         cases c
         rotate_right
         intro hc0 hl0)
      | (go_at_call 17; refine (exholds_c x _ _ Hm6.out HX.out).mono ?_; rintro e w7 ⟨rfl, hE7⟩)
      | go_in)
    all_goals first
      | (go_ret; exact ⟨rfl, hE⟩)
      | (have hr8 : w7.ranges Tryz.prog 3 (plainElem Tryz.prog 4) w.heap.size r 4 exD _ cnt1 := Hr1.out.kept (grown_ext hE7 none) (by simp) (by simp)
         refine ⟨⟨_, _, hr8, hE6.trans hE7, Lib.hid (Hm6.out.ext hE7)⟩, ?_⟩
         rw [hr8.left_eq, hrg.left_eq]; exact Hlt.out)
end Go.Proofs.YtlmoibmmjonjoaaGreatDoor
