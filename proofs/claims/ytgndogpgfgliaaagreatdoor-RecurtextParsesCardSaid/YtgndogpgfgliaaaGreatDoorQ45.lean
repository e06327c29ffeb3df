/- Recurrence rules: the walk of the law RecurtextPart. -/
import Derived.Test.YtgndogpgfgliaaaGreatDoorQ44
import Derived.Test.YtgndogpgfgliaaaGreatDoorQ29
import Derived.Test.YtgndogpgfgliaaaGreatDoorQ40
import Derived.Test.YtgndogpgfgliaaaGreatDoorQ22
namespace Go.Proofs.YtgndogpgfgliaaaGreatDoor
set_option linter.unusedVariables false
set_option linter.unnecessarySimpa false
set_option linter.unusedSimpArgs false
open Go.RowKit

def prD : RPr → RecD
  | .er _ => RecD.zero
  | .ok D => D
def prC : RPr → Int
  | .er c => (c : Int)
  | .ok _ => 0
theorem PartR.any {nm s : List UInt8} {r : Rec} {w w' : World} {e : Ending} (h : PartR nm s r w e w') : ∃ q : Rec, q.D = prD (prtZ untZ nm s r.D) ∧ e = .returned (.tuple #[.agg q.vals.toArray, .int .i64 (prC (prtZ untZ nm s r.D))]) ∧ RcV q w' ∧ Ext w w' := by
  unfold PartR at h
  cases hp : prtZ untZ nm s r.D with
  | er c =>
    rw [hp] at h
    exact ⟨Rec.zero, rfl, h.1, ⟨IsV.nil w', IsV.nil w', IsV.nil w', IsV.nil w', OsV.nil w', IsV.nil w', IsV.nil w', IsV.nil w', IsV.nil w'⟩, h.2⟩
  | ok D =>
    rw [hp] at h
    obtain ⟨q, h1, h2, h3, h4, -⟩ := h
    exact ⟨q, h1, h2, h3, h4⟩
set_option maxRecDepth 100000 in
set_option maxHeartbeats 4000000 in
theorem part30_nm (nm s : List UInt8) (r : Rec) (w : World) (hm : Lm w) (hV : RcV r w) (hn : 500 < nm.length) :
    Calls Tryz.prog 5 #[.string ⟨nm.toArray⟩, .string ⟨s.toArray⟩, .agg r.vals.toArray] w fun e w' => e = .returned (.bool true) ∧ Ext w w' := by
  have hE0 : Ext w (w.alloc (.cells r.vals.toArray 25)) := (Ext.refl w).alloc _
  have HE0 := Lib.hid hE0
  have hB := RcB.new r w 25
  have hBr := hB.2
  have hBl := hB.1
  have hRs := rec_size r
  have tn : decide ((500 : Int) < (nm.length : Int)) = true := decide_eq_true (by omega)
  have HA := Lib.hid (awake30_c _ (hm.ext hE0))
  clear hE0 hB hV hm hn
  go_enter Tryz.func5, Tryz.ntmps5
  go_upto_region 1 with fail
  generalize w.alloc (.cells r.vals.toArray 25) = W0 at *
  generalize w.heap.size = B at *
  go_upto_region 3 with (go_at_call 11; (with_reducible refine HA.out.mono ?_); rintro e w1 ⟨rfl, hE1⟩)
  have hB1 : RcB r B w1 := RcB.ext ⟨hBl, hBr⟩ hE1
  have hBr1 := hB1.2
  go_wp2_with fail
  go_ret
  exact ⟨rfl, HE0.out.trans hE1⟩
set_option maxRecDepth 100000 in
set_option maxHeartbeats 4000000 in
theorem part30_s (nm s : List UInt8) (r : Rec) (w : World) (hm : Lm w) (hV : RcV r w) (hn : ¬ 500 < nm.length) (hs : 500 < s.length) :
    Calls Tryz.prog 5 #[.string ⟨nm.toArray⟩, .string ⟨s.toArray⟩, .agg r.vals.toArray] w fun e w' => e = .returned (.bool true) ∧ Ext w w' := by
  have hE0 : Ext w (w.alloc (.cells r.vals.toArray 25)) := (Ext.refl w).alloc _
  have HE0 := Lib.hid hE0
  have hB := RcB.new r w 25
  have hBr := hB.2
  have hBl := hB.1
  have hRs := rec_size r
  have tn : decide ((500 : Int) < (nm.length : Int)) = false := decide_eq_false (by omega)
  have ts : decide ((500 : Int) < (s.length : Int)) = true := decide_eq_true (by omega)
  have HA := Lib.hid (awake30_c _ (hm.ext hE0))
  clear hE0 hB hV hm hn hs
  go_enter Tryz.func5, Tryz.ntmps5
  go_upto_region 1 with fail
  generalize w.alloc (.cells r.vals.toArray 25) = W0 at *
  generalize w.heap.size = B at *
  go_upto_region 3 with (go_at_call 11; (with_reducible refine HA.out.mono ?_); rintro e w1 ⟨rfl, hE1⟩)
  have hB1 : RcB r B w1 := RcB.ext ⟨hBl, hBr⟩ hE1
  have hBr1 := hB1.2
  go_wp2_with fail
  go_ret
  exact ⟨rfl, HE0.out.trans hE1⟩
set_option maxRecDepth 100000 in
set_option maxHeartbeats 4000000 in
theorem part30_g (nm s : List UInt8) (r : Rec) (w : World) (hm : Lm w) (hV : RcV r w) (hn : ¬ 500 < nm.length) (hs : ¬ 500 < s.length) (hg : greatR r.D = true) :
    Calls Tryz.prog 5 #[.string ⟨nm.toArray⟩, .string ⟨s.toArray⟩, .agg r.vals.toArray] w fun e w' => e = .returned (.bool true) ∧ Ext w w' := by
  have hE0 : Ext w (w.alloc (.cells r.vals.toArray 25)) := (Ext.refl w).alloc _
  have HE0 := Lib.hid hE0
  have hB := RcB.new r w 25
  have hBr := hB.2
  have hBl := hB.1
  have hRs := rec_size r
  have tn : decide ((500 : Int) < (nm.length : Int)) = false := decide_eq_false (by omega)
  have ts : decide ((500 : Int) < (s.length : Int)) = false := decide_eq_false (by omega)
  have HG := Lib.hid (fun W (hE : Ext (w.alloc (.cells r.vals.toArray 25)) W) => great30_c r true W ((hV.ext hE0).ext hE) hg)
  have HA := Lib.hid (awake30_c _ (hm.ext hE0))
  clear hE0 hB hV hm hn hs
  go_enter Tryz.func5, Tryz.ntmps5
  go_upto_region 1 with fail
  generalize w.alloc (.cells r.vals.toArray 25) = W0 at *
  generalize w.heap.size = B at *
  go_upto_region 3 with (go_at_call 11; (with_reducible refine HA.out.mono ?_); rintro e w1 ⟨rfl, hE1⟩)
  have hB1 : RcB r B w1 := RcB.ext ⟨hBl, hBr⟩ hE1
  have hBr1 := hB1.2
  go_wp2_with (first
    | (refine load_midg (by rfl) 25 _ rfl B 0 rfl r.vals _ hBr1 Tryz.underlying25 rfl hRs ?_)
    | (go_at_call 12; (with_reducible refine (HG.out _ hE1).mono ?_); rintro e w2 ⟨rfl, hE2⟩))
  go_ret
  exact ⟨rfl, HE0.out.trans (hE1.trans hE2)⟩
set_option maxRecDepth 100000 in
set_option maxHeartbeats 4000000 in
theorem part30_go (nm s : List UInt8) (r : Rec) (w : World) (hm : Lm w) (hV : RcV r w) (hn : ¬ 500 < nm.length) (hs : ¬ 500 < s.length) (hg : greatR r.D = false) :
    Calls Tryz.prog 5 #[.string ⟨nm.toArray⟩, .string ⟨s.toArray⟩, .agg r.vals.toArray] w fun e w' => e = .returned (.bool true) ∧ Ext w w' := by
  have hE0 : Ext w (w.alloc (.cells r.vals.toArray 25)) := (Ext.refl w).alloc _
  have HE0 := Lib.hid hE0
  have hB := RcB.new r w 25
  have hBr := hB.2
  have hBl := hB.1
  have hRs := rec_size r
  have tn : decide ((500 : Int) < (nm.length : Int)) = false := decide_eq_false (by omega)
  have ts : decide ((500 : Int) < (s.length : Int)) = false := decide_eq_false (by omega)
  have HG := Lib.hid (fun W (hE : Ext (w.alloc (.cells r.vals.toArray 25)) W) => great30_c r false W ((hV.ext hE0).ext hE) hg)
  have HA := Lib.hid (awake30_c _ (hm.ext hE0))
  obtain ⟨X, hX⟩ : ∃ X, X = prtZ untZ nm s r.D := ⟨_, rfl⟩
  have HP := Lib.hid (fun W (hE : Ext (w.alloc (.cells r.vals.toArray 25)) W) => (part_c nm s r W ((hm.ext hE0).ext hE) (by omega) ((hV.ext hE0).ext hE)).mono (fun e w' h => PartR.any h))
  have HQ := Lib.hid (fun W (hE : Ext (w.alloc (.cells r.vals.toArray 25)) W) => (rpart_c nm s r W (by omega) ((hV.ext hE0).ext hE)).mono (fun e w' h => PartR.any h))
  rw [← hX] at HP HQ
  obtain ⟨c, hc⟩ : ∃ c, c = prC X := ⟨_, rfl⟩
  rw [← hc] at HP HQ
  clear hE0 hB hV hm hn hs hg hX hc
  go_enter Tryz.func5, Tryz.ntmps5
  go_upto_region 1 with fail
  generalize w.alloc (.cells r.vals.toArray 25) = W0 at *
  generalize w.heap.size = B at *
  go_upto_region 3 with (go_at_call 11; (with_reducible refine HA.out.mono ?_); rintro e w1 ⟨rfl, hE1⟩)
  have hB1 : RcB r B w1 := RcB.ext ⟨hBl, hBr⟩ hE1
  have hBr1 := hB1.2
  go_upto_region 5 with (first
    | (refine load_midg (by rfl) 25 _ rfl B 0 rfl r.vals _ hBr1 Tryz.underlying25 rfl hRs ?_)
    | (go_at_call 12; (with_reducible refine (HG.out _ hE1).mono ?_); rintro e w2 ⟨rfl, hE2⟩))
  have HX2 := Lib.hid (hE1.trans hE2)
  have hBr2 := (hB1.ext hE2).2
  have HB2 := Lib.hid (hB1.ext hE2)
  clear hBr hB1 hBr1 hE1 hE2 hBl
  go_upto_region 6 with (first
    | (refine load_midg (by rfl) 25 _ rfl B 0 rfl r.vals _ hBr2 Tryz.underlying25 rfl hRs ?_)
    | (go_at_call 20; (with_reducible refine (HP.out _ HX2.out).mono ?_); rintro e w3 ⟨p, hpD, rfl, hpV, hE3⟩; have hrp := rec_size p; have hp1 := rec_all1 p; have HpD := Lib.hid hpD; have HpV := Lib.hid hpV; have HE3 := Lib.hid hE3; clear hpD hpV hE3; have hTz := thr_new w3 (#[.int .i64 0, .int .i64 0, .int .i64 0, .int .i64 0, .slice none 0 0, .slice none 0 0, .slice none 0 0, .slice none 0 0, .slice none 0 0, .slice none 0 0, .slice none 0 0, .slice none 0 0, .slice none 0 0, .int .i64 0]) 25 14 rfl; have hlz : w3.heap.size < (w3.alloc (.cells #[.int .i64 0, .int .i64 0, .int .i64 0, .int .i64 0, .slice none 0 0, .slice none 0 0, .slice none 0 0, .slice none 0 0, .slice none 0 0, .slice none 0 0, .slice none 0 0, .slice none 0 0, .slice none 0 0, .int .i64 0] 25)).heap.size := by simp)
    | (refine wpList_store_gen (op := ⟨none, .store 25 (.tmp 7) (.tmp 30), _, _, _, _⟩) rfl 25 _ _ rfl w3.heap.size p.vals rfl rfl hlz hTz hrp hp1 ?_; intro W4 hF4 hl4 hr4))
  have hE4 : Ext w3 W4 := Frm.far ((Ext.refl w3).alloc _) hF4 (fun k hk e => by omega)
  have HX4 := Lib.hid (HX2.out.trans (HE3.out.trans hE4))
  have HpV4 := Lib.hid (HpV.out.ext hE4)
  have HR4 := Lib.hid (show RcB p w3.heap.size W4 from ⟨hl4, hr4⟩)
  have hBr4 := (HB2.out.ext (HE3.out.trans hE4)).2
  clear hF4 hTz hlz hE4 hBr2 hr4
  generalize w3.heap.size = C at *
  go_upto_region 7 with (first
    | (refine load_midg (by rfl) 25 _ rfl B 0 rfl r.vals _ hBr4 Tryz.underlying25 rfl hRs ?_)
    | (go_at_call 21; (with_reducible refine (HQ.out _ HX4.out).mono ?_); rintro e w5 ⟨q, hqD, rfl, hqV, hE5⟩; have hrq := rec_size q; have hq1 := rec_all1 q; have HqD := Lib.hid hqD; have HqV := Lib.hid hqV; have HE5 := Lib.hid hE5; clear hqD hqV hE5; have hTz := thr_new w5 (#[.int .i64 0, .int .i64 0, .int .i64 0, .int .i64 0, .slice none 0 0, .slice none 0 0, .slice none 0 0, .slice none 0 0, .slice none 0 0, .slice none 0 0, .slice none 0 0, .slice none 0 0, .slice none 0 0, .int .i64 0]) 25 14 rfl; have hlz : w5.heap.size < (w5.alloc (.cells #[.int .i64 0, .int .i64 0, .int .i64 0, .int .i64 0, .slice none 0 0, .slice none 0 0, .slice none 0 0, .slice none 0 0, .slice none 0 0, .slice none 0 0, .slice none 0 0, .slice none 0 0, .slice none 0 0, .int .i64 0] 25)).heap.size := by simp)
    | (refine wpList_store_gen (op := ⟨none, .store 25 (.tmp 9) (.tmp 37), _, _, _, _⟩) rfl 25 _ _ rfl w5.heap.size q.vals rfl rfl hlz hTz hrq hq1 ?_; intro W6 hF6 hl6 hr6))
  have hE6 : Ext w5 W6 := Frm.far ((Ext.refl w5).alloc _) hF6 (fun k hk e => by omega)
  have hX6 := HE5.out.trans hE6
  have HX6 := Lib.hid (HX4.out.trans hX6)
  have hrC := (HR4.out.ext hX6).2
  have HS := Lib.hid (same30_c p q true W6 (HpV4.out.ext hX6) (HqV.out.ext hE6) (sameR_iff.2 (HpD.out.trans HqD.out.symm)))
  clear hF6 hTz hlz hE6 hX6 hBr4
  generalize w5.heap.size = D at *
  go_wp2_with (first
    | (refine load_midg (by rfl) 25 _ rfl C 0 rfl p.vals _ hrC Tryz.underlying25 rfl hrp ?_)
    | (refine load_midg (by rfl) 25 _ rfl D 0 rfl q.vals _ hr6 Tryz.underlying25 rfl hrq ?_)
    | (go_at_call 19; (with_reducible refine HS.out.mono ?_); rintro e w7 ⟨rfl, hE7⟩))
  go_ret
  exact ⟨rfl, HE0.out.trans (HX6.out.trans hE7)⟩
theorem part30_l (nm s : List UInt8) (r : Rec) (w : World) (hm : Lm w) (hV : RcV r w) :
    Calls Tryz.prog 5 #[.string ⟨nm.toArray⟩, .string ⟨s.toArray⟩, .agg r.vals.toArray] w fun e w' => e = .returned (.bool true) ∧ Ext w w' := by
  by_cases hn : 500 < nm.length
  · exact part30_nm nm s r w hm hV hn
  · by_cases hs : 500 < s.length
    · exact part30_s nm s r w hm hV hn hs
    · rcases Bool.eq_false_or_eq_true (greatR r.D) with hg | hg
      · exact part30_g nm s r w hm hV hn hs hg
      · exact part30_go nm s r w hm hV hn hs hg
theorem part30_walk (a b : ByteArray) (r : Rec) (w : World) (hm : Lm w) (hV : RcV r w) :
    Calls Tryz.prog 5 #[.string a, .string b, .agg r.vals.toArray] w fun e w' => e = .returned (.bool true) ∧ Ext w w' := by
  have e1 : (⟨a.data.toList.toArray⟩ : ByteArray) = a := by simp
  have e2 : (⟨b.data.toList.toArray⟩ : ByteArray) = b := by simp
  have h := part30_l a.data.toList b.data.toList r w hm hV
  rw [e1, e2] at h
  exact h
end Go.Proofs.YtgndogpgfgliaaaGreatDoor
/- Recurrence rules: the reference's Parse: what it leans on. -/
namespace Go.Proofs.YtgndogpgfgliaaaGreatDoor
set_option linter.unusedVariables false
set_option linter.unnecessarySimpa false
set_option linter.unusedSimpArgs false
open Go.RowKit

set_option maxRecDepth 100000 in
set_option maxHeartbeats 2000000 in
theorem rplaceN_c (W : List (List UInt8)) (H c : Nat) (s : List UInt8) (p : Nat) (w : World) (hR : RdS W H 0 w) (hW : W.length ≤ 100000) (hc : W.length ≤ c) (hp : plW W s = p) :
    Calls Tryz.prog 56 #[.slice (some ⟨H, 0, none⟩) W.length c, .string ⟨s.toArray⟩] w fun e w' => e = .returned (.int .i64 (p : Int)) ∧ w = w' := by
  have HHit : Hid (∀ j, j < W.length → W.getD j [] = s → (∀ i, i < j → W.getD i [] ≠ s) → p = j + 1) := fun j hj h1 h2 => by rw [← hp]; exact plW_hit W s j hj h1 h2
  have HMiss : Hid ((∀ i, i < W.length → W.getD i [] ≠ s) → p = 0) := fun h => by rw [← hp]; exact plW_miss W s h
  have HR := Lib.hid hR
  clear hp hR
  go_enter Tryz.func56, Tryz.ntmps56
  go_wp2_with fail
  go_loopw [5] (fun i wr => ∃ j : Nat, j ≤ W.length ∧ i = .int .i64 (j : Int) ∧ (∀ k, k < j → W.getD k [] ≠ s) ∧ w = wr) (fun i _ => W.length - (intOf i).toNat)
  case atStart => exact ⟨0, Nat.zero_le _, rfl, (fun k h => by omega), rfl⟩
  case round =>
    obtain ⟨j, hj, rfl, hk, rfl⟩ := hrel
    have HK := Lib.hid hk
    clear hk
    by_cases hlt : j < W.length
    · have hRz := HR.out.1
      have x0 := HR.out.2 j hlt
      rw [Nat.zero_add] at x0
      have hg : W.getD j [] = W[j] := by simp [List.getD, hlt]
      obtain ⟨x, hx⟩ : ∃ x, x = W[j] := ⟨_, rfl⟩
      rw [← hx] at x0 hg
      have Hg := Lib.hid hg
      clear hx hg
      by_cases he : x = s
      · subst he
        have hpj := HHit.out j hlt Hg.out HK.out
        have Hpj := Lib.hid hpj
        clear hpj
        go_wp2_with fail
        go_ret
        exact ⟨by rw [Hpj.out]; rfl, rfl⟩
      · have HK2 : Hid (∀ k, k < j + 1 → W.getD k [] ≠ s) := fun k h => by
          by_cases q : k = j
          · subst q; rw [Hg.out]; exact he
          · exact HK.out k (by omega)
        go_wp2_with fail
        · exfalso; clear HHit HMiss HR HK HK2 Hg; simp_all
        go_roundw
        case rel => exact ⟨j + 1, by omega, by go_num, HK2.out, by first | rfl | trivial⟩
        case measure => simp [intOf]; omega
    · obtain rfl : j = W.length := by omega
      have hpj := HMiss.out HK.out
      have Hpj := Lib.hid hpj
      clear hpj
      go_wp2_with fail
      go_ret
      exact ⟨by rw [Hpj.out]; rfl, rfl⟩
theorem rplaceZ_c (s : List UInt8) (cap : Nat) (w : World) : Calls Tryz.prog 56 #[.slice none 0 cap, .string ⟨s.toArray⟩] w fun e w' => e = .returned (.int .i64 0) ∧ w = w' := by
  go_enter Tryz.func56, Tryz.ntmps56
  go_wp2_with fail
  go_loopw [5] (fun i wr => i = .int .i64 0 ∧ w = wr) (fun i _ => 1)
  case atStart => exact ⟨rfl, rfl⟩
  case round =>
    obtain ⟨rfl, rfl⟩ := hrel
    go_wp2_with fail
    go_ret
    exact ⟨rfl, rfl⟩
theorem plW_zero {l : List (List UInt8)} {s : List UInt8} : plW l s = 0 ↔ s ∉ l := by
  unfold plW
  split <;> simp_all
theorem ix_cl : ∀ a : List UInt8, Cl 61 a → Lib.index a [61] = -1
  | [], _ => rfl
  | b :: r, h => by
    have hb : b ≠ 61 := h b (by simp)
    have ih := ix_cl r (fun x hx => h x (List.mem_cons_of_mem _ hx))
    have hp : List.isPrefixOf [61] (b :: r) = false := by
      simp [List.isPrefixOf]
      exact fun e => hb e.symm
    rw [Lib.index, hp, ih]
    rfl
theorem cut_noq {p : List UInt8} (h : ∀ i (hi : i < p.length), p[i] ≠ 61) : Lib.cut p [61] = (p, [], false) := by
  have hc : Cl 61 p := fun x hx => by
    obtain ⟨i, hi, rfl⟩ := List.mem_iff_getElem.1 hx
    exact h i hi
  unfold Lib.cut
  rw [ix_cl p hc]
  rfl
theorem cut_atq {p : List UInt8} {k : Nat} (hk : k < p.length) (h : ∀ i (hi : i < p.length), i < k → p[i] ≠ 61) (hq : p[k] = 61) : Lib.cut p [61] = (p.take k, p.drop (k + 1), true) := by
  have e : p = p.take k ++ 61 :: p.drop (k + 1) := by
    have h1 := p.take_append_drop k
    rw [List.drop_eq_getElem_cons hk, hq] at h1
    exact h1.symm
  have hc : Cl 61 (p.take k) := fun x hx => by
    obtain ⟨i, hi, rfl⟩ := List.mem_iff_getElem.1 hx
    rw [List.length_take] at hi
    rw [List.getElem_take]
    exact h i (by omega) (by omega)
  have h2 := uCut_at 61 (p.take k) (p.drop (k + 1)) hc
  rw [← e] at h2
  exact h2
/-- A store into a variable, outside of a list of operations. -/
theorem wp_store_gen30 {P : Program} {op : Oper} {a : Act} {w : World} {K : Act → World → Prop} {Q : Exit → Act → World → Prop} (ty : TypeId) (x y : Operand) (ho : op.op = .store ty x y)
    (B : Nat) (vs : List Value) (hx : a.eval x = .pointer (some ⟨B, 0, none⟩)) (hy : a.eval y = .agg vs.toArray) (hB : B < w.heap.size)
    (ht : w.there B 0 vs.length) (hi : (P.info? ty).map (·.size) = some vs.length) (h1 : vs.all (·.oneCell') = true)
    (h : ∀ W, Frm (fun k => k = B) w W → B < W.heap.size → W.rangeAt B 0 vs → K (a.put op.dst undef) W) : op.wp P a w K Q := by
  refine wp_store_mid ty x y ho B 0 vs.toArray hx hy (by simpa using ht) (by simpa using hi) (by rw [List.all_toArray]; exact h1) ?_
  have hf := frm_sets (S := fun k => k = B) w B vs 0 rfl
  obtain ⟨r1, r2⟩ := range_set w B vs hB ht
  exact h _ hf r1 r2
/-- A rule whose slices stand whatever is written into the blocks F. -/
def PSt (F : Nat → Prop) (q : Rec) (w : World) : Prop := ∀ W, Frm F w W → RcV q W
theorem PSt.ext {F : Nat → Prop} {q : Rec} {w w' : World} (h : PSt F q w) (hE : Ext w w') : PSt F q w' := fun W hF => h W ((Frm.of_ext hE).trans hF)
theorem PSt.v {F : Nat → Prop} {q : Rec} {w : World} (h : PSt F q w) : RcV q w := h w (Frm.refl _ _)
theorem PSt.zero (F : Nat → Prop) (w : World) : PSt F Rec.zero w := fun W _ => ⟨IsV.nil W, IsV.nil W, IsV.nil W, IsV.nil W, OsV.nil W, IsV.nil W, IsV.nil W, IsV.nil W, IsV.nil W⟩
def prD2 : RPr → RecD
  | .er _ => RecD.zero
  | .ok D => D
def prC2 : RPr → Int
  | .er c => (c : Int)
  | .ok _ => 0
/-- What Part hands back. -/
def PrQ (F : Nat → Prop) (X : RPr) (x : Value) (w : World) : Prop := ∃ q : Rec, x = .tuple #[.agg q.vals.toArray, .int .i64 (prC2 X)] ∧ q.D = prD2 X ∧ PSt F q w
theorem PrQ.ext {F : Nat → Prop} {X : RPr} {x : Value} {w w' : World} (h : PrQ F X x w) (hE : Ext w w') : PrQ F X x w' := by
  obtain ⟨q, h1, h2, h3⟩ := h
  exact ⟨q, h1, h2, h3.ext hE⟩
def PrA (F : Nat → Prop) (X : RPr) (x : Value) (w : World) : Prop := ∃ q : Rec, x = .agg q.vals.toArray ∧ q.D = prD2 X ∧ PSt F q w
theorem PrA.ext {F : Nat → Prop} {X : RPr} {x : Value} {w w' : World} (h : PrA F X x w) (hE : Ext w w') : PrA F X x w' := by
  obtain ⟨q, h1, h2, h3⟩ := h
  exact ⟨q, h1, h2, h3.ext hE⟩
theorem rpart_q (A V : List UInt8) (r : Rec) (F : Nat → Prop) (w : World) (hs : V.length ≤ 50000) (hF : ∀ b, F b → b < w.heap.size) (hS : PSt F r w) :
    Calls Tryz.prog 21 #[.string ⟨A.toArray⟩, .string ⟨V.toArray⟩, .agg r.vals.toArray] w fun e w' => ∃ x, e = .returned x ∧ PrQ F (prtZ untZ A V r.D) x w' ∧ Ext w w' :=
  (rpart_c A V r w hs hS.v).mono fun e w' h => by
    unfold PartR at h
    cases hp : prtZ untZ A V r.D with
    | er c =>
      rw [hp] at h
      exact ⟨_, h.1, ⟨Rec.zero, rfl, rfl, PSt.zero F w'⟩, h.2⟩
    | ok D =>
      rw [hp] at h
      obtain ⟨q, h1, h2, h3, h4, h5⟩ := h
      exact ⟨_, h2, ⟨q, rfl, h1, h5 F hF hS⟩, h4⟩
/-- A new variable for a rule. -/
def AlR (b : Nat) (x : Value) (w : World) : Prop := ∃ B, x = .pointer (some ⟨B, 0, none⟩) ∧ b ≤ B ∧ B < w.heap.size ∧ w.there B 0 14
theorem AlR.ext {b : Nat} {x : Value} {w w' : World} (h : AlR b x w) (hE : Ext w w') : AlR b x w' := by
  obtain ⟨B, h1, h2, h3, h4⟩ := h
  exact ⟨B, h1, h2, hE.lt h3, thr_ext h4 h3 hE⟩
theorem AlR.new {b : Nat} {w : World} (h : b ≤ w.heap.size) : AlR b (.pointer (some ⟨w.heap.size, 0, none⟩)) (w.alloc (.cells #[.int .i64 0, .int .i64 0, .int .i64 0, .int .i64 0, .slice none 0 0, .slice none 0 0, .slice none 0 0, .slice none 0 0, .slice none 0 0, .slice none 0 0, .slice none 0 0, .slice none 0 0, .slice none 0 0, .int .i64 0] 25)) :=
  ⟨w.heap.size, rfl, h, by simp, thr_new w _ _ 14 rfl⟩
theorem al_rec (o : Oper) (a : Act) (w : World) (hop : o.op = .alloc 25) : (execOp a.eval o).run Tryz.prog w = .ok (.value (.pointer (some ⟨w.heap.size, 0, none⟩))) (w.alloc (.cells #[.int .i64 0, .int .i64 0, .int .i64 0, .int .i64 0, .slice none 0 0, .slice none 0 0, .slice none 0 0, .slice none 0 0, .slice none 0 0, .slice none 0 0, .slice none 0 0, .slice none 0 0, .slice none 0 0, .int .i64 0] 25)) := by
  unfold execOp; simp only [hop]; kernel_rfl
theorem slh_s (p A : List UInt8) (k : Nat) (w : World) (hk : k ≤ p.length) (hA : (⟨p.toArray⟩ : ByteArray).extract 0 k = ⟨A.toArray⟩) : (Instr.sliceAt 9 (.string ⟨p.toArray⟩) none (some (.int .i64 (k : Int))) none).run Tryz.prog w = .ok (.string ⟨A.toArray⟩) w := by
  have h1 : (⟨p.toArray⟩ : ByteArray).size = p.length := by show p.toArray.size = _; simp
  have h2 : (k : Int) ≤ (p.length : Int) := by omega
  generalize (⟨p.toArray⟩ : ByteArray) = X at *
  go_simp
  try omega
theorem sll_s (p A : List UInt8) (k : Nat) (w : World) (hk : k ≤ p.length) (hA : (⟨p.toArray⟩ : ByteArray).extract k p.length = ⟨A.toArray⟩) : (Instr.sliceAt 9 (.string ⟨p.toArray⟩) (some (.int .i64 (k : Int))) none none).run Tryz.prog w = .ok (.string ⟨A.toArray⟩) w := by
  have h1 : (⟨p.toArray⟩ : ByteArray).size = p.length := by show p.toArray.size = _; simp
  have h2 : (k : Int) ≤ (p.length : Int) := by omega
  generalize (⟨p.toArray⟩ : ByteArray) = X at *
  go_simp
  try omega
theorem ext_take (p : List UInt8) (k : Nat) : (⟨p.toArray⟩ : ByteArray).extract 0 k = ⟨(p.take k).toArray⟩ := by
  apply ByteArray.ext
  simp
theorem ext_drop (p : List UInt8) (k : Nat) : (⟨p.toArray⟩ : ByteArray).extract k p.length = ⟨(p.drop k).toArray⟩ := by
  apply ByteArray.ext
  simp
  exact List.take_of_length_le (by simp)
end Go.Proofs.YtgndogpgfgliaaaGreatDoor
