/- Opening arguments: slices of parts; types. -/
import Derived.Test.YticckkadmhklmaaK27
import Derived.Test.YticckkadmhklmaaK06
import Derived.Test.YticckkadmhklmaaK20
import Derived.Test.YticckkadmhklmaaK04
import Derived.Test.YticckkadmhklmaaK00
import Derived.Test.YticckkadmhklmaaK03
import Derived.Test.YticckkadmhklmaaK24
import Derived.Deep.Slices
import Derived.Deep.SlicePairs
import Derived.Deep.Cut
namespace Go.Proofs.Yticckkadmhklmaa
open Go.ChangeShapes Go.WideShapes Go.ChangeAt Go.WideMaps Go.WideElems Go.RowKit
set_option linter.unusedVariables false

theorem cI : Try.prog.cellsOf 3 = 1 := by kernel_rfl
theorem cS : Try.prog.cellsOf 9 = 1 := by kernel_rfl
theorem cP : Try.prog.cellsOf 57 = 3 := by kernel_rfl
theorem cTy : Try.prog.cellsOf 24 = 3 := by kernel_rfl
theorem three {cs : List Value} {a b c : Value} (hl : cs.length = 3) (e0 : List.take 1 (List.drop 0 cs) = [a]) (e1 : List.take 1 (List.drop 1 cs) = [b]) (e2 : List.take 1 (List.drop 2 cs) = [c]) : cs = [a, b, c] := by
  match cs, hl with
  | [x0, x1, x2], _ => simp at e0 e1 e2; simp [e0, e1, e2]
theorem iis_cells {H : Type} {enc : TypeId × Value → H} {W : World} {base : Nat} {sp : Nat → Bool} {hd : Bool} {fuel : Nat} {t : TypeId} {cs : List Value} {x : DataW H × List MemPlace} {f0 f1 f2 : Field}
    (hu : Try.prog.underlying t = some (.struct #[f0, f1, f2])) (hc : Try.prog.cellsOf t = 3) (t0 : f0.type = 3) (t1 : f1.type = 3) (t2 : f2.type = 9) (o0 : f0.offset = 0) (o1 : f1.offset = 1) (o2 : f2.offset = 2)
    (h : DataW.trod enc Try.prog W base sp hd fuel t cs = some x) : ∃ (a b : Int) (s : ByteArray), cs = [.int .i64 a, .int .i64 b, .string s] ∧ s.size ≤ maxLen := by
  obtain ⟨xs, n, _, _, hl, hlen, hf⟩ := DataW.trod_struct hu h
  have h0 := hf 0 f0 rfl
  have h1 := hf 1 f1 rfl
  have h2 := hf 2 f2 rfl
  rw [t0, o0, cI] at h0
  rw [t1, o1, cI] at h1
  rw [t2, o2, cS] at h2
  match xs, hlen with
  | [y0, y1, y2], _ =>
    obtain ⟨a0, e0, _⟩ := DataW.trod_int Try.underlying3 (show DataW.trod _ Try.prog W _ _ _ n 3 _ = some y0 from h0)
    obtain ⟨a1, e1, _⟩ := DataW.trod_int Try.underlying3 (show DataW.trod _ Try.prog W _ _ _ n 3 _ = some y1 from h1)
    obtain ⟨a2, e2, _, sz⟩ := DataW.trod_string Try.underlying9 (show DataW.trod _ Try.prog W _ _ _ n 9 _ = some y2 from h2)
    exact ⟨a0, a1, a2, three (hl.trans hc) e0 e1 e2, sz⟩
set_option maxRecDepth 100000 in
theorem open_parts {H : Type} {enc : TypeId × Value → H} {W : World} {r : Reach} {b0 base : Nat} {sp : Nat → Bool} {hd : Bool} {v : Value} {d : DataW H} {p : List MemPlace} (hval : Value.okWide Try.prog W r b0 22 v) (h : DataW.Trod enc Try.prog W base sp hd 22 v d p) :
    ∃ (l : List Prt) (ao : Option Addr) (cap : Nat), v = .slice ao l.length cap ∧ PtV ao cap l W := by
  obtain ⟨a1, len1, cap1, rfl⟩ := okWide_slice Try.underlying22 hval
  obtain ⟨fuel, hf⟩ := h
  rcases Go.Deep.open_slice Try.underlying22 hf with ⟨e, _⟩ | ⟨a, len, cap, m, n, D, Pl, e, hb, hlc, hm, hmm, _, hx⟩
  · have e : Value.slice a1 len1 cap1 = .slice none 0 0 := by simpa [Value.cells] using e
    rw [e]
    exact ⟨[], none, 0, rfl, PtV.nil W⟩
  · have e : Value.slice a1 len1 cap1 = .slice (some a) len cap := by simpa [Value.cells] using e
    rw [e]
    have hlm : len ≤ m := by rw [hmm]; split <;> omega
    have each : ∀ i, i < len → ∃ q : Prt, W.cell? (a.add (i * 3)) = some (.int .i64 q.k) ∧ W.cell? ((a.add (i * 3)).add 1) = some (.int .i64 q.w) ∧ W.cell? ((a.add (i * 3)).add 2) = some (.string ⟨q.t.toArray⟩) := by
      intro i hi
      obtain ⟨cs', h1, h2⟩ := hx i (by omega)
      rw [cP] at h1
      obtain ⟨_, hlen, hcell⟩ := World.cells?_some h1
      obtain ⟨x, y, s, rfl, _⟩ := iis_cells Try.underlying57 cP rfl rfl rfl rfl rfl rfl h2
      refine ⟨⟨x, y, s.data.toList⟩, ?_, ?_, ?_⟩
      · have := hcell 0 (by decide)
        simpa [Addr.add] using this
      · exact (hcell 1 (by decide)).trans rfl
      · refine (hcell 2 (by decide)).trans ?_
        simp
    haveI : Inhabited Prt := ⟨⟨0, 0, []⟩⟩
    obtain ⟨q, hq⟩ := Go.Deep.choose_lt each
    have hll : ((List.range len).map q).length = len := by simp
    refine ⟨(List.range len).map q, some a, cap, by rw [hll], by rw [hll]; exact hlc, hm, fun hne => ?_⟩
    have hl0 : 0 < len := by
      rcases Nat.eq_zero_or_pos len with h0 | h0
      · rw [h0] at hne; simp at hne
      · exact h0
    obtain ⟨b, o, sp'⟩ := a
    have hsp : sp' = none := by
      have h1 := (hq 0 hl0).1
      simp only [Nat.zero_mul, Addr.add, if_true] at h1
      cases sp' with
      | none => rfl
      | some z =>
        exfalso
        unfold World.cell? at h1
        simp only [Option.isSome_some, if_true] at h1
        split at h1 <;> cases h1
    subst hsp
    have hadd : ∀ i j, ((⟨b, o, none⟩ : Addr).add i).add j = ⟨b, o + i + j, none⟩ := fun i j => by rw [Addr.add_mid, Addr.add_mid]
    refine ⟨b, o, rfl, World.block_lt_of_cell? W _ (hq 0 hl0).1, fun i hi => ?_⟩
    have hi' : i < len := by rw [hll] at hi; exact hi
    obtain ⟨h1, h2, h3⟩ := hq i hi'
    rw [Addr.add_mid] at h1
    rw [hadd] at h2 h3
    simp only [List.getElem_map, List.getElem_range]
    exact ⟨h1, h2, h3⟩
set_option maxRecDepth 100000 in
theorem open_type {H : Type} {enc : TypeId × Value → H} {W : World} {r : Reach} {b0 base : Nat} {sp : Nat → Bool} {hd : Bool} {v : Value} {d : DataW H} {p : List MemPlace} (hval : Value.okWide Try.prog W r b0 24 v) (h : DataW.Trod enc Try.prog W base sp hd 24 v d p) :
    ∃ (o sa : Int) (tn : ByteArray), v = .agg #[.int .i64 o, .int .i64 sa, .string tn] ∧ tn.size ≤ 9223372036854775807 := by
  obtain ⟨cs, rfl, _⟩ := okWide_struct Try.underlying24 hval
  obtain ⟨fuel, hf⟩ := h
  obtain ⟨a, b, c, e, sz⟩ := iis_cells Try.underlying24 cTy rfl rfl rfl rfl rfl rfl hf
  simp only [Value.cells] at e
  unfold maxLen at sz
  exact ⟨a, b, c, by rw [← Array.toArray_toList (xs := cs), e], sz⟩
end Go.Proofs.Yticckkadmhklmaa
/- The walk of great. -/
namespace Go.Proofs.Yticckkadmhklmaa
set_option linter.unusedVariables false
set_option linter.unusedSimpArgs false
open Go.RowKit

def grB (p : Prt) : Bool := decide (200 < p.t.length)
def greatB (l : List Prt) : Bool := decide (50 < l.length) || l.any grB
set_option maxRecDepth 100000 in
theorem grc_c (p : Prt) (b : Bool) (w : World) (hb : grB p = b) : Calls Try.prog 20 #[.agg #[.int .i64 p.k, .int .i64 p.w, .string ⟨p.t.toArray⟩]] w fun e w' => e = .returned (.bool b) ∧ Ext w w' := by
  obtain ⟨k, wd, t⟩ := p
  have hE : Ext w (w.alloc (.cells #[.int .i64 k, .int .i64 wd, .string ⟨t.toArray⟩] 57)) := (Ext.refl w).alloc _
  unfold grB at hb
  simp only at hb
  show Calls _ _ #[.agg #[.int .i64 k, .int .i64 wd, .string ⟨t.toArray⟩]] w _
  subst hb
  by_cases h : 200 < t.length
  · have h' : (200 : Int) < (t.length : Int) := by omega
    rw [decide_eq_true h]
    clear h
    go_enter Try.func20, Try.ntmps20
    go_wp2_with fail
    go_ret
    exact ⟨rfl, hE⟩
  · have h' : ¬ (200 : Int) < (t.length : Int) := by omega
    rw [decide_eq_false h]
    clear h
    go_enter Try.func20, Try.ntmps20
    go_wp2_with fail
    go_ret
    exact ⟨rfl, hE⟩
set_option maxRecDepth 100000 in
set_option maxHeartbeats 1000000 in
theorem idxG_c (l : List Prt) (ao : Option Addr) (cap : Nat) (w : World) (hl : PtV ao cap l w) :
    Calls Try.prog 50 #[.slice ao l.length cap, .func (.func 20) #[] #[]] w fun e w' => (∃ z : Int, e = .returned (.int .i64 z) ∧ decide (0 ≤ z) = l.any grB) ∧ Ext w w' := by
  have hlen := hl.1
  have hcap := hl.2.1
  unfold maxLen at hcap
  have HL := Lib.hid hl.2.2
  obtain ⟨G, hG⟩ : ∃ G, G = l.any grB := ⟨_, rfl⟩
  have HP := Lib.hid hG
  rw [← hG]
  clear hl hG
  go_enter Try.func50, Try.ntmps50
  go_wp2_with fail
  go_loopw [8] (fun i wr => ∃ j : Nat, j ≤ l.length ∧ i = .int .i64 (j : Int) ∧ Hid ((l.take j).any grB = false) ∧ Ext w wr) (fun i _ => l.length - (intOf i).toNat)
  case atStart => exact ⟨0, Nat.zero_le _, rfl, rfl, Ext.refl _⟩
  case round =>
    obtain ⟨j, hj, rfl, Hall, hE⟩ := hrel
    by_cases hlt : j < l.length
    · obtain ⟨R2, of2, rfl, hR0, hc⟩ := HL.out (by rintro rfl; simp at hlt)
      obtain ⟨c0, c1, c2⟩ := hc j hlt
      replace c0 := (hE.cells _ _ hR0).trans c0
      replace c1 := (hE.cells _ _ hR0).trans c1
      replace c2 := (hE.cells _ _ hR0).trans c2
      have Hs : Hid ((l.take (j + 1)).any grB = ((l.take j).any grB || grB l[j])) := by rw [Hid, List.take_add_one, List.any_append]; simp [hlt]
      have hmem : l[j] ∈ l := List.getElem_mem _
      obtain ⟨p, hp⟩ : ∃ p, p = l[j] := ⟨_, rfl⟩
      rw [← hp] at c0 c1 c2 Hs hmem
      clear hp hc
      obtain ⟨k, wd, t⟩ := p
      simp only at c0 c1 c2
      rcases Bool.eq_false_or_eq_true (grB ⟨k, wd, t⟩) with hq | hq
      · have HV : Hid (G = true) := by rw [Hid, HP.out, List.any_eq_true]; exact ⟨_, hmem, hq⟩
        have Hq := Lib.hid hq
        clear hq hmem
        go_wp2_with (first
          | (go_at_call 20; (with_reducible refine (grc_c ⟨k, wd, t⟩ true _ Hq.out).mono ?_); rintro e w1 ⟨rfl, hE1⟩))
        go_ret
        exact ⟨⟨(j : Int), rfl, by rw [HV.out]; simp⟩, hE.trans hE1⟩
      · have Hq := Lib.hid hq
        have Hn : Hid ((l.take (j + 1)).any grB = false) := by rw [Hid, Hs.out, Hall.out, hq]; rfl
        clear hq hmem
        go_wp2_with (first
          | (go_at_call 20; (with_reducible refine (grc_c ⟨k, wd, t⟩ false _ Hq.out).mono ?_); rintro e w1 ⟨rfl, hE1⟩))
        go_roundw
        case rel => exact ⟨j + 1, by omega, by go_num, Hn, hE.trans hE1⟩
        case measure => simp [intOf]; omega
    · obtain rfl : j = l.length := by omega
      have HV : Hid (G = false) := by rw [Hid, HP.out]; have := Hall.out; rwa [List.take_length] at this
      go_wp2_with fail
      go_ret
      exact ⟨⟨-1, rfl, by rw [HV.out]; rfl⟩, hE⟩
theorem cfG_c (l : List Prt) (ao : Option Addr) (cap : Nat) (b : Bool) (w : World) (hl : PtV ao cap l w) (hb : l.any grB = b) :
    Calls Try.prog 19 #[.slice ao l.length cap, .func (.func 20) #[] #[]] w fun e w' => e = .returned (.bool b) ∧ Ext w w' := by
  have HC := Lib.hid (idxG_c l ao cap w hl)
  rw [hb] at HC
  clear hl hb
  go_enter Try.func19, Try.ntmps19
  go_wp2_with (first
    | (go_at_call 50; (with_reducible refine HC.out.mono ?_); rintro e w1 ⟨⟨z, rfl, hz⟩, hE1⟩))
  go_ret
  exact ⟨rfl, hE1⟩
theorem great_c (l : List Prt) (ao : Option Addr) (cap : Nat) (b : Bool) (w : World) (hl : PtV ao cap l w) (hb : greatB l = b) :
    Calls Try.prog 7 #[.slice ao l.length cap] w fun e w' => e = .returned (.bool b) ∧ Ext w w' := by
  unfold greatB at hb
  by_cases h : 50 < l.length
  · rw [decide_eq_true h, Bool.true_or] at hb
    subst hb
    have h' : (50 : Int) < (l.length : Int) := by omega
    clear h
    go_enter Try.func7, Try.ntmps7
    go_wp2_with fail
    go_ret
    exact ⟨rfl, Ext.refl _⟩
  · rw [decide_eq_false h, Bool.false_or] at hb
    have h' : ¬ (50 : Int) < (l.length : Int) := by omega
    have HC := Lib.hid (cfG_c l ao cap b w hl hb)
    clear h hb
    go_enter Try.func7, Try.ntmps7
    go_wp2_with (first
      | (go_at_call 19; (with_reducible refine HC.out.mono ?_); rintro e w1 ⟨rfl, hE1⟩))
    go_ret
    exact ⟨rfl, hE1⟩
end Go.Proofs.Yticckkadmhklmaa
/- Types, as the reference asks of them: the walks of civiltimeref22.plain and Type. -/
namespace Go.Proofs.Yticckkadmhklmaa
set_option linter.unusedVariables false
set_option linter.unusedSimpArgs false
open Go.RowKit

theorem tyC_of {c : UInt8} (h : (97 ≤ c.toNat ∧ c.toNat ≤ 122) ∨ (65 ≤ c.toNat ∧ c.toNat ≤ 90) ∨ (48 ≤ c.toNat ∧ c.toNat ≤ 57) ∨ c.toNat = 43 ∨ c.toNat = 45) : tyC c = true := by
  have e : ∀ n, n < 256 → c.toNat = n → c = UInt8.ofNat n := fun n hn h => by rw [← h]; simp
  unfold tyC isLt isDg
  rcases h with h | h | h | h | h
  · simp [h]
  · simp [h]
  · simp [h]
  · rw [e 43 (by decide) h]; decide
  · rw [e 45 (by decide) h]; decide
theorem tyC_not {c : UInt8} (h : ¬ ((97 ≤ c.toNat ∧ c.toNat ≤ 122) ∨ (65 ≤ c.toNat ∧ c.toNat ≤ 90) ∨ (48 ≤ c.toNat ∧ c.toNat ≤ 57) ∨ c.toNat = 43 ∨ c.toNat = 45)) : tyC c = false := by
  unfold tyC isLt isDg
  have h1 : ¬ (97 ≤ c.toNat ∧ c.toNat ≤ 122) := fun q => h (.inl q)
  have h2 : ¬ (65 ≤ c.toNat ∧ c.toNat ≤ 90) := fun q => h (.inr (.inl q))
  have h3 : ¬ (48 ≤ c.toNat ∧ c.toNat ≤ 57) := fun q => h (.inr (.inr (.inl q)))
  have h4 : ¬ c = 43 := fun q => h (.inr (.inr (.inr (.inl (by rw [q]; rfl)))))
  have h5 : ¬ c = 45 := fun q => h (.inr (.inr (.inr (.inr (by rw [q]; rfl)))))
  rw [decide_eq_false h1, decide_eq_false h2, decide_eq_false h3, decide_eq_false h4, decide_eq_false h5]
  rfl
set_option maxRecDepth 100000 in
set_option maxHeartbeats 2000000 in
theorem plain_c (s : List UInt8) (w : World) (hs : s.length ≤ 9223372036854775807) : Calls Try.prog 21 #[.string ⟨s.toArray⟩] w fun e w' => e = .returned (.bool (typB s)) ∧ w = w' := by
  by_cases h1 : 1 ≤ s.length
  · by_cases h8 : s.length ≤ 8
    · have HT : Hid (typB s = s.all tyC) := by unfold Hid typB; rw [decide_eq_true h1, decide_eq_true h8]; rfl
      have d1 : ¬ (s.length : Int) < 1 := by omega
      have d2 : ¬ (8 : Int) < (s.length : Int) := by omega
      go_enter Try.func21, Try.ntmps21
      go_wp2_with fail
      go_loop [3] (fun i => ∃ j : Nat, j ≤ s.length ∧ i = .int .i64 (j : Int) ∧ Hid ((s.take j).all tyC = true)) (fun i => s.length - (intOf i).toNat)
      case atStart => exact ⟨0, Nat.zero_le _, rfl, rfl⟩
      case round =>
        obtain ⟨j, hj, rfl, Hall⟩ := hrel
        by_cases hlt : j < s.length
        · have hb := bget s j hlt _ rfl
          have Hs := Lib.hid (all_succ s tyC j hlt)
          have hm : s[j] ∈ s := List.getElem_mem _
          obtain ⟨c, hc⟩ : ∃ c, c = s[j] := ⟨_, rfl⟩
          rw [← hc] at hb Hs hm
          clear hc
          have hc256 : c.toNat < 256 := c.toNat_lt
          have HY : Hid (tyC c = true → (s.take (j + 1)).all tyC = true) := fun q => by rw [Hs.out, Hall.out, q]; rfl
          have HN : Hid (tyC c = false → typB s = false) := fun hp => by
            rw [HT.out, ← Bool.not_eq_true]
            intro q
            rw [List.all_eq_true.1 q c hm] at hp
            cases hp
          have hiv : (0 ≤ c.toNat ∧ c.toNat ≤ 42) ∨ (43 ≤ c.toNat ∧ c.toNat ≤ 43) ∨ (44 ≤ c.toNat ∧ c.toNat ≤ 44) ∨ (45 ≤ c.toNat ∧ c.toNat ≤ 45) ∨ (46 ≤ c.toNat ∧ c.toNat ≤ 47) ∨ (48 ≤ c.toNat ∧ c.toNat ≤ 57) ∨ (58 ≤ c.toNat ∧ c.toNat ≤ 64) ∨ (65 ≤ c.toNat ∧ c.toNat ≤ 90) ∨ (91 ≤ c.toNat ∧ c.toNat ≤ 96) ∨ (97 ≤ c.toNat ∧ c.toNat ≤ 122) ∨ (123 ≤ c.toNat ∧ c.toNat ≤ 255) := by omega
          rcases hiv with ⟨q1, q2⟩ | ⟨q1, q2⟩ | ⟨q1, q2⟩ | ⟨q1, q2⟩ | ⟨q1, q2⟩ | ⟨q1, q2⟩ | ⟨q1, q2⟩ | ⟨q1, q2⟩ | ⟨q1, q2⟩ | ⟨q1, q2⟩ | ⟨q1, q2⟩
          · have f0 : ¬ (97 : Int) ≤ (c.toNat : Int) := by omega
            have f1 : (c.toNat : Int) ≤ 122 := by omega
            have f2 : ¬ (65 : Int) ≤ (c.toNat : Int) := by omega
            have f3 : (c.toNat : Int) ≤ 90 := by omega
            have f4 : ¬ (48 : Int) ≤ (c.toNat : Int) := by omega
            have f5 : (c.toNat : Int) ≤ 57 := by omega
            have f6 : ((c.toNat : Int) == 43) = false := by rw [beq_eq_false_iff_ne]; omega
            have f7 : ((c.toNat : Int) == 45) = false := by rw [beq_eq_false_iff_ne]; omega
            have Hn := Lib.hid (HN.out (tyC_not (by omega)))
            clear q1 q2 hm Hs hc256
            go_wp2_with fail
            go_ret
            exact ⟨by rw [Hn.out]; rfl, rfl⟩
          · have f0 : ¬ (97 : Int) ≤ (c.toNat : Int) := by omega
            have f1 : (c.toNat : Int) ≤ 122 := by omega
            have f2 : ¬ (65 : Int) ≤ (c.toNat : Int) := by omega
            have f3 : (c.toNat : Int) ≤ 90 := by omega
            have f4 : ¬ (48 : Int) ≤ (c.toNat : Int) := by omega
            have f5 : (c.toNat : Int) ≤ 57 := by omega
            have f6 : ((c.toNat : Int) == 43) = true := by rw [beq_iff_eq]; omega
            have f7 : ((c.toNat : Int) == 45) = false := by rw [beq_eq_false_iff_ne]; omega
            have Hn := Lib.hid (HY.out (tyC_of (by omega)))
            clear q1 q2 hm Hs hc256
            go_wp2_with fail
            go_round
            case rel => exact ⟨j + 1, by omega, by go_num, Hn⟩
            case measure => simp [intOf]; omega
          · have f0 : ¬ (97 : Int) ≤ (c.toNat : Int) := by omega
            have f1 : (c.toNat : Int) ≤ 122 := by omega
            have f2 : ¬ (65 : Int) ≤ (c.toNat : Int) := by omega
            have f3 : (c.toNat : Int) ≤ 90 := by omega
            have f4 : ¬ (48 : Int) ≤ (c.toNat : Int) := by omega
            have f5 : (c.toNat : Int) ≤ 57 := by omega
            have f6 : ((c.toNat : Int) == 43) = false := by rw [beq_eq_false_iff_ne]; omega
            have f7 : ((c.toNat : Int) == 45) = false := by rw [beq_eq_false_iff_ne]; omega
            have Hn := Lib.hid (HN.out (tyC_not (by omega)))
            clear q1 q2 hm Hs hc256
            go_wp2_with fail
            go_ret
            exact ⟨by rw [Hn.out]; rfl, rfl⟩
          · have f0 : ¬ (97 : Int) ≤ (c.toNat : Int) := by omega
            have f1 : (c.toNat : Int) ≤ 122 := by omega
            have f2 : ¬ (65 : Int) ≤ (c.toNat : Int) := by omega
            have f3 : (c.toNat : Int) ≤ 90 := by omega
            have f4 : ¬ (48 : Int) ≤ (c.toNat : Int) := by omega
            have f5 : (c.toNat : Int) ≤ 57 := by omega
            have f6 : ((c.toNat : Int) == 43) = false := by rw [beq_eq_false_iff_ne]; omega
            have f7 : ((c.toNat : Int) == 45) = true := by rw [beq_iff_eq]; omega
            have Hn := Lib.hid (HY.out (tyC_of (by omega)))
            clear q1 q2 hm Hs hc256
            go_wp2_with fail
            go_round
            case rel => exact ⟨j + 1, by omega, by go_num, Hn⟩
            case measure => simp [intOf]; omega
          · have f0 : ¬ (97 : Int) ≤ (c.toNat : Int) := by omega
            have f1 : (c.toNat : Int) ≤ 122 := by omega
            have f2 : ¬ (65 : Int) ≤ (c.toNat : Int) := by omega
            have f3 : (c.toNat : Int) ≤ 90 := by omega
            have f4 : ¬ (48 : Int) ≤ (c.toNat : Int) := by omega
            have f5 : (c.toNat : Int) ≤ 57 := by omega
            have f6 : ((c.toNat : Int) == 43) = false := by rw [beq_eq_false_iff_ne]; omega
            have f7 : ((c.toNat : Int) == 45) = false := by rw [beq_eq_false_iff_ne]; omega
            have Hn := Lib.hid (HN.out (tyC_not (by omega)))
            clear q1 q2 hm Hs hc256
            go_wp2_with fail
            go_ret
            exact ⟨by rw [Hn.out]; rfl, rfl⟩
          · have f0 : ¬ (97 : Int) ≤ (c.toNat : Int) := by omega
            have f1 : (c.toNat : Int) ≤ 122 := by omega
            have f2 : ¬ (65 : Int) ≤ (c.toNat : Int) := by omega
            have f3 : (c.toNat : Int) ≤ 90 := by omega
            have f4 : (48 : Int) ≤ (c.toNat : Int) := by omega
            have f5 : (c.toNat : Int) ≤ 57 := by omega
            have f6 : ((c.toNat : Int) == 43) = false := by rw [beq_eq_false_iff_ne]; omega
            have f7 : ((c.toNat : Int) == 45) = false := by rw [beq_eq_false_iff_ne]; omega
            have Hn := Lib.hid (HY.out (tyC_of (by omega)))
            clear q1 q2 hm Hs hc256
            go_wp2_with fail
            go_round
            case rel => exact ⟨j + 1, by omega, by go_num, Hn⟩
            case measure => simp [intOf]; omega
          · have f0 : ¬ (97 : Int) ≤ (c.toNat : Int) := by omega
            have f1 : (c.toNat : Int) ≤ 122 := by omega
            have f2 : ¬ (65 : Int) ≤ (c.toNat : Int) := by omega
            have f3 : (c.toNat : Int) ≤ 90 := by omega
            have f4 : (48 : Int) ≤ (c.toNat : Int) := by omega
            have f5 : ¬ (c.toNat : Int) ≤ 57 := by omega
            have f6 : ((c.toNat : Int) == 43) = false := by rw [beq_eq_false_iff_ne]; omega
            have f7 : ((c.toNat : Int) == 45) = false := by rw [beq_eq_false_iff_ne]; omega
            have Hn := Lib.hid (HN.out (tyC_not (by omega)))
            clear q1 q2 hm Hs hc256
            go_wp2_with fail
            go_ret
            exact ⟨by rw [Hn.out]; rfl, rfl⟩
          · have f0 : ¬ (97 : Int) ≤ (c.toNat : Int) := by omega
            have f1 : (c.toNat : Int) ≤ 122 := by omega
            have f2 : (65 : Int) ≤ (c.toNat : Int) := by omega
            have f3 : (c.toNat : Int) ≤ 90 := by omega
            have f4 : (48 : Int) ≤ (c.toNat : Int) := by omega
            have f5 : ¬ (c.toNat : Int) ≤ 57 := by omega
            have f6 : ((c.toNat : Int) == 43) = false := by rw [beq_eq_false_iff_ne]; omega
            have f7 : ((c.toNat : Int) == 45) = false := by rw [beq_eq_false_iff_ne]; omega
            have Hn := Lib.hid (HY.out (tyC_of (by omega)))
            clear q1 q2 hm Hs hc256
            go_wp2_with fail
            go_round
            case rel => exact ⟨j + 1, by omega, by go_num, Hn⟩
            case measure => simp [intOf]; omega
          · have f0 : ¬ (97 : Int) ≤ (c.toNat : Int) := by omega
            have f1 : (c.toNat : Int) ≤ 122 := by omega
            have f2 : (65 : Int) ≤ (c.toNat : Int) := by omega
            have f3 : ¬ (c.toNat : Int) ≤ 90 := by omega
            have f4 : (48 : Int) ≤ (c.toNat : Int) := by omega
            have f5 : ¬ (c.toNat : Int) ≤ 57 := by omega
            have f6 : ((c.toNat : Int) == 43) = false := by rw [beq_eq_false_iff_ne]; omega
            have f7 : ((c.toNat : Int) == 45) = false := by rw [beq_eq_false_iff_ne]; omega
            have Hn := Lib.hid (HN.out (tyC_not (by omega)))
            clear q1 q2 hm Hs hc256
            go_wp2_with fail
            go_ret
            exact ⟨by rw [Hn.out]; rfl, rfl⟩
          · have f0 : (97 : Int) ≤ (c.toNat : Int) := by omega
            have f1 : (c.toNat : Int) ≤ 122 := by omega
            have f2 : (65 : Int) ≤ (c.toNat : Int) := by omega
            have f3 : ¬ (c.toNat : Int) ≤ 90 := by omega
            have f4 : (48 : Int) ≤ (c.toNat : Int) := by omega
            have f5 : ¬ (c.toNat : Int) ≤ 57 := by omega
            have f6 : ((c.toNat : Int) == 43) = false := by rw [beq_eq_false_iff_ne]; omega
            have f7 : ((c.toNat : Int) == 45) = false := by rw [beq_eq_false_iff_ne]; omega
            have Hn := Lib.hid (HY.out (tyC_of (by omega)))
            clear q1 q2 hm Hs hc256
            go_wp2_with fail
            go_round
            case rel => exact ⟨j + 1, by omega, by go_num, Hn⟩
            case measure => simp [intOf]; omega
          · have f0 : (97 : Int) ≤ (c.toNat : Int) := by omega
            have f1 : ¬ (c.toNat : Int) ≤ 122 := by omega
            have f2 : (65 : Int) ≤ (c.toNat : Int) := by omega
            have f3 : ¬ (c.toNat : Int) ≤ 90 := by omega
            have f4 : (48 : Int) ≤ (c.toNat : Int) := by omega
            have f5 : ¬ (c.toNat : Int) ≤ 57 := by omega
            have f6 : ((c.toNat : Int) == 43) = false := by rw [beq_eq_false_iff_ne]; omega
            have f7 : ((c.toNat : Int) == 45) = false := by rw [beq_eq_false_iff_ne]; omega
            have Hn := Lib.hid (HN.out (tyC_not (by omega)))
            clear q1 q2 hm Hs hc256
            go_wp2_with fail
            go_ret
            exact ⟨by rw [Hn.out]; rfl, rfl⟩
        · obtain rfl : j = s.length := by omega
          have HN : Hid (typB s = true) := by rw [Hid, HT.out]; have := Hall.out; rwa [List.take_length] at this
          clear hlt
          go_wp2_with fail
          go_ret
          exact ⟨by rw [HN.out]; rfl, rfl⟩
    · have HN : Hid (typB s = false) := by unfold Hid typB; rw [decide_eq_false h8]; simp
      have d1 : ¬ (s.length : Int) < 1 := by omega
      have d2 : (8 : Int) < (s.length : Int) := by omega
      clear h8
      go_enter Try.func21, Try.ntmps21
      go_wp2_with fail
      go_ret
      exact ⟨by rw [HN.out]; rfl, rfl⟩
  · have HN : Hid (typB s = false) := by unfold Hid typB; rw [decide_eq_false h1]; simp
    have d2 : (s.length : Int) < 1 := by omega
    clear h1
    go_enter Try.func21, Try.ntmps21
    go_wp2_with fail
    go_ret
    exact ⟨by rw [HN.out]; rfl, rfl⟩
theorem plain_l (s : List UInt8) (b : Bool) (w : World) (hs : s.length ≤ 9223372036854775807) (h : typB s = b) : Calls Try.prog 21 #[.string ⟨s.toArray⟩] w fun e w' => e = .returned (.bool b) ∧ w = w' := by
  rw [← h]; exact plain_c s w hs
theorem tm60 (a : Int) : a.tmod 60 = 0 ↔ a % 60 = 0 := ⟨fun h => Int.emod_eq_zero_of_dvd (Int.dvd_of_tmod_eq_zero h), fun h => Int.tmod_eq_zero_of_dvd (Int.dvd_of_emod_eq_zero h)⟩
/-- A valid type. -/
def tyOk (o sa : Int) (tn : List UInt8) : Bool := decide (-93600 < o) && decide (o < 93600) && decide (-10800 ≤ sa) && decide (sa ≤ 10800) && decide (sa % 60 = 0) && typB tn
set_option maxRecDepth 100000 in
theorem rtype_c (o sa : Int) (tn : List UInt8) (w : World) (hs : tn.length ≤ 9223372036854775807) : Calls Try.prog 8 #[.agg #[.int .i64 o, .int .i64 sa, .string ⟨tn.toArray⟩]] w fun e w' => e = .returned (.bool (tyOk o sa tn)) ∧ Ext w w' := by
  have hE : Ext w (w.alloc (.cells #[.int .i64 o, .int .i64 sa, .string ⟨tn.toArray⟩] 24)) := (Ext.refl w).alloc _
  obtain ⟨b, hb⟩ : ∃ b, typB tn = b := ⟨_, rfl⟩
  have Hb := Lib.hid hb
  have HT : Hid (tyOk o sa tn = (decide (-93600 < o) && decide (o < 93600) && decide (-10800 ≤ sa) && decide (sa ≤ 10800) && decide (sa % 60 = 0) && b)) := by unfold Hid tyOk; rw [hb]
  clear hb
  by_cases h1 : -93600 < o
  · by_cases h2 : o < 93600
    · by_cases h3 : -10800 ≤ sa
      · by_cases h4 : sa ≤ 10800
        · by_cases h5 : sa % 60 = 0
          · have HV : Hid (tyOk o sa tn = b) := by rw [Hid, HT.out, decide_eq_true h1, decide_eq_true h2, decide_eq_true h3, decide_eq_true h4, decide_eq_true h5]; rfl
            have t5 : (sa.tmod 60 == 0) = true := by rw [beq_iff_eq, tm60]; exact h5
            have t6 : (sa % 60 == 0) = true := by rw [beq_iff_eq]; exact h5
            go_enter Try.func8, Try.ntmps8
            go_wp2_with (first
              | (go_at_call 21; (with_reducible refine (plain_l tn b _ hs Hb.out).mono ?_); rintro e w1 ⟨rfl, rfl⟩)
              | go_in)
            go_ret
            exact ⟨by rw [HV.out]; rfl, hE⟩
          · have HV : Hid (tyOk o sa tn = false) := by rw [Hid, HT.out, decide_eq_false h5]; simp
            have t5 : (sa.tmod 60 == 0) = false := by rw [beq_eq_false_iff_ne]; exact fun q => h5 ((tm60 sa).1 q)
            have t6 : (sa % 60 == 0) = false := by rw [beq_eq_false_iff_ne]; exact h5
            go_enter Try.func8, Try.ntmps8
            go_wp2_with (first
              | (go_at_call 21; (with_reducible refine (plain_l tn b _ hs Hb.out).mono ?_); rintro e w1 ⟨rfl, rfl⟩)
              | go_in)
            go_ret
            exact ⟨by rw [HV.out]; rfl, hE⟩
        · have HV : Hid (tyOk o sa tn = false) := by rw [Hid, HT.out, decide_eq_false h4]; simp
          go_enter Try.func8, Try.ntmps8
          go_wp2_with (first
            | (go_at_call 21; (with_reducible refine (plain_l tn b _ hs Hb.out).mono ?_); rintro e w1 ⟨rfl, rfl⟩)
            | go_in)
          go_ret
          exact ⟨by rw [HV.out]; rfl, hE⟩
      · have HV : Hid (tyOk o sa tn = false) := by rw [Hid, HT.out, decide_eq_false h3]; simp
        go_enter Try.func8, Try.ntmps8
        go_wp2_with (first
          | (go_at_call 21; (with_reducible refine (plain_l tn b _ hs Hb.out).mono ?_); rintro e w1 ⟨rfl, rfl⟩)
          | go_in)
        go_ret
        exact ⟨by rw [HV.out]; rfl, hE⟩
    · have HV : Hid (tyOk o sa tn = false) := by rw [Hid, HT.out, decide_eq_false h2]; simp
      go_enter Try.func8, Try.ntmps8
      go_wp2_with (first
        | (go_at_call 21; (with_reducible refine (plain_l tn b _ hs Hb.out).mono ?_); rintro e w1 ⟨rfl, rfl⟩)
        | go_in)
      go_ret
      exact ⟨by rw [HV.out]; rfl, hE⟩
  · have HV : Hid (tyOk o sa tn = false) := by rw [Hid, HT.out, decide_eq_false h1]; simp
    go_enter Try.func8, Try.ntmps8
    go_wp2_with (first
      | (go_at_call 21; (with_reducible refine (plain_l tn b _ hs Hb.out).mono ?_); rintro e w1 ⟨rfl, rfl⟩)
      | go_in)
    go_ret
    exact ⟨by rw [HV.out]; rfl, hE⟩
end Go.Proofs.Yticckkadmhklmaa
/- Patterns, plainly: what was read can be written and read again. No program in sight. -/
namespace Go.Proofs.Yticckkadmhklmaa
set_option linter.unusedVariables false
set_option linter.unusedSimpArgs false

/-- Whatever is read is the time of some fields. -/
theorem momP_F {f : Int → Option Nat} {c : Bool} {a : Int} (h : momP f c = (a, true)) : ∃ F : Fv, IsF F a := by
  unfold momP at h
  split at h
  · cases h
  · simp only at h
    split at h
    · rename_i hvt
      obtain ⟨hv, ht⟩ := hvt
      injection h with h1 h2
      obtain ⟨v1, v2, v3, v4, v5, v6, v7⟩ := vld_parts hv
      obtain ⟨t1, t2, t3, t4, t5, t6⟩ := tm_iff.1 ht
      generalize (sameF f 1 false [3, 4, 5]).1 = mo at *
      generalize (f 2).getD 1970 = y at *
      generalize (f 6).getD 1 = d at *
      generalize (hourP f).1 = hh at *
      generalize (f 11).getD 0 = mi at *
      generalize (f 12).getD 0 = s at *
      obtain ⟨m, rfl⟩ : ∃ m : Nat, mo = (m : Int) := ⟨mo.toNat, by omega⟩
      unfold Go.Proofs.Yticckkadmhklmaa.inst secs at h1
      have hq : a / 86400 = dn (y : Int) (m : Int) (d : Int) := by omega
      have hr : a % 86400 = 3600 * (hh : Int) + 60 * (mi : Int) + (s : Int) := by omega
      refine ⟨⟨y, m, d, hh, mi, s, (wdZ (a / 86400)).toNat⟩, hv, hq.symm, ?_, ?_, ?_, ?_⟩
      · show (hh : Int) = _; omega
      · show (mi : Int) = _; omega
      · show (s : Int) = _; omega
      · show (((wdZ (a / 86400)).toNat : Nat) : Int) = _
        have : 1 ≤ wdZ (a / 86400) := by unfold wdZ; omega
        omega
    · cases h
theorem prs_err (N : Nms) (l : List Prt) (s : List UInt8) (h : (prsT N l s).2.2 ≠ 0) : (prsT N l s).1 = 0 := by
  unfold prsT at h ⊢
  split
  · rename_i q
    rw [if_pos q] at h
    split
    · rfl
    · rename_i q2
      rw [if_neg q2] at h
      cases e : rdL N l s 0 [] with
      | inl c => rfl
      | inr vs =>
        rw [e] at h
        simp only at h ⊢
        split
        · rename_i q3
          rw [if_pos q3] at h
          exact absurd rfl h
        · rfl
  · rfl
theorem prs_ok {N : Nms} {l : List Prt} {s : List UInt8} {a : Int} {c : Nat} (h : prsT N l s = (a, c, 0)) : validB l = true ∧ ∃ F : Fv, IsF F a := by
  unfold prsT at h
  split at h
  · rename_i q
    refine ⟨q.1, ?_⟩
    split at h
    · injection h with _ h; injection h with _ h; cases h
    · cases e : rdL N l s 0 [] with
      | inl c => rw [e] at h; injection h with _ h; injection h with _ h; cases h
      | inr vs =>
        rw [e] at h
        simp only at h
        split at h
        · rename_i q3
          injection h with h1 _
          exact momP_F (f := gotK vs) (c := clB vs) (by rw [← h1, ← q3])
        · injection h with _ h; injection h with _ h; cases h
  · injection h with _ h; injection h with _ h; cases h
theorem prs_back {N : Nms} (hN : N.ok) (hn : nmOk N = true) {F : Fv} {a : Int} (hF : IsF F a) {o : Int} {tn : List UInt8} (ho : o.natAbs < 93600) (ht : typB tn = true) {l : List Prt} (hl : losB l = true) (h : (prsT N l (fmtL N F o tn l)).2.2 = 0) : (prsT N l (fmtL N F o tn l)).1 = a := by
  have hv : validB l = true := by
    unfold losB at hl
    simp only [Bool.and_eq_true] at hl
    exact hl.1.1.1.1.1.1.1
  have hL : losL l = true := by
    unfold losB at hl
    simp only [Bool.and_eq_true] at hl
    exact hl.2
  have hp : ∀ p ∈ l, partB p = true := by
    unfold validB at hv
    simp only [Bool.and_eq_true, decide_eq_true_eq] at hv
    exact tailB_all l none hv.2
  have hr := rdL_fmt hN hn hF.ok ho ht l 0 [] hp hL
  have hc : clB (l.flatMap (valsK F)) = false := (clB_iff _).2 (vals_cons F l)
  have hm := mom_back hF hl
  unfold prsT at h ⊢
  rw [if_pos ⟨hv, hn⟩] at h ⊢
  split at h
  · cases h
  · rename_i q
    rw [if_neg q, hr]
    simp only [List.nil_append]
    rw [hc, hm]
    rfl
end Go.Proofs.Yticckkadmhklmaa
/- The walk of the law PatternAgain; trial. -/
namespace Go.Proofs.Yticckkadmhklmaa
set_option linter.unusedVariables false
set_option linter.unusedSimpArgs false
open Go.RowKit

theorem yr_ext {P : Program} {o : Oper} {a : Act} {w : World} {x : Operand} {i : Nat} {vs : Array Value} {v : Value} (hop : o.op = .extract x i) (hx : a.eval x = .tuple vs) (hv : vs[i]? = some v) : (execOp a.eval o).run P w = .ok (.value v) w := by
  unfold execOp
  simp [hop, hx, Instr.extract, hv, Result.andThen]
theorem valid_y {F : Fv} {a : Int} (hF : IsF F a) (w : World) : Calls Try.prog 12 #[.agg #[.int .i64 (F.y : Int), .int .i64 (F.mo : Int), .int .i64 (F.d : Int)]] w fun e w' => e = .returned (.bool true) ∧ Ext w w' := by
  have q := valid_c F.y F.mo F.d w
  rw [hF.vld] at q
  exact q
theorem eng_par (l : List Prt) (s : List UInt8) (ao : Option Addr) (cap : Nat) (a : Int) (c : Nat) (e : Int) (hT : prsT engN l s = (a, c, e)) (w : World) (h : PtV ao cap l w) (hl : ∀ p ∈ l, p.t.length ≤ 4000) (hs : s.length ≤ 9223372036854775806) :
    Calls Try.prog 9 #[.slice ao l.length cap, .agg (sv engN.all).toArray, .string ⟨s.toArray⟩] w fun x w' => ∃ z1 z2 : Int, x = .returned (.tuple #[.int .i64 a, .agg #[.int .i64 z1, .int .i64 z2], .int .i64 e]) ∧ Ext w w' := by
  have q := parse_c l engN s ao cap w h hl eng_ok eng_len hs
  unfold PrsR at q
  rw [hT] at q
  exact q.mono fun x w' ⟨h1, h2⟩ => ⟨_, _, h1, h2⟩
theorem loss_l (l : List Prt) (ao : Option Addr) (cap : Nat) (b : Bool) (hb : losB l = b) (w : World) (h : PtV ao cap l w) (hl : ∀ p ∈ l, p.t.length ≤ 4000) : Calls Try.prog 14 #[.slice ao l.length cap] w fun e w' => e = .returned (.bool b) ∧ Ext w w' := by
  rw [← hb]; exact lossless_c l ao cap w h hl
theorem rtype_l (o sa : Int) (tn : List UInt8) (b : Bool) (hb : tyOk o sa tn = b) (w : World) (hs : tn.length ≤ 9223372036854775807) : Calls Try.prog 8 #[.agg #[.int .i64 o, .int .i64 sa, .string ⟨tn.toArray⟩]] w fun e w' => e = .returned (.bool b) ∧ Ext w w' := by
  rw [← hb]; exact rtype_c o sa tn w hs
theorem ld_ty (w : World) (T : Nat) (x y z : Value) (h0 : w.cell? ⟨T, 0, none⟩ = some x) (h1 : w.cell? ⟨T, 1, none⟩ = some y) (h2 : w.cell? ⟨T, 2, none⟩ = some z) : (Instr.loadAt 24 (.pointer (some ⟨T, 0, none⟩))).run Try.prog w = .ok (.agg #[x, y, z]) w := by go_simp
set_option maxRecDepth 100000 in
set_option maxHeartbeats 2000000 in
theorem again_walk (l : List Prt) (ao : Option Addr) (cap : Nat) (sb : ByteArray) (o sa : Int) (tb : ByteArray) (w : World) (h : PtV ao cap l w) (htb : tb.size ≤ 9223372036854775807) :
    Calls Try.prog 3 #[.slice ao l.length cap, .string sb, .agg #[.int .i64 o, .int .i64 sa, .string tb]] w fun e w' => e = .returned (.bool true) ∧ Ext w w' := by
  obtain ⟨s, rfl⟩ : ∃ s : List UInt8, sb = ⟨s.toArray⟩ := ⟨sb.data.toList, ba_mk sb⟩
  obtain ⟨tn, rfl⟩ : ∃ s : List UInt8, tb = ⟨s.toArray⟩ := ⟨tb.data.toList, ba_mk tb⟩
  have htl : tn.length ≤ 9223372036854775807 := by simpa [ByteArray.size] using htb
  have hEW : Ext w (w.alloc (.cells #[.int .i64 o, .int .i64 sa, .string ⟨tn.toArray⟩] 24)) := (Ext.refl w).alloc _
  have t0 : (w.alloc (.cells #[.int .i64 o, .int .i64 sa, .string ⟨tn.toArray⟩] 24)).cell? ⟨w.heap.size, 0, none⟩ = some (.int .i64 o) := by rw [World.cell?_alloc_new]; rfl
  have t1 : (w.alloc (.cells #[.int .i64 o, .int .i64 sa, .string ⟨tn.toArray⟩] 24)).cell? ⟨w.heap.size, 1, none⟩ = some (.int .i64 sa) := by rw [World.cell?_alloc_new]; rfl
  have t2 : (w.alloc (.cells #[.int .i64 o, .int .i64 sa, .string ⟨tn.toArray⟩] 24)).cell? ⟨w.heap.size, 2, none⟩ = some (.string ⟨tn.toArray⟩) := by rw [World.cell?_alloc_new]; rfl
  have tz : w.heap.size < (w.alloc (.cells #[.int .i64 o, .int .i64 sa, .string ⟨tn.toArray⟩] 24)).heap.size := by simp
  have HPt := Lib.hid (h.ext hEW)
  have HEW := Lib.hid hEW
  have hW0 : ∃ W0 T, W0 = w.alloc (.cells #[.int .i64 o, .int .i64 sa, .string ⟨tn.toArray⟩] 24) ∧ T = w.heap.size := ⟨_, _, rfl, rfl⟩
  clear htb h hEW hW0
  rcases Bool.eq_false_or_eq_true (greatB l) with hg | hg
  · have HG := Lib.hid hg
    clear hg
    go_enter Try.func3, Try.ntmps3
    go_upto_region 1 with fail
    generalize w.alloc (.cells #[.int .i64 o, .int .i64 sa, .string ⟨tn.toArray⟩] 24) = W0 at HPt HEW t0 t1 t2 tz ⊢
    generalize w.heap.size = T at t0 t1 t2 tz ⊢
    have hTy0 : ∀ W, Ext W0 W → W.cell? ⟨T, 0, none⟩ = some (.int .i64 o) := fun W hW => (hW.cells _ _ tz).trans t0
    have hTy1 : ∀ W, Ext W0 W → W.cell? ⟨T, 1, none⟩ = some (.int .i64 sa) := fun W hW => (hW.cells _ _ tz).trans t1
    have hTy2 : ∀ W, Ext W0 W → W.cell? ⟨T, 2, none⟩ = some (.string ⟨tn.toArray⟩) := fun W hW => (hW.cells _ _ tz).trans t2
    clear t0 t1 t2
    go_upto_region 4 with (first
      | (go_at_call 6; (with_reducible refine (awake_c _).mono ?_); rintro e w1 ⟨rfl, hX⟩)
      | (go_at_call 7; (with_reducible refine (great_c l ao cap _ _ (HPt.out.ext (by (repeat (with_reducible (first | assumption | exact Ext.refl _ | refine Ext.alloc ?_ _ | refine Ext.drewN ?_ _ | refine Ext.drew ?_))))) HG.out).mono ?_); rintro e w2 ⟨rfl, hE2⟩; have hX := Ext.trans (show Ext W0 _ from (by (repeat (with_reducible (first | assumption | exact Ext.refl _ | refine Ext.alloc ?_ _ | refine Ext.drewN ?_ _ | refine Ext.drew ?_))))) hE2; clear hE2)
      | (go_at_call 8; (with_reducible refine (rtype_l o sa tn _ HTY.out _ htl).mono ?_); rintro e w3 ⟨rfl, hE3⟩; have hX := Ext.trans (show Ext W0 _ from (by (repeat (with_reducible (first | assumption | exact Ext.refl _ | refine Ext.alloc ?_ _ | refine Ext.drewN ?_ _ | refine Ext.drew ?_))))) hE3; clear hE3)
      | (go_at_call 10; (with_reducible refine (english_c _).mono ?_); rintro e w4 ⟨rfl, hE4⟩; have hX := Ext.trans (show Ext W0 _ from (by (repeat (with_reducible (first | assumption | exact Ext.refl _ | refine Ext.alloc ?_ _ | refine Ext.drewN ?_ _ | refine Ext.drew ?_))))) hE4; clear hE4)
      | (go_at_call 9; (with_reducible refine (eng_par l s ao cap _ c _ HT.out _ (HPt.out.ext (by (repeat (with_reducible (first | assumption | exact Ext.refl _ | refine Ext.alloc ?_ _ | refine Ext.drewN ?_ _ | refine Ext.drew ?_))))) Hl.out (by omega)).mono ?_); rintro e w5 ⟨z1, z2, rfl, hE5⟩; have hX := Ext.trans (show Ext W0 _ from (by (repeat (with_reducible (first | assumption | exact Ext.refl _ | refine Ext.alloc ?_ _ | refine Ext.drewN ?_ _ | refine Ext.drew ?_))))) hE5; clear hE5)
      | (go_at_call 11; (with_reducible refine (moment_F HF.out _).mono ?_); rintro e w6 ⟨rfl, hE6⟩; have hX := Ext.trans (show Ext W0 _ from (by (repeat (with_reducible (first | assumption | exact Ext.refl _ | refine Ext.alloc ?_ _ | refine Ext.drewN ?_ _ | refine Ext.drew ?_))))) hE6; clear hE6)
      | (go_at_call 12; (with_reducible refine (valid_y HF.out _).mono ?_); rintro e w7 ⟨rfl, hE7⟩; have hX := Ext.trans (show Ext W0 _ from (by (repeat (with_reducible (first | assumption | exact Ext.refl _ | refine Ext.alloc ?_ _ | refine Ext.drewN ?_ _ | refine Ext.drew ?_))))) hE7; clear hE7)
      | go_in)
    go_wp2_with fail
    go_ret
    exact ⟨rfl, HEW.out.trans (by (repeat (with_reducible (first | assumption | exact Ext.refl _ | refine Ext.alloc ?_ _ | refine Ext.drewN ?_ _ | refine Ext.drew ?_))))⟩
  · have HG := Lib.hid hg
    have Hl : Hid (∀ p ∈ l, p.t.length ≤ 4000) := fun p hp => by
      have h2 := hg
      unfold greatB at h2
      rw [Bool.or_eq_false_iff, List.any_eq_false] at h2
      have := h2.2 p hp
      unfold grB at this
      simp at this
      omega
    clear hg
    by_cases hsl : s.length ≤ 1000
    · have d1 : ¬ (1000 : Int) < (s.length : Int) := by omega
      rcases Bool.eq_false_or_eq_true (tyOk o sa tn) with hty | hty
      · have HTY := Lib.hid hty
        have hty2 := hty
        unfold tyOk at hty2
        simp only [Bool.and_eq_true, decide_eq_true_eq] at hty2
        obtain ⟨⟨⟨⟨⟨ho1, ho2⟩, -⟩, -⟩, -⟩, htn⟩ := hty2
        have HTN := Lib.hid htn
        obtain ⟨a, c, er, hT⟩ : ∃ a c er, prsT engN l s = (a, c, er) := ⟨_, _, _, rfl⟩
        have HT := Lib.hid hT
        clear hty
        by_cases her : er = 0
        · subst her
          obtain ⟨hv, F, hF⟩ := prs_ok hT
          have HF := Lib.hid hF
          have Hv := Lib.hid hv
          obtain ⟨u, hu⟩ : ∃ u, u = fmtL engN F o tn l := ⟨_, rfl⟩
          have Hu := Lib.hid hu
          obtain ⟨b2, c2, er2, hT2⟩ : ∃ a c er, prsT engN l u = (a, c, er) := ⟨_, _, _, rfl⟩
          have HT2 := Lib.hid hT2
          obtain ⟨lb, hlb⟩ : ∃ lb, losB l = lb := ⟨_, rfl⟩
          have HLB := Lib.hid hlb
          have HBK : Hid (er2 = 0 → lb = true → b2 = a) := fun h1 h2 => by
            have := prs_back eng_ok eng_nm hF (show o.natAbs < 93600 by omega) htn (hlb.trans h2) (by rw [← hu, hT2]; exact h1)
            rw [← hu, hT2] at this
            exact this
          have hul : u.length ≤ 9223372036854775806 := by
            have h40 : l.length ≤ 40 := by
              have := hv
              unfold validB at this
              simp only [Bool.and_eq_true, decide_eq_true_eq] at this
              exact this.1
            have hpa : ∀ p ∈ l, partB p = true := by
              have := hv
              unfold validB at this
              simp only [Bool.and_eq_true, decide_eq_true_eq] at this
              exact tailB_all l none this.2
            have key : ∀ (r : List Prt), (∀ p ∈ r, partB p = true) → (fmtL engN F o tn r).length ≤ 200 * r.length := by
              intro r
              induction r with
              | nil => intro _; exact Nat.le_refl _
              | cons p r ih =>
                intro hr
                have h1 := fmt1_len (N := engN) (F := F) (o := o) (tn := tn) eng_ok eng_nm hF.ok (by omega) htn (hr p (by simp))
                have h2 := ih (fun q hq => hr q (by simp [hq]))
                have e : fmtL engN F o tn (p :: r) = fmt1 engN F o tn p ++ fmtL engN F o tn r := by unfold fmtL; rw [List.flatMap_cons]
                rw [e, List.length_append, List.length_cons]
                omega
            have := key l hpa
            rw [hu]
            omega
          have hx0 : Ext w w := Ext.refl w
          have HO : Hid (-93600 < o ∧ o < 93600) := ⟨ho1, ho2⟩
          have htn8 : tn.length ≤ 100000 := by
            have := (typB_parts htn).2.1
            omega
          clear hT hv hF hu hT2 hlb htn ho1 ho2 hx0
          go_enter Try.func3, Try.ntmps3
          go_upto_region 1 with fail
          generalize w.alloc (.cells #[.int .i64 o, .int .i64 sa, .string ⟨tn.toArray⟩] 24) = W0 at HPt HEW t0 t1 t2 tz ⊢
          generalize w.heap.size = T at t0 t1 t2 tz ⊢
          have hTy0 : ∀ W, Ext W0 W → W.cell? ⟨T, 0, none⟩ = some (.int .i64 o) := fun W hW => (hW.cells _ _ tz).trans t0
          have hTy1 : ∀ W, Ext W0 W → W.cell? ⟨T, 1, none⟩ = some (.int .i64 sa) := fun W hW => (hW.cells _ _ tz).trans t1
          have hTy2 : ∀ W, Ext W0 W → W.cell? ⟨T, 2, none⟩ = some (.string ⟨tn.toArray⟩) := fun W hW => (hW.cells _ _ tz).trans t2
          clear t0 t1 t2
          go_upto_region 11 with (first
            | (go_at_call 6; (with_reducible refine (awake_c _).mono ?_); rintro e w1 ⟨rfl, hX⟩)
            | (go_at_call 7; (with_reducible refine (great_c l ao cap _ _ (HPt.out.ext (by (repeat (with_reducible (first | assumption | exact Ext.refl _ | refine Ext.alloc ?_ _ | refine Ext.drewN ?_ _ | refine Ext.drew ?_))))) HG.out).mono ?_); rintro e w2 ⟨rfl, hE2⟩; have hX := Ext.trans (show Ext W0 _ from (by (repeat (with_reducible (first | assumption | exact Ext.refl _ | refine Ext.alloc ?_ _ | refine Ext.drewN ?_ _ | refine Ext.drew ?_))))) hE2; clear hE2)
            | (go_at_call 8; (with_reducible refine (rtype_l o sa tn _ HTY.out _ htl).mono ?_); rintro e w3 ⟨rfl, hE3⟩; have hX := Ext.trans (show Ext W0 _ from (by (repeat (with_reducible (first | assumption | exact Ext.refl _ | refine Ext.alloc ?_ _ | refine Ext.drewN ?_ _ | refine Ext.drew ?_))))) hE3; clear hE3)
            | (go_at_call 10; (with_reducible refine (english_c _).mono ?_); rintro e w4 ⟨rfl, hE4⟩; have hX := Ext.trans (show Ext W0 _ from (by (repeat (with_reducible (first | assumption | exact Ext.refl _ | refine Ext.alloc ?_ _ | refine Ext.drewN ?_ _ | refine Ext.drew ?_))))) hE4; clear hE4)
            | (go_at_call 9; (with_reducible refine (eng_par l s ao cap _ c _ HT.out _ (HPt.out.ext (by (repeat (with_reducible (first | assumption | exact Ext.refl _ | refine Ext.alloc ?_ _ | refine Ext.drewN ?_ _ | refine Ext.drew ?_))))) Hl.out (by omega)).mono ?_); rintro e w5 ⟨z1, z2, rfl, hE5⟩; have hX := Ext.trans (show Ext W0 _ from (by (repeat (with_reducible (first | assumption | exact Ext.refl _ | refine Ext.alloc ?_ _ | refine Ext.drewN ?_ _ | refine Ext.drew ?_))))) hE5; clear hE5)
            | (go_at_call 11; (with_reducible refine (moment_F HF.out _).mono ?_); rintro e w6 ⟨rfl, hE6⟩; have hX := Ext.trans (show Ext W0 _ from (by (repeat (with_reducible (first | assumption | exact Ext.refl _ | refine Ext.alloc ?_ _ | refine Ext.drewN ?_ _ | refine Ext.drew ?_))))) hE6; clear hE6)
            | (go_at_call 12; (with_reducible refine (valid_y HF.out _).mono ?_); rintro e w7 ⟨rfl, hE7⟩; have hX := Ext.trans (show Ext W0 _ from (by (repeat (with_reducible (first | assumption | exact Ext.refl _ | refine Ext.alloc ?_ _ | refine Ext.drewN ?_ _ | refine Ext.drew ?_))))) hE7; clear hE7)
            | go_in)
          refine wp_region_grow [57, 58, 59, 60, 61, 56, 62, 63, 12, 13] [fun x _ => x = .slice ao l.length cap, fun x _ => x = .agg (sv engN.all).toArray, fun x _ => x = .int .i64 a, fun x _ => x = .agg #[.int .i64 o, .int .i64 sa, .string ⟨tn.toArray⟩], fun x _ => x = .tuple #[.string ⟨u.toArray⟩, .int .i64 0], fun x _ => x = .tuple #[.string ⟨u.toArray⟩, .int .i64 0], fun x _ => x = .string ⟨u.toArray⟩, fun x _ => x = .int .i64 0, fun x _ => x = .string ⟨u.toArray⟩, fun x _ => x = .int .i64 0] 0 (by kernel_rfl) (by kernel_rfl) (by kernel_rfl) (by kernel_rfl) ?_ ?_ ?_
          · intro R hR
            simp only [List.mem_cons, List.not_mem_nil, or_false] at hR
            rcases hR with rfl | rfl | rfl | rfl | rfl | rfl | rfl | rfl | rfl | rfl
            all_goals exact fun _ _ _ h _ => h
          · refine ⟨?_, ?_, ?_, ?_, ?_, ?_, ?_, ?_, ?_, ?_, trivial⟩
            all_goals intro A w hE hF hD K hK
            · exact gs_val rfl (yr_move rfl ((hF 0 (fr_of rfl)).trans rfl)) (hK _ _ rfl (Ext.refl _))
            · exact gs_call rfl (yr_call rfl rfl (show (#[] : Array Operand).map A.eval = #[] by simp) (by kernel_rfl)) (R := fun x _ => x = .agg (sv engN.all).toArray) ((english_c w).mono fun e w' h => ⟨_, h.1, rfl, h.2⟩) hK
            · exact gs_val rfl (yr_move rfl ((hF 7 (fr_of rfl)).trans rfl)) (hK _ _ rfl (Ext.refl _))
            · have hXX : Ext W0 w := hX.trans hE
              exact gs_val rfl (yr_load rfl ((hF 5 (fr_of rfl)).trans rfl) (ld_ty w T _ _ _ (hTy0 w hXX) (hTy1 w hXX) (hTy2 w hXX))) (hK _ _ rfl (Ext.refl _))
            · have h1 : A.eval (.tmp 57) = .slice ao l.length cap := hD 0 (by kernel_rfl)
              have h2 : A.eval (.tmp 58) = .agg (sv engN.all).toArray := hD 1 (by kernel_rfl)
              have h3 : A.eval (.tmp 59) = .int .i64 a := hD 2 (by kernel_rfl)
              have h4 : A.eval (.tmp 60) = .agg #[.int .i64 o, .int .i64 sa, .string ⟨tn.toArray⟩] := hD 3 (by kernel_rfl)
              have hXX : Ext W0 w := hX.trans hE
              refine gs_call (R := fun x _ => x = .tuple #[.string ⟨u.toArray⟩, .int .i64 0]) rfl (yr_call rfl rfl (show (#[Operand.tmp 57, Operand.tmp 58, Operand.tmp 59, Operand.tmp 60] : Array Operand).map A.eval = #[.slice ao l.length cap, .agg (sv engN.all).toArray, .int .i64 a, .agg #[.int .i64 o, .int .i64 sa, .string ⟨tn.toArray⟩]] by simp [h1, h2, h3, h4]) (by kernel_rfl)) ?_ hK
              exact (format_ok l engN F o sa a tn ao cap w (HPt.out.ext hXX) Hl.out eng_ok eng_len Hv.out eng_nm HO.out.1 HO.out.2 htn8 HTN.out HF.out).mono fun e w' h => ⟨_, h.1, by rw [Hu.out], h.2⟩
            · have h1 : A.eval (.tmp 61) = .tuple #[.string ⟨u.toArray⟩, .int .i64 0] := hD 4 (by kernel_rfl)
              exact gs_val rfl (yr_move rfl h1) (hK _ _ rfl (Ext.refl _))
            · have h1 : A.eval (.tmp 56) = .tuple #[.string ⟨u.toArray⟩, .int .i64 0] := hD 5 (by kernel_rfl)
              exact gs_val rfl (yr_ext rfl h1 rfl) (hK _ _ rfl (Ext.refl _))
            · have h1 : A.eval (.tmp 56) = .tuple #[.string ⟨u.toArray⟩, .int .i64 0] := hD 5 (by kernel_rfl)
              exact gs_val rfl (yr_ext rfl h1 rfl) (hK _ _ rfl (Ext.refl _))
            · have h1 : A.eval (.tmp 62) = .string ⟨u.toArray⟩ := hD 6 (by kernel_rfl)
              exact gs_val rfl (yr_assign rfl h1) (hK _ _ rfl (Ext.refl _))
            · have h1 : A.eval (.tmp 63) = .int .i64 0 := hD 7 (by kernel_rfl)
              exact gs_val rfl (yr_assign rfl h1) (hK _ _ rfl (Ext.refl _))
          · intro vals w8 hE8 hR
            have hX8 : Ext W0 w8 := hX.trans hE8
            obtain ⟨h0, h1, h2, h3, h4, h5, h6, h7, h8, h9, -⟩ := hR
            have e5 : vals 5 = .tuple #[.string ⟨u.toArray⟩, .int .i64 0] := h5
            have e8 : vals 8 = .string ⟨u.toArray⟩ := h8
            have e9 : vals 9 = .int .i64 0 := h9
            clear h0 h1 h2 h3 h4 h5 h6 h7 h8 h9
            refine wpAny_done (by kernel_rfl) ?_ _
            simp only [putF, Act.put, List.length_cons, List.length_nil, List.getD_cons_zero, List.getD_cons_succ, List.setIfInBounds_toArray, List.set_cons_zero, List.set_cons_succ, Nat.reduceAdd, e5, e8, e9]
            go_upto_region 15 with (first
              | (go_at_call 10; (with_reducible refine (english_c _).mono ?_); rintro e w9 ⟨rfl, hE9⟩; have hX9 := Ext.trans (show Ext W0 _ from (by (repeat (with_reducible (first | assumption | exact Ext.refl _ | refine Ext.alloc ?_ _ | refine Ext.drewN ?_ _ | refine Ext.drew ?_))))) hE9; clear hE9)
              | (go_at_call 9; (with_reducible refine (eng_par l u ao cap _ c2 _ HT2.out _ (HPt.out.ext (by (repeat (with_reducible (first | assumption | exact Ext.refl _ | refine Ext.alloc ?_ _ | refine Ext.drewN ?_ _ | refine Ext.drew ?_))))) Hl.out hul).mono ?_); rintro e w10 ⟨z3, z4, rfl, hE10⟩; have hX10 := Ext.trans (show Ext W0 _ from (by (repeat (with_reducible (first | assumption | exact Ext.refl _ | refine Ext.alloc ?_ _ | refine Ext.drewN ?_ _ | refine Ext.drew ?_))))) hE10; clear hE10)
              | go_in)
            by_cases he2 : er2 = 0
            · subst he2
              rcases Bool.eq_false_or_eq_true lb with hlb | hlb
              · have hba : b2 = a := HBK.out rfl hlb
                subst hba
                subst hlb
                go_wp2_with (first
                  | (go_at_call 14; (with_reducible refine (loss_l l ao cap _ HLB.out _ (HPt.out.ext (by (repeat (with_reducible (first | assumption | exact Ext.refl _ | refine Ext.alloc ?_ _ | refine Ext.drewN ?_ _ | refine Ext.drew ?_))))) Hl.out).mono ?_); rintro e w11 ⟨rfl, hE11⟩; have hX11 := Ext.trans (show Ext W0 _ from (by (repeat (with_reducible (first | assumption | exact Ext.refl _ | refine Ext.alloc ?_ _ | refine Ext.drewN ?_ _ | refine Ext.drew ?_))))) hE11; clear hE11))
                go_ret
                exact ⟨rfl, HEW.out.trans (by (repeat (with_reducible (first | assumption | exact Ext.refl _ | refine Ext.alloc ?_ _ | refine Ext.drewN ?_ _ | refine Ext.drew ?_))))⟩
              · subst hlb
                go_wp2_with (first
                  | (go_at_call 14; (with_reducible refine (loss_l l ao cap _ HLB.out _ (HPt.out.ext (by (repeat (with_reducible (first | assumption | exact Ext.refl _ | refine Ext.alloc ?_ _ | refine Ext.drewN ?_ _ | refine Ext.drew ?_))))) Hl.out).mono ?_); rintro e w11 ⟨rfl, hE11⟩; have hX11 := Ext.trans (show Ext W0 _ from (by (repeat (with_reducible (first | assumption | exact Ext.refl _ | refine Ext.alloc ?_ _ | refine Ext.drewN ?_ _ | refine Ext.drew ?_))))) hE11; clear hE11))
                go_ret
                exact ⟨rfl, HEW.out.trans (by (repeat (with_reducible (first | assumption | exact Ext.refl _ | refine Ext.alloc ?_ _ | refine Ext.drewN ?_ _ | refine Ext.drew ?_))))⟩
            · have te2 : (er2 != 0) = true := by rw [bne_iff_ne]; exact he2
              clear he2
              go_wp2_with fail
              go_ret
              exact ⟨rfl, HEW.out.trans (by (repeat (with_reducible (first | assumption | exact Ext.refl _ | refine Ext.alloc ?_ _ | refine Ext.drewN ?_ _ | refine Ext.drew ?_))))⟩
        · have ha0 : a = 0 := by
            have := prs_err engN l s (by rw [hT]; exact her)
            rw [hT] at this
            exact this
          have te : (er != 0) = true := by rw [bne_iff_ne]; exact her
          subst ha0
          clear her hT ho1 ho2 htn
          go_enter Try.func3, Try.ntmps3
          go_upto_region 1 with fail
          generalize w.alloc (.cells #[.int .i64 o, .int .i64 sa, .string ⟨tn.toArray⟩] 24) = W0 at HPt HEW t0 t1 t2 tz ⊢
          generalize w.heap.size = T at t0 t1 t2 tz ⊢
          have hTy0 : ∀ W, Ext W0 W → W.cell? ⟨T, 0, none⟩ = some (.int .i64 o) := fun W hW => (hW.cells _ _ tz).trans t0
          have hTy1 : ∀ W, Ext W0 W → W.cell? ⟨T, 1, none⟩ = some (.int .i64 sa) := fun W hW => (hW.cells _ _ tz).trans t1
          have hTy2 : ∀ W, Ext W0 W → W.cell? ⟨T, 2, none⟩ = some (.string ⟨tn.toArray⟩) := fun W hW => (hW.cells _ _ tz).trans t2
          clear t0 t1 t2
          go_upto_region 7 with (first
            | (go_at_call 6; (with_reducible refine (awake_c _).mono ?_); rintro e w1 ⟨rfl, hX⟩)
            | (go_at_call 7; (with_reducible refine (great_c l ao cap _ _ (HPt.out.ext (by (repeat (with_reducible (first | assumption | exact Ext.refl _ | refine Ext.alloc ?_ _ | refine Ext.drewN ?_ _ | refine Ext.drew ?_))))) HG.out).mono ?_); rintro e w2 ⟨rfl, hE2⟩; have hX := Ext.trans (show Ext W0 _ from (by (repeat (with_reducible (first | assumption | exact Ext.refl _ | refine Ext.alloc ?_ _ | refine Ext.drewN ?_ _ | refine Ext.drew ?_))))) hE2; clear hE2)
            | (go_at_call 8; (with_reducible refine (rtype_l o sa tn _ HTY.out _ htl).mono ?_); rintro e w3 ⟨rfl, hE3⟩; have hX := Ext.trans (show Ext W0 _ from (by (repeat (with_reducible (first | assumption | exact Ext.refl _ | refine Ext.alloc ?_ _ | refine Ext.drewN ?_ _ | refine Ext.drew ?_))))) hE3; clear hE3)
            | (go_at_call 10; (with_reducible refine (english_c _).mono ?_); rintro e w4 ⟨rfl, hE4⟩; have hX := Ext.trans (show Ext W0 _ from (by (repeat (with_reducible (first | assumption | exact Ext.refl _ | refine Ext.alloc ?_ _ | refine Ext.drewN ?_ _ | refine Ext.drew ?_))))) hE4; clear hE4)
            | (go_at_call 9; (with_reducible refine (eng_par l s ao cap _ c _ HT.out _ (HPt.out.ext (by (repeat (with_reducible (first | assumption | exact Ext.refl _ | refine Ext.alloc ?_ _ | refine Ext.drewN ?_ _ | refine Ext.drew ?_))))) Hl.out (by omega)).mono ?_); rintro e w5 ⟨z1, z2, rfl, hE5⟩; have hX := Ext.trans (show Ext W0 _ from (by (repeat (with_reducible (first | assumption | exact Ext.refl _ | refine Ext.alloc ?_ _ | refine Ext.drewN ?_ _ | refine Ext.drew ?_))))) hE5; clear hE5)
            | (go_at_call 11; (with_reducible refine (moment_F HF.out _).mono ?_); rintro e w6 ⟨rfl, hE6⟩; have hX := Ext.trans (show Ext W0 _ from (by (repeat (with_reducible (first | assumption | exact Ext.refl _ | refine Ext.alloc ?_ _ | refine Ext.drewN ?_ _ | refine Ext.drew ?_))))) hE6; clear hE6)
            | (go_at_call 12; (with_reducible refine (valid_y HF.out _).mono ?_); rintro e w7 ⟨rfl, hE7⟩; have hX := Ext.trans (show Ext W0 _ from (by (repeat (with_reducible (first | assumption | exact Ext.refl _ | refine Ext.alloc ?_ _ | refine Ext.drewN ?_ _ | refine Ext.drew ?_))))) hE7; clear hE7)
            | go_in)
          go_wp2_with fail
          go_ret
          exact ⟨rfl, HEW.out.trans (by (repeat (with_reducible (first | assumption | exact Ext.refl _ | refine Ext.alloc ?_ _ | refine Ext.drewN ?_ _ | refine Ext.drew ?_))))⟩
      · have HTY := Lib.hid hty
        clear hty
        go_enter Try.func3, Try.ntmps3
        go_upto_region 1 with fail
        generalize w.alloc (.cells #[.int .i64 o, .int .i64 sa, .string ⟨tn.toArray⟩] 24) = W0 at HPt HEW t0 t1 t2 tz ⊢
        generalize w.heap.size = T at t0 t1 t2 tz ⊢
        have hTy0 : ∀ W, Ext W0 W → W.cell? ⟨T, 0, none⟩ = some (.int .i64 o) := fun W hW => (hW.cells _ _ tz).trans t0
        have hTy1 : ∀ W, Ext W0 W → W.cell? ⟨T, 1, none⟩ = some (.int .i64 sa) := fun W hW => (hW.cells _ _ tz).trans t1
        have hTy2 : ∀ W, Ext W0 W → W.cell? ⟨T, 2, none⟩ = some (.string ⟨tn.toArray⟩) := fun W hW => (hW.cells _ _ tz).trans t2
        clear t0 t1 t2
        go_upto_region 4 with (first
          | (go_at_call 6; (with_reducible refine (awake_c _).mono ?_); rintro e w1 ⟨rfl, hX⟩)
          | (go_at_call 7; (with_reducible refine (great_c l ao cap _ _ (HPt.out.ext (by (repeat (with_reducible (first | assumption | exact Ext.refl _ | refine Ext.alloc ?_ _ | refine Ext.drewN ?_ _ | refine Ext.drew ?_))))) HG.out).mono ?_); rintro e w2 ⟨rfl, hE2⟩; have hX := Ext.trans (show Ext W0 _ from (by (repeat (with_reducible (first | assumption | exact Ext.refl _ | refine Ext.alloc ?_ _ | refine Ext.drewN ?_ _ | refine Ext.drew ?_))))) hE2; clear hE2)
          | (go_at_call 8; (with_reducible refine (rtype_l o sa tn _ HTY.out _ htl).mono ?_); rintro e w3 ⟨rfl, hE3⟩; have hX := Ext.trans (show Ext W0 _ from (by (repeat (with_reducible (first | assumption | exact Ext.refl _ | refine Ext.alloc ?_ _ | refine Ext.drewN ?_ _ | refine Ext.drew ?_))))) hE3; clear hE3)
          | (go_at_call 10; (with_reducible refine (english_c _).mono ?_); rintro e w4 ⟨rfl, hE4⟩; have hX := Ext.trans (show Ext W0 _ from (by (repeat (with_reducible (first | assumption | exact Ext.refl _ | refine Ext.alloc ?_ _ | refine Ext.drewN ?_ _ | refine Ext.drew ?_))))) hE4; clear hE4)
          | (go_at_call 9; (with_reducible refine (eng_par l s ao cap _ c _ HT.out _ (HPt.out.ext (by (repeat (with_reducible (first | assumption | exact Ext.refl _ | refine Ext.alloc ?_ _ | refine Ext.drewN ?_ _ | refine Ext.drew ?_))))) Hl.out (by omega)).mono ?_); rintro e w5 ⟨z1, z2, rfl, hE5⟩; have hX := Ext.trans (show Ext W0 _ from (by (repeat (with_reducible (first | assumption | exact Ext.refl _ | refine Ext.alloc ?_ _ | refine Ext.drewN ?_ _ | refine Ext.drew ?_))))) hE5; clear hE5)
          | (go_at_call 11; (with_reducible refine (moment_F HF.out _).mono ?_); rintro e w6 ⟨rfl, hE6⟩; have hX := Ext.trans (show Ext W0 _ from (by (repeat (with_reducible (first | assumption | exact Ext.refl _ | refine Ext.alloc ?_ _ | refine Ext.drewN ?_ _ | refine Ext.drew ?_))))) hE6; clear hE6)
          | (go_at_call 12; (with_reducible refine (valid_y HF.out _).mono ?_); rintro e w7 ⟨rfl, hE7⟩; have hX := Ext.trans (show Ext W0 _ from (by (repeat (with_reducible (first | assumption | exact Ext.refl _ | refine Ext.alloc ?_ _ | refine Ext.drewN ?_ _ | refine Ext.drew ?_))))) hE7; clear hE7)
          | go_in)
        go_wp2_with fail
        go_ret
        exact ⟨rfl, HEW.out.trans (by (repeat (with_reducible (first | assumption | exact Ext.refl _ | refine Ext.alloc ?_ _ | refine Ext.drewN ?_ _ | refine Ext.drew ?_))))⟩
    · have d1 : (1000 : Int) < (s.length : Int) := by omega
      clear hsl
      go_enter Try.func3, Try.ntmps3
      go_upto_region 1 with fail
      generalize w.alloc (.cells #[.int .i64 o, .int .i64 sa, .string ⟨tn.toArray⟩] 24) = W0 at HPt HEW t0 t1 t2 tz ⊢
      generalize w.heap.size = T at t0 t1 t2 tz ⊢
      have hTy0 : ∀ W, Ext W0 W → W.cell? ⟨T, 0, none⟩ = some (.int .i64 o) := fun W hW => (hW.cells _ _ tz).trans t0
      have hTy1 : ∀ W, Ext W0 W → W.cell? ⟨T, 1, none⟩ = some (.int .i64 sa) := fun W hW => (hW.cells _ _ tz).trans t1
      have hTy2 : ∀ W, Ext W0 W → W.cell? ⟨T, 2, none⟩ = some (.string ⟨tn.toArray⟩) := fun W hW => (hW.cells _ _ tz).trans t2
      clear t0 t1 t2
      go_upto_region 4 with (first
        | (go_at_call 6; (with_reducible refine (awake_c _).mono ?_); rintro e w1 ⟨rfl, hX⟩)
        | (go_at_call 7; (with_reducible refine (great_c l ao cap _ _ (HPt.out.ext (by (repeat (with_reducible (first | assumption | exact Ext.refl _ | refine Ext.alloc ?_ _ | refine Ext.drewN ?_ _ | refine Ext.drew ?_))))) HG.out).mono ?_); rintro e w2 ⟨rfl, hE2⟩; have hX := Ext.trans (show Ext W0 _ from (by (repeat (with_reducible (first | assumption | exact Ext.refl _ | refine Ext.alloc ?_ _ | refine Ext.drewN ?_ _ | refine Ext.drew ?_))))) hE2; clear hE2)
        | (go_at_call 8; (with_reducible refine (rtype_l o sa tn _ HTY.out _ htl).mono ?_); rintro e w3 ⟨rfl, hE3⟩; have hX := Ext.trans (show Ext W0 _ from (by (repeat (with_reducible (first | assumption | exact Ext.refl _ | refine Ext.alloc ?_ _ | refine Ext.drewN ?_ _ | refine Ext.drew ?_))))) hE3; clear hE3)
        | (go_at_call 10; (with_reducible refine (english_c _).mono ?_); rintro e w4 ⟨rfl, hE4⟩; have hX := Ext.trans (show Ext W0 _ from (by (repeat (with_reducible (first | assumption | exact Ext.refl _ | refine Ext.alloc ?_ _ | refine Ext.drewN ?_ _ | refine Ext.drew ?_))))) hE4; clear hE4)
        | (go_at_call 9; (with_reducible refine (eng_par l s ao cap _ c _ HT.out _ (HPt.out.ext (by (repeat (with_reducible (first | assumption | exact Ext.refl _ | refine Ext.alloc ?_ _ | refine Ext.drewN ?_ _ | refine Ext.drew ?_))))) Hl.out (by omega)).mono ?_); rintro e w5 ⟨z1, z2, rfl, hE5⟩; have hX := Ext.trans (show Ext W0 _ from (by (repeat (with_reducible (first | assumption | exact Ext.refl _ | refine Ext.alloc ?_ _ | refine Ext.drewN ?_ _ | refine Ext.drew ?_))))) hE5; clear hE5)
        | (go_at_call 11; (with_reducible refine (moment_F HF.out _).mono ?_); rintro e w6 ⟨rfl, hE6⟩; have hX := Ext.trans (show Ext W0 _ from (by (repeat (with_reducible (first | assumption | exact Ext.refl _ | refine Ext.alloc ?_ _ | refine Ext.drewN ?_ _ | refine Ext.drew ?_))))) hE6; clear hE6)
        | (go_at_call 12; (with_reducible refine (valid_y HF.out _).mono ?_); rintro e w7 ⟨rfl, hE7⟩; have hX := Ext.trans (show Ext W0 _ from (by (repeat (with_reducible (first | assumption | exact Ext.refl _ | refine Ext.alloc ?_ _ | refine Ext.drewN ?_ _ | refine Ext.drew ?_))))) hE7; clear hE7)
        | go_in)
      go_wp2_with fail
      go_ret
      exact ⟨rfl, HEW.out.trans (by (repeat (with_reducible (first | assumption | exact Ext.refl _ | refine Ext.alloc ?_ _ | refine Ext.drewN ?_ _ | refine Ext.drew ?_))))⟩
end Go.Proofs.Yticckkadmhklmaa
