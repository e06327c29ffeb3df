/- Opening arguments: slices of parts; types. -/
import Derived.Test.YticckkadmhklmaaGreatDoorK28
import Derived.Test.YticckkadmhklmaaGreatDoorK06
import Derived.Test.YticckkadmhklmaaGreatDoorK20
import Derived.Test.YticckkadmhklmaaGreatDoorK04
import Derived.Test.YticckkadmhklmaaGreatDoorK00
import Derived.Deep.Slices
import Derived.Deep.SlicePairs
namespace Go.Proofs.YticckkadmhklmaaGreatDoor
open Go.ChangeShapes Go.WideShapes Go.ChangeAt Go.WideMaps Go.WideElems Go.RowKit
set_option linter.unusedVariables false

theorem cI : Tryz.prog.cellsOf 3 = 1 := by kernel_rfl
theorem cS : Tryz.prog.cellsOf 9 = 1 := by kernel_rfl
theorem cP : Tryz.prog.cellsOf 38 = 3 := by kernel_rfl
theorem cTy : Tryz.prog.cellsOf 52 = 3 := by kernel_rfl
theorem three {cs : List Value} {a b c : Value} (hl : cs.length = 3) (e0 : List.take 1 (List.drop 0 cs) = [a]) (e1 : List.take 1 (List.drop 1 cs) = [b]) (e2 : List.take 1 (List.drop 2 cs) = [c]) : cs = [a, b, c] := by
  match cs, hl with
  | [x0, x1, x2], _ => simp at e0 e1 e2; simp [e0, e1, e2]
theorem iis_cells {H : Type} {enc : TypeId × Value → H} {W : World} {base : Nat} {sp : Nat → Bool} {hd : Bool} {fuel : Nat} {t : TypeId} {cs : List Value} {x : DataW H × List MemPlace} {f0 f1 f2 : Field}
    (hu : Tryz.prog.underlying t = some (.struct #[f0, f1, f2])) (hc : Tryz.prog.cellsOf t = 3) (t0 : f0.type = 3) (t1 : f1.type = 3) (t2 : f2.type = 9) (o0 : f0.offset = 0) (o1 : f1.offset = 1) (o2 : f2.offset = 2)
    (h : DataW.trod enc Tryz.prog W base sp hd fuel t cs = some x) : ∃ (a b : Int) (s : ByteArray), cs = [.int .i64 a, .int .i64 b, .string s] ∧ s.size ≤ maxLen := by
  obtain ⟨xs, n, _, _, hl, hlen, hf⟩ := DataW.trod_struct hu h
  have h0 := hf 0 f0 rfl
  have h1 := hf 1 f1 rfl
  have h2 := hf 2 f2 rfl
  rw [t0, o0, cI] at h0
  rw [t1, o1, cI] at h1
  rw [t2, o2, cS] at h2
  match xs, hlen with
  | [y0, y1, y2], _ =>
    obtain ⟨a0, e0, _⟩ := DataW.trod_int Tryz.underlying3 (show DataW.trod _ Tryz.prog W _ _ _ n 3 _ = some y0 from h0)
    obtain ⟨a1, e1, _⟩ := DataW.trod_int Tryz.underlying3 (show DataW.trod _ Tryz.prog W _ _ _ n 3 _ = some y1 from h1)
    obtain ⟨a2, e2, _, sz⟩ := DataW.trod_string Tryz.underlying9 (show DataW.trod _ Tryz.prog W _ _ _ n 9 _ = some y2 from h2)
    exact ⟨a0, a1, a2, three (hl.trans hc) e0 e1 e2, sz⟩
set_option maxRecDepth 100000 in
theorem open_parts {H : Type} {enc : TypeId × Value → H} {W : World} {r : Reach} {b0 base : Nat} {sp : Nat → Bool} {hd : Bool} {v : Value} {d : DataW H} {p : List MemPlace} (hval : Value.okWide Tryz.prog W r b0 22 v) (h : DataW.Trod enc Tryz.prog W base sp hd 22 v d p) :
    ∃ (l : List Prt) (ao : Option Addr) (cap : Nat), v = .slice ao l.length cap ∧ PtV ao cap l W := by
  obtain ⟨a1, len1, cap1, rfl⟩ := okWide_slice Tryz.underlying22 hval
  obtain ⟨fuel, hf⟩ := h
  rcases Go.Deep.open_slice Tryz.underlying22 hf with ⟨e, _⟩ | ⟨a, len, cap, m, n, D, Pl, e, hb, hlc, hm, hmm, _, hx⟩
  · have e : Value.slice a1 len1 cap1 = .slice none 0 0 := by simpa [Value.cells] using e
    rw [e]
    exact ⟨[], none, 0, rfl, PtV.nil W⟩
  · have e : Value.slice a1 len1 cap1 = .slice (some a) len cap := by simpa [Value.cells] using e
    rw [e]
    have hlm : len ≤ m := by rw [hmm]; split <;> omega
    have each : ∀ i, i < len → ∃ q : Prt, W.cell? (a.add (i * 3)) = some (.int .i64 q.k) ∧ W.cell? ((a.add (i * 3)).add 1) = some (.int .i64 q.w) ∧ W.cell? ((a.add (i * 3)).add 2) = some (.string ⟨q.t.toArray⟩) := by
      intro i hi
      obtain ⟨cs', h1, h2⟩ := hx i (by omega)
      rw [cP] at h1
      obtain ⟨_, hlen, hcell⟩ := World.cells?_some h1
      obtain ⟨x, y, s, rfl, _⟩ := iis_cells Tryz.underlying38 cP rfl rfl rfl rfl rfl rfl h2
      refine ⟨⟨x, y, s.data.toList⟩, ?_, ?_, ?_⟩
      · have := hcell 0 (by decide)
        simpa [Addr.add] using this
      · exact (hcell 1 (by decide)).trans rfl
      · refine (hcell 2 (by decide)).trans ?_
        simp
    haveI : Inhabited Prt := ⟨⟨0, 0, []⟩⟩
    obtain ⟨q, hq⟩ := Go.Deep.choose_lt each
    have hll : ((List.range len).map q).length = len := by simp
    refine ⟨(List.range len).map q, some a, cap, by rw [hll], by rw [hll]; exact hlc, hm, fun hne => ?_⟩
    have hl0 : 0 < len := by
      rcases Nat.eq_zero_or_pos len with h0 | h0
      · rw [h0] at hne; simp at hne
      · exact h0
    obtain ⟨b, o, sp'⟩ := a
    have hsp : sp' = none := by
      have h1 := (hq 0 hl0).1
      simp only [Nat.zero_mul, Addr.add, if_true] at h1
      cases sp' with
      | none => rfl
      | some z =>
        exfalso
        unfold World.cell? at h1
        simp only [Option.isSome_some, if_true] at h1
        split at h1 <;> cases h1
    subst hsp
    have hadd : ∀ i j, ((⟨b, o, none⟩ : Addr).add i).add j = ⟨b, o + i + j, none⟩ := fun i j => by rw [Addr.add_mid, Addr.add_mid]
    refine ⟨b, o, rfl, World.block_lt_of_cell? W _ (hq 0 hl0).1, fun i hi => ?_⟩
    have hi' : i < len := by rw [hll] at hi; exact hi
    obtain ⟨h1, h2, h3⟩ := hq i hi'
    rw [Addr.add_mid] at h1
    rw [hadd] at h2 h3
    simp only [List.getElem_map, List.getElem_range]
    exact ⟨h1, h2, h3⟩
set_option maxRecDepth 100000 in
theorem open_type {H : Type} {enc : TypeId × Value → H} {W : World} {r : Reach} {b0 base : Nat} {sp : Nat → Bool} {hd : Bool} {v : Value} {d : DataW H} {p : List MemPlace} (hval : Value.okWide Tryz.prog W r b0 52 v) (h : DataW.Trod enc Tryz.prog W base sp hd 52 v d p) :
    ∃ (o sa : Int) (tn : ByteArray), v = .agg #[.int .i64 o, .int .i64 sa, .string tn] ∧ tn.size ≤ 9223372036854775807 := by
  obtain ⟨cs, rfl, _⟩ := okWide_struct Tryz.underlying52 hval
  obtain ⟨fuel, hf⟩ := h
  obtain ⟨a, b, c, e, sz⟩ := iis_cells Tryz.underlying52 cTy rfl rfl rfl rfl rfl rfl hf
  simp only [Value.cells] at e
  unfold maxLen at sz
  exact ⟨a, b, c, by rw [← Array.toArray_toList (xs := cs), e], sz⟩
end Go.Proofs.YticckkadmhklmaaGreatDoor
/- The walk of great. -/
namespace Go.Proofs.YticckkadmhklmaaGreatDoor
set_option linter.unusedVariables false
set_option linter.unusedSimpArgs false
open Go.RowKit

def grB (p : Prt) : Bool := decide (200 < p.t.length)
def greatB (l : List Prt) : Bool := decide (50 < l.length) || l.any grB
set_option maxRecDepth 100000 in
theorem grc_c (p : Prt) (b : Bool) (w : World) (hb : grB p = b) : Calls Tryz.prog 25 #[.agg #[.int .i64 p.k, .int .i64 p.w, .string ⟨p.t.toArray⟩]] w fun e w' => e = .returned (.bool b) ∧ Ext w w' := by
  obtain ⟨k, wd, t⟩ := p
  have hE : Ext w (w.alloc (.cells #[.int .i64 k, .int .i64 wd, .string ⟨t.toArray⟩] 38)) := (Ext.refl w).alloc _
  unfold grB at hb
  simp only at hb
  show Calls _ _ #[.agg #[.int .i64 k, .int .i64 wd, .string ⟨t.toArray⟩]] w _
  subst hb
  by_cases h : 200 < t.length
  · have h' : (200 : Int) < (t.length : Int) := by omega
    rw [decide_eq_true h]
    clear h
    go_enter Tryz.func25, Tryz.ntmps25
    go_wp2_with fail
    go_ret
    exact ⟨rfl, hE⟩
  · have h' : ¬ (200 : Int) < (t.length : Int) := by omega
    rw [decide_eq_false h]
    clear h
    go_enter Tryz.func25, Tryz.ntmps25
    go_wp2_with fail
    go_ret
    exact ⟨rfl, hE⟩
set_option maxRecDepth 100000 in
set_option maxHeartbeats 1000000 in
theorem idxG_c (l : List Prt) (ao : Option Addr) (cap : Nat) (w : World) (hl : PtV ao cap l w) :
    Calls Tryz.prog 66 #[.slice ao l.length cap, .func (.func 25) #[] #[]] w fun e w' => (∃ z : Int, e = .returned (.int .i64 z) ∧ decide (0 ≤ z) = l.any grB) ∧ Ext w w' := by
  have hlen := hl.1
  have hcap := hl.2.1
  unfold maxLen at hcap
  have HL := Lib.hid hl.2.2
  obtain ⟨G, hG⟩ : ∃ G, G = l.any grB := ⟨_, rfl⟩
  have HP := Lib.hid hG
  rw [← hG]
  clear hl hG
  go_enter Tryz.func66, Tryz.ntmps66
  go_wp2_with fail
  go_loopw [8] (fun i wr => ∃ j : Nat, j ≤ l.length ∧ i = .int .i64 (j : Int) ∧ Hid ((l.take j).any grB = false) ∧ Ext w wr) (fun i _ => l.length - (intOf i).toNat)
  case atStart => exact ⟨0, Nat.zero_le _, rfl, rfl, Ext.refl _⟩
  case round =>
    obtain ⟨j, hj, rfl, Hall, hE⟩ := hrel
    by_cases hlt : j < l.length
    · obtain ⟨R2, of2, rfl, hR0, hc⟩ := HL.out (by rintro rfl; simp at hlt)
      obtain ⟨c0, c1, c2⟩ := hc j hlt
      replace c0 := (hE.cells _ _ hR0).trans c0
      replace c1 := (hE.cells _ _ hR0).trans c1
      replace c2 := (hE.cells _ _ hR0).trans c2
      have Hs : Hid ((l.take (j + 1)).any grB = ((l.take j).any grB || grB l[j])) := by rw [Hid, List.take_add_one, List.any_append]; simp [hlt]
      have hmem : l[j] ∈ l := List.getElem_mem _
      obtain ⟨p, hp⟩ : ∃ p, p = l[j] := ⟨_, rfl⟩
      rw [← hp] at c0 c1 c2 Hs hmem
      clear hp hc
      obtain ⟨k, wd, t⟩ := p
      simp only at c0 c1 c2
      rcases Bool.eq_false_or_eq_true (grB ⟨k, wd, t⟩) with hq | hq
      · have HV : Hid (G = true) := by rw [Hid, HP.out, List.any_eq_true]; exact ⟨_, hmem, hq⟩
        have Hq := Lib.hid hq
        clear hq hmem
        go_wp2_with (first
          | (go_at_call 25; (with_reducible refine (grc_c ⟨k, wd, t⟩ true _ Hq.out).mono ?_); rintro e w1 ⟨rfl, hE1⟩))
        go_ret
        exact ⟨⟨(j : Int), rfl, by rw [HV.out]; simp⟩, hE.trans hE1⟩
      · have Hq := Lib.hid hq
        have Hn : Hid ((l.take (j + 1)).any grB = false) := by rw [Hid, Hs.out, Hall.out, hq]; rfl
        clear hq hmem
        go_wp2_with (first
          | (go_at_call 25; (with_reducible refine (grc_c ⟨k, wd, t⟩ false _ Hq.out).mono ?_); rintro e w1 ⟨rfl, hE1⟩))
        go_roundw
        case rel => exact ⟨j + 1, by omega, by go_num, Hn, hE.trans hE1⟩
        case measure => simp [intOf]; omega
    · obtain rfl : j = l.length := by omega
      have HV : Hid (G = false) := by rw [Hid, HP.out]; have := Hall.out; rwa [List.take_length] at this
      go_wp2_with fail
      go_ret
      exact ⟨⟨-1, rfl, by rw [HV.out]; rfl⟩, hE⟩
theorem cfG_c (l : List Prt) (ao : Option Addr) (cap : Nat) (b : Bool) (w : World) (hl : PtV ao cap l w) (hb : l.any grB = b) :
    Calls Tryz.prog 24 #[.slice ao l.length cap, .func (.func 25) #[] #[]] w fun e w' => e = .returned (.bool b) ∧ Ext w w' := by
  have HC := Lib.hid (idxG_c l ao cap w hl)
  rw [hb] at HC
  clear hl hb
  go_enter Tryz.func24, Tryz.ntmps24
  go_wp2_with (first
    | (go_at_call 66; (with_reducible refine HC.out.mono ?_); rintro e w1 ⟨⟨z, rfl, hz⟩, hE1⟩))
  go_ret
  exact ⟨rfl, hE1⟩
theorem great_c (l : List Prt) (ao : Option Addr) (cap : Nat) (b : Bool) (w : World) (hl : PtV ao cap l w) (hb : greatB l = b) :
    Calls Tryz.prog 6 #[.slice ao l.length cap] w fun e w' => e = .returned (.bool b) ∧ Ext w w' := by
  unfold greatB at hb
  by_cases h : 50 < l.length
  · rw [decide_eq_true h, Bool.true_or] at hb
    subst hb
    have h' : (50 : Int) < (l.length : Int) := by omega
    clear h
    go_enter Tryz.func6, Tryz.ntmps6
    go_wp2_with fail
    go_ret
    exact ⟨rfl, Ext.refl _⟩
  · rw [decide_eq_false h, Bool.false_or] at hb
    have h' : ¬ (50 : Int) < (l.length : Int) := by omega
    have HC := Lib.hid (cfG_c l ao cap b w hl hb)
    clear h hb
    go_enter Tryz.func6, Tryz.ntmps6
    go_wp2_with (first
      | (go_at_call 24; (with_reducible refine HC.out.mono ?_); rintro e w1 ⟨rfl, hE1⟩))
    go_ret
    exact ⟨rfl, hE1⟩
end Go.Proofs.YticckkadmhklmaaGreatDoor
/- Types, as the reference asks of them: the walks of civiltimeref22.plain and Type. -/
namespace Go.Proofs.YticckkadmhklmaaGreatDoor
set_option linter.unusedVariables false
set_option linter.unusedSimpArgs false
open Go.RowKit

theorem tyC_of {c : UInt8} (h : (97 ≤ c.toNat ∧ c.toNat ≤ 122) ∨ (65 ≤ c.toNat ∧ c.toNat ≤ 90) ∨ (48 ≤ c.toNat ∧ c.toNat ≤ 57) ∨ c.toNat = 43 ∨ c.toNat = 45) : tyC c = true := by
  have e : ∀ n, n < 256 → c.toNat = n → c = UInt8.ofNat n := fun n hn h => by rw [← h]; simp
  unfold tyC isLt isDg
  rcases h with h | h | h | h | h
  · simp [h]
  · simp [h]
  · simp [h]
  · rw [e 43 (by decide) h]; decide
  · rw [e 45 (by decide) h]; decide
theorem tyC_not {c : UInt8} (h : ¬ ((97 ≤ c.toNat ∧ c.toNat ≤ 122) ∨ (65 ≤ c.toNat ∧ c.toNat ≤ 90) ∨ (48 ≤ c.toNat ∧ c.toNat ≤ 57) ∨ c.toNat = 43 ∨ c.toNat = 45)) : tyC c = false := by
  unfold tyC isLt isDg
  have h1 : ¬ (97 ≤ c.toNat ∧ c.toNat ≤ 122) := fun q => h (.inl q)
  have h2 : ¬ (65 ≤ c.toNat ∧ c.toNat ≤ 90) := fun q => h (.inr (.inl q))
  have h3 : ¬ (48 ≤ c.toNat ∧ c.toNat ≤ 57) := fun q => h (.inr (.inr (.inl q)))
  have h4 : ¬ c = 43 := fun q => h (.inr (.inr (.inr (.inl (by rw [q]; rfl)))))
  have h5 : ¬ c = 45 := fun q => h (.inr (.inr (.inr (.inr (by rw [q]; rfl)))))
  rw [decide_eq_false h1, decide_eq_false h2, decide_eq_false h3, decide_eq_false h4, decide_eq_false h5]
  rfl
theorem tm60 (a : Int) : a.tmod 60 = 0 ↔ a % 60 = 0 := ⟨fun h => Int.emod_eq_zero_of_dvd (Int.dvd_of_tmod_eq_zero h), fun h => Int.tmod_eq_zero_of_dvd (Int.dvd_of_emod_eq_zero h)⟩
/-- A valid type. -/
def tyOk (o sa : Int) (tn : List UInt8) : Bool := decide (-93600 < o) && decide (o < 93600) && decide (-10800 ≤ sa) && decide (sa ≤ 10800) && decide (sa % 60 = 0) && typB tn
end Go.Proofs.YticckkadmhklmaaGreatDoor
