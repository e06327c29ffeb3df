/- Locales: the walk of the law LocaleTexts, whole. -/
import Derived.Test.YtnhdmnhfllecgaaGreatDoorQ44
import Derived.Test.YtnhdmnhfllecgaaGreatDoorQ45
import Derived.Test.YtnhdmnhfllecgaaGreatDoorQ00
import Derived.Test.YtnhdmnhfllecgaaGreatDoorQ29
import Derived.Test.YtnhdmnhfllecgaaGreatDoorQ27
import Derived.ProofKit
import Derived.OpenShut
import Derived.Test.YtnhdmnhfllecgaaGreatDoorRows
import Derived.Deep.Slices
import Derived.Deep.SlicePairs
import Derived.LaidMore
import Derived.Lay
import Derived.HandedShaped
import Derived.Shelf.Vars
import Derived.Stop.Joined
import Derived.Deep.DeepHandedRow
import Derived.Lib.LaidTab
namespace Go.Proofs.YtnhdmnhfllecgaaGreatDoor
set_option linter.unusedVariables false
set_option linter.unusedSimpArgs false
open Go.RowKit

set_option maxRecDepth 100000 in
set_option maxHeartbeats 20000000 in
theorem ltx_long (L : Loc) (s : List UInt8) (w : World) (h : LcV L w) (hb : bgL L) (hm : Lm w) (hNl : ∀ s ∈ L.N.all, s.length ≤ 2000000) (hs : ¬ s.length ≤ 6000) :
    Calls Tryz.prog 3 #[.agg L.vals.toArray, .string ⟨s.toArray⟩] w fun e w' => e = .returned (.bool true) ∧ Ext w w' := by
  have d6 : decide (6000 < (s.length : Int)) = true := by simp; omega
  have hIL := loc_size h.1
  have hE0 : Ext w (w.alloc (.cells L.vals.toArray 30)) := (Ext.refl w).alloc _
  have hB := LcB.new L w 30
  have hR := hB.2
  have HzB := Lib.hid hB.1
  have HE0 := Lib.hid hE0
  have HAw : Hid (∀ w', Ext w w' → Calls Tryz.prog 5 #[] w' fun e w'' => e = .returned (.bool true) ∧ Ext w' w'') := fun w' hE => awake55_c w' (hm.ext hE)
  have HFw : Hid (∀ w', Ext w w' → Calls Tryz.prog 6 #[.agg L.vals.toArray] w' (fun e w'' => ∃ b : Bool, e = .returned (.bool b) ∧ (b = true → shL L) ∧ Ext w' w'')) := fun w' hE => few_c L w' (h.ext hE) hb (hm.ext hE) hNl
  clear h hb hm hNl hB hE0 hs
  go_enter Tryz.func3, Tryz.ntmps3
  go_upto_region 1 with fail
  generalize w.alloc (.cells L.vals.toArray 30) = W0 at *
  generalize w.heap.size = B at *
  go_wp2_with (first
    | (go_at_call 5; (with_reducible refine (HAw.out _ HE0.out).mono ?_); rintro e w1 ⟨rfl, hE1⟩; have hR1 := rng_ext hR HzB.out hE1; have hB1 := hE1.lt HzB.out; have HX1 := Lib.hid (HE0.out.trans hE1); clear hE1)
    | (refine load_midg (by rfl) 30 _ rfl B 0 rfl L.vals _ hR1 Tryz.underlying30 rfl hIL ?_)
    | (go_at_call 6; (with_reducible refine (HFw.out _ HX1.out).mono ?_); rintro e w2 ⟨b, rfl, hsh, hE2⟩; have hR2 := rng_ext hR1 hB1 hE2; have hB2 := hE2.lt hB1; have HX2 := Lib.hid (HX1.out.trans hE2); clear hE2; cases b)
    | (refine load_midg (by rfl) 30 _ rfl B 0 rfl L.vals _ hR2 Tryz.underlying30 rfl hIL ?_))
  all_goals
    go_ret
    exact ⟨rfl, HX2.out⟩
theorem ltx_walk (L : Loc) (s : List UInt8) (w : World) (h : LcV L w) (hb : bgL L) (hm : Lm w) (ht : TabW w) (hNl : ∀ s ∈ L.N.all, s.length ≤ 2000000) :
    Calls Tryz.prog 3 #[.agg L.vals.toArray, .string ⟨s.toArray⟩] w fun e w' => e = .returned (.bool true) ∧ Ext w w' := by
  by_cases hs : s.length ≤ 6000
  · cases hp : parL s with
    | er c l => exact ltx_er L s w h hb hm ht hNl hs c l hp
    | ok D => exact ltx_ok L s w h hb hm ht hNl hs D hp
  · exact ltx_long L s w h hb hm hNl hs
theorem ltx_walkB (L : Loc) (s : ByteArray) (w : World) (h : LcV L w) (hb : bgL L) (hm : Lm w) (ht : TabW w) (hNl : ∀ s ∈ L.N.all, s.length ≤ 2000000) :
    Calls Tryz.prog 3 #[.agg L.vals.toArray, .string s] w fun e w' => e = .returned (.bool true) ∧ Ext w w' := by
  have q := ltx_walk L s.data.toList w h hb hm ht hNl
  rw [← ba_mk s] at q
  exact q
end Go.Proofs.YtnhdmnhfllecgaaGreatDoor
/- Opening arguments: integers' bounds. -/
namespace Go.Proofs.YtnhdmnhfllecgaaGreatDoor
open Go.ChangeShapes Go.WideShapes Go.ChangeAt Go.RowKit

theorem i64_wf {n : Int} (h : (Lit.int .i64 n).wf = true) : -9223372036854775808 ≤ n ∧ n ≤ 9223372036854775807 := by
  simp only [Lit.wf, Bool.and_eq_true, decide_eq_true_eq] at h
  exact h
theorem u8_wf {n : Int} (h : (Lit.int .u8 n).wf = true) : 0 ≤ n ∧ n ≤ 255 := by
  simp only [Lit.wf, Bool.and_eq_true, decide_eq_true_eq] at h
  exact h
end Go.Proofs.YtnhdmnhfllecgaaGreatDoor
/- Opening arguments: locales, with the bound on what they hold. -/
namespace Go.Proofs.YtnhdmnhfllecgaaGreatDoor
open Go.ChangeShapes Go.WideShapes Go.ChangeAt Go.WideMaps Go.WideElems Go.RowKit
set_option linter.unusedVariables false

section
variable {H : Type}
theorem bulk_in {d : DataW H} {l : List (DataW H)} (h : d ∈ l) : Rows.uptoBulk d ≤ Rows.uptoBulkAll l := by
  induction l with
  | nil => cases h
  | cons x r ih =>
    simp only [Rows.uptoBulkAll]
    cases List.mem_cons.1 h with
    | inl e => subst e; omega
    | inr e => have := ih e; omega
theorem bulk_agg {d : DataW H} {l : List (DataW H)} (h : d ∈ l) : Rows.uptoBulk d ≤ Rows.uptoBulk (.agg l) := by
  have := bulk_in h
  simp only [Rows.uptoBulk]
  omega
theorem bulk_str (bytes : List UInt8) : bytes.length ≤ Rows.uptoBulk (DataW.lit (H := H) (.string bytes)) := by
  simp [Rows.uptoBulk]
end
theorem lcI : Tryz.prog.cellsOf 3 = 1 := by kernel_rfl
theorem lcS : Tryz.prog.cellsOf 9 = 1 := by kernel_rfl
theorem lcPl : Tryz.prog.cellsOf 50 = 2 := by kernel_rfl
theorem lcUn : Tryz.prog.cellsOf 53 = 2 := by kernel_rfl
theorem lcPs : Tryz.prog.cellsOf 27 = 1 := by kernel_rfl
theorem lcUs : Tryz.prog.cellsOf 28 = 1 := by kernel_rfl
theorem lc12 : Tryz.prog.cellsOf 22 = 12 := by kernel_rfl
theorem lc7 : Tryz.prog.cellsOf 23 = 7 := by kernel_rfl
theorem lc2 : Tryz.prog.cellsOf 24 = 2 := by kernel_rfl
theorem lcN : Tryz.prog.cellsOf 26 = 40 := by kernel_rfl
theorem lcL : Tryz.prog.cellsOf 30 = 45 := by kernel_rfl
section
variable {H : Type} {enc : TypeId × Value → H} {W : World} {base : Nat} {sp : Nat → Bool} {hd : Bool} {fuel : Nat}
theorem strsb_of {t : TypeId} {cs : List Value} {x : DataW H × List MemPlace} {n : Nat}
    (hu : Tryz.prog.underlying t = some (.array n 9)) (hc : Tryz.prog.cellsOf t = n) (h : DataW.trod enc Tryz.prog W base sp hd fuel t cs = some x) : ∃ ws : List (List UInt8), ws.length = n ∧ cs = sv ws ∧ ∀ s ∈ ws, s.length ≤ Rows.uptoBulk x.1 := by
  obtain ⟨xs, m, _, hx1, hl, hxl, hx⟩ := DataW.trod_array hu h
  rw [hc] at hl
  have each : ∀ i, i < n → ∃ s : ByteArray, cs[i]? = some (.string s) ∧ s.size ≤ Rows.uptoBulk x.1 := by
    intro i hi
    have h1 := hx i hi
    rw [lcS, Nat.mul_one] at h1
    have hix : i < xs.length := by omega
    rw [List.getElem?_eq_getElem hix] at h1
    obtain ⟨s, e, e3, hs⟩ := DataW.trod_string Tryz.underlying9 h1
    refine ⟨s, ?_, ?_⟩
    · have e2 : (List.take 1 (List.drop i cs))[0]? = some (.string s) := by rw [e]; rfl
      rw [List.getElem?_take_of_lt (by omega), List.getElem?_drop] at e2
      exact e2
    · have hm : (xs[i]).1 ∈ xs.map (·.1) := List.mem_map_of_mem (List.getElem_mem hix)
      have hb := bulk_agg hm
      have hs2 : (xs[i]).1 = .lit (.string s.data.toList) := by rw [e3]
      have hb2 := bulk_str (H := H) s.data.toList
      rw [← hs2] at hb2
      rw [hx1]
      have e4 : s.size = s.data.toList.length := by rw [Array.length_toList]; rfl
      rw [e4]
      exact Nat.le_trans hb2 hb
  haveI : Inhabited ByteArray := ⟨.empty⟩
  obtain ⟨f, hf⟩ := Go.Deep.choose_lt each
  refine ⟨(List.range n).map (fun i => (f i).data.toList), by simp, ?_, fun s hs => ?_⟩
  · apply List.ext_getElem?
    intro i
    by_cases hi : i < n
    · rw [(hf i hi).1]
      unfold sv
      simp [hi]
    · rw [List.getElem?_eq_none (by omega), List.getElem?_eq_none (by unfold sv; simp; omega)]
  · rw [List.mem_map] at hs
    obtain ⟨i, hi, rfl⟩ := hs
    have := (hf i (List.mem_range.1 hi)).2
    show (f i).data.toList.length ≤ _
    rw [Array.length_toList]
    exact this
theorem lcut1 (cs : List Value) (a n : Nat) : cs.drop a = (cs.drop a).take n ++ cs.drop (a + n) := by
  rw [← List.drop_drop, List.take_append_drop]
theorem lcut5 (cs : List Value) (h : cs.length = 40) : cs = (cs.drop 0).take 12 ++ ((cs.drop 12).take 12 ++ ((cs.drop 24).take 7 ++ ((cs.drop 31).take 7 ++ (cs.drop 38).take 2))) := by
  have h1 := lcut1 cs 0 12
  have h2 := lcut1 cs 12 12
  have h3 := lcut1 cs 24 7
  have h4 := lcut1 cs 31 7
  have h5 : (cs.drop 38).take 2 = cs.drop 38 := List.take_of_length_le (by rw [List.length_drop]; omega)
  rw [h5, ← h4, ← h3, ← h2, ← h1, List.drop_zero]
set_option maxRecDepth 100000 in
theorem names_of {cs : List Value} {x : DataW H × List MemPlace} (h : DataW.trod enc Tryz.prog W base sp hd fuel 26 cs = some x) :
    ∃ N : Nms, cs = sv N.all ∧ N.ok ∧ ∀ s ∈ N.all, s.length ≤ Rows.uptoBulk x.1 := by
  obtain ⟨xs, n, _, hx1, hl, hlen, hfs⟩ := DataW.trod_struct Tryz.underlying26 h
  match xs, hlen with
  | [y0, y1, y2, y3, y4], _ =>
    have h0 : DataW.trod enc Tryz.prog W base sp hd n 22 ((cs.drop 0).take (Tryz.prog.cellsOf 22)) = some y0 := hfs 0 _ rfl
    have h1 : DataW.trod enc Tryz.prog W base sp hd n 22 ((cs.drop 12).take (Tryz.prog.cellsOf 22)) = some y1 := hfs 1 _ rfl
    have h2 : DataW.trod enc Tryz.prog W base sp hd n 23 ((cs.drop 24).take (Tryz.prog.cellsOf 23)) = some y2 := hfs 2 _ rfl
    have h3 : DataW.trod enc Tryz.prog W base sp hd n 23 ((cs.drop 31).take (Tryz.prog.cellsOf 23)) = some y3 := hfs 3 _ rfl
    have h4 : DataW.trod enc Tryz.prog W base sp hd n 24 ((cs.drop 38).take (Tryz.prog.cellsOf 24)) = some y4 := hfs 4 _ rfl
    rw [lc12] at h0 h1
    rw [lc7] at h2 h3
    rw [lc2] at h4
    obtain ⟨a0, l0, e0, m0⟩ := strsb_of Tryz.underlying22 lc12 h0
    obtain ⟨a1, l1, e1, m1⟩ := strsb_of Tryz.underlying22 lc12 h1
    obtain ⟨a2, l2, e2, m2⟩ := strsb_of Tryz.underlying23 lc7 h2
    obtain ⟨a3, l3, e3, m3⟩ := strsb_of Tryz.underlying23 lc7 h3
    obtain ⟨a4, l4, e4, m4⟩ := strsb_of Tryz.underlying24 lc2 h4
    have hb : ∀ y, y ∈ [y0, y1, y2, y3, y4] → Rows.uptoBulk y.1 ≤ Rows.uptoBulk x.1 := fun y hy => by
      rw [hx1]
      exact bulk_agg (List.mem_map_of_mem hy)
    refine ⟨⟨a0, a1, a2, a3, a4⟩, ?_, ⟨l0, l1, l2, l3, l4⟩, fun s hs => ?_⟩
    · have hk := lcut5 cs (by rw [hl, lcN])
      rw [hk]
      unfold Nms.all sv
      simp only [List.map_append]
      unfold sv at e0 e1 e2 e3 e4
      rw [← e0, ← e1, ← e2, ← e3, ← e4]
    · unfold Nms.all at hs
      simp only [List.mem_append] at hs
      rcases hs with q | q | q | q | q
      · exact Nat.le_trans (m0 s q) (hb y0 (by simp))
      · exact Nat.le_trans (m1 s q) (hb y1 (by simp))
      · exact Nat.le_trans (m2 s q) (hb y2 (by simp))
      · exact Nat.le_trans (m3 s q) (hb y3 (by simp))
      · exact Nat.le_trans (m4 s q) (hb y4 (by simp))
theorem two_of {cs : List Value} {a b : Value} (hl : cs.length = 2) (e0 : List.take 1 (List.drop 0 cs) = [a]) (e1 : List.take 1 (List.drop 1 cs) = [b]) : cs = [a, b] := by
  match cs, hl with
  | [x0, x1], _ => simp at e0 e1; simp [e0, e1]
theorem ss_cells {cs : List Value} {x : DataW H × List MemPlace} (h : DataW.trod enc Tryz.prog W base sp hd fuel 50 cs = some x) : ∃ a b : ByteArray, cs = [.string a, .string b] ∧ a.size ≤ maxLen ∧ b.size ≤ maxLen := by
  obtain ⟨xs, n, _, _, hl, hlen, hf⟩ := DataW.trod_struct Tryz.underlying50 h
  match xs, hlen with
  | [y0, y1], _ =>
    have h0 : DataW.trod enc Tryz.prog W base sp hd n 9 ((cs.drop 0).take (Tryz.prog.cellsOf 9)) = some y0 := hf 0 _ rfl
    have h1 : DataW.trod enc Tryz.prog W base sp hd n 9 ((cs.drop 1).take (Tryz.prog.cellsOf 9)) = some y1 := hf 1 _ rfl
    rw [lcS] at h0 h1
    obtain ⟨a, e0, _, s0⟩ := DataW.trod_string Tryz.underlying9 h0
    obtain ⟨b, e1, _, s1⟩ := DataW.trod_string Tryz.underlying9 h1
    exact ⟨a, b, two_of (hl.trans lcPl) e0 e1, s0, s1⟩
set_option maxRecDepth 100000 in
theorem plus_of {cs : List Value} {x : DataW H × List MemPlace} (h : DataW.trod enc Tryz.prog W base sp hd fuel 27 cs = some x) :
    ∃ (l : List Plu) (ao : Option Addr) (cap : Nat), cs = [.slice ao l.length cap] ∧ PlV ao cap l W ∧ bgP l := by
  rcases Go.Deep.open_slice Tryz.underlying27 h with ⟨e, _⟩ | ⟨a, len, cap, m, n, D, Pl, e, hb, hlc, hm, hmm, _, hx⟩
  · exact ⟨[], none, 0, e, PlV.nil W, fun p hp => by cases hp⟩
  · have hlm : len ≤ m := by rw [hmm]; split <;> omega
    have each : ∀ i, i < len → ∃ q : Plu, W.cell? (a.add (i * 2)) = some (.string ⟨q.c.toArray⟩) ∧ W.cell? ((a.add (i * 2)).add 1) = some (.string ⟨q.r.toArray⟩) ∧ q.c.length ≤ 9223372036854775807 ∧ q.r.length ≤ 9223372036854775807 := by
      intro i hi
      obtain ⟨cs', h1, h2⟩ := hx i (by omega)
      rw [lcPl] at h1
      obtain ⟨_, hlen, hcell⟩ := World.cells?_some h1
      obtain ⟨s, t, rfl, s0, s1⟩ := ss_cells h2
      unfold maxLen at s0 s1
      refine ⟨⟨s.data.toList, t.data.toList⟩, ?_, ?_, ?_, ?_⟩
      · have := hcell 0 (by decide)
        simpa [Addr.add] using this
      · refine (hcell 1 (by decide)).trans ?_
        simp
      · show s.data.toList.length ≤ _
        rw [Array.length_toList]; exact s0
      · show t.data.toList.length ≤ _
        rw [Array.length_toList]; exact s1
    haveI : Inhabited Plu := ⟨⟨[], []⟩⟩
    obtain ⟨q, hq⟩ := Go.Deep.choose_lt each
    have hll : ((List.range len).map q).length = len := by simp
    refine ⟨(List.range len).map q, some a, cap, by rw [hll]; exact e, ⟨by rw [hll]; exact hlc, hm, fun hne => ?_⟩, fun p hp => ?_⟩
    · have hl0 : 0 < len := by
        rcases Nat.eq_zero_or_pos len with h0 | h0
        · rw [h0] at hne; simp at hne
        · exact h0
      obtain ⟨b, o, sp'⟩ := a
      have hsp : sp' = none := by
        have h1 := (hq 0 hl0).1
        simp only [Nat.zero_mul, Addr.add, if_true] at h1
        cases sp' with
        | none => rfl
        | some z =>
          exfalso
          unfold World.cell? at h1
          simp only [Option.isSome_some, if_true] at h1
          split at h1 <;> cases h1
      subst hsp
      have hadd : ∀ i j, ((⟨b, o, none⟩ : Addr).add i).add j = ⟨b, o + i + j, none⟩ := fun i j => by rw [Addr.add_mid, Addr.add_mid]
      refine ⟨b, o, rfl, World.block_lt_of_cell? W _ (hq 0 hl0).1, fun i hi => ?_⟩
      have hi' : i < len := by rw [hll] at hi; exact hi
      obtain ⟨h1, h2, _⟩ := hq i hi'
      rw [Addr.add_mid] at h1
      rw [hadd] at h2
      simp only [List.getElem_map, List.getElem_range]
      exact ⟨h1, h2⟩
    · obtain ⟨i, hi, rfl⟩ := List.mem_map.1 hp
      exact (hq i (List.mem_range.1 hi)).2.2
end
end Go.Proofs.YtnhdmnhfllecgaaGreatDoor
/- Opening arguments: units, whole locales. -/
namespace Go.Proofs.YtnhdmnhfllecgaaGreatDoor
open Go.ChangeShapes Go.WideShapes Go.ChangeAt Go.WideMaps Go.WideElems Go.RowKit
set_option linter.unusedVariables false

section
variable {H : Type} {enc : TypeId × Value → H} {W : World} {base : Nat} {sp : Nat → Bool} {hd : Bool} {fuel : Nat}
theorem is_cells {cs : List Value} {x : DataW H × List MemPlace} (h : DataW.trod enc Tryz.prog W base sp hd fuel 53 cs = some x) : ∃ u : Uni, cs = [.int .i64 u.s, .slice u.ao u.f.length u.cap] ∧ PlV u.ao u.cap u.f W ∧ bgP u.f := by
  obtain ⟨xs, n, _, _, hl, hlen, hf⟩ := DataW.trod_struct Tryz.underlying53 h
  match xs, hlen with
  | [y0, y1], _ =>
    have h0 : DataW.trod enc Tryz.prog W base sp hd n 3 ((cs.drop 0).take (Tryz.prog.cellsOf 3)) = some y0 := hf 0 _ rfl
    have h1 : DataW.trod enc Tryz.prog W base sp hd n 27 ((cs.drop 1).take (Tryz.prog.cellsOf 27)) = some y1 := hf 1 _ rfl
    rw [lcI] at h0
    rw [lcPs] at h1
    obtain ⟨s, e0, _⟩ := DataW.trod_int Tryz.underlying3 h0
    obtain ⟨l, ao, cap, e1, hp, hb⟩ := plus_of h1
    exact ⟨⟨s, ao, cap, l⟩, two_of (hl.trans lcUn) e0 e1, hp, hb⟩
set_option maxRecDepth 100000 in
theorem unis_of {cs : List Value} {x : DataW H × List MemPlace} (h : DataW.trod enc Tryz.prog W base sp hd fuel 28 cs = some x) :
    ∃ (l : List Uni) (ao : Option Addr) (cap : Nat), cs = [.slice ao l.length cap] ∧ UnV ao cap l W ∧ ∀ u ∈ l, bgP u.f := by
  rcases Go.Deep.open_slice Tryz.underlying28 h with ⟨e, _⟩ | ⟨a, len, cap, m, n, D, Pl, e, hb, hlc, hm, hmm, _, hx⟩
  · exact ⟨[], none, 0, e, ⟨Nat.le_refl _, by decide, fun h => absurd rfl h, fun u hu => by cases hu⟩, fun p hp => by cases hp⟩
  · have hlm : len ≤ m := by rw [hmm]; split <;> omega
    have each : ∀ i, i < len → ∃ q : Uni, W.cell? (a.add (i * 2)) = some (.int .i64 q.s) ∧ W.cell? ((a.add (i * 2)).add 1) = some (.slice q.ao q.f.length q.cap) ∧ PlV q.ao q.cap q.f W ∧ bgP q.f := by
      intro i hi
      obtain ⟨cs', h1, h2⟩ := hx i (by omega)
      rw [lcUn] at h1
      obtain ⟨_, hlen, hcell⟩ := World.cells?_some h1
      obtain ⟨u, rfl, hp, hg⟩ := is_cells h2
      refine ⟨u, ?_, ?_, hp, hg⟩
      · have := hcell 0 (by decide)
        simpa [Addr.add] using this
      · exact (hcell 1 (by decide)).trans rfl
    haveI : Inhabited Uni := ⟨⟨0, none, 0, []⟩⟩
    obtain ⟨q, hq⟩ := Go.Deep.choose_lt each
    have hll : ((List.range len).map q).length = len := by simp
    refine ⟨(List.range len).map q, some a, cap, by rw [hll]; exact e, ⟨by rw [hll]; exact hlc, hm, fun hne => ?_, fun p hp => ?_⟩, fun p hp => ?_⟩
    · have hl0 : 0 < len := by
        rcases Nat.eq_zero_or_pos len with h0 | h0
        · rw [h0] at hne; simp at hne
        · exact h0
      obtain ⟨b, o, sp'⟩ := a
      have hsp : sp' = none := by
        have h1 := (hq 0 hl0).1
        simp only [Nat.zero_mul, Addr.add, if_true] at h1
        cases sp' with
        | none => rfl
        | some z =>
          exfalso
          unfold World.cell? at h1
          simp only [Option.isSome_some, if_true] at h1
          split at h1 <;> cases h1
      subst hsp
      have hadd : ∀ i j, ((⟨b, o, none⟩ : Addr).add i).add j = ⟨b, o + i + j, none⟩ := fun i j => by rw [Addr.add_mid, Addr.add_mid]
      refine ⟨b, o, rfl, World.block_lt_of_cell? W _ (hq 0 hl0).1, fun i hi => ?_⟩
      have hi' : i < len := by rw [hll] at hi; exact hi
      obtain ⟨h1, h2, _⟩ := hq i hi'
      rw [Addr.add_mid] at h1
      rw [hadd] at h2
      simp only [List.getElem_map, List.getElem_range]
      exact ⟨h1, h2⟩
    · obtain ⟨i, hi, rfl⟩ := List.mem_map.1 hp
      exact (hq i (List.mem_range.1 hi)).2.2.1
    · obtain ⟨i, hi, rfl⟩ := List.mem_map.1 hp
      exact (hq i (List.mem_range.1 hi)).2.2.2
theorem lcut6 (cs : List Value) (h : cs.length = 45) : cs = (cs.drop 0).take 1 ++ ((cs.drop 1).take 40 ++ ((cs.drop 41).take 1 ++ ((cs.drop 42).take 1 ++ ((cs.drop 43).take 1 ++ (cs.drop 44).take 1)))) := by
  have h1 := lcut1 cs 0 1
  have h2 := lcut1 cs 1 40
  have h3 := lcut1 cs 41 1
  have h4 := lcut1 cs 42 1
  have h6 := lcut1 cs 43 1
  have h5 : (cs.drop 44).take 1 = cs.drop 44 := List.take_of_length_le (by rw [List.length_drop]; omega)
  rw [h5, ← h6, ← h4, ← h3, ← h2, ← h1, List.drop_zero]
set_option maxRecDepth 100000 in
theorem open_locale {r : Reach} {b0 : Nat} {v : Value} {d : DataW H} {p : List MemPlace} (hval : Value.okWide Tryz.prog W r b0 30 v) (h : DataW.Trod enc Tryz.prog W base sp hd 30 v d p) :
    ∃ L : Loc, v = .agg L.vals.toArray ∧ LcV L W ∧ bgL L ∧ ∀ s ∈ L.N.all, s.length ≤ Rows.uptoBulk d := by
  obtain ⟨cs0, rfl, _⟩ := okWide_struct Tryz.underlying30 hval
  obtain ⟨fuel, hf⟩ := h
  simp only [Value.cells] at hf
  obtain ⟨cs, hcs⟩ : ∃ cs, cs = cs0.toList := ⟨_, rfl⟩
  rw [← hcs] at hf
  obtain ⟨xs, n, _, hx1, hl, hlen, hfs⟩ := DataW.trod_struct Tryz.underlying30 hf
  match xs, hlen with
  | [y0, y1, y2, y3, y4, y5], _ =>
    have h0 : DataW.trod enc Tryz.prog W base sp hd n 9 ((cs.drop 0).take (Tryz.prog.cellsOf 9)) = some y0 := hfs 0 _ rfl
    have h1 : DataW.trod enc Tryz.prog W base sp hd n 26 ((cs.drop 1).take (Tryz.prog.cellsOf 26)) = some y1 := hfs 1 _ rfl
    have h2 : DataW.trod enc Tryz.prog W base sp hd n 27 ((cs.drop 41).take (Tryz.prog.cellsOf 27)) = some y2 := hfs 2 _ rfl
    have h3 : DataW.trod enc Tryz.prog W base sp hd n 27 ((cs.drop 42).take (Tryz.prog.cellsOf 27)) = some y3 := hfs 3 _ rfl
    have h4 : DataW.trod enc Tryz.prog W base sp hd n 28 ((cs.drop 43).take (Tryz.prog.cellsOf 28)) = some y4 := hfs 4 _ rfl
    have h5 : DataW.trod enc Tryz.prog W base sp hd n 9 ((cs.drop 44).take (Tryz.prog.cellsOf 9)) = some y5 := hfs 5 _ rfl
    rw [lcS] at h0 h5
    rw [lcN] at h1
    rw [lcPs] at h2 h3
    rw [lcUs] at h4
    obtain ⟨nm, e0, _, s0⟩ := DataW.trod_string Tryz.underlying9 h0
    obtain ⟨N, e1, hN, hNb⟩ := names_of h1
    obtain ⟨P, pa, pc, e2, hP, hPb⟩ := plus_of h2
    obtain ⟨O, oa, oc, e3, hO, hOb⟩ := plus_of h3
    obtain ⟨U, ua, uc, e4, hU, hUb⟩ := unis_of h4
    obtain ⟨pt, e5, _, s5⟩ := DataW.trod_string Tryz.underlying9 h5
    unfold maxLen at s0 s5
    refine ⟨⟨nm.data.toList, N, pa, pc, P, oa, oc, O, ua, uc, U, pt.data.toList⟩, ?_, ⟨hN, hP, hO, hU⟩, ⟨hPb, hOb, hUb, ?_, ?_⟩, fun s hs => ?_⟩
    · have hk := lcut6 cs (by rw [hl, lcL])
      have e : cs = Loc.vals ⟨nm.data.toList, N, pa, pc, P, oa, oc, O, ua, uc, U, pt.data.toList⟩ := by
        rw [hk, e0, e1, e2, e3, e4, e5]
        rfl
      rw [← e, hcs]
    · show nm.data.toList.length ≤ _
      rw [Array.length_toList]; exact s0
    · show pt.data.toList.length ≤ _
      rw [Array.length_toList]; exact s5
    · refine Nat.le_trans (hNb s hs) ?_
      have hd1 : d = .agg ([y0, y1, y2, y3, y4, y5].map (·.1)) := congrArg Prod.fst hx1
      rw [hd1]
      exact bulk_agg (List.mem_map_of_mem (f := (·.1)) (show y1 ∈ [y0, y1, y2, y3, y4, y5] by simp))
end
end Go.Proofs.YtnhdmnhfllecgaaGreatDoor
/- What the condition on the listed variables and the world's shape give the walks; that a world meets them (statements with a bound on the bulk). -/
namespace Go.Proofs.YtnhdmnhfllecgaaGreatDoor
open Go.ChangeShapes Go.WideShapes Go.ChangeAt Go.WideMaps Go.WideElems Go.RowKit

theorem own : ownKnob Tryz.prog.godebug = none := by kernel_rfl
theorem laidOut : laidOutB Tryz.prog = true := by kernel_rfl
def laidU : List (String × DataW Unit) := [("math/bits.deBruijn32tab", Rows.laid_math_bits_deBruijn32tab), ("math/bits.deBruijn64tab", Rows.laid_math_bits_deBruijn64tab), ("internal/strconv.uint64pow10", Rows.laid_internal_strconv_uint64pow10), ("unicode/utf8.acceptRanges", Rows.laid_unicode_utf8_acceptRanges), ("strconv.ErrRange", Rows.laid_strconv_ErrRange), ("strconv.ErrSyntax", Rows.laid_strconv_ErrSyntax), ("unicode/utf8.first", Rows.laid_unicode_utf8_first)]
theorem lm_of_shaped {W : World} (h : W.ShapedOpen Tryz.prog) : Lm W :=
  Go.Proofs.cell_of_shapedOpen_int (zero := #[.int .i64 0]) (t := 3) h (of_decide_eq_true (by kernel_rfl)) (by kernel_rfl) rfl (by kernel_rfl) (by kernel_rfl) Tryz.underlying3
theorem door_met (os : Os) (args : Array Value) : laidMetH Tryz.prog laidU ((World.laidAll Tryz.prog os laidU).forCall (fun _ _ => 0) ⟨#[], args, []⟩).memory := by
  rw [MakeChecks.laidMetH_plain _ _ _ (by kernel_rfl)]
  exact laidMet_laidAll _ (by kernel_rfl) (by kernel_rfl)
theorem door_shaped (os : Os) (args : Array Value) : ((World.laidAll Tryz.prog os laidU).forCall (fun _ _ => 0) ⟨#[], args, []⟩).Shaped Tryz.prog :=
  World.shaped_of_ZipB (by kernel_rfl) (by kernel_rfl)
theorem tPow : (Tryz.prog.globals[1]?).map (·.type) = some 174 := by kernel_rfl
theorem lt_of_cellU {w : World} {a : Addr} {v : Value} (h : w.cell? a = some v) : a.block < w.heap.size := World.block_lt_of_cell? w a h
theorem tab_of_laid {W : World} (h : laidMetH Tryz.prog laidU W) : TabW W := by
  rw [MakeChecks.laidMetH_plain _ _ _ (by kernel_rfl)] at h
  obtain ⟨ps, ⟨_, _, _, _, _, _, _, _, _, _, ⟨_, _, _, _, _, _, _, _, _, _, ⟨g2, t2, cs2, f2, p2, q2, hg2, ht2, hv2, hd2, _, _⟩, _⟩, _⟩, _⟩ := h
  obtain rfl := Option.some.inj (gPow.symm.trans hg2)
  obtain rfl := Option.some.inj (tPow.symm.trans ht2)
  have e2 : (Rows.laid_internal_strconv_uint64pow10 : DataW Unit) = Lib.tabData .u64 Lib.pow10Tab := by kernel_rfl
  rw [e2] at hd2
  have hcs := Lib.cells_of_tab Tryz.underlying174 Tryz.underlying155 (by kernel_rfl) (by kernel_rfl) hd2
  have hT : Lib.TabIs Tryz.prog W "internal/strconv.uint64pow10" .u64 Lib.pow10Tab := by
    unfold Lib.TabIs
    rw [hv2, ← hcs]
  exact ⟨hT, lt_of_cellU (hT.cell gPow 0 (by decide))⟩
section
variable {H : Type} {enc : TypeId × Value → H}
theorem witness_row_shaped {C : Checked} {os : Os} {f : FuncId} {fn : Func} {s : OpenSpec} {conds : List PathCond} {apart : Bool} {laid : List (String × DataW Unit)} (modest : Bool) (w0 : World) (args : Array Value) (hos : w0.os = os)
    (hsh : (w0.forCall (fun _ _ => 0) ⟨#[], args, []⟩).Shaped C.prog)
    (hok : Input.okWideB C.prog (w0.forCall (fun _ _ => 0) ⟨#[], args, []⟩) f ⟨#[], args, []⟩ = true)
    (hrow : s.preRow enc C.prog fn conds apart laid (w0.forCall (fun _ _ => 0) ⟨#[], args, []⟩).memory args) :
    ∃ (w : World) (tape : Tape) (i : Input), w.os = os ∧ (w.forCall tape i).Shaped C.prog ∧ i.vars = [] ∧ Input.okWide C.prog (w.forCall tape i) .any w.heap.size f i ∧
      s.preRow enc C.prog fn conds apart laid (w.forCall tape i).memory i.args ∧ ({ modest := modest } : Assume).holds C.prog (lone (Frame.enter C.prog f i.args .normal) [] (w.forCall tape i)) :=
  ⟨w0, fun _ _ => 0, ⟨#[], args, []⟩, hos, hsh, (Input.okWide_of_okWideB (base := 0) hok).1, (Input.okWide_of_okWideB hok).2, hrow, by
    simp only [Assume.holds]
    exact ⟨by simp, by simp, fun _ => Modest.zero, by simp, by simp⟩⟩
end
end Go.Proofs.YtnhdmnhfllecgaaGreatDoor
