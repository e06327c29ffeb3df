/- What the condition on the listed variables gives the walks; that the door's own heap meets it. -/
import Derived.Test.YtplckoffiebibaaDoorDur
import Derived.ProofKit
import Derived.LaidMore
import Derived.OpenShut
import Derived.Stop.Joined
import Derived.Lib.LaidTab
namespace Go.Proofs.YtplckoffiebibaaDoor
open Go.ChangeShapes Go.WideShapes Go.ChangeAt Go.WideMaps Go.WideElems Go.RowKit

theorem own : ownKnob Tryd.prog.godebug = none := by kernel_rfl
theorem laidOut : laidOutB Tryd.prog = true := by kernel_rfl
def laidL : List (String × DataW Unit) := [("math/bits.deBruijn32tab", Rows.laid_math_bits_deBruijn32tab), ("math/bits.deBruijn64tab", Rows.laid_math_bits_deBruijn64tab), ("internal/strconv.uint64pow10", Rows.laid_internal_strconv_uint64pow10), ("civiltime/clock.units", Rows.laid_civiltime_clock_units)]
theorem door_met (os : Os) (args : Array Value) : laidMetH Tryd.prog laidL ((World.doorLaid Tryd.prog 400 os).forCall (fun _ _ => 0) ⟨#[], args, []⟩).memory :=
  laidMetH_of_parts3 (fuel := 8) (laidMet_of_run' 8 (by kernel_rfl) (by kernel_rfl)) (by kernel_rfl) (by kernel_rfl)
theorem gUnits : Tryd.prog.globalNamed "civiltime/clock.units" = some 0 := by kernel_rfl
theorem tUnits : (Tryd.prog.globals[0]?).map (·.type) = some 82 := by kernel_rfl
theorem tPow : (Tryd.prog.globals[4]?).map (·.type) = some 137 := by kernel_rfl
theorem lt_of_cell {w : World} {a : Addr} {v : Value} (h : w.cell? a = some v) : a.block < w.heap.size := by
  rcases Nat.lt_or_ge a.block w.heap.size with q | q
  · exact q
  · unfold World.cell? at h
    rw [Array.getElem?_eq_none q] at h
    cases h
theorem two_cells {cs : List Value} {a b : Value} (hl : cs.length = 2) (e0 : List.take 1 (List.drop 0 cs) = [a]) (e1 : List.take 1 (List.drop 1 cs) = [b]) : cs[0]? = some a ∧ cs[1]? = some b := by
  obtain ⟨x0, x1, rfl⟩ : ∃ x0 x1, cs = [x0, x1] := by
    match cs, hl with
    | [x0, x1], _ => exact ⟨x0, x1, rfl⟩
  simp at e0 e1
  exact ⟨by simp [e0], by simp [e1]⟩
theorem unit_cells {W : World} {enc : TypeId × Value → Unit} {fuel : Nat} {cs : List Value} {c u : Int} {p : List MemPlace} {base : Nat} {sp : Nat → Bool} {hd : Bool}
    (h : DataW.trod enc Tryd.prog W base sp hd fuel 81 cs = some (.agg [.lit (.int .u8 c), .lit (.int .i64 u)], p)) : cs[0]? = some (.int .u8 c) ∧ cs[1]? = some (.int .i64 u) := by
  obtain ⟨xs, n, _, hx, hl, hlen, hf⟩ := DataW.trod_struct Tryd.underlying81 h
  have c5 : Tryd.prog.cellsOf 5 = 1 := by kernel_rfl
  have c3 : Tryd.prog.cellsOf 3 = 1 := by kernel_rfl
  have c81 : Tryd.prog.cellsOf 81 = 2 := by kernel_rfl
  match xs, hlen, hx, hf with
  | [y0, y1], _, hx, hf =>
    have h0 := hf 0 _ rfl
    have h1 := hf 1 _ rfl
    simp only [Prod.mk.injEq, DataW.agg.injEq, List.map_cons, List.map_nil, List.cons.injEq] at hx
    obtain ⟨a0, e0, g0, _⟩ := DataW.trod_int Tryd.underlying5 (show DataW.trod _ Tryd.prog W _ _ _ n 5 _ = some y0 from h0)
    obtain ⟨a1, e1, g1, _⟩ := DataW.trod_int Tryd.underlying3 (show DataW.trod _ Tryd.prog W _ _ _ n 3 _ = some y1 from h1)
    rw [g0] at hx
    rw [g1] at hx
    simp at hx
    obtain ⟨⟨rfl, rfl⟩, _⟩ := hx
    rw [c81] at hl
    have e0 : List.take (Tryd.prog.cellsOf 5) (List.drop 0 cs) = [Value.int .u8 c] := e0
    have e1 : List.take (Tryd.prog.cellsOf 3) (List.drop 1 cs) = [Value.int .i64 u] := e1
    rw [c5] at e0
    rw [c3] at e1
    exact two_cells hl e0 e1
theorem of_laid {W : World} (h : laidMetH Tryd.prog laidL W) : Laid W := by
  rw [MakeChecks.laidMetH_plain _ _ _ (by kernel_rfl)] at h
  obtain ⟨ps, ⟨_, _, _, _, _, _, _, _, _, _, ⟨_, _, _, _, _, _, _, _, _, _, ⟨g2, t2, cs2, f2, p2, q2, hg2, ht2, hv2, hd2, ⟨g3, t3, cs3, f3, p3, q3, hg3, ht3, hv3, hd3, _, _⟩, _⟩, _⟩, _⟩, _⟩ := h
  obtain rfl := Option.some.inj (gPow.symm.trans hg2)
  obtain rfl := Option.some.inj (gUnits.symm.trans hg3)
  obtain rfl := Option.some.inj (tPow.symm.trans ht2)
  obtain rfl := Option.some.inj (tUnits.symm.trans ht3)
  have e2 : (Rows.laid_internal_strconv_uint64pow10 : DataW Unit) = Lib.tabData .u64 Lib.pow10Tab := by kernel_rfl
  rw [e2] at hd2
  have hcs := Lib.cells_of_tab Tryd.underlying137 Tryd.underlying108 (by kernel_rfl) (by kernel_rfl) hd2
  have hT : Lib.TabIs Tryd.prog W "internal/strconv.uint64pow10" .u64 Lib.pow10Tab := by
    unfold Lib.TabIs
    rw [hv2, ← hcs]
  have hp := hT.cell gPow 0 (by decide)
  obtain ⟨xs, m1, rfl, hx1, hlen, hn3, hel⟩ := DataW.trod_array Tryd.underlying82 hd3
  have c81 : Tryd.prog.cellsOf 81 = 2 := by kernel_rfl
  have c82 : Tryd.prog.cellsOf 82 = 8 := by kernel_rfl
  rw [c82] at hlen
  simp only [Rows.laid_civiltime_clock_units, Prod.mk.injEq, DataW.agg.injEq] at hx1
  have hcell := World.var?_cell hg3 hv3
  match xs, hn3, hx1, hel with
  | [x0, x1, x2, x3], _, hx1, hel =>
    simp only [List.map_cons, List.map_nil, List.cons.injEq] at hx1
    have u : ∀ (i : Nat) (x : DataW Unit × List MemPlace) (c s : Int), i < 4 → [x0, x1, x2, x3][i]? = some x → DataW.agg [.lit (.int .u8 c), .lit (.int .i64 s)] = x.1 →
        cs3[2 * i]? = some (.int .u8 c) ∧ cs3[2 * i + 1]? = some (.int .i64 s) := by
      intro i x c s hi hxi hd
      have h0 := hel i hi
      rw [hxi, c81] at h0
      have h1 := unit_cells (c := c) (u := s) (p := x.2) (h0.trans (by rw [hd]))
      rw [show i * 2 = 2 * i from by omega] at h1
      obtain ⟨ha, hb⟩ := h1
      rw [List.getElem?_take_of_lt (by omega), List.getElem?_drop] at ha hb
      exact ⟨by simpa using ha, by simpa using hb⟩
    obtain ⟨b0, b1⟩ := u 0 x0 68 86400 (by omega) rfl hx1.1.1
    obtain ⟨b2, b3⟩ := u 1 x1 72 3600 (by omega) rfl hx1.1.2.1
    obtain ⟨b4, b5⟩ := u 2 x2 77 60 (by omega) rfl hx1.1.2.2.1
    obtain ⟨b6, b7⟩ := u 3 x3 83 1 (by omega) rfl hx1.1.2.2.2.1
    have k0 := (hcell 0).trans b0
    exact ⟨hT, lt_of_cell hp, lt_of_cell k0, k0, (hcell 1).trans b1, (hcell 2).trans b2, (hcell 3).trans b3, (hcell 4).trans b4, (hcell 5).trans b5, (hcell 6).trans b6, (hcell 7).trans b7⟩
end Go.Proofs.YtplckoffiebibaaDoor
