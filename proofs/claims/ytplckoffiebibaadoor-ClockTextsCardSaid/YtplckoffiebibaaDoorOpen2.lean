/- Opening arguments: the structs of three and of six integers. -/
import Derived.Test.YtplckoffiebibaaDoorOpen
namespace Go.Proofs.YtplckoffiebibaaDoor
open Go.ChangeShapes Go.WideShapes Go.ChangeAt Go.WideMaps Go.WideElems Go.RowKit

theorem cI : Tryd.prog.cellsOf 3 = 1 := by kernel_rfl
theorem cT : Tryd.prog.cellsOf 23 = 3 := by kernel_rfl
theorem cD : Tryd.prog.cellsOf 42 = 3 := by kernel_rfl
theorem cM : Tryd.prog.cellsOf 44 = 6 := by kernel_rfl
theorem three {cs : List Value} {a b c : Value} (hl : cs.length = 3) (e0 : List.take 1 (List.drop 0 cs) = [a]) (e1 : List.take 1 (List.drop 1 cs) = [b]) (e2 : List.take 1 (List.drop 2 cs) = [c]) : cs = [a, b, c] := by
  match cs, hl with
  | [x0, x1, x2], _ => simp at e0 e1 e2; simp [e0, e1, e2]
theorem int3_cells {H : Type} {enc : TypeId × Value → H} {W : World} {base : Nat} {sp : Nat → Bool} {hd : Bool} {fuel : Nat} {t : TypeId} {cs : List Value} {x : DataW H × List MemPlace} {f0 f1 f2 : Field}
    (hu : Tryd.prog.underlying t = some (.struct #[f0, f1, f2])) (hc : Tryd.prog.cellsOf t = 3) (t0 : f0.type = 3) (t1 : f1.type = 3) (t2 : f2.type = 3) (o0 : f0.offset = 0) (o1 : f1.offset = 1) (o2 : f2.offset = 2)
    (h : DataW.trod enc Tryd.prog W base sp hd fuel t cs = some x) : ∃ a b c : Int, cs = [.int .i64 a, .int .i64 b, .int .i64 c] := by
  obtain ⟨xs, n, _, _, hl, hlen, hf⟩ := DataW.trod_struct hu h
  have h0 := hf 0 f0 rfl
  have h1 := hf 1 f1 rfl
  have h2 := hf 2 f2 rfl
  rw [t0, o0, cI] at h0
  rw [t1, o1, cI] at h1
  rw [t2, o2, cI] at h2
  match xs, hlen with
  | [y0, y1, y2], _ =>
    obtain ⟨a0, e0, _⟩ := DataW.trod_int Tryd.underlying3 (show DataW.trod _ Tryd.prog W _ _ _ n 3 _ = some y0 from h0)
    obtain ⟨a1, e1, _⟩ := DataW.trod_int Tryd.underlying3 (show DataW.trod _ Tryd.prog W _ _ _ n 3 _ = some y1 from h1)
    obtain ⟨a2, e2, _⟩ := DataW.trod_int Tryd.underlying3 (show DataW.trod _ Tryd.prog W _ _ _ n 3 _ = some y2 from h2)
    exact ⟨a0, a1, a2, three (hl.trans hc) e0 e1 e2⟩
set_option maxRecDepth 100000 in
theorem open_time {H : Type} {enc : TypeId × Value → H} {W : World} {r : Reach} {b0 base : Nat} {sp : Nat → Bool} {hd : Bool} {v : Value} {d : DataW H} {p : List MemPlace} (hval : Value.okWide Tryd.prog W r b0 23 v) (h : DataW.Trod enc Tryd.prog W base sp hd 23 v d p) :
    ∃ a b c : Int, v = .agg #[.int .i64 a, .int .i64 b, .int .i64 c] := by
  obtain ⟨cs, rfl, _⟩ := okWide_struct Tryd.underlying23 hval
  obtain ⟨fuel, hf⟩ := h
  obtain ⟨a, b, c, e⟩ := int3_cells Tryd.underlying23 cT rfl rfl rfl rfl rfl rfl hf
  simp only [Value.cells] at e
  exact ⟨a, b, c, by rw [← Array.toArray_toList (xs := cs), e]⟩
theorem six {cs : List Value} {a b c d e f : Value} (hl : cs.length = 6) (e0 : List.take 3 (List.drop 0 cs) = [a, b, c]) (e1 : List.take 3 (List.drop 3 cs) = [d, e, f]) : cs = [a, b, c, d, e, f] := by
  match cs, hl with
  | [x0, x1, x2, x3, x4, x5], _ => simp at e0 e1; simp [e0, e1]
set_option maxRecDepth 100000 in
theorem open_moment {H : Type} {enc : TypeId × Value → H} {W : World} {r : Reach} {b0 base : Nat} {sp : Nat → Bool} {hd : Bool} {v : Value} {d : DataW H} {p : List MemPlace} (hval : Value.okWide Tryd.prog W r b0 44 v) (h : DataW.Trod enc Tryd.prog W base sp hd 44 v d p) :
    ∃ y m d' a b c : Int, v = .agg #[.int .i64 y, .int .i64 m, .int .i64 d', .int .i64 a, .int .i64 b, .int .i64 c] := by
  obtain ⟨cs, rfl, _⟩ := okWide_struct Tryd.underlying44 hval
  obtain ⟨fuel, hf⟩ := h
  obtain ⟨xs, n, _, _, hl, hlen, hf⟩ := DataW.trod_struct Tryd.underlying44 hf
  have h0 := hf 0 _ rfl
  have h1 := hf 1 _ rfl
  match xs, hlen with
  | [y0, y1], _ =>
    obtain ⟨y, m, d, e0⟩ := int3_cells (t := 42) Tryd.underlying42 cD rfl rfl rfl rfl rfl rfl (show DataW.trod _ Tryd.prog W _ _ _ n 42 _ = some y0 from h0)
    obtain ⟨a, b, c, e1⟩ := int3_cells (t := 23) Tryd.underlying23 cT rfl rfl rfl rfl rfl rfl (show DataW.trod _ Tryd.prog W _ _ _ n 23 _ = some y1 from h1)
    have e := six (hl.trans cM) (by simpa [cD] using e0) (by simpa [cT] using e1)
    simp only [Value.cells] at e
    exact ⟨y, m, d, a, b, c, by rw [← Array.toArray_toList (xs := cs), e]⟩
end Go.Proofs.YtplckoffiebibaaDoor
