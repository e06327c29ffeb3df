/- Contracts of strings.Builder's writing methods over this translation, with a frame fine enough for two builders side by side. After the kit's own proofs of these methods, turned to this translation (its copyCheck bears a refused statement on the way that is never taken). -/
import Derived.Test.YtplckoffiebibaaDoorBase
import Derived.Lib.Builder
import Derived.Lib.AppendStr
import Derived.Lib.UnsafeStr
import Derived.Lib.MakeNoZero
import Derived.Lib.Strings
import Derived.Laws.Externs
namespace Go.Proofs.YtplckoffiebibaaDoor
open Go.RowKit

/-- Outside S, and apart from what is new, the world w' is as w. -/
structure Frm (S : Nat → Prop) (w w' : World) : Prop where
  os : w'.os = w.os
  tape : w'.tape = w.tape
  output : w'.output = w.output
  size : w.heap.size ≤ w'.heap.size
  block : ∀ k, k < w.heap.size → ¬ S k → w'.heap[k]? = w.heap[k]?
theorem Frm.refl (S : Nat → Prop) (w : World) : Frm S w w := ⟨rfl, rfl, rfl, Nat.le_refl _, fun _ _ _ => rfl⟩
theorem Frm.trans {S : Nat → Prop} {a b c : World} (h : Frm S a b) (k : Frm S b c) : Frm S a c :=
  ⟨k.os.trans h.os, k.tape.trans h.tape, k.output.trans h.output, Nat.le_trans h.size k.size, fun i hi hs => (k.block i (Nat.lt_of_lt_of_le hi h.size) hs).trans (h.block i hi hs)⟩
theorem Frm.mono {S T : Nat → Prop} {a b : World} (h : Frm S a b) (hs : ∀ k, k < a.heap.size → S k → T k) : Frm T a b :=
  ⟨h.os, h.tape, h.output, h.size, fun i hi ht => h.block i hi fun q => ht (hs i hi q)⟩
theorem Frm.of_ext {S : Nat → Prop} {a b : World} (h : Ext a b) : Frm S a b := ⟨h.os, h.tape, h.output, h.size, fun i hi _ => h.block i hi⟩
theorem Frm.ext {S : Nat → Prop} {a b : World} (h : Frm S a b) (hs : ∀ k, S k → a.heap.size ≤ k) : Ext a b :=
  ⟨h.os, h.tape, h.output, h.size, fun i hi => h.block i hi fun q => by have := hs i q; omega⟩
theorem Frm.drewN {S : Nat → Prop} {a b : World} (h : Frm S a b) (n : Nat) : Frm S a (b.drewN n) := ⟨h.os, h.tape, h.output, h.size, h.block⟩
theorem Frm.drew {S : Nat → Prop} {a b : World} (h : Frm S a b) : Frm S a b.drew := ⟨h.os, h.tape, h.output, h.size, h.block⟩
theorem Frm.alloc {S : Nat → Prop} {a b : World} (h : Frm S a b) (o : Obj) : Frm S a (b.alloc o) :=
  h.trans (Frm.of_ext ((Ext.refl b).alloc o))
theorem Frm.setCell {S : Nat → Prop} {a b : World} (h : Frm S a b) {p : Addr} (hp : S p.block ∨ a.heap.size ≤ p.block) (u : Value) : Frm S a (b.setCell p u) :=
  ⟨h.os, h.tape, h.output, by simpa [World.setCell] using h.size, fun i hi hs => (Below.heap_setCell b p u i (by rintro rfl; rcases hp with q | q; exact hs q; omega)).trans (h.block i hi hs)⟩
theorem Frm.grown {S : Nat → Prop} {a b c : World} {row : Option Nat} (h : Frm S a b) (hg : b.grownBy c row) (hr : ∀ k, row = some k → S k ∨ a.heap.size ≤ k) : Frm S a c :=
  ⟨hg.os.trans h.os, hg.tape.trans h.tape, hg.output.trans h.output, Nat.le_trans h.size hg.size, fun i hi hs => (hg.block i (Nat.lt_of_lt_of_le hi h.size) (fun e => by rcases hr i e.symm with q | q; exact hs q; omega)).trans (h.block i hi hs)⟩

/-- The builder in block b holds the bytes bs; its row, if it has one, lies in a block from lo on and below hi. -/
def Bld (b lo hi : Nat) (bs : List Value) (w : World) : Prop :=
  b < lo ∧ lo ≤ w.heap.size ∧ ∃ p v, (p = .pointer none ∨ p = .pointer (some ⟨b, 0, none⟩)) ∧ w.heap[b]? = some (.cells #[p, v] 79 (0, 0)) ∧
    w.ownsRow lo 5 1 v bs.length bs ∧ ∀ k, v.ownBlock = some k → k < hi
theorem Bld.lt {b lo hi : Nat} {bs : List Value} {w : World} (h : Bld b lo hi bs w) : b < w.heap.size := by
  obtain ⟨h1, h2, _⟩ := h
  omega
theorem ownsRow_same {w w' : World} {base : Nat} {e : TypeId} {size : Nat} {v : Value} {n : Nat} {xs : List Value} (h : w.ownsRow base e size v n xs) (hk : ∀ k, v.ownBlock = some k → w'.heap[k]? = w.heap[k]?) : w'.ownsRow base e size v n xs := by
  refine ⟨h.1, ?_⟩
  rcases h.2 with h2 | ⟨g, cap, cur, hv, hb, hg, r⟩
  · exact .inl h2
  · exact .inr ⟨g, cap, cur, hv, hb, (hk g (by rw [hv]; rfl)).trans hg, r⟩
theorem Bld.keep {S : Nat → Prop} {b lo hi : Nat} {bs : List Value} {w w' : World} (h : Bld b lo hi bs w) (hf : Frm S w w') (hb : ¬ S b) (hr : ∀ k, lo ≤ k → k < hi → ¬ S k) : Bld b lo hi bs w' := by
  have hlt := h.lt
  obtain ⟨h1, h2, p, v, hp, hh, hown, hk⟩ := h
  refine ⟨h1, Nat.le_trans h2 hf.size, p, v, hp, (hf.block b hlt hb).trans hh, ownsRow_same hown fun k e => hf.block k (hown.lt k e).2 (hr k (hown.lt k e).1 (hk k e)), hk⟩
theorem Bld.ext {b lo hi : Nat} {bs : List Value} {w w' : World} (h : Bld b lo hi bs w) (hf : Ext w w') : Bld b lo hi bs w' :=
  h.keep (Frm.of_ext (S := fun _ => False) hf) (fun q => q) (fun _ _ _ q => q)
theorem Bld.new (w : World) (b lo hi : Nat) (hb : b < lo) (hl : lo ≤ w.heap.size) (h : w.heap[b]? = some (.cells #[.pointer none, .slice none 0 0] 79 (0, 0))) : Bld b lo hi [] w :=
  ⟨hb, hl, _, _, .inl rfl, h, World.ownsRow_nil _ _ _ _, fun k e => by cases e⟩
theorem Bld.widen {b lo hi hi' : Nat} {bs : List Value} {w : World} (h : Bld b lo hi bs w) (hh : hi ≤ hi') : Bld b lo hi' bs w := by
  obtain ⟨h1, h2, p, v, hp, hq, hown, hk⟩ := h
  exact ⟨h1, h2, p, v, hp, hq, hown, fun k e => Nat.lt_of_lt_of_le (hk k e) hh⟩
/-- With nothing written yet any block from lo on may come to hold the row. -/
theorem heap_set (w : World) (b i : Nat) (cs : Array Value) (t : TypeId) (u : Value) (h : w.heap[b]? = some (.cells cs t (0, 0))) : (w.setCell ⟨b, i, none⟩ u).heap[b]? = some (.cells (cs.setIfInBounds i u) t (0, 0)) := by
  simp [World.setCell, Array.getElem?_modify, h]

theorem sizeBuilder : (Tryd.prog.info? 79).map (·.size) = some 2 := by kernel_rfl
theorem liesBuilder : liesAt Tryd.prog Tryd.prog.depth 79 (2 / Tryd.prog.cellsOf 79) 0 79 1 = true := by kernel_rfl
theorem infoByte : (Tryd.prog.info? 5).map (fun i => (i.zero, i.size, i.bytes)) = some (some (.int .u8 0), 1, 1) := by kernel_rfl
theorem cellsByte : Tryd.prog.cellsOf 5 = 1 := by kernel_rfl

set_option maxHeartbeats 1000000 in
set_option maxRecDepth 100000 in
theorem cc_used (b : Nat) (w : World) (h0 : w.cell? ⟨b, 0, none⟩ = some (.pointer (some ⟨b, 0, none⟩))) :
    Calls Tryd.prog 81 #[.pointer (some ⟨b, 0, none⟩)] w fun e w' => e = .returned (.tuple #[]) ∧ w = w' := by
  obtain ⟨j, hj, _⟩ := Option.map_eq_some_iff.1 sizeBuilder
  go_enter Tryd.func81, Tryd.ntmps81
  go_wp2
  rw [Lib.run_neq_ptr_same w _ Tryd.underlying77 hj]
  go_wp2
  go_end0
  exact ⟨rfl, rfl⟩
set_option maxHeartbeats 1000000 in
set_option maxRecDepth 100000 in
theorem cc_fresh (b : Nat) (w : World) (h0 : w.cell? ⟨b, 0, none⟩ = some (.pointer none)) (hsh : w.shape? b = some (79, 2)) (hfz : w.frozen? ⟨b, 0, none⟩ = false) :
    Calls Tryd.prog 81 #[.pointer (some ⟨b, 0, none⟩)] w fun e w' => e = .returned (.tuple #[]) ∧ w.setCell ⟨b, 0, none⟩ (.pointer (some ⟨b, 0, none⟩)) = w' := by
  obtain ⟨j, hj, hjs⟩ := Option.map_eq_some_iff.1 sizeBuilder
  go_enter Tryd.func81, Tryd.ntmps81
  go_wp2
  rw [Lib.run_to_unsafe w ⟨b, 0, none⟩ Tryd.underlying77 Tryd.underlying112 hj (by rw [hjs]; decide) hsh (Nat.zero_lt_succ 1)]
  simp only [Result.andThen]
  rw [Oper.upon_value]
  go_wp2
  rw [run_callFunc_extern Tryd.func93 (by kernel_rfl) (by kernel_rfl) (by kernel_rfl) (e := Extern.AbiNoEscape.same) (by kernel_rfl)]
  rw [Lib.run_noEscape]
  simp only [Result.andThen]
  rw [Oper.upon_value]
  go_wp2
  rw [Lib.run_from_unsafe w ⟨b, 0, none⟩ Tryd.underlying112 Tryd.underlying77 hj hsh liesBuilder]
  simp only [Result.andThen]
  rw [Oper.upon_value]
  go_wp2
  go_end0
  exact ⟨rfl, rfl⟩

/-- The blocks that a write to the builder may turn. -/
def BS (b lo hi : Nat) : Nat → Prop := fun k => k = b ∨ (lo ≤ k ∧ k < hi)
theorem cc_c (b lo hi : Nat) (bs : List Value) (w : World) (h : Bld b lo hi bs w) :
    Calls Tryd.prog 81 #[.pointer (some ⟨b, 0, none⟩)] w fun e w' => e = .returned (.tuple #[]) ∧
      ∃ v, w'.heap[b]? = some (.cells #[.pointer (some ⟨b, 0, none⟩), v] 79 (0, 0)) ∧ w'.ownsRow lo 5 1 v bs.length bs ∧ (∀ k, v.ownBlock = some k → k < hi) ∧ Frm (BS b lo hi) w w' := by
  have hlt := h.lt
  obtain ⟨h1, h2, p, v, hp, hh, hown, hk⟩ := h
  rcases hp with rfl | rfl
  · refine (cc_fresh b w (by simp [World.cell?, hh]) (by simp [World.shape?, hh]) (by simp [World.frozen?, hh])).mono ?_
    rintro e w' ⟨rfl, rfl⟩
    exact ⟨rfl, v, heap_set w b 0 _ _ _ hh, ownsRow_setCell_below hown (a := ⟨b, 0, none⟩) h1 _, hk, (Frm.refl _ w).setCell (p := ⟨b, 0, none⟩) (.inl (.inl rfl)) _⟩
  · refine (cc_used b w (by simp [World.cell?, hh])).mono ?_
    rintro e w' ⟨rfl, rfl⟩
    exact ⟨rfl, v, hh, hown, hk, Frm.refl _ _⟩

set_option maxHeartbeats 2000000 in
set_option maxRecDepth 100000 in
theorem wbyte_c (b lo hi : Nat) (bs : List Value) (c : Int) (w : World) (h : Bld b lo hi bs w) (hlen : bs.length + 1 ≤ 140737488355328) :
    Calls Tryd.prog 55 #[.pointer (some ⟨b, 0, none⟩), .int .u8 c] w fun e w' => e = .returned .nilIface ∧ Bld b lo w'.heap.size (bs ++ [.int .u8 c]) w' ∧ Frm (BS b lo hi) w w' := by
  obtain ⟨i0, hi0, hz0, hz1, hz2⟩ := info_parts infoByte
  have hb0 := h.1
  have hl0 := h.2.1
  go_enter Tryd.func55, Tryd.ntmps55
  go_wp2_with (go_at_call 81; refine (cc_c b lo hi bs _ h).mono ?_)
  rintro e w1 ⟨rfl, v, hbk, hown, hkv, hf1⟩
  have hs1 := hf1.size
  have c0 : w1.cell? ⟨b, 0, none⟩ = some (.pointer (some ⟨b, 0, none⟩)) := by rw [Lib.cell_of_heap hbk]; rfl
  have c1 : w1.cell? ⟨b, 1, none⟩ = some v := by rw [Lib.cell_of_heap hbk]; rfl
  have hne : v.ownBlock ≠ some b := fun q => by have := (hown.lt b q).1; omega
  go_wp2_with (at_builtin; refine wpList_append_own _ rfl _ _ 59 rfl lo 5 i0 (.int .u8 0) 1 1 Tryd.underlying59 hi0 hz0 hz1 hz2 rfl (by decide) _ _ _ rfl (hown.alloc _) ⟨w1.heap.size, 0, none⟩ 1 1 [.int .u8 c] rfl rfl ?c1 ?c2 ?c3 ?c4 ?c5 ?_)
  case c1 =>
    intro j u hj
    match j, hj with
    | 0, hj => simp at hj; subst hj; simp [Addr.add]
  case c2 => intro u hu; simp at hu; subst hu; rfl
  case c3 => unfold maxLen; omega
  case c4 => omega
  case c5 => simp; omega
  intro v' w2 hown' hgrow _
  have hlt : b < w1.heap.size := by omega
  have hb2 : w2.heap[b]? = some (.cells #[.pointer (some ⟨b, 0, none⟩), v] 79 (0, 0)) := by
    rw [hgrow.block b (by simp; omega) (fun e => hne e.symm), Lib.alloc_old w1 _ b hlt]
    exact hbk
  have d0 : w2.cell? ⟨b, 0, none⟩ = some (.pointer (some ⟨b, 0, none⟩)) := by rw [Lib.cell_of_heap hb2]; rfl
  have d1 : w2.cell? ⟨b, 1, none⟩ = some v := by rw [Lib.cell_of_heap hb2]; rfl
  have f1 : w2.frozen? ⟨b, 1, none⟩ = false := Lib.frozen_of_heap hb2 1
  obtain ⟨g, cap, rfl⟩ : ∃ g cap, v' = .slice (some ⟨g, 0, none⟩) (bs.length + 1) cap := by
    rcases hown'.2 with ⟨_, h0⟩ | ⟨g, cap, cur, hv, _⟩
    · omega
    · exact ⟨g, cap, hv⟩
  have hsz := hgrow.size
  simp at hsz
  have hgl := (hown'.lt g rfl)
  go_wp2
  go_ret
  refine ⟨rfl, ⟨hb0, by simp [World.setCell]; omega, _, _, .inr rfl, heap_set w2 b 1 _ _ _ hb2, ownsRow_setCell_below (by simpa using hown') (a := ⟨b, 1, none⟩) hb0 _, fun k e => ?_⟩, ?_⟩
  · simp [Value.ownBlock] at e; subst e; simp [World.setCell]; exact hgl.2
  · refine Frm.setCell ?_ (p := ⟨b, 1, none⟩) (.inl (.inl rfl)) _
    refine (hf1.alloc _).grown hgrow (fun k e => .inl (.inr ⟨(hown.lt k e).1, hkv k e⟩))

set_option maxHeartbeats 2000000 in
set_option maxRecDepth 100000 in
theorem wstr_c (b lo hi : Nat) (bs : List Value) (s : ByteArray) (w : World) (h : Bld b lo hi bs w) (hlen : bs.length + s.size ≤ 140737488355328) :
    Calls Tryd.prog 53 #[.pointer (some ⟨b, 0, none⟩), .string s] w fun e w' => e = .returned (.tuple #[.int .i64 s.size, .nilIface]) ∧ Bld b lo w'.heap.size (bs ++ Lib.strCells s) w' ∧ Frm (BS b lo hi) w w' := by
  obtain ⟨i0, hi0, hz0, hz1, hz2⟩ := info_parts infoByte
  have hb0 := h.1
  have hl0 := h.2.1
  go_enter Tryd.func53, Tryd.ntmps53
  go_wp2_with (go_at_call 81; refine (cc_c b lo hi bs _ h).mono ?_)
  rintro e w1 ⟨rfl, v, hbk, hown, hkv, hf1⟩
  have hs1 := hf1.size
  have c0 : w1.cell? ⟨b, 0, none⟩ = some (.pointer (some ⟨b, 0, none⟩)) := by rw [Lib.cell_of_heap hbk]; rfl
  have c1 : w1.cell? ⟨b, 1, none⟩ = some v := by rw [Lib.cell_of_heap hbk]; rfl
  have hne : v.ownBlock ≠ some b := fun q => by have := (hown.lt b q).1; omega
  go_wp2_with (at_builtin; refine Lib.wpList_append_own_string _ rfl _ _ 59 9 rfl lo 5 i0 Tryd.underlying59 Tryd.underlying9 hi0 hz0 hz1 hz2 _ _ _ rfl hown s rfl ?c3 ?c4 ?c5 ?_)
  case c3 => unfold maxLen; omega
  case c4 => omega
  case c5 => omega
  intro v' w2 hown' hgrow _
  have hlt : b < w1.heap.size := by omega
  have hb2 : w2.heap[b]? = some (.cells #[.pointer (some ⟨b, 0, none⟩), v] 79 (0, 0)) := by
    rw [hgrow.block b hlt (fun e => hne e.symm)]
    exact hbk
  have d0 : w2.cell? ⟨b, 0, none⟩ = some (.pointer (some ⟨b, 0, none⟩)) := by rw [Lib.cell_of_heap hb2]; rfl
  have d1 : w2.cell? ⟨b, 1, none⟩ = some v := by rw [Lib.cell_of_heap hb2]; rfl
  have f1 : w2.frozen? ⟨b, 1, none⟩ = false := Lib.frozen_of_heap hb2 1
  obtain ⟨ao, n', cap, rfl⟩ : ∃ ao n' cap, v' = .slice ao n' cap := by
    rcases hown'.2 with ⟨hv, _⟩ | ⟨g, cap, cur, hv, _⟩
    · exact ⟨_, _, _, hv⟩
    · exact ⟨_, _, _, hv⟩
  have hsz := hgrow.size
  have hgl := hown'.lt
  go_wp2
  go_ret2
  refine ⟨rfl, ⟨hb0, by simp [World.setCell]; omega, _, _, .inr rfl, heap_set w2 b 1 _ _ _ hb2, ownsRow_setCell_below (by simpa [Lib.strCells_length] using hown') (a := ⟨b, 1, none⟩) hb0 _, fun k e => ?_⟩, ?_⟩
  · simp [World.setCell]; exact (hgl k e).2
  · refine Frm.setCell ?_ (p := ⟨b, 1, none⟩) (.inl (.inl rfl)) _
    exact hf1.grown hgrow (fun k e => .inl (.inr ⟨(hown.lt k e).1, hkv k e⟩))

theorem blen_c (b lo hi : Nat) (bs : List Value) (w : World) (h : Bld b lo hi bs w) :
    Calls Tryd.prog 56 #[.pointer (some ⟨b, 0, none⟩)] w fun e w' => e = .returned (.int .i64 bs.length) ∧ w = w' := by
  obtain ⟨h1, h2, p, v, hp, hbk, hown, hk⟩ := h
  obtain ⟨ao, cap, rfl⟩ : ∃ ao cap, v = .slice ao bs.length cap := by
    rcases hown.2 with ⟨hv, h0⟩ | ⟨g, cap, cur, hv, _⟩
    · exact ⟨none, 0, by rw [hv, h0]⟩
    · exact ⟨_, _, hv⟩
  have c1 : w.cell? ⟨b, 1, none⟩ = some (.slice ao bs.length cap) := by rw [Lib.cell_of_heap hbk]; rfl
  go_enter Tryd.func56, Tryd.ntmps56
  go_wp2
  go_ret
  exact ⟨rfl, rfl⟩

theorem frm_freeze {S : Nat → Prop} {a w : World} (h : Frm S a w) {p : Addr} (hp : S p.block) (n : Nat) : Frm S a (w.freeze p n) := by
  refine h.trans ?_
  unfold World.freeze
  split
  · exact Frm.refl _ _
  · refine ⟨rfl, rfl, rfl, by simp, fun i hi hs => ?_⟩
    show (w.heap.modify p.block _)[i]? = _
    rw [Array.getElem?_modify, if_neg]
    rintro rfl
    exact hs hp
end Go.Proofs.YtplckoffiebibaaDoor
