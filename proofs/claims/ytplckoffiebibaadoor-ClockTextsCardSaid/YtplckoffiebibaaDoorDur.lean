/- Durations: the walk of clock.Duration. -/
import Derived.Test.YtplckoffiebibaaDoorDec
import Derived.Test.YtplckoffiebibaaDoorBld2
import Derived.Test.YtplckoffiebibaaDoorClk3
import Derived.Test.YtplckoffiebibaaDoorShelf
import Derived.Lib.ItoaMem
namespace Go.Proofs.YtplckoffiebibaaDoor
open Go.RowKit

def prt (q : Nat) (c : UInt8) : List UInt8 := if q = 0 then [] else Lib.decDigits q ++ [c]
def tpr (n : Nat) : List UInt8 := prt (n / 3600 % 24) 72 ++ prt (n / 60 % 60) 77 ++ prt (n % 60) 83
def durP (n : Nat) : List UInt8 := [80] ++ prt (n / 86400) 68 ++ (if tpr n = [] then [] else 84 :: tpr n)
/-- The text of a duration. -/
def durT (n : Int) : List UInt8 := if lineB n = false then [] else if n = 0 then [80, 84, 48, 83] else (if n < 0 then [45] else []) ++ durP n.natAbs

theorem Ext.grow {a w : World} (h : Ext a w) (os : Array Obj) : Ext a (Go.Sort.grow w os) :=
  h.trans ⟨rfl, rfl, rfl, by simp [Go.Sort.grow], fun k hk => by show (w.heap ++ os)[k]? = _; rw [Array.getElem?_append_left hk]⟩
/-- What the walks take from memory: the table of powers of ten, the units. -/
def Laid (w : World) : Prop :=
  Lib.TabIs Tryd.prog w "internal/strconv.uint64pow10" .u64 Lib.pow10Tab ∧ 4 < w.heap.size ∧ 0 < w.heap.size ∧
  w.cell? ⟨0, 0, none⟩ = some (.int .u8 68) ∧ w.cell? ⟨0, 1, none⟩ = some (.int .i64 86400) ∧
  w.cell? ⟨0, 2, none⟩ = some (.int .u8 72) ∧ w.cell? ⟨0, 3, none⟩ = some (.int .i64 3600) ∧
  w.cell? ⟨0, 4, none⟩ = some (.int .u8 77) ∧ w.cell? ⟨0, 5, none⟩ = some (.int .i64 60) ∧
  w.cell? ⟨0, 6, none⟩ = some (.int .u8 83) ∧ w.cell? ⟨0, 7, none⟩ = some (.int .i64 1)
theorem gPow : Tryd.prog.globalNamed "internal/strconv.uint64pow10" = some 4 := by kernel_rfl
theorem Laid.ext {w w' : World} (h : Laid w) (hE : Ext w w') : Laid w' := by
  obtain ⟨h0, h1, h2, c0, c1, c2, c3, c4, c5, c6, c7⟩ := h
  exact ⟨var?_below hE gPow h1 h0, hE.lt h1, hE.lt h2, (hE.cells _ _ h2).trans c0, (hE.cells _ _ h2).trans c1, (hE.cells _ _ h2).trans c2, (hE.cells _ _ h2).trans c3,
    (hE.cells _ _ h2).trans c4, (hE.cells _ _ h2).trans c5, (hE.cells _ _ h2).trans c6, (hE.cells _ _ h2).trans c7⟩
theorem itoa_c (z : Int) (w : World) (h0 : 0 ≤ z) (h : z ≤ 9223372036854775807) (hL : Laid w) :
    Calls Tryd.prog 54 #[.int .i64 z] w fun e w' => e = .returned (.string ⟨(Lib.decDigits z.toNat).toArray⟩) ∧ Ext w w' := by
  obtain ⟨n, rfl⟩ := Int.eq_ofNat_of_zero_le h0
  refine (Tryd.strconv_Itoa (n : Int) (by omega) h w hL.1).mono ?_
  rintro e w' ⟨rfl, k, os, rfl⟩
  rw [Lib.itoa_nonneg]
  exact ⟨rfl, ((Ext.refl w).drewN k).grow os⟩
theorem bld0 (w : World) (b : Nat) (h : w.heap[b]? = some (.cells #[.pointer none, .slice none 0 0] 79 (0, 0))) (lo : Nat) (hb : b < lo) (hl : lo ≤ w.heap.size) : Bld b lo lo (Lib.byteCells []) w :=
  Bld.new w b lo lo hb hl h
theorem decDigits_len (n : Nat) (h : n < 18446744073709551616) : (Lib.decDigits n).length ≤ 20 := by rw [Lib.decDigits_length]; exact nDigits_20 n h

def fresh : Obj := .cells #[.pointer none, .slice none 0 0] 79 (0, 0)
def tk (n : Nat) : Nat → List UInt8
  | 0 => [] | 1 => [] | 2 => prt (n / 3600 % 24) 72 | 3 => prt (n / 3600 % 24) 72 ++ prt (n / 60 % 60) 77 | _ => tpr n
def remk (n : Nat) : Nat → Nat
  | 0 => n | 1 => n % 86400 | 2 => n % 3600 | 3 => n % 60 | _ => 0
/-- What holds after k units. -/
def DurR (n B k : Nat) (w : World) : Prop :=
  (k = 0 ∧ w.heap[B]? = some fresh ∧ w.heap[B + 1]? = some fresh ∧ B + 2 ≤ w.heap.size) ∨
  (1 ≤ k ∧ ∃ lo hi, B + 2 ≤ lo ∧ hi ≤ w.heap.size ∧ Bld B (B + 2) lo (Lib.byteCells (prt (n / 86400) 68)) w ∧ Bld (B + 1) lo hi (Lib.byteCells (tk n k)) w)
theorem byteCells_join (a b : List UInt8) (c : UInt8) (n : Int) (hn : n = c.toNat) : Lib.byteCells a ++ Lib.strCells ⟨b.toArray⟩ ++ [.int .u8 n] = Lib.byteCells (a ++ (b ++ [c])) := by
  rw [strCells_eq, hn, ← byteCells_one, ← byteCells_app, ← byteCells_app, List.append_assoc]
theorem prt_pos {q : Nat} (h : q ≠ 0) (c : UInt8) : prt q c = Lib.decDigits q ++ [c] := by unfold prt; rw [if_neg h]
theorem prt_zero (c : UInt8) : prt 0 c = [] := rfl
theorem prt_len (q : Nat) (c : UInt8) (h : q < 18446744073709551616) : (prt q c).length ≤ 21 := by
  unfold prt
  split
  · simp
  · have := decDigits_len q h
    simp; omega
theorem tk_len (n k : Nat) : (tk n k).length ≤ 63 := by
  have h1 := prt_len (n / 3600 % 24) 72 (by omega)
  have h2 := prt_len (n / 60 % 60) 77 (by omega)
  have h3 := prt_len (n % 60) 83 (by omega)
  unfold tk
  split <;> (try unfold tpr) <;> simp <;> omega
theorem tk_1 (n : Nat) : tk n (0 + 1) = [] := rfl
theorem tk_2 (n : Nat) : tk n (1 + 1) = tk n 1 ++ prt (n % 86400 / 3600) 72 := by
  show prt (n / 3600 % 24) 72 = [] ++ prt (n % 86400 / 3600) 72
  rw [show n % 86400 / 3600 = n / 3600 % 24 from by omega]; rfl
theorem tk_3 (n : Nat) : tk n (2 + 1) = tk n 2 ++ prt (n % 3600 / 60) 77 := by
  show prt (n / 3600 % 24) 72 ++ prt (n / 60 % 60) 77 = prt (n / 3600 % 24) 72 ++ prt (n % 3600 / 60) 77
  rw [show n % 3600 / 60 = n / 60 % 60 from by omega]
theorem tk_4 (n : Nat) : tk n (3 + 1) = tk n 3 ++ prt (n % 60 / 1) 83 := by
  show tpr n = _
  rw [show n % 60 / 1 = n % 60 from by omega]; rfl
theorem remk_1 (n : Nat) : remk n (0 + 1) = remk n 0 % 86400 := rfl
theorem remk_2 (n : Nat) : remk n (1 + 1) = remk n 1 % 3600 := by show n % 3600 = n % 86400 % 3600; omega
theorem remk_3 (n : Nat) : remk n (2 + 1) = remk n 2 % 60 := by show n % 60 = n % 3600 % 60; omega
theorem remk_4 (n : Nat) : remk n (3 + 1) = remk n 3 % 1 := by show 0 = n % 60 % 1; omega
theorem frm_far {b lo hi B : Nat} {a w w' : World} (hE : Ext a w) (h : Frm (BS b lo hi) w w') (hB : a.heap.size ≤ B) (hb : B ≤ b) (hl : B ≤ lo) : Ext a w' :=
  ⟨h.os.trans hE.os, h.tape.trans hE.tape, h.output.trans hE.output, Nat.le_trans hE.size h.size, fun k hk => (h.block k (Nat.lt_of_lt_of_le hk hE.size) (by unfold BS; omega)).trans (hE.block k hk)⟩
theorem Frm.cells {b lo hi : Nat} {w w' : World} (h : Frm (BS b lo hi) w w') {g : Nat} (hg : g < w.heap.size) (hb : g ≠ b) (hr : hi ≤ g ∨ g < lo) (o : Nat) : w'.cell? ⟨g, o, none⟩ = w.cell? ⟨g, o, none⟩ :=
  World.cell?_of_block (a := ⟨g, o, none⟩) (h.block g hg (by unfold BS; omega))
/-- The other builder and a part of the time go on. -/
theorem BS.mono {b lo hi hi' : Nat} {w w' : World} (h : Frm (BS b lo hi) w w') (hh : hi ≤ hi') : Frm (BS b lo hi') w w' := h.mono fun k _ q => by unfold BS at *; omega
theorem dur_next {n B k lo hi : Nat} {w w' : World} {T : List UInt8} (hlo : B + 2 ≤ lo) (h1 : Bld B (B + 2) lo (Lib.byteCells (prt (n / 86400) 68)) w) (hF : Frm (BS (B + 1) lo hi) w w')
    (h2 : Bld (B + 1) lo w'.heap.size (Lib.byteCells T) w') (hT : T = tk n (k + 1)) : DurR n B (k + 1) w' := by
  subst hT
  refine .inr ⟨by omega, lo, _, hlo, Nat.le_refl _, h1.keep hF (by unfold BS; omega) (by unfold BS; omega), h2⟩
theorem ui_0 (w : World) : (Instr.index 82 (.agg #[.int .u8 68, .int .i64 86400, .int .u8 72, .int .i64 3600, .int .u8 77, .int .i64 60, .int .u8 83, .int .i64 1]) (.int .i64 0)).run Tryd.prog w = .ok (.agg #[.int .u8 68, .int .i64 86400]) w := by kernel_rfl
theorem ui_1 (w : World) : (Instr.index 82 (.agg #[.int .u8 68, .int .i64 86400, .int .u8 72, .int .i64 3600, .int .u8 77, .int .i64 60, .int .u8 83, .int .i64 1]) (.int .i64 1)).run Tryd.prog w = .ok (.agg #[.int .u8 72, .int .i64 3600]) w := by kernel_rfl
theorem ui_2 (w : World) : (Instr.index 82 (.agg #[.int .u8 68, .int .i64 86400, .int .u8 72, .int .i64 3600, .int .u8 77, .int .i64 60, .int .u8 83, .int .i64 1]) (.int .i64 2)).run Tryd.prog w = .ok (.agg #[.int .u8 77, .int .i64 60]) w := by kernel_rfl
theorem ui_3 (w : World) : (Instr.index 82 (.agg #[.int .u8 68, .int .i64 86400, .int .u8 72, .int .i64 3600, .int .u8 77, .int .i64 60, .int .u8 83, .int .i64 1]) (.int .i64 3)).run Tryd.prog w = .ok (.agg #[.int .u8 83, .int .i64 1]) w := by kernel_rfl
/-- .. -/
theorem Frm.far {S : Nat → Prop} {a w w' : World} (hE : Ext a w) (h : Frm S w w') (hS : ∀ k, k < a.heap.size → ¬ S k) : Ext a w' :=
  ⟨h.os.trans hE.os, h.tape.trans hE.tape, h.output.trans hE.output, Nat.le_trans hE.size h.size, fun k hk => (h.block k (Nat.lt_of_lt_of_le hk hE.size) (hS k hk)).trans (hE.block k hk)⟩
set_option maxRecDepth 100000 in
set_option maxHeartbeats 2000000 in
theorem dur_pos (N : Nat) (w : World) (hL : Laid w) (h0 : 0 < N) (h1 : (N : Int) ≤ 4398046511104) :
    Calls Tryd.prog 31 #[.int .i64 ((N : Int))] w fun e w' => e = .returned (.string ⟨(([] : List UInt8) ++ durP N).toArray⟩) ∧ Ext w w' := by
  have HL := Lib.hid hL
  obtain ⟨_, _, _, c0, c1, c2, c3, c4, c5, c6, c7⟩ := hL
  have t1 : (((N : Int)) == 0) = false := by simp <;> omega
  have d1 : decide (4398046511104 < ((N : Int))) = false := by simp <;> omega
  have d2 : decide (((N : Int)) < -4398046511104) = false := by simp <;> omega
  have d3 : decide (((N : Int)) < 0) = false := by simp <;> omega
  go_enter Tryd.func31, Tryd.ntmps31
  go_wp2_with fail
  have hw0 : Ext w ((w.alloc (.cells #[.pointer none, .slice none 0 0] 79)).alloc (.cells #[.pointer none, .slice none 0 0] 79)) := ((Ext.refl w).alloc _).alloc _
  clear c0 c1 c2 c3 c4 c5 c6 c7
  obtain ⟨B, hBB⟩ : ∃ B, B = w.heap.size := ⟨_, rfl⟩
  have HB := Lib.hid hBB
  rw [← hBB]
  clear hBB
  go_loopw [0, 23] (fun s i wr => ∃ k r : Nat, k ≤ 4 ∧ i = .int .i64 (k : Int) ∧ s = .int .i64 (r : Int) ∧ Hid (r = remk N k) ∧ DurR N B k wr ∧ Ext w wr) (fun _ i _ => (4 - intOf i).toNat)
  case atStart =>
    refine ⟨0, N, by omega, rfl, rfl, rfl, .inl ⟨rfl, ?_, ?_, ?_⟩, hw0⟩
    · rw [HB.out]
      show ((w.heap.push _).push _)[w.heap.size]? = _
      simp only [Array.getElem?_push, Array.size_push]; rw [if_neg (by omega), if_pos trivial]; rfl
    · rw [HB.out]
      show ((w.heap.push _).push _)[w.heap.size + 1]? = _
      simp only [Array.getElem?_push, Array.size_push]; rw [if_pos trivial]; rfl
    · rw [HB.out]; simp
  case round =>
    obtain ⟨k, r, hk, rfl, rfl, Hr, hD, hEr⟩ := hrel
    have hLr := Lib.hid (HL.out.ext hEr)
    rcases (show k = 0 ∨ k = 1 ∨ k = 2 ∨ k = 3 ∨ k = 4 by omega) with rfl | rfl | rfl | rfl | rfl
    · obtain rfl : r = N := Hr.out
      obtain ⟨hf0, hf1, hsz⟩ : wr.heap[B]? = some fresh ∧ wr.heap[B + 1]? = some fresh ∧ B + 2 ≤ wr.heap.size := by
        rcases hD with ⟨_, a, b, c⟩ | ⟨hk1, _⟩
        · exact ⟨a, b, c⟩
        · omega
      by_cases hq : r / 86400 = 0
      · have t2 : ((r : Int) / 86400 == 0) = true := by simp; omega
        have hui := ui_0
        have Hq := Lib.hid hq
        clear hq
        go_wp2_with fail
        go_roundw
        case rel =>
          refine ⟨0 + 1, r % 86400, by omega, rfl, by congr 1, by rw [Hid, remk_1]; rfl, .inr ⟨by omega, wr.heap.size, wr.heap.size, by omega, by simp, ?_, ?_⟩, hEr.alloc _⟩
          · rw [Hq.out]
            exact (bld0 wr B hf0 (B + 2) (by omega) hsz).ext ((Ext.refl _).alloc _) |>.widen hsz
          · exact (bld0 wr (B + 1) hf1 wr.heap.size (by omega) (Nat.le_refl _)).ext ((Ext.refl _).alloc _)
        case measure => simp [intOf]
      · have t2 : ((r : Int) / 86400 == 0) = false := by simp; omega
        have hq2 : ((r : Int) / 86400).toNat = r / 86400 := by omega
        have Hq := Lib.hid hq
        clear hq
        have hdl := decDigits_len (r / 86400) (by omega)
        have hui := ui_0
        have hBd := bld0 wr B hf0 (B + 2) (by omega) hsz
        have hne : wr.heap.size ≠ B := by omega
        go_wp2_with (first
          | (go_at_call 54; refine (itoa_c _ _ (by omega) (by omega) (hLr.out.ext ((Ext.refl _).alloc _))).mono ?_; rintro e w1 ⟨rfl, hE1⟩; have hEa := Lib.hid (((Ext.refl wr).alloc (.cells #[.int .u8 68, .int .i64 86400] 81)).trans hE1))
          | (go_at_call 53; refine (wstr_c B (B + 2) (B + 2) _ _ _ (hBd.ext hEa.out) (by rw [Lib.byteCells_length]; show _ + (Lib.decDigits _).toArray.size ≤ _; simp only [List.size_toArray, List.length_nil]; omega)).mono ?_; rintro e w2 ⟨rfl, hB2, hF2⟩;
             have hu0 : w2.cell? ⟨wr.heap.size, 0, none⟩ = some (.int .u8 68) := (by rw [hF2.cells (by have := hE1.size; simp at this; omega) (by omega) (by omega), hE1.cells _ _ (by simp)]; simp))
          | (go_at_call 55; refine (wbyte_c B (B + 2) _ _ _ _ hB2 (by rw [List.length_append, Lib.byteCells_length, Lib.strCells_length]; show _ + (Lib.decDigits _).toArray.size + 1 ≤ _; simp only [List.size_toArray, List.length_nil]; omega)).mono ?_; rintro e w3 ⟨rfl, hB3, hF3⟩))
        have hH : B + 2 ≤ w2.heap.size := Nat.le_trans hsz (Nat.le_trans hEa.out.size hF2.size)
        have hFF := (Frm.of_ext (S := BS B (B + 2) w2.heap.size) hEa.out).trans ((BS.mono hF2 hH).trans hF3)
        rw [byteCells_join _ _ 68 68 rfl] at hB3
        try rw [hq2] at hB3
        rw [List.nil_append, ← prt_pos Hq.out 68] at hB3
        go_roundw
        case rel =>
          refine ⟨0 + 1, r % 86400, by omega, rfl, by congr 1, by rw [Hid, remk_1]; rfl, .inr ⟨by omega, w3.heap.size, w3.heap.size, ?_, Nat.le_refl _, hB3, ?_⟩, frm_far hEr hFF (B := B) (by rw [HB.out]; exact Nat.le_refl _) (by omega) (by omega)⟩
          · exact Nat.le_trans hsz hFF.size
          · have : w3.heap[B + 1]? = some fresh := by rw [hFF.block (B + 1) (by omega) (by unfold BS; omega)]; exact hf1
            exact bld0 w3 (B + 1) this w3.heap.size (by have := hFF.size; omega) (Nat.le_refl _)
        case measure => simp [intOf]
    · have hr : r < 86400 := by rw [Hr.out]; exact Nat.mod_lt _ (by decide)
      rcases hD with ⟨hk0, _⟩ | ⟨_, lo, hi, hlo, hhs, hBd, hBt⟩
      · omega
      have hhi := hBt.2.1
      have hltb := hBt.lt
      by_cases hq : r / 3600 = 0
      · have t2 : ((r : Int) / 3600 == 0) = true := by simp; omega
        have hui := ui_1
        have Hq := Lib.hid hq
        clear hq
        go_wp2_with fail
        go_roundw
        case rel =>
          refine ⟨1 + 1, r % 3600, by omega, rfl, by congr 1, by rw [Hid, remk_2, ← Hr.out], .inr ⟨by omega, lo, hi, hlo, by simp; omega, hBd.ext ((Ext.refl _).alloc _), ?_⟩, hEr.alloc _⟩
          rw [tk_2]
          have e : remk N 1 / 3600 = 0 := by rw [← Hr.out]; have := Hq.out; omega
          change Bld (B + 1) lo hi (Lib.byteCells (tk N 1 ++ prt (remk N 1 / 3600) 72)) _
          rw [e, prt_zero, List.append_nil]
          exact hBt.ext ((Ext.refl _).alloc _)
        case measure => simp [intOf]
      · have t2 : ((r : Int) / 3600 == 0) = false := by simp; omega
        have hq2 : ((r : Int) / 3600).toNat = r / 3600 := by omega
        have Hq := Lib.hid hq
        clear hq
        have hlen := tk_len N 1
        have hdl := decDigits_len (r / 3600) (by omega)
        have hui := ui_1
        go_wp2_with (first
          | (go_at_call 54; refine (itoa_c _ _ (by omega) (by omega) (hLr.out.ext ((Ext.refl _).alloc _))).mono ?_; rintro e w1 ⟨rfl, hE1⟩; have hEa := Lib.hid (((Ext.refl wr).alloc (.cells #[.int .u8 72, .int .i64 3600] 81)).trans hE1))
          | (go_at_call 53; refine (wstr_c (B + 1) lo hi _ _ _ (hBt.ext hEa.out) (by rw [Lib.byteCells_length]; show _ + (Lib.decDigits _).toArray.size ≤ _; simp only [List.size_toArray]; omega)).mono ?_; rintro e w2 ⟨rfl, hB2, hF2⟩;
             have hu0 : w2.cell? ⟨wr.heap.size, 0, none⟩ = some (.int .u8 72) := (by rw [hF2.cells (by have := hE1.size; simp at this; omega) (by omega) (by omega), hE1.cells _ _ (by simp)]; simp))
          | (go_at_call 55; refine (wbyte_c (B + 1) lo _ _ _ _ hB2 (by rw [List.length_append, Lib.byteCells_length, Lib.strCells_length]; show _ + (Lib.decDigits _).toArray.size + 1 ≤ _; simp only [List.size_toArray]; omega)).mono ?_; rintro e w3 ⟨rfl, hB3, hF3⟩))
        have hH : hi ≤ w2.heap.size := Nat.le_trans hhs (Nat.le_trans hEa.out.size hF2.size)
        have hFF := (Frm.of_ext (S := BS (B + 1) lo w2.heap.size) hEa.out).trans ((BS.mono hF2 hH).trans hF3)
        rw [byteCells_join _ _ 72 72 rfl] at hB3
        try rw [hq2] at hB3
        rw [← prt_pos Hq.out 72] at hB3
        go_roundw
        case rel => exact ⟨1 + 1, r % 3600, by omega, rfl, by congr 1, by rw [Hid, remk_2, ← Hr.out], dur_next hlo hBd hFF hB3 (by rw [tk_2]; show _ = tk N 1 ++ prt (remk N 1 / 3600) 72; rw [← Hr.out]; try rw [Nat.div_one]), frm_far hEr hFF (B := B) (by rw [HB.out]; exact Nat.le_refl _) (by omega) (by omega)⟩
        case measure => simp [intOf]
    · have hr : r < 3600 := by rw [Hr.out]; exact Nat.mod_lt _ (by decide)
      rcases hD with ⟨hk0, _⟩ | ⟨_, lo, hi, hlo, hhs, hBd, hBt⟩
      · omega
      have hhi := hBt.2.1
      have hltb := hBt.lt
      by_cases hq : r / 60 = 0
      · have t2 : ((r : Int) / 60 == 0) = true := by simp; omega
        have hui := ui_2
        have Hq := Lib.hid hq
        clear hq
        go_wp2_with fail
        go_roundw
        case rel =>
          refine ⟨2 + 1, r % 60, by omega, rfl, by congr 1, by rw [Hid, remk_3, ← Hr.out], .inr ⟨by omega, lo, hi, hlo, by simp; omega, hBd.ext ((Ext.refl _).alloc _), ?_⟩, hEr.alloc _⟩
          rw [tk_3]
          have e : remk N 2 / 60 = 0 := by rw [← Hr.out]; have := Hq.out; omega
          change Bld (B + 1) lo hi (Lib.byteCells (tk N 2 ++ prt (remk N 2 / 60) 77)) _
          rw [e, prt_zero, List.append_nil]
          exact hBt.ext ((Ext.refl _).alloc _)
        case measure => simp [intOf]
      · have t2 : ((r : Int) / 60 == 0) = false := by simp; omega
        have hq2 : ((r : Int) / 60).toNat = r / 60 := by omega
        have Hq := Lib.hid hq
        clear hq
        have hlen := tk_len N 2
        have hdl := decDigits_len (r / 60) (by omega)
        have hui := ui_2
        go_wp2_with (first
          | (go_at_call 54; refine (itoa_c _ _ (by omega) (by omega) (hLr.out.ext ((Ext.refl _).alloc _))).mono ?_; rintro e w1 ⟨rfl, hE1⟩; have hEa := Lib.hid (((Ext.refl wr).alloc (.cells #[.int .u8 77, .int .i64 60] 81)).trans hE1))
          | (go_at_call 53; refine (wstr_c (B + 1) lo hi _ _ _ (hBt.ext hEa.out) (by rw [Lib.byteCells_length]; show _ + (Lib.decDigits _).toArray.size ≤ _; simp only [List.size_toArray]; omega)).mono ?_; rintro e w2 ⟨rfl, hB2, hF2⟩;
             have hu0 : w2.cell? ⟨wr.heap.size, 0, none⟩ = some (.int .u8 77) := (by rw [hF2.cells (by have := hE1.size; simp at this; omega) (by omega) (by omega), hE1.cells _ _ (by simp)]; simp))
          | (go_at_call 55; refine (wbyte_c (B + 1) lo _ _ _ _ hB2 (by rw [List.length_append, Lib.byteCells_length, Lib.strCells_length]; show _ + (Lib.decDigits _).toArray.size + 1 ≤ _; simp only [List.size_toArray]; omega)).mono ?_; rintro e w3 ⟨rfl, hB3, hF3⟩))
        have hH : hi ≤ w2.heap.size := Nat.le_trans hhs (Nat.le_trans hEa.out.size hF2.size)
        have hFF := (Frm.of_ext (S := BS (B + 1) lo w2.heap.size) hEa.out).trans ((BS.mono hF2 hH).trans hF3)
        rw [byteCells_join _ _ 77 77 rfl] at hB3
        try rw [hq2] at hB3
        rw [← prt_pos Hq.out 77] at hB3
        go_roundw
        case rel => exact ⟨2 + 1, r % 60, by omega, rfl, by congr 1, by rw [Hid, remk_3, ← Hr.out], dur_next hlo hBd hFF hB3 (by rw [tk_3]; show _ = tk N 2 ++ prt (remk N 2 / 60) 77; rw [← Hr.out]; try rw [Nat.div_one]), frm_far hEr hFF (B := B) (by rw [HB.out]; exact Nat.le_refl _) (by omega) (by omega)⟩
        case measure => simp [intOf]
    · have hr : r < 60 := by rw [Hr.out]; exact Nat.mod_lt _ (by decide)
      rcases hD with ⟨hk0, _⟩ | ⟨_, lo, hi, hlo, hhs, hBd, hBt⟩
      · omega
      have hhi := hBt.2.1
      have hltb := hBt.lt
      by_cases hq : r = 0
      · have t2 : ((r : Int) == 0) = true := by simp; omega
        have hui := ui_3
        have Hq := Lib.hid hq
        clear hq
        go_wp2_with fail
        go_roundw
        case rel =>
          refine ⟨3 + 1, r % 1, by omega, rfl, by congr 1; omega, by rw [Hid, remk_4, ← Hr.out], .inr ⟨by omega, lo, hi, hlo, by simp; omega, hBd.ext ((Ext.refl _).alloc _), ?_⟩, hEr.alloc _⟩
          rw [tk_4]
          have e : remk N 3 / 1 = 0 := by rw [← Hr.out]; have := Hq.out; omega
          change Bld (B + 1) lo hi (Lib.byteCells (tk N 3 ++ prt (remk N 3 / 1) 83)) _
          rw [e, prt_zero, List.append_nil]
          exact hBt.ext ((Ext.refl _).alloc _)
        case measure => simp [intOf]
      · have t2 : ((r : Int) == 0) = false := by simp; omega
        have hq2 : ((r : Int)).toNat = r := by omega
        have Hq := Lib.hid hq
        clear hq
        have hlen := tk_len N 3
        have hdl := decDigits_len (r) (by omega)
        have hui := ui_3
        go_wp2_with (first
          | (go_at_call 54; refine (itoa_c _ _ (by omega) (by omega) (hLr.out.ext ((Ext.refl _).alloc _))).mono ?_; rintro e w1 ⟨rfl, hE1⟩; have hEa := Lib.hid (((Ext.refl wr).alloc (.cells #[.int .u8 83, .int .i64 1] 81)).trans hE1))
          | (go_at_call 53; refine (wstr_c (B + 1) lo hi _ _ _ (hBt.ext hEa.out) (by rw [Lib.byteCells_length]; show _ + (Lib.decDigits _).toArray.size ≤ _; simp only [List.size_toArray]; omega)).mono ?_; rintro e w2 ⟨rfl, hB2, hF2⟩;
             have hu0 : w2.cell? ⟨wr.heap.size, 0, none⟩ = some (.int .u8 83) := (by rw [hF2.cells (by have := hE1.size; simp at this; omega) (by omega) (by omega), hE1.cells _ _ (by simp)]; simp))
          | (go_at_call 55; refine (wbyte_c (B + 1) lo _ _ _ _ hB2 (by rw [List.length_append, Lib.byteCells_length, Lib.strCells_length]; show _ + (Lib.decDigits _).toArray.size + 1 ≤ _; simp only [List.size_toArray]; omega)).mono ?_; rintro e w3 ⟨rfl, hB3, hF3⟩))
        have hH : hi ≤ w2.heap.size := Nat.le_trans hhs (Nat.le_trans hEa.out.size hF2.size)
        have hFF := (Frm.of_ext (S := BS (B + 1) lo w2.heap.size) hEa.out).trans ((BS.mono hF2 hH).trans hF3)
        rw [byteCells_join _ _ 83 83 rfl] at hB3
        try rw [hq2] at hB3
        rw [← prt_pos Hq.out 83] at hB3
        go_roundw
        case rel => exact ⟨3 + 1, r % 1, by omega, rfl, by congr 1; omega, by rw [Hid, remk_4, ← Hr.out], dur_next hlo hBd hFF hB3 (by rw [tk_4]; show _ = tk N 3 ++ prt (remk N 3 / 1) 83; rw [← Hr.out]; try rw [Nat.div_one]), frm_far hEr hFF (B := B) (by rw [HB.out]; exact Nat.le_refl _) (by omega) (by omega)⟩
        case measure => simp [intOf]
    · rcases hD with ⟨hk0, _⟩ | ⟨_, lo, hi, hlo, hhs, hBd, hBt⟩
      · omega
      have hl1 := prt_len (N / 86400) 68 (by omega)
      have hl2 := tk_len N 4
      have hl3 : (tpr N).length ≤ 63 := hl2
      by_cases ht : tpr N = []
      · have t2 : (((Lib.byteCells (tk N 4)).length : Int) == 0) = true := by rw [show tk N 4 = tpr N from rfl, ht]; rfl
        have Hfin : Hid (durP N = [80] ++ prt (N / 86400) 68) := by unfold Hid durP; rw [if_pos ht, List.append_nil]
        clear ht
        go_wp2_with (first
          | (go_at_call 56; refine (blen_c _ _ _ _ _ hBt).mono ?_; rintro e w1 ⟨rfl, rfl⟩)
          | (go_at_call 57; refine (bstr_c B _ _ _ _ hBd).mono ?_; rintro e w2 ⟨rfl, hF2⟩))
        go_ret
        exact ⟨ret_s (by rw [Hfin.out]; apply ByteArray.ext; simp), Frm.far hEr hF2 (by intro k hk; have := HB.out; omega)⟩
      · have t2 : (((Lib.byteCells (tk N 4)).length : Int) == 0) = false := by rw [show tk N 4 = tpr N from rfl, Lib.byteCells_length]; simp; exact ht
        have Hfin : Hid (durP N = [80] ++ prt (N / 86400) 68 ++ (84 :: tpr N)) := by unfold Hid durP; rw [if_neg ht]
        clear ht
        go_wp2_with (first
          | (go_at_call 56; refine (blen_c _ _ _ _ _ hBt).mono ?_; rintro e w1 ⟨rfl, rfl⟩)
          | (go_at_call 57; (with_reducible refine (bstr_c B _ _ _ _ hBd).mono ?_); rintro e w2 ⟨rfl, hF2⟩)
          | (go_at_call 57; (with_reducible refine (bstr_c (B + 1) _ _ _ _ (hBt.keep hF2 (by omega) (by omega))).mono ?_); rintro e w3 ⟨rfl, hF3⟩))
        go_ret
        exact ⟨ret_s (by rw [Hfin.out]; apply ByteArray.ext; simp; rfl), Frm.far (Frm.far hEr hF2 (by intro k hk; have := HB.out; omega)) hF3 (by intro k hk; have := HB.out; omega)⟩
set_option maxRecDepth 100000 in
set_option maxHeartbeats 2000000 in
theorem dur_neg (N : Nat) (w : World) (hL : Laid w) (h0 : 0 < N) (h1 : (N : Int) ≤ 4398046511104) :
    Calls Tryd.prog 31 #[.int .i64 (-(N : Int))] w fun e w' => e = .returned (.string ⟨(([45] : List UInt8) ++ durP N).toArray⟩) ∧ Ext w w' := by
  have HL := Lib.hid hL
  obtain ⟨_, _, _, c0, c1, c2, c3, c4, c5, c6, c7⟩ := hL
  have t1 : ((-(N : Int)) == 0) = false := by simp <;> omega
  have d1 : decide (4398046511104 < (-(N : Int))) = false := by simp <;> omega
  have d2 : decide ((-(N : Int)) < -4398046511104) = false := by simp <;> omega
  have d3 : decide ((-(N : Int)) < 0) = true := by simp <;> omega
  go_enter Tryd.func31, Tryd.ntmps31
  go_wp2_with fail
  have hw0 : Ext w ((w.alloc (.cells #[.pointer none, .slice none 0 0] 79)).alloc (.cells #[.pointer none, .slice none 0 0] 79)) := ((Ext.refl w).alloc _).alloc _
  clear c0 c1 c2 c3 c4 c5 c6 c7
  obtain ⟨B, hBB⟩ : ∃ B, B = w.heap.size := ⟨_, rfl⟩
  have HB := Lib.hid hBB
  rw [← hBB]
  clear hBB
  go_loopw [0, 23] (fun s i wr => ∃ k r : Nat, k ≤ 4 ∧ i = .int .i64 (k : Int) ∧ s = .int .i64 (r : Int) ∧ Hid (r = remk N k) ∧ DurR N B k wr ∧ Ext w wr) (fun _ i _ => (4 - intOf i).toNat)
  case atStart =>
    refine ⟨0, N, by omega, rfl, rfl, rfl, .inl ⟨rfl, ?_, ?_, ?_⟩, hw0⟩
    · rw [HB.out]
      show ((w.heap.push _).push _)[w.heap.size]? = _
      simp only [Array.getElem?_push, Array.size_push]; rw [if_neg (by omega), if_pos trivial]; rfl
    · rw [HB.out]
      show ((w.heap.push _).push _)[w.heap.size + 1]? = _
      simp only [Array.getElem?_push, Array.size_push]; rw [if_pos trivial]; rfl
    · rw [HB.out]; simp
  case round =>
    obtain ⟨k, r, hk, rfl, rfl, Hr, hD, hEr⟩ := hrel
    have hLr := Lib.hid (HL.out.ext hEr)
    rcases (show k = 0 ∨ k = 1 ∨ k = 2 ∨ k = 3 ∨ k = 4 by omega) with rfl | rfl | rfl | rfl | rfl
    · obtain rfl : r = N := Hr.out
      obtain ⟨hf0, hf1, hsz⟩ : wr.heap[B]? = some fresh ∧ wr.heap[B + 1]? = some fresh ∧ B + 2 ≤ wr.heap.size := by
        rcases hD with ⟨_, a, b, c⟩ | ⟨hk1, _⟩
        · exact ⟨a, b, c⟩
        · omega
      by_cases hq : r / 86400 = 0
      · have t2 : ((r : Int) / 86400 == 0) = true := by simp; omega
        have hui := ui_0
        have Hq := Lib.hid hq
        clear hq
        go_wp2_with fail
        go_roundw
        case rel =>
          refine ⟨0 + 1, r % 86400, by omega, rfl, by congr 1, by rw [Hid, remk_1]; rfl, .inr ⟨by omega, wr.heap.size, wr.heap.size, by omega, by simp, ?_, ?_⟩, hEr.alloc _⟩
          · rw [Hq.out]
            exact (bld0 wr B hf0 (B + 2) (by omega) hsz).ext ((Ext.refl _).alloc _) |>.widen hsz
          · exact (bld0 wr (B + 1) hf1 wr.heap.size (by omega) (Nat.le_refl _)).ext ((Ext.refl _).alloc _)
        case measure => simp [intOf]
      · have t2 : ((r : Int) / 86400 == 0) = false := by simp; omega
        have hq2 : ((r : Int) / 86400).toNat = r / 86400 := by omega
        have Hq := Lib.hid hq
        clear hq
        have hdl := decDigits_len (r / 86400) (by omega)
        have hui := ui_0
        have hBd := bld0 wr B hf0 (B + 2) (by omega) hsz
        have hne : wr.heap.size ≠ B := by omega
        go_wp2_with (first
          | (go_at_call 54; refine (itoa_c _ _ (by omega) (by omega) (hLr.out.ext ((Ext.refl _).alloc _))).mono ?_; rintro e w1 ⟨rfl, hE1⟩; have hEa := Lib.hid (((Ext.refl wr).alloc (.cells #[.int .u8 68, .int .i64 86400] 81)).trans hE1))
          | (go_at_call 53; refine (wstr_c B (B + 2) (B + 2) _ _ _ (hBd.ext hEa.out) (by rw [Lib.byteCells_length]; show _ + (Lib.decDigits _).toArray.size ≤ _; simp only [List.size_toArray, List.length_nil]; omega)).mono ?_; rintro e w2 ⟨rfl, hB2, hF2⟩;
             have hu0 : w2.cell? ⟨wr.heap.size, 0, none⟩ = some (.int .u8 68) := (by rw [hF2.cells (by have := hE1.size; simp at this; omega) (by omega) (by omega), hE1.cells _ _ (by simp)]; simp))
          | (go_at_call 55; refine (wbyte_c B (B + 2) _ _ _ _ hB2 (by rw [List.length_append, Lib.byteCells_length, Lib.strCells_length]; show _ + (Lib.decDigits _).toArray.size + 1 ≤ _; simp only [List.size_toArray, List.length_nil]; omega)).mono ?_; rintro e w3 ⟨rfl, hB3, hF3⟩))
        have hH : B + 2 ≤ w2.heap.size := Nat.le_trans hsz (Nat.le_trans hEa.out.size hF2.size)
        have hFF := (Frm.of_ext (S := BS B (B + 2) w2.heap.size) hEa.out).trans ((BS.mono hF2 hH).trans hF3)
        rw [byteCells_join _ _ 68 68 rfl] at hB3
        try rw [hq2] at hB3
        rw [List.nil_append, ← prt_pos Hq.out 68] at hB3
        go_roundw
        case rel =>
          refine ⟨0 + 1, r % 86400, by omega, rfl, by congr 1, by rw [Hid, remk_1]; rfl, .inr ⟨by omega, w3.heap.size, w3.heap.size, ?_, Nat.le_refl _, hB3, ?_⟩, frm_far hEr hFF (B := B) (by rw [HB.out]; exact Nat.le_refl _) (by omega) (by omega)⟩
          · exact Nat.le_trans hsz hFF.size
          · have : w3.heap[B + 1]? = some fresh := by rw [hFF.block (B + 1) (by omega) (by unfold BS; omega)]; exact hf1
            exact bld0 w3 (B + 1) this w3.heap.size (by have := hFF.size; omega) (Nat.le_refl _)
        case measure => simp [intOf]
    · have hr : r < 86400 := by rw [Hr.out]; exact Nat.mod_lt _ (by decide)
      rcases hD with ⟨hk0, _⟩ | ⟨_, lo, hi, hlo, hhs, hBd, hBt⟩
      · omega
      have hhi := hBt.2.1
      have hltb := hBt.lt
      by_cases hq : r / 3600 = 0
      · have t2 : ((r : Int) / 3600 == 0) = true := by simp; omega
        have hui := ui_1
        have Hq := Lib.hid hq
        clear hq
        go_wp2_with fail
        go_roundw
        case rel =>
          refine ⟨1 + 1, r % 3600, by omega, rfl, by congr 1, by rw [Hid, remk_2, ← Hr.out], .inr ⟨by omega, lo, hi, hlo, by simp; omega, hBd.ext ((Ext.refl _).alloc _), ?_⟩, hEr.alloc _⟩
          rw [tk_2]
          have e : remk N 1 / 3600 = 0 := by rw [← Hr.out]; have := Hq.out; omega
          change Bld (B + 1) lo hi (Lib.byteCells (tk N 1 ++ prt (remk N 1 / 3600) 72)) _
          rw [e, prt_zero, List.append_nil]
          exact hBt.ext ((Ext.refl _).alloc _)
        case measure => simp [intOf]
      · have t2 : ((r : Int) / 3600 == 0) = false := by simp; omega
        have hq2 : ((r : Int) / 3600).toNat = r / 3600 := by omega
        have Hq := Lib.hid hq
        clear hq
        have hlen := tk_len N 1
        have hdl := decDigits_len (r / 3600) (by omega)
        have hui := ui_1
        go_wp2_with (first
          | (go_at_call 54; refine (itoa_c _ _ (by omega) (by omega) (hLr.out.ext ((Ext.refl _).alloc _))).mono ?_; rintro e w1 ⟨rfl, hE1⟩; have hEa := Lib.hid (((Ext.refl wr).alloc (.cells #[.int .u8 72, .int .i64 3600] 81)).trans hE1))
          | (go_at_call 53; refine (wstr_c (B + 1) lo hi _ _ _ (hBt.ext hEa.out) (by rw [Lib.byteCells_length]; show _ + (Lib.decDigits _).toArray.size ≤ _; simp only [List.size_toArray]; omega)).mono ?_; rintro e w2 ⟨rfl, hB2, hF2⟩;
             have hu0 : w2.cell? ⟨wr.heap.size, 0, none⟩ = some (.int .u8 72) := (by rw [hF2.cells (by have := hE1.size; simp at this; omega) (by omega) (by omega), hE1.cells _ _ (by simp)]; simp))
          | (go_at_call 55; refine (wbyte_c (B + 1) lo _ _ _ _ hB2 (by rw [List.length_append, Lib.byteCells_length, Lib.strCells_length]; show _ + (Lib.decDigits _).toArray.size + 1 ≤ _; simp only [List.size_toArray]; omega)).mono ?_; rintro e w3 ⟨rfl, hB3, hF3⟩))
        have hH : hi ≤ w2.heap.size := Nat.le_trans hhs (Nat.le_trans hEa.out.size hF2.size)
        have hFF := (Frm.of_ext (S := BS (B + 1) lo w2.heap.size) hEa.out).trans ((BS.mono hF2 hH).trans hF3)
        rw [byteCells_join _ _ 72 72 rfl] at hB3
        try rw [hq2] at hB3
        rw [← prt_pos Hq.out 72] at hB3
        go_roundw
        case rel => exact ⟨1 + 1, r % 3600, by omega, rfl, by congr 1, by rw [Hid, remk_2, ← Hr.out], dur_next hlo hBd hFF hB3 (by rw [tk_2]; show _ = tk N 1 ++ prt (remk N 1 / 3600) 72; rw [← Hr.out]; try rw [Nat.div_one]), frm_far hEr hFF (B := B) (by rw [HB.out]; exact Nat.le_refl _) (by omega) (by omega)⟩
        case measure => simp [intOf]
    · have hr : r < 3600 := by rw [Hr.out]; exact Nat.mod_lt _ (by decide)
      rcases hD with ⟨hk0, _⟩ | ⟨_, lo, hi, hlo, hhs, hBd, hBt⟩
      · omega
      have hhi := hBt.2.1
      have hltb := hBt.lt
      by_cases hq : r / 60 = 0
      · have t2 : ((r : Int) / 60 == 0) = true := by simp; omega
        have hui := ui_2
        have Hq := Lib.hid hq
        clear hq
        go_wp2_with fail
        go_roundw
        case rel =>
          refine ⟨2 + 1, r % 60, by omega, rfl, by congr 1, by rw [Hid, remk_3, ← Hr.out], .inr ⟨by omega, lo, hi, hlo, by simp; omega, hBd.ext ((Ext.refl _).alloc _), ?_⟩, hEr.alloc _⟩
          rw [tk_3]
          have e : remk N 2 / 60 = 0 := by rw [← Hr.out]; have := Hq.out; omega
          change Bld (B + 1) lo hi (Lib.byteCells (tk N 2 ++ prt (remk N 2 / 60) 77)) _
          rw [e, prt_zero, List.append_nil]
          exact hBt.ext ((Ext.refl _).alloc _)
        case measure => simp [intOf]
      · have t2 : ((r : Int) / 60 == 0) = false := by simp; omega
        have hq2 : ((r : Int) / 60).toNat = r / 60 := by omega
        have Hq := Lib.hid hq
        clear hq
        have hlen := tk_len N 2
        have hdl := decDigits_len (r / 60) (by omega)
        have hui := ui_2
        go_wp2_with (first
          | (go_at_call 54; refine (itoa_c _ _ (by omega) (by omega) (hLr.out.ext ((Ext.refl _).alloc _))).mono ?_; rintro e w1 ⟨rfl, hE1⟩; have hEa := Lib.hid (((Ext.refl wr).alloc (.cells #[.int .u8 77, .int .i64 60] 81)).trans hE1))
          | (go_at_call 53; refine (wstr_c (B + 1) lo hi _ _ _ (hBt.ext hEa.out) (by rw [Lib.byteCells_length]; show _ + (Lib.decDigits _).toArray.size ≤ _; simp only [List.size_toArray]; omega)).mono ?_; rintro e w2 ⟨rfl, hB2, hF2⟩;
             have hu0 : w2.cell? ⟨wr.heap.size, 0, none⟩ = some (.int .u8 77) := (by rw [hF2.cells (by have := hE1.size; simp at this; omega) (by omega) (by omega), hE1.cells _ _ (by simp)]; simp))
          | (go_at_call 55; refine (wbyte_c (B + 1) lo _ _ _ _ hB2 (by rw [List.length_append, Lib.byteCells_length, Lib.strCells_length]; show _ + (Lib.decDigits _).toArray.size + 1 ≤ _; simp only [List.size_toArray]; omega)).mono ?_; rintro e w3 ⟨rfl, hB3, hF3⟩))
        have hH : hi ≤ w2.heap.size := Nat.le_trans hhs (Nat.le_trans hEa.out.size hF2.size)
        have hFF := (Frm.of_ext (S := BS (B + 1) lo w2.heap.size) hEa.out).trans ((BS.mono hF2 hH).trans hF3)
        rw [byteCells_join _ _ 77 77 rfl] at hB3
        try rw [hq2] at hB3
        rw [← prt_pos Hq.out 77] at hB3
        go_roundw
        case rel => exact ⟨2 + 1, r % 60, by omega, rfl, by congr 1, by rw [Hid, remk_3, ← Hr.out], dur_next hlo hBd hFF hB3 (by rw [tk_3]; show _ = tk N 2 ++ prt (remk N 2 / 60) 77; rw [← Hr.out]; try rw [Nat.div_one]), frm_far hEr hFF (B := B) (by rw [HB.out]; exact Nat.le_refl _) (by omega) (by omega)⟩
        case measure => simp [intOf]
    · have hr : r < 60 := by rw [Hr.out]; exact Nat.mod_lt _ (by decide)
      rcases hD with ⟨hk0, _⟩ | ⟨_, lo, hi, hlo, hhs, hBd, hBt⟩
      · omega
      have hhi := hBt.2.1
      have hltb := hBt.lt
      by_cases hq : r = 0
      · have t2 : ((r : Int) == 0) = true := by simp; omega
        have hui := ui_3
        have Hq := Lib.hid hq
        clear hq
        go_wp2_with fail
        go_roundw
        case rel =>
          refine ⟨3 + 1, r % 1, by omega, rfl, by congr 1; omega, by rw [Hid, remk_4, ← Hr.out], .inr ⟨by omega, lo, hi, hlo, by simp; omega, hBd.ext ((Ext.refl _).alloc _), ?_⟩, hEr.alloc _⟩
          rw [tk_4]
          have e : remk N 3 / 1 = 0 := by rw [← Hr.out]; have := Hq.out; omega
          change Bld (B + 1) lo hi (Lib.byteCells (tk N 3 ++ prt (remk N 3 / 1) 83)) _
          rw [e, prt_zero, List.append_nil]
          exact hBt.ext ((Ext.refl _).alloc _)
        case measure => simp [intOf]
      · have t2 : ((r : Int) == 0) = false := by simp; omega
        have hq2 : ((r : Int)).toNat = r := by omega
        have Hq := Lib.hid hq
        clear hq
        have hlen := tk_len N 3
        have hdl := decDigits_len (r) (by omega)
        have hui := ui_3
        go_wp2_with (first
          | (go_at_call 54; refine (itoa_c _ _ (by omega) (by omega) (hLr.out.ext ((Ext.refl _).alloc _))).mono ?_; rintro e w1 ⟨rfl, hE1⟩; have hEa := Lib.hid (((Ext.refl wr).alloc (.cells #[.int .u8 83, .int .i64 1] 81)).trans hE1))
          | (go_at_call 53; refine (wstr_c (B + 1) lo hi _ _ _ (hBt.ext hEa.out) (by rw [Lib.byteCells_length]; show _ + (Lib.decDigits _).toArray.size ≤ _; simp only [List.size_toArray]; omega)).mono ?_; rintro e w2 ⟨rfl, hB2, hF2⟩;
             have hu0 : w2.cell? ⟨wr.heap.size, 0, none⟩ = some (.int .u8 83) := (by rw [hF2.cells (by have := hE1.size; simp at this; omega) (by omega) (by omega), hE1.cells _ _ (by simp)]; simp))
          | (go_at_call 55; refine (wbyte_c (B + 1) lo _ _ _ _ hB2 (by rw [List.length_append, Lib.byteCells_length, Lib.strCells_length]; show _ + (Lib.decDigits _).toArray.size + 1 ≤ _; simp only [List.size_toArray]; omega)).mono ?_; rintro e w3 ⟨rfl, hB3, hF3⟩))
        have hH : hi ≤ w2.heap.size := Nat.le_trans hhs (Nat.le_trans hEa.out.size hF2.size)
        have hFF := (Frm.of_ext (S := BS (B + 1) lo w2.heap.size) hEa.out).trans ((BS.mono hF2 hH).trans hF3)
        rw [byteCells_join _ _ 83 83 rfl] at hB3
        try rw [hq2] at hB3
        rw [← prt_pos Hq.out 83] at hB3
        go_roundw
        case rel => exact ⟨3 + 1, r % 1, by omega, rfl, by congr 1; omega, by rw [Hid, remk_4, ← Hr.out], dur_next hlo hBd hFF hB3 (by rw [tk_4]; show _ = tk N 3 ++ prt (remk N 3 / 1) 83; rw [← Hr.out]; try rw [Nat.div_one]), frm_far hEr hFF (B := B) (by rw [HB.out]; exact Nat.le_refl _) (by omega) (by omega)⟩
        case measure => simp [intOf]
    · rcases hD with ⟨hk0, _⟩ | ⟨_, lo, hi, hlo, hhs, hBd, hBt⟩
      · omega
      have hl1 := prt_len (N / 86400) 68 (by omega)
      have hl2 := tk_len N 4
      have hl3 : (tpr N).length ≤ 63 := hl2
      by_cases ht : tpr N = []
      · have t2 : (((Lib.byteCells (tk N 4)).length : Int) == 0) = true := by rw [show tk N 4 = tpr N from rfl, ht]; rfl
        have Hfin : Hid (durP N = [80] ++ prt (N / 86400) 68) := by unfold Hid durP; rw [if_pos ht, List.append_nil]
        clear ht
        go_wp2_with (first
          | (go_at_call 56; refine (blen_c _ _ _ _ _ hBt).mono ?_; rintro e w1 ⟨rfl, rfl⟩)
          | (go_at_call 57; refine (bstr_c B _ _ _ _ hBd).mono ?_; rintro e w2 ⟨rfl, hF2⟩))
        go_ret
        exact ⟨ret_s (by rw [Hfin.out]; apply ByteArray.ext; simp), Frm.far hEr hF2 (by intro k hk; have := HB.out; omega)⟩
      · have t2 : (((Lib.byteCells (tk N 4)).length : Int) == 0) = false := by rw [show tk N 4 = tpr N from rfl, Lib.byteCells_length]; simp; exact ht
        have Hfin : Hid (durP N = [80] ++ prt (N / 86400) 68 ++ (84 :: tpr N)) := by unfold Hid durP; rw [if_neg ht]
        clear ht
        go_wp2_with (first
          | (go_at_call 56; refine (blen_c _ _ _ _ _ hBt).mono ?_; rintro e w1 ⟨rfl, rfl⟩)
          | (go_at_call 57; (with_reducible refine (bstr_c B _ _ _ _ hBd).mono ?_); rintro e w2 ⟨rfl, hF2⟩)
          | (go_at_call 57; (with_reducible refine (bstr_c (B + 1) _ _ _ _ (hBt.keep hF2 (by omega) (by omega))).mono ?_); rintro e w3 ⟨rfl, hF3⟩))
        go_ret
        exact ⟨ret_s (by rw [Hfin.out]; apply ByteArray.ext; simp; rfl), Frm.far (Frm.far hEr hF2 (by intro k hk; have := HB.out; omega)) hF3 (by intro k hk; have := HB.out; omega)⟩
set_option maxHeartbeats 400000 in
theorem dur_c (n : Int) (w : World) (hL : Laid w) : Calls Tryd.prog 31 #[.int .i64 n] w fun e w' => e = .returned (.string ⟨(durT n).toArray⟩) ∧ Ext w w' := by
  by_cases hb : -4398046511104 ≤ n ∧ n ≤ 4398046511104
  · have hlb : lineB n = true := by unfold lineB; simp; omega
    unfold durT
    rw [if_neg (by simp [hlb])]
    by_cases h0 : n = 0
    · subst h0
      rw [if_pos rfl]
      clear hL
      go_enter Tryd.func31, Tryd.ntmps31
      go_wp2_with fail
      go_ret
      exact ⟨rfl, Ext.refl _⟩
    · rw [if_neg h0]
      by_cases hn : n < 0
      · rw [if_pos hn]
        have := dur_neg n.natAbs w hL (by omega) (by omega)
        rw [show -((n.natAbs : Nat) : Int) = n from by omega] at this
        exact this
      · rw [if_neg hn]
        have := dur_pos n.natAbs w hL (by omega) (by omega)
        rw [show ((n.natAbs : Nat) : Int) = n from by omega] at this
        exact this
  · have hlb : lineB n = false := by unfold lineB; simp; omega
    unfold durT
    rw [if_pos hlb]
    clear hL hlb
    by_cases h : 4398046511104 < n
    all_goals
      go_enter Tryd.func31, Tryd.ntmps31
      go_wp2_with fail
      go_ret
      exact ⟨rfl, Ext.refl _⟩
end Go.Proofs.YtplckoffiebibaaDoor
