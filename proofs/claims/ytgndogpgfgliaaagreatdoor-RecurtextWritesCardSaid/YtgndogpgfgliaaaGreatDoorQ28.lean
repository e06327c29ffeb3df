/- Recurrence rules: the walks of great and of awake: the chapter's examples. -/
import Derived.Test.YtgndogpgfgliaaaGreatDoorQ21
import Derived.Test.YtgndogpgfgliaaaGreatDoorQ22
import Derived.Test.YtgndogpgfgliaaaGreatDoorQ27
import Derived.Test.YtgndogpgfgliaaaGreatDoorQ00
import Derived.OpenShut
import Derived.Deep.Slices
import Derived.Deep.SlicePairs
namespace Go.Proofs.YtgndogpgfgliaaaGreatDoor
set_option linter.unusedVariables false
set_option linter.unnecessarySimpa false
set_option linter.unusedSimpArgs false
open Go.RowKit

def mx (x y : Int) : Int := if y > x then y else x
theorem mx_iff (x y : Int) : 100 < mx x y ↔ 100 < x ∨ 100 < y := by unfold mx; split <;> omega
theorem max9 (a b c d e f g h i : Nat) (W : World) : (Builtin.max_ #[3, 3, 3, 3, 3, 3, 3, 3, 3] 3 #[.int .i64 (a : Int), .int .i64 (b : Int), .int .i64 (c : Int), .int .i64 (d : Int), .int .i64 (e : Int), .int .i64 (f : Int), .int .i64 (g : Int), .int .i64 (h : Int), .int .i64 (i : Int)]).run Tryz.prog W = .ok (.int .i64 (mx (mx (mx (mx (mx (mx (mx (mx a b) c) d) e) f) g) h) i)) W := by
  simp [Builtin.max_, Builtin.max2, mx]
set_option maxRecDepth 100000 in
set_option maxHeartbeats 1000000 in
theorem great30_c (r : Rec) (b : Bool) (w : World) (hr : RcV r w) (hb : greatR r.D = b) :
    Calls Tryz.prog 12 #[.agg r.vals.toArray] w fun e w' => e = .returned (.bool b) ∧ Ext w w' := by
  have hE0 : Ext w (w.alloc (.cells r.vals.toArray 25)) := (Ext.refl w).alloc _
  have HE0 := Lib.hid hE0
  have hB := RcB.new r w 25
  obtain ⟨c0, c1, c2, c3, c4, c5, c6, c7, c8, c9, c10, c11, c12, c13⟩ := hB.all
  have hBl := hB.1
  unfold greatR at hb
  generalize r.D.mo.length = n0 at *
  generalize r.D.md.length = n1 at *
  generalize r.D.yd.length = n2 at *
  generalize r.D.wk.length = n3 at *
  generalize r.D.da.length = n4 at *
  generalize r.D.ho.length = n5 at *
  generalize r.D.mi.length = n6 at *
  generalize r.D.se.length = n7 at *
  generalize r.D.po.length = n8 at *
  have hmx := fun W => max9 n0 n1 n2 n3 n4 n5 n6 n7 n8 W
  obtain ⟨M, hM⟩ : ∃ M, M = mx (mx (mx (mx (mx (mx (mx (mx n0 n1) n2) n3) n4) n5) n6) n7) n8 := ⟨_, rfl⟩
  rw [← hM] at hmx
  have hMb : decide ((100 : Int) < M) = b := by
    rw [← hb]
    apply decide_eq_decide.2
    rw [hM]
    simp only [mx_iff]
    omega
  have hmx0 := hmx (w.alloc (.cells r.vals.toArray 25))
  clear hM hmx
  clear hE0 hB hb c0 c1 c2 c3 c13 hr
  go_enter Tryz.func12, Tryz.ntmps12
  go_upto_region 1 with fail
  generalize w.alloc (.cells r.vals.toArray 25) = W0 at *
  generalize w.heap.size = B at *
  go_wp2_with fail
  go_ret
  exact ⟨rfl, HE0.out⟩
def exD1 : RecD := { RecD.start with fr := 2, da := [(-1, 5)] }
def exD2 : RecD := { RecD.start with fr := 4, iv := 2, ct := 5 }
def exP : List UInt8 := [70, 82, 69, 81, 61, 77, 79, 78, 84, 72, 76, 89, 59, 66, 89, 68, 65, 89, 61, 45, 49, 70, 82]
theorem ex_par : parZ untZ vldR exP = .ok exD1 := by
  have h1 : spl 59 exP = [[70, 82, 69, 81, 61, 77, 79, 78, 84, 72, 76, 89], [66, 89, 68, 65, 89, 61, 45, 49, 70, 82]] := by decide
  have h2 : Lib.cut [70, 82, 69, 81, 61, 77, 79, 78, 84, 72, 76, 89] [61] = ([70, 82, 69, 81], [77, 79, 78, 84, 72, 76, 89], true) := by decide
  have h3 : Lib.cut [66, 89, 68, 65, 89, 61, 45, 49, 70, 82] [61] = ([66, 89, 68, 65, 89], [45, 49, 70, 82], true) := by decide
  have h4 : prtZ untZ [70, 82, 69, 81] [77, 79, 78, 84, 72, 76, 89] RecD.start = .ok { RecD.start with fr := 2 } := by
    unfold prtZ
    rw [if_neg (by decide), show plW ptW [70, 82, 69, 81] - 1 = 0 by decide]
    unfold partZ
    simp only
    rw [if_neg (by decide), show plW frW [77, 79, 78, 84, 72, 76, 89] = 2 by decide]
    rfl
  have h5 : prtZ untZ [66, 89, 68, 65, 89] [45, 49, 70, 82] { RecD.start with fr := 2 } = .ok exD1 := by
    unfold prtZ
    rw [if_neg (by decide), show plW ptW [66, 89, 68, 65, 89] - 1 = 8 by decide]
    unfold partZ
    simp only
    rw [show daysZ [45, 49, 70, 82] = some [(-1, 5)] by decide]
    rfl
  unfold parZ
  rw [if_neg (by decide), h1, runZ_cons, h2]
  simp only
  rw [if_neg (by simp), h4]
  simp only
  rw [if_neg (by simp), runZ_cons, h3]
  simp only
  rw [if_neg (by simp), h5]
  simp only
  rw [if_neg (by decide)]
  unfold runZ
  rw [if_pos (by decide), if_pos (by decide)]
def exR2 : Rec := ⟨exD2, fun _ => none, fun _ => 0⟩
theorem exR2_v (w : World) : RcV exR2 w := ⟨IsV.nil w, IsV.nil w, IsV.nil w, IsV.nil w, OsV.nil w, IsV.nil w, IsV.nil w, IsV.nil w, IsV.nil w⟩
theorem ex_val1 : vldR exD1 = true := by decide
theorem ex_val2 : vldR exD2 = true := by decide
theorem ex_des1 : desZ momT exD1 = [101, 118, 101, 114, 121, 32, 109, 111, 110, 116, 104, 44, 32, 111, 110, 32, 45, 49, 46, 32, 70, 114, 105] := by kernel_rfl
theorem ex_des2 : desZ momT exD2 = [101, 118, 101, 114, 121, 32, 50, 32, 100, 97, 121, 115, 44, 32, 53, 32, 116, 105, 109, 101, 115] := by kernel_rfl
theorem ex_txt2 : txtZ momT exD2 = [70, 82, 69, 81, 61, 68, 65, 73, 76, 89, 59, 73, 78, 84, 69, 82, 86, 65, 76, 61, 50, 59, 67, 79, 85, 78, 84, 61, 53] := by kernel_rfl
set_option maxRecDepth 100000 in
set_option maxHeartbeats 4000000 in
theorem awake30_c (w : World) (hm : Lm w) : Calls Tryz.prog 11 #[] w fun e w' => e = .returned (.bool true) ∧ Ext w w' := by
  have HPs : Hid (Calls Tryz.prog 17 #[.string ⟨#[70, 82, 69, 81, 61, 77, 79, 78, 84, 72, 76, 89, 59, 66, 89, 68, 65, 89, 61, 45, 49, 70, 82]⟩] w fun e w' => ∃ r : Rec, r.D = exD1 ∧ e = .returned (.tuple #[.agg r.vals.toArray, .int .i64 0]) ∧ RcV r w' ∧ Ext w w') :=
    (uparse_c exP w hm (by decide)).mono (fun e w' h => by unfold ParR at h; rw [ex_par] at h; exact h)
  have HDs : Hid (∀ (r : Rec) (W : World), r.D = exD1 → RcV r W → Calls Tryz.prog 15 #[.agg r.vals.toArray] W fun e w' => e = .returned (.tuple #[.string ⟨#[101, 118, 101, 114, 121, 32, 109, 111, 110, 116, 104, 44, 32, 111, 110, 32, 45, 49, 46, 32, 70, 114, 105]⟩, .int .i64 0]) ∧ Ext W w') := fun r W hD hV =>
    (udesc_c r W hV).mono (fun e w' h => by unfold DescR at h; rw [hD, if_pos ex_val1, ex_des1] at h; exact h)
  have HTx : Hid (∀ W : World, Calls Tryz.prog 13 #[.agg #[.int .i64 4, .int .i64 2, .int .i64 5, .int .i64 0, .slice none 0 0, .slice none 0 0, .slice none 0 0, .slice none 0 0, .slice none 0 0, .slice none 0 0, .slice none 0 0, .slice none 0 0, .slice none 0 0, .int .i64 1]] W fun e w' => e = .returned (.tuple #[.string ⟨#[70, 82, 69, 81, 61, 68, 65, 73, 76, 89, 59, 73, 78, 84, 69, 82, 86, 65, 76, 61, 50, 59, 67, 79, 85, 78, 84, 61, 53]⟩, .int .i64 0]) ∧ Ext W w') := fun W =>
    (utext_c exR2 W (exR2_v W)).mono (fun e w' h => by unfold TextR at h; rw [show exR2.D = exD2 from rfl, if_pos ex_val2, ex_txt2] at h; exact h)
  have HD2 : Hid (∀ W : World, Calls Tryz.prog 15 #[.agg #[.int .i64 4, .int .i64 2, .int .i64 5, .int .i64 0, .slice none 0 0, .slice none 0 0, .slice none 0 0, .slice none 0 0, .slice none 0 0, .slice none 0 0, .slice none 0 0, .slice none 0 0, .slice none 0 0, .int .i64 1]] W fun e w' => e = .returned (.tuple #[.string ⟨#[101, 118, 101, 114, 121, 32, 50, 32, 100, 97, 121, 115, 44, 32, 53, 32, 116, 105, 109, 101, 115]⟩, .int .i64 0]) ∧ Ext W w') := fun W =>
    (udesc_c exR2 W (exR2_v W)).mono (fun e w' h => by unfold DescR at h; rw [show exR2.D = exD2 from rfl, if_pos ex_val2, ex_des2] at h; exact h)
  clear hm
  go_enter Tryz.func11, Tryz.ntmps11
  go_upto_region 2 with (first
    | (go_at_call 17; (with_reducible refine HPs.out.mono ?_); rintro e w1 ⟨r, hD, rfl, hV, hE1⟩; have hrs := rec_size r; have hr1 := rec_all1 r; have HD := Lib.hid hD; have HV := Lib.hid hV; clear hD hV; have hTz := thr_new w1 (#[.int .i64 0, .int .i64 0, .int .i64 0, .int .i64 0, .slice none 0 0, .slice none 0 0, .slice none 0 0, .slice none 0 0, .slice none 0 0, .slice none 0 0, .slice none 0 0, .slice none 0 0, .slice none 0 0, .int .i64 0]) 25 14 rfl; have hlz : w1.heap.size < (w1.alloc (.cells #[.int .i64 0, .int .i64 0, .int .i64 0, .int .i64 0, .slice none 0 0, .slice none 0 0, .slice none 0 0, .slice none 0 0, .slice none 0 0, .slice none 0 0, .slice none 0 0, .slice none 0 0, .slice none 0 0, .int .i64 0] 25)).heap.size := by simp)
    | (refine wpList_store_gen (op := ⟨none, .store 25 (.tmp 1) (.tmp 11), _, _, _, _⟩) rfl 25 _ _ rfl w1.heap.size r.vals rfl rfl hlz hTz hrs hr1 ?_; intro W2 hF2 hl2 hr2))
  have hE2 : Ext w1 W2 := Frm.far ((Ext.refl w1).alloc _) hF2 (fun k hk e => by omega)
  have hV2 := HV.out.ext hE2
  have HB2 : Hid (RcB r w1.heap.size W2) := ⟨hl2, hr2⟩
  have HDr := Lib.hid (HDs.out r W2 HD.out hV2)
  have HE2 := Lib.hid (hE1.trans hE2)
  have hd4 := hV2.da
  rw [HD.out] at hd4
  have HV4 : Hid (OsV (r.a 4) (r.c 4) [(-1, 5)] W2) := hd4
  clear hF2 hTz hlz hE1 hE2 hV2 hd4
  generalize w1.heap.size = B at *
  go_upto_region 5 with (first
    | (refine load_midg (by rfl) 25 _ rfl B 0 rfl r.vals _ hr2 Tryz.underlying25 rfl hrs ?_)
    | (go_at_call 15; (with_reducible refine HDr.out.mono ?_); rintro e w3 ⟨rfl, hE3⟩)
    | (go_at_call 13; (with_reducible refine (HTx.out _).mono ?_); rintro e w4 ⟨rfl, hE4⟩)
    | (go_at_call 15; (with_reducible refine (HD2.out _).mono ?_); rintro e w5 ⟨rfl, hE5⟩))
  have hX : Ext W2 w5 := hE3.trans (hE4.trans hE5)
  obtain ⟨c0, -, -, -, -, -, -, -, c8, -, -, -, -, -⟩ := (HB2.out.ext hX).all
  rw [HD.out] at c0 c8
  have c0' : w5.cell? ⟨B, 0, none⟩ = some (.int .i64 2) := c0
  have c8' : w5.cell? ⟨B, 8, none⟩ = some (.slice (r.a 4) 1 (r.c 4)) := c8
  have hBl := hX.lt hl2
  have HEq : Hid (Calls Tryz.prog 24 #[.slice (r.a 4) 1 (r.c 4), .slice (some ⟨w5.heap.size, 0, none⟩) 1 1] (w5.alloc (.cells #[.int .i64 (-1), .int .i64 5] 48)) fun e w' => e = .returned (.bool true) ∧ Ext (w5.alloc (.cells #[.int .i64 (-1), .int .i64 5] 48)) w') := by
    refine eqO_c [(-1, 5)] [(-1, 5)] (r.a 4) (some ⟨w5.heap.size, 0, none⟩) (r.c 4) 1 true _ (HV4.out.ext (hX.alloc _)) ⟨Nat.le_refl _, by decide, fun _ => ⟨w5.heap.size, 0, rfl, by simp, fun i hi => ?_⟩⟩ (by decide)
    obtain rfl : i = 0 := by simpa using hi
    constructor
    · rw [World.cell?_alloc_new]; rfl
    · rw [World.cell?_alloc_new]; rfl
  have HXw := Lib.hid (HE2.out.trans hX)
  clear c0 c8 hr2 hX
  go_wp2_with (go_at_call 24; (with_reducible refine HEq.out.mono ?_); rintro e w6 ⟨rfl, hE6⟩)
  go_ret
  exact ⟨rfl, (HXw.out.alloc _).trans hE6⟩
end Go.Proofs.YtgndogpgfgliaaaGreatDoor
/- Opening arguments: rules (api.Recurrence), lists of numbers and of weekdays. -/
namespace Go.Proofs.YtgndogpgfgliaaaGreatDoor
open Go.ChangeShapes Go.WideShapes Go.ChangeAt Go.WideMaps Go.WideElems Go.RowKit
set_option linter.unusedVariables false
set_option linter.unnecessarySimpa false

theorem rcI : Tryz.prog.cellsOf 3 = 1 := by kernel_rfl
theorem rcOr : Tryz.prog.cellsOf 48 = 2 := by kernel_rfl
theorem rcL : Tryz.prog.cellsOf 22 = 1 := by kernel_rfl
theorem rcO : Tryz.prog.cellsOf 23 = 1 := by kernel_rfl
theorem rcR : Tryz.prog.cellsOf 25 = 14 := by kernel_rfl
theorem rtwo {cs : List Value} {a b : Value} (hl : cs.length = 2) (e0 : List.take 1 (List.drop 0 cs) = [a]) (e1 : List.take 1 (List.drop 1 cs) = [b]) : cs = [a, b] := by
  match cs, hl with
  | [x0, x1], _ => simp at e0 e1; simp [e0, e1]
theorem rcut1 (cs : List Value) (a n : Nat) : cs.drop a = (cs.drop a).take n ++ cs.drop (a + n) := by
  rw [← List.drop_drop, List.take_append_drop]
theorem rcut14 (cs : List Value) (h : cs.length = 14) : cs = (cs.drop 0).take 1 ++ ((cs.drop 1).take 1 ++ ((cs.drop 2).take 1 ++ ((cs.drop 3).take 1 ++ ((cs.drop 4).take 1 ++ ((cs.drop 5).take 1 ++ ((cs.drop 6).take 1 ++ ((cs.drop 7).take 1 ++ ((cs.drop 8).take 1 ++ ((cs.drop 9).take 1 ++ ((cs.drop 10).take 1 ++ ((cs.drop 11).take 1 ++ ((cs.drop 12).take 1 ++ ((cs.drop 13).take 1))))))))))))) := by
  have h0 := rcut1 cs 0 1
  have h1 := rcut1 cs 1 1
  have h2 := rcut1 cs 2 1
  have h3 := rcut1 cs 3 1
  have h4 := rcut1 cs 4 1
  have h5 := rcut1 cs 5 1
  have h6 := rcut1 cs 6 1
  have h7 := rcut1 cs 7 1
  have h8 := rcut1 cs 8 1
  have h9 := rcut1 cs 9 1
  have h10 := rcut1 cs 10 1
  have h11 := rcut1 cs 11 1
  have h12 := rcut1 cs 12 1
  have h14 : (cs.drop 13).take 1 = cs.drop 13 := List.take_of_length_le (by rw [List.length_drop]; omega)
  rw [h14, ← h12, ← h11, ← h10, ← h9, ← h8, ← h7, ← h6, ← h5, ← h4, ← h3, ← h2, ← h1, ← h0, List.drop_zero]
section
variable {H : Type} {enc : TypeId × Value → H} {W : World} {base : Nat} {sp : Nat → Bool} {hd : Bool} {fuel : Nat}
theorem nosub {b o : Nat} {sp' : Option Nat} {v : Value} (h1 : W.cell? ⟨b, o, sp'⟩ = some v) : sp' = none := by
  cases sp' with
  | none => rfl
  | some z =>
    exfalso
    unfold World.cell? at h1
    simp only [Option.isSome_some, if_true] at h1
    split at h1 <;> cases h1
set_option maxRecDepth 100000 in
theorem rints_of {cs : List Value} {x : DataW H × List MemPlace} (h : DataW.trod enc Tryz.prog W base sp hd fuel 22 cs = some x) :
    ∃ (l : List Int) (ao : Option Addr) (cap : Nat), cs = [.slice ao l.length cap] ∧ IsV ao cap l W := by
  rcases Go.Deep.open_slice Tryz.underlying22 h with ⟨e, _⟩ | ⟨a, len, cap, m, n, D, Pl, e, hb, hlc, hm, hmm, _, hx⟩
  · exact ⟨[], none, 0, e, IsV.nil W⟩
  · have hlm : len ≤ m := by rw [hmm]; split <;> omega
    have each : ∀ i, i < len → ∃ q : Int, W.cell? (a.add (i * 1)) = some (.int .i64 q) := by
      intro i hi
      obtain ⟨cs', h1, h2⟩ := hx i (by omega)
      rw [rcI] at h1
      obtain ⟨_, hlen, hcell⟩ := World.cells?_some h1
      obtain ⟨s, rfl, _⟩ := DataW.trod_int Tryz.underlying3 h2
      refine ⟨s, ?_⟩
      have := hcell 0 (by decide)
      simpa [Addr.add] using this
    haveI : Inhabited Int := ⟨0⟩
    obtain ⟨q, hq⟩ := Go.Deep.choose_lt each
    have hll : ((List.range len).map q).length = len := by simp
    refine ⟨(List.range len).map q, some a, cap, by rw [hll]; exact e, by rw [hll]; exact hlc, hm, fun hne => ?_⟩
    have hl0 : 0 < len := by
      rcases Nat.eq_zero_or_pos len with h0 | h0
      · rw [h0] at hne; simp at hne
      · exact h0
    obtain ⟨b, o, sp'⟩ := a
    have hsp : sp' = none := by
      have h1 := hq 0 hl0
      simp only [Nat.zero_mul, Addr.add, if_true] at h1
      exact nosub h1
    subst hsp
    refine ⟨b, o, rfl, World.block_lt_of_cell? W _ (hq 0 hl0), fun i hi => ?_⟩
    have hi' : i < len := by rw [hll] at hi; exact hi
    have h1 := hq i hi'
    rw [Addr.add_mid, Nat.mul_one] at h1
    simp only [List.getElem_map, List.getElem_range]
    exact h1
theorem ord_cells {cs : List Value} {x : DataW H × List MemPlace} (h : DataW.trod enc Tryz.prog W base sp hd fuel 48 cs = some x) : ∃ o : Int × Int, cs = [.int .i64 o.1, .int .i64 o.2] ∧ i64 o.1 ∧ i64 o.2 := by
  obtain ⟨xs, n, _, _, hl, hlen, hf⟩ := DataW.trod_struct Tryz.underlying48 h
  match xs, hlen with
  | [y0, y1], _ =>
    have h0 : DataW.trod enc Tryz.prog W base sp hd n 3 ((cs.drop 0).take (Tryz.prog.cellsOf 3)) = some y0 := hf 0 _ rfl
    have h1 : DataW.trod enc Tryz.prog W base sp hd n 3 ((cs.drop 1).take (Tryz.prog.cellsOf 3)) = some y1 := hf 1 _ rfl
    rw [rcI] at h0 h1
    obtain ⟨s, e0, _, w0⟩ := DataW.trod_int Tryz.underlying3 h0
    obtain ⟨t, e1, _, w1⟩ := DataW.trod_int Tryz.underlying3 h1
    exact ⟨(s, t), rtwo (hl.trans rcOr) e0 e1, i64_wf w0, i64_wf w1⟩
set_option maxRecDepth 100000 in
theorem rords_of {cs : List Value} {x : DataW H × List MemPlace} (h : DataW.trod enc Tryz.prog W base sp hd fuel 23 cs = some x) :
    ∃ (l : List (Int × Int)) (ao : Option Addr) (cap : Nat), cs = [.slice ao l.length cap] ∧ OsV ao cap l W ∧ ∀ o ∈ l, i64 o.1 ∧ i64 o.2 := by
  rcases Go.Deep.open_slice Tryz.underlying23 h with ⟨e, _⟩ | ⟨a, len, cap, m, n, D, Pl, e, hb, hlc, hm, hmm, _, hx⟩
  · exact ⟨[], none, 0, e, OsV.nil W, fun o ho => by cases ho⟩
  · have hlm : len ≤ m := by rw [hmm]; split <;> omega
    have each : ∀ i, i < len → ∃ q : Int × Int, W.cell? (a.add (i * 2)) = some (.int .i64 q.1) ∧ W.cell? ((a.add (i * 2)).add 1) = some (.int .i64 q.2) ∧ i64 q.1 ∧ i64 q.2 := by
      intro i hi
      obtain ⟨cs', h1, h2⟩ := hx i (by omega)
      rw [rcOr] at h1
      obtain ⟨_, hlen, hcell⟩ := World.cells?_some h1
      obtain ⟨o, rfl, i1, i2⟩ := ord_cells h2
      refine ⟨o, ?_, ?_, i1, i2⟩
      · have := hcell 0 (by decide)
        simpa [Addr.add] using this
      · exact (hcell 1 (by decide)).trans rfl
    haveI : Inhabited (Int × Int) := ⟨(0, 0)⟩
    obtain ⟨q, hq⟩ := Go.Deep.choose_lt each
    have hll : ((List.range len).map q).length = len := by simp
    refine ⟨(List.range len).map q, some a, cap, by rw [hll]; exact e, ⟨by rw [hll]; exact hlc, hm, fun hne => ?_⟩, fun o ho => ?_⟩
    · have hl0 : 0 < len := by
        rcases Nat.eq_zero_or_pos len with h0 | h0
        · rw [h0] at hne; simp at hne
        · exact h0
      obtain ⟨b, o, sp'⟩ := a
      have hsp : sp' = none := by
        have h1 := (hq 0 hl0).1
        simp only [Nat.zero_mul, Addr.add, if_true] at h1
        exact nosub h1
      subst hsp
      have hadd : ∀ i j, ((⟨b, o, none⟩ : Addr).add i).add j = ⟨b, o + i + j, none⟩ := fun i j => by rw [Addr.add_mid, Addr.add_mid]
      refine ⟨b, o, rfl, World.block_lt_of_cell? W _ (hq 0 hl0).1, fun i hi => ?_⟩
      have hi' : i < len := by rw [hll] at hi; exact hi
      obtain ⟨h1, h2, _⟩ := hq i hi'
      rw [Addr.add_mid] at h1
      rw [hadd] at h2
      simp only [List.getElem_map, List.getElem_range]
      exact ⟨h1, h2⟩
    · obtain ⟨i, hi, rfl⟩ := List.mem_map.1 ho
      exact (hq i (List.mem_range.1 hi)).2.2
set_option maxRecDepth 100000 in
theorem open_ords {r : Reach} {b0 : Nat} {v : Value} {d : DataW H} {p : List MemPlace} (hval : Value.okWide Tryz.prog W r b0 23 v) (h : DataW.Trod enc Tryz.prog W base sp hd 23 v d p) :
    ∃ (l : List (Int × Int)) (ao : Option Addr) (cap : Nat), v = .slice ao l.length cap ∧ OsV ao cap l W ∧ ∀ o ∈ l, i64 o.1 ∧ i64 o.2 := by
  obtain ⟨a1, len1, cap1, rfl⟩ := okWide_slice Tryz.underlying23 hval
  obtain ⟨fuel, hf⟩ := h
  obtain ⟨l, ao, cap, e, hO, hI⟩ := rords_of hf
  exact ⟨l, ao, cap, by simpa [Value.cells] using e, hO, hI⟩
set_option maxRecDepth 100000 in
set_option maxHeartbeats 1000000 in
theorem open_rec {r : Reach} {b0 : Nat} {v : Value} {d : DataW H} {p : List MemPlace} (hval : Value.okWide Tryz.prog W r b0 25 v) (h : DataW.Trod enc Tryz.prog W base sp hd 25 v d p) :
    ∃ R : Rec, v = .agg R.vals.toArray ∧ RcV R W := by
  obtain ⟨cs0, rfl, _⟩ := okWide_struct Tryz.underlying25 hval
  obtain ⟨fuel, hf⟩ := h
  simp only [Value.cells] at hf
  obtain ⟨cs, hcs⟩ : ∃ cs, cs = cs0.toList := ⟨_, rfl⟩
  rw [← hcs] at hf
  obtain ⟨xs, n, _, hx1, hl, hlen, hfs⟩ := DataW.trod_struct Tryz.underlying25 hf
  match xs, hlen with
  | [y0, y1, y2, y3, y4, y5, y6, y7, y8, y9, y10, y11, y12, y13], _ =>
    have h0 : DataW.trod enc Tryz.prog W base sp hd n 3 ((cs.drop 0).take (Tryz.prog.cellsOf 3)) = some y0 := hfs 0 _ rfl
    have h1 : DataW.trod enc Tryz.prog W base sp hd n 3 ((cs.drop 1).take (Tryz.prog.cellsOf 3)) = some y1 := hfs 1 _ rfl
    have h2 : DataW.trod enc Tryz.prog W base sp hd n 3 ((cs.drop 2).take (Tryz.prog.cellsOf 3)) = some y2 := hfs 2 _ rfl
    have h3 : DataW.trod enc Tryz.prog W base sp hd n 3 ((cs.drop 3).take (Tryz.prog.cellsOf 3)) = some y3 := hfs 3 _ rfl
    have h4 : DataW.trod enc Tryz.prog W base sp hd n 22 ((cs.drop 4).take (Tryz.prog.cellsOf 22)) = some y4 := hfs 4 _ rfl
    have h5 : DataW.trod enc Tryz.prog W base sp hd n 22 ((cs.drop 5).take (Tryz.prog.cellsOf 22)) = some y5 := hfs 5 _ rfl
    have h6 : DataW.trod enc Tryz.prog W base sp hd n 22 ((cs.drop 6).take (Tryz.prog.cellsOf 22)) = some y6 := hfs 6 _ rfl
    have h7 : DataW.trod enc Tryz.prog W base sp hd n 22 ((cs.drop 7).take (Tryz.prog.cellsOf 22)) = some y7 := hfs 7 _ rfl
    have h8 : DataW.trod enc Tryz.prog W base sp hd n 23 ((cs.drop 8).take (Tryz.prog.cellsOf 23)) = some y8 := hfs 8 _ rfl
    have h9 : DataW.trod enc Tryz.prog W base sp hd n 22 ((cs.drop 9).take (Tryz.prog.cellsOf 22)) = some y9 := hfs 9 _ rfl
    have h10 : DataW.trod enc Tryz.prog W base sp hd n 22 ((cs.drop 10).take (Tryz.prog.cellsOf 22)) = some y10 := hfs 10 _ rfl
    have h11 : DataW.trod enc Tryz.prog W base sp hd n 22 ((cs.drop 11).take (Tryz.prog.cellsOf 22)) = some y11 := hfs 11 _ rfl
    have h12 : DataW.trod enc Tryz.prog W base sp hd n 22 ((cs.drop 12).take (Tryz.prog.cellsOf 22)) = some y12 := hfs 12 _ rfl
    have h13 : DataW.trod enc Tryz.prog W base sp hd n 3 ((cs.drop 13).take (Tryz.prog.cellsOf 3)) = some y13 := hfs 13 _ rfl
    rw [rcI] at h0
    obtain ⟨z0, e0, _⟩ := DataW.trod_int Tryz.underlying3 h0
    rw [rcI] at h1
    obtain ⟨z1, e1, _⟩ := DataW.trod_int Tryz.underlying3 h1
    rw [rcI] at h2
    obtain ⟨z2, e2, _⟩ := DataW.trod_int Tryz.underlying3 h2
    rw [rcI] at h3
    obtain ⟨z3, e3, _⟩ := DataW.trod_int Tryz.underlying3 h3
    rw [rcL] at h4
    obtain ⟨l4, a4, c4, e4, H4⟩ := rints_of h4
    rw [rcL] at h5
    obtain ⟨l5, a5, c5, e5, H5⟩ := rints_of h5
    rw [rcL] at h6
    obtain ⟨l6, a6, c6, e6, H6⟩ := rints_of h6
    rw [rcL] at h7
    obtain ⟨l7, a7, c7, e7, H7⟩ := rints_of h7
    rw [rcO] at h8
    obtain ⟨l8, a8, c8, e8, H8, I8⟩ := rords_of h8
    rw [rcL] at h9
    obtain ⟨l9, a9, c9, e9, H9⟩ := rints_of h9
    rw [rcL] at h10
    obtain ⟨l10, a10, c10, e10, H10⟩ := rints_of h10
    rw [rcL] at h11
    obtain ⟨l11, a11, c11, e11, H11⟩ := rints_of h11
    rw [rcL] at h12
    obtain ⟨l12, a12, c12, e12, H12⟩ := rints_of h12
    rw [rcI] at h13
    obtain ⟨z13, e13, _⟩ := DataW.trod_int Tryz.underlying3 h13
    refine ⟨⟨⟨z0, z1, z2, z3, l4, l5, l6, l7, l8, l9, l10, l11, l12, z13⟩, fun | 0 => a4 | 1 => a5 | 2 => a6 | 3 => a7 | 4 => a8 | 5 => a9 | 6 => a10 | 7 => a11 | _ => a12, fun | 0 => c4 | 1 => c5 | 2 => c6 | 3 => c7 | 4 => c8 | 5 => c9 | 6 => c10 | 7 => c11 | _ => c12⟩, ?_, ⟨H4, H5, H6, H7, H8, H9, H10, H11, H12⟩⟩
    have hk := rcut14 cs (by rw [hl, rcR])
    have e : cs = [.int .i64 z0, .int .i64 z1, .int .i64 z2, .int .i64 z3, .slice a4 l4.length c4, .slice a5 l5.length c5, .slice a6 l6.length c6, .slice a7 l7.length c7, .slice a8 l8.length c8, .slice a9 l9.length c9, .slice a10 l10.length c10, .slice a11 l11.length c11, .slice a12 l12.length c12, .int .i64 z13] := by
      rw [hk, e0, e1, e2, e3, e4, e5, e6, e7, e8, e9, e10, e11, e12, e13]
      rfl
    have e3 : cs0 = cs.toArray := by rw [hcs]
    rw [e3, e]
    rfl
end
end Go.Proofs.YtgndogpgfgliaaaGreatDoor
