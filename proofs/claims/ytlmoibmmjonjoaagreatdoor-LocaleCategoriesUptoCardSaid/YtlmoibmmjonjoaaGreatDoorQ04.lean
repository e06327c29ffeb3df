/- Patterns: the walk of lists. -/
import Derived.Test.YtlmoibmmjonjoaaGreatDoorQ03
import Derived.Test.YtlmoibmmjonjoaaGreatDoorQ00
import Derived.Laws.Slices
import Derived.Test.YtlmoibmmjonjoaaGreatDoorShelf
import Derived.Laws.OwnMore
import Derived.Lib.ItoaNum
namespace Go.Proofs.YtlmoibmmjonjoaaGreatDoor
set_option linter.unusedVariables false
set_option linter.unusedSimpArgs false
open Go.RowKit Go.Maps

def Nms.all (N : Nms) : List (List UInt8) := N.mo ++ (N.sh ++ (N.da ++ (N.sd ++ N.ha)))
/-- The names' value. -/
def nmV (N : Nms) : Value := .agg (sv N.all).toArray
/-- A slice of the block B, as a datum: its offset and its length. -/
def slR (B : Nat) (v : Value) : Option (DataW Unit × List MemPlace) :=
  match v with
  | .slice (some ⟨b, o, none⟩) n c => if b = B ∧ c = n then some (.agg [.lit (.int .i64 o), .lit (.int .i64 n)], []) else none
  | .slice none 0 0 => some (.nil, [])
  | _ => none
theorem mkeyI : Keyed Tryz.prog 3 := int_keyed Tryz.underlying3
set_option maxRecDepth 100000 in
theorem sl33 (B o : Nat) (w : World) : (Instr.sliceAt 22 (.pointer (some ⟨B, o, none⟩)) none none none).run Tryz.prog w = .ok (.slice (some ⟨B, o, none⟩) 12 12) w := by
  rw [run_sliceAt_array_all (P := Tryz.prog) w 22 ⟨B, o, none⟩ (by kernel_rfl)]
  have e1 : (sizeOf (Tryz.prog.elem 22)).run Tryz.prog w = .ok 1 w := by kernel_rfl
  rw [e1]
  rfl
set_option maxRecDepth 100000 in
theorem sl34 (B o : Nat) (w : World) : (Instr.sliceAt 23 (.pointer (some ⟨B, o, none⟩)) none none none).run Tryz.prog w = .ok (.slice (some ⟨B, o, none⟩) 7 7) w := by
  rw [run_sliceAt_array_all (P := Tryz.prog) w 23 ⟨B, o, none⟩ (by kernel_rfl)]
  have e1 : (sizeOf (Tryz.prog.elem 23)).run Tryz.prog w = .ok 1 w := by kernel_rfl
  rw [e1]
  rfl
set_option maxRecDepth 100000 in
theorem sl35 (B o : Nat) (w : World) : (Instr.sliceAt 24 (.pointer (some ⟨B, o, none⟩)) none none none).run Tryz.prog w = .ok (.slice (some ⟨B, o, none⟩) 2 2) w := by
  rw [run_sliceAt_array_all (P := Tryz.prog) w 24 ⟨B, o, none⟩ (by kernel_rfl)]
  have e1 : (sizeOf (Tryz.prog.elem 24)).run Tryz.prog w = .ok 1 w := by kernel_rfl
  rw [e1]
  rfl
set_option maxRecDepth 100000 in
theorem fa_0 (B : Nat) (w : World) : (Instr.fieldAt 26 (.pointer (some ⟨B, 0, none⟩)) 0).run Tryz.prog w = .ok (.pointer (some ⟨B, 0, none⟩)) w := by
  go_simp
set_option maxRecDepth 100000 in
theorem fa_1 (B : Nat) (w : World) : (Instr.fieldAt 26 (.pointer (some ⟨B, 0, none⟩)) 1).run Tryz.prog w = .ok (.pointer (some ⟨B, 12, none⟩)) w := by
  go_simp
set_option maxRecDepth 100000 in
theorem fa_2 (B : Nat) (w : World) : (Instr.fieldAt 26 (.pointer (some ⟨B, 0, none⟩)) 2).run Tryz.prog w = .ok (.pointer (some ⟨B, 24, none⟩)) w := by
  go_simp
set_option maxRecDepth 100000 in
theorem fa_3 (B : Nat) (w : World) : (Instr.fieldAt 26 (.pointer (some ⟨B, 0, none⟩)) 3).run Tryz.prog w = .ok (.pointer (some ⟨B, 31, none⟩)) w := by
  go_simp
set_option maxRecDepth 100000 in
theorem fa_4 (B : Nat) (w : World) : (Instr.fieldAt 26 (.pointer (some ⟨B, 0, none⟩)) 4).run Tryz.prog w = .ok (.pointer (some ⟨B, 38, none⟩)) w := by
  go_simp
/-- The five entries. -/
def lsJ (B : Nat) : List InsE := [⟨3, 5, .slice (some ⟨B, 0, none⟩) 12 12, .agg [.lit (.int .i64 0), .lit (.int .i64 12)]⟩, ⟨6, 4, .slice (some ⟨B, 12, none⟩) 12 12, .agg [.lit (.int .i64 12), .lit (.int .i64 12)]⟩, ⟨9, 8, .slice (some ⟨B, 24, none⟩) 7 7, .agg [.lit (.int .i64 24), .lit (.int .i64 7)]⟩, ⟨12, 7, .slice (some ⟨B, 31, none⟩) 7 7, .agg [.lit (.int .i64 31), .lit (.int .i64 7)]⟩, ⟨15, 13, .slice (some ⟨B, 38, none⟩) 2 2, .agg [.lit (.int .i64 38), .lit (.int .i64 2)]⟩]
set_option maxRecDepth 100000 in
set_option maxHeartbeats 1000000 in
theorem lists_c (A : Array Value) (w : World) : Calls Tryz.prog 75 #[.agg A] w fun e w' => ∃ b D, e = .returned (.map (some b)) ∧ w'.ownsMap Tryz.prog 3 (slR w.heap.size) b 5 D ∧ (∀ (z : Int) zd, D.atKey (.int .i64 z) zd = insAt (lsJ w.heap.size) z zd) ∧ w.heap.size < w'.heap.size ∧ (∀ o, w'.cell? ⟨w.heap.size, o, none⟩ = A[o]?) ∧ Ext w w' := by
  have hmm := @run_makeMap Tryz.prog
  go_enter Tryz.func75, Tryz.ntmps75
  go_wp2_with fail
  have hE : Ext w (w.alloc (.cells A 26)) := (Ext.refl w).alloc _
  have hA : ∀ o, (w.alloc (.cells A 26)).cell? ⟨w.heap.size, o, none⟩ = A[o]? := fun o => World.cell?_alloc_new _ _ _ _
  have hz : w.heap.size < (w.alloc (.cells A 26)).heap.size := by simp
  generalize hV : w.alloc (.cells A 26) = V at hE hA hz ⊢
  clear hV
  obtain ⟨B, hB⟩ : ∃ B, B = w.heap.size := ⟨_, rfl⟩
  rw [← hB] at hA hz ⊢
  have hs3 := sl33 B
  have hs4 := sl34 B
  have hs5 := sl35 B
  have hmp : (V.drew.alloc (.map #[] 0)).ownsMap (H := Unit) Tryz.prog 3 (slR B) V.heap.size 0 (.map []) := World.ownsMap_made (H := Unit) V.drew Tryz.prog 3 (slR B)
  have hVd : Ext V (V.drew.alloc (.map #[] 0)) := (Ext.refl V).drew.alloc _
  have hbV : V.heap.size ≤ V.heap.size := Nat.le_refl _
  refine wp_region_any (by kernel_rfl) ?_
  refine wpAny_take (i := 1) (v := .pointer (some ⟨B, 0, none⟩)) rfl (by kernel_rfl) (by kernel_rfl) (by kernel_rfl) (fun _ _ _ h => h) (Or.inl ⟨by rfl, yl_field rfl rfl (fa_0 B)⟩) ?_
  change wpAny _ _ _ _ _ _ ⟨#[.agg A, .pointer (some ⟨B, 0, none⟩), .map none, undef, .pointer (some ⟨B, 0, none⟩), undef, undef, undef, undef, undef, undef, undef, undef, undef, undef], []⟩ _
  refine wpAny_take (i := 2) (v := .slice (some ⟨B, 0, none⟩) 12 12) rfl (by kernel_rfl) (by kernel_rfl) (by kernel_rfl) (fun _ _ _ h => h) (Or.inl ⟨by rfl, yl_slice rfl rfl (sl33 B 0)⟩) ?_
  change wpAny _ _ _ _ _ _ ⟨#[.agg A, .pointer (some ⟨B, 0, none⟩), .map none, undef, .pointer (some ⟨B, 0, none⟩), .slice (some ⟨B, 0, none⟩) 12 12, undef, undef, undef, undef, undef, undef, undef, undef, undef], []⟩ _
  refine wpAny_take (i := 4) (v := .pointer (some ⟨B, 12, none⟩)) rfl (by kernel_rfl) (by kernel_rfl) (by kernel_rfl) (fun _ _ _ h => h) (Or.inl ⟨by rfl, yl_field rfl rfl (fa_1 B)⟩) ?_
  change wpAny _ _ _ _ _ _ ⟨#[.agg A, .pointer (some ⟨B, 0, none⟩), .map none, undef, .pointer (some ⟨B, 0, none⟩), .slice (some ⟨B, 0, none⟩) 12 12, .pointer (some ⟨B, 12, none⟩), undef, undef, undef, undef, undef, undef, undef, undef], []⟩ _
  refine wpAny_take (i := 5) (v := .slice (some ⟨B, 12, none⟩) 12 12) rfl (by kernel_rfl) (by kernel_rfl) (by kernel_rfl) (fun _ _ _ h => h) (Or.inl ⟨by rfl, yl_slice rfl rfl (sl33 B 12)⟩) ?_
  change wpAny _ _ _ _ _ _ ⟨#[.agg A, .pointer (some ⟨B, 0, none⟩), .map none, undef, .pointer (some ⟨B, 0, none⟩), .slice (some ⟨B, 0, none⟩) 12 12, .pointer (some ⟨B, 12, none⟩), .slice (some ⟨B, 12, none⟩) 12 12, undef, undef, undef, undef, undef, undef, undef], []⟩ _
  refine wpAny_take (i := 7) (v := .pointer (some ⟨B, 24, none⟩)) rfl (by kernel_rfl) (by kernel_rfl) (by kernel_rfl) (fun _ _ _ h => h) (Or.inl ⟨by rfl, yl_field rfl rfl (fa_2 B)⟩) ?_
  change wpAny _ _ _ _ _ _ ⟨#[.agg A, .pointer (some ⟨B, 0, none⟩), .map none, undef, .pointer (some ⟨B, 0, none⟩), .slice (some ⟨B, 0, none⟩) 12 12, .pointer (some ⟨B, 12, none⟩), .slice (some ⟨B, 12, none⟩) 12 12, .pointer (some ⟨B, 24, none⟩), undef, undef, undef, undef, undef, undef], []⟩ _
  refine wpAny_take (i := 8) (v := .slice (some ⟨B, 24, none⟩) 7 7) rfl (by kernel_rfl) (by kernel_rfl) (by kernel_rfl) (fun _ _ _ h => h) (Or.inl ⟨by rfl, yl_slice rfl rfl (sl34 B 24)⟩) ?_
  change wpAny _ _ _ _ _ _ ⟨#[.agg A, .pointer (some ⟨B, 0, none⟩), .map none, undef, .pointer (some ⟨B, 0, none⟩), .slice (some ⟨B, 0, none⟩) 12 12, .pointer (some ⟨B, 12, none⟩), .slice (some ⟨B, 12, none⟩) 12 12, .pointer (some ⟨B, 24, none⟩), .slice (some ⟨B, 24, none⟩) 7 7, undef, undef, undef, undef, undef], []⟩ _
  refine wpAny_take (i := 10) (v := .pointer (some ⟨B, 31, none⟩)) rfl (by kernel_rfl) (by kernel_rfl) (by kernel_rfl) (fun _ _ _ h => h) (Or.inl ⟨by rfl, yl_field rfl rfl (fa_3 B)⟩) ?_
  change wpAny _ _ _ _ _ _ ⟨#[.agg A, .pointer (some ⟨B, 0, none⟩), .map none, undef, .pointer (some ⟨B, 0, none⟩), .slice (some ⟨B, 0, none⟩) 12 12, .pointer (some ⟨B, 12, none⟩), .slice (some ⟨B, 12, none⟩) 12 12, .pointer (some ⟨B, 24, none⟩), .slice (some ⟨B, 24, none⟩) 7 7, .pointer (some ⟨B, 31, none⟩), undef, undef, undef, undef], []⟩ _
  refine wpAny_take (i := 11) (v := .slice (some ⟨B, 31, none⟩) 7 7) rfl (by kernel_rfl) (by kernel_rfl) (by kernel_rfl) (fun _ _ _ h => h) (Or.inl ⟨by rfl, yl_slice rfl rfl (sl34 B 31)⟩) ?_
  change wpAny _ _ _ _ _ _ ⟨#[.agg A, .pointer (some ⟨B, 0, none⟩), .map none, undef, .pointer (some ⟨B, 0, none⟩), .slice (some ⟨B, 0, none⟩) 12 12, .pointer (some ⟨B, 12, none⟩), .slice (some ⟨B, 12, none⟩) 12 12, .pointer (some ⟨B, 24, none⟩), .slice (some ⟨B, 24, none⟩) 7 7, .pointer (some ⟨B, 31, none⟩), .slice (some ⟨B, 31, none⟩) 7 7, undef, undef, undef], []⟩ _
  refine wpAny_take (i := 13) (v := .pointer (some ⟨B, 38, none⟩)) rfl (by kernel_rfl) (by kernel_rfl) (by kernel_rfl) (fun _ _ _ h => h) (Or.inl ⟨by rfl, yl_field rfl rfl (fa_4 B)⟩) ?_
  change wpAny _ _ _ _ _ _ ⟨#[.agg A, .pointer (some ⟨B, 0, none⟩), .map none, undef, .pointer (some ⟨B, 0, none⟩), .slice (some ⟨B, 0, none⟩) 12 12, .pointer (some ⟨B, 12, none⟩), .slice (some ⟨B, 12, none⟩) 12 12, .pointer (some ⟨B, 24, none⟩), .slice (some ⟨B, 24, none⟩) 7 7, .pointer (some ⟨B, 31, none⟩), .slice (some ⟨B, 31, none⟩) 7 7, .pointer (some ⟨B, 38, none⟩), undef, undef], []⟩ _
  refine wpAny_take (i := 14) (v := .slice (some ⟨B, 38, none⟩) 2 2) rfl (by kernel_rfl) (by kernel_rfl) (by kernel_rfl) (fun _ _ _ h => h) (Or.inl ⟨by rfl, yl_slice rfl rfl (sl35 B 38)⟩) ?_
  change wpAny _ _ _ _ _ _ ⟨#[.agg A, .pointer (some ⟨B, 0, none⟩), .map none, undef, .pointer (some ⟨B, 0, none⟩), .slice (some ⟨B, 0, none⟩) 12 12, .pointer (some ⟨B, 12, none⟩), .slice (some ⟨B, 12, none⟩) 12 12, .pointer (some ⟨B, 24, none⟩), .slice (some ⟨B, 24, none⟩) 7 7, .pointer (some ⟨B, 31, none⟩), .slice (some ⟨B, 31, none⟩) 7 7, .pointer (some ⟨B, 38, none⟩), .slice (some ⟨B, 38, none⟩) 2 2, undef], []⟩ _
  refine wpAny_one (i := 0) (v := .map (some V.heap.size)) (w' := V.drew.alloc (.map #[] 0)) (by kernel_rfl) rfl (by rfl) (yl_make rfl _) ?_
  change wpAny _ _ _ _ _ _ ⟨#[.agg A, .pointer (some ⟨B, 0, none⟩), .map none, .map (some V.heap.size), .pointer (some ⟨B, 0, none⟩), .slice (some ⟨B, 0, none⟩) 12 12, .pointer (some ⟨B, 12, none⟩), .slice (some ⟨B, 12, none⟩) 12 12, .pointer (some ⟨B, 24, none⟩), .slice (some ⟨B, 24, none⟩) 7 7, .pointer (some ⟨B, 31, none⟩), .slice (some ⟨B, 31, none⟩) 7 7, .pointer (some ⟨B, 38, none⟩), .slice (some ⟨B, 38, none⟩) 2 2, undef], []⟩ _
  obtain ⟨b, hb⟩ : ∃ b, V.heap.size = b := ⟨_, rfl⟩
  rw [hb] at hz hmp ⊢
  show wpAny _ _ _ _ (5 + 2) _ _ _
  refine wpAny_inserts (m := .tmp 3) (fuel := 2) (L := #[true, true, true, true, true, true, true, true, true, true, true, true, true, true, true, true, false, false]) mkeyI Tryz.underlying104 (slR B) rfl 5 (lsJ B) _ _ 0 (.map []) rfl (by kernel_rfl) ?_ (by show [3, 6, 9, 12, 15].Nodup; decide) ?_ hmp isMap_empty (by decide) ?_
  · intro j hj
    simp only [lsJ, List.mem_cons, List.not_mem_nil, or_false] at hj
    rcases hj with rfl | rfl | rfl | rfl | rfl
    all_goals exact ⟨_, _, _, rfl, rfl, rfl, rfl, rfl, rfl, keyOf_int_mk Tryz.underlying3 (by rfl), [], by simp [slR]⟩
  · intro j hj j' hj'
    simp only [lsJ, List.mem_cons, List.not_mem_nil, or_false] at hj hj'
    rcases hj with rfl | rfl | rfl | rfl | rfl <;> rcases hj' with rfl | rfl | rfl | rfl | rfl <;> simp
  · intro w' D' hown' hg' hat'
    refine wpAny_one (i := 16) (v := .map (some b)) (w' := w') (by kernel_rfl) rfl (by rfl) (yl_move (x := .tmp 3) (u := .map (some b)) rfl rfl _) ?_
    change wpAny _ _ _ _ _ _ ⟨#[.agg A, .pointer (some ⟨B, 0, none⟩), .map none, .map (some b), .pointer (some ⟨B, 0, none⟩), .slice (some ⟨B, 0, none⟩) 12 12, .pointer (some ⟨B, 12, none⟩), .slice (some ⟨B, 12, none⟩) 12 12, .pointer (some ⟨B, 24, none⟩), .slice (some ⟨B, 24, none⟩) 7 7, .pointer (some ⟨B, 31, none⟩), .slice (some ⟨B, 31, none⟩) 7 7, .pointer (some ⟨B, 38, none⟩), .slice (some ⟨B, 38, none⟩) 2 2, .map (some b)], []⟩ _
    refine wpAny_one (i := 17) (v := .map (some b)) (w' := w') (by kernel_rfl) rfl (by rfl) (yl_assign (x := .tmp 14) (u := .map (some b)) rfl rfl _) ?_
    change wpAny _ _ _ _ _ _ ⟨#[.agg A, .pointer (some ⟨B, 0, none⟩), .map (some b), .map (some b), .pointer (some ⟨B, 0, none⟩), .slice (some ⟨B, 0, none⟩) 12 12, .pointer (some ⟨B, 12, none⟩), .slice (some ⟨B, 12, none⟩) 12 12, .pointer (some ⟨B, 24, none⟩), .slice (some ⟨B, 24, none⟩) 7 7, .pointer (some ⟨B, 31, none⟩), .slice (some ⟨B, 31, none⟩) 7 7, .pointer (some ⟨B, 38, none⟩), .slice (some ⟨B, 38, none⟩) 2 2, .map (some b)], []⟩ _
    refine wpAny_done (by kernel_rfl) ?_ _
    have hEw : Ext V w' := ext_grown_at hVd hg' (by omega)
    go_wp2_with fail
    refine bodyPost_ret (v := .map (some b)) (by simp [results, Tryz.results75, go_sem]) rfl ⟨b, D', rfl, ?_, ?_, ?_, ?_, hE.trans hEw⟩
    · rw [← hB]; exact hown'
    · rw [← hB]; exact hat'
    · rw [← hB]; exact Nat.lt_of_lt_of_le (by omega) hEw.size
    · rw [← hB]; exact fun o => (hEw.cells B o (by omega)).trans (hA o)
end Go.Proofs.YtlmoibmmjonjoaaGreatDoor
/- Patterns: the walks of the search for a name that begins another. -/
namespace Go.Proofs.YtlmoibmmjonjoaaGreatDoor
set_option linter.unusedVariables false
set_option linter.unusedSimpArgs false
open Go.RowKit

theorem hasPrefix_l (s p : List UInt8) (b : Bool) (w : World) (h : p.isPrefixOf s = b) : Calls Tryz.prog 79 #[.string ⟨s.toArray⟩, .string ⟨p.toArray⟩] w fun e w' => e = .returned (.bool b) ∧ w = w' := by
  refine (Tryz.strings_HasPrefix ⟨s.toArray⟩ ⟨p.toArray⟩ w).mono ?_
  rintro e w' ⟨rfl, rfl⟩
  refine ⟨?_, rfl⟩
  rw [← h]
  rfl
/-- Whether one of them begins with the other. -/
def eqpB (s t : List UInt8) : Bool := t.isPrefixOf s || s.isPrefixOf t
theorem clo_c (s t : List UInt8) (S : Nat) (w : World) (hS : w.cell? ⟨S, 0, none⟩ = some (.string ⟨s.toArray⟩)) :
    Calls Tryz.prog 78 #[.string ⟨t.toArray⟩, .pointer (some ⟨S, 0, none⟩)] w fun e w' => e = .returned (.bool (eqpB s t)) ∧ w = w' := by
  rcases Bool.eq_false_or_eq_true (t.isPrefixOf s) with h1 | h1
  · have H1 := Lib.hid h1
    have HE : Hid (eqpB s t = true) := by unfold Hid eqpB; rw [h1]; rfl
    clear h1
    go_enter Tryz.func78, Tryz.ntmps78
    go_wp2_with (first
      | (go_at_call 79; (with_reducible refine (hasPrefix_l s t true _ H1.out).mono ?_); rintro e w1 ⟨rfl, rfl⟩))
    go_ret
    exact ⟨by rw [HE.out]; rfl, rfl⟩
  · have H1 := Lib.hid h1
    have HE : Hid (eqpB s t = s.isPrefixOf t) := by unfold Hid eqpB; rw [h1]; rfl
    obtain ⟨b, hb⟩ : ∃ b, s.isPrefixOf t = b := ⟨_, rfl⟩
    have H2 := Lib.hid hb
    rw [hb] at HE
    clear h1 hb
    go_enter Tryz.func78, Tryz.ntmps78
    go_wp2_with (first
      | (go_at_call 79; (with_reducible refine (hasPrefix_l s t false _ H1.out).mono ?_); rintro e w1 ⟨rfl, rfl⟩)
      | (go_at_call 79; (with_reducible refine (hasPrefix_l t s b _ H2.out).mono ?_); rintro e w1 ⟨rfl, rfl⟩))
    go_ret
    exact ⟨by rw [HE.out]; rfl, rfl⟩
set_option maxHeartbeats 1000000 in
theorem idx_c (ws : List (List UInt8)) (s : List UInt8) (R off cap S : Nat) (w : World) (hw : RdS ws R off w) (hS : w.cell? ⟨S, 0, none⟩ = some (.string ⟨s.toArray⟩)) (hn : ws.length ≤ 1000) (hcap : ws.length ≤ cap) (hm : cap ≤ maxLen) :
    Calls Tryz.prog 112 #[.slice (some ⟨R, off, none⟩) ws.length cap, .func (.func 78) #[] #[.pointer (some ⟨S, 0, none⟩)]] w fun e w' => (∃ z : Int, e = .returned (.int .i64 z) ∧ (decide (0 ≤ z) = preB ws s)) ∧ w = w' := by
  have HR := Lib.hid hw.2
  have HP : Hid (preB ws s = ws.any (eqpB s)) := rfl
  unfold maxLen at hm
  clear hw
  go_enter Tryz.func112, Tryz.ntmps112
  go_wp2_with fail
  go_loop [8] (fun i => ∃ j : Nat, j ≤ ws.length ∧ i = .int .i64 (j : Int) ∧ Hid ((ws.take j).any (eqpB s) = false)) (fun i => ws.length - (intOf i).toNat)
  case atStart => exact ⟨0, Nat.zero_le _, rfl, rfl⟩
  case round =>
    obtain ⟨j, hj, rfl, Hall⟩ := hrel
    by_cases hlt : j < ws.length
    · have c0 := HR.out j hlt
      have Hs : Hid ((ws.take (j + 1)).any (eqpB s) = ((ws.take j).any (eqpB s) || eqpB s ws[j])) := by rw [Hid, List.take_add_one, List.any_append]; simp [hlt]
      have hmem : ws[j] ∈ ws := List.getElem_mem _
      obtain ⟨t, ht⟩ : ∃ t, t = ws[j] := ⟨_, rfl⟩
      rw [← ht] at c0 Hs hmem
      clear ht
      rcases Bool.eq_false_or_eq_true (eqpB s t) with hp | hp
      · have HV : Hid (preB ws s = true) := by rw [Hid, HP.out, List.any_eq_true]; exact ⟨t, hmem, hp⟩
        have Hp := Lib.hid hp
        clear hp hmem
        go_wp2_with (first
          | (go_at_call 78; (with_reducible refine (clo_c s t S _ hS).mono ?_); (with_reducible rw [Hp.out]); rintro e w1 ⟨rfl, rfl⟩))
        go_ret
        exact ⟨⟨(j : Int), rfl, by rw [HV.out]; simp⟩, rfl⟩
      · have Hp := Lib.hid hp
        have Hn : Hid ((ws.take (j + 1)).any (eqpB s) = false) := by rw [Hid, Hs.out, Hall.out, hp]; rfl
        clear hp hmem
        go_wp2_with (first
          | (go_at_call 78; (with_reducible refine (clo_c s t S _ hS).mono ?_); (with_reducible rw [Hp.out]); rintro e w1 ⟨rfl, rfl⟩))
        go_round
        case rel => exact ⟨j + 1, by omega, by go_num, Hn⟩
        case measure => simp [intOf]; omega
    · obtain rfl : j = ws.length := by omega
      have HV : Hid (preB ws s = false) := by rw [Hid, HP.out]; have := Hall.out; rwa [List.take_length] at this
      go_wp2_with fail
      go_ret
      exact ⟨⟨-1, rfl, by rw [HV.out]; rfl⟩, rfl⟩
theorem cfn_c (ws : List (List UInt8)) (s : List UInt8) (R off cap S : Nat) (b : Bool) (w : World) (hw : RdS ws R off w) (hS : w.cell? ⟨S, 0, none⟩ = some (.string ⟨s.toArray⟩)) (hn : ws.length ≤ 1000) (hcap : ws.length ≤ cap) (hm : cap ≤ maxLen) (hb : preB ws s = b) :
    Calls Tryz.prog 77 #[.slice (some ⟨R, off, none⟩) ws.length cap, .func (.func 78) #[] #[.pointer (some ⟨S, 0, none⟩)]] w fun e w' => e = .returned (.bool b) ∧ w = w' := by
  have HC := Lib.hid (idx_c ws s R off cap S w hw hS hn hcap hm)
  have Hb := Lib.hid hb
  clear hb
  go_enter Tryz.func77, Tryz.ntmps77
  go_wp2_with (first
    | (go_at_call 112; (with_reducible refine HC.out.mono ?_); rintro e w1 ⟨⟨z, rfl, hz⟩, rfl⟩))
  go_ret
  exact ⟨congrArg (fun b => Ending.returned (Value.bool b)) Hb.out, rfl⟩
end Go.Proofs.YtlmoibmmjonjoaaGreatDoor
/- Patterns: the walks of the questions on bytes and kinds. -/
namespace Go.Proofs.YtlmoibmmjonjoaaGreatDoor
set_option linter.unusedVariables false
set_option linter.unusedSimpArgs false
open Go.RowKit

theorem isLt_c (c : UInt8) (w : World) : Calls Tryz.prog 70 #[.int .u8 (c.toNat : Int)] w fun e w' => e = .returned (.bool (isLt c)) ∧ w = w' := by
  have hc : c.toNat < 256 := c.toNat_lt
  go_enter Tryz.func70, Tryz.ntmps70
  go_wp2
  all_goals
    go_ret
    refine ⟨?_, rfl⟩
    refine congrArg (fun b => Ending.returned (Value.bool b)) ?_
    unfold isLt
    rw [Bool.eq_iff_iff]
    simp
    omega
theorem prn_c (c : UInt8) (w : World) : Calls Tryz.prog 68 #[.int .u8 (c.toNat : Int)] w fun e w' => e = .returned (.bool (prn c)) ∧ w = w' := by
  have hc : c.toNat < 256 := c.toNat_lt
  go_enter Tryz.func68, Tryz.ntmps68
  go_wp2
  all_goals
    go_ret
    refine ⟨?_, rfl⟩
    refine congrArg (fun b => Ending.returned (Value.bool b)) ?_
    unfold prn
    rw [Bool.eq_iff_iff]
    simp
    omega
theorem full_c (k : Int) (w : World) : Calls Tryz.prog 109 #[.int .i64 k] w fun e w' => e = .returned (.int .i64 (fullZ k)) ∧ w = w' := by
  go_enter Tryz.func109, Tryz.ntmps109
  go_wp2
  all_goals
    go_ret
    refine ⟨?_, rfl⟩
    refine congrArg (fun b => Ending.returned (Value.int .i64 b)) ?_
    unfold fullZ
    simp_all
end Go.Proofs.YtlmoibmmjonjoaaGreatDoor
/- The cells of a list of parts. -/
namespace Go.Proofs.YtlmoibmmjonjoaaGreatDoor
set_option linter.unusedVariables false
set_option linter.unusedSimpArgs false

def pc (p : Prt) : List Value := [.int .i64 p.k, .int .i64 p.w, .string ⟨p.t.toArray⟩]
def pcs (l : List Prt) : List Value := l.flatMap pc
theorem pcs_nil : pcs [] = [] := rfl
theorem pcs_app (a b : List Prt) : pcs (a ++ b) = pcs a ++ pcs b := by simp [pcs]
theorem pcs_one (p : Prt) : pcs [p] = pc p := by simp [pcs]
theorem pcs_cons (p : Prt) (r : List Prt) : pcs (p :: r) = pc p ++ pcs r := by simp [pcs]
theorem pcs_len (l : List Prt) : (pcs l).length = 3 * l.length := by
  induction l with
  | nil => rfl
  | cons p r ih => rw [pcs_cons, List.length_append, ih]; simp [pc]; omega
theorem pcs_at : ∀ (l : List Prt) (i : Nat) (h : i < l.length), (pcs l)[3 * i]? = some (.int .i64 l[i].k) ∧ (pcs l)[3 * i + 1]? = some (.int .i64 l[i].w) ∧ (pcs l)[3 * i + 2]? = some (.string ⟨l[i].t.toArray⟩)
  | [], i, h => by simp at h
  | p :: r, 0, _ => by rw [pcs_cons]; exact ⟨rfl, rfl, rfl⟩
  | p :: r, i + 1, h => by
    have h' : i < r.length := by simpa using h
    obtain ⟨a, b, c⟩ := pcs_at r i h'
    rw [pcs_cons]
    have e : ∀ k, (pc p ++ pcs r)[3 * (i + 1) + k]? = (pcs r)[3 * i + k]? := by
      intro k
      rw [List.getElem?_append_right (by simp [pc]; omega)]
      congr 1
      simp [pc]; omega
    exact ⟨(e 0).trans a, (e 1).trans b, (e 2).trans c⟩
/-- A new text of the last part. -/
theorem pcs_set (r : List Prt) (p : Prt) (t : List UInt8) : (pcs (r ++ [p])).set (3 * r.length + 2) (.string ⟨t.toArray⟩) = pcs (r ++ [⟨p.k, p.w, t⟩]) := by
  rw [pcs_app, pcs_app, pcs_one, pcs_one, List.set_append_right _ _ (by rw [pcs_len]; omega), pcs_len]
  congr 1
  rw [show 3 * r.length + 2 - 3 * r.length = 2 by omega]
  rfl
theorem pcs_one_cell (l : List Prt) : ∀ u ∈ pcs l, u.oneCell' = true := by
  intro u hu
  unfold pcs at hu
  rw [List.mem_flatMap] at hu
  obtain ⟨p, _, hp⟩ := hu
  simp only [pc, List.mem_cons, List.not_mem_nil, or_false] at hp
  rcases hp with rfl | rfl | rfl <;> rfl
end Go.Proofs.YtlmoibmmjonjoaaGreatDoor
/- Patterns: the walk of part. -/
namespace Go.Proofs.YtlmoibmmjonjoaaGreatDoor
set_option linter.unusedVariables false
set_option linter.unusedSimpArgs false
open Go.RowKit

theorem all_succP {α : Type} (P : List α) (f : α → Bool) (j : Nat) (h : j < P.length) : (P.take (j + 1)).all f = ((P.take j).all f && f P[j]) := by
  rw [List.take_add_one, List.all_append]; simp [h]
theorem prn_lit (c : UInt8) (b : Bool) (w : World) (h : prn c = b) : Calls Tryz.prog 68 #[.int .u8 (c.toNat : Int)] w fun e w' => e = .returned (.bool b) ∧ w = w' := by
  have q := prn_c c w
  rw [h] at q
  exact q
def pv (p : Prt) : Value := .agg #[.int .i64 p.k, .int .i64 p.w, .string ⟨p.t.toArray⟩]
end Go.Proofs.YtlmoibmmjonjoaaGreatDoor
/- Patterns, plainly: what loses nothing. No program in sight. -/
namespace Go.Proofs.YtlmoibmmjonjoaaGreatDoor
set_option linter.unusedVariables false
set_option linter.unusedSimpArgs false

def fstB (q : Prt) : UInt8 := if q.k = 1 then q.t.headD 0 else 0
/-- Bad next to each other, as the program asks. -/
def badB (p q : Prt) : Bool :=
  (decide (0 < fullZ p.k) && decide (p.w < fullZ p.k) && (decide (0 < fullZ q.k) || decide (q.k = 15) || isDg (fstB q))) ||
  (decide (p.k = 14) && decide (fstB q = 58)) ||
  (decide (p.k = 15) && (decide (q.k ≠ 1) || isLt (fstB q) || isDg (fstB q) || decide (fstB q = 43) || decide (fstB q = 45)))
/-- .. and as the reference asks. -/
def badR (p q : Prt) : Bool :=
  (decide (p.w < fullZ p.k) && (decide (0 < fullZ q.k) || decide (q.k = 15) || isDg (fstB q))) ||
  (decide (p.k = 14) && decide (fstB q = 58)) ||
  (decide (p.k = 15) && (decide (q.k ≠ 1) || isLt (fstB q) || isDg (fstB q) || decide (fstB q = 43) || decide (fstB q = 45)))
def losL : List Prt → Bool
  | p :: q :: r => !badB p q && losL (q :: r)
  | _ => true
def hasK (l : List Prt) (ks : List Int) : Bool := l.any fun p => ks.contains p.k
def losB (l : List Prt) : Bool := validB l && hasK l [2] && hasK l [3, 4, 5] && hasK l [6] && (hasK l [9] || (hasK l [10] && hasK l [13])) && hasK l [11] && hasK l [12] && losL l
theorem partB_width {p : Prt} (h : partB p = true) : 0 ≤ p.w := by
  unfold partB at h
  by_cases hk : p.k = 1
  · rw [if_pos hk] at h
    simp only [Bool.and_eq_true, decide_eq_true_eq] at h
    omega
  · rw [if_neg hk] at h
    by_cases q : 0 < fullZ p.k
    · rw [if_pos q] at h
      simp only [Bool.and_eq_true, decide_eq_true_eq] at h
      omega
    · rw [if_neg q] at h
      simp only [Bool.and_eq_true, decide_eq_true_eq] at h
      omega
theorem badR_eq {p : Prt} (q : Prt) (h : partB p = true) : badR p q = badB p q := by
  have hw := partB_width h
  unfold badR badB
  by_cases hf : p.w < fullZ p.k
  · rw [decide_eq_true hf, decide_eq_true (show 0 < fullZ p.k by omega)]; simp
  · rw [decide_eq_false hf]; simp
theorem hasK_or (l : List Prt) (a b c : Int) : hasK l [a, b, c] = (hasK l [a] || hasK l [b] || hasK l [c]) := by
  unfold hasK
  rw [Bool.eq_iff_iff]
  simp only [Bool.or_eq_true, List.any_eq_true, List.contains_cons, List.contains_nil, Bool.or_false, beq_iff_eq]
  constructor
  · rintro ⟨x, hx, h⟩
    rcases h with h | h | h
    · exact .inl (.inl ⟨x, hx, h⟩)
    · exact .inl (.inr ⟨x, hx, h⟩)
    · exact .inr ⟨x, hx, h⟩
  · rintro ((⟨x, hx, h⟩ | ⟨x, hx, h⟩) | ⟨x, hx, h⟩)
    · exact ⟨x, hx, .inl h⟩
    · exact ⟨x, hx, .inr (.inl h)⟩
    · exact ⟨x, hx, .inr (.inr h)⟩
/-- All parts of a valid list are parts. -/
theorem tailB_all : ∀ (l : List Prt) (q : Option Prt), tailB q l = true → ∀ p ∈ l, partB p = true
  | [], _, _, p, hp => by simp at hp
  | x :: r, q, h, p, hp => by
    have h' : partB x = true ∧ tailB (some x) r = true := by
      cases q with
      | none => simpa [tailB] using h
      | some q =>
        simp only [tailB, Bool.and_eq_true] at h
        exact ⟨h.1.1, h.2⟩
    rcases List.mem_cons.1 hp with rfl | hp
    · exact h'.1
    · exact tailB_all r (some x) h'.2 p hp
end Go.Proofs.YtlmoibmmjonjoaaGreatDoor
/- Decimal digits, plainly. -/
namespace Go.Proofs.YtlmoibmmjonjoaaGreatDoor

def dg1 (n : Nat) : UInt8 := UInt8.ofNat (48 + n % 10)
/-- The last k decimal digits of n. -/
def padN : Nat → Nat → List UInt8
  | 0, _ => []
  | k + 1, n => padN k (n / 10) ++ [dg1 n]
theorem padN_length (k n : Nat) : (padN k n).length = k := by
  induction k generalizing n with
  | zero => rfl
  | succ k ih => simp [padN, ih]
theorem dg1_toNat (n : Nat) : (dg1 n).toNat = 48 + n % 10 := by
  unfold dg1
  have : n % 10 < 10 := Nat.mod_lt _ (by decide)
  rw [UInt8.toNat_ofNat']; omega
/-- One digit more, in front. -/
theorem padN_cons (k n : Nat) : padN (k + 1) n = dg1 (n / 10 ^ k) :: padN k n := by
  induction k generalizing n with
  | zero => simp [padN]
  | succ k ih =>
    rw [padN, ih (n / 10)]
    show dg1 (n / 10 / 10 ^ k) :: (padN k (n / 10) ++ [dg1 n]) = _
    rw [Nat.div_div_eq_div_mul, Nat.pow_succ, Nat.mul_comm 10]
    rfl
theorem padN_decDigits (n : Nat) : padN (Lib.nDigits n) n = Lib.decDigits n := by
  induction n using Nat.strongRecOn with
  | _ n ih =>
    by_cases h : n < 10
    · rw [Lib.nDigits_small h, Lib.decDigits, dif_pos h]
      simp [padN, dg1, Nat.mod_eq_of_lt h]
    · rw [Lib.nDigits_big h, Lib.decDigits, dif_neg h, padN, ih (n / 10) (by omega)]
      rfl
/-- A decimal text with at least k digits. -/
def itx (n k : Nat) : List UInt8 := padN (max (Lib.nDigits n) k) n
theorem nDigits_le {n k : Nat} (hk : 1 ≤ k) (h : n < 10 ^ k) : Lib.nDigits n ≤ k := by
  induction k generalizing n with
  | zero => omega
  | succ k ih =>
    by_cases h10 : n < 10
    · rw [Lib.nDigits_small h10]; omega
    · rw [Lib.nDigits_big h10]
      rw [Nat.pow_succ] at h
      rcases Nat.eq_zero_or_pos k with rfl | hk0
      · simp at h; omega
      · have := ih (n := n / 10) hk0 (by omega)
        omega
theorem itx_small {n k : Nat} (hk : 1 ≤ k) (h : n < 10 ^ k) : itx n k = padN k n := by
  unfold itx
  rw [Nat.max_eq_right (nDigits_le hk h)]
theorem itx_one (n : Nat) : itx n 1 = Lib.decDigits n := by
  unfold itx
  rw [Nat.max_eq_left (Lib.nDigits_pos n), padN_decDigits]
theorem pow_nDigits (n : Nat) (j : Nat) (hj : j < Lib.nDigits n) (hn : 0 < n) : 0 < n / 10 ^ j := by
  have : 10 ^ j ≤ n := by
    induction j generalizing n with
    | zero => simp; omega
    | succ j ih =>
      by_cases h : n < 10
      · rw [Lib.nDigits_small h] at hj; omega
      · rw [Lib.nDigits_big h] at hj
        have := ih (n / 10) (by omega) (by omega)
        rw [Nat.pow_succ]; omega
  exact Nat.div_pos this (Nat.pow_pos (by decide))
theorem div_nDigits (n : Nat) : n / 10 ^ Lib.nDigits n = 0 := Nat.div_eq_of_lt (Lib.lt_pow_nDigits n)
theorem nDigits_20 (n : Nat) (h : n < 18446744073709551616) : Lib.nDigits n ≤ 20 := nDigits_le (by decide) (by omega)
theorem div_zero_of {n j : Nat} (hn : 0 < n) (h : n / 10 ^ j = 0) : Lib.nDigits n ≤ j := by
  rcases Nat.lt_or_ge j (Lib.nDigits n) with q | q
  · have := pow_nDigits n j q hn; omega
  · exact q

/-- The cells of the array of 24 bytes when the last j digits lie in it. -/
def txC (n j : Nat) : Array Value := (List.replicate (24 - j) (Value.int .u8 0) ++ (padN j n).map fun c => Value.int .u8 c.toNat).toArray
theorem txC_size (n j : Nat) (h : j ≤ 24) : (txC n j).size = 24 := by simp [txC, padN_length]; omega
theorem txC_zero (n : Nat) : txC n 0 = #[.int .u8 0, .int .u8 0, .int .u8 0, .int .u8 0, .int .u8 0, .int .u8 0, .int .u8 0, .int .u8 0, .int .u8 0, .int .u8 0, .int .u8 0, .int .u8 0, .int .u8 0, .int .u8 0, .int .u8 0, .int .u8 0, .int .u8 0, .int .u8 0, .int .u8 0, .int .u8 0, .int .u8 0, .int .u8 0, .int .u8 0, .int .u8 0] := rfl
theorem txC_step (n j : Nat) (h : j < 24) : (txC n j).setIfInBounds (23 - j) (.int .u8 ((48 + n / 10 ^ j % 10 : Nat) : Int)) = txC n (j + 1) := by
  unfold txC
  rw [padN_cons, List.setIfInBounds_toArray]
  congr 1
  rw [show 24 - j = (24 - (j + 1)) + 1 from by omega, List.replicate_succ', List.append_assoc, List.set_append_right _ _ (by simp <;> omega)]
  have e : 23 - j - (List.replicate (24 - (j + 1)) (Value.int .u8 0)).length = 0 := by simp <;> omega
  rw [e]
  simp [dg1_toNat]
theorem txC_step' (n j q : Nat) (h : j < 24) (hq : q = n / 10 ^ j) : (txC n j).setIfInBounds (24 - j - 1) (.int .u8 (48 + (q : Int) % 10)) = txC n (j + 1) := by
  rw [← txC_step n j h, hq, show 24 - j - 1 = 23 - j from by omega]
  congr 2
theorem div_pow_succ (n j q : Nat) (hq : q = n / 10 ^ j) : q / 10 = n / 10 ^ (j + 1) := by
  rw [hq, Nat.div_div_eq_div_mul, Nat.pow_succ]
theorem txC_get (n j i : Nat) (hj : j ≤ 24) (hi : i < 24) : ∃ x : Int, (txC n j)[i]? = some (.int .u8 x) := by
  have hs := txC_size n j hj
  rw [Array.getElem?_eq_getElem (by omega)]
  unfold txC
  simp only [List.getElem_toArray]
  rw [List.getElem_append]
  split
  · exact ⟨0, by simp⟩
  · exact ⟨_, by simp; rfl⟩
theorem txC_at (n j i : Nat) (_ : j ≤ 24) (c : UInt8) (h : (padN j n)[i]? = some c) : (txC n j)[24 - j + i]? = some (.int .u8 c.toNat) := by
  unfold txC
  simp only [List.getElem?_toArray]
  rw [List.getElem?_append_right (by simp)]
  simp [h]
end Go.Proofs.YtlmoibmmjonjoaaGreatDoor
