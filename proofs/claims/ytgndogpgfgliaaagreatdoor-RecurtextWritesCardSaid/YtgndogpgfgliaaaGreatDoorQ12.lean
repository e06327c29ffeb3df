/- Recurrence rules: the walks of the parts' makers: listed, counted, worded; the words. -/
import Derived.Test.YtgndogpgfgliaaaGreatDoorQ11
namespace Go.Proofs.YtgndogpgfgliaaaGreatDoor
set_option linter.unusedVariables false
set_option linter.unnecessarySimpa false
set_option linter.unusedSimpArgs false
open Go.RowKit

theorem there_frm {W w : World} {R n : Nat} {S : Nat → Prop} (h : W.there R 0 n) (hl : R < W.heap.size) (hF : Frm S W w) (hS : ¬ S R) : w.there R 0 n := fun j hj => by
  obtain ⟨a, b⟩ := h j hj
  exact ⟨by rw [hF.cel hl hS]; exact a, by rw [hF.frz hl hS]; exact b⟩
theorem range_frm {w w' : World} {R : Nat} {vs : List Value} {S : Nat → Prop} (h : R < w.heap.size ∧ w.rangeAt R 0 vs) (hF : Frm S w w') (hS : ¬ S R) : R < w'.heap.size ∧ w'.rangeAt R 0 vs :=
  ⟨hF.lt h.1, fun j v hv => (hF.cel h.1 hS _).trans (h.2 j v hv)⟩
theorem thr_new (w : World) (C : Array Value) (t : TypeId) (n : Nat) (hn : n = C.size) : (w.alloc (.cells C t)).there w.heap.size 0 n := by
  subst hn
  intro j hj
  constructor
  · rw [Nat.zero_add, World.cell?_alloc_new, Array.getElem?_eq_getElem hj]; rfl
  · rw [World.frozen?_alloc_new]
theorem frm_sets {S : Nat → Prop} (w : World) (b : Nat) : ∀ (vs : List Value) (o : Nat), S b → Frm S w (w.setCells b o vs) := by
  intro vs o hS
  induction vs generalizing w o with
  | nil => exact Frm.refl _ _
  | cons v r ih => rw [World.setCells]; exact ((Frm.refl S w).setCell (p := ⟨b, o, none⟩) (.inl hS) v).trans (ih _ _)
theorem range_set (w : World) (R : Nat) (vs : List Value) (hR : R < w.heap.size) (ht : w.there R 0 vs.length) : R < (w.setCells R 0 vs).heap.size ∧ (w.setCells R 0 vs).rangeAt R 0 vs :=
  ⟨(frm_sets (S := fun _ => True) w R vs 0 trivial).lt hR, World.rangeAt_setCells_same w R 0 vs ht⟩
/-- A store into a variable of its own: what is known behind it. -/
theorem wpList_store_gen {P : Program} {ops : Array Oper} {rest : List Oper} {op : Oper} {a : Act} {w : World} {Q : Exit → Act → World → Prop} (hgd : op.guard = none) (ty : TypeId) (x y : Operand) (ho : op.op = .store ty x y)
    (B : Nat) (vs : List Value) (hx : a.eval x = .pointer (some ⟨B, 0, none⟩)) (hy : a.eval y = .agg vs.toArray) (hB : B < w.heap.size)
    (ht : w.there B 0 vs.length) (hi : (P.info? ty).map (·.size) = some vs.length) (h1 : vs.all (·.oneCell') = true)
    (h : ∀ W, Frm (fun k => k = B) w W → B < W.heap.size → W.rangeAt B 0 vs → wpList P ops Q rest (a.put op.dst undef) W) : wpList P ops Q (op :: rest) a w := by
  refine wpList_store_mid hgd ty x y ho B 0 vs.toArray hx hy (by simpa using ht) (by simpa using hi) (by rw [List.all_toArray]; exact h1) ?_
  have hf := frm_sets (S := fun k => k = B) w B vs 0 rfl
  obtain ⟨r1, r2⟩ := range_set w B vs hB ht
  exact h _ hf r1 r2
theorem results_c1 {fn : Func} {tmps : Array Value} {w : World} {a : Tmp} {t : TypeId} {v : Value} {p : Addr} (h : fn.results = #[.cell a t]) (hp : tmps.getD a undef = .pointer (some p)) (h1 : (loadVar t p).run Tryz.prog w = .ok v w) : (results fn tmps).run Tryz.prog w = .ok v w := by
  unfold results
  rw [h]
  have hp2 : tmps[a]?.getD undef = .pointer (some p) := by rw [← hp]; simp
  simp [hp2, h1, asAddr]
/-- A cell of one value. -/
def BxV (Y : Nat) (v : Value) (w : World) : Prop := Y < w.heap.size ∧ w.cell? ⟨Y, 0, none⟩ = some v
theorem BxV.ext {Y : Nat} {v : Value} {w w' : World} (h : BxV Y v w) (hE : Ext w w') : BxV Y v w' := ⟨hE.lt h.1, (hE.cells _ _ h.1).trans h.2⟩
theorem freq_c (w : World) : Calls Tryz.prog 78 #[] w fun e w' => (∃ H, e = .returned (.slice (some ⟨H, 0, none⟩) 5 5) ∧ RdS frW H 0 w') ∧ Ext w w' := by
  have hR0 : RdS frW w.heap.size 0 (w.alloc (.cells (sv frW).toArray 9)) := by
    refine ⟨by simp, fun i hi => ?_⟩
    rw [Nat.zero_add, World.cell?_alloc_new]
    simp [sv, hi]
  go_enter Tryz.func78, Tryz.ntmps78
  go_wp2_with fail
  go_ret
  exact ⟨⟨_, rfl, hR0⟩, (Ext.refl w).alloc _⟩
theorem letters_c (w : World) : Calls Tryz.prog 64 #[] w fun e w' => (∃ H, e = .returned (.slice (some ⟨H, 0, none⟩) 7 7) ∧ RdS wkW H 0 w') ∧ Ext w w' := by
  have hR0 : RdS wkW w.heap.size 0 (w.alloc (.cells (sv wkW).toArray 9)) := by
    refine ⟨by simp, fun i hi => ?_⟩
    rw [Nat.zero_add, World.cell?_alloc_new]
    simp [sv, hi]
  go_enter Tryz.func64, Tryz.ntmps64
  go_wp2_with fail
  go_ret
  exact ⟨⟨_, rfl, hR0⟩, (Ext.refl w).alloc _⟩
set_option maxRecDepth 100000 in
theorem listed_c (nm : List UInt8) (f : Nat) (w : World) : Calls Tryz.prog 87 #[.string ⟨nm.toArray⟩, (.func (.func f) #[] #[] : Value)] w fun e w' =>
    (∃ Y, e = .returned (.agg #[.string ⟨nm.toArray⟩, .func (.func 136) #[] #[.pointer (some ⟨Y, 0, none⟩)], .func (.func 138) #[] #[.pointer (some ⟨Y, 0, none⟩)]]) ∧ BxV Y (.func (.func f) #[] #[]) w' ∧ w.heap.size ≤ Y) ∧ Ext w w' := by
  obtain ⟨Y, hY⟩ : ∃ Y, Y = w.heap.size := ⟨_, rfl⟩
  go_enter Tryz.func87, Tryz.ntmps87
  go_upto_region 1 with fail
  have hE0 : Ext w ((w.alloc (.cells #[.func (.func f) #[] #[]] 127)).alloc (.cells #[.string ⟨#[]⟩, .nilFunc, .nilFunc] 67)) := ((Ext.refl w).alloc _).alloc _
  have hY0 : ((w.alloc (.cells #[.func (.func f) #[] #[]] 127)).alloc (.cells #[.string ⟨#[]⟩, .nilFunc, .nilFunc] 67)).cell? ⟨w.heap.size, 0, none⟩ = some (.func (.func f) #[] #[]) := by
    rw [World.cell?_alloc_lt _ _ _ (by simp), World.cell?_alloc_new]; rfl
  have hz0 : (w.alloc (.cells #[.func (.func f) #[] #[]] 127)).heap.size = w.heap.size + 1 := by simp
  have hz : ((w.alloc (.cells #[.func (.func f) #[] #[]] 127)).alloc (.cells #[.string ⟨#[]⟩, .nilFunc, .nilFunc] 67)).heap.size = w.heap.size + 2 := by simp
  have ht : ((w.alloc (.cells #[.func (.func f) #[] #[]] 127)).alloc (.cells #[.string ⟨#[]⟩, .nilFunc, .nilFunc] 67)).there (w.heap.size + 1) 0 3 := by
    have := thr_new (w.alloc (.cells #[.func (.func f) #[] #[]] 127)) #[.string ⟨#[]⟩, .nilFunc, .nilFunc] 67 3 rfl
    rwa [hz0] at this
  generalize (w.alloc (.cells #[.func (.func f) #[] #[]] 127)).alloc (.cells #[.string ⟨#[]⟩, .nilFunc, .nilFunc] 67) = W at *
  go_wp2_with ((refine wpList_store_gen (op := ⟨none, .store 67 (.tmp 4) (.tmp 8), _, _, _, _⟩) rfl 67 _ _ rfl (w.heap.size + 1) [.string ⟨nm.toArray⟩, .func (.func 136) #[] #[.pointer (some ⟨w.heap.size, 0, none⟩)], .func (.func 138) #[] #[.pointer (some ⟨w.heap.size, 0, none⟩)]] rfl rfl (by omega) ht (by kernel_rfl) rfl ?_; intro W2 hF2 hl2 hr2))
  refine bodyPost_ret (results_c1 rfl rfl (run_loadVar_mid W2 (w.heap.size + 1) 0 67 _ _ hr2 Tryz.underlying67 rfl (by kernel_rfl))) rfl ⟨⟨w.heap.size, rfl, ⟨?_, ?_⟩, Nat.le_refl _⟩, ?_⟩
  · omega
  · exact (hF2.cel (by omega) (fun e => by omega) 0).trans hY0
  · exact Frm.far hE0 hF2 (fun k hk e => by omega)
set_option maxRecDepth 100000 in
theorem counted_c (nm : List UInt8) (u : Int) (f : Nat) (w : World) : Calls Tryz.prog 80 #[.string ⟨nm.toArray⟩, .int .i64 u, .func (.func f) #[] #[]] w fun e w' =>
    (∃ Z Y, e = .returned (.agg #[.string ⟨nm.toArray⟩, .func (.func 129) #[] #[.pointer (some ⟨Y, 0, none⟩)], .func (.func 130) #[] #[.pointer (some ⟨Y, 0, none⟩), .pointer (some ⟨Z, 0, none⟩)]]) ∧ BxV Z (.int .i64 u) w' ∧ BxV Y (.func (.func f) #[] #[]) w' ∧ w.heap.size ≤ Y) ∧ Ext w w' := by
  obtain ⟨W0, hW0⟩ : ∃ W0, W0 = (w.alloc (.cells #[.int .i64 u] 3)).alloc (.cells #[.func (.func f) #[] #[]] 119) := ⟨_, rfl⟩
  have hEb : Ext w W0 := by rw [hW0]; exact ((Ext.refl w).alloc _).alloc _
  have hzb : W0.heap.size = w.heap.size + 2 := by rw [hW0]; simp
  have hb0 : W0.cell? ⟨w.heap.size, 0, none⟩ = some (.int .i64 u) := by rw [hW0]; rw [World.cell?_alloc_lt _ _ _ (by simp), World.cell?_alloc_new]; rfl
  have hb1 : W0.cell? ⟨w.heap.size + 1, 0, none⟩ = some (.func (.func f) #[] #[]) := by rw [hW0]; have h := World.cell?_alloc_new (w.alloc (.cells #[.int .i64 u] 3)) #[.func (.func f) #[] #[]] 119 0; simpa using h
  have ht : (W0.alloc (.cells #[.string ⟨#[]⟩, .nilFunc, .nilFunc] 67)).there (w.heap.size + 2) 0 3 := by
    have := thr_new W0 #[.string ⟨#[]⟩, .nilFunc, .nilFunc] 67 3 rfl
    rwa [hzb] at this
  have hE0 : Ext w (W0.alloc (.cells #[.string ⟨#[]⟩, .nilFunc, .nilFunc] 67)) := hEb.alloc _
  have hE1 : Ext W0 (W0.alloc (.cells #[.string ⟨#[]⟩, .nilFunc, .nilFunc] 67)) := (Ext.refl W0).alloc _
  have hz : (W0.alloc (.cells #[.string ⟨#[]⟩, .nilFunc, .nilFunc] 67)).heap.size = w.heap.size + 2 + 1 := by simp [hzb]
  go_enter Tryz.func80, Tryz.ntmps80
  go_upto_region 1 with fail
  rw [← hW0]
  generalize W0.alloc (.cells #[.string ⟨#[]⟩, .nilFunc, .nilFunc] 67) = W at *
  go_wp2_with ((refine wpList_store_gen (op := ⟨none, .store 67 (.tmp 6) (.tmp 10), _, _, _, _⟩) rfl 67 _ _ rfl (w.heap.size + 2) [.string ⟨nm.toArray⟩, .func (.func 129) #[] #[.pointer (some ⟨w.heap.size + 1, 0, none⟩)], .func (.func 130) #[] #[.pointer (some ⟨w.heap.size + 1, 0, none⟩), .pointer (some ⟨w.heap.size, 0, none⟩)]] rfl rfl (by omega) ht (by kernel_rfl) rfl ?_; intro W2 hF2 hl2 hr2))
  refine bodyPost_ret (results_c1 rfl rfl (run_loadVar_mid W2 (w.heap.size + 2) 0 67 _ _ hr2 Tryz.underlying67 rfl (by kernel_rfl))) rfl ⟨⟨w.heap.size, w.heap.size + 1, rfl, ⟨by omega, ?_⟩, ⟨by omega, ?_⟩, by omega⟩, ?_⟩
  · exact (hF2.cel (by omega) (fun e => by omega) 0).trans ((hE1.cells _ _ (by omega)).trans hb0)
  · exact (hF2.cel (by omega) (fun e => by omega) 0).trans ((hE1.cells _ _ (by omega)).trans hb1)
  · exact Frm.far hE0 hF2 (fun k hk e => by omega)
set_option maxRecDepth 100000 in
theorem worded_c (nm : List UInt8) (u : Int) (H n : Nat) (f : Nat) (w : World) : Calls Tryz.prog 77 #[.string ⟨nm.toArray⟩, .int .i64 u, .slice (some ⟨H, 0, none⟩) n n, .func (.func f) #[] #[]] w fun e w' =>
    (∃ Z V Y, e = .returned (.agg #[.string ⟨nm.toArray⟩, .func (.func 127) #[] #[.pointer (some ⟨V, 0, none⟩), .pointer (some ⟨Y, 0, none⟩)], .func (.func 128) #[] #[.pointer (some ⟨Y, 0, none⟩), .pointer (some ⟨Z, 0, none⟩), .pointer (some ⟨V, 0, none⟩)]]) ∧ BxV Z (.int .i64 u) w' ∧ BxV V (.slice (some ⟨H, 0, none⟩) n n) w' ∧ w.heap.size ≤ V ∧ BxV Y (.func (.func f) #[] #[]) w' ∧ w.heap.size ≤ Y) ∧ Ext w w' := by
  obtain ⟨W0, hW0⟩ : ∃ W0, W0 = ((w.alloc (.cells #[.int .i64 u] 3)).alloc (.cells #[.slice (some ⟨H, 0, none⟩) n n] 55)).alloc (.cells #[.func (.func f) #[] #[]] 119) := ⟨_, rfl⟩
  have hEb : Ext w W0 := by rw [hW0]; exact (((Ext.refl w).alloc _).alloc _).alloc _
  have hzb : W0.heap.size = w.heap.size + 3 := by rw [hW0]; simp
  have hb0 : W0.cell? ⟨w.heap.size, 0, none⟩ = some (.int .i64 u) := by rw [hW0]; rw [World.cell?_alloc_lt _ _ _ (by simp; omega), World.cell?_alloc_lt _ _ _ (by simp), World.cell?_alloc_new]; rfl
  have hb2 : W0.cell? ⟨w.heap.size + 1, 0, none⟩ = some (.slice (some ⟨H, 0, none⟩) n n) := by rw [hW0, World.cell?_alloc_lt _ _ _ (by simp)]; have h := World.cell?_alloc_new (w.alloc (.cells #[.int .i64 u] 3)) #[.slice (some ⟨H, 0, none⟩) n n] 55 0; simpa using h
  have hb1 : W0.cell? ⟨w.heap.size + 2, 0, none⟩ = some (.func (.func f) #[] #[]) := by rw [hW0]; have h := World.cell?_alloc_new ((w.alloc (.cells #[.int .i64 u] 3)).alloc (.cells #[.slice (some ⟨H, 0, none⟩) n n] 55)) #[.func (.func f) #[] #[]] 119 0; simpa using h
  have ht : (W0.alloc (.cells #[.string ⟨#[]⟩, .nilFunc, .nilFunc] 67)).there (w.heap.size + 3) 0 3 := by
    have := thr_new W0 #[.string ⟨#[]⟩, .nilFunc, .nilFunc] 67 3 rfl
    rwa [hzb] at this
  have hE0 : Ext w (W0.alloc (.cells #[.string ⟨#[]⟩, .nilFunc, .nilFunc] 67)) := hEb.alloc _
  have hE1 : Ext W0 (W0.alloc (.cells #[.string ⟨#[]⟩, .nilFunc, .nilFunc] 67)) := (Ext.refl W0).alloc _
  have hz : (W0.alloc (.cells #[.string ⟨#[]⟩, .nilFunc, .nilFunc] 67)).heap.size = w.heap.size + 3 + 1 := by simp [hzb]
  go_enter Tryz.func77, Tryz.ntmps77
  go_upto_region 1 with fail
  rw [← hW0]
  generalize W0.alloc (.cells #[.string ⟨#[]⟩, .nilFunc, .nilFunc] 67) = W at *
  go_wp2_with ((refine wpList_store_gen (op := ⟨none, .store 67 (.tmp 8) (.tmp 12), _, _, _, _⟩) rfl 67 _ _ rfl (w.heap.size + 3) [.string ⟨nm.toArray⟩, .func (.func 127) #[] #[.pointer (some ⟨w.heap.size + 1, 0, none⟩), .pointer (some ⟨w.heap.size + 2, 0, none⟩)], .func (.func 128) #[] #[.pointer (some ⟨w.heap.size + 2, 0, none⟩), .pointer (some ⟨w.heap.size, 0, none⟩), .pointer (some ⟨w.heap.size + 1, 0, none⟩)]] rfl rfl (by omega) ht (by kernel_rfl) rfl ?_; intro W2 hF2 hl2 hr2))
  refine bodyPost_ret (results_c1 rfl rfl (run_loadVar_mid W2 (w.heap.size + 3) 0 67 _ _ hr2 Tryz.underlying67 rfl (by kernel_rfl))) rfl ⟨⟨w.heap.size, w.heap.size + 1, w.heap.size + 2, rfl, ⟨by omega, ?_⟩, ⟨by omega, ?_⟩, by omega, ⟨by omega, ?_⟩, by omega⟩, ?_⟩
  · exact (hF2.cel (by omega) (fun e => by omega) 0).trans ((hE1.cells _ _ (by omega)).trans hb0)
  · exact (hF2.cel (by omega) (fun e => by omega) 0).trans ((hE1.cells _ _ (by omega)).trans hb2)
  · exact (hF2.cel (by omega) (fun e => by omega) 0).trans ((hE1.cells _ _ (by omega)).trans hb1)
  · exact Frm.far hE0 hF2 (fun k hk e => by omega)
end Go.Proofs.YtgndogpgfgliaaaGreatDoor
/- Recurrence rules: the walks of the functions that say where a field lies, and of fields. -/
namespace Go.Proofs.YtgndogpgfgliaaaGreatDoor
set_option linter.unusedVariables false
set_option linter.unnecessarySimpa false
set_option linter.unusedSimpArgs false
open Go.RowKit

/-- The function that says where field k lies, and the place. -/
def atF : Nat → Nat
  | 0 => 79
  | 1 => 81
  | 2 => 82
  | 4 => 88
  | 5 => 89
  | 6 => 90
  | 7 => 91
  | 9 => 94
  | 10 => 95
  | 11 => 96
  | 12 => 97
  | 13 => 98
  | _ => 0
def offF : Nat → Nat
  | 0 => 0
  | 1 => 1
  | 2 => 2
  | 4 => 4
  | 5 => 7
  | 6 => 6
  | 7 => 5
  | 9 => 9
  | 10 => 10
  | 11 => 11
  | 12 => 12
  | 13 => 13
  | 3 => 3
  | 8 => 8
  | _ => 0
def AtC (f off : Nat) : Prop := (∀ (xs : Array Value) (w' : World), (callFunc f xs).run Tryz.prog w' = .ok (.enter f xs) w') ∧ ∀ (B : Nat) (w : World), Calls Tryz.prog f #[.pointer (some ⟨B, 0, none⟩)] w fun e w' => e = .returned (.pointer (some ⟨B, off, none⟩)) ∧ w = w'
theorem at0_c : AtC (atF 0) (offF 0) := by
  refine ⟨fun xs w' => by kernel_rfl, fun B w => ?_⟩
  show Calls Tryz.prog 79 _ w _
  go_enter Tryz.func79, Tryz.ntmps79
  go_wp2_with fail
  go_ret
  exact ⟨rfl, rfl⟩
theorem at1_c : AtC (atF 1) (offF 1) := by
  refine ⟨fun xs w' => by kernel_rfl, fun B w => ?_⟩
  show Calls Tryz.prog 81 _ w _
  go_enter Tryz.func81, Tryz.ntmps81
  go_wp2_with fail
  go_ret
  exact ⟨rfl, rfl⟩
theorem at2_c : AtC (atF 2) (offF 2) := by
  refine ⟨fun xs w' => by kernel_rfl, fun B w => ?_⟩
  show Calls Tryz.prog 82 _ w _
  go_enter Tryz.func82, Tryz.ntmps82
  go_wp2_with fail
  go_ret
  exact ⟨rfl, rfl⟩
theorem at4_c : AtC (atF 4) (offF 4) := by
  refine ⟨fun xs w' => by kernel_rfl, fun B w => ?_⟩
  show Calls Tryz.prog 88 _ w _
  go_enter Tryz.func88, Tryz.ntmps88
  go_wp2_with fail
  go_ret
  exact ⟨rfl, rfl⟩
theorem at5_c : AtC (atF 5) (offF 5) := by
  refine ⟨fun xs w' => by kernel_rfl, fun B w => ?_⟩
  show Calls Tryz.prog 89 _ w _
  go_enter Tryz.func89, Tryz.ntmps89
  go_wp2_with fail
  go_ret
  exact ⟨rfl, rfl⟩
theorem at6_c : AtC (atF 6) (offF 6) := by
  refine ⟨fun xs w' => by kernel_rfl, fun B w => ?_⟩
  show Calls Tryz.prog 90 _ w _
  go_enter Tryz.func90, Tryz.ntmps90
  go_wp2_with fail
  go_ret
  exact ⟨rfl, rfl⟩
theorem at7_c : AtC (atF 7) (offF 7) := by
  refine ⟨fun xs w' => by kernel_rfl, fun B w => ?_⟩
  show Calls Tryz.prog 91 _ w _
  go_enter Tryz.func91, Tryz.ntmps91
  go_wp2_with fail
  go_ret
  exact ⟨rfl, rfl⟩
theorem at9_c : AtC (atF 9) (offF 9) := by
  refine ⟨fun xs w' => by kernel_rfl, fun B w => ?_⟩
  show Calls Tryz.prog 94 _ w _
  go_enter Tryz.func94, Tryz.ntmps94
  go_wp2_with fail
  go_ret
  exact ⟨rfl, rfl⟩
theorem at10_c : AtC (atF 10) (offF 10) := by
  refine ⟨fun xs w' => by kernel_rfl, fun B w => ?_⟩
  show Calls Tryz.prog 95 _ w _
  go_enter Tryz.func95, Tryz.ntmps95
  go_wp2_with fail
  go_ret
  exact ⟨rfl, rfl⟩
theorem at11_c : AtC (atF 11) (offF 11) := by
  refine ⟨fun xs w' => by kernel_rfl, fun B w => ?_⟩
  show Calls Tryz.prog 96 _ w _
  go_enter Tryz.func96, Tryz.ntmps96
  go_wp2_with fail
  go_ret
  exact ⟨rfl, rfl⟩
theorem at12_c : AtC (atF 12) (offF 12) := by
  refine ⟨fun xs w' => by kernel_rfl, fun B w => ?_⟩
  show Calls Tryz.prog 97 _ w _
  go_enter Tryz.func97, Tryz.ntmps97
  go_wp2_with fail
  go_ret
  exact ⟨rfl, rfl⟩
theorem at13_c : AtC (atF 13) (offF 13) := by
  refine ⟨fun xs w' => by kernel_rfl, fun B w => ?_⟩
  show Calls Tryz.prog 98 _ w _
  go_enter Tryz.func98, Tryz.ntmps98
  go_wp2_with fail
  go_ret
  exact ⟨rfl, rfl⟩
/-- How field k is read. -/
def rdV (y z v : Nat → Nat) : Nat → Value
  | 0 => .func (.func 127) #[] #[.pointer (some ⟨v 0, 0, none⟩), .pointer (some ⟨y 0, 0, none⟩)]
  | 1 => .func (.func 129) #[] #[.pointer (some ⟨y 1, 0, none⟩)]
  | 2 => .func (.func 129) #[] #[.pointer (some ⟨y 2, 0, none⟩)]
  | 3 => .func (.func 83) #[] #[]
  | 8 => .func (.func 92) #[] #[]
  | 13 => .func (.func 127) #[] #[.pointer (some ⟨v 13, 0, none⟩), .pointer (some ⟨y 13, 0, none⟩)]
  | k => .func (.func 136) #[] #[.pointer (some ⟨y k, 0, none⟩)]
/-- How field k is written. -/
def wrV (y z v : Nat → Nat) : Nat → Value
  | 0 => .func (.func 128) #[] #[.pointer (some ⟨y 0, 0, none⟩), .pointer (some ⟨z 0, 0, none⟩), .pointer (some ⟨v 0, 0, none⟩)]
  | 1 => .func (.func 130) #[] #[.pointer (some ⟨y 1, 0, none⟩), .pointer (some ⟨z 1, 0, none⟩)]
  | 2 => .func (.func 130) #[] #[.pointer (some ⟨y 2, 0, none⟩), .pointer (some ⟨z 2, 0, none⟩)]
  | 3 => .func (.func 86) #[] #[]
  | 8 => .func (.func 93) #[] #[]
  | 13 => .func (.func 128) #[] #[.pointer (some ⟨y 13, 0, none⟩), .pointer (some ⟨z 13, 0, none⟩), .pointer (some ⟨v 13, 0, none⟩)]
  | k => .func (.func 138) #[] #[.pointer (some ⟨y k, 0, none⟩)]
def fnA (f : Nat) : Value := .func (.func f) #[] #[]
/-- The boxes of the fields. -/
structure Bxs (b : Nat) (y z v : Nat → Nat) (h0 h13 : Nat) (w : World) : Prop where
  y0 : BxV (y 0) (fnA (atF 0)) w ∧ b ≤ y 0
  y1 : BxV (y 1) (fnA (atF 1)) w ∧ b ≤ y 1
  y2 : BxV (y 2) (fnA (atF 2)) w ∧ b ≤ y 2
  y4 : BxV (y 4) (fnA (atF 4)) w ∧ b ≤ y 4
  y5 : BxV (y 5) (fnA (atF 5)) w ∧ b ≤ y 5
  y6 : BxV (y 6) (fnA (atF 6)) w ∧ b ≤ y 6
  y7 : BxV (y 7) (fnA (atF 7)) w ∧ b ≤ y 7
  y9 : BxV (y 9) (fnA (atF 9)) w ∧ b ≤ y 9
  y10 : BxV (y 10) (fnA (atF 10)) w ∧ b ≤ y 10
  y11 : BxV (y 11) (fnA (atF 11)) w ∧ b ≤ y 11
  y12 : BxV (y 12) (fnA (atF 12)) w ∧ b ≤ y 12
  y13 : BxV (y 13) (fnA (atF 13)) w ∧ b ≤ y 13
  z0 : BxV (z 0) (.int .i64 0) w
  z1 : BxV (z 1) (.int .i64 1) w
  z2 : BxV (z 2) (.int .i64 0) w
  z13 : BxV (z 13) (.int .i64 1) w
  v0 : BxV (v 0) (.slice (some ⟨h0, 0, none⟩) 5 5) w ∧ b ≤ v 0
  v13 : BxV (v 13) (.slice (some ⟨h13, 0, none⟩) 7 7) w ∧ b ≤ v 13
  h0 : RdS frW h0 0 w
  h13 : RdS wkW h13 0 w
theorem Bxs.ext {b : Nat} {y z v : Nat → Nat} {h0 h13 : Nat} {w w' : World} (h : Bxs b y z v h0 h13 w) (hE : Ext w w') : Bxs b y z v h0 h13 w' :=
  ⟨⟨h.y0.1.ext hE, h.y0.2⟩, ⟨h.y1.1.ext hE, h.y1.2⟩, ⟨h.y2.1.ext hE, h.y2.2⟩, ⟨h.y4.1.ext hE, h.y4.2⟩, ⟨h.y5.1.ext hE, h.y5.2⟩, ⟨h.y6.1.ext hE, h.y6.2⟩, ⟨h.y7.1.ext hE, h.y7.2⟩, ⟨h.y9.1.ext hE, h.y9.2⟩, ⟨h.y10.1.ext hE, h.y10.2⟩, ⟨h.y11.1.ext hE, h.y11.2⟩, ⟨h.y12.1.ext hE, h.y12.2⟩, ⟨h.y13.1.ext hE, h.y13.2⟩, h.z0.ext hE, h.z1.ext hE, h.z2.ext hE, h.z13.ext hE, ⟨h.v0.1.ext hE, h.v0.2⟩, ⟨h.v13.1.ext hE, h.v13.2⟩, h.h0.ext hE, h.h13.ext hE⟩
/-- The fields' cells: names and functions. -/
def fldV (y z v : Nat → Nat) : List Value := (List.range 14).flatMap fun k => [.string ⟨(ptW.getD k []).toArray⟩, rdV y z v k, wrV y z v k]
set_option maxRecDepth 100000 in
set_option maxHeartbeats 4000000 in
theorem fields_c (w : World) : Calls Tryz.prog 35 #[] w fun e w' => (∃ H h0 h13 y z v, e = .returned (.slice (some ⟨H, 0, none⟩) 14 14) ∧ H < w'.heap.size ∧ w'.rangeAt H 0 (fldV y z v) ∧ Bxs w.heap.size y z v h0 h13 w') ∧ Ext w w' := by
  go_enter Tryz.func35, Tryz.ntmps35
  go_wp2_with (first
    | (go_at_call 78; (with_reducible refine (freq_c _).mono ?_); rintro e w1 ⟨⟨h0, rfl, b1⟩, hE1⟩)
    | (go_at_call 77; (with_reducible refine (worded_c [70, 82, 69, 81] 0 h0 5 79 w1).mono ?_); rintro e w2 ⟨⟨z0, v0, y0, rfl, a2, d2, f2, b2, g2⟩, hE2⟩)
    | (go_at_call 80; (with_reducible refine (counted_c [73, 78, 84, 69, 82, 86, 65, 76] 1 81 w2).mono ?_); rintro e w3 ⟨⟨z1, y1, rfl, a3, b3, g3⟩, hE3⟩)
    | (go_at_call 80; (with_reducible refine (counted_c [67, 79, 85, 78, 84] 0 82 w3).mono ?_); rintro e w4 ⟨⟨z2, y2, rfl, a4, b4, g4⟩, hE4⟩)
    | (go_at_call 87; (with_reducible refine (listed_c [66, 89, 77, 79, 78, 84, 72] 88 w4).mono ?_); rintro e w5 ⟨⟨y4, rfl, b5, g5⟩, hE5⟩)
    | (go_at_call 87; (with_reducible refine (listed_c [66, 89, 87, 69, 69, 75, 78, 79] 89 w5).mono ?_); rintro e w6 ⟨⟨y5, rfl, b6, g6⟩, hE6⟩)
    | (go_at_call 87; (with_reducible refine (listed_c [66, 89, 89, 69, 65, 82, 68, 65, 89] 90 w6).mono ?_); rintro e w7 ⟨⟨y6, rfl, b7, g7⟩, hE7⟩)
    | (go_at_call 87; (with_reducible refine (listed_c [66, 89, 77, 79, 78, 84, 72, 68, 65, 89] 91 w7).mono ?_); rintro e w8 ⟨⟨y7, rfl, b8, g8⟩, hE8⟩)
    | (go_at_call 87; (with_reducible refine (listed_c [66, 89, 72, 79, 85, 82] 94 w8).mono ?_); rintro e w9 ⟨⟨y9, rfl, b9, g9⟩, hE9⟩)
    | (go_at_call 87; (with_reducible refine (listed_c [66, 89, 77, 73, 78, 85, 84, 69] 95 w9).mono ?_); rintro e w10 ⟨⟨y10, rfl, b10, g10⟩, hE10⟩)
    | (go_at_call 87; (with_reducible refine (listed_c [66, 89, 83, 69, 67, 79, 78, 68] 96 w10).mono ?_); rintro e w11 ⟨⟨y11, rfl, b11, g11⟩, hE11⟩)
    | (go_at_call 87; (with_reducible refine (listed_c [66, 89, 83, 69, 84, 80, 79, 83] 97 w11).mono ?_); rintro e w12 ⟨⟨y12, rfl, b12, g12⟩, hE12⟩)
    | (go_at_call 64; (with_reducible refine (letters_c _).mono ?_); rintro e w13 ⟨⟨h13, rfl, b13⟩, hE13⟩)
    | (go_at_call 77; (with_reducible refine (worded_c [87, 75, 83, 84] 1 h13 7 98 w13).mono ?_); rintro e w14 ⟨⟨z13, v13, y13, rfl, a14, d14, f14, b14, g14⟩, hE14⟩))
  go_ret
  obtain ⟨W, hW⟩ : ∃ W, W = w14.alloc (.cells (fldV (fun k => match k with | 0 => y0 | 1 => y1 | 2 => y2 | 4 => y4 | 5 => y5 | 6 => y6 | 7 => y7 | 9 => y9 | 10 => y10 | 11 => y11 | 12 => y12 | 13 => y13 | _ => 0) (fun k => match k with | 0 => z0 | 1 => z1 | 2 => z2 | 13 => z13 | _ => 0) (fun k => match k with | 0 => v0 | 13 => v13 | _ => 0)).toArray 67) := ⟨_, rfl⟩
  have X14 : Ext w14 W := by rw [hW]; exact (Ext.refl _).alloc _
  have X13 : Ext w13 W := hE14.trans X14
  have X12 : Ext w12 W := hE13.trans X13
  have X11 : Ext w11 W := hE12.trans X12
  have X10 : Ext w10 W := hE11.trans X11
  have X9 : Ext w9 W := hE10.trans X10
  have X8 : Ext w8 W := hE9.trans X9
  have X7 : Ext w7 W := hE8.trans X8
  have X6 : Ext w6 W := hE7.trans X7
  have X5 : Ext w5 W := hE6.trans X6
  have X4 : Ext w4 W := hE5.trans X5
  have X3 : Ext w3 W := hE4.trans X4
  have X2 : Ext w2 W := hE3.trans X3
  have X1 : Ext w1 W := hE2.trans X2
  have X0 : Ext w W := hE1.trans X1
  have S1 := hE1.size
  have S2 := Nat.le_trans S1 hE2.size
  have S3 := Nat.le_trans S2 hE3.size
  have S4 := Nat.le_trans S3 hE4.size
  have S5 := Nat.le_trans S4 hE5.size
  have S6 := Nat.le_trans S5 hE6.size
  have S7 := Nat.le_trans S6 hE7.size
  have S8 := Nat.le_trans S7 hE8.size
  have S9 := Nat.le_trans S8 hE9.size
  have S10 := Nat.le_trans S9 hE10.size
  have S11 := Nat.le_trans S10 hE11.size
  have S12 := Nat.le_trans S11 hE12.size
  have S13 := Nat.le_trans S12 hE13.size
  have S14 := Nat.le_trans S13 hE14.size
  refine ⟨⟨w14.heap.size, h0, h13, (fun k => match k with | 0 => y0 | 1 => y1 | 2 => y2 | 4 => y4 | 5 => y5 | 6 => y6 | 7 => y7 | 9 => y9 | 10 => y10 | 11 => y11 | 12 => y12 | 13 => y13 | _ => 0), (fun k => match k with | 0 => z0 | 1 => z1 | 2 => z2 | 13 => z13 | _ => 0), (fun k => match k with | 0 => v0 | 13 => v13 | _ => 0), rfl, ?_, ?_, ?_⟩, ?_⟩
  · simp
  · intro j v hv
    rw [Nat.zero_add, World.cell?_alloc_new]
    rw [← hv]
    exact Array.getElem?_toList.symm
  · have : Bxs w.heap.size (fun k => match k with | 0 => y0 | 1 => y1 | 2 => y2 | 4 => y4 | 5 => y5 | 6 => y6 | 7 => y7 | 9 => y9 | 10 => y10 | 11 => y11 | 12 => y12 | 13 => y13 | _ => 0) (fun k => match k with | 0 => z0 | 1 => z1 | 2 => z2 | 13 => z13 | _ => 0) (fun k => match k with | 0 => v0 | 13 => v13 | _ => 0) h0 h13 W := ⟨⟨b2.ext X2, Nat.le_trans (by omega) g2⟩, ⟨b3.ext X3, Nat.le_trans (by omega) g3⟩, ⟨b4.ext X4, Nat.le_trans (by omega) g4⟩, ⟨b5.ext X5, Nat.le_trans (by omega) g5⟩, ⟨b6.ext X6, Nat.le_trans (by omega) g6⟩, ⟨b7.ext X7, Nat.le_trans (by omega) g7⟩, ⟨b8.ext X8, Nat.le_trans (by omega) g8⟩, ⟨b9.ext X9, Nat.le_trans (by omega) g9⟩, ⟨b10.ext X10, Nat.le_trans (by omega) g10⟩, ⟨b11.ext X11, Nat.le_trans (by omega) g11⟩, ⟨b12.ext X12, Nat.le_trans (by omega) g12⟩, ⟨b14.ext X14, Nat.le_trans (by omega) g14⟩, a2.ext X2, a3.ext X3, a4.ext X4, a14.ext X14, ⟨d2.ext X2, Nat.le_trans (by omega) f2⟩, ⟨d14.ext X14, Nat.le_trans (by omega) f14⟩, b1.ext X1, b13.ext X13⟩
    rw [hW] at this
    exact this
  · have := X0
    rw [hW] at this
    exact this
end Go.Proofs.YtgndogpgfgliaaaGreatDoor
