/- Recurrence rules: the description, piece by piece (plainly). No program in sight. -/
import Derived.Test.YtgndogpgfgliaaaGreatDoorQ23
import Derived.Test.YtgndogpgfgliaaaGreatDoorQ49
import Derived.Test.YtgndogpgfgliaaaGreatDoorQ31
namespace Go.Proofs.YtgndogpgfgliaaaGreatDoor
set_option linter.unusedVariables false
set_option linter.unnecessarySimpa false
set_option linter.unusedSimpArgs false
open Go.RowKit

def optL (b : Bool) (y : List UInt8) : List (List UInt8) := if b = true then [] else [y]
def hdW : List (List UInt8) := [[105, 110, 32, 116, 104, 101, 32, 119, 101, 101, 107, 115, 32], [111, 110, 32, 116, 104, 101, 32, 100, 97, 121, 115, 32, 111, 102, 32, 116, 104, 101, 32, 121, 101, 97, 114, 32], [111, 110, 32, 116, 104, 101, 32, 100, 97, 121, 115, 32, 111, 102, 32, 116, 104, 101, 32, 109, 111, 110, 116, 104, 32], [111, 110, 32], [97, 116, 32, 116, 104, 101, 32, 104, 111, 117, 114, 115, 32], [97, 116, 32, 116, 104, 101, 32, 109, 105, 110, 117, 116, 101, 115, 32], [97, 116, 32, 116, 104, 101, 32, 115, 101, 99, 111, 110, 100, 115, 32], [111, 110, 108, 121, 32, 116, 104, 101, 32, 110, 117, 109, 98, 101, 114, 115, 32]]
/-- The words of the list i of the eight. -/
def wdsD (R : RecD) (i : Nat) : List (List UInt8) :=
  match i with
  | 0 => R.wk.map decZ
  | 1 => R.yd.map decZ
  | 2 => R.md.map decZ
  | 3 => R.da.map dayD
  | 4 => R.ho.map decZ
  | 5 => R.mi.map decZ
  | 6 => R.se.map decZ
  | _ => R.po.map decZ
def hedD (R : RecD) : List UInt8 := [101, 118, 101, 114, 121, 32] ++ (if R.iv = 1 then getW unW R.fr else decZ R.iv ++ (32 :: (getW unW R.fr ++ [115])))
/-- The description, up to the list k. -/
def preD (R : RecD) : Nat → List UInt8
  | 0 => if R.mo = [] then hedD R else hedD R ++ (sCom ++ ([105, 110, 32] ++ wordsT (R.mo.map (getW moW))))
  | k + 1 => if wdsD R k = [] then preD R k else preD R k ++ (sCom ++ (hdW.getD k [] ++ wordsT (wdsD R k)))
def finD (momT : Int → List UInt8) (R : RecD) : List UInt8 :=
  let a := if R.ct = 0 then preD R 8 else preD R 8 ++ (sCom ++ (decZ R.ct ++ [32, 116, 105, 109, 101, 115]))
  let b := if R.un = 0 then a else a ++ (sCom ++ ([117, 110, 116, 105, 108, 32] ++ momT R.un))
  if R.ws = 1 then b else b ++ (sCom ++ ([119, 101, 101, 107, 115, 32, 98, 101, 103, 105, 110, 32, 111, 110, 32] ++ getW wdW R.ws))
theorem join_opt {c : Prop} [Decidable c] (xs : List (List UInt8)) (y : List UInt8) (h : xs ≠ []) : Lib.join (xs ++ (if c then [] else [y])) sCom = if c then Lib.join xs sCom else Lib.join xs sCom ++ (sCom ++ y) := by
  by_cases q : c
  · rw [if_pos q, if_pos q, List.append_nil]
  · rw [if_neg q, if_neg q, join_snoc30, if_neg h]
theorem map_nil_iff {α β : Type} (l : List α) (f : α → β) : (l.map f = []) = (l = []) := by simp
theorem desZ_eq (momT : Int → List UInt8) (R : RecD) : desZ momT R = finD momT R := by
  unfold desZ pceZ finD
  rw [join_opt _ _ (by simp), join_opt _ _ (by simp), join_opt _ _ (by simp), join_opt _ _ (by simp), join_opt _ _ (by simp), join_opt _ _ (by simp), join_opt _ _ (by simp), join_opt _ _ (by simp), join_opt _ _ (by simp), join_opt _ _ (by simp), join_opt _ _ (by simp), join_opt _ _ (by simp), Lib.join_one]
  simp only [preD, wdsD, map_nil_iff]
  rfl
theorem preD_no {R : RecD} {k : Nat} (h : wdsD R k = []) : preD R (k + 1) = preD R k := by rw [preD, if_pos h]
theorem preD_yes {R : RecD} {k : Nat} (h : wdsD R k ≠ []) : preD R (k + 1) = preD R k ++ (sCom ++ (hdW.getD k [] ++ wordsT (wdsD R k))) := by rw [preD, if_neg h]
theorem preD_le (R : RecD) (k : Nat) : (preD R k).length ≤ (preD R (k + 1)).length := by
  by_cases h : wdsD R k = []
  · rw [preD_no h]; exact Nat.le_refl _
  · rw [preD_yes h, List.length_append]; omega
theorem preD_fin (momT : Int → List UInt8) (R : RecD) : (preD R 8).length ≤ (finD momT R).length := by
  unfold finD
  simp only
  split <;> split <;> split <;> (try simp only [List.length_append]) <;> omega
theorem preD_len (momT : Int → List UInt8) (R : RecD) : ∀ d k, k + d = 8 → (preD R k).length ≤ (finD momT R).length
  | 0, k, h => by
    obtain rfl : k = 8 := by omega
    exact preD_fin momT R
  | d + 1, k, h => Nat.le_trans (preD_le R k) (preD_len momT R d (k + 1) (by omega))
end Go.Proofs.YtgndogpgfgliaaaGreatDoor
/- Recurrence rules: the eight lists of words in memory. -/
namespace Go.Proofs.YtgndogpgfgliaaaGreatDoor
set_option linter.unusedVariables false
set_option linter.unnecessarySimpa false
set_option linter.unusedSimpArgs false
open Go.RowKit

/-- Words in a slice that may be empty. -/
def RwS (ws : List (List UInt8)) (ao : Option Addr) (c : Nat) (w : World) : Prop := (ws = [] ∨ ∃ g, ao = some ⟨g, 0, none⟩ ∧ RdS ws g 0 w) ∧ ws.length ≤ c
theorem RwS.ext {ws : List (List UInt8)} {ao : Option Addr} {c : Nat} {w w' : World} (h : RwS ws ao c w) (hE : Ext w w') : RwS ws ao c w' := by
  obtain ⟨h1, h2⟩ := h
  refine ⟨?_, h2⟩
  rcases h1 with h | ⟨g, h, h3⟩
  · exact .inl h
  · exact .inr ⟨g, h, h3.ext hE⟩
theorem RwS.own {ws : List (List UInt8)} {b : Nat} {ao : Option Addr} {c : Nat} {w : World} (h : w.ownsRow b 9 1 (.slice ao ws.length c) ws.length (sv ws)) : RwS ws ao c w := by
  by_cases h0 : ws = []
  · subst h0
    exact ⟨.inl rfl, Nat.zero_le _⟩
  · obtain ⟨g, cp, he, hc, -, hR, -⟩ := RdS.of_own h rfl h0
    injection he with e1 _ e3
    exact ⟨.inr ⟨g, e1, hR⟩, by rw [e3]; exact hc⟩
def TxS (ws : List (List UInt8)) (x : Value) (w : World) : Prop := ∃ ao c, x = .slice ao ws.length c ∧ RwS ws ao c w
theorem TxS.ext {ws : List (List UInt8)} {x : Value} {w w' : World} (h : TxS ws x w) (hE : Ext w w') : TxS ws x w' := by
  obtain ⟨ao, c, h1, h2⟩ := h
  exact ⟨ao, c, h1, h2.ext hE⟩
theorem rtexts_x (l : List Int) (ao : Option Addr) (cap : Nat) (w : World) (hV : IsV ao cap l w) (hn : l.length ≤ 60) (hi : ∀ n ∈ l, -999 ≤ n ∧ n ≤ 999) :
    Calls Tryz.prog 52 #[.slice ao l.length cap] w fun e w' => ∃ x, e = .returned x ∧ TxS (l.map decZ) x w' ∧ Ext w w' :=
  (rtexts_c l ao cap w hV (by omega) (fun n hn => by have := hi n hn; omega)).mono fun e w' ⟨a2, c2, h1, h2, h3⟩ => by
    refine ⟨_, h1, ⟨a2, c2, by rw [List.length_map], ?_⟩, h3⟩
    refine RwS.own (b := w.heap.size) ?_
    rw [List.length_map]
    exact h2
def LsT (R : RecD) (b0 : Nat) (x : Value) (w : World) : Prop := ∃ (b : Nat) (A : Nat → Option Addr) (C : Nat → Nat), x = .slice (some ⟨b, 0, none⟩) 8 8 ∧ b0 ≤ b ∧ b < w.heap.size ∧ w.cell? ⟨b, 3, none⟩ = some (.slice none 0 0) ∧ w.frozen? ⟨b, 3, none⟩ = false ∧
  ∀ i, i < 8 → i ≠ 3 → w.cell? ⟨b, i, none⟩ = some (.slice (A i) (wdsD R i).length (C i)) ∧ RwS (wdsD R i) (A i) (C i) w
theorem LsT.ext {R : RecD} {b0 : Nat} {x : Value} {w w' : World} (h : LsT R b0 x w) (hE : Ext w w') : LsT R b0 x w' := by
  obtain ⟨b, A, C, h1, h2, h3, h4, h5, h6⟩ := h
  exact ⟨b, A, C, h1, h2, hE.lt h3, (hE.cells _ _ h3).trans h4, (hE.frozens _ _ h3).trans h5, fun i hi h3' => ⟨(hE.cells _ _ h3).trans (h6 i hi h3').1, (h6 i hi h3').2.ext hE⟩⟩
theorem bs8_run {a0 a1 a2 a3 a4 a5 a6 a7 : Option Addr} {l0 l1 l2 l3 l4 l5 l6 l7 c0 c1 c2 c3 c4 c5 c6 c7 : Nat} (w : World) : (Instr.buildSlice 59 8 #[(0, .slice a0 l0 c0), (1, .slice a1 l1 c1), (2, .slice a2 l2 c2), (3, .slice a3 l3 c3), (4, .slice a4 l4 c4), (5, .slice a5 l5 c5), (6, .slice a6 l6 c6), (7, .slice a7 l7 c7)]).run Tryz.prog w = .ok (.slice (some ⟨w.heap.size, 0, none⟩) 8 8) (w.alloc (.cells #[.slice a0 l0 c0, .slice a1 l1 c1, .slice a2 l2 c2, .slice a3 l3 c3, .slice a4 l4 c4, .slice a5 l5 c5, .slice a6 l6 c6, .slice a7 l7 c7] 55)) := by
  kernel_rfl
theorem LsT.new {R : RecD} {b0 : Nat} {w : World} (hb : b0 ≤ w.heap.size) {a0 : Option Addr} {c0 : Nat} {a1 : Option Addr} {c1 : Nat} {a2 : Option Addr} {c2 : Nat} {a3 : Option Addr} {c3 : Nat} {a4 : Option Addr} {c4 : Nat} {a5 : Option Addr} {c5 : Nat} {a6 : Option Addr} {c6 : Nat} (w0 : RwS (R.wk.map decZ) a0 c0 w) (w1 : RwS (R.yd.map decZ) a1 c1 w) (w2 : RwS (R.md.map decZ) a2 c2 w) (w3 : RwS (R.ho.map decZ) a3 c3 w) (w4 : RwS (R.mi.map decZ) a4 c4 w) (w5 : RwS (R.se.map decZ) a5 c5 w) (w6 : RwS (R.po.map decZ) a6 c6 w) :
    LsT R b0 (.slice (some ⟨w.heap.size, 0, none⟩) 8 8) (w.alloc (.cells #[.slice a0 (R.wk.map decZ).length c0, .slice a1 (R.yd.map decZ).length c1, .slice a2 (R.md.map decZ).length c2, .slice none 0 0, .slice a3 (R.ho.map decZ).length c3, .slice a4 (R.mi.map decZ).length c4, .slice a5 (R.se.map decZ).length c5, .slice a6 (R.po.map decZ).length c6] 55)) := by
  have hc : ∀ o, (w.alloc (.cells #[.slice a0 (R.wk.map decZ).length c0, .slice a1 (R.yd.map decZ).length c1, .slice a2 (R.md.map decZ).length c2, .slice none 0 0, .slice a3 (R.ho.map decZ).length c3, .slice a4 (R.mi.map decZ).length c4, .slice a5 (R.se.map decZ).length c5, .slice a6 (R.po.map decZ).length c6] 55)).cell? ⟨w.heap.size, o, none⟩ = (#[.slice a0 (R.wk.map decZ).length c0, .slice a1 (R.yd.map decZ).length c1, .slice a2 (R.md.map decZ).length c2, .slice none 0 0, .slice a3 (R.ho.map decZ).length c3, .slice a4 (R.mi.map decZ).length c4, .slice a5 (R.se.map decZ).length c5, .slice a6 (R.po.map decZ).length c6] : Array Value)[o]? := fun o => World.cell?_alloc_new _ _ _ _
  have hE : Ext w (w.alloc (.cells #[.slice a0 (R.wk.map decZ).length c0, .slice a1 (R.yd.map decZ).length c1, .slice a2 (R.md.map decZ).length c2, .slice none 0 0, .slice a3 (R.ho.map decZ).length c3, .slice a4 (R.mi.map decZ).length c4, .slice a5 (R.se.map decZ).length c5, .slice a6 (R.po.map decZ).length c6] 55)) := (Ext.refl w).alloc _
  refine ⟨w.heap.size, fun i => match i with | 0 => a0 | 1 => a1 | 2 => a2 | 4 => a3 | 5 => a4 | 6 => a5 | _ => a6, fun i => match i with | 0 => c0 | 1 => c1 | 2 => c2 | 4 => c3 | 5 => c4 | 6 => c5 | _ => c6, rfl, hb, by simp, (hc 3).trans rfl, World.frozen?_alloc_new _ _ _ _, fun i hi h3 => ?_⟩
  rcases (show i = 0 ∨ i = 1 ∨ i = 2 ∨ i = 4 ∨ i = 5 ∨ i = 6 ∨ i = 7 by omega) with rfl | rfl | rfl | rfl | rfl | rfl | rfl
  · exact ⟨(hc 0).trans rfl, w0.ext hE⟩
  · exact ⟨(hc 1).trans rfl, w1.ext hE⟩
  · exact ⟨(hc 2).trans rfl, w2.ext hE⟩
  · exact ⟨(hc 4).trans rfl, w3.ext hE⟩
  · exact ⟨(hc 5).trans rfl, w4.ext hE⟩
  · exact ⟨(hc 6).trans rfl, w5.ext hE⟩
  · exact ⟨(hc 7).trans rfl, w6.ext hE⟩
end Go.Proofs.YtgndogpgfgliaaaGreatDoor
