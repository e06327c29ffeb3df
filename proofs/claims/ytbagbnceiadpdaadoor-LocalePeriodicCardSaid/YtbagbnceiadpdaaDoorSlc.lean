/- Slices of strings that a function makes; plain lemmas. -/
import Derived.Test.YtbagbnceiadpdaaDoorStr
import Derived.Test.YtbagbnceiadpdaaDoorFra
import Derived.Laws.AppendOwn
import Derived.Maps.AppendAt
namespace Go.Proofs.YtbagbnceiadpdaaDoor
set_option linter.unusedVariables false
set_option linter.unusedSimpArgs false
open Go.RowKit

theorem ext_grown {a b c : World} {v : Value} {e : TypeId} {size n : Nat} {xs : List Value} (h : Ext a b) (hown : b.ownsRow a.heap.size e size v n xs) (hg : b.grownBy c v.ownBlock) : Ext a c := by
  have q := (Frm.of_ext (S := fun _ => False) h).grown hg (by
    intro k hk
    right
    rcases hown with ⟨_, ⟨rfl, _⟩ | ⟨g, cap, cur, rfl, hb, _⟩⟩
    · cases hk
    · have : g = k := Option.some.inj hk
      omega)
  exact q.ext (fun k hk => hk.elim)
theorem own_slice {w : World} {base size n : Nat} {e : TypeId} {v : Value} {xs : List Value} (h : w.ownsRow base e size v n xs) : ∃ ao cv, v = .slice ao n cv := by
  obtain ⟨_, ⟨rfl, rfl⟩ | ⟨g, cap, cur, rfl, _⟩⟩ := h
  · exact ⟨_, _, rfl⟩
  · exact ⟨_, _, rfl⟩
/-- The strings' values. -/
def sv (P : List (List UInt8)) : List Value := P.map fun l => Value.string ⟨l.toArray⟩
theorem sv_app (P : List (List UInt8)) (x : List UInt8) : sv (P ++ [x]) = sv P ++ [.string ⟨x.toArray⟩] := by simp [sv]
/-- A readable row of strings. -/
def RdS (ws : List (List UInt8)) (R off : Nat) (w : World) : Prop := R < w.heap.size ∧ ∀ i (h : i < ws.length), w.cell? ⟨R, off + i, none⟩ = some (.string ⟨ws[i].toArray⟩)
theorem RdS.ext {ws : List (List UInt8)} {R off : Nat} {w w' : World} (h : RdS ws R off w) (hE : Ext w w') : RdS ws R off w' := ⟨hE.lt h.1, fun i hi => (hE.cells _ _ h.1).trans (h.2 i hi)⟩
theorem RdS.drop {ws : List (List UInt8)} {R off : Nat} {w : World} (h : RdS ws R off w) (k : Nat) : RdS (ws.drop k) R (off + k) w := by
  refine ⟨h.1, fun i hi => ?_⟩
  rw [List.length_drop] at hi
  have := h.2 (k + i) (by omega)
  rw [← Nat.add_assoc] at this
  rw [List.getElem_drop]
  exact this
theorem RdS.of_own {w : World} {base n : Nat} {e : TypeId} {v : Value} {P : List (List UInt8)} (h : w.ownsRow base e 1 v n (sv P)) (hn : n = P.length) (hp : P ≠ []) : ∃ R cap, v = .slice (some ⟨R, 0, none⟩) P.length cap ∧ P.length ≤ cap ∧ cap ≤ maxLen ∧ RdS P R 0 w ∧ base ≤ R := by
  subst hn
  obtain ⟨_, ⟨_, h0⟩ | ⟨g, cap, cur, rfl, hb, hg, hc, hm, hs, ht⟩⟩ := h
  · exact absurd (List.length_eq_zero_iff.1 h0) hp
  · refine ⟨g, cap, rfl, hc, hm, ⟨?_, fun i hi => ?_⟩, hb⟩
    · rcases Nat.lt_or_ge g w.heap.size with q | q
      · exact q
      · rw [Array.getElem?_eq_none q] at hg; cases hg
    · have e1 : cur[i]? = (sv P)[i]? := by
        rw [← ht, Nat.mul_one, List.getElem?_take_of_lt hi, Array.getElem?_toList]
      have e2 : w.cell? ⟨g, 0 + i, none⟩ = cur[i]? := by simp [World.cell?, hg]
      rw [e2, e1]
      simp [sv, hi]
theorem spl_no (c : UInt8) : ∀ a : List UInt8, (∀ x ∈ a, x ≠ c) → spl c a = [a]
  | [], _ => rfl
  | d :: r, h => by rw [spl, if_neg (h d (by simp)), spl_no c r (fun x hx => h x (by simp [hx]))]
theorem spl_step (c : UInt8) (b : List UInt8) : ∀ a : List UInt8, (∀ x ∈ a, x ≠ c) → spl c (a ++ c :: b) = a :: spl c b
  | [], _ => spl_hit c b
  | d :: r, h => by rw [List.cons_append, spl, if_neg (h d (by simp)), spl_step c b r (fun x hx => h x (by simp [hx]))]
end Go.Proofs.YtbagbnceiadpdaaDoor
