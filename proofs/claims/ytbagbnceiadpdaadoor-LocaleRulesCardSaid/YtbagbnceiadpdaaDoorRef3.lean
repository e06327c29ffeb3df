/- The walk of the reference's split. -/
import Derived.Test.YtbagbnceiadpdaaDoorRef2
import Derived.Test.YtbagbnceiadpdaaDoorSlc
namespace Go.Proofs.YtbagbnceiadpdaaDoor
set_option linter.unusedVariables false
set_option linter.unusedSimpArgs false
open Go.RowKit

theorem infoS : (Tryd.prog.info? 9).map (fun i => (i.zero, i.size, i.bytes)) = some (some (.string ByteArray.empty), 1, 16) := by kernel_rfl
def SplR (ws : List (List UInt8)) (w : World) (e : Ending) (w' : World) : Prop := ∃ R cap, e = .returned (.slice (some ⟨R, 0, none⟩) ws.length cap) ∧ ws.length ≤ cap ∧ cap ≤ maxLen ∧ RdS ws R 0 w' ∧ w.heap.size ≤ R ∧ Ext w w'
def SplI (s : List UInt8) (c : UInt8) (P : List (List UInt8)) (f k : Nat) : Prop :=
  (k ≤ s.length ∧ f ≤ k ∧ spl c s = P ++ spl c (s.drop f) ∧ (∀ x ∈ (s.drop f).take (k - f), x ≠ c)) ∨ (k = s.length + 1 ∧ spl c s = P)
theorem SplI.next {s : List UInt8} {c : UInt8} {P : List (List UInt8)} {f k : Nat} (h : SplI s c P f k) (hk : k < s.length) (hc : s[k] ≠ c) : SplI s c P f (k + 1) := by
  rcases h with ⟨h1, h2, h3, h4⟩ | ⟨h1, _⟩
  · refine .inl ⟨by omega, by omega, h3, ?_⟩
    intro x hx
    rw [show k + 1 - f = (k - f) + 1 from by omega, List.take_succ_eq_append_getElem (by rw [List.length_drop]; omega)] at hx
    rcases List.mem_append.1 hx with q | q
    · exact h4 x q
    · have e : x = s[k] := by
        rw [List.mem_singleton.1 q, List.getElem_drop]
        congr 1; omega
      rw [e]; exact hc
  · omega
theorem SplI.cut {s : List UInt8} {c : UInt8} {P : List (List UInt8)} {f k : Nat} (h : SplI s c P f k) (hk : k < s.length) (hc : s[k] = c) : SplI s c (P ++ [(s.drop f).take (k - f)]) (k + 1) (k + 1) := by
  rcases h with ⟨h1, h2, h3, h4⟩ | ⟨h1, _⟩
  · refine .inl ⟨by omega, Nat.le_refl _, ?_, by simp⟩
    have e : s.drop f = (s.drop f).take (k - f) ++ c :: s.drop (k + 1) := by
      have e1 : s.drop f = (s.drop f).take (k - f) ++ (s.drop f).drop (k - f) := (List.take_append_drop _ _).symm
      rw [List.drop_drop, show f + (k - f) = k from by omega, List.drop_eq_getElem_cons hk, hc] at e1
      exact e1
    rw [h3]
    rw [List.append_assoc, List.singleton_append, ← spl_step c _ _ h4, ← e]
  · omega
theorem SplI.fin {s : List UInt8} {c : UInt8} {P : List (List UInt8)} {f : Nat} (h : SplI s c P f s.length) : SplI s c (P ++ [(s.drop f).take (s.length - f)]) (s.length + 1) (s.length + 1) := by
  rcases h with ⟨h1, h2, h3, h4⟩ | ⟨h1, _⟩
  · refine .inr ⟨rfl, ?_⟩
    have e : (s.drop f).take (s.length - f) = s.drop f := List.take_of_length_le (by rw [List.length_drop]; omega)
    rw [e] at h4 ⊢
    rw [h3, spl_no c _ h4]
  · omega
set_option maxRecDepth 100000 in
set_option maxHeartbeats 2000000 in
theorem rsplit_c (s : List UInt8) (c : UInt8) (w : World) (hs : s.length ≤ 100000) :
    Calls Tryd.prog 29 #[.string ⟨s.toArray⟩, .int .u8 c.toNat] w (SplR (spl c s) w) := by
  obtain ⟨i0, hi, hz0, hz1, hz2⟩ := info_parts infoS
  have Hi := Lib.hid hi
  have Hz0 := Lib.hid hz0
  have Hz1 := Lib.hid hz1
  have Hz2 := Lib.hid hz2
  clear hi hz0 hz1 hz2
  go_enter Tryd.func29, Tryd.ntmps29
  go_wp2_with fail
  go_loopw [5, 6, 7] (fun o fr i wr => ∃ (P : List (List UInt8)) (f k : Nat) (ao : Option Addr) (cv : Nat), o = .slice ao P.length cv ∧ fr = .int .i64 (f : Int) ∧ i = .int .i64 (k : Int) ∧ k ≤ s.length + 1 ∧ f ≤ k ∧ P.length ≤ k ∧ Hid (SplI s c P f k) ∧ wr.ownsRow w.heap.size 9 1 o P.length (sv P) ∧ Ext w wr) (fun _ _ i _ => s.length + 1 - (intOf i).toNat)
  case atStart => exact ⟨[], 0, 0, none, 0, rfl, rfl, rfl, by omega, by omega, by simp, .inl ⟨by omega, by omega, by simp, by simp⟩, World.ownsRow_nil _ _ _ _, Ext.refl _⟩
  case round =>
    obtain ⟨P, f, k, ao, cv, rfl, rfl, rfl, hk, hf, hP, HI, hown, hE⟩ := hrel
    have hEs := hE.size
    by_cases hle : k ≤ s.length
    · have g := bmid s f k
      have hfl : (s.drop f).take (k - f) = (s.drop f).take (k - f) := rfl
      obtain ⟨A, hA⟩ : ∃ A, A = (s.drop f).take (k - f) := ⟨_, rfl⟩
      rw [← hA] at g
      have HA := Lib.hid hA
      clear hA hfl
      by_cases hend : k = s.length
      · have t1 : ((k : Int) == (s.length : Int)) = true := by rw [beq_iff_eq]; omega
        have HS : Hid (SplI s c (P ++ [A]) (k + 1) (k + 1)) := by
          rw [Hid, HA.out]
          have := HI.out
          subst hend
          exact this.fin
        clear hend
        go_wp2_with (at_builtin; refine wpList_append_own _ rfl _ _ 30 rfl w.heap.size 9 i0 (.string ByteArray.empty) 1 16 Tryd.underlying30 Hi.out Hz0.out Hz1.out Hz2.out rfl (by decide) _ _ _ rfl (hown.alloc _) ⟨wr.heap.size, 0, none⟩ 1 1 [.string ⟨A.toArray⟩] rfl rfl (cell_one_new _ _ _) (fun x hx => by simp at hx; subst hx; rfl) (by unfold maxLen; omega) (by omega) (by simp; omega) ?_; intro v' w3 hown' hgrow3 hnil3)
        have hExt := ext_grown (v := .slice ao P.length cv) (hE.alloc _) (hown.alloc _) hgrow3
        obtain ⟨ao2, cv2, rfl⟩ := own_slice hown'
        go_roundw
        case rel => exact ⟨P ++ [A], k + 1, k + 1, ao2, cv2, by rw [List.length_append]; rfl, by go_num, by go_num, by omega, by omega, by rw [List.length_append, List.length_singleton]; omega, HS, by rw [sv_app, List.length_append]; exact hown', hExt⟩
        case measure => simp [intOf]; omega
      · have t1 : ((k : Int) == (s.length : Int)) = false := by rw [beq_eq_false_iff_ne]; omega
        have hlt : k < s.length := by omega
        obtain ⟨x, hx⟩ : ∃ x, x = s[k] := ⟨_, rfl⟩
        have bx := bget s k hlt x hx
        by_cases hxc : x = c
        · have t2 : ((x.toNat : Int) == (c.toNat : Int)) = true := by rw [hxc]; simp
          have HS : Hid (SplI s c (P ++ [A]) (k + 1) (k + 1)) := by
            rw [Hid, HA.out]
            exact HI.out.cut hlt (by rw [← hx]; exact hxc)
          clear hxc hx hend
          go_wp2_with (at_builtin; refine wpList_append_own _ rfl _ _ 30 rfl w.heap.size 9 i0 (.string ByteArray.empty) 1 16 Tryd.underlying30 Hi.out Hz0.out Hz1.out Hz2.out rfl (by decide) _ _ _ rfl (hown.alloc _) ⟨wr.heap.size, 0, none⟩ 1 1 [.string ⟨A.toArray⟩] rfl rfl (cell_one_new _ _ _) (fun x hx => by simp at hx; subst hx; rfl) (by unfold maxLen; omega) (by omega) (by simp; omega) ?_; intro v' w3 hown' hgrow3 hnil3)
          have hExt := ext_grown (v := .slice ao P.length cv) (hE.alloc _) (hown.alloc _) hgrow3
          obtain ⟨ao2, cv2, rfl⟩ := own_slice hown'
          go_roundw
          case rel => exact ⟨P ++ [A], k + 1, k + 1, ao2, cv2, by rw [List.length_append]; rfl, by go_num, by go_num, by omega, by omega, by rw [List.length_append, List.length_singleton]; omega, HS, by rw [sv_app, List.length_append]; exact hown', hExt⟩
          case measure => simp [intOf]; omega
        · have t2 : ((x.toNat : Int) == (c.toNat : Int)) = false := by
            rw [beq_eq_false_iff_ne]; intro e; exact hxc (UInt8.toNat_inj.1 (by omega))
          have HS : Hid (SplI s c P f (k + 1)) := HI.out.next hlt (by rw [← hx]; exact hxc)
          clear hxc hx hend
          go_wp2
          go_roundw
          case rel => exact ⟨P, f, k + 1, ao, cv, rfl, rfl, by go_num, by omega, by omega, by omega, HS, hown, hE⟩
          case measure => simp [intOf]; omega
    · obtain rfl : k = s.length + 1 := by omega
      have HE : Hid (spl c s = P) := by
        rcases HI.out with ⟨q, _⟩ | ⟨_, q⟩
        · omega
        · exact q
      go_wp2
      go_ret
      obtain ⟨R, cap, e1, h1, h2, h3, h4⟩ := RdS.of_own hown rfl (by rw [← HE.out]; exact spl_ne c s)
      refine ⟨R, cap, ?_, ?_⟩
      · rw [HE.out]
        exact congrArg Ending.returned e1
      · rw [HE.out]
        exact ⟨h1, h2, h3, h4, hE⟩
end Go.Proofs.YtbagbnceiadpdaaDoor
