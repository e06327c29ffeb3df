/- Recurrence rules: the walk of Describe. -/
import Derived.Test.YtgndogpgfgliaaaGreatDoorQ24
import Derived.Test.YtgndogpgfgliaaaGreatDoorQ25
import Derived.Deep.AppendLies
namespace Go.Proofs.YtgndogpgfgliaaaGreatDoor
set_option linter.unusedVariables false
set_option linter.unnecessarySimpa false
set_option linter.unusedSimpArgs false
open Go.RowKit

/-- A slice of strings that the call itself has made. -/
def OwS (x : Value) (ps : List (List UInt8)) (base : Nat) (W : World) : Prop := ∃ ao cv, x = .slice ao ps.length cv ∧ W.ownsRow base 9 1 (.slice ao ps.length cv) ps.length (sv ps)
theorem OwS.ext {x : Value} {ps : List (List UInt8)} {base : Nat} {W W' : World} (h : OwS x ps base W) (hE : Ext W W') : OwS x ps base W' := by
  obtain ⟨ao, cv, e, ho⟩ := h
  exact ⟨ao, cv, e, own_ext ho hE⟩
def sEv : List UInt8 := [101, 118, 101, 114, 121, 32]
def evZ (R : RecD) : List UInt8 := sEv ++ (if R.iv = 1 then getW unW R.fr else decZ R.iv ++ (32 :: (getW unW R.fr ++ [115])))
def sIn : List UInt8 := [105, 110, 32]
def hWk : List UInt8 := [105, 110, 32, 116, 104, 101, 32, 119, 101, 101, 107, 115, 32]
def hYd : List UInt8 := [111, 110, 32, 116, 104, 101, 32, 100, 97, 121, 115, 32, 111, 102, 32, 116, 104, 101, 32, 121, 101, 97, 114, 32]
def hMd : List UInt8 := [111, 110, 32, 116, 104, 101, 32, 100, 97, 121, 115, 32, 111, 102, 32, 116, 104, 101, 32, 109, 111, 110, 116, 104, 32]
def sOn : List UInt8 := [111, 110, 32]
def hHo : List UInt8 := [97, 116, 32, 116, 104, 101, 32, 104, 111, 117, 114, 115, 32]
def hMi : List UInt8 := [97, 116, 32, 116, 104, 101, 32, 109, 105, 110, 117, 116, 101, 115, 32]
def hSe : List UInt8 := [97, 116, 32, 116, 104, 101, 32, 115, 101, 99, 111, 110, 100, 115, 32]
def hPo : List UInt8 := [111, 110, 108, 121, 32, 116, 104, 101, 32, 110, 117, 109, 98, 101, 114, 115, 32]
def sTi : List UInt8 := [32, 116, 105, 109, 101, 115]
def sUn : List UInt8 := [117, 110, 116, 105, 108, 32]
def sWb : List UInt8 := [119, 101, 101, 107, 115, 32, 98, 101, 103, 105, 110, 32, 111, 110, 32]
/-- A piece with a list of numbers. -/
def pcZ (p : List UInt8 × List Int) : List (List UInt8) := if p.2 = [] then [] else [p.1 ++ wordsT (p.2.map decZ)]
def hl3 (R : RecD) : List (List UInt8 × List Int) := [(hWk, R.wk), (hYd, R.yd), (hMd, R.md)]
def hl4 (R : RecD) : List (List UInt8 × List Int) := [(hHo, R.ho), (hMi, R.mi), (hSe, R.se), (hPo, R.po)]
def stA (R : RecD) : List (List UInt8) := [evZ R] ++ (if R.mo = [] then [] else [sIn ++ wordsT (R.mo.map (getW moW))])
def stB (R : RecD) : List (List UInt8) := stA R ++ (hl3 R).flatMap pcZ
def stC (R : RecD) : List (List UInt8) := stB R ++ (if R.da = [] then [] else [sOn ++ wordsT (R.da.map dayD)])
def stD (R : RecD) : List (List UInt8) := stC R ++ (hl4 R).flatMap pcZ
def stE (R : RecD) : List (List UInt8) := stD R ++ (if R.ct = 0 then [] else [decZ R.ct ++ sTi])
noncomputable def stF (R : RecD) : List (List UInt8) := stE R ++ (if R.un = 0 then [] else [sUn ++ momT R.un])
noncomputable def stG (R : RecD) : List (List UInt8) := stF R ++ (if R.ws = 1 then [] else [sWb ++ getW wdW R.ws])
theorem stG_eq (R : RecD) : stG R = pceZ momT R := by
  simp only [stG, stF, stE, stD, stC, stB, stA, hl3, hl4, List.flatMap_cons, List.flatMap_nil, pcZ, pceZ, evZ, sEv, sIn, hWk, hYd, hMd, sOn, hHo, hMi, hSe, hPo, sTi, sUn, sWb, List.append_assoc, List.append_nil]
noncomputable def DescR (r : Rec) (w : World) (e : Ending) (w' : World) : Prop :=
  (if vldR r.D = true then e = .returned (.tuple #[.string ⟨(desZ momT r.D).toArray⟩, .int .i64 0]) else e = .returned (.tuple #[.string ⟨#[]⟩, .int .i64 1])) ∧ Ext w w'
theorem wordsT_le (l : List (List UInt8)) (m : Nat) (h : ∀ a ∈ l, a.length ≤ m) : (wordsT l).length ≤ (m + 6) * (l.length + 1) := by
  unfold wordsT
  split
  · refine Nat.le_trans (join_le l sAnd m h) ?_
    have : sAnd.length = 5 := rfl
    rw [this]
    exact Nat.mul_le_mul (by omega) (by omega)
  · rename_i h3
    have h1 := join_le l.dropLast sCom m (fun a ha => h a (by rw [List.dropLast_eq_take] at ha; exact List.mem_of_mem_take ha))
    have h2 : (l.getLastD []).length ≤ m := by
      cases hl : l with
      | nil => simp
      | cons a t => rw [← hl]; rw [List.getLastD_eq_getLast?, List.getLast?_eq_some_getLast (by rw [hl]; simp)]; exact h _ (List.getLast_mem _)
    have e1 : sCom.length = 2 := rfl
    have e2 : sCAnd.length = 6 := rfl
    rw [List.length_append, List.length_append, e2]
    rw [e1, List.length_dropLast] at h1
    have h3 : (m + 2) * (l.length - 1) ≤ (m + 6) * l.length := Nat.mul_le_mul (by omega) (by omega)
    rw [Nat.mul_succ]
    omega
theorem OwS.mk_app {v : Value} {ps : List (List UInt8)} {base : Nat} {W : World} {b : ByteArray} {Y : List UInt8} (h : W.ownsRow base 9 1 v (ps.length + 1) (sv ps ++ [.string b])) (hb : b = ⟨Y.toArray⟩) : OwS v (ps ++ [Y]) base W := by
  subst hb
  obtain ⟨ao, cv, rfl⟩ := own_slice h
  exact ⟨ao, cv, by rw [List.length_append]; rfl, by rw [List.length_append, sv_app]; exact h⟩
theorem pcs_len : ∀ l : List (List UInt8 × List Int), (l.flatMap pcZ).length ≤ l.length
  | [] => Nat.le_refl _
  | p :: r => by
    have ih := pcs_len r
    have hp : (pcZ p).length ≤ 1 := by unfold pcZ; split <;> simp
    rw [List.flatMap_cons, List.length_append, List.length_cons]
    omega
theorem pcs_no (P : List (List UInt8)) (L : List (List UInt8 × List Int)) (j : Nat) (h : j < L.length) (hd : List UInt8) (zs : List Int) (e : L[j] = (hd, zs)) (h0 : zs = []) : P ++ (L.take (j + 1)).flatMap pcZ = P ++ (L.take j).flatMap pcZ := by
  rw [List.take_succ_eq_append_getElem h, List.flatMap_append, e]
  simp [pcZ, h0]
theorem pcs_yes (P : List (List UInt8)) (L : List (List UInt8 × List Int)) (j : Nat) (h : j < L.length) (hd : List UInt8) (zs : List Int) (e : L[j] = (hd, zs)) (h0 : zs ≠ []) : P ++ (L.take (j + 1)).flatMap pcZ = P ++ (L.take j).flatMap pcZ ++ [hd ++ wordsT (zs.map decZ)] := by
  rw [List.take_succ_eq_append_getElem h, List.flatMap_append, e]
  simp [pcZ, h0]
theorem words_60 (g : Int → List UInt8) (zs : List Int) (m : Nat) (hm : m ≤ 50) (h : ∀ n ∈ zs, (g n).length ≤ m) (hl : zs.length ≤ 60) : (wordsT (zs.map g)).length ≤ 4000 := by
  refine Nat.le_trans (wordsT_le _ m (fun a ha => ?_)) ?_
  · obtain ⟨n, hn, rfl⟩ := List.mem_map.1 ha
    exact h n hn
  · rw [List.length_map]
    exact Nat.le_trans (Nat.mul_le_mul (by omega : m + 6 ≤ 56) (by omega : zs.length + 1 ≤ 61)) (by decide)
theorem words_60d (l : List (Int × Int)) (h : ∀ o ∈ l, i64 o.1) (hl : l.length ≤ 60) : (wordsT (l.map dayD)).length ≤ 4000 ∧ ∀ o ∈ l, (dayD o).length ≤ 50 := by
  have h1 : ∀ o ∈ l, (dayD o).length ≤ 50 := fun o ho => by
    unfold dayD
    have a1 := decZ_20 (h o ho)
    have a2 : (getW wdW o.2).length ≤ 3 := getW_len (by decide)
    split
    · omega
    · rw [List.length_append, List.length_append]
      simp
      omega
  refine ⟨Nat.le_trans (wordsT_le _ 50 (fun a ha => ?_)) ?_, h1⟩
  · obtain ⟨n, hn, rfl⟩ := List.mem_map.1 ha
    exact h1 n hn
  · rw [List.length_map]
    exact Nat.le_trans (Nat.mul_le_mul_left _ (by omega : l.length + 1 ≤ 61)) (by decide)
theorem pcs_el {R : RecD} (hv : vldR R = true) (p : List UInt8 × List Int) (hp : p.1.length ≤ 30) (hq : p.2 = R.mo ∨ p.2 = R.md ∨ p.2 = R.yd ∨ p.2 = R.wk ∨ p.2 = R.ho ∨ p.2 = R.mi ∨ p.2 = R.se ∨ p.2 = R.po) : ∀ a ∈ pcZ p, a.length ≤ 5000 := by
  obtain ⟨h1, h2⟩ := lst_i64 hv p.2 hq
  intro a ha
  unfold pcZ at ha
  split at ha
  · cases ha
  · rw [List.mem_singleton] at ha
    subst ha
    have := words_60 decZ p.2 20 (by decide) (fun n hn => decZ_20 (h1 n hn)) h2
    rw [List.length_append]
    omega
theorem stG_el {R : RecD} (hv : vldR R = true) : ∀ a ∈ stG R, a.length ≤ 5000 := by
  obtain ⟨n1, n2, n3, n4, n5, n6, n7, n8, n9⟩ := num_parts hv
  have i1 : i64 R.iv := by unfold i64; omega
  have i2 : i64 R.ct := by unfold i64; omega
  have hmo := (lst_i64 hv R.mo (.inl rfl)).2
  intro a ha
  unfold stG stF stE stD stC stB stA at ha
  simp only [List.mem_append] at ha
  rcases ha with ((((((((ha | ha) | ha) | ha) | ha) | ha) | ha) | ha))
  · rw [List.mem_singleton] at ha
    subst ha
    unfold evZ
    have a1 := decZ_20 i1
    have a2 : (getW unW R.fr).length ≤ 5 := getW_len (by decide)
    have a3 : sEv.length = 6 := rfl
    rw [List.length_append, a3]
    split
    · omega
    · rw [List.length_append, List.length_cons, List.length_append]
      simp
      omega
  · split at ha
    · cases ha
    · rw [List.mem_singleton] at ha
      subst ha
      have := words_60 (getW moW) R.mo 3 (by decide) (fun n hn => getW_len (by decide)) hmo
      have a3 : sIn.length = 3 := rfl
      rw [List.length_append, a3]
      omega
  · obtain ⟨p, hp, ha⟩ := List.mem_flatMap.1 ha
    unfold hl3 at hp
    simp only [List.mem_cons, List.not_mem_nil, or_false] at hp
    rcases hp with rfl | rfl | rfl
    · exact pcs_el hv _ (by show hWk.length ≤ 30; decide) (.inr (.inr (.inr (.inl rfl)))) a ha
    · exact pcs_el hv _ (by show hYd.length ≤ 30; decide) (.inr (.inr (.inl rfl))) a ha
    · exact pcs_el hv _ (by show hMd.length ≤ 30; decide) (.inr (.inl rfl)) a ha
  · split at ha
    · cases ha
    · rw [List.mem_singleton] at ha
      subst ha
      have := (words_60d R.da (fun o ho => ((day_i64 hv).1 o ho).1) (day_i64 hv).2).1
      have a3 : sOn.length = 3 := rfl
      rw [List.length_append, a3]
      omega
  · obtain ⟨p, hp, ha⟩ := List.mem_flatMap.1 ha
    unfold hl4 at hp
    simp only [List.mem_cons, List.not_mem_nil, or_false] at hp
    rcases hp with rfl | rfl | rfl | rfl
    · exact pcs_el hv _ (by show hHo.length ≤ 30; decide) (.inr (.inr (.inr (.inr (.inl rfl))))) a ha
    · exact pcs_el hv _ (by show hMi.length ≤ 30; decide) (.inr (.inr (.inr (.inr (.inr (.inl rfl)))))) a ha
    · exact pcs_el hv _ (by show hSe.length ≤ 30; decide) (.inr (.inr (.inr (.inr (.inr (.inr (.inl rfl))))))) a ha
    · exact pcs_el hv _ (by show hPo.length ≤ 30; decide) (.inr (.inr (.inr (.inr (.inr (.inr (.inr rfl))))))) a ha
  · split at ha
    · cases ha
    · rw [List.mem_singleton] at ha
      subst ha
      have a1 := decZ_20 i2
      have a3 : sTi.length = 6 := rfl
      rw [List.length_append, a3]
      omega
  · split at ha
    · cases ha
    · rename_i hu
      rw [List.mem_singleton] at ha
      subst ha
      have a1 := mom_ok.len R.un ((n7.resolve_left hu).1)
      have a3 : sUn.length = 6 := rfl
      rw [List.length_append, a3]
      omega
  · split at ha
    · cases ha
    · rw [List.mem_singleton] at ha
      subst ha
      have a2 : (getW wdW R.ws).length ≤ 3 := getW_len (by decide)
      have a3 : sWb.length = 15 := rfl
      rw [List.length_append, a3]
      omega
theorem st_lens (R : RecD) : (stA R).length ≤ 2 ∧ (stB R).length ≤ 5 ∧ (stC R).length ≤ 6 ∧ (stD R).length ≤ 10 ∧ (stE R).length ≤ 11 ∧ (stF R).length ≤ 12 ∧ (stG R).length ≤ 13 := by
  have hA : (stA R).length ≤ 2 := by unfold stA; split <;> simp
  have hB : (stB R).length ≤ 5 := by
    unfold stB; rw [List.length_append]
    have := pcs_len (hl3 R)
    have e : (hl3 R).length = 3 := rfl
    omega
  have hC : (stC R).length ≤ 6 := by unfold stC; rw [List.length_append]; split <;> simp <;> omega
  have hD : (stD R).length ≤ 10 := by
    unfold stD; rw [List.length_append]
    have := pcs_len (hl4 R)
    have e : (hl4 R).length = 4 := rfl
    omega
  have hE : (stE R).length ≤ 11 := by unfold stE; rw [List.length_append]; split <;> simp <;> omega
  have hF : (stF R).length ≤ 12 := by unfold stF; rw [List.length_append]; split <;> simp <;> omega
  have hG : (stG R).length ≤ 13 := by unfold stG; rw [List.length_append]; split <;> simp <;> omega
  exact ⟨hA, hB, hC, hD, hE, hF, hG⟩
/-- .. and its row is not block b. -/
def OwX (x : Value) (ps : List (List UInt8)) (base b : Nat) (W : World) : Prop := ∃ ao cv, x = .slice ao ps.length cv ∧ W.ownsRow base 9 1 (.slice ao ps.length cv) ps.length (sv ps) ∧ (Value.slice ao ps.length cv).ownBlock ≠ some b
theorem OwX.of {x : Value} {ps : List (List UInt8)} {base : Nat} {W : World} (h : OwS x ps base W) : OwX x ps base W.heap.size W := by
  obtain ⟨ao, cv, e, ho⟩ := h
  exact ⟨ao, cv, e, ho, fun q => by have := (ho.lt _ q).2; omega⟩
theorem OwX.ext {x : Value} {ps : List (List UInt8)} {base b : Nat} {W W' : World} (h : OwX x ps base b W) (hE : Ext W W') : OwX x ps base b W' := by
  obtain ⟨ao, cv, e, ho, ha⟩ := h
  exact ⟨ao, cv, e, own_ext ho hE, ha⟩
theorem OwX.ows {x : Value} {ps : List (List UInt8)} {base b : Nat} {W : World} (h : OwX x ps base b W) : OwS x ps base W := by
  obtain ⟨ao, cv, e, ho, -⟩ := h
  exact ⟨ao, cv, e, ho⟩
/-- Block b is as it was. -/
def KeepB (b : Nat) (W W' : World) : Prop := b < W'.heap.size ∧ ∀ o, W'.cell? ⟨b, o, none⟩ = W.cell? ⟨b, o, none⟩
theorem KeepB.ext {b : Nat} {W W1 W2 : World} (h : KeepB b W W1) (hE : Ext W1 W2) : KeepB b W W2 := ⟨hE.lt h.1, fun o => (hE.cells b o h.1).trans (h.2 o)⟩
theorem KeepB.grown {b : Nat} {W W1 W2 : World} {row : Option Nat} (h : KeepB b W W1) (hg : W1.grownBy W2 row) (hne : row ≠ some b) : KeepB b W W2 :=
  ⟨Nat.lt_of_lt_of_le h.1 hg.size, fun o => (World.grownBy.cell_far hg ⟨b, o, none⟩ h.1 (fun e => hne e.symm)).trans (h.2 o)⟩
end Go.Proofs.YtgndogpgfgliaaaGreatDoor
