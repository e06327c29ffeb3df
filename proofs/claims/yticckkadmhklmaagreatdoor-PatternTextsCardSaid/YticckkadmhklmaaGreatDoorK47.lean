/- Fields: the kinds of the parts that are no literals; rows of ints. -/
import Derived.Test.YticckkadmhklmaaGreatDoorK42
import Derived.Test.YticckkadmhklmaaGreatDoorShelf
import Derived.Laws.AppendOwn
namespace Go.Proofs.YticckkadmhklmaaGreatDoor
set_option linter.unusedVariables false
set_option linter.unusedSimpArgs false
open Go.RowKit Go.Maps

def fdsL (l : List Prt) : List Int := (l.filter fun p => !(p.k == 1)).map (·.k)
theorem fdsL_snoc (l : List Prt) (j : Nat) (h : j < l.length) : fdsL (l.take (j + 1)) = fdsL (l.take j) ++ (if l[j].k == 1 then [] else [l[j].k]) := by
  unfold fdsL
  rw [List.take_succ_eq_append_getElem h, List.filter_append, List.map_append]
  cases h1 : l[j].k == 1 <;> simp [h1, List.filter_cons]
theorem fdsL_len (l : List Prt) (j : Nat) : (fdsL (l.take j)).length ≤ j := by
  unfold fdsL
  rw [List.length_map]
  exact Nat.le_trans (List.length_filter_le _ _) (List.length_take_le _ _)
def iv (zs : List Int) : List Value := zs.map (Value.int .i64)
theorem iv_app (a : List Int) (x : Int) : iv (a ++ [x]) = iv a ++ [.int .i64 x] := by simp [iv]
def RdIv (zs : List Int) (R off : Nat) (w : World) : Prop := R < w.heap.size ∧ ∀ i (h : i < zs.length), w.cell? ⟨R, off + i, none⟩ = some (.int .i64 zs[i])
theorem RdIv.ext {zs : List Int} {R off : Nat} {w w' : World} (h : RdIv zs R off w) (hE : Ext w w') : RdIv zs R off w' :=
  ⟨hE.lt h.1, fun i hi => (hE.cells _ _ h.1).trans (h.2 i hi)⟩
/-- A slice of ints. -/
def IsV (ao : Option Addr) (cap : Nat) (zs : List Int) (w : World) : Prop := zs.length ≤ cap ∧ cap ≤ maxLen ∧ (zs ≠ [] → ∃ R off, ao = some ⟨R, off, none⟩ ∧ RdIv zs R off w)
theorem IsV.ext {ao : Option Addr} {cap : Nat} {zs : List Int} {w w' : World} (h : IsV ao cap zs w) (hE : Ext w w') : IsV ao cap zs w' := by
  refine ⟨h.1, h.2.1, fun hl => ?_⟩
  obtain ⟨R, off, e, hR⟩ := h.2.2 hl
  exact ⟨R, off, e, hR.ext hE⟩
theorem IsV.nil (w : World) : IsV none 0 [] w := ⟨Nat.le_refl _, by decide, fun h => absurd rfl h⟩
theorem IsV.of_own {w : World} {base n : Nat} {e : TypeId} {ao : Option Addr} {cap : Nat} {zs : List Int} (h : w.ownsRow base e 1 (.slice ao n cap) n (iv zs)) (hn : n = zs.length) : IsV ao cap zs w := by
  subst hn
  obtain ⟨_, ⟨h1, h0⟩ | ⟨g, cap', cur, he, hb, hg, hc, hm, hs, ht⟩⟩ := h
  · have : zs = [] := List.length_eq_zero_iff.1 h0
    subst this
    injection h1 with e1 e2 e3
    subst e1; subst e3
    exact IsV.nil w
  · injection he with e1 e2 e3
    subst e1; subst e3
    refine ⟨hc, hm, fun _ => ⟨g, 0, rfl, ?_, fun i hi => ?_⟩⟩
    · rcases Nat.lt_or_ge g w.heap.size with q | q
      · exact q
      · rw [Array.getElem?_eq_none q] at hg; cases hg
    · have e1 : cur[i]? = (iv zs)[i]? := by
        rw [← ht, List.getElem?_take_of_lt (by omega), Array.getElem?_toList]
      have e2 : w.cell? ⟨g, i, none⟩ = cur[i]? := by simp [World.cell?, hg]
      rw [Nat.zero_add, e2, e1]
      simp [iv, hi]
theorem infoIv : (Tryz.prog.info? 3).map (fun i => (i.zero, i.size, i.bytes)) = some (some (.int .i64 0), 1, 8) := by kernel_rfl
/-- What Fields gives back. -/
def FldR (zs : List Int) (w : World) (e : Ending) (w' : World) : Prop := ∃ ao cap, e = .returned (.slice ao zs.length cap) ∧ IsV ao cap zs w' ∧ Ext w w'
set_option maxRecDepth 100000 in
set_option maxHeartbeats 1000000 in
theorem fields_ok (l : List Prt) (ao : Option Addr) (cap : Nat) (w : World) (h : PtV ao cap l w) (hl : ∀ p ∈ l, p.t.length ≤ 4000) (hv : validB l = true) :
    Calls Tryz.prog 14 #[.slice ao l.length cap] w (FldR (fdsL l) w) := by
  have h40 : l.length ≤ 40 := by
    have := hv
    unfold validB at this
    simp only [Bool.and_eq_true, decide_eq_true_eq] at this
    exact this.1
  obtain ⟨i0, hi, hz0, hz1, hz2⟩ := info_parts infoIv
  have Hi := Lib.hid hi
  have Hz0 := Lib.hid hz0
  have Hz1 := Lib.hid hz1
  have Hz2 := Lib.hid hz2
  clear hi hz0 hz1 hz2
  have Hv := Lib.hid hv
  have Hl := Lib.hid hl
  have Hpt := Lib.hid h
  have hlen := h.1
  have hcap := h.2.1
  unfold maxLen at hcap
  clear hv hl h
  go_enter Tryz.func14, Tryz.ntmps14
  go_wp2_with (first
    | (go_at_call 29; (with_reducible refine (valid_lit l true ao cap _ Hpt.out Hl.out Hv.out).mono ?_); rintro e w1 ⟨rfl, hE1⟩))
  have HptE := Lib.hid (Hpt.out.ext hE1)
  have HE1 := Lib.hid hE1
  clear hE1
  go_loopw [3, 11] (fun o i wr => ∃ (j : Nat) (Z : List Int) (ao2 : Option Addr) (cv : Nat), j ≤ l.length ∧ i = .int .i64 (j : Int) ∧ o = .slice ao2 Z.length cv ∧ Z.length ≤ j ∧ Hid (Z = fdsL (l.take j)) ∧ wr.ownsRow w1.heap.size 3 1 o Z.length (iv Z) ∧ Ext w1 wr) (fun _ i _ => l.length - (intOf i).toNat)
  case atStart => exact ⟨0, [], none, 0, Nat.zero_le _, rfl, rfl, by simp, rfl, World.ownsRow_nil _ _ _ _, Ext.refl _⟩
  case round =>
    obtain ⟨j, Z, ao2, cv, hj, rfl, rfl, hZ, HZ, hown, hE⟩ := hrel
    have hEs := hE.size
    by_cases hlt : j < l.length
    · obtain ⟨R, off, rfl, hR0, hc⟩ := HptE.out.2.2 (by rintro rfl; simp at hlt)
      have hRr := hE.lt hR0
      obtain ⟨c0, c1, c2⟩ := hc j hlt
      replace c0 := (hE.cells R _ hR0).trans c0
      replace c1 := (hE.cells R _ hR0).trans c1
      replace c2 := (hE.cells R _ hR0).trans c2
      have HS := Lib.hid (fdsL_snoc l j hlt)
      obtain ⟨p, hpp⟩ : ∃ p, p = l[j] := ⟨_, rfl⟩
      rw [← hpp] at c0 c1 c2 HS
      clear hpp hc
      obtain ⟨k, wd, t⟩ := p
      simp only at c0 c1 c2
      by_cases hk : k = 1
      · subst hk
        have HS2 : Hid (Z = fdsL (l.take (j + 1))) := by rw [Hid, HS.out, ← HZ.out]; simp
        go_wp2_with fail
        go_roundw
        case rel => exact ⟨j + 1, Z, ao2, cv, by omega, by go_num, rfl, by omega, HS2, hown.alloc _, hE.alloc _⟩
        case measure => simp [intOf]; omega
      · have hk1 : (k != 1) = true := by simpa using hk
        have HS2 : Hid (Z ++ [k] = fdsL (l.take (j + 1))) := by rw [Hid, HS.out, ← HZ.out]; simp [hk]
        clear hk
        have hE2 : Ext w1 (wr.alloc (.cells #[.int .i64 k, .int .i64 wd, .string ⟨t.toArray⟩] 38)) := hE.alloc _
        have hnew : ∀ j u, [Value.int .i64 k][j]? = some u → ((wr.alloc (.cells #[.int .i64 k, .int .i64 wd, .string ⟨t.toArray⟩] 38)).alloc (.cells #[.int .i64 k] 3)).cell? ((⟨wr.heap.size + 1, 0, none⟩ : Addr).add j) = some u := by
          have q := cell_one_new (wr.alloc (.cells #[.int .i64 k, .int .i64 wd, .string ⟨t.toArray⟩] 38)) (.int .i64 k) 3
          rw [World.size_alloc] at q
          exact q
        have Hnew := Lib.hid hnew
        clear hnew
        go_wp2_with (at_builtin; refine wpList_append_own _ rfl _ _ 36 rfl w1.heap.size 3 i0 (.int .i64 0) 1 8 Tryz.underlying36 Hi.out Hz0.out Hz1.out Hz2.out rfl (by decide) _ _ _ rfl ((hown.alloc _).alloc _) ⟨wr.heap.size + 1, 0, none⟩ 1 1 [.int .i64 k] rfl rfl Hnew.out (fun x hx => by simp at hx; subst hx; rfl) (by unfold maxLen; omega) (by omega) (by simp; omega) ?_; intro v' w3 hown' hgrow3 hnil3)
        have hExt := ext_grown (v := .slice ao2 Z.length cv) ((hE.alloc _).alloc _) ((hown.alloc _).alloc _) hgrow3
        obtain ⟨ao3, cv3, rfl⟩ := own_slice hown'
        go_wp2_with fail
        go_roundw
        case rel => exact ⟨j + 1, Z ++ [k], ao3, cv3, by omega, by go_num, by rw [List.length_append]; rfl, by rw [List.length_append, List.length_singleton]; omega, HS2, by rw [iv_app, List.length_append]; exact hown', hExt⟩
        case measure => simp [intOf]; omega
    · obtain rfl : j = l.length := by omega
      have HV : Hid (Z = fdsL l) := by rw [Hid, HZ.out, List.take_length]
      have HIs := Lib.hid (IsV.of_own hown rfl)
      go_wp2_with fail
      go_ret
      exact ⟨ao2, cv, by rw [← HV.out]; rfl, by rw [← HV.out]; exact HIs.out, HE1.out.trans hE⟩
theorem fields_no (l : List Prt) (ao : Option Addr) (cap : Nat) (w : World) (h : PtV ao cap l w) (hl : ∀ p ∈ l, p.t.length ≤ 4000) (hv : validB l = false) :
    Calls Tryz.prog 14 #[.slice ao l.length cap] w (FldR [] w) := by
  have Hv := Lib.hid hv
  have Hl := Lib.hid hl
  have Hpt := Lib.hid h
  clear hv hl h
  go_enter Tryz.func14, Tryz.ntmps14
  go_wp2_with (first
    | (go_at_call 29; (with_reducible refine (valid_lit l false ao cap _ Hpt.out Hl.out Hv.out).mono ?_); rintro e w1 ⟨rfl, hE1⟩))
  go_ret
  exact ⟨none, 0, rfl, IsV.nil _, hE1⟩
theorem eqI_c (zs : List Int) (ao ao2 : Option Addr) (cap cap2 : Nat) (w : World) (h1 : IsV ao cap zs w) (h2 : IsV ao2 cap2 zs w) :
    Calls Tryz.prog 13 #[.slice ao zs.length cap, .slice ao2 zs.length cap2] w fun e w' => e = .returned (.bool true) ∧ Ext w w' := by
  have hb : zs.length ≤ 9223372036854775807 := by have a := h1.1; have b := h1.2.1; unfold maxLen at b; omega
  by_cases hz : zs = []
  · subst hz
    refine (Tryz.slices_Equal_int_empty ao ao2 cap 0 cap2 w (by omega)).mono ?_
    rintro e w' ⟨rfl, rfl⟩
    exact ⟨rfl, Ext.refl _⟩
  · obtain ⟨R, off, rfl, _, hc1⟩ := h1.2.2 hz
    obtain ⟨R2, off2, rfl, _, hc2⟩ := h2.2.2 hz
    refine (Tryz.slices_Equal_int R off zs.length cap R2 off2 zs.length cap2 zs zs w (Nat.le_refl _) (Nat.le_refl _) hb hb ?_ ?_).mono ?_
    · intro j hj; rw [hc1 j hj]; simp [List.getD, hj]
    · intro j hj; rw [hc2 j hj]; simp [List.getD, hj]
    · rintro e w' ⟨rfl, q, rfl⟩
      exact ⟨by simp, (Ext.refl _).drewN _⟩
end Go.Proofs.YticckkadmhklmaaGreatDoor
