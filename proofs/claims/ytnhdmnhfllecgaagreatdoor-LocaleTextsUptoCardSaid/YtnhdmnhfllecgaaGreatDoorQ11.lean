/- The walk of the reference's split. -/
import Derived.Test.YtnhdmnhfllecgaaGreatDoorQ10
import Derived.Test.YtnhdmnhfllecgaaGreatDoorQ05
import Derived.Test.YtnhdmnhfllecgaaGreatDoorQ00
namespace Go.Proofs.YtnhdmnhfllecgaaGreatDoor
set_option linter.unusedVariables false
set_option linter.unusedSimpArgs false
open Go.RowKit

theorem infoS : (Tryz.prog.info? 9).map (fun i => (i.zero, i.size, i.bytes)) = some (some (.string ByteArray.empty), 1, 16) := by kernel_rfl
def SplR (ws : List (List UInt8)) (w : World) (e : Ending) (w' : World) : Prop := ∃ R cap, e = .returned (.slice (some ⟨R, 0, none⟩) ws.length cap) ∧ ws.length ≤ cap ∧ cap ≤ maxLen ∧ RdS ws R 0 w' ∧ w.heap.size ≤ R ∧ Ext w w'
def SplI (s : List UInt8) (c : UInt8) (P : List (List UInt8)) (f k : Nat) : Prop :=
  (k ≤ s.length ∧ f ≤ k ∧ spl c s = P ++ spl c (s.drop f) ∧ (∀ x ∈ (s.drop f).take (k - f), x ≠ c)) ∨ (k = s.length + 1 ∧ spl c s = P)
theorem SplI.next {s : List UInt8} {c : UInt8} {P : List (List UInt8)} {f k : Nat} (h : SplI s c P f k) (hk : k < s.length) (hc : s[k] ≠ c) : SplI s c P f (k + 1) := by
  rcases h with ⟨h1, h2, h3, h4⟩ | ⟨h1, _⟩
  · refine .inl ⟨by omega, by omega, h3, ?_⟩
    intro x hx
    rw [show k + 1 - f = (k - f) + 1 from by omega, List.take_succ_eq_append_getElem (by rw [List.length_drop]; omega)] at hx
    rcases List.mem_append.1 hx with q | q
    · exact h4 x q
    · have e : x = s[k] := by
        rw [List.mem_singleton.1 q, List.getElem_drop]
        congr 1; omega
      rw [e]; exact hc
  · omega
theorem SplI.cut {s : List UInt8} {c : UInt8} {P : List (List UInt8)} {f k : Nat} (h : SplI s c P f k) (hk : k < s.length) (hc : s[k] = c) : SplI s c (P ++ [(s.drop f).take (k - f)]) (k + 1) (k + 1) := by
  rcases h with ⟨h1, h2, h3, h4⟩ | ⟨h1, _⟩
  · refine .inl ⟨by omega, Nat.le_refl _, ?_, by simp⟩
    have e : s.drop f = (s.drop f).take (k - f) ++ c :: s.drop (k + 1) := by
      have e1 : s.drop f = (s.drop f).take (k - f) ++ (s.drop f).drop (k - f) := (List.take_append_drop _ _).symm
      rw [List.drop_drop, show f + (k - f) = k from by omega, List.drop_eq_getElem_cons hk, hc] at e1
      exact e1
    rw [h3]
    rw [List.append_assoc, List.singleton_append, ← spl_step c _ _ h4, ← e]
  · omega
theorem SplI.fin {s : List UInt8} {c : UInt8} {P : List (List UInt8)} {f : Nat} (h : SplI s c P f s.length) : SplI s c (P ++ [(s.drop f).take (s.length - f)]) (s.length + 1) (s.length + 1) := by
  rcases h with ⟨h1, h2, h3, h4⟩ | ⟨h1, _⟩
  · refine .inr ⟨rfl, ?_⟩
    have e : (s.drop f).take (s.length - f) = s.drop f := List.take_of_length_le (by rw [List.length_drop]; omega)
    rw [e] at h4 ⊢
    rw [h3, spl_no c _ h4]
  · omega
set_option maxRecDepth 100000 in
set_option maxHeartbeats 2000000 in
theorem rsplit_c (s : List UInt8) (c : UInt8) (w : World) (hs : s.length ≤ 100000) :
    Calls Tryz.prog 51 #[.string ⟨s.toArray⟩, .int .u8 c.toNat] w (SplR (spl c s) w) := by
  obtain ⟨i0, hi, hz0, hz1, hz2⟩ := info_parts infoS
  have Hi := Lib.hid hi
  have Hz0 := Lib.hid hz0
  have Hz1 := Lib.hid hz1
  have Hz2 := Lib.hid hz2
  clear hi hz0 hz1 hz2
  go_enter Tryz.func51, Tryz.ntmps51
  go_wp2_with fail
  go_loopw [5, 6, 7] (fun o fr i wr => ∃ (P : List (List UInt8)) (f k : Nat) (ao : Option Addr) (cv : Nat), o = .slice ao P.length cv ∧ fr = .int .i64 (f : Int) ∧ i = .int .i64 (k : Int) ∧ k ≤ s.length + 1 ∧ f ≤ k ∧ P.length ≤ k ∧ Hid (SplI s c P f k) ∧ wr.ownsRow w.heap.size 9 1 o P.length (sv P) ∧ Ext w wr) (fun _ _ i _ => s.length + 1 - (intOf i).toNat)
  case atStart => exact ⟨[], 0, 0, none, 0, rfl, rfl, rfl, by omega, by omega, by simp, .inl ⟨by omega, by omega, by simp, by simp⟩, World.ownsRow_nil _ _ _ _, Ext.refl _⟩
  case round =>
    obtain ⟨P, f, k, ao, cv, rfl, rfl, rfl, hk, hf, hP, HI, hown, hE⟩ := hrel
    have hEs := hE.size
    by_cases hle : k ≤ s.length
    · have g := bmid s f k
      have hfl : (s.drop f).take (k - f) = (s.drop f).take (k - f) := rfl
      obtain ⟨A, hA⟩ : ∃ A, A = (s.drop f).take (k - f) := ⟨_, rfl⟩
      rw [← hA] at g
      have HA := Lib.hid hA
      clear hA hfl
      by_cases hend : k = s.length
      · have t1 : ((k : Int) == (s.length : Int)) = true := by rw [beq_iff_eq]; omega
        have HS : Hid (SplI s c (P ++ [A]) (k + 1) (k + 1)) := by
          rw [Hid, HA.out]
          have := HI.out
          subst hend
          exact this.fin
        clear hend
        go_wp2_with (at_builtin; refine wpList_append_own _ rfl _ _ 54 rfl w.heap.size 9 i0 (.string ByteArray.empty) 1 16 Tryz.underlying54 Hi.out Hz0.out Hz1.out Hz2.out rfl (by decide) _ _ _ rfl (hown.alloc _) ⟨wr.heap.size, 0, none⟩ 1 1 [.string ⟨A.toArray⟩] rfl rfl (cell_one_new _ _ _) (fun x hx => by simp at hx; subst hx; rfl) (by unfold maxLen; omega) (by omega) (by simp; omega) ?_; intro v' w3 hown' hgrow3 hnil3)
        have hExt := ext_grown (v := .slice ao P.length cv) (hE.alloc _) (hown.alloc _) hgrow3
        obtain ⟨ao2, cv2, rfl⟩ := own_slice hown'
        go_roundw
        case rel => exact ⟨P ++ [A], k + 1, k + 1, ao2, cv2, by rw [List.length_append]; rfl, by go_num, by go_num, by omega, by omega, by rw [List.length_append, List.length_singleton]; omega, HS, by rw [sv_app, List.length_append]; exact hown', hExt⟩
        case measure => simp [intOf]; omega
      · have t1 : ((k : Int) == (s.length : Int)) = false := by rw [beq_eq_false_iff_ne]; omega
        have hlt : k < s.length := by omega
        obtain ⟨x, hx⟩ : ∃ x, x = s[k] := ⟨_, rfl⟩
        have bx := bget s k hlt x hx
        by_cases hxc : x = c
        · have t2 : ((x.toNat : Int) == (c.toNat : Int)) = true := by rw [hxc]; simp
          have HS : Hid (SplI s c (P ++ [A]) (k + 1) (k + 1)) := by
            rw [Hid, HA.out]
            exact HI.out.cut hlt (by rw [← hx]; exact hxc)
          clear hxc hx hend
          go_wp2_with (at_builtin; refine wpList_append_own _ rfl _ _ 54 rfl w.heap.size 9 i0 (.string ByteArray.empty) 1 16 Tryz.underlying54 Hi.out Hz0.out Hz1.out Hz2.out rfl (by decide) _ _ _ rfl (hown.alloc _) ⟨wr.heap.size, 0, none⟩ 1 1 [.string ⟨A.toArray⟩] rfl rfl (cell_one_new _ _ _) (fun x hx => by simp at hx; subst hx; rfl) (by unfold maxLen; omega) (by omega) (by simp; omega) ?_; intro v' w3 hown' hgrow3 hnil3)
          have hExt := ext_grown (v := .slice ao P.length cv) (hE.alloc _) (hown.alloc _) hgrow3
          obtain ⟨ao2, cv2, rfl⟩ := own_slice hown'
          go_roundw
          case rel => exact ⟨P ++ [A], k + 1, k + 1, ao2, cv2, by rw [List.length_append]; rfl, by go_num, by go_num, by omega, by omega, by rw [List.length_append, List.length_singleton]; omega, HS, by rw [sv_app, List.length_append]; exact hown', hExt⟩
          case measure => simp [intOf]; omega
        · have t2 : ((x.toNat : Int) == (c.toNat : Int)) = false := by
            rw [beq_eq_false_iff_ne]; intro e; exact hxc (UInt8.toNat_inj.1 (by omega))
          have HS : Hid (SplI s c P f (k + 1)) := HI.out.next hlt (by rw [← hx]; exact hxc)
          clear hxc hx hend
          go_wp2
          go_roundw
          case rel => exact ⟨P, f, k + 1, ao, cv, rfl, rfl, by go_num, by omega, by omega, by omega, HS, hown, hE⟩
          case measure => simp [intOf]; omega
    · obtain rfl : k = s.length + 1 := by omega
      have HE : Hid (spl c s = P) := by
        rcases HI.out with ⟨q, _⟩ | ⟨_, q⟩
        · omega
        · exact q
      go_wp2
      go_ret
      obtain ⟨R, cap, e1, h1, h2, h3, h4⟩ := RdS.of_own hown rfl (by rw [← HE.out]; exact spl_ne c s)
      refine ⟨R, cap, ?_, ?_⟩
      · rw [HE.out]
        exact congrArg Ending.returned e1
      · rw [HE.out]
        exact ⟨h1, h2, h3, h4, hE⟩
end Go.Proofs.YtnhdmnhfllecgaaGreatDoor
/- The walk of the reference's test. -/
namespace Go.Proofs.YtnhdmnhfllecgaaGreatDoor
set_option linter.unusedVariables false
set_option linter.unusedSimpArgs false
open Go.RowKit

def teK (ws : List (List UInt8)) : Nat := if (tl1 ws).head? = some wMod then 5 else 3
def rtV (N : Nat) (ws : List (List UInt8)) : Value := if teB ws then .tuple #[.int .i64 (teK ws : Nat), .bool (teH N ws), .bool true] else .tuple #[.int .i64 0, .bool false, .bool false]
theorem tl_drop (ws : List (List UInt8)) (k : Nat) : tl1 (ws.drop k) = ws.drop (k + 1) := by unfold tl1; rw [List.tail_drop]
theorem hd_drop (ws : List (List UInt8)) (k : Nat) (h : k < ws.length) : hd1 (ws.drop k) = ws[k] := by
  unfold hd1
  rw [List.drop_eq_getElem_cons h]; rfl
theorem hd_none (ws : List (List UInt8)) (k : Nat) (h : ws.length ≤ k) : hd1 (ws.drop k) = [] := by
  unfold hd1
  rw [List.drop_eq_nil_of_le h]; rfl
theorem whR_mod {ws : List (List UInt8)} (h : (tl1 ws).head? = some wMod) : whR ws = ws.drop 3 := by
  unfold whR
  rw [if_pos h]
  show tl1 (tl1 (tl1 (ws.drop 0))) = _
  rw [tl_drop, tl_drop, tl_drop]
theorem whR_no {ws : List (List UInt8)} (h : (tl1 ws).head? ≠ some wMod) : whR ws = ws.drop 1 := by
  unfold whR
  rw [if_neg h]
  show tl1 (ws.drop 0) = _
  rw [tl_drop]
theorem listB_nil : listB [] = false := by decide
theorem teB_short {ws : List (List UInt8)} {k : Nat} (h : whR ws = ws.drop k) (hl : ws.length < k + 2) : teB ws = false := by
  unfold teB
  rw [h, tl_drop, hd_none ws (k + 1) (by omega), listB_nil, Bool.and_false]
theorem teB_op {ws : List (List UInt8)} {k : Nat} (h : whR ws = ws.drop k) (hl : k < ws.length) (h1 : ws[k] ≠ wIs) (h2 : ws[k] ≠ wNot) : teB ws = false := by
  unfold teB
  rw [h, hd_drop ws k hl]
  simp [h1, h2]
theorem teB_list {ws : List (List UInt8)} {k : Nat} (h : whR ws = ws.drop k) (hl : k + 1 < ws.length) (h1 : listB ws[k + 1] = false) : teB ws = false := by
  unfold teB
  rw [h, tl_drop, hd_drop ws (k + 1) hl, h1, Bool.and_false]
theorem teB_yes {ws : List (List UInt8)} {k : Nat} (h : whR ws = ws.drop k) (hb : whB ws = true) (hl : k + 1 < ws.length) (h0 : ws[k] = wIs ∨ ws[k] = wNot) (h1 : listB ws[k + 1] = true) : teB ws = true := by
  unfold teB
  rw [h, tl_drop, hd_drop ws (k + 1) hl, h1, hb, hd_drop ws k (by omega)]
  simpa using h0
theorem teH_eq {ws : List (List UInt8)} {k N M : Nat} (h : whR ws = ws.drop k) (hn : whN N ws = M) (hl : k + 1 < ws.length) : teH N ws = (inList M ws[k + 1] == decide (ws[k] = wIs)) := by
  unfold teH
  rw [h, tl_drop, hd_drop ws (k + 1) hl, hd_drop ws k (by omega), hn]
theorem rtV_no {N : Nat} {ws : List (List UInt8)} (h : teB ws = false) : rtV N ws = .tuple #[.int .i64 0, .bool false, .bool false] := by unfold rtV; rw [h]; rfl
theorem rtV_yes {N : Nat} {ws : List (List UInt8)} (h : teB ws = true) : rtV N ws = .tuple #[.int .i64 (teK ws : Nat), .bool (teH N ws), .bool true] := by unfold rtV; rw [h]; rfl
theorem teB_hd {ws : List (List UInt8)} (h : hd1 ws ≠ wN) : teB ws = false := by unfold teB whB; simp [h]
theorem rsplit_44 (s : List UInt8) (w : World) (hs : s.length ≤ 100000) : Calls Tryz.prog 51 #[.string ⟨s.toArray⟩, .int .u8 44] w (SplR (spl 44 s) w) := rsplit_c s 44 w hs
theorem rsplit_32 (s : List UInt8) (w : World) (hs : s.length ≤ 100000) : Calls Tryz.prog 51 #[.string ⟨s.toArray⟩, .int .u8 32] w (SplR (spl 32 s) w) := rsplit_c s 32 w hs
set_option maxRecDepth 100000 in
set_option maxHeartbeats 4000000 in
theorem rtest_1 (N R off cap : Nat) (ws : List (List UInt8)) (w : World) (hr : RdS ws R off w) (hcap : ws.length ≤ cap) (hcm : cap ≤ maxLen) (hl : ∀ x ∈ ws, x.length ≤ 7000) (hN : (N : Int) ≤ 4611686018427387904)
    (h0 : hd1 ws = wN) (hmo : (tl1 ws).head? ≠ some wMod) (hp : 0 < ws.length) :
    Calls Tryz.prog 112 #[.slice (some ⟨R, off, none⟩) ws.length cap, .int .i64 (N : Int)] w fun e w' => e = .returned (rtV N ws) ∧ Ext w w' := by
  unfold maxLen at hcm
  have HR := Lib.hid (whR_no hmo)
  have HN : Hid (whN N ws = N) := by unfold Hid whN; rw [if_neg hmo]
  have HB : Hid (whB ws = true) := by unfold Hid whB; simp [h0, hmo]
  have HK : Hid (teK ws = 3) := by unfold Hid teK; rw [if_neg hmo]
  have Hr := Lib.hid hr
  have Hl := Lib.hid hl
  have c0 := hr.2 0 hp
  rw [Nat.add_zero, show ws[0] = wN from by rw [← hd_drop ws 0 hp]; exact h0] at c0
  replace c0 : w.cell? ⟨R, off, none⟩ = some (.string ⟨#[110]⟩) := c0
  have hR := hr.1
  have hnil : ¬ ws = [] := by intro e; rw [e] at hp; simp at hp
  have dn0 : ((ws.length : Int) == 0) = false := by rw [beq_eq_false_iff_ne]; omega
  clear hr hl h0
  by_cases hs : 2 < ws.length
  · have Hx1 : Hid (ws[1] ≠ wMod) := by
      intro e
      apply hmo
      rw [show tl1 ws = ws.drop 1 from tl_drop ws 0, List.head?_drop, List.getElem?_eq_getElem (by omega), e]
    clear hmo
    have d2 : decide (2 < (ws.length : Int)) = true := by simp; omega
    have hk1 : 1 < ws.length := by omega
    have hk2 : 1 + 1 < ws.length := by omega
    have e1 := Hr.out.2 1 hk1
    have e2 := Hr.out.2 (1 + 1) hk2
    have Hop := Lib.hid (fun h1 h2 => rtV_no (N := N) (teB_op HR.out hk1 h1 h2))
    have Hli := Lib.hid (fun h1 => rtV_no (N := N) (teB_list HR.out hk2 h1))
    have Hye := Lib.hid (fun h0 h1 => rtV_yes (N := N) (teB_yes HR.out HB.out hk2 h0 h1))
    have HH := Lib.hid (teH_eq HR.out HN.out hk2)
    have hl2 : ws[1 + 1].length ≤ 7000 := Hl.out _ (List.getElem_mem _)
    obtain ⟨op, hop⟩ : ∃ op, op = ws[1] := ⟨_, rfl⟩
    obtain ⟨li, hli⟩ : ∃ li, li = ws[1 + 1] := ⟨_, rfl⟩
    rw [← hop] at e1 Hop Hye HH
    rw [← hli] at e2 Hli Hye HH hl2
    have Hop2 := Lib.hid hop
    clear hop hli
    have t1 : (op == [109, 111, 100]) = false := by rw [beq_eq_false_iff_ne]; intro e; exact Hx1.out (Hop2.out.symm.trans e)
    by_cases g1 : op = wIs
    · have t2 : (op == [105, 115]) = true := by rw [g1]; rfl
      have t3 : (op != [105, 115]) = false := by rw [g1]; rfl
      have Hye2 := Lib.hid (fun h1 => Hye.out (.inl g1) h1)
      have HH2 : Hid (teH N ws = (inList N li == true)) := by rw [Hid, HH.out, g1]; rfl
      have Hg1 := Lib.hid g1
      clear g1
      go_enter Tryz.func112, Tryz.ntmps112
      go_wp2_with (first
        | (go_at_call 53; (with_reducible refine (rnum_c x2 _ hx2l).mono ?_); (with_reducible rw [Hx2.out]); rintro e w1 ⟨rfl, rfl⟩)
        | (go_at_call 51; (with_reducible refine (rsplit_44 li _ (by omega)).mono ?_); rintro e w2 ⟨R2, cap2, rfl, hp1, hp2, hp3, hp4, hE2⟩))
      have e1w := (hE2.cells _ _ hR).trans e1
      have Hp3 := Lib.hid hp3
      have hPl := spl_len 44 li
      have Hin : Hid (inList N li = (spl 44 li).any (inIt N)) := rfl
      have Hal : Hid (listB li = (spl 44 li).all itB) := rfl
      clear hp3 c0 e1 e2
      try clear c1 c2
      unfold maxLen at hp2
      generalize spl 44 li = P at hp1 Hp3 hPl Hin Hal ⊢
      have HPl := Lib.hid hPl
      clear hPl
      go_loop [10, 12] (fun iv i => ∃ j : Nat, j ≤ P.length ∧ i = .int .i64 (j : Int) ∧ iv = .bool ((P.take j).any (inIt N)) ∧ Hid ((P.take j).all itB = true)) (fun _ i => P.length - (intOf i).toNat)
      case atStart => exact ⟨0, Nat.zero_le _, rfl, rfl, rfl⟩
      case round =>
        obtain ⟨j, hj, rfl, rfl, Hbo⟩ := hrel
        by_cases hlt : j < P.length
        · have hsj := HPl.out P[j] (List.getElem_mem _)
          have hce := Hp3.out.2 j hlt
          rw [Nat.zero_add] at hce
          have Hany := Lib.hid (any_succ P (inIt N) j hlt)
          have Hall := Lib.hid (all_succ P itB j hlt)
          have Hmem : Hid (P[j] ∈ P) := List.getElem_mem _
          have HI : Hid (∀ s, inIt N s = decide (itLo s ≤ N ∧ N ≤ itHi s)) := fun s => rfl
          obtain ⟨s, hs⟩ : ∃ s, s = P[j] := ⟨_, rfl⟩
          rw [← hs] at hsj hce Hany Hall Hmem
          clear hs
          rcases Bool.eq_false_or_eq_true (itB s) with hb | hb
          · have Hb := Lib.hid hb
            clear hb
            generalize hfo : (P.take j).any (inIt N) = fo at Hany ⊢
            clear hfo
            by_cases hlo : itLo s ≤ N
            · have d9 : decide ((itLo s : Int) ≤ (N : Int)) = true := by simp; omega
              cases fo
              all_goals (go_wp2_with (go_at_call 138; (with_reducible refine (item_c s _ (by omega)).mono ?_); (with_reducible rw [Hb.out]); rintro e w3 ⟨rfl, rfl⟩)
                         go_round
                         case rel => exact ⟨j + 1, by omega, by go_num, congrArg Value.bool (by rw [Hany.out, HI.out]; simp <;> omega), by rw [Hid, Hall.out, Hbo.out, Hb.out]; rfl⟩
                         case measure => simp [intOf]; omega)
            · have d9 : decide ((itLo s : Int) ≤ (N : Int)) = false := by simp; omega
              cases fo
              all_goals (go_wp2_with (go_at_call 138; (with_reducible refine (item_c s _ (by omega)).mono ?_); (with_reducible rw [Hb.out]); rintro e w3 ⟨rfl, rfl⟩)
                         go_round
                         case rel => exact ⟨j + 1, by omega, by go_num, congrArg Value.bool (by rw [Hany.out, HI.out]; simp <;> omega), by rw [Hid, Hall.out, Hbo.out, Hb.out]; rfl⟩
                         case measure => simp [intOf]; omega)
          · have HL : Hid (listB li = false) := by
              rw [Hid, Hal.out, ← Bool.not_eq_true]
              intro q
              rw [List.all_eq_true.1 q s Hmem.out] at hb
              cases hb
            have HV := Lib.hid (Hli.out HL.out)
            have Hb := Lib.hid hb
            clear hb
            go_wp2_with (go_at_call 138; (with_reducible refine (item_c s _ (by omega)).mono ?_); (with_reducible rw [Hb.out]); rintro e w3 ⟨rfl, rfl⟩)
            go_ret3
            exact ⟨by rw [HV.out]; rfl, hE2⟩
        · obtain rfl : j = P.length := by omega
          have HL : Hid (listB li = true) := by rw [Hid, Hal.out]; have := Hbo.out; rw [List.take_length] at this; exact this
          have HV := Lib.hid (Hye2.out HL.out)
          rw [List.take_length]
          generalize hfo : P.any (inIt N) = fo at Hin ⊢
          clear hfo
          cases fo
          all_goals
            go_wp2
            go_quiet (fail)
            go_wp2
            go_ret3
            exact ⟨by rw [HV.out, HK.out, HH2.out, Hin.out]; rfl, hE2.drewN _⟩
    · have t2 : (op == [105, 115]) = false := beq_eq_false_iff_ne.2 g1
      have t3 : (op != [105, 115]) = true := bne_iff_ne.2 g1
      by_cases g2 : op = wNot
      · have t4 : (op == [110, 111, 116]) = true := by rw [g2]; rfl
        have t5 : (op != [110, 111, 116]) = false := by rw [g2]; rfl
        have Hye2 := Lib.hid (fun h1 => Hye.out (.inr g2) h1)
        have HH2 : Hid (teH N ws = (inList N li == false)) := by rw [Hid, HH.out]; simp [g1]
        have Hg1 := Lib.hid g1
        clear g1 g2
        go_enter Tryz.func112, Tryz.ntmps112
        go_wp2_with (first
          | (go_at_call 53; (with_reducible refine (rnum_c x2 _ hx2l).mono ?_); (with_reducible rw [Hx2.out]); rintro e w1 ⟨rfl, rfl⟩)
          | (go_at_call 51; (with_reducible refine (rsplit_44 li _ (by omega)).mono ?_); rintro e w2 ⟨R2, cap2, rfl, hp1, hp2, hp3, hp4, hE2⟩))
        have e1w := (hE2.cells _ _ hR).trans e1
        have Hp3 := Lib.hid hp3
        have hPl := spl_len 44 li
        have Hin : Hid (inList N li = (spl 44 li).any (inIt N)) := rfl
        have Hal : Hid (listB li = (spl 44 li).all itB) := rfl
        clear hp3 c0 e1 e2
        try clear c1 c2
        unfold maxLen at hp2
        generalize spl 44 li = P at hp1 Hp3 hPl Hin Hal ⊢
        have HPl := Lib.hid hPl
        clear hPl
        go_loop [10, 12] (fun iv i => ∃ j : Nat, j ≤ P.length ∧ i = .int .i64 (j : Int) ∧ iv = .bool ((P.take j).any (inIt N)) ∧ Hid ((P.take j).all itB = true)) (fun _ i => P.length - (intOf i).toNat)
        case atStart => exact ⟨0, Nat.zero_le _, rfl, rfl, rfl⟩
        case round =>
          obtain ⟨j, hj, rfl, rfl, Hbo⟩ := hrel
          by_cases hlt : j < P.length
          · have hsj := HPl.out P[j] (List.getElem_mem _)
            have hce := Hp3.out.2 j hlt
            rw [Nat.zero_add] at hce
            have Hany := Lib.hid (any_succ P (inIt N) j hlt)
            have Hall := Lib.hid (all_succ P itB j hlt)
            have Hmem : Hid (P[j] ∈ P) := List.getElem_mem _
            have HI : Hid (∀ s, inIt N s = decide (itLo s ≤ N ∧ N ≤ itHi s)) := fun s => rfl
            obtain ⟨s, hs⟩ : ∃ s, s = P[j] := ⟨_, rfl⟩
            rw [← hs] at hsj hce Hany Hall Hmem
            clear hs
            rcases Bool.eq_false_or_eq_true (itB s) with hb | hb
            · have Hb := Lib.hid hb
              clear hb
              generalize hfo : (P.take j).any (inIt N) = fo at Hany ⊢
              clear hfo
              by_cases hlo : itLo s ≤ N
              · have d9 : decide ((itLo s : Int) ≤ (N : Int)) = true := by simp; omega
                cases fo
                all_goals (go_wp2_with (go_at_call 138; (with_reducible refine (item_c s _ (by omega)).mono ?_); (with_reducible rw [Hb.out]); rintro e w3 ⟨rfl, rfl⟩)
                           go_round
                           case rel => exact ⟨j + 1, by omega, by go_num, congrArg Value.bool (by rw [Hany.out, HI.out]; simp <;> omega), by rw [Hid, Hall.out, Hbo.out, Hb.out]; rfl⟩
                           case measure => simp [intOf]; omega)
              · have d9 : decide ((itLo s : Int) ≤ (N : Int)) = false := by simp; omega
                cases fo
                all_goals (go_wp2_with (go_at_call 138; (with_reducible refine (item_c s _ (by omega)).mono ?_); (with_reducible rw [Hb.out]); rintro e w3 ⟨rfl, rfl⟩)
                           go_round
                           case rel => exact ⟨j + 1, by omega, by go_num, congrArg Value.bool (by rw [Hany.out, HI.out]; simp <;> omega), by rw [Hid, Hall.out, Hbo.out, Hb.out]; rfl⟩
                           case measure => simp [intOf]; omega)
            · have HL : Hid (listB li = false) := by
                rw [Hid, Hal.out, ← Bool.not_eq_true]
                intro q
                rw [List.all_eq_true.1 q s Hmem.out] at hb
                cases hb
              have HV := Lib.hid (Hli.out HL.out)
              have Hb := Lib.hid hb
              clear hb
              go_wp2_with (go_at_call 138; (with_reducible refine (item_c s _ (by omega)).mono ?_); (with_reducible rw [Hb.out]); rintro e w3 ⟨rfl, rfl⟩)
              go_ret3
              exact ⟨by rw [HV.out]; rfl, hE2⟩
          · obtain rfl : j = P.length := by omega
            have HL : Hid (listB li = true) := by rw [Hid, Hal.out]; have := Hbo.out; rw [List.take_length] at this; exact this
            have HV := Lib.hid (Hye2.out HL.out)
            rw [List.take_length]
            generalize hfo : P.any (inIt N) = fo at Hin ⊢
            clear hfo
            cases fo
            all_goals
              go_wp2
              go_quiet (fail)
              go_wp2
              go_ret3
              exact ⟨by rw [HV.out, HK.out, HH2.out, Hin.out]; rfl, hE2.drewN _⟩
      · have t4 : (op == [110, 111, 116]) = false := beq_eq_false_iff_ne.2 g2
        have t5 : (op != [110, 111, 116]) = true := bne_iff_ne.2 g2
        have HV := Lib.hid (Hop.out g1 g2)
        clear g1 g2
        go_enter Tryz.func112, Tryz.ntmps112
        go_wp2_with (first
          | (go_at_call 53; (with_reducible refine (rnum_c x2 _ hx2l).mono ?_); (with_reducible rw [Hx2.out]); rintro e w1 ⟨rfl, rfl⟩)
          | (go_at_call 51; (with_reducible refine (rsplit_44 li _ (by omega)).mono ?_); rintro e w2 ⟨R2, cap2, rfl, hp1, hp2, hp3, hp4, hE2⟩))
        go_ret3
        exact ⟨by rw [HV.out]; rfl, Ext.refl _⟩
  · have d2 : decide (2 < (ws.length : Int)) = false := by simp; omega
    have HV := Lib.hid (rtV_no (N := N) (teB_short HR.out (by omega)))
    have d3 : (ws.length : Int) < 3 := by omega
    clear hmo
    go_enter Tryz.func112, Tryz.ntmps112
    go_wp2
    go_ret3
    exact ⟨by rw [HV.out]; rfl, Ext.refl _⟩
end Go.Proofs.YtnhdmnhfllecgaaGreatDoor
/- The walk of the reference's test: with mod. -/
namespace Go.Proofs.YtnhdmnhfllecgaaGreatDoor
set_option linter.unusedVariables false
set_option linter.unusedSimpArgs false
open Go.RowKit

theorem whB_mod {ws : List (List UInt8)} (h : (tl1 ws).head? = some wMod) (x : List UInt8) (hx : hd1 (ws.drop 2) = x) : whB ws = (decide (hd1 ws = wN) && (numB x && decide (numN x ≠ 0))) := by
  unfold whB
  have e : tl1 (tl1 ws) = ws.drop 2 := by
    show tl1 (tl1 (ws.drop 0)) = _
    rw [tl_drop, tl_drop]
  rw [e, hx, h]
  simp
theorem teB_wh {ws : List (List UInt8)} (h : whB ws = false) : teB ws = false := by unfold teB; rw [h]; rfl
set_option maxRecDepth 100000 in
set_option maxHeartbeats 4000000 in
theorem rtest_2 (N R off cap : Nat) (ws : List (List UInt8)) (w : World) (hr : RdS ws R off w) (hcap : ws.length ≤ cap) (hcm : cap ≤ maxLen) (hl : ∀ x ∈ ws, x.length ≤ 7000) (hN : (N : Int) ≤ 4611686018427387904)
    (h0 : hd1 ws = wN) (hmo : (tl1 ws).head? = some wMod) (hp : 1 < ws.length) :
    Calls Tryz.prog 112 #[.slice (some ⟨R, off, none⟩) ws.length cap, .int .i64 (N : Int)] w fun e w' => e = .returned (rtV N ws) ∧ Ext w w' := by
  unfold maxLen at hcm
  have HR := Lib.hid (whR_mod hmo)
  have Hr := Lib.hid hr
  have Hl := Lib.hid hl
  have hp0 : 0 < ws.length := by omega
  have c0 := hr.2 0 hp0
  rw [Nat.add_zero, show ws[0] = wN from by rw [← hd_drop ws 0 hp0]; exact h0] at c0
  replace c0 : w.cell? ⟨R, off, none⟩ = some (.string ⟨#[110]⟩) := c0
  have c1 := hr.2 1 hp
  rw [show ws[1] = wMod from by
    rw [show tl1 ws = ws.drop 1 from tl_drop ws 0, List.head?_drop, List.getElem?_eq_getElem hp] at hmo
    exact Option.some.inj hmo] at c1
  replace c1 : w.cell? ⟨R, off + 1, none⟩ = some (.string ⟨#[109, 111, 100]⟩) := c1
  have hR := hr.1
  have hnil : ¬ ws = [] := by intro e; rw [e] at hp; simp at hp
  have dn0 : ((ws.length : Int) == 0) = false := by rw [beq_eq_false_iff_ne]; omega
  clear hr hl
  by_cases hs : 2 < ws.length
  · have d2 : decide (2 < (ws.length : Int)) = true := by simp; omega
    have hx2l := Hl.out ws[2] (List.getElem_mem _)
    have c2 := Hr.out.2 2 hs
    have HWB := Lib.hid (whB_mod hmo ws[2] (hd_drop ws 2 hs))
    have HN0 : Hid (whN N ws = if numN ws[2] = 0 then 0 else N % numN ws[2]) := by
      unfold Hid whN
      rw [if_pos hmo]
      have e : tl1 (tl1 ws) = ws.drop 2 := by
        show tl1 (tl1 (ws.drop 0)) = _
        rw [tl_drop, tl_drop]
      rw [e, hd_drop ws 2 hs]
    have HK : Hid (teK ws = 3 + 2) := by unfold Hid teK; rw [if_pos hmo]
    obtain ⟨x2, hx2⟩ : ∃ x2, x2 = ws[2] := ⟨_, rfl⟩
    rw [← hx2] at hx2l c2 HWB HN0
    have Hh0 := Lib.hid h0
    clear hx2 hmo h0
    rcases Bool.eq_false_or_eq_true (numB x2) with hb | hb
    · have Hx2 := Lib.hid hb
      clear hb
      by_cases hz : numN x2 = 0
      · have t1 : ((numN x2 : Int) == 0) = true := by rw [beq_iff_eq]; omega
        have HV := Lib.hid (rtV_no (N := N) (teB_wh (by rw [HWB.out, Hx2.out]; simp [hz])))
        clear hz
        go_enter Tryz.func112, Tryz.ntmps112
        go_wp2_with (go_at_call 53; (with_reducible refine (rnum_c x2 _ hx2l).mono ?_); (with_reducible rw [Hx2.out]); rintro e w1 ⟨rfl, rfl⟩)
        go_ret3
        exact ⟨by rw [HV.out]; rfl, Ext.refl _⟩
      · have t6 : ((numN x2 : Int) == 0) = false := by rw [beq_eq_false_iff_ne]; omega
        have HB : Hid (whB ws = true) := by rw [Hid, HWB.out, Hx2.out, Hh0.out]; simp [hz]
        obtain ⟨N1, hN1⟩ : ∃ N1, N1 = N % numN x2 := ⟨_, rfl⟩
        have HN : Hid (whN N ws = N1) := by rw [Hid, HN0.out, if_neg hz, hN1]
        have hmod : (N : Int) % (numN x2 : Int) = (N1 : Int) := by rw [hN1]; simp
        have hpos : 1 ≤ (numN x2 : Int) := by omega
        have hN1b : N1 ≤ N := by rw [hN1]; exact Nat.mod_le _ _
        clear hz hN1
        by_cases h5 : ws.length < 5
        · have HV := Lib.hid (rtV_no (N := N) (teB_short HR.out h5))
          have d3 : (ws.length : Int) < 5 := by omega
          go_enter Tryz.func112, Tryz.ntmps112
          go_wp2_with (go_at_call 53; (with_reducible refine (rnum_c x2 _ hx2l).mono ?_); (with_reducible rw [Hx2.out]); rintro e w1 ⟨rfl, rfl⟩)
          go_ret3
          exact ⟨by rw [HV.out]; rfl, Ext.refl _⟩
        · have d3 : ¬ (ws.length : Int) < 5 := by omega
          have hk1 : 3 < ws.length := by omega
          have hk2 : 3 + 1 < ws.length := by omega
          have e1 := Hr.out.2 3 hk1
          have e2 := Hr.out.2 (3 + 1) hk2
          have Hop := Lib.hid (fun h1 h2 => rtV_no (N := N) (teB_op HR.out hk1 h1 h2))
          have Hli := Lib.hid (fun h1 => rtV_no (N := N) (teB_list HR.out hk2 h1))
          have Hye := Lib.hid (fun h0 h1 => rtV_yes (N := N) (teB_yes HR.out HB.out hk2 h0 h1))
          have HH := Lib.hid (teH_eq HR.out HN.out hk2)
          have hl2 : ws[3 + 1].length ≤ 7000 := Hl.out _ (List.getElem_mem _)
          obtain ⟨op, hop⟩ : ∃ op, op = ws[3] := ⟨_, rfl⟩
          obtain ⟨li, hli⟩ : ∃ li, li = ws[3 + 1] := ⟨_, rfl⟩
          rw [← hop] at e1 Hop Hye HH
          rw [← hli] at e2 Hli Hye HH hl2
          have Hop2 := Lib.hid hop
          clear hop hli
          skip
          by_cases g1 : op = wIs
          · have t2 : (op == [105, 115]) = true := by rw [g1]; rfl
            have t3 : (op != [105, 115]) = false := by rw [g1]; rfl
            have Hye2 := Lib.hid (fun h1 => Hye.out (.inl g1) h1)
            have HH2 : Hid (teH N ws = (inList N1 li == true)) := by rw [Hid, HH.out, g1]; rfl
            have Hg1 := Lib.hid g1
            clear g1
            go_enter Tryz.func112, Tryz.ntmps112
            go_wp2_with (first
              | (go_at_call 53; (with_reducible refine (rnum_c x2 _ hx2l).mono ?_); (with_reducible rw [Hx2.out]); rintro e w1 ⟨rfl, rfl⟩)
              | (go_at_call 51; (with_reducible refine (rsplit_44 li _ (by omega)).mono ?_); rintro e w2 ⟨R2, cap2, rfl, hp1, hp2, hp3, hp4, hE2⟩))
            have e1w := (hE2.cells _ _ hR).trans e1
            have Hp3 := Lib.hid hp3
            have hPl := spl_len 44 li
            have Hin : Hid (inList N1 li = (spl 44 li).any (inIt N1)) := rfl
            have Hal : Hid (listB li = (spl 44 li).all itB) := rfl
            clear hp3 c0 e1 e2
            try clear c1 c2
            unfold maxLen at hp2
            generalize spl 44 li = P at hp1 Hp3 hPl Hin Hal ⊢
            have HPl := Lib.hid hPl
            clear hPl
            go_loop [10, 12] (fun iv i => ∃ j : Nat, j ≤ P.length ∧ i = .int .i64 (j : Int) ∧ iv = .bool ((P.take j).any (inIt N1)) ∧ Hid ((P.take j).all itB = true)) (fun _ i => P.length - (intOf i).toNat)
            case atStart => exact ⟨0, Nat.zero_le _, rfl, rfl, rfl⟩
            case round =>
              obtain ⟨j, hj, rfl, rfl, Hbo⟩ := hrel
              by_cases hlt : j < P.length
              · have hsj := HPl.out P[j] (List.getElem_mem _)
                have hce := Hp3.out.2 j hlt
                rw [Nat.zero_add] at hce
                have Hany := Lib.hid (any_succ P (inIt N1) j hlt)
                have Hall := Lib.hid (all_succ P itB j hlt)
                have Hmem : Hid (P[j] ∈ P) := List.getElem_mem _
                have HI : Hid (∀ s, inIt N1 s = decide (itLo s ≤ N1 ∧ N1 ≤ itHi s)) := fun s => rfl
                obtain ⟨s, hs⟩ : ∃ s, s = P[j] := ⟨_, rfl⟩
                rw [← hs] at hsj hce Hany Hall Hmem
                clear hs
                rcases Bool.eq_false_or_eq_true (itB s) with hb | hb
                · have Hb := Lib.hid hb
                  clear hb
                  generalize hfo : (P.take j).any (inIt N1) = fo at Hany ⊢
                  clear hfo
                  by_cases hlo : itLo s ≤ N1
                  · have d9 : decide ((itLo s : Int) ≤ (N1 : Int)) = true := by simp; omega
                    cases fo
                    all_goals (go_wp2_with (go_at_call 138; (with_reducible refine (item_c s _ (by omega)).mono ?_); (with_reducible rw [Hb.out]); rintro e w3 ⟨rfl, rfl⟩)
                               go_round
                               case rel => exact ⟨j + 1, by omega, by go_num, congrArg Value.bool (by rw [Hany.out, HI.out]; simp <;> omega), by rw [Hid, Hall.out, Hbo.out, Hb.out]; rfl⟩
                               case measure => simp [intOf]; omega)
                  · have d9 : decide ((itLo s : Int) ≤ (N1 : Int)) = false := by simp; omega
                    cases fo
                    all_goals (go_wp2_with (go_at_call 138; (with_reducible refine (item_c s _ (by omega)).mono ?_); (with_reducible rw [Hb.out]); rintro e w3 ⟨rfl, rfl⟩)
                               go_round
                               case rel => exact ⟨j + 1, by omega, by go_num, congrArg Value.bool (by rw [Hany.out, HI.out]; simp <;> omega), by rw [Hid, Hall.out, Hbo.out, Hb.out]; rfl⟩
                               case measure => simp [intOf]; omega)
                · have HL : Hid (listB li = false) := by
                    rw [Hid, Hal.out, ← Bool.not_eq_true]
                    intro q
                    rw [List.all_eq_true.1 q s Hmem.out] at hb
                    cases hb
                  have HV := Lib.hid (Hli.out HL.out)
                  have Hb := Lib.hid hb
                  clear hb
                  go_wp2_with (go_at_call 138; (with_reducible refine (item_c s _ (by omega)).mono ?_); (with_reducible rw [Hb.out]); rintro e w3 ⟨rfl, rfl⟩)
                  go_ret3
                  exact ⟨by rw [HV.out]; rfl, hE2⟩
              · obtain rfl : j = P.length := by omega
                have HL : Hid (listB li = true) := by rw [Hid, Hal.out]; have := Hbo.out; rw [List.take_length] at this; exact this
                have HV := Lib.hid (Hye2.out HL.out)
                rw [List.take_length]
                generalize hfo : P.any (inIt N1) = fo at Hin ⊢
                clear hfo
                cases fo
                all_goals
                  go_wp2
                  go_quiet (fail)
                  go_wp2
                  go_ret3
                  exact ⟨by rw [HV.out, HK.out, HH2.out, Hin.out]; rfl, hE2.drewN _⟩
          · have t2 : (op == [105, 115]) = false := beq_eq_false_iff_ne.2 g1
            have t3 : (op != [105, 115]) = true := bne_iff_ne.2 g1
            by_cases g2 : op = wNot
            · have t4 : (op == [110, 111, 116]) = true := by rw [g2]; rfl
              have t5 : (op != [110, 111, 116]) = false := by rw [g2]; rfl
              have Hye2 := Lib.hid (fun h1 => Hye.out (.inr g2) h1)
              have HH2 : Hid (teH N ws = (inList N1 li == false)) := by rw [Hid, HH.out]; simp [g1]
              have Hg1 := Lib.hid g1
              clear g1 g2
              go_enter Tryz.func112, Tryz.ntmps112
              go_wp2_with (first
                | (go_at_call 53; (with_reducible refine (rnum_c x2 _ hx2l).mono ?_); (with_reducible rw [Hx2.out]); rintro e w1 ⟨rfl, rfl⟩)
                | (go_at_call 51; (with_reducible refine (rsplit_44 li _ (by omega)).mono ?_); rintro e w2 ⟨R2, cap2, rfl, hp1, hp2, hp3, hp4, hE2⟩))
              have e1w := (hE2.cells _ _ hR).trans e1
              have Hp3 := Lib.hid hp3
              have hPl := spl_len 44 li
              have Hin : Hid (inList N1 li = (spl 44 li).any (inIt N1)) := rfl
              have Hal : Hid (listB li = (spl 44 li).all itB) := rfl
              clear hp3 c0 e1 e2
              try clear c1 c2
              unfold maxLen at hp2
              generalize spl 44 li = P at hp1 Hp3 hPl Hin Hal ⊢
              have HPl := Lib.hid hPl
              clear hPl
              go_loop [10, 12] (fun iv i => ∃ j : Nat, j ≤ P.length ∧ i = .int .i64 (j : Int) ∧ iv = .bool ((P.take j).any (inIt N1)) ∧ Hid ((P.take j).all itB = true)) (fun _ i => P.length - (intOf i).toNat)
              case atStart => exact ⟨0, Nat.zero_le _, rfl, rfl, rfl⟩
              case round =>
                obtain ⟨j, hj, rfl, rfl, Hbo⟩ := hrel
                by_cases hlt : j < P.length
                · have hsj := HPl.out P[j] (List.getElem_mem _)
                  have hce := Hp3.out.2 j hlt
                  rw [Nat.zero_add] at hce
                  have Hany := Lib.hid (any_succ P (inIt N1) j hlt)
                  have Hall := Lib.hid (all_succ P itB j hlt)
                  have Hmem : Hid (P[j] ∈ P) := List.getElem_mem _
                  have HI : Hid (∀ s, inIt N1 s = decide (itLo s ≤ N1 ∧ N1 ≤ itHi s)) := fun s => rfl
                  obtain ⟨s, hs⟩ : ∃ s, s = P[j] := ⟨_, rfl⟩
                  rw [← hs] at hsj hce Hany Hall Hmem
                  clear hs
                  rcases Bool.eq_false_or_eq_true (itB s) with hb | hb
                  · have Hb := Lib.hid hb
                    clear hb
                    generalize hfo : (P.take j).any (inIt N1) = fo at Hany ⊢
                    clear hfo
                    by_cases hlo : itLo s ≤ N1
                    · have d9 : decide ((itLo s : Int) ≤ (N1 : Int)) = true := by simp; omega
                      cases fo
                      all_goals (go_wp2_with (go_at_call 138; (with_reducible refine (item_c s _ (by omega)).mono ?_); (with_reducible rw [Hb.out]); rintro e w3 ⟨rfl, rfl⟩)
                                 go_round
                                 case rel => exact ⟨j + 1, by omega, by go_num, congrArg Value.bool (by rw [Hany.out, HI.out]; simp <;> omega), by rw [Hid, Hall.out, Hbo.out, Hb.out]; rfl⟩
                                 case measure => simp [intOf]; omega)
                    · have d9 : decide ((itLo s : Int) ≤ (N1 : Int)) = false := by simp; omega
                      cases fo
                      all_goals (go_wp2_with (go_at_call 138; (with_reducible refine (item_c s _ (by omega)).mono ?_); (with_reducible rw [Hb.out]); rintro e w3 ⟨rfl, rfl⟩)
                                 go_round
                                 case rel => exact ⟨j + 1, by omega, by go_num, congrArg Value.bool (by rw [Hany.out, HI.out]; simp <;> omega), by rw [Hid, Hall.out, Hbo.out, Hb.out]; rfl⟩
                                 case measure => simp [intOf]; omega)
                  · have HL : Hid (listB li = false) := by
                      rw [Hid, Hal.out, ← Bool.not_eq_true]
                      intro q
                      rw [List.all_eq_true.1 q s Hmem.out] at hb
                      cases hb
                    have HV := Lib.hid (Hli.out HL.out)
                    have Hb := Lib.hid hb
                    clear hb
                    go_wp2_with (go_at_call 138; (with_reducible refine (item_c s _ (by omega)).mono ?_); (with_reducible rw [Hb.out]); rintro e w3 ⟨rfl, rfl⟩)
                    go_ret3
                    exact ⟨by rw [HV.out]; rfl, hE2⟩
                · obtain rfl : j = P.length := by omega
                  have HL : Hid (listB li = true) := by rw [Hid, Hal.out]; have := Hbo.out; rw [List.take_length] at this; exact this
                  have HV := Lib.hid (Hye2.out HL.out)
                  rw [List.take_length]
                  generalize hfo : P.any (inIt N1) = fo at Hin ⊢
                  clear hfo
                  cases fo
                  all_goals
                    go_wp2
                    go_quiet (fail)
                    go_wp2
                    go_ret3
                    exact ⟨by rw [HV.out, HK.out, HH2.out, Hin.out]; rfl, hE2.drewN _⟩
            · have t4 : (op == [110, 111, 116]) = false := beq_eq_false_iff_ne.2 g2
              have t5 : (op != [110, 111, 116]) = true := bne_iff_ne.2 g2
              have HV := Lib.hid (Hop.out g1 g2)
              clear g1 g2
              go_enter Tryz.func112, Tryz.ntmps112
              go_wp2_with (first
                | (go_at_call 53; (with_reducible refine (rnum_c x2 _ hx2l).mono ?_); (with_reducible rw [Hx2.out]); rintro e w1 ⟨rfl, rfl⟩)
                | (go_at_call 51; (with_reducible refine (rsplit_44 li _ (by omega)).mono ?_); rintro e w2 ⟨R2, cap2, rfl, hp1, hp2, hp3, hp4, hE2⟩))
              go_ret3
              exact ⟨by rw [HV.out]; rfl, Ext.refl _⟩
    · have Hx2 := Lib.hid hb
      have HV := Lib.hid (rtV_no (N := N) (teB_wh (by rw [HWB.out, hb]; simp)))
      clear hb
      go_enter Tryz.func112, Tryz.ntmps112
      go_wp2_with (go_at_call 53; (with_reducible refine (rnum_c x2 _ hx2l).mono ?_); (with_reducible rw [Hx2.out]); rintro e w1 ⟨rfl, rfl⟩)
      go_ret3
      exact ⟨by rw [HV.out]; rfl, Ext.refl _⟩
  · have d2 : decide (2 < (ws.length : Int)) = false := by simp; omega
    have HV := Lib.hid (rtV_no (N := N) (teB_wh (by rw [whB_mod hmo [] (hd_none ws 2 (by omega)), show numB [] = false from by decide]; simp)))
    have d3 : (ws.length : Int) < 3 := by omega
    clear hmo h0
    go_enter Tryz.func112, Tryz.ntmps112
    go_wp2
    go_ret3
    exact ⟨by rw [HV.out]; rfl, Ext.refl _⟩
set_option maxRecDepth 100000 in
theorem rtest_c (N R off cap : Nat) (ws : List (List UInt8)) (w : World) (hr : RdS ws R off w) (hcap : ws.length ≤ cap) (hcm : cap ≤ maxLen) (hl : ∀ x ∈ ws, x.length ≤ 7000) (hN : (N : Int) ≤ 4611686018427387904) :
    Calls Tryz.prog 112 #[.slice (some ⟨R, off, none⟩) ws.length cap, .int .i64 (N : Int)] w fun e w' => e = .returned (rtV N ws) ∧ Ext w w' := by
  by_cases h0 : hd1 ws = wN
  · have hp : 0 < ws.length := by
      rcases Nat.eq_zero_or_pos ws.length with q | q
      · rw [List.length_eq_zero_iff.1 q] at h0; cases h0
      · exact q
    by_cases hmo : (tl1 ws).head? = some wMod
    · refine rtest_2 N R off cap ws w hr hcap hcm hl hN h0 hmo ?_
      rcases Nat.lt_or_ge 1 ws.length with q | q
      · exact q
      · rw [show tl1 ws = ws.drop 1 from tl_drop ws 0, List.drop_eq_nil_of_le q] at hmo; cases hmo
    · exact rtest_1 N R off cap ws w hr hcap hcm hl hN h0 hmo hp
  · have HV := Lib.hid (rtV_no (N := N) (teB_hd h0))
    unfold maxLen at hcm
    by_cases hn : ws = []
    · subst hn
      clear hr hl h0
      go_enter Tryz.func112, Tryz.ntmps112
      go_wp2
      go_ret3
      exact ⟨by rw [HV.out]; rfl, Ext.refl _⟩
    · have hp : 0 < ws.length := List.length_pos_iff.2 hn
      have c0 := hr.2 0 hp
      rw [Nat.add_zero] at c0
      have hR := hr.1
      have dn0 : ((ws.length : Int) == 0) = false := by rw [beq_eq_false_iff_ne]; omega
      have hx : ws[0] ≠ wN := by rw [← hd_drop ws 0 hp]; exact h0
      obtain ⟨x, hx0⟩ : ∃ x, x = ws[0] := ⟨_, rfl⟩
      rw [← hx0] at c0 hx
      have t1 : (x == [110]) = false := beq_eq_false_iff_ne.2 hx
      have t2 : (x != [110]) = true := bne_iff_ne.2 hx
      clear hr hl h0 hx hx0
      go_enter Tryz.func112, Tryz.ntmps112
      go_wp2
      go_ret3
      exact ⟨by rw [HV.out]; rfl, Ext.refl _⟩
end Go.Proofs.YtnhdmnhfllecgaaGreatDoor
