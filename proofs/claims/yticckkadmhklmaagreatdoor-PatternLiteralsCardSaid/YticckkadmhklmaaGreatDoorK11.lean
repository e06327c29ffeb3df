/- Patterns: the walk of valid. -/
import Derived.Test.YticckkadmhklmaaGreatDoorK04
import Derived.Test.YticckkadmhklmaaGreatDoorK06
import Derived.Test.YticckkadmhklmaaGreatDoorK00
namespace Go.Proofs.YticckkadmhklmaaGreatDoor
set_option linter.unusedVariables false
set_option linter.unusedSimpArgs false
open Go.RowKit

theorem tailB_some (q : Prt) : ∀ (r : List Prt), tailB (some q) r = true ↔ ∀ i (h : i < r.length), partB r[i] = true ∧ (lpK r[i].k == lpK ((q :: r)[i]'(by simp; omega)).k) = false
  | [] => by simp [tailB]
  | p :: r => by
    rw [tailB, Bool.and_eq_true, Bool.and_eq_true, tailB_some p r, Bool.not_eq_true']
    constructor
    · rintro ⟨⟨a, b⟩, c⟩ i h
      cases i with
      | zero => exact ⟨a, b⟩
      | succ i => exact c i (by simpa using h)
    · intro h
      refine ⟨h 0 (by simp), fun i hi => h (i + 1) (by simpa using hi)⟩
theorem tailB_iff (l : List Prt) : tailB none l = true ↔ ∀ i (h : i < l.length), partB l[i] = true ∧ (0 < i → (lpK l[i].k == lpK (l[i - 1]'(by omega)).k) = false) := by
  cases l with
  | nil => simp [tailB]
  | cons p r =>
    rw [tailB, Bool.and_eq_true, tailB_some p r]
    constructor
    · rintro ⟨a, c⟩ i h
      cases i with
      | zero => exact ⟨a, fun q => absurd q (by omega)⟩
      | succ i =>
        obtain ⟨x, y⟩ := c i (by simpa using h)
        exact ⟨x, fun _ => y⟩
    · intro h
      refine ⟨(h 0 (by simp)).1, fun i hi => ?_⟩
      obtain ⟨x, y⟩ := h (i + 1) (by simpa using hi)
      exact ⟨x, y (by omega)⟩
theorem part_lit (p : Prt) (b : Bool) (w : World) (hl : p.t.length ≤ 4000) (h : partB p = b) : Calls Tryz.prog 69 #[.agg #[.int .i64 p.k, .int .i64 p.w, .string ⟨p.t.toArray⟩]] w fun e w' => e = .returned (.bool b) ∧ Ext w w' := by
  have q := part_c p w hl
  rw [h] at q
  exact q
theorem letter_z (k : Int) (w : World) (h1 : 1 ≤ k) (h2 : k ≤ 15) : Calls Tryz.prog 32 #[.int .i64 k] w fun e w' => e = .returned (.int .u8 ((lpK k).toNat : Int)) ∧ w = w' := by
  obtain ⟨n, rfl⟩ : ∃ n : Nat, k = n := ⟨k.toNat, by omega⟩
  exact letter_c n (by omega) w
theorem letter_x (k : Int) (x : Int) (w : World) (h1 : 1 ≤ k) (h2 : k ≤ 15) (hx : ((lpK k).toNat : Int) = x) : Calls Tryz.prog 32 #[.int .i64 k] w fun e w' => e = .returned (.int .u8 x) ∧ w = w' := by
  rw [← hx]; exact letter_z k w h1 h2
/-- The part at place i is well there. -/
def vAt (l : List Prt) (i : Nat) : Prop := ∀ h : i < l.length, partB l[i] = true ∧ (0 < i → (lpK l[i].k == lpK (l[i - 1]'(by omega)).k) = false)
theorem valid_no (l : List Prt) (j : Nat) (h : j < l.length) (hn : ¬ vAt l j) : validB l = false := by
  unfold validB
  cases e : tailB none l with
  | false => simp
  | true => exact absurd (fun h => (tailB_iff l).1 e j h) hn
theorem valid_yes (l : List Prt) (h40 : l.length ≤ 40) (h : ∀ i, i < l.length → vAt l i) : validB l = true := by
  unfold validB
  rw [decide_eq_true h40, (tailB_iff l).2 (fun i hi => h i hi hi)]
  rfl
theorem vAt_zero (l : List Prt) (j : Nat) (h : j < l.length) (hp : partB l[j] = true) (h0 : j = 0) : ∀ i, i < j + 1 → vAt l i := by
  intro i hi hl
  obtain rfl : i = j := by omega
  exact ⟨hp, fun q => absurd q (by omega)⟩
theorem vAt_succ (l : List Prt) (m j : Nat) (hj : j < l.length) (hjm : m + 1 = j) (hp : partB l[j] = true) (ha : ∀ i, i < j → vAt l i) (hx : (lpK l[j].k == lpK (l[m]'(by omega)).k) = false) : ∀ i, i < j + 1 → vAt l i := by
  intro i hi
  by_cases e : i = j
  · subst e
    subst hjm
    exact fun _ => ⟨hp, fun _ => hx⟩
  · exact ha i (by omega)
theorem vAt_not (l : List Prt) (m j : Nat) (hj : j < l.length) (hjm : m + 1 = j) (hx : (lpK l[j].k == lpK (l[m]'(by omega)).k) = true) : ¬ vAt l j := by
  intro h
  subst hjm
  have := (h hj).2 (by omega)
  simp only [Nat.add_sub_cancel] at this
  rw [hx] at this
  cases this
set_option maxRecDepth 100000 in
set_option maxHeartbeats 1000000 in
theorem pvalid_c (l : List Prt) (ao : Option Addr) (cap : Nat) (w : World) (h : PtV ao cap l w) (hl : ∀ p ∈ l, p.t.length ≤ 4000) :
    Calls Tryz.prog 29 #[.slice ao l.length cap] w fun e w' => e = .returned (.bool (validB l)) ∧ Ext w w' := by
  have hlen := h.1
  have hcap := h.2.1
  unfold maxLen at hcap
  have H := Lib.hid h.2.2
  clear h
  by_cases h40 : l.length ≤ 40
  · have d1 : decide ((40 : Int) < (l.length : Int)) = false := by simp; omega
    have HV : Hid (validB l = tailB none l) := by rw [Hid, validB, decide_eq_true h40]; rfl
    have Hl := Lib.hid hl
    have hE0 := Ext.refl w
    clear hl
    go_enter Tryz.func29, Tryz.ntmps29
    go_wp2
    go_loopw [10] (fun i wr => ∃ j : Nat, j ≤ l.length ∧ i = .int .i64 (j : Int) ∧ Hid (∀ i, i < j → vAt l i) ∧ Ext w wr) (fun i _ => l.length - (intOf i).toNat)
    case atStart => exact ⟨0, Nat.zero_le _, rfl, fun i q => absurd q (Nat.not_lt_zero i), hE0⟩
    case round =>
      obtain ⟨j, hj, rfl, Hall, hE⟩ := hrel
      by_cases hlt : j < l.length
      · obtain ⟨R, off, rfl, hR, hc⟩ := H.out (by rintro rfl; simp at hlt)
        have hRr := hE.lt hR
        obtain ⟨c0, c1, c2⟩ := hc j hlt
        replace c0 := (hE.cells R _ hR).trans c0
        replace c1 := (hE.cells R _ hR).trans c1
        replace c2 := (hE.cells R _ hR).trans c2
        have ht := Hl.out l[j] (List.getElem_mem _)
        rcases Bool.eq_false_or_eq_true (partB l[j]) with hp | hp
        · by_cases j0 : j = 0
          · have HS := Lib.hid (vAt_zero l j hlt hp j0)
            have d0 : decide ((0 : Int) < (j : Int)) = false := by simp; omega
            have d0n : ¬ 0 < j := by omega
            have J0 := Lib.hid j0
            clear j0
            obtain ⟨p, hpp⟩ : ∃ p, p = l[j] := ⟨_, rfl⟩
            rw [← hpp] at c0 c1 c2 ht hp
            clear hpp
            obtain ⟨k, wd, t⟩ := p
            simp only at c0 c1 c2 ht
            have HP := Lib.hid hp
            clear hp
            go_wp2
            have hW : Ext wr (wr.alloc (.cells #[Value.int .i64 k, Value.int .i64 wd, Value.string ⟨t.toArray⟩] 38)) := (Ext.refl wr).alloc _
            have k0 : (wr.alloc (.cells #[Value.int .i64 k, Value.int .i64 wd, Value.string ⟨t.toArray⟩] 38)).cell? ⟨wr.heap.size, 0, none⟩ = some (.int .i64 k) := by rw [World.cell?_alloc_new]; rfl
            have k1 : (wr.alloc (.cells #[Value.int .i64 k, Value.int .i64 wd, Value.string ⟨t.toArray⟩] 38)).cell? ⟨wr.heap.size, 1, none⟩ = some (.int .i64 wd) := by rw [World.cell?_alloc_new]; rfl
            have k2 : (wr.alloc (.cells #[Value.int .i64 k, Value.int .i64 wd, Value.string ⟨t.toArray⟩] 38)).cell? ⟨wr.heap.size, 2, none⟩ = some (.string ⟨t.toArray⟩) := by rw [World.cell?_alloc_new]; rfl
            have kz : wr.heap.size < (wr.alloc (.cells #[Value.int .i64 k, Value.int .i64 wd, Value.string ⟨t.toArray⟩] 38)).heap.size := by simp
            generalize wr.alloc (.cells #[Value.int .i64 k, Value.int .i64 wd, Value.string ⟨t.toArray⟩] 38) = W at hW k0 k1 k2 kz ⊢
            generalize wr.heap.size = B at k0 k1 k2 kz ⊢
            refine wp_region_head 2 (by kernel_rfl) (by kernel_rfl) ?_
            simp only [List.take_succ_cons, List.take_zero, List.drop_succ_cons, List.drop_zero]
            go_wp2_with (first
              | (go_at_call 69; (with_reducible refine (part_lit ⟨k, wd, t⟩ true _ ht HP.out).mono ?_); rintro e w1 ⟨rfl, hE1⟩; have E1 : Ext wr w1 := hW.drew.trans hE1; skip)
              | go_in)
            refine HdQ.on ?_
            repeat (go_big_quiet_step (fail))
            refine wpQuiet_nil ?_
            intro _ hw'
            obtain ⟨nq, hw''⟩ := hw'
            subst hw''
            go_wp2
            go_roundw
            case rel => exact ⟨j + 1, by omega, by go_num, HS, hE.trans (E1.drewN _)⟩
            case measure => simp [intOf]; omega
          · obtain ⟨m, hjm⟩ : ∃ m, m + 1 = j := ⟨j - 1, by omega⟩
            have hm : m < l.length := by omega
            obtain ⟨b0, -, -⟩ := hc m hm
            replace b0 := (hE.cells R _ hR).trans b0
            have hpm := (Hall.out m (by omega) hm).1
            obtain ⟨hk1, hk2⟩ := partB_kind hp
            obtain ⟨hk3, hk4⟩ := partB_kind hpm
            have HNo : Hid ((lpK l[j].k == lpK l[m].k) = true → validB l = false) := fun q => valid_no l j hlt (vAt_not l m j hlt hjm q)
            have HYes : Hid ((lpK l[j].k == lpK l[m].k) = false → ∀ i, i < j + 1 → vAt l i) := fun q => vAt_succ l m j hlt hjm hp Hall.out q
            obtain ⟨k', hk'⟩ : ∃ k', k' = l[m].k := ⟨_, rfl⟩
            rw [← hk'] at b0 hk3 hk4 HNo HYes
            clear hpm hk'
            have d0 : (0 : Int) < (j : Int) := by omega
            have d0n : 0 < j := by omega
            have hji : (j : Int) - 1 = (m : Int) := by omega
            have hji2 : (0 : Int) ≤ (m : Int) := by omega
            have hji3 : (m : Int) < (l.length : Int) := by omega
            clear j0
            obtain ⟨x, hx⟩ : ∃ x, ((lpK l[j].k).toNat : Int) = x := ⟨_, rfl⟩
            obtain ⟨x', hx'⟩ : ∃ x', ((lpK k').toNat : Int) = x' := ⟨_, rfl⟩
            have HE : Hid ((lpK l[j].k == lpK k') = (x == x')) := by
              rw [Hid, ← hx, ← hx', Bool.eq_iff_iff, beq_iff_eq, beq_iff_eq, ← UInt8.toNat_inj]
              omega
            have Hx := Lib.hid hx
            have Hx' := Lib.hid hx'
            clear hx hx'
            rw [HE.out] at HNo HYes
            clear HE
            obtain ⟨p, hpp⟩ : ∃ p, p = l[j] := ⟨_, rfl⟩
            rw [← hpp] at c0 c1 c2 ht hp hk1 hk2 Hx
            clear hpp
            obtain ⟨k, wd, t⟩ := p
            simp only at c0 c1 c2 ht hk1 hk2 Hx
            have HP := Lib.hid hp
            clear hp
            rcases Bool.eq_false_or_eq_true (x == x') with hxx | hxx
            · have HV := Lib.hid (HNo.out hxx)
              go_wp2
              have hW : Ext wr (wr.alloc (.cells #[Value.int .i64 k, Value.int .i64 wd, Value.string ⟨t.toArray⟩] 38)) := (Ext.refl wr).alloc _
              have k0 : (wr.alloc (.cells #[Value.int .i64 k, Value.int .i64 wd, Value.string ⟨t.toArray⟩] 38)).cell? ⟨wr.heap.size, 0, none⟩ = some (.int .i64 k) := by rw [World.cell?_alloc_new]; rfl
              have k1 : (wr.alloc (.cells #[Value.int .i64 k, Value.int .i64 wd, Value.string ⟨t.toArray⟩] 38)).cell? ⟨wr.heap.size, 1, none⟩ = some (.int .i64 wd) := by rw [World.cell?_alloc_new]; rfl
              have k2 : (wr.alloc (.cells #[Value.int .i64 k, Value.int .i64 wd, Value.string ⟨t.toArray⟩] 38)).cell? ⟨wr.heap.size, 2, none⟩ = some (.string ⟨t.toArray⟩) := by rw [World.cell?_alloc_new]; rfl
              have kz : wr.heap.size < (wr.alloc (.cells #[Value.int .i64 k, Value.int .i64 wd, Value.string ⟨t.toArray⟩] 38)).heap.size := by simp
              generalize wr.alloc (.cells #[Value.int .i64 k, Value.int .i64 wd, Value.string ⟨t.toArray⟩] 38) = W at hW k0 k1 k2 kz ⊢
              generalize wr.heap.size = B at k0 k1 k2 kz ⊢
              refine wp_region_head 2 (by kernel_rfl) (by kernel_rfl) ?_
              simp only [List.take_succ_cons, List.take_zero, List.drop_succ_cons, List.drop_zero]
              go_wp2_with (first
                | (go_at_call 69; (with_reducible refine (part_lit ⟨k, wd, t⟩ true _ ht HP.out).mono ?_); rintro e w1 ⟨rfl, hE1⟩; have E1 : Ext wr w1 := hW.drew.trans hE1; have e0 : w1.cell? ⟨B, 0, none⟩ = some (.int .i64 k) := (hE1.cells B 0 kz).trans k0; have f0 := (E1.cells R _ hRr).trans b0)
                | go_in)
              refine HdQ.on ?_
              repeat (go_big_quiet_step (first
                                           | (go_at_call 32; (with_reducible refine Calls.quiet_of_same ((letter_x k x _ hk1 hk2 Hx.out).mono fun _ _ q => ⟨q.1, q.2.symm⟩)))
                                           | (go_at_call 32; (with_reducible refine Calls.quiet_of_same ((letter_x k' x' _ hk3 hk4 Hx'.out).mono fun _ _ q => ⟨q.1, q.2.symm⟩)))))
              refine wpQuiet_nil ?_
              intro _ hw'
              obtain ⟨nq, hw''⟩ := hw'
              subst hw''
              go_wp2
              go_ret
              exact ⟨by rw [HV.out]; rfl, hE.trans (E1.drewN _)⟩
            · have HS := Lib.hid (HYes.out hxx)
              go_wp2
              have hW : Ext wr (wr.alloc (.cells #[Value.int .i64 k, Value.int .i64 wd, Value.string ⟨t.toArray⟩] 38)) := (Ext.refl wr).alloc _
              have k0 : (wr.alloc (.cells #[Value.int .i64 k, Value.int .i64 wd, Value.string ⟨t.toArray⟩] 38)).cell? ⟨wr.heap.size, 0, none⟩ = some (.int .i64 k) := by rw [World.cell?_alloc_new]; rfl
              have k1 : (wr.alloc (.cells #[Value.int .i64 k, Value.int .i64 wd, Value.string ⟨t.toArray⟩] 38)).cell? ⟨wr.heap.size, 1, none⟩ = some (.int .i64 wd) := by rw [World.cell?_alloc_new]; rfl
              have k2 : (wr.alloc (.cells #[Value.int .i64 k, Value.int .i64 wd, Value.string ⟨t.toArray⟩] 38)).cell? ⟨wr.heap.size, 2, none⟩ = some (.string ⟨t.toArray⟩) := by rw [World.cell?_alloc_new]; rfl
              have kz : wr.heap.size < (wr.alloc (.cells #[Value.int .i64 k, Value.int .i64 wd, Value.string ⟨t.toArray⟩] 38)).heap.size := by simp
              generalize wr.alloc (.cells #[Value.int .i64 k, Value.int .i64 wd, Value.string ⟨t.toArray⟩] 38) = W at hW k0 k1 k2 kz ⊢
              generalize wr.heap.size = B at k0 k1 k2 kz ⊢
              refine wp_region_head 2 (by kernel_rfl) (by kernel_rfl) ?_
              simp only [List.take_succ_cons, List.take_zero, List.drop_succ_cons, List.drop_zero]
              go_wp2_with (first
                | (go_at_call 69; (with_reducible refine (part_lit ⟨k, wd, t⟩ true _ ht HP.out).mono ?_); rintro e w1 ⟨rfl, hE1⟩; have E1 : Ext wr w1 := hW.drew.trans hE1; have e0 : w1.cell? ⟨B, 0, none⟩ = some (.int .i64 k) := (hE1.cells B 0 kz).trans k0; have f0 := (E1.cells R _ hRr).trans b0)
                | go_in)
              refine HdQ.on ?_
              repeat (go_big_quiet_step (first
                                           | (go_at_call 32; (with_reducible refine Calls.quiet_of_same ((letter_x k x _ hk1 hk2 Hx.out).mono fun _ _ q => ⟨q.1, q.2.symm⟩)))
                                           | (go_at_call 32; (with_reducible refine Calls.quiet_of_same ((letter_x k' x' _ hk3 hk4 Hx'.out).mono fun _ _ q => ⟨q.1, q.2.symm⟩)))))
              refine wpQuiet_nil ?_
              intro _ hw'
              obtain ⟨nq, hw''⟩ := hw'
              subst hw''
              go_wp2
              go_roundw
              case rel => exact ⟨j + 1, by omega, by go_num, HS, hE.trans (E1.drewN _)⟩
              case measure => simp [intOf]; omega
        · have HN := Lib.hid (valid_no l j hlt (fun q => by have := (q hlt).1; rw [hp] at this; cases this))
          obtain ⟨p, hpp⟩ : ∃ p, p = l[j] := ⟨_, rfl⟩
          rw [← hpp] at c0 c1 c2 ht hp
          clear hpp
          obtain ⟨k, wd, t⟩ := p
          simp only at c0 c1 c2 ht
          have HP := Lib.hid hp
          clear hp
          go_wp2
          have hW : Ext wr (wr.alloc (.cells #[Value.int .i64 k, Value.int .i64 wd, Value.string ⟨t.toArray⟩] 38)) := (Ext.refl wr).alloc _
          have k0 : (wr.alloc (.cells #[Value.int .i64 k, Value.int .i64 wd, Value.string ⟨t.toArray⟩] 38)).cell? ⟨wr.heap.size, 0, none⟩ = some (.int .i64 k) := by rw [World.cell?_alloc_new]; rfl
          have k1 : (wr.alloc (.cells #[Value.int .i64 k, Value.int .i64 wd, Value.string ⟨t.toArray⟩] 38)).cell? ⟨wr.heap.size, 1, none⟩ = some (.int .i64 wd) := by rw [World.cell?_alloc_new]; rfl
          have k2 : (wr.alloc (.cells #[Value.int .i64 k, Value.int .i64 wd, Value.string ⟨t.toArray⟩] 38)).cell? ⟨wr.heap.size, 2, none⟩ = some (.string ⟨t.toArray⟩) := by rw [World.cell?_alloc_new]; rfl
          have kz : wr.heap.size < (wr.alloc (.cells #[Value.int .i64 k, Value.int .i64 wd, Value.string ⟨t.toArray⟩] 38)).heap.size := by simp
          generalize wr.alloc (.cells #[Value.int .i64 k, Value.int .i64 wd, Value.string ⟨t.toArray⟩] 38) = W at hW k0 k1 k2 kz ⊢
          generalize wr.heap.size = B at k0 k1 k2 kz ⊢
          refine wp_region_head 2 (by kernel_rfl) (by kernel_rfl) ?_
          simp only [List.take_succ_cons, List.take_zero, List.drop_succ_cons, List.drop_zero]
          go_wp2_with (first
            | (go_at_call 69; (with_reducible refine (part_lit ⟨k, wd, t⟩ false _ ht HP.out).mono ?_); rintro e w1 ⟨rfl, hE1⟩; have E1 : Ext wr w1 := hW.drew.trans hE1; skip)
            | go_in)
          refine HdQ.on ?_
          repeat (go_big_quiet_step (fail))
          refine wpQuiet_nil ?_
          intro _ hw'
          obtain ⟨nq, hw''⟩ := hw'
          subst hw''
          go_wp2
          go_ret
          exact ⟨by rw [HN.out]; rfl, hE.trans (E1.drewN _)⟩
      · obtain rfl : j = l.length := by omega
        have HY := Lib.hid (valid_yes l h40 Hall.out)
        go_wp2
        go_ret
        exact ⟨by rw [HY.out]; rfl, hE⟩
  · have HN : Hid (validB l = false) := by rw [Hid, validB, decide_eq_false h40]; rfl
    have h41 : (40 : Int) < (l.length : Int) := by omega
    clear h40
    go_enter Tryz.func29, Tryz.ntmps29
    go_wp2
    go_ret
    exact ⟨by rw [HN.out]; rfl, Ext.refl w⟩
end Go.Proofs.YticckkadmhklmaaGreatDoor
/- Patterns: the walk of ValidNames. -/
namespace Go.Proofs.YticckkadmhklmaaGreatDoor
set_option linter.unusedVariables false
set_option linter.unusedSimpArgs false
open Go.RowKit Go.Maps

theorem ok_all {N : Nms} (h : ∀ k : Int, (k = 4 ∨ k = 5 ∨ k = 7 ∨ k = 8 ∨ k = 13) → nmsB 30 (lstK N k) = true) : nmOk N = true := by
  unfold nmOk
  rw [show nmsB 30 N.mo = true from h 5 (by decide), show nmsB 30 N.sh = true from h 4 (by decide), show nmsB 30 N.da = true from h 8 (by decide), show nmsB 30 N.sd = true from h 7 (by decide), show nmsB 30 N.ha = true from h 13 (by decide)]
  rfl
theorem ok_no {N : Nms} {k : Int} (hk : k = 4 ∨ k = 5 ∨ k = 7 ∨ k = 8 ∨ k = 13) (h : nmsB 30 (lstK N k) = false) : nmOk N = false := by
  cases e : nmOk N with
  | false => rfl
  | true => rw [names_ok N e k] at h; cases h
theorem cfn_x (ws : List (List UInt8)) (s : List UInt8) (R off cap S j : Nat) (b : Bool) (w : World) (hw : RdS ws R off w) (hS : w.cell? ⟨S, 0, none⟩ = some (.string ⟨s.toArray⟩)) (hj : j ≤ ws.length) (hn : ws.length ≤ 1000) (hcap : ws.length ≤ cap) (hm : cap ≤ maxLen) (hb : preB (ws.take j) s = b) :
    Calls Tryz.prog 26 #[.slice (some ⟨R, off, none⟩) j cap, .func (.func 38) #[] #[.pointer (some ⟨S, 0, none⟩)]] w fun e w' => e = .returned (.bool b) ∧ w = w' := by
  have hl : (ws.take j).length = j := by rw [List.length_take]; omega
  have q := cfn_c (ws.take j) s R off cap S b w ⟨hw.1, fun i hi => by rw [hw.2 i (by omega), List.getElem_take]⟩ hS (by omega) (by omega) hm hb
  rw [hl] at q
  exact q
theorem name_l (s : List UInt8) (b : Bool) (w : World) (hs : s.length ≤ 100000) (h : nameB 30 s = b) : Calls Tryz.prog 37 #[.string ⟨s.toArray⟩] w fun e w' => e = .returned (.bool b) ∧ w = w' := by
  rw [← h]; exact name_c s w (by omega)
theorem lstK_sub (N : Nms) (k : Int) : ∀ s ∈ lstK N k, s ∈ N.all := by
  intro s hs
  unfold Nms.all
  unfold lstK at hs
  simp only [List.mem_append]
  repeat' split at hs
  all_goals simp [hs]
theorem lstK_len {N : Nms} (hN : N.ok) (k : Int) : (lstK N k).length ≤ 12 := by
  obtain ⟨a, b, c, d, e⟩ := hN
  unfold lstK
  repeat' split
  all_goals omega
theorem nmsB_step (ws : List (List UInt8)) (j : Nat) (h : j < ws.length) (hI : nmsB 30 ws = nmsL 30 (ws.take j) (ws.drop j)) : nmsB 30 ws = (nameB 30 ws[j] && !preB (ws.take j) ws[j] && nmsL 30 (ws.take (j + 1)) (ws.drop (j + 1))) := by
  rw [hI, List.drop_eq_getElem_cons h, nmsL, List.take_succ_eq_append_getElem h]
set_option maxRecDepth 100000 in
set_option maxHeartbeats 2000000 in
theorem validnames_c (N : Nms) (hN : N.ok) (w : World) (hl : ∀ s ∈ N.all, s.length ≤ 100000) : Calls Tryz.prog 11 #[.agg (sv N.all).toArray] w fun e w' => e = .returned (.bool (nmOk N)) ∧ Ext w w' := by
  have hI := names_size hN
  have hR : (w.alloc (.cells (sv N.all).toArray 27)).rangeAt w.heap.size 0 (sv N.all) := by
    intro j v hv
    rw [Nat.zero_add, World.cell?_alloc_new]
    simpa using hv
  have hE0 : Ext w (w.alloc (.cells (sv N.all).toArray 27)) := (Ext.refl w).alloc _
  have HN := Lib.hid hN
  have Hl := Lib.hid hl
  clear hN hl
  go_enter Tryz.func11, Tryz.ntmps11
  go_wp2_with (first
    | (refine wpList_load_mid rfl 27 _ rfl w.heap.size 0 rfl (sv N.all) _ hR Tryz.underlying27 rfl hI ?_)
    | (go_at_call 36; (with_reducible refine (lists_c (sv N.all).toArray _).mono ?_); rintro e w1 ⟨b, D, rfl, hown, hat, hBl, hcell, hE1⟩)
    | (at_range; refine wpList_range_own _ rfl _ 66 rfl 3 59 mkeyI Tryz.underlying66 _ b 5 D rfl hown ?_; intro w5 hrg0 hg5 hs5)
    | go_in)
  have hE5 : Ext w w5 := hE0.trans (hE1.trans (ext_grown_none (Ext.refl w1) hg5))
  obtain ⟨B, hB⟩ : ∃ B, (w.alloc (.cells (sv N.all).toArray 27)).heap.size = B := ⟨_, rfl⟩
  rw [hB] at hrg0 hat hBl hcell
  have hRd : RdS N.all B 0 w5 := by
    refine RdS.ext (w := w1) ⟨hBl, fun i hi => ?_⟩ (ext_grown_none (Ext.refl w1) hg5)
    rw [hcell, Nat.zero_add]
    simp [sv, hi]
  have HR : Hid (w5.ranges Tryz.prog 3 (slR B) b w1.heap.size 5 D (Maps.has D) (Maps.size D)) := hrg0
  have HRd := Lib.hid hRd
  have Hat := Lib.hid hat
  have hrw : w.heap.size ≤ w1.heap.size := (hE0.trans hE1).size
  have HK0 : Hid (∀ k : Int, (k = 4 ∨ k = 5 ∨ k = 7 ∨ k = 8 ∨ k = 13) → Maps.has D (.int .i64 k) = false → nmsB 30 (lstK N k) = true) := by
    intro k hk hh
    exfalso
    have h1 := Hat.out k .nil
    have h2 := Hat.out k (.agg [])
    rw [Maps.atKey_of_not_has hh] at h1 h2
    rcases hk with rfl | rfl | rfl | rfl | rfl <;> simp [insAt, lsJ] at h1
  clear hown hat hcell hg5 hs5 hrg0 hRd hR hI hE0 hE1 hB
  generalize w1.heap.size = r at HR hrw hBl ⊢
  have hBr : B < r := hBl
  go_frame
  go_loopw [10] (fun _ wr => ∃ left cnt, Hid (wr.ranges Tryz.prog 3 (slR B) b r 5 D left cnt) ∧ Ext w wr ∧ Hid (RdS N.all B 0 wr) ∧ Hid (∀ k : Int, (k = 4 ∨ k = 5 ∨ k = 7 ∨ k = 8 ∨ k = 13) → left (.int .i64 k) = false → nmsB 30 (lstK N k) = true)) (fun _ wr => wr.rangeLeft b r)
  case atStart => exact ⟨_, _, HR, hE5, HRd, HK0⟩
  case round =>
    obtain ⟨left, cnt, hr, hE, HRr, HK⟩ := hrel
    have hrg := hr.out
    go_wp2_with (first
      | (at_next; refine wpList_next_ranges _ rfl _ rfl 3 mkeyI (slR B) (fun x => Value.int .i64 x) (fun c : Option Addr × Nat × Nat => Value.slice c.1 c.2.1 c.2.2) (fun key kl hk => by obtain ⟨x, h, _⟩ := keyOf_int_inv Tryz.underlying3 hk; exact ⟨x, h⟩) (fun v y hv => slR_inv B v y hv) b r 5 D left cnt rfl hrg ?_ ?_
         rotate_left
         intro x c kl y w6 cnt1 hk hlk hv hat hrg1 hlt hg1 hs1 hen
         obtain ⟨x', hx', rfl, _⟩ := keyOf_int_inv Tryz.underlying3 hk
         obtain rfl : x = x' := by injection hx'
         obtain ⟨ao, n, cp⟩ := c
         obtain ⟨hkx, hao, hn, hcp⟩ := ls_entry Hat.out HN.out hv hat
         subst hao
         have hen2 : Sem.run Tryz.prog (Instr.entry (Value.pointer (some { block := r, off := 0 }))) w6 = Result.ok (Value.tuple #[Value.int IntKind.i64 x, Value.slice (some ⟨B, offK x, none⟩) n cp]) w6 := hen
         have Hkx := Lib.hid hkx
         have Hn := Lib.hid hn
         have Hcp := Lib.hid hcp
         have Hr1 := Lib.hid hrg1
         have Hlt : Hid (cnt1 < cnt) := hlt
         have hE6 : Ext w w6 := ext_grown_at hE hg1 hrw
         have HR6 : Hid (RdS N.all B 0 w6) := ⟨by rw [hs1]; exact HRr.out.1, fun i hi => by
           have e : w6.heap[B]? = wr.heap[B]? := hg1.block B HRr.out.1 (fun e => by injection e with e; exact absurd e (Nat.ne_of_lt hBr))
           have q := HRr.out.2 i hi
           unfold World.cell? at q ⊢
           rw [e]
           exact q⟩
         clear hk hlk hv hat hrg1 hlt hg1 hs1 hen hkx hn hcp
         rotate_right
         intro hc0 hl0)
      | go_in)
    all_goals first
      | (go_ret
         exact ⟨by rw [ok_all (fun k hk => HK.out k hk (hl0 _))]; rfl, hE⟩)
      | skip
    have hcpn : cp = n := Hcp.out
    subst hcpn
    obtain ⟨ws, hws⟩ : ∃ ws, ws = lstK N x := ⟨_, rfl⟩
    have hnw : cp = ws.length := by rw [hws]; exact Hn.out
    subst hnw
    have hw12 : ws.length ≤ 12 := by rw [hws]; exact lstK_len HN.out x
    have HRw : Hid (RdS ws B (offK x) w6) := by rw [Hid, hws]; exact names_at HN.out HR6.out Hkx.out
    have HLs : Hid (∀ s ∈ ws, s.length ≤ 100000) := by rw [hws]; exact fun s hs => Hl.out s (lstK_sub N x s hs)
    have HW := Lib.hid hws
    clear hws Hn Hcp
    generalize offK x = off at HRw ⊢
    go_loopw [16] (fun i wy => ∃ j : Nat, j ≤ ws.length ∧ i = .int .i64 (j : Int) ∧ Hid (nmsB 30 ws = nmsL 30 (ws.take j) (ws.drop j)) ∧ Ext w6 wy) (fun i _ => ws.length - (intOf i).toNat)
    case atStart => exact ⟨0, Nat.zero_le _, rfl, rfl, Ext.refl _⟩
    case round =>
      obtain ⟨j, hj, rfl, HI, hEy⟩ := hrel
      by_cases hlt : j < ws.length
      · have hRy := HRw.out.ext hEy
        have c0 := hRy.2 j hlt
        have hBy := hRy.1
        have hls := HLs.out ws[j] (List.getElem_mem _)
        have HS := Lib.hid (nmsB_step ws j hlt HI.out)
        obtain ⟨s, hs⟩ : ∃ s, s = ws[j] := ⟨_, rfl⟩
        rw [← hs] at c0 hls HS
        clear hs
        have hEs : Ext wr (wr.alloc (.cells #[.string ⟨s.toArray⟩] 9)) := (Ext.refl wr).alloc _
        have hS0 : (wr.alloc (.cells #[.string ⟨s.toArray⟩] 9)).cell? ⟨wr.heap.size, 0, none⟩ = some (.string ⟨s.toArray⟩) := by rw [World.cell?_alloc_new]; rfl
        have HRs := Lib.hid (hRy.ext hEs)
        have hEw := Lib.hid (hEy.trans hEs)
        rcases Bool.eq_false_or_eq_true (nameB 30 s) with hnm | hnm
        · have Hnm := Lib.hid hnm
          rcases Bool.eq_false_or_eq_true (preB (ws.take j) s) with hpb | hpb
          · have Hpb := Lib.hid hpb
            have HV := Lib.hid (ok_no Hkx.out (by rw [← HW.out, HS.out, hnm, hpb]; rfl))
            clear hnm hpb
            go_wp2_with (first
              | (go_at_call 37; (with_reducible refine (name_l s true _ hls Hnm.out).mono ?_); rintro e w9 ⟨rfl, rfl⟩)
              | (go_at_call 26; (with_reducible refine (cfn_x ws s B off ws.length wr.heap.size j true _ HRs.out hS0 hj (by omega) (by omega) (by unfold maxLen; omega) Hpb.out).mono ?_); rintro e w9 ⟨rfl, rfl⟩))
            go_ret
            exact ⟨by rw [HV.out]; rfl, hE6.trans hEw.out⟩
          · have Hpb := Lib.hid hpb
            have HV : Hid (nmsB 30 ws = nmsL 30 (ws.take (j + 1)) (ws.drop (j + 1))) := by rw [Hid, HS.out, hnm, hpb]; rfl
            clear hnm hpb
            go_wp2_with (first
              | (go_at_call 37; (with_reducible refine (name_l s true _ hls Hnm.out).mono ?_); rintro e w9 ⟨rfl, rfl⟩)
              | (go_at_call 26; (with_reducible refine (cfn_x ws s B off ws.length wr.heap.size j false _ HRs.out hS0 hj (by omega) (by omega) (by unfold maxLen; omega) Hpb.out).mono ?_); rintro e w9 ⟨rfl, rfl⟩))
            go_roundw
            case rel => exact ⟨j + 1, by omega, by go_num, HV, hEw.out⟩
            case measure => simp [intOf]; omega
        · have Hnm := Lib.hid hnm
          have HV := Lib.hid (ok_no Hkx.out (by rw [← HW.out, HS.out, hnm]; rfl))
          clear hnm
          go_wp2_with (first
            | (go_at_call 37; (with_reducible refine (name_l s false _ hls Hnm.out).mono ?_); rintro e w9 ⟨rfl, rfl⟩))
          go_ret
          exact ⟨by rw [HV.out]; rfl, hE6.trans hEw.out⟩
      · obtain rfl : j = ws.length := by omega
        have HV : Hid (nmsB 30 ws = true) := by rw [Hid, HI.out, List.drop_length]; rfl
        go_wp2_with fail
        have hr8 := Hr1.out.kept (grown_ext hEy none) (by simp) (by simp)
        refine ⟨⟨_, _, hr8, hE6.trans hEy, HR6.out.ext hEy, ?_⟩, ?_⟩
        · intro k hk hh
          rw [Bool.and_eq_false_iff] at hh
          rcases hh with hh | hh
          · exact HK.out k hk hh
          · have := WideAt.sameKey_eq (by simpa using hh)
            injection this with _ this
            subst this
            rw [← HW.out]
            exact HV.out
        · rw [hr8.left_eq, hrg.left_eq]; exact Hlt.out
end Go.Proofs.YticckkadmhklmaaGreatDoor
