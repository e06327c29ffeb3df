/- The reference's Valid. -/
import Derived.Test.YticckkadmhklmaaGreatDoorK11
import Derived.Test.YticckkadmhklmaaGreatDoorK33
import Derived.Deep.Cut
import Derived.BigQuiet
namespace Go.Proofs.YticckkadmhklmaaGreatDoor
set_option linter.unusedVariables false
set_option linter.unusedSimpArgs false
open Go.RowKit

theorem let_same : ∀ n : Nat, n < 16 → 2 ≤ n → letK n = lpK (n : Int) := by decide
theorem rLetP_c (k x : Int) (w : World) (h1 : 2 ≤ k) (h2 : k ≤ 15) (hx : ((lpK k).toNat : Int) = x) : Calls Tryz.prog 33 #[.int .i64 k] w fun e w' => e = .returned (.int .u8 x) ∧ w = w' := by
  obtain ⟨n, rfl⟩ : ∃ n : Nat, k = n := ⟨k.toNat, by omega⟩
  have q := rLet_c n (by omega) w
  rw [let_same n (by omega) (by omega), hx] at q
  exact q
theorem partB_no {p : Prt} (h : ¬ (1 ≤ p.k ∧ p.k ≤ 15)) : partB p = false := by
  cases e : partB p with
  | false => rfl
  | true => exact absurd (partB_kind e) h
set_option maxRecDepth 100000 in
set_option maxHeartbeats 1000000 in
theorem rpvalid_c (l : List Prt) (ao : Option Addr) (cap : Nat) (w : World) (h : PtV ao cap l w) (hl : ∀ p ∈ l, p.t.length ≤ 4000) :
    Calls Tryz.prog 10 #[.slice ao l.length cap] w fun e w' => e = .returned (.bool (validB l)) ∧ Ext w w' := by
  have hlen := h.1
  have hcap := h.2.1
  unfold maxLen at hcap
  have H := Lib.hid h.2.2
  clear h
  by_cases h40 : l.length ≤ 40
  · have d1 : ¬ (40 : Int) < (l.length : Int) := by omega
    have Hl := Lib.hid hl
    clear hl
    go_enter Tryz.func10, Tryz.ntmps10
    go_wp2_with fail
    go_loopw [3] (fun i wr => ∃ j : Nat, j ≤ l.length ∧ i = .int .i64 (j : Int) ∧ Hid (∀ i, i < j → vAt l i) ∧ Ext w wr) (fun i _ => l.length - (intOf i).toNat)
    case atStart => exact ⟨0, Nat.zero_le _, rfl, fun i q => absurd q (Nat.not_lt_zero i), Ext.refl _⟩
    case round =>
      obtain ⟨j, hj, rfl, Hall, hE⟩ := hrel
      by_cases hlt : j < l.length
      · obtain ⟨R, off, rfl, hR, hc⟩ := H.out (by rintro rfl; simp at hlt)
        have hRr := hE.lt hR
        obtain ⟨c0, c1, c2⟩ := hc j hlt
        replace c0 := (hE.cells R _ hR).trans c0
        replace c1 := (hE.cells R _ hR).trans c1
        replace c2 := (hE.cells R _ hR).trans c2
        have ht := Hl.out l[j] (List.getElem_mem _)
        have HBAD : Hid (partB l[j] = false → validB l = false) := fun hp => valid_no l j hlt (fun q => by have := (q hlt).1; rw [hp] at this; cases this)
        obtain ⟨p, hpp⟩ : ∃ p, p = l[j] := ⟨_, rfl⟩
        rw [← hpp] at c0 c1 c2 ht HBAD
        obtain ⟨k, wd, t⟩ := p
        simp only at c0 c1 c2 ht
        have HPP := Lib.hid hpp
        clear hpp
        by_cases hk1 : 1 ≤ k
        · by_cases hk2 : k ≤ 15
          · by_cases hk : k = 1
            · subst hk
              by_cases hw : wd = 0
              · by_cases h1 : 1 ≤ t.length
                · by_cases h2 : t.length ≤ 100
                  · have a1 : ¬ (t.length : Int) < 1 := by omega
                    have a2 : ¬ (100 : Int) < (t.length : Int) := by omega
                    have a3 : ¬ (1 : Int) ≤ 0 := by omega
                    subst hw
                    by_cases j0 : j = 0
                    · have HOK : Hid (partB ⟨1, 0, t⟩ = true → ∀ i, i < j + 1 → vAt l i) := fun q => vAt_zero l j hlt (by rw [← HPP.out]; exact q) j0
                      have a4 : ¬ (0 : Int) < (j : Int) := by omega
                      clear j0
                      go_upto_region 7 with fail
                      have hW : Ext wr (wr.alloc (.cells #[Value.int .i64 1, Value.int .i64 0, Value.string ⟨t.toArray⟩] 38)) := (Ext.refl wr).alloc _
                      have k0 : (wr.alloc (.cells #[Value.int .i64 1, Value.int .i64 0, Value.string ⟨t.toArray⟩] 38)).cell? ⟨wr.heap.size, 0, none⟩ = some (.int .i64 1) := by rw [World.cell?_alloc_new]; rfl
                      have k1 : (wr.alloc (.cells #[Value.int .i64 1, Value.int .i64 0, Value.string ⟨t.toArray⟩] 38)).cell? ⟨wr.heap.size, 1, none⟩ = some (.int .i64 0) := by rw [World.cell?_alloc_new]; rfl
                      have k2 : (wr.alloc (.cells #[Value.int .i64 1, Value.int .i64 0, Value.string ⟨t.toArray⟩] 38)).cell? ⟨wr.heap.size, 2, none⟩ = some (.string ⟨t.toArray⟩) := by rw [World.cell?_alloc_new]; rfl
                      have kz : wr.heap.size < (wr.alloc (.cells #[Value.int .i64 1, Value.int .i64 0, Value.string ⟨t.toArray⟩] 38)).heap.size := by simp
                      generalize wr.alloc (.cells #[Value.int .i64 1, Value.int .i64 0, Value.string ⟨t.toArray⟩] 38) = W at hW k0 k1 k2 kz ⊢
                      generalize wr.heap.size = B at k0 k1 k2 kz ⊢
                      skip
                      go_wp2_with fail
                      go_loop [5] (fun i => ∃ q : Nat, q ≤ t.length ∧ i = .int .i64 (q : Int) ∧ Hid ((t.take q).all prn = true)) (fun i => t.length - (intOf i).toNat)
                      case atStart => exact ⟨0, Nat.zero_le _, rfl, rfl⟩
                      case round =>
                        obtain ⟨q, hq, rfl, Hq⟩ := hrel
                        by_cases hql : q < t.length
                        · have hc9 := bget t q hql t[q] rfl
                          have h256 : t[q].toNat < 256 := t[q].toNat_lt
                          have hql' : (q : Int) < (t.length : Int) := by omega
                          rcases Bool.eq_false_or_eq_true (prn t[q]) with hp | hp
                          · have hp2 := hp
                            unfold prn at hp2
                            rw [decide_eq_true_eq] at hp2
                            have e3 : ¬ ((t[q].toNat : Nat) : Int) < 32 := by omega
                            have e4 : ¬ (126 : Int) < ((t[q].toNat : Nat) : Int) := by omega
                            have Hq2 : Hid ((t.take (q + 1)).all prn = true) := by rw [Hid, List.take_add_one, List.all_append, Hq.out]; simp [hql, hp]
                            clear hp2 hp
                            go_wp2_with fail
                            go_round
                            case rel => exact ⟨q + 1, by omega, by go_num, Hq2⟩
                            case measure => simp [intOf]; omega
                          · have HN := Lib.hid (HBAD.out (by
                              unfold partB
                              rw [if_pos rfl]
                              have : t.all prn = false := by
                                rw [List.all_eq_false]
                                exact ⟨t[q], List.getElem_mem _, by simp [hp]⟩
                              simp [this]))
                            by_cases e3 : ((t[q].toNat : Nat) : Int) < 32
                            · clear hp
                              go_wp2_with fail
                              go_ret
                              exact ⟨by rw [HN.out]; rfl, hE.trans hW⟩
                            · have e4 : (126 : Int) < ((t[q].toNat : Nat) : Int) := by
                                unfold prn at hp
                                rw [decide_eq_false_iff_not] at hp
                                omega
                              clear hp
                              go_wp2_with fail
                              go_ret
                              exact ⟨by rw [HN.out]; rfl, hE.trans hW⟩
                        · obtain rfl : q = t.length := by omega
                          have HG := Lib.hid (HOK.out (by
                            unfold partB
                            rw [if_pos rfl]
                            have := Hq.out
                            rw [List.take_length] at this
                            simp [this, h1, h2]))
                          go_wp2_with fail
                          go_roundw
                          case rel => exact ⟨j + 1, by omega, by go_num, HG.out, hE.trans hW⟩
                          case measure => simp [intOf]; omega
                    · obtain ⟨m, hjm⟩ : ∃ m, m + 1 = j := ⟨j - 1, by omega⟩
                      have hm : m < l.length := by omega
                      obtain ⟨b0, -, -⟩ := hc m hm
                      replace b0 := (hE.cells R _ hR).trans b0
                      have hpm := (Hall.out m (by omega) hm).1
                      obtain ⟨hk3, hk4⟩ := partB_kind hpm
                      have HNo : Hid (l[m].k = 1 → validB l = false) := fun q => valid_no l j hlt (vAt_not l m j hlt hjm (by rw [← HPP.out, q]; rfl))
                      have HYes : Hid (¬ l[m].k = 1 → partB ⟨1, 0, t⟩ = true → ∀ i, i < j + 1 → vAt l i) := fun q q2 => vAt_succ l m j hlt hjm (by rw [← HPP.out]; exact q2) Hall.out (by
                        rw [← HPP.out]
                        show (lpK 1 == lpK l[m].k) = false
                        rw [beq_eq_false_iff_ne]
                        intro e
                        exact q ((lpK_lit hk3 hk4).1 (e.symm.trans (by decide))))
                      obtain ⟨k', hk'⟩ : ∃ k', k' = l[m].k := ⟨_, rfl⟩
                      rw [← hk'] at b0 hk3 hk4 HNo HYes
                      clear hpm hk' HBAD
                      have HBAD : Hid (partB ⟨1, 0, t⟩ = false → validB l = false) := fun hp => valid_no l j hlt (fun q => by have := (q hlt).1; rw [← HPP.out, hp] at this; cases this)
                      have d0 : (0 : Int) < (j : Int) := by omega
                      have hji : (j : Int) - 1 = (m : Int) := by omega
                      have hji2 : (0 : Int) ≤ (m : Int) := by omega
                      have hji3 : (m : Int) < (l.length : Int) := by omega
                      clear j0
                      by_cases hkk : k' = 1
                      · have HN := Lib.hid (HNo.out hkk)
                        have hkq : (k' == 1) = true := by rw [beq_iff_eq]; exact hkk
                        clear hkk
                        go_upto_region 7 with fail
                        have hW : Ext wr (wr.alloc (.cells #[Value.int .i64 1, Value.int .i64 0, Value.string ⟨t.toArray⟩] 38)) := (Ext.refl wr).alloc _
                        have k0 : (wr.alloc (.cells #[Value.int .i64 1, Value.int .i64 0, Value.string ⟨t.toArray⟩] 38)).cell? ⟨wr.heap.size, 0, none⟩ = some (.int .i64 1) := by rw [World.cell?_alloc_new]; rfl
                        have k1 : (wr.alloc (.cells #[Value.int .i64 1, Value.int .i64 0, Value.string ⟨t.toArray⟩] 38)).cell? ⟨wr.heap.size, 1, none⟩ = some (.int .i64 0) := by rw [World.cell?_alloc_new]; rfl
                        have k2 : (wr.alloc (.cells #[Value.int .i64 1, Value.int .i64 0, Value.string ⟨t.toArray⟩] 38)).cell? ⟨wr.heap.size, 2, none⟩ = some (.string ⟨t.toArray⟩) := by rw [World.cell?_alloc_new]; rfl
                        have kz : wr.heap.size < (wr.alloc (.cells #[Value.int .i64 1, Value.int .i64 0, Value.string ⟨t.toArray⟩] 38)).heap.size := by simp
                        generalize wr.alloc (.cells #[Value.int .i64 1, Value.int .i64 0, Value.string ⟨t.toArray⟩] 38) = W at hW k0 k1 k2 kz ⊢
                        generalize wr.heap.size = B at k0 k1 k2 kz ⊢
                        have b0W := (hW.cells R _ hRr).trans b0
                        go_wp2_with fail
                        go_ret
                        exact ⟨by rw [HN.out]; rfl, hE.trans hW⟩
                      · have HOK := Lib.hid (HYes.out hkk)
                        go_upto_region 7 with fail
                        have hW : Ext wr (wr.alloc (.cells #[Value.int .i64 1, Value.int .i64 0, Value.string ⟨t.toArray⟩] 38)) := (Ext.refl wr).alloc _
                        have k0 : (wr.alloc (.cells #[Value.int .i64 1, Value.int .i64 0, Value.string ⟨t.toArray⟩] 38)).cell? ⟨wr.heap.size, 0, none⟩ = some (.int .i64 1) := by rw [World.cell?_alloc_new]; rfl
                        have k1 : (wr.alloc (.cells #[Value.int .i64 1, Value.int .i64 0, Value.string ⟨t.toArray⟩] 38)).cell? ⟨wr.heap.size, 1, none⟩ = some (.int .i64 0) := by rw [World.cell?_alloc_new]; rfl
                        have k2 : (wr.alloc (.cells #[Value.int .i64 1, Value.int .i64 0, Value.string ⟨t.toArray⟩] 38)).cell? ⟨wr.heap.size, 2, none⟩ = some (.string ⟨t.toArray⟩) := by rw [World.cell?_alloc_new]; rfl
                        have kz : wr.heap.size < (wr.alloc (.cells #[Value.int .i64 1, Value.int .i64 0, Value.string ⟨t.toArray⟩] 38)).heap.size := by simp
                        generalize wr.alloc (.cells #[Value.int .i64 1, Value.int .i64 0, Value.string ⟨t.toArray⟩] 38) = W at hW k0 k1 k2 kz ⊢
                        generalize wr.heap.size = B at k0 k1 k2 kz ⊢
                        have b0W := (hW.cells R _ hRr).trans b0
                        go_wp2_with fail
                        go_loop [5] (fun i => ∃ q : Nat, q ≤ t.length ∧ i = .int .i64 (q : Int) ∧ Hid ((t.take q).all prn = true)) (fun i => t.length - (intOf i).toNat)
                        case atStart => exact ⟨0, Nat.zero_le _, rfl, rfl⟩
                        case round =>
                          obtain ⟨q, hq, rfl, Hq⟩ := hrel
                          by_cases hql : q < t.length
                          · have hc9 := bget t q hql t[q] rfl
                            have h256 : t[q].toNat < 256 := t[q].toNat_lt
                            have hql' : (q : Int) < (t.length : Int) := by omega
                            rcases Bool.eq_false_or_eq_true (prn t[q]) with hp | hp
                            · have hp2 := hp
                              unfold prn at hp2
                              rw [decide_eq_true_eq] at hp2
                              have e3 : ¬ ((t[q].toNat : Nat) : Int) < 32 := by omega
                              have e4 : ¬ (126 : Int) < ((t[q].toNat : Nat) : Int) := by omega
                              have Hq2 : Hid ((t.take (q + 1)).all prn = true) := by rw [Hid, List.take_add_one, List.all_append, Hq.out]; simp [hql, hp]
                              clear hp2 hp
                              go_wp2_with fail
                              go_round
                              case rel => exact ⟨q + 1, by omega, by go_num, Hq2⟩
                              case measure => simp [intOf]; omega
                            · have HN := Lib.hid (HBAD.out (by
                                unfold partB
                                rw [if_pos rfl]
                                have : t.all prn = false := by
                                  rw [List.all_eq_false]
                                  exact ⟨t[q], List.getElem_mem _, by simp [hp]⟩
                                simp [this]))
                              by_cases e3 : ((t[q].toNat : Nat) : Int) < 32
                              · clear hp
                                go_wp2_with fail
                                go_ret
                                exact ⟨by rw [HN.out]; rfl, hE.trans hW⟩
                              · have e4 : (126 : Int) < ((t[q].toNat : Nat) : Int) := by
                                  unfold prn at hp
                                  rw [decide_eq_false_iff_not] at hp
                                  omega
                                clear hp
                                go_wp2_with fail
                                go_ret
                                exact ⟨by rw [HN.out]; rfl, hE.trans hW⟩
                          · obtain rfl : q = t.length := by omega
                            have HG := Lib.hid (HOK.out (by
                              unfold partB
                              rw [if_pos rfl]
                              have := Hq.out
                              rw [List.take_length] at this
                              simp [this, h1, h2]))
                            go_wp2_with fail
                            go_roundw
                            case rel => exact ⟨j + 1, by omega, by go_num, HG.out, hE.trans hW⟩
                            case measure => simp [intOf]; omega
                  · have HN := Lib.hid (HBAD.out (by unfold partB; rw [if_pos rfl]; simp [h2]))
                    have a2 : (100 : Int) < (t.length : Int) := by omega
                    have a1 : ¬ (t.length : Int) < 1 := by omega
                    subst hw
                    clear h1 h2
                    go_upto_region 7 with fail
                    have hW : Ext wr (wr.alloc (.cells #[Value.int .i64 1, Value.int .i64 0, Value.string ⟨t.toArray⟩] 38)) := (Ext.refl wr).alloc _
                    have k0 : (wr.alloc (.cells #[Value.int .i64 1, Value.int .i64 0, Value.string ⟨t.toArray⟩] 38)).cell? ⟨wr.heap.size, 0, none⟩ = some (.int .i64 1) := by rw [World.cell?_alloc_new]; rfl
                    have k1 : (wr.alloc (.cells #[Value.int .i64 1, Value.int .i64 0, Value.string ⟨t.toArray⟩] 38)).cell? ⟨wr.heap.size, 1, none⟩ = some (.int .i64 0) := by rw [World.cell?_alloc_new]; rfl
                    have k2 : (wr.alloc (.cells #[Value.int .i64 1, Value.int .i64 0, Value.string ⟨t.toArray⟩] 38)).cell? ⟨wr.heap.size, 2, none⟩ = some (.string ⟨t.toArray⟩) := by rw [World.cell?_alloc_new]; rfl
                    have kz : wr.heap.size < (wr.alloc (.cells #[Value.int .i64 1, Value.int .i64 0, Value.string ⟨t.toArray⟩] 38)).heap.size := by simp
                    generalize wr.alloc (.cells #[Value.int .i64 1, Value.int .i64 0, Value.string ⟨t.toArray⟩] 38) = W at hW k0 k1 k2 kz ⊢
                    generalize wr.heap.size = B at k0 k1 k2 kz ⊢
                    go_wp2_with fail
                    go_ret
                    exact ⟨by rw [HN.out]; rfl, hE.trans hW⟩
                · have HN := Lib.hid (HBAD.out (by unfold partB; rw [if_pos rfl]; simp [h1]))
                  have a1 : (t.length : Int) < 1 := by omega
                  subst hw
                  clear h1
                  go_upto_region 7 with fail
                  have hW : Ext wr (wr.alloc (.cells #[Value.int .i64 1, Value.int .i64 0, Value.string ⟨t.toArray⟩] 38)) := (Ext.refl wr).alloc _
                  have k0 : (wr.alloc (.cells #[Value.int .i64 1, Value.int .i64 0, Value.string ⟨t.toArray⟩] 38)).cell? ⟨wr.heap.size, 0, none⟩ = some (.int .i64 1) := by rw [World.cell?_alloc_new]; rfl
                  have k1 : (wr.alloc (.cells #[Value.int .i64 1, Value.int .i64 0, Value.string ⟨t.toArray⟩] 38)).cell? ⟨wr.heap.size, 1, none⟩ = some (.int .i64 0) := by rw [World.cell?_alloc_new]; rfl
                  have k2 : (wr.alloc (.cells #[Value.int .i64 1, Value.int .i64 0, Value.string ⟨t.toArray⟩] 38)).cell? ⟨wr.heap.size, 2, none⟩ = some (.string ⟨t.toArray⟩) := by rw [World.cell?_alloc_new]; rfl
                  have kz : wr.heap.size < (wr.alloc (.cells #[Value.int .i64 1, Value.int .i64 0, Value.string ⟨t.toArray⟩] 38)).heap.size := by simp
                  generalize wr.alloc (.cells #[Value.int .i64 1, Value.int .i64 0, Value.string ⟨t.toArray⟩] 38) = W at hW k0 k1 k2 kz ⊢
                  generalize wr.heap.size = B at k0 k1 k2 kz ⊢
                  go_wp2_with fail
                  go_ret
                  exact ⟨by rw [HN.out]; rfl, hE.trans hW⟩
              · have HN := Lib.hid (HBAD.out (by unfold partB; rw [if_pos rfl]; simp [hw]))
                have a1 : (wd != 0) = true := by rw [bne_iff_ne]; exact hw
                clear hw
                go_upto_region 7 with fail
                have hW : Ext wr (wr.alloc (.cells #[Value.int .i64 1, Value.int .i64 wd, Value.string ⟨t.toArray⟩] 38)) := (Ext.refl wr).alloc _
                have k0 : (wr.alloc (.cells #[Value.int .i64 1, Value.int .i64 wd, Value.string ⟨t.toArray⟩] 38)).cell? ⟨wr.heap.size, 0, none⟩ = some (.int .i64 1) := by rw [World.cell?_alloc_new]; rfl
                have k1 : (wr.alloc (.cells #[Value.int .i64 1, Value.int .i64 wd, Value.string ⟨t.toArray⟩] 38)).cell? ⟨wr.heap.size, 1, none⟩ = some (.int .i64 wd) := by rw [World.cell?_alloc_new]; rfl
                have k2 : (wr.alloc (.cells #[Value.int .i64 1, Value.int .i64 wd, Value.string ⟨t.toArray⟩] 38)).cell? ⟨wr.heap.size, 2, none⟩ = some (.string ⟨t.toArray⟩) := by rw [World.cell?_alloc_new]; rfl
                have kz : wr.heap.size < (wr.alloc (.cells #[Value.int .i64 1, Value.int .i64 wd, Value.string ⟨t.toArray⟩] 38)).heap.size := by simp
                generalize wr.alloc (.cells #[Value.int .i64 1, Value.int .i64 wd, Value.string ⟨t.toArray⟩] 38) = W at hW k0 k1 k2 kz ⊢
                generalize wr.heap.size = B at k0 k1 k2 kz ⊢
                go_wp2_with fail
                go_ret
                exact ⟨by rw [HN.out]; rfl, hE.trans hW⟩
            · obtain ⟨f, hf⟩ : ∃ f, fullZ k = f := ⟨_, rfl⟩
              have HF := Lib.hid hf
              have hf0 : 0 ≤ f := by rw [← hf]; exact fullZ_nonneg k
              have HPB : Hid (partB ⟨k, wd, t⟩ = (t.isEmpty && (if 0 < f then decide (1 ≤ wd) && decide (wd ≤ f) else decide (wd = 0)))) := by
                unfold Hid partB
                rw [if_neg hk]
                simp only
                rw [hf, decide_eq_true hk1, decide_eq_true hk2]
                rfl
              clear hf
              rcases Bool.eq_false_or_eq_true (t.isEmpty) with hte | hte
              · have HW2 : Hid (partB ⟨k, wd, t⟩ = (if 0 < f then decide (1 ≤ wd) && decide (wd ≤ f) else decide (wd = 0))) := by rw [Hid, HPB.out, hte]; rfl
                have hkq : (k == 1) = false := by rw [beq_eq_false_iff_ne]; exact hk
                by_cases f0 : f = 0
                · subst f0
                  by_cases hw : wd = 0
                  · subst hw
                    have hp : partB ⟨k, 0, t⟩ = true := by rw [HW2.out]; simp
                    by_cases j0 : j = 0
                    · have HS := Lib.hid (vAt_zero l j hlt (by rw [← HPP.out]; exact hp) j0)
                      have a4 : decide ((0 : Int) < (j : Int)) = false := by simp; omega
                      have a5 : decide (0 < j) = false := by simp; omega
                      clear j0 hp
                      go_upto_region 7 with fail
                      have hW : Ext wr (wr.alloc (.cells #[Value.int .i64 k, Value.int .i64 0, Value.string ⟨t.toArray⟩] 38)) := (Ext.refl wr).alloc _
                      have k0 : (wr.alloc (.cells #[Value.int .i64 k, Value.int .i64 0, Value.string ⟨t.toArray⟩] 38)).cell? ⟨wr.heap.size, 0, none⟩ = some (.int .i64 k) := by rw [World.cell?_alloc_new]; rfl
                      have k1 : (wr.alloc (.cells #[Value.int .i64 k, Value.int .i64 0, Value.string ⟨t.toArray⟩] 38)).cell? ⟨wr.heap.size, 1, none⟩ = some (.int .i64 0) := by rw [World.cell?_alloc_new]; rfl
                      have k2 : (wr.alloc (.cells #[Value.int .i64 k, Value.int .i64 0, Value.string ⟨t.toArray⟩] 38)).cell? ⟨wr.heap.size, 2, none⟩ = some (.string ⟨t.toArray⟩) := by rw [World.cell?_alloc_new]; rfl
                      have kz : wr.heap.size < (wr.alloc (.cells #[Value.int .i64 k, Value.int .i64 0, Value.string ⟨t.toArray⟩] 38)).heap.size := by simp
                      generalize wr.alloc (.cells #[Value.int .i64 k, Value.int .i64 0, Value.string ⟨t.toArray⟩] 38) = W at hW k0 k1 k2 kz ⊢
                      generalize wr.heap.size = B at k0 k1 k2 kz ⊢
                      go_upto_region 20 with (first
                        | (go_at_call 35; (with_reducible refine (rFul_c k 0 _ HF.out).mono ?_); rintro e w1 ⟨rfl, rfl⟩))
                      go_quiet (fail)
                      go_wp2_with fail
                      go_roundw
                      case rel => exact ⟨j + 1, by omega, by go_num, HS.out, hE.trans (hW.trans (by (repeat (with_reducible (first | assumption | exact Ext.refl _ | refine Ext.alloc ?_ _ | refine Ext.drewN ?_ _ | refine Ext.drew ?_)))))⟩
                      case measure => simp [intOf]; omega
                    · obtain ⟨m, hjm⟩ : ∃ m, m + 1 = j := ⟨j - 1, by omega⟩
                      have hm : m < l.length := by omega
                      obtain ⟨b0, -, -⟩ := hc m hm
                      replace b0 := (hE.cells R _ hR).trans b0
                      have hpm := (Hall.out m (by omega) hm).1
                      obtain ⟨hk3, hk4⟩ := partB_kind hpm
                      have HNo : Hid ((lpK k == lpK l[m].k) = true → validB l = false) := fun q => valid_no l j hlt (vAt_not l m j hlt hjm (by rw [← HPP.out]; exact q))
                      have HYes : Hid ((lpK k == lpK l[m].k) = false → ∀ i, i < j + 1 → vAt l i) := fun q => vAt_succ l m j hlt hjm (by rw [← HPP.out]; exact hp) Hall.out (by rw [← HPP.out]; exact q)
                      obtain ⟨k', hk'⟩ : ∃ k', k' = l[m].k := ⟨_, rfl⟩
                      rw [← hk'] at b0 hk3 hk4 HNo HYes
                      clear hpm hk' hp
                      have d0 : decide ((0 : Int) < (j : Int)) = true := by simp; omega
                      have d0n : decide (0 < j) = true := by simp; omega
                      have hji : (j : Int) - 1 = (m : Int) := by omega
                      have hji2 : (0 : Int) ≤ (m : Int) := by omega
                      have hji3 : (m : Int) < (l.length : Int) := by omega
                      clear j0
                      by_cases hkk : k' = 1
                      · have HS := Lib.hid (HYes.out (by
                          rw [beq_eq_false_iff_ne, hkk]
                          intro e
                          exact hk ((lpK_lit hk1 hk2).1 (e.trans (by decide)))))
                        have hkq2 : (k' != 1) = false := by simp [hkk]
                        clear hkk
                        go_upto_region 7 with fail
                        have hW : Ext wr (wr.alloc (.cells #[Value.int .i64 k, Value.int .i64 0, Value.string ⟨t.toArray⟩] 38)) := (Ext.refl wr).alloc _
                        have k0 : (wr.alloc (.cells #[Value.int .i64 k, Value.int .i64 0, Value.string ⟨t.toArray⟩] 38)).cell? ⟨wr.heap.size, 0, none⟩ = some (.int .i64 k) := by rw [World.cell?_alloc_new]; rfl
                        have k1 : (wr.alloc (.cells #[Value.int .i64 k, Value.int .i64 0, Value.string ⟨t.toArray⟩] 38)).cell? ⟨wr.heap.size, 1, none⟩ = some (.int .i64 0) := by rw [World.cell?_alloc_new]; rfl
                        have k2 : (wr.alloc (.cells #[Value.int .i64 k, Value.int .i64 0, Value.string ⟨t.toArray⟩] 38)).cell? ⟨wr.heap.size, 2, none⟩ = some (.string ⟨t.toArray⟩) := by rw [World.cell?_alloc_new]; rfl
                        have kz : wr.heap.size < (wr.alloc (.cells #[Value.int .i64 k, Value.int .i64 0, Value.string ⟨t.toArray⟩] 38)).heap.size := by simp
                        generalize wr.alloc (.cells #[Value.int .i64 k, Value.int .i64 0, Value.string ⟨t.toArray⟩] 38) = W at hW k0 k1 k2 kz ⊢
                        generalize wr.heap.size = B at k0 k1 k2 kz ⊢
                        have b0W := (hW.cells R _ hRr).trans b0
                        go_upto_region 20 with (first
                          | (go_at_call 35; (with_reducible refine (rFul_c k 0 _ HF.out).mono ?_); rintro e w1 ⟨rfl, rfl⟩))
                        go_quiet (fail)
                        go_wp2_with fail
                        go_roundw
                        case rel => exact ⟨j + 1, by omega, by go_num, HS.out, hE.trans (hW.trans (by (repeat (with_reducible (first | assumption | exact Ext.refl _ | refine Ext.alloc ?_ _ | refine Ext.drewN ?_ _ | refine Ext.drew ?_)))))⟩
                        case measure => simp [intOf]; omega
                      · have hkq2 : (k' != 1) = true := by simp [hkk]
                        obtain ⟨x, hx⟩ : ∃ x, ((lpK k).toNat : Int) = x := ⟨_, rfl⟩
                        obtain ⟨x', hx'⟩ : ∃ x', ((lpK k').toNat : Int) = x' := ⟨_, rfl⟩
                        have HEQ : Hid ((lpK k == lpK k') = (x' == x)) := by
                          rw [Hid, ← hx, ← hx', Bool.eq_iff_iff, beq_iff_eq, beq_iff_eq, ← UInt8.toNat_inj]
                          omega
                        have HL1 := Lib.hid (fun w => rLetP_c k x w (by omega) hk2 hx)
                        have HL2 := Lib.hid (fun w => rLetP_c k' x' w (by omega) hk4 hx')
                        rw [HEQ.out] at HNo HYes
                        clear hx hx' HEQ hkk
                        rcases Bool.eq_false_or_eq_true (x' == x) with hxx | hxx
                        · have HN := Lib.hid (HNo.out hxx)
                          go_upto_region 7 with fail
                          have hW : Ext wr (wr.alloc (.cells #[Value.int .i64 k, Value.int .i64 0, Value.string ⟨t.toArray⟩] 38)) := (Ext.refl wr).alloc _
                          have k0 : (wr.alloc (.cells #[Value.int .i64 k, Value.int .i64 0, Value.string ⟨t.toArray⟩] 38)).cell? ⟨wr.heap.size, 0, none⟩ = some (.int .i64 k) := by rw [World.cell?_alloc_new]; rfl
                          have k1 : (wr.alloc (.cells #[Value.int .i64 k, Value.int .i64 0, Value.string ⟨t.toArray⟩] 38)).cell? ⟨wr.heap.size, 1, none⟩ = some (.int .i64 0) := by rw [World.cell?_alloc_new]; rfl
                          have k2 : (wr.alloc (.cells #[Value.int .i64 k, Value.int .i64 0, Value.string ⟨t.toArray⟩] 38)).cell? ⟨wr.heap.size, 2, none⟩ = some (.string ⟨t.toArray⟩) := by rw [World.cell?_alloc_new]; rfl
                          have kz : wr.heap.size < (wr.alloc (.cells #[Value.int .i64 k, Value.int .i64 0, Value.string ⟨t.toArray⟩] 38)).heap.size := by simp
                          generalize wr.alloc (.cells #[Value.int .i64 k, Value.int .i64 0, Value.string ⟨t.toArray⟩] 38) = W at hW k0 k1 k2 kz ⊢
                          generalize wr.heap.size = B at k0 k1 k2 kz ⊢
                          have b0W := (hW.cells R _ hRr).trans b0
                          go_upto_region 20 with (first
                            | (go_at_call 35; (with_reducible refine (rFul_c k 0 _ HF.out).mono ?_); rintro e w1 ⟨rfl, rfl⟩))
                          go_quiet ((first
                            | (go_at_call 33; (with_reducible refine Calls.quiet_of_same ((HL2.out _).mono fun _ _ q => ⟨q.1, q.2.symm⟩)))
                            | (go_at_call 33; (with_reducible refine Calls.quiet_of_same ((HL1.out _).mono fun _ _ q => ⟨q.1, q.2.symm⟩)))))
                          go_wp2_with fail
                          go_ret
                          exact ⟨by rw [HN.out]; rfl, hE.trans (hW.trans (by (repeat (with_reducible (first | assumption | exact Ext.refl _ | refine Ext.alloc ?_ _ | refine Ext.drewN ?_ _ | refine Ext.drew ?_)))))⟩
                        · have HS := Lib.hid (HYes.out hxx)
                          go_upto_region 7 with fail
                          have hW : Ext wr (wr.alloc (.cells #[Value.int .i64 k, Value.int .i64 0, Value.string ⟨t.toArray⟩] 38)) := (Ext.refl wr).alloc _
                          have k0 : (wr.alloc (.cells #[Value.int .i64 k, Value.int .i64 0, Value.string ⟨t.toArray⟩] 38)).cell? ⟨wr.heap.size, 0, none⟩ = some (.int .i64 k) := by rw [World.cell?_alloc_new]; rfl
                          have k1 : (wr.alloc (.cells #[Value.int .i64 k, Value.int .i64 0, Value.string ⟨t.toArray⟩] 38)).cell? ⟨wr.heap.size, 1, none⟩ = some (.int .i64 0) := by rw [World.cell?_alloc_new]; rfl
                          have k2 : (wr.alloc (.cells #[Value.int .i64 k, Value.int .i64 0, Value.string ⟨t.toArray⟩] 38)).cell? ⟨wr.heap.size, 2, none⟩ = some (.string ⟨t.toArray⟩) := by rw [World.cell?_alloc_new]; rfl
                          have kz : wr.heap.size < (wr.alloc (.cells #[Value.int .i64 k, Value.int .i64 0, Value.string ⟨t.toArray⟩] 38)).heap.size := by simp
                          generalize wr.alloc (.cells #[Value.int .i64 k, Value.int .i64 0, Value.string ⟨t.toArray⟩] 38) = W at hW k0 k1 k2 kz ⊢
                          generalize wr.heap.size = B at k0 k1 k2 kz ⊢
                          have b0W := (hW.cells R _ hRr).trans b0
                          go_upto_region 20 with (first
                            | (go_at_call 35; (with_reducible refine (rFul_c k 0 _ HF.out).mono ?_); rintro e w1 ⟨rfl, rfl⟩))
                          go_quiet ((first
                            | (go_at_call 33; (with_reducible refine Calls.quiet_of_same ((HL2.out _).mono fun _ _ q => ⟨q.1, q.2.symm⟩)))
                            | (go_at_call 33; (with_reducible refine Calls.quiet_of_same ((HL1.out _).mono fun _ _ q => ⟨q.1, q.2.symm⟩)))))
                          go_wp2_with fail
                          go_roundw
                          case rel => exact ⟨j + 1, by omega, by go_num, HS.out, hE.trans (hW.trans (by (repeat (with_reducible (first | assumption | exact Ext.refl _ | refine Ext.alloc ?_ _ | refine Ext.drewN ?_ _ | refine Ext.drew ?_)))))⟩
                          case measure => simp [intOf]; omega
                  · have HN := Lib.hid (HBAD.out (by rw [HW2.out, if_neg (by omega)]; exact decide_eq_false hw))
                    have a1 : (wd != 0) = true := by rw [bne_iff_ne]; exact hw
                    clear hw
                    go_upto_region 7 with fail
                    have hW : Ext wr (wr.alloc (.cells #[Value.int .i64 k, Value.int .i64 wd, Value.string ⟨t.toArray⟩] 38)) := (Ext.refl wr).alloc _
                    have k0 : (wr.alloc (.cells #[Value.int .i64 k, Value.int .i64 wd, Value.string ⟨t.toArray⟩] 38)).cell? ⟨wr.heap.size, 0, none⟩ = some (.int .i64 k) := by rw [World.cell?_alloc_new]; rfl
                    have k1 : (wr.alloc (.cells #[Value.int .i64 k, Value.int .i64 wd, Value.string ⟨t.toArray⟩] 38)).cell? ⟨wr.heap.size, 1, none⟩ = some (.int .i64 wd) := by rw [World.cell?_alloc_new]; rfl
                    have k2 : (wr.alloc (.cells #[Value.int .i64 k, Value.int .i64 wd, Value.string ⟨t.toArray⟩] 38)).cell? ⟨wr.heap.size, 2, none⟩ = some (.string ⟨t.toArray⟩) := by rw [World.cell?_alloc_new]; rfl
                    have kz : wr.heap.size < (wr.alloc (.cells #[Value.int .i64 k, Value.int .i64 wd, Value.string ⟨t.toArray⟩] 38)).heap.size := by simp
                    generalize wr.alloc (.cells #[Value.int .i64 k, Value.int .i64 wd, Value.string ⟨t.toArray⟩] 38) = W at hW k0 k1 k2 kz ⊢
                    generalize wr.heap.size = B at k0 k1 k2 kz ⊢
                    go_wp2_with (first
                                          | (go_at_call 35; (with_reducible refine (rFul_c k 0 _ HF.out).mono ?_); rintro e w1 ⟨rfl, rfl⟩))
                    go_ret
                    exact ⟨by rw [HN.out]; rfl, hE.trans hW⟩
                · have fq : (f == 0) = false := by rw [beq_eq_false_iff_ne]; exact f0
                  have f1 : 0 < f := by omega
                  by_cases hw : 1 ≤ wd ∧ wd ≤ f
                  · have hp : partB ⟨k, wd, t⟩ = true := by rw [HW2.out, if_pos f1, decide_eq_true hw.1, decide_eq_true hw.2]; rfl
                    have v1 : ¬ wd < 1 := by omega
                    have v2 : ¬ f < wd := by omega
                    clear hw f0
                    by_cases j0 : j = 0
                    · have HS := Lib.hid (vAt_zero l j hlt (by rw [← HPP.out]; exact hp) j0)
                      have a4 : decide ((0 : Int) < (j : Int)) = false := by simp; omega
                      have a5 : decide (0 < j) = false := by simp; omega
                      clear j0 hp
                      go_upto_region 7 with fail
                      have hW : Ext wr (wr.alloc (.cells #[Value.int .i64 k, Value.int .i64 wd, Value.string ⟨t.toArray⟩] 38)) := (Ext.refl wr).alloc _
                      have k0 : (wr.alloc (.cells #[Value.int .i64 k, Value.int .i64 wd, Value.string ⟨t.toArray⟩] 38)).cell? ⟨wr.heap.size, 0, none⟩ = some (.int .i64 k) := by rw [World.cell?_alloc_new]; rfl
                      have k1 : (wr.alloc (.cells #[Value.int .i64 k, Value.int .i64 wd, Value.string ⟨t.toArray⟩] 38)).cell? ⟨wr.heap.size, 1, none⟩ = some (.int .i64 wd) := by rw [World.cell?_alloc_new]; rfl
                      have k2 : (wr.alloc (.cells #[Value.int .i64 k, Value.int .i64 wd, Value.string ⟨t.toArray⟩] 38)).cell? ⟨wr.heap.size, 2, none⟩ = some (.string ⟨t.toArray⟩) := by rw [World.cell?_alloc_new]; rfl
                      have kz : wr.heap.size < (wr.alloc (.cells #[Value.int .i64 k, Value.int .i64 wd, Value.string ⟨t.toArray⟩] 38)).heap.size := by simp
                      generalize wr.alloc (.cells #[Value.int .i64 k, Value.int .i64 wd, Value.string ⟨t.toArray⟩] 38) = W at hW k0 k1 k2 kz ⊢
                      generalize wr.heap.size = B at k0 k1 k2 kz ⊢
                      go_upto_region 20 with (first
                        | (go_at_call 35; (with_reducible refine (rFul_c k f _ HF.out).mono ?_); rintro e w1 ⟨rfl, rfl⟩))
                      go_quiet (fail)
                      go_wp2_with fail
                      go_roundw
                      case rel => exact ⟨j + 1, by omega, by go_num, HS.out, hE.trans (hW.trans (by (repeat (with_reducible (first | assumption | exact Ext.refl _ | refine Ext.alloc ?_ _ | refine Ext.drewN ?_ _ | refine Ext.drew ?_)))))⟩
                      case measure => simp [intOf]; omega
                    · obtain ⟨m, hjm⟩ : ∃ m, m + 1 = j := ⟨j - 1, by omega⟩
                      have hm : m < l.length := by omega
                      obtain ⟨b0, -, -⟩ := hc m hm
                      replace b0 := (hE.cells R _ hR).trans b0
                      have hpm := (Hall.out m (by omega) hm).1
                      obtain ⟨hk3, hk4⟩ := partB_kind hpm
                      have HNo : Hid ((lpK k == lpK l[m].k) = true → validB l = false) := fun q => valid_no l j hlt (vAt_not l m j hlt hjm (by rw [← HPP.out]; exact q))
                      have HYes : Hid ((lpK k == lpK l[m].k) = false → ∀ i, i < j + 1 → vAt l i) := fun q => vAt_succ l m j hlt hjm (by rw [← HPP.out]; exact hp) Hall.out (by rw [← HPP.out]; exact q)
                      obtain ⟨k', hk'⟩ : ∃ k', k' = l[m].k := ⟨_, rfl⟩
                      rw [← hk'] at b0 hk3 hk4 HNo HYes
                      clear hpm hk' hp
                      have d0 : decide ((0 : Int) < (j : Int)) = true := by simp; omega
                      have d0n : decide (0 < j) = true := by simp; omega
                      have hji : (j : Int) - 1 = (m : Int) := by omega
                      have hji2 : (0 : Int) ≤ (m : Int) := by omega
                      have hji3 : (m : Int) < (l.length : Int) := by omega
                      clear j0
                      by_cases hkk : k' = 1
                      · have HS := Lib.hid (HYes.out (by
                          rw [beq_eq_false_iff_ne, hkk]
                          intro e
                          exact hk ((lpK_lit hk1 hk2).1 (e.trans (by decide)))))
                        have hkq2 : (k' != 1) = false := by simp [hkk]
                        clear hkk
                        go_upto_region 7 with fail
                        have hW : Ext wr (wr.alloc (.cells #[Value.int .i64 k, Value.int .i64 wd, Value.string ⟨t.toArray⟩] 38)) := (Ext.refl wr).alloc _
                        have k0 : (wr.alloc (.cells #[Value.int .i64 k, Value.int .i64 wd, Value.string ⟨t.toArray⟩] 38)).cell? ⟨wr.heap.size, 0, none⟩ = some (.int .i64 k) := by rw [World.cell?_alloc_new]; rfl
                        have k1 : (wr.alloc (.cells #[Value.int .i64 k, Value.int .i64 wd, Value.string ⟨t.toArray⟩] 38)).cell? ⟨wr.heap.size, 1, none⟩ = some (.int .i64 wd) := by rw [World.cell?_alloc_new]; rfl
                        have k2 : (wr.alloc (.cells #[Value.int .i64 k, Value.int .i64 wd, Value.string ⟨t.toArray⟩] 38)).cell? ⟨wr.heap.size, 2, none⟩ = some (.string ⟨t.toArray⟩) := by rw [World.cell?_alloc_new]; rfl
                        have kz : wr.heap.size < (wr.alloc (.cells #[Value.int .i64 k, Value.int .i64 wd, Value.string ⟨t.toArray⟩] 38)).heap.size := by simp
                        generalize wr.alloc (.cells #[Value.int .i64 k, Value.int .i64 wd, Value.string ⟨t.toArray⟩] 38) = W at hW k0 k1 k2 kz ⊢
                        generalize wr.heap.size = B at k0 k1 k2 kz ⊢
                        have b0W := (hW.cells R _ hRr).trans b0
                        go_upto_region 20 with (first
                          | (go_at_call 35; (with_reducible refine (rFul_c k f _ HF.out).mono ?_); rintro e w1 ⟨rfl, rfl⟩))
                        go_quiet (fail)
                        go_wp2_with fail
                        go_roundw
                        case rel => exact ⟨j + 1, by omega, by go_num, HS.out, hE.trans (hW.trans (by (repeat (with_reducible (first | assumption | exact Ext.refl _ | refine Ext.alloc ?_ _ | refine Ext.drewN ?_ _ | refine Ext.drew ?_)))))⟩
                        case measure => simp [intOf]; omega
                      · have hkq2 : (k' != 1) = true := by simp [hkk]
                        obtain ⟨x, hx⟩ : ∃ x, ((lpK k).toNat : Int) = x := ⟨_, rfl⟩
                        obtain ⟨x', hx'⟩ : ∃ x', ((lpK k').toNat : Int) = x' := ⟨_, rfl⟩
                        have HEQ : Hid ((lpK k == lpK k') = (x' == x)) := by
                          rw [Hid, ← hx, ← hx', Bool.eq_iff_iff, beq_iff_eq, beq_iff_eq, ← UInt8.toNat_inj]
                          omega
                        have HL1 := Lib.hid (fun w => rLetP_c k x w (by omega) hk2 hx)
                        have HL2 := Lib.hid (fun w => rLetP_c k' x' w (by omega) hk4 hx')
                        rw [HEQ.out] at HNo HYes
                        clear hx hx' HEQ hkk
                        rcases Bool.eq_false_or_eq_true (x' == x) with hxx | hxx
                        · have HN := Lib.hid (HNo.out hxx)
                          go_upto_region 7 with fail
                          have hW : Ext wr (wr.alloc (.cells #[Value.int .i64 k, Value.int .i64 wd, Value.string ⟨t.toArray⟩] 38)) := (Ext.refl wr).alloc _
                          have k0 : (wr.alloc (.cells #[Value.int .i64 k, Value.int .i64 wd, Value.string ⟨t.toArray⟩] 38)).cell? ⟨wr.heap.size, 0, none⟩ = some (.int .i64 k) := by rw [World.cell?_alloc_new]; rfl
                          have k1 : (wr.alloc (.cells #[Value.int .i64 k, Value.int .i64 wd, Value.string ⟨t.toArray⟩] 38)).cell? ⟨wr.heap.size, 1, none⟩ = some (.int .i64 wd) := by rw [World.cell?_alloc_new]; rfl
                          have k2 : (wr.alloc (.cells #[Value.int .i64 k, Value.int .i64 wd, Value.string ⟨t.toArray⟩] 38)).cell? ⟨wr.heap.size, 2, none⟩ = some (.string ⟨t.toArray⟩) := by rw [World.cell?_alloc_new]; rfl
                          have kz : wr.heap.size < (wr.alloc (.cells #[Value.int .i64 k, Value.int .i64 wd, Value.string ⟨t.toArray⟩] 38)).heap.size := by simp
                          generalize wr.alloc (.cells #[Value.int .i64 k, Value.int .i64 wd, Value.string ⟨t.toArray⟩] 38) = W at hW k0 k1 k2 kz ⊢
                          generalize wr.heap.size = B at k0 k1 k2 kz ⊢
                          have b0W := (hW.cells R _ hRr).trans b0
                          go_upto_region 20 with (first
                            | (go_at_call 35; (with_reducible refine (rFul_c k f _ HF.out).mono ?_); rintro e w1 ⟨rfl, rfl⟩))
                          go_quiet ((first
                            | (go_at_call 33; (with_reducible refine Calls.quiet_of_same ((HL2.out _).mono fun _ _ q => ⟨q.1, q.2.symm⟩)))
                            | (go_at_call 33; (with_reducible refine Calls.quiet_of_same ((HL1.out _).mono fun _ _ q => ⟨q.1, q.2.symm⟩)))))
                          go_wp2_with fail
                          go_ret
                          exact ⟨by rw [HN.out]; rfl, hE.trans (hW.trans (by (repeat (with_reducible (first | assumption | exact Ext.refl _ | refine Ext.alloc ?_ _ | refine Ext.drewN ?_ _ | refine Ext.drew ?_)))))⟩
                        · have HS := Lib.hid (HYes.out hxx)
                          go_upto_region 7 with fail
                          have hW : Ext wr (wr.alloc (.cells #[Value.int .i64 k, Value.int .i64 wd, Value.string ⟨t.toArray⟩] 38)) := (Ext.refl wr).alloc _
                          have k0 : (wr.alloc (.cells #[Value.int .i64 k, Value.int .i64 wd, Value.string ⟨t.toArray⟩] 38)).cell? ⟨wr.heap.size, 0, none⟩ = some (.int .i64 k) := by rw [World.cell?_alloc_new]; rfl
                          have k1 : (wr.alloc (.cells #[Value.int .i64 k, Value.int .i64 wd, Value.string ⟨t.toArray⟩] 38)).cell? ⟨wr.heap.size, 1, none⟩ = some (.int .i64 wd) := by rw [World.cell?_alloc_new]; rfl
                          have k2 : (wr.alloc (.cells #[Value.int .i64 k, Value.int .i64 wd, Value.string ⟨t.toArray⟩] 38)).cell? ⟨wr.heap.size, 2, none⟩ = some (.string ⟨t.toArray⟩) := by rw [World.cell?_alloc_new]; rfl
                          have kz : wr.heap.size < (wr.alloc (.cells #[Value.int .i64 k, Value.int .i64 wd, Value.string ⟨t.toArray⟩] 38)).heap.size := by simp
                          generalize wr.alloc (.cells #[Value.int .i64 k, Value.int .i64 wd, Value.string ⟨t.toArray⟩] 38) = W at hW k0 k1 k2 kz ⊢
                          generalize wr.heap.size = B at k0 k1 k2 kz ⊢
                          have b0W := (hW.cells R _ hRr).trans b0
                          go_upto_region 20 with (first
                            | (go_at_call 35; (with_reducible refine (rFul_c k f _ HF.out).mono ?_); rintro e w1 ⟨rfl, rfl⟩))
                          go_quiet ((first
                            | (go_at_call 33; (with_reducible refine Calls.quiet_of_same ((HL2.out _).mono fun _ _ q => ⟨q.1, q.2.symm⟩)))
                            | (go_at_call 33; (with_reducible refine Calls.quiet_of_same ((HL1.out _).mono fun _ _ q => ⟨q.1, q.2.symm⟩)))))
                          go_wp2_with fail
                          go_roundw
                          case rel => exact ⟨j + 1, by omega, by go_num, HS.out, hE.trans (hW.trans (by (repeat (with_reducible (first | assumption | exact Ext.refl _ | refine Ext.alloc ?_ _ | refine Ext.drewN ?_ _ | refine Ext.drew ?_)))))⟩
                          case measure => simp [intOf]; omega
                  · have HN := Lib.hid (HBAD.out (by rw [HW2.out, if_pos f1, Bool.and_eq_false_iff, decide_eq_false_iff_not, decide_eq_false_iff_not]; omega))
                    by_cases w1 : wd < 1
                    · clear hw f0
                      go_upto_region 7 with fail
                      have hW : Ext wr (wr.alloc (.cells #[Value.int .i64 k, Value.int .i64 wd, Value.string ⟨t.toArray⟩] 38)) := (Ext.refl wr).alloc _
                      have k0 : (wr.alloc (.cells #[Value.int .i64 k, Value.int .i64 wd, Value.string ⟨t.toArray⟩] 38)).cell? ⟨wr.heap.size, 0, none⟩ = some (.int .i64 k) := by rw [World.cell?_alloc_new]; rfl
                      have k1 : (wr.alloc (.cells #[Value.int .i64 k, Value.int .i64 wd, Value.string ⟨t.toArray⟩] 38)).cell? ⟨wr.heap.size, 1, none⟩ = some (.int .i64 wd) := by rw [World.cell?_alloc_new]; rfl
                      have k2 : (wr.alloc (.cells #[Value.int .i64 k, Value.int .i64 wd, Value.string ⟨t.toArray⟩] 38)).cell? ⟨wr.heap.size, 2, none⟩ = some (.string ⟨t.toArray⟩) := by rw [World.cell?_alloc_new]; rfl
                      have kz : wr.heap.size < (wr.alloc (.cells #[Value.int .i64 k, Value.int .i64 wd, Value.string ⟨t.toArray⟩] 38)).heap.size := by simp
                      generalize wr.alloc (.cells #[Value.int .i64 k, Value.int .i64 wd, Value.string ⟨t.toArray⟩] 38) = W at hW k0 k1 k2 kz ⊢
                      generalize wr.heap.size = B at k0 k1 k2 kz ⊢
                      go_wp2_with (first
                                              | (go_at_call 35; (with_reducible refine (rFul_c k f _ HF.out).mono ?_); rintro e w1 ⟨rfl, rfl⟩))
                      go_ret
                      exact ⟨by rw [HN.out]; rfl, hE.trans hW⟩
                    · have w2 : f < wd := by omega
                      clear hw f0
                      go_upto_region 7 with fail
                      have hW : Ext wr (wr.alloc (.cells #[Value.int .i64 k, Value.int .i64 wd, Value.string ⟨t.toArray⟩] 38)) := (Ext.refl wr).alloc _
                      have k0 : (wr.alloc (.cells #[Value.int .i64 k, Value.int .i64 wd, Value.string ⟨t.toArray⟩] 38)).cell? ⟨wr.heap.size, 0, none⟩ = some (.int .i64 k) := by rw [World.cell?_alloc_new]; rfl
                      have k1 : (wr.alloc (.cells #[Value.int .i64 k, Value.int .i64 wd, Value.string ⟨t.toArray⟩] 38)).cell? ⟨wr.heap.size, 1, none⟩ = some (.int .i64 wd) := by rw [World.cell?_alloc_new]; rfl
                      have k2 : (wr.alloc (.cells #[Value.int .i64 k, Value.int .i64 wd, Value.string ⟨t.toArray⟩] 38)).cell? ⟨wr.heap.size, 2, none⟩ = some (.string ⟨t.toArray⟩) := by rw [World.cell?_alloc_new]; rfl
                      have kz : wr.heap.size < (wr.alloc (.cells #[Value.int .i64 k, Value.int .i64 wd, Value.string ⟨t.toArray⟩] 38)).heap.size := by simp
                      generalize wr.alloc (.cells #[Value.int .i64 k, Value.int .i64 wd, Value.string ⟨t.toArray⟩] 38) = W at hW k0 k1 k2 kz ⊢
                      generalize wr.heap.size = B at k0 k1 k2 kz ⊢
                      go_wp2_with (first
                                              | (go_at_call 35; (with_reducible refine (rFul_c k f _ HF.out).mono ?_); rintro e w1 ⟨rfl, rfl⟩))
                      go_ret
                      exact ⟨by rw [HN.out]; rfl, hE.trans hW⟩
              · have HN := Lib.hid (HBAD.out (by rw [HPB.out, hte]; rfl))
                have hkq : (k == 1) = false := by rw [beq_eq_false_iff_ne]; exact hk
                go_upto_region 7 with fail
                have hW : Ext wr (wr.alloc (.cells #[Value.int .i64 k, Value.int .i64 wd, Value.string ⟨t.toArray⟩] 38)) := (Ext.refl wr).alloc _
                have k0 : (wr.alloc (.cells #[Value.int .i64 k, Value.int .i64 wd, Value.string ⟨t.toArray⟩] 38)).cell? ⟨wr.heap.size, 0, none⟩ = some (.int .i64 k) := by rw [World.cell?_alloc_new]; rfl
                have k1 : (wr.alloc (.cells #[Value.int .i64 k, Value.int .i64 wd, Value.string ⟨t.toArray⟩] 38)).cell? ⟨wr.heap.size, 1, none⟩ = some (.int .i64 wd) := by rw [World.cell?_alloc_new]; rfl
                have k2 : (wr.alloc (.cells #[Value.int .i64 k, Value.int .i64 wd, Value.string ⟨t.toArray⟩] 38)).cell? ⟨wr.heap.size, 2, none⟩ = some (.string ⟨t.toArray⟩) := by rw [World.cell?_alloc_new]; rfl
                have kz : wr.heap.size < (wr.alloc (.cells #[Value.int .i64 k, Value.int .i64 wd, Value.string ⟨t.toArray⟩] 38)).heap.size := by simp
                generalize wr.alloc (.cells #[Value.int .i64 k, Value.int .i64 wd, Value.string ⟨t.toArray⟩] 38) = W at hW k0 k1 k2 kz ⊢
                generalize wr.heap.size = B at k0 k1 k2 kz ⊢
                go_wp2_with (first
                                  | (go_at_call 35; (with_reducible refine (rFul_c k f _ HF.out).mono ?_); rintro e w1 ⟨rfl, rfl⟩))
                go_ret
                exact ⟨by rw [HN.out]; rfl, hE.trans hW⟩
          · have HN := Lib.hid (HBAD.out (partB_no (fun q => hk2 q.2)))
            have e2 : ¬ k < 1 := by omega
            go_upto_region 7 with fail
            have hW : Ext wr (wr.alloc (.cells #[Value.int .i64 k, Value.int .i64 wd, Value.string ⟨t.toArray⟩] 38)) := (Ext.refl wr).alloc _
            have k0 : (wr.alloc (.cells #[Value.int .i64 k, Value.int .i64 wd, Value.string ⟨t.toArray⟩] 38)).cell? ⟨wr.heap.size, 0, none⟩ = some (.int .i64 k) := by rw [World.cell?_alloc_new]; rfl
            have k1 : (wr.alloc (.cells #[Value.int .i64 k, Value.int .i64 wd, Value.string ⟨t.toArray⟩] 38)).cell? ⟨wr.heap.size, 1, none⟩ = some (.int .i64 wd) := by rw [World.cell?_alloc_new]; rfl
            have k2 : (wr.alloc (.cells #[Value.int .i64 k, Value.int .i64 wd, Value.string ⟨t.toArray⟩] 38)).cell? ⟨wr.heap.size, 2, none⟩ = some (.string ⟨t.toArray⟩) := by rw [World.cell?_alloc_new]; rfl
            have kz : wr.heap.size < (wr.alloc (.cells #[Value.int .i64 k, Value.int .i64 wd, Value.string ⟨t.toArray⟩] 38)).heap.size := by simp
            generalize wr.alloc (.cells #[Value.int .i64 k, Value.int .i64 wd, Value.string ⟨t.toArray⟩] 38) = W at hW k0 k1 k2 kz ⊢
            generalize wr.heap.size = B at k0 k1 k2 kz ⊢
            go_wp2_with fail
            go_ret
            exact ⟨by rw [HN.out]; rfl, hE.trans hW⟩
        · have HN := Lib.hid (HBAD.out (partB_no (fun q => hk1 q.1)))
          have e2 : k < 1 := by omega
          go_upto_region 7 with fail
          have hW : Ext wr (wr.alloc (.cells #[Value.int .i64 k, Value.int .i64 wd, Value.string ⟨t.toArray⟩] 38)) := (Ext.refl wr).alloc _
          have k0 : (wr.alloc (.cells #[Value.int .i64 k, Value.int .i64 wd, Value.string ⟨t.toArray⟩] 38)).cell? ⟨wr.heap.size, 0, none⟩ = some (.int .i64 k) := by rw [World.cell?_alloc_new]; rfl
          have k1 : (wr.alloc (.cells #[Value.int .i64 k, Value.int .i64 wd, Value.string ⟨t.toArray⟩] 38)).cell? ⟨wr.heap.size, 1, none⟩ = some (.int .i64 wd) := by rw [World.cell?_alloc_new]; rfl
          have k2 : (wr.alloc (.cells #[Value.int .i64 k, Value.int .i64 wd, Value.string ⟨t.toArray⟩] 38)).cell? ⟨wr.heap.size, 2, none⟩ = some (.string ⟨t.toArray⟩) := by rw [World.cell?_alloc_new]; rfl
          have kz : wr.heap.size < (wr.alloc (.cells #[Value.int .i64 k, Value.int .i64 wd, Value.string ⟨t.toArray⟩] 38)).heap.size := by simp
          generalize wr.alloc (.cells #[Value.int .i64 k, Value.int .i64 wd, Value.string ⟨t.toArray⟩] 38) = W at hW k0 k1 k2 kz ⊢
          generalize wr.heap.size = B at k0 k1 k2 kz ⊢
          go_wp2_with fail
          go_ret
          exact ⟨by rw [HN.out]; rfl, hE.trans hW⟩
      · obtain rfl : j = l.length := by omega
        have HY := Lib.hid (valid_yes l h40 Hall.out)
        go_wp2_with fail
        go_ret
        exact ⟨by rw [HY.out]; rfl, hE⟩
  · have HN : Hid (validB l = false) := by rw [Hid, validB, decide_eq_false h40]; rfl
    have h41 : (40 : Int) < (l.length : Int) := by omega
    clear h40
    go_enter Tryz.func10, Tryz.ntmps10
    go_wp2_with fail
    go_ret
    exact ⟨by rw [HN.out]; rfl, Ext.refl w⟩
end Go.Proofs.YticckkadmhklmaaGreatDoor
