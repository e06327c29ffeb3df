/- Locales: the walk of the reference's Parse. -/
import Derived.Test.YtnhdmnhfllecgaaGreatDoorQ42
import Derived.Test.YtnhdmnhfllecgaaGreatDoorQ39
import Derived.Test.YtnhdmnhfllecgaaGreatDoorQ23
import Derived.Deep.CutBlock
namespace Go.Proofs.YtnhdmnhfllecgaaGreatDoor
set_option linter.unusedVariables false
set_option linter.unusedSimpArgs false
open Go.RowKit

theorem ord_lit : (#[Value.string ⟨#[108, 111, 99, 97, 108, 101]⟩, Value.string ⟨#[109, 111, 110, 116, 104, 115]⟩, Value.string ⟨#[115, 104, 111, 114, 116]⟩, Value.string ⟨#[100, 97, 121, 115]⟩, Value.string ⟨#[115, 104, 111, 114, 116, 100, 97, 121, 115]⟩, Value.string ⟨#[104, 97, 108, 118, 101, 115]⟩, Value.string ⟨#[112, 108, 117, 114, 97, 108]⟩, Value.string ⟨#[111, 114, 100, 105, 110, 97, 108]⟩, Value.string ⟨#[117, 110, 105, 116]⟩, Value.string ⟨#[112, 97, 116, 116, 101, 114, 110]⟩] : Array Value) = (sv ordW).toArray := by kernel_rfl
set_option maxRecDepth 100000 in
set_option maxHeartbeats 20000000 in
theorem rparse_c (s : List UInt8) (w : World) (hs : s.length ≤ 6000) :
    Calls Tryz.prog 12 #[.string ⟨s.toArray⟩] w fun e w' => parOut s e w' ∧ Ext w w' := by
  have d6 : decide (65536 < (s.length : Int)) = false := by simp; omega
  have hcnt := spl_count 10 s
  have hne := spl_ne 10 s
  have hlen := spl_len 10 s
  obtain ⟨m, hm⟩ : ∃ m, (spl 10 s).length = m + 1 := ⟨(spl 10 s).length - 1, by have := List.length_pos_iff.2 hne; omega⟩
  have hm6 : m ≤ 6001 := by omega
  obtain ⟨LS, hLS⟩ : ∃ LS, LS = (spl 10 s).dropLast := ⟨_, rfl⟩
  obtain ⟨la, hla⟩ : ∃ la, la = (spl 10 s).getLastD [] := ⟨_, rfl⟩
  obtain ⟨tl, htl⟩ : ∃ tl, tl = (!(la == [])) := ⟨_, rfl⟩
  have hLl : LS.length = m := by rw [hLS, List.length_dropLast, hm]; rfl
  have hpar : runL tl 0 0 0 LocD.zero LS = parL s := by unfold parL; rw [htl, hla, hLS]
  have hL6 : ∀ a ∈ LS, a.length ≤ 6000 := fun a ha => by
    rw [hLS] at ha
    exact Nat.le_trans (hlen a ((List.dropLast_sublist (spl 10 s)).subset ha)) hs
  have HSp : Hid (∀ w', Calls Tryz.prog 51 #[.string ⟨s.toArray⟩, .int .u8 10] w' fun e w'' => ∃ R cap, e = .returned (.slice (some ⟨R, 0, none⟩) (m + 1) cap) ∧ m + 1 ≤ cap ∧ cap ≤ maxLen ∧ RdS LS R 0 w'' ∧ w''.cell? ⟨R, m, none⟩ = some (.string ⟨la.toArray⟩) ∧ w'.heap.size ≤ R ∧ Ext w' w'') := fun w' => by
    refine (rsplit_10 s w' (by omega)).mono ?_
    rintro e w'' ⟨R, cap, rfl, h1, h2, h3, h4, h5⟩
    obtain ⟨k1, k2⟩ := rds_last h3 hm
    rw [hm] at h1 ⊢
    exact ⟨R, cap, rfl, h1, h2, by rw [hLS]; exact k1, by rw [hla]; exact k2, h4, h5⟩
  have HL6 := Lib.hid hL6
  have Htl := Lib.hid htl
  have HLl := Lib.hid hLl
  have Hpar := Lib.hid hpar
  clear hcnt hne hlen hm hLS hla hs hL6 htl hLl hpar
  go_enter Tryz.func12, Tryz.ntmps12
  go_upto_region 1 with fail
  rw [zlit_eq]
  have hE0 : Ext w ((w.alloc (.cells zeroV 30)).alloc (.cells #[.int .i64 0, .int .i64 0] 39)) := ((Ext.refl w).alloc _).alloc _
  have hz0 : (w.alloc (.cells zeroV 30)).heap.size = w.heap.size + 1 := by simp
  have hthL : ((w.alloc (.cells zeroV 30)).alloc (.cells #[.int .i64 0, .int .i64 0] 39)).there w.heap.size 0 zeroV.size :=
    there_frm (thr_new w zeroV 30 _ rfl) (by simp) (S := fun _ => False) (Frm.of_ext ((Ext.refl _).alloc _)) id
  have hthP : ((w.alloc (.cells zeroV 30)).alloc (.cells #[.int .i64 0, .int .i64 0] 39)).there (w.heap.size + 1) 0 2 := by
    have := thr_new (w.alloc (.cells zeroV 30)) #[.int .i64 0, .int .i64 0] 39 2 rfl
    rwa [hz0] at this
  have hzW : ((w.alloc (.cells zeroV 30)).alloc (.cells #[.int .i64 0, .int .i64 0] 39)).heap.size = w.heap.size + 2 := by simp
  generalize (w.alloc (.cells zeroV 30)).alloc (.cells #[.int .i64 0, .int .i64 0] 39) = W at hE0 hthL hthP hzW ⊢
  obtain ⟨RL, hRL⟩ : ∃ R, R = w.heap.size := ⟨_, rfl⟩
  obtain ⟨RP, hRP⟩ : ∃ R, R = w.heap.size + 1 := ⟨_, rfl⟩
  rw [← hRL] at hthL
  rw [← hRP] at hthP
  rw [← hRP, ← hRL]
  have hLP : RL ≠ RP := by omega
  have hRLl : RL < W.heap.size := by omega
  have hRPl : RP < W.heap.size := by omega
  have hwL : w.heap.size ≤ RL := by omega
  have hwP : w.heap.size ≤ RP := by omega
  have HE0 := Lib.hid hE0
  have HthL := Lib.hid hthL
  have HthP := Lib.hid hthP
  clear hE0 hz0 hzW hRL hRP hthL hthP
  go_upto_region 2 with fail
  rw [zlit_eq]
  have hEW : Ext W (W.alloc (.cells zeroV 30)) := (Ext.refl W).alloc _
  have hLW := zero_lsw W.heap.size W.heap.size _ (Nat.le_refl _) (heap_alloc_new W (.cells zeroV 30))
  generalize W.alloc (.cells zeroV 30) = W1 at hEW hLW ⊢
  obtain ⟨B, hB⟩ : ∃ B, B = W.heap.size := ⟨_, rfl⟩
  rw [← hB] at hLW
  rw [← hB]
  have hWB : W.heap.size ≤ B := by omega
  have hBL : RL < B ∧ RP < B := by omega
  have HEW := Lib.hid hEW
  have HLW := Lib.hid hLW
  clear hB hEW hLW
  go_upto_region 5 with (first
    | (go_at_call 51; (with_reducible refine (HSp.out _).mono ?_); rintro e W2 ⟨R, cap, rfl, hc1, hc2, hRS, hRl, hRz, hE⟩))
  have hBR : R ≠ B := by have := HLW.out.lt; omega
  have HEW2 := Lib.hid (HEW.out.trans hE)
  have HLW2 := Lib.hid (HLW.out.ext hE)
  have HRS := Lib.hid hRS
  unfold maxLen at hc2
  clear hE hRS hRz HEW HLW
  go_upto_region 11 with fail
  go_loopw [9, 10, 11] (fun a sg ct wr => ∃ at_ st cnt : Nat, a = .int .i64 (at_ : Int) ∧ sg = .int .i64 (st : Int) ∧ ct = .int .i64 (cnt : Int) ∧ st ≤ 10 ∧ cnt ≤ at_ ∧ at_ ≤ m ∧ Ext W wr ∧ RdS LS R 0 wr ∧ RPI s tl (LS.drop at_) B R st cnt at_ wr) (fun a _ _ _ => m + 1 - (intOf a).toNat)
  case atStart => exact ⟨0, 0, 0, rfl, rfl, rfl, by omega, by omega, by omega, HEW2.out, HRS.out, LocD.zero.loc, LocD.zero, HLW2.out, zero_far B R hBR, zero_dat, zero_sz, by rw [List.drop_zero]; exact Hpar.out⟩
  case round =>
    obtain ⟨at_, st, cnt, rfl, rfl, rfl, hst, hcn, hat, hEr, hRr, hI⟩ := hrel
    generalize wr = wo at *
    have HEv := Lib.hid hEr
    by_cases h10 : st < 10
    · by_cases hlt : at_ < m
      · have hLl : at_ < LS.length := by rw [HLl.out]; exact hlt
        have x0 := hRr.2 at_ hLl
        rw [Nat.zero_add] at x0
        have hRz := hRr.1
        have hl6 := HL6.out _ (List.getElem_mem hLl)
        have hdr := List.drop_eq_getElem_cons hLl
        obtain ⟨l, hl⟩ : ∃ l, l = LS[at_]'hLl := ⟨_, rfl⟩
        rw [← hl] at x0 hl6 hdr
        clear hl
        obtain ⟨A, T, b, hcut⟩ : ∃ A T b, cut1 l = (A, T, b) := ⟨_, _, _, rfl⟩
        have hcl : A.length ≤ l.length ∧ T.length ≤ l.length := by
          have := cut_len l [32]
          unfold cut1 at hcut
          rw [hcut] at this
          exact this
        obtain ⟨L, D, hL, hf, hD, hz, hrun⟩ := hI
        rw [hdr] at hrun
        have HCut : Hid (∀ w', Calls Tryz.prog 52 #[.string ⟨l.toArray⟩] w' fun e w'' => e = .returned (.tuple #[.string ⟨A.toArray⟩, .string ⟨T.toArray⟩, .bool b]) ∧ Ext w' w'') := fun w' => rcut_c l A T b w' (by omega) hcut
        have Hcut := Lib.hid hcut
        have HL := Lib.hid hL
        have Hf := Lib.hid hf
        have HD := Lib.hid hD
        have Hz := Lib.hid hz
        have Hrun := Lib.hid hrun
        have HRr := Lib.hid hRr
        clear hcut hL hf hD hz hrun hdr hRr hEr
        go_upto_region 17 with (first
          | (go_at_call 52; (with_reducible refine (HCut.out _).mono ?_); rintro e w2 ⟨rfl, hE2⟩))
        have hEp : Ext wo (wo.alloc (.cells #[.int .i64 ((at_ : Int) + 1), .int .i64 1] 39)) := (Ext.refl wo).alloc _
        have hQ0 : (wo.alloc (.cells #[.int .i64 ((at_ : Int) + 1), .int .i64 1] 39)).cell? ⟨wo.heap.size, 0, none⟩ = some (.int .i64 ((at_ + 1 : Nat) : Int)) := by rw [World.cell?_alloc_new]; rfl
        have hQ1 : (wo.alloc (.cells #[.int .i64 ((at_ : Int) + 1), .int .i64 1] 39)).cell? ⟨wo.heap.size, 1, none⟩ = some (.int .i64 1) := by rw [World.cell?_alloc_new]; rfl
        have hQz : wo.heap.size < (wo.alloc (.cells #[.int .i64 ((at_ : Int) + 1), .int .i64 1] 39)).heap.size := by simp
        rw [ord_lit]
        have hEo : Ext w2 (w2.alloc (.cells (sv ordW).toArray 9)) := (Ext.refl w2).alloc _
        have hord := ord_new w2
        have hoz : w2.heap.size < (w2.alloc (.cells (sv ordW).toArray 9)).heap.size := by simp
        generalize w2.alloc (.cells (sv ordW).toArray 9) = w3 at hEo hord hoz ⊢
        generalize w2.heap.size = Q at hord hoz ⊢
        have hE3 := hE2.trans hEo
        generalize wo.alloc (.cells #[.int .i64 ((at_ : Int) + 1), .int .i64 1] 39) = wp at *
        have hEw := HEv.out.size
        obtain ⟨PQ, hPQ⟩ : ∃ PQ, PQ = wo.heap.size := ⟨_, rfl⟩
        rw [← hPQ] at hQ0 hQ1 hQz hEw ⊢
        have HQ : Hid (w3.cell? ⟨PQ, 0, none⟩ = some (.int .i64 ((at_ + 1 : Nat) : Int)) ∧ w3.cell? ⟨PQ, 1, none⟩ = some (.int .i64 1) ∧ PQ < w3.heap.size) := ⟨(hE3.cells PQ 0 hQz).trans hQ0, (hE3.cells PQ 1 hQz).trans hQ1, hE3.lt hQz⟩
        have HE3 := Lib.hid (HEv.out.trans (hEp.trans hE3))
        have HL3 := Lib.hid (HL.out.ext (hEp.trans hE3))
        have HR3 := Lib.hid (HRr.out.ext (hEp.trans hE3))
        have HEq3 := Lib.hid (Ext.refl w3)
        have hPL : RL < PQ ∧ RP < PQ := by omega
        have Hord := Lib.hid hord
        clear hEp hQ0 hQ1 hQz hEo hE2 hE3 hord hPQ hEw HRr HL HEv
        have hsl := stg_le st cnt l h10
        have hst8 : st ≤ 9 := by omega
        have hcn6 : cnt ≤ 6001 := by omega
        obtain ⟨ad, had⟩ : ∃ ad : Bool, ad = decide (6 ≤ st ∧ st ≤ 8 ∧ 0 < cnt ∧ b = true ∧ A = wrd (st + 1)) := ⟨_, rfl⟩
        go_cut [91] from 70 to 91 (fun x wx => x = .bool ad ∧ wx = w3)
        case first =>
          cases b
          · have hd : ad = false := by rw [had]; simp
            go_wp2_with fail
            go_meet
            exact ⟨by rw [hd], rfl⟩
          · by_cases h6 : 6 ≤ st
            · have c6 : decide ((6 : Int) ≤ (st : Int)) = true := by simp; omega
              by_cases h8 : st ≤ 8
              · have c8 : decide ((st : Int) ≤ 8) = true := by simp; omega
                by_cases h0 : 0 < cnt
                · have c0 : decide ((0 : Int) < (cnt : Int)) = true := by simp; omega
                  have o1 := Hord.out (st + 1) (by omega)
                  obtain ⟨bb, hbb⟩ : ∃ bb : Bool, (A == wrd (st + 1)) = bb := ⟨_, rfl⟩
                  have hd : ad = bb := by
                    rw [had, ← hbb]
                    simp [h6, h8, h0]
                    rw [Bool.eq_iff_iff]; simp
                  go_wp2_with fail
                  go_meet
                  exact ⟨by rw [hd], rfl⟩
                · have c0 : decide ((0 : Int) < (cnt : Int)) = false := by simp; omega
                  have hd : ad = false := by rw [had]; simp [h0]
                  go_wp2_with fail
                  go_meet
                  exact ⟨by rw [hd], rfl⟩
              · have c8 : decide ((st : Int) ≤ 8) = false := by simp; omega
                have hd : ad = false := by rw [had]; simp [h8]
                go_wp2_with fail
                go_meet
                exact ⟨by rw [hd], rfl⟩
            · have c6 : decide ((6 : Int) ≤ (st : Int)) = false := by simp; omega
              have hd : ad = false := by rw [had]; simp [h6]
              go_wp2_with fail
              go_meet
              exact ⟨by rw [hd], rfl⟩
        case rest =>
          obtain ⟨rfl, rfl⟩ := hcut
          generalize wc = w3 at *
          go_upto_if 91 with fail
          go_cut [10, 11] from 92 to 93 (fun x y wx => x = .int .i64 (stgL st cnt l : Int) ∧ y = .int .i64 (cntL st cnt l : Int) ∧ wx = w3)
          case first =>
            cases ad
            · obtain ⟨g1, g2⟩ := stg_no (st := st) (cnt := cnt) Hcut.out (by intro q; rw [decide_eq_true q] at had; cases had)
              go_wp2_with fail
              go_meet
              exact ⟨by rw [g1], by rw [g2], rfl⟩
            · obtain ⟨g1, g2⟩ := stg_yes (st := st) (cnt := cnt) Hcut.out (of_decide_eq_true had.symm)
              go_wp2_with fail
              go_meet
              exact ⟨by rw [g1]; rfl, by rw [g2]; rfl, rfl⟩
          case rest =>
            obtain ⟨rfl, rfl, rfl⟩ := hcut
            generalize wc = w3 at *
            clear had
            have HNone : Hid (addL (stgL st cnt l) D T = none → parL s = .er 3 (at_ + 1)) := fun q => by rw [← Hrun.out]; exact run_none h10 (by rw [Hcut.out]; exact q)
            have HSome : Hid (∀ D', ¬ (b = false ∨ A ≠ wrd (stgL st cnt l)) → addL (stgL st cnt l) D T = some D' → (if stgL st cnt l < 6 ∨ stgL st cnt l = 9 then runL tl (stgL st cnt l + 1) 0 (at_ + 1) D' (LS.drop (at_ + 1)) else runL tl (stgL st cnt l) (cntL st cnt l + 1) (at_ + 1) D' (LS.drop (at_ + 1))) = parL s) := fun D' q1 q2 => by rw [← Hrun.out]; exact (run_some h10 (by rw [Hcut.out]; exact q1) (by rw [Hcut.out]; exact q2)).symm
            have HBad : Hid ((b = false ∨ A ≠ wrd (stgL st cnt l)) → parL s = .er 3 (at_ + 1)) := fun q => by rw [← Hrun.out]; exact run_bad h10 (by rw [Hcut.out]; exact q)
            obtain ⟨p, hp⟩ : ∃ p, p = stgL st cnt l := ⟨_, rfl⟩
            obtain ⟨c, hc⟩ : ∃ c, c = cntL st cnt l := ⟨_, rfl⟩
            rw [← hp] at HNone HSome HBad hsl
            rw [← hc] at HSome hsl
            rw [← hp, ← hc]
            obtain ⟨hp9, hcc⟩ := hsl
            have hc6 : c ≤ 6001 := by omega
            clear hp hc Hrun HCut
            obtain ⟨ed, hed⟩ : ∃ ed : Bool, ed = decide (b = false ∨ A ≠ wrd p) := ⟨_, rfl⟩
            go_upto_region 20 with fail
            go_cut [103] from 94 to 103 (fun x wx => x = .bool ed ∧ wx = w3)
            case first =>
              cases b
              · have hd : ed = true := by rw [hed]; simp
                go_wp2_with fail
                go_meet
                exact ⟨by rw [hd], rfl⟩
              · have o1 := Hord.out p (by omega)
                obtain ⟨bb, hbb⟩ : ∃ bb : Bool, (A == wrd p) = bb := ⟨_, rfl⟩
                have hbb2 : (A != wrd p) = !bb := by rw [bne, hbb]
                have hd : ed = !bb := by
                  rw [hed, ← hbb, Bool.eq_iff_iff]
                  simp
                go_wp2_with fail
                go_meet
                exact ⟨by rw [hd], rfl⟩
            case rest =>
              obtain ⟨rfl, rfl⟩ := hcut
              generalize wc = w3 at *
              have HEv := HE3
              have HEq := HEq3
              cases ed
              · have hok : ¬ (b = false ∨ A ≠ wrd p) := by intro q; rw [decide_eq_true q] at hed; cases hed
                have Hok := Lib.hid hok
                clear hed hok
                have h10b := h10
                clear h10
                have hlT : T.length ≤ 6000 := by omega
                go_upto_block 2 with fail
                refine wp_cut (fun a' wx => a' = ⟨#[.string ⟨s.toArray⟩, undef, .pointer (some ⟨RL, 0, none⟩), .pointer (some ⟨RP, 0, none⟩), a'.tmps.getD 4 undef, .pointer (some ⟨B, 0, none⟩), .slice (some ⟨R, 0, none⟩) m cap, .string ⟨la.toArray⟩, .int .i64 3, .int .i64 ((at_ : Int) + 1), .int .i64 (p : Int), .int .i64 ((c : Int) + 1), a'.tmps.getD 12 undef, a'.tmps.getD 13 undef, a'.tmps.getD 14 undef, a'.tmps.getD 15 undef, a'.tmps.getD 16 undef, a'.tmps.getD 17 undef, a'.tmps.getD 18 undef, a'.tmps.getD 19 undef, a'.tmps.getD 20 undef, a'.tmps.getD 21 undef, a'.tmps.getD 22 undef, a'.tmps.getD 23 undef, a'.tmps.getD 24 undef, a'.tmps.getD 25 undef, a'.tmps.getD 26 undef, a'.tmps.getD 27 undef, a'.tmps.getD 28 undef, a'.tmps.getD 29 undef, a'.tmps.getD 30 undef, .string ⟨s.toArray⟩, .int .i64 (s.length : Int), .bool false, undef, undef, .string ⟨s.toArray⟩, .slice (some ⟨R, 0, none⟩) (m + 1) cap, .slice (some ⟨R, 0, none⟩) (m + 1) cap, .slice (some ⟨R, 0, none⟩) (m + 1) cap, .int .i64 ((m : Int) + 1), .int .i64 (m : Int), .pointer (some ⟨R, m, none⟩), .string ⟨la.toArray⟩, .slice (some ⟨R, 0, none⟩) (m + 1) cap, .slice (some ⟨R, 0, none⟩) (m + 1) cap, .int .i64 ((m : Int) + 1), .int .i64 (m : Int), .slice (some ⟨R, 0, none⟩) m cap, a'.tmps.getD 49 undef, a'.tmps.getD 50 undef, a'.tmps.getD 51 undef, a'.tmps.getD 52 undef, a'.tmps.getD 53 undef, a'.tmps.getD 54 undef, a'.tmps.getD 55 undef, a'.tmps.getD 56 undef, a'.tmps.getD 57 undef, a'.tmps.getD 58 undef, a'.tmps.getD 59 undef, a'.tmps.getD 60 undef, a'.tmps.getD 61 undef, a'.tmps.getD 62 undef, a'.tmps.getD 63 undef, a'.tmps.getD 64 undef, a'.tmps.getD 65 undef, a'.tmps.getD 66 undef, a'.tmps.getD 67 undef, a'.tmps.getD 68 undef, a'.tmps.getD 69 undef, a'.tmps.getD 70 undef, a'.tmps.getD 71 undef, a'.tmps.getD 72 undef, a'.tmps.getD 73 undef, a'.tmps.getD 74 undef, a'.tmps.getD 75 undef, a'.tmps.getD 76 undef, a'.tmps.getD 77 undef, a'.tmps.getD 78 undef, a'.tmps.getD 79 undef, a'.tmps.getD 80 undef, a'.tmps.getD 81 undef, a'.tmps.getD 82 undef, a'.tmps.getD 83 undef, a'.tmps.getD 84 undef, a'.tmps.getD 85 undef, a'.tmps.getD 86 undef, a'.tmps.getD 87 undef, a'.tmps.getD 88 undef, a'.tmps.getD 89 undef, a'.tmps.getD 90 undef, a'.tmps.getD 91 undef, a'.tmps.getD 92 undef, a'.tmps.getD 93 undef, a'.tmps.getD 94 undef, a'.tmps.getD 95 undef, a'.tmps.getD 96 undef, a'.tmps.getD 97 undef, a'.tmps.getD 98 undef, a'.tmps.getD 99 undef, a'.tmps.getD 100 undef, a'.tmps.getD 101 undef, a'.tmps.getD 102 undef, a'.tmps.getD 103 undef, a'.tmps.getD 104 undef, a'.tmps.getD 105 undef, a'.tmps.getD 106 undef, a'.tmps.getD 107 undef, a'.tmps.getD 108 undef, a'.tmps.getD 109 undef, a'.tmps.getD 110 undef, a'.tmps.getD 111 undef, a'.tmps.getD 112 undef, a'.tmps.getD 113 undef, a'.tmps.getD 114 undef, a'.tmps.getD 115 undef, a'.tmps.getD 116 undef, a'.tmps.getD 117 undef, a'.tmps.getD 118 undef, a'.tmps.getD 119 undef, a'.tmps.getD 120 undef, a'.tmps.getD 121 undef, a'.tmps.getD 122 undef, a'.tmps.getD 123 undef, a'.tmps.getD 124 undef, a'.tmps.getD 125 undef, a'.tmps.getD 126 undef, a'.tmps.getD 127 undef, a'.tmps.getD 128 undef, a'.tmps.getD 129 undef, a'.tmps.getD 130 undef, a'.tmps.getD 131 undef, a'.tmps.getD 132 undef, a'.tmps.getD 133 undef, a'.tmps.getD 134 undef, a'.tmps.getD 135 undef, a'.tmps.getD 136 undef, a'.tmps.getD 137 undef, a'.tmps.getD 138 undef, a'.tmps.getD 139 undef, a'.tmps.getD 140 undef, a'.tmps.getD 141 undef, a'.tmps.getD 142 undef, a'.tmps.getD 143 undef, a'.tmps.getD 144 undef, a'.tmps.getD 145 undef, a'.tmps.getD 146 undef, a'.tmps.getD 147 undef, a'.tmps.getD 148 undef, a'.tmps.getD 149 undef, a'.tmps.getD 150 undef, a'.tmps.getD 151 undef, a'.tmps.getD 152 undef, a'.tmps.getD 153 undef, a'.tmps.getD 154 undef, a'.tmps.getD 155 undef, a'.tmps.getD 156 undef, a'.tmps.getD 157 undef, a'.tmps.getD 158 undef, a'.tmps.getD 159 undef, a'.tmps.getD 160 undef, a'.tmps.getD 161 undef, a'.tmps.getD 162 undef, a'.tmps.getD 163 undef, a'.tmps.getD 164 undef, a'.tmps.getD 165 undef, a'.tmps.getD 166 undef, a'.tmps.getD 167 undef, a'.tmps.getD 168 undef, a'.tmps.getD 169 undef, a'.tmps.getD 170 undef, a'.tmps.getD 171 undef, a'.tmps.getD 172 undef, a'.tmps.getD 173 undef, a'.tmps.getD 174 undef, a'.tmps.getD 175 undef, a'.tmps.getD 176 undef, a'.tmps.getD 177 undef, a'.tmps.getD 178 undef, a'.tmps.getD 179 undef, a'.tmps.getD 180 undef, a'.tmps.getD 181 undef, a'.tmps.getD 182 undef, a'.tmps.getD 183 undef, a'.tmps.getD 184 undef, a'.tmps.getD 185 undef, a'.tmps.getD 186 undef, a'.tmps.getD 187 undef, a'.tmps.getD 188 undef, a'.tmps.getD 189 undef, a'.tmps.getD 190 undef, a'.tmps.getD 191 undef, a'.tmps.getD 192 undef, a'.tmps.getD 193 undef, a'.tmps.getD 194 undef, a'.tmps.getD 195 undef, a'.tmps.getD 196 undef, a'.tmps.getD 197 undef, a'.tmps.getD 198 undef, a'.tmps.getD 199 undef, a'.tmps.getD 200 undef, a'.tmps.getD 201 undef, a'.tmps.getD 202 undef, a'.tmps.getD 203 undef, a'.tmps.getD 204 undef, a'.tmps.getD 205 undef, a'.tmps.getD 206 undef, a'.tmps.getD 207 undef, a'.tmps.getD 208 undef, a'.tmps.getD 209 undef, a'.tmps.getD 210 undef, a'.tmps.getD 211 undef, a'.tmps.getD 212 undef, a'.tmps.getD 213 undef, a'.tmps.getD 214 undef, a'.tmps.getD 215 undef, a'.tmps.getD 216 undef, a'.tmps.getD 217 undef, a'.tmps.getD 218 undef, a'.tmps.getD 219 undef, a'.tmps.getD 220 undef, a'.tmps.getD 221 undef, a'.tmps.getD 222 undef, a'.tmps.getD 223 undef, a'.tmps.getD 224 undef, a'.tmps.getD 225 undef, a'.tmps.getD 226 undef, a'.tmps.getD 227 undef, a'.tmps.getD 228 undef, a'.tmps.getD 229 undef, a'.tmps.getD 230 undef, a'.tmps.getD 231 undef, a'.tmps.getD 232 undef, a'.tmps.getD 233 undef, a'.tmps.getD 234 undef, a'.tmps.getD 235 undef, a'.tmps.getD 236 undef, a'.tmps.getD 237 undef, a'.tmps.getD 238 undef, a'.tmps.getD 239 undef, a'.tmps.getD 240 undef, a'.tmps.getD 241 undef, a'.tmps.getD 242 undef, a'.tmps.getD 243 undef, a'.tmps.getD 244 undef, a'.tmps.getD 245 undef, a'.tmps.getD 246 undef, a'.tmps.getD 247 undef, a'.tmps.getD 248 undef, a'.tmps.getD 249 undef, a'.tmps.getD 250 undef, a'.tmps.getD 251 undef, a'.tmps.getD 252 undef, a'.tmps.getD 253 undef, a'.tmps.getD 254 undef, a'.tmps.getD 255 undef, a'.tmps.getD 256 undef, a'.tmps.getD 257 undef, a'.tmps.getD 258 undef, a'.tmps.getD 259 undef, a'.tmps.getD 260 undef, a'.tmps.getD 261 undef, a'.tmps.getD 262 undef, a'.tmps.getD 263 undef, a'.tmps.getD 264 undef, a'.tmps.getD 265 undef, a'.tmps.getD 266 undef, a'.tmps.getD 267 undef, a'.tmps.getD 268 undef, a'.tmps.getD 269 undef, a'.tmps.getD 270 undef, a'.tmps.getD 271 undef, a'.tmps.getD 272 undef, a'.tmps.getD 273 undef, a'.tmps.getD 274 undef, a'.tmps.getD 275 undef, undef, undef, undef, undef, undef, undef, undef, undef, undef, undef, undef, undef, undef, undef, undef, undef, undef, undef, undef, undef], []⟩ ∧ RPJ B R p T D L w3 wx) ?_ ?_
                rotate_left
                · intro J K' hJ hK'
                  rcases (show p = 0 ∨ (1 ≤ p ∧ p ≤ 5) ∨ p = 6 ∨ p = 7 ∨ p = 8 ∨ p = 9 by omega) with rfl | ⟨h1, h5⟩ | rfl | rfl | rfl | rfl
                  · have c0 := (HL3.out.lcb.cells HL3.out.ok).1
                    have f0 := frz_obj HL3.out.obj 0
                    have hB := HL3.out.lt
                    go_wp2_with fail
                    refine Met.intro ?_
                    refine hJ _ _ ⟨rfl, ?_⟩
                    exact ⟨{ L with nm := T }, { D with nm := T }, (HL3.out.set_nm T).1, (HL3.out.set_nm T).2, ⟨rfl, HD.out.N, HD.out.P, HD.out.O, HD.out.U, HD.out.pt⟩, by rw [addL, if_pos rfl]⟩
                  · obtain ⟨q, rfl⟩ : ∃ q, p = q + 1 := ⟨p - 1, by omega⟩
                    have hq5 : q < 5 := by omega
                    have t0 : (((q + 1 : Nat) : Int) == 0) = false := by rw [beq_eq_false_iff_ne]; omega
                    have t6 : (((q + 1 : Nat) : Int) == 6) = false := by rw [beq_eq_false_iff_ne]; omega
                    have t7 : (((q + 1 : Nat) : Int) == 7) = false := by rw [beq_eq_false_iff_ne]; omega
                    have t8 : (((q + 1 : Nat) : Int) == 8) = false := by rw [beq_eq_false_iff_ne]; omega
                    have t9 : (((q + 1 : Nat) : Int) == 9) = false := by rw [beq_eq_false_iff_ne]; omega
                    have hcnt := spl_count 44 T
                    have HAD : Hid (addL (q + 1) D T = if (spl 44 T).length = nmLen (q + 1) then some { D with N := setN D.N (q + 1) (spl 44 T) } else none) := by rw [Hid, addL, if_neg (by omega), if_pos (by omega)]
                    obtain ⟨S, hS⟩ : ∃ S, spl 44 T = S := ⟨_, rfl⟩
                    have HSp2 : Hid (∀ w', Calls Tryz.prog 51 #[.string ⟨T.toArray⟩, .int .u8 44] w' fun e w'' => ∃ R cap, e = .returned (.slice (some ⟨R, 0, none⟩) S.length cap) ∧ S.length ≤ cap ∧ cap ≤ maxLen ∧ RdS S R 0 w'' ∧ w'.heap.size ≤ R ∧ Ext w' w'') := fun w' => by
                      have := rsplit_44 T w' (by omega)
                      unfold SplR at this
                      rwa [hS] at this
                    rw [hS] at hcnt HAD
                    clear hS
                    go_upto_region 26 with (first
                      | (go_at_call 51; (with_reducible refine (HSp2.out _).mono ?_); rintro e w4 ⟨Rs, scap, rfl, hs1, hs2, hRs, hsz, hE4⟩))
                    unfold maxLen at hs2
                    refine wp_region_grow [114, 115, 116, 117, 118, 119, 120, 121, 122, 123, 124, 125, 126, 127, 128, 129, 130, 131, 132, 133, 29] [fun x _ => x = .pointer (some ⟨B, 1, none⟩), fun x _ => x = .pointer (some ⟨B, 1, none⟩), fun x _ => x = .slice (some ⟨B, 1, none⟩) 12 12, fun x _ => x = .pointer (some ⟨B, 1, none⟩), fun x _ => x = .pointer (some ⟨B, 13, none⟩), fun x _ => x = .slice (some ⟨B, 13, none⟩) 12 12, fun x _ => x = .pointer (some ⟨B, 1, none⟩), fun x _ => x = .pointer (some ⟨B, 25, none⟩), fun x _ => x = .slice (some ⟨B, 25, none⟩) 7 7, fun x _ => x = .pointer (some ⟨B, 1, none⟩), fun x _ => x = .pointer (some ⟨B, 32, none⟩), fun x _ => x = .slice (some ⟨B, 32, none⟩) 7 7, fun x _ => x = .pointer (some ⟨B, 1, none⟩), fun x _ => x = .pointer (some ⟨B, 39, none⟩), fun x _ => x = .slice (some ⟨B, 39, none⟩) 2 2, FivT B, fun x _ => x = .int .i64 ((q + 1 : Nat) : Int), fun x _ => x = .int .i64 (q : Int), FivTP B q, fun x _ => x = .slice (some ⟨B, nmOff (q + 1), none⟩) (nmLen (q + 1)) (nmLen (q + 1)), fun x _ => x = .slice (some ⟨B, nmOff (q + 1), none⟩) (nmLen (q + 1)) (nmLen (q + 1))] 0 (by kernel_rfl) (by kernel_rfl) (by kernel_rfl) (by kernel_rfl) ?_ ?_ ?_
                    · intro Rl hRl
                      simp only [List.mem_cons, List.not_mem_nil, or_false] at hRl
                      rcases hRl with rfl | rfl | rfl | rfl | rfl | rfl | rfl | rfl | rfl | rfl | rfl | rfl | rfl | rfl | rfl | rfl | rfl | rfl | rfl | rfl | rfl
                      all_goals first
                        | exact fun _ _ _ h _ => h
                        | exact fun _ _ _ h hE => FivT.ext h hE
                        | exact fun _ _ _ h hE => FivTP.ext h hE
                    · refine ⟨?_, ?_, ?_, ?_, ?_, ?_, ?_, ?_, ?_, ?_, ?_, ?_, ?_, ?_, ?_, ?_, ?_, ?_, ?_, ?_, ?_, trivial⟩
                      all_goals intro a w hE hF hD K hK
                      · exact gs_val rfl (yr_field rfl ((hF 5 (fr_of rfl)).trans rfl) (by go_simp)) (hK _ _ rfl (Ext.refl _))
                      · have u114 : a.eval (.tmp 114) = .pointer (some ⟨B, 1, none⟩) := hD 0 (by kernel_rfl)
                        exact gs_val rfl (yr_field rfl u114 (by go_simp)) (hK _ _ rfl (Ext.refl _))
                      · have u115 : a.eval (.tmp 115) = .pointer (some ⟨B, 1, none⟩) := hD 1 (by kernel_rfl)
                        exact gs_val rfl (yr_sla rfl u115 (sl33 B 1 w)) (hK _ _ rfl (Ext.refl _))
                      · exact gs_val rfl (yr_field rfl ((hF 5 (fr_of rfl)).trans rfl) (by go_simp)) (hK _ _ rfl (Ext.refl _))
                      · have u117 : a.eval (.tmp 117) = .pointer (some ⟨B, 1, none⟩) := hD 3 (by kernel_rfl)
                        exact gs_val rfl (yr_field rfl u117 (by go_simp)) (hK _ _ rfl (Ext.refl _))
                      · have u118 : a.eval (.tmp 118) = .pointer (some ⟨B, 13, none⟩) := hD 4 (by kernel_rfl)
                        exact gs_val rfl (yr_sla rfl u118 (sl33 B 13 w)) (hK _ _ rfl (Ext.refl _))
                      · exact gs_val rfl (yr_field rfl ((hF 5 (fr_of rfl)).trans rfl) (by go_simp)) (hK _ _ rfl (Ext.refl _))
                      · have u120 : a.eval (.tmp 120) = .pointer (some ⟨B, 1, none⟩) := hD 6 (by kernel_rfl)
                        exact gs_val rfl (yr_field rfl u120 (by go_simp)) (hK _ _ rfl (Ext.refl _))
                      · have u121 : a.eval (.tmp 121) = .pointer (some ⟨B, 25, none⟩) := hD 7 (by kernel_rfl)
                        exact gs_val rfl (yr_sla rfl u121 (sl34 B 25 w)) (hK _ _ rfl (Ext.refl _))
                      · exact gs_val rfl (yr_field rfl ((hF 5 (fr_of rfl)).trans rfl) (by go_simp)) (hK _ _ rfl (Ext.refl _))
                      · have u123 : a.eval (.tmp 123) = .pointer (some ⟨B, 1, none⟩) := hD 9 (by kernel_rfl)
                        exact gs_val rfl (yr_field rfl u123 (by go_simp)) (hK _ _ rfl (Ext.refl _))
                      · have u124 : a.eval (.tmp 124) = .pointer (some ⟨B, 32, none⟩) := hD 10 (by kernel_rfl)
                        exact gs_val rfl (yr_sla rfl u124 (sl34 B 32 w)) (hK _ _ rfl (Ext.refl _))
                      · exact gs_val rfl (yr_field rfl ((hF 5 (fr_of rfl)).trans rfl) (by go_simp)) (hK _ _ rfl (Ext.refl _))
                      · have u126 : a.eval (.tmp 126) = .pointer (some ⟨B, 1, none⟩) := hD 12 (by kernel_rfl)
                        exact gs_val rfl (yr_field rfl u126 (by go_simp)) (hK _ _ rfl (Ext.refl _))
                      · have u127 : a.eval (.tmp 127) = .pointer (some ⟨B, 39, none⟩) := hD 13 (by kernel_rfl)
                        exact gs_val rfl (yr_sla rfl u127 (sl35 B 39 w)) (hK _ _ rfl (Ext.refl _))
                      · have u116 : a.eval (.tmp 116) = .slice (some ⟨B, 1, none⟩) 12 12 := hD 2 (by kernel_rfl)
                        have u119 : a.eval (.tmp 119) = .slice (some ⟨B, 13, none⟩) 12 12 := hD 5 (by kernel_rfl)
                        have u122 : a.eval (.tmp 122) = .slice (some ⟨B, 25, none⟩) 7 7 := hD 8 (by kernel_rfl)
                        have u125 : a.eval (.tmp 125) = .slice (some ⟨B, 32, none⟩) 7 7 := hD 11 (by kernel_rfl)
                        have u128 : a.eval (.tmp 128) = .slice (some ⟨B, 39, none⟩) 2 2 := hD 14 (by kernel_rfl)
                        exact gs_mk rfl (yr_bsl rfl (show _ = #[(0, .slice (some ⟨B, 1, none⟩) 12 12), (1, .slice (some ⟨B, 13, none⟩) 12 12), (2, .slice (some ⟨B, 25, none⟩) 7 7), (3, .slice (some ⟨B, 32, none⟩) 7 7), (4, .slice (some ⟨B, 39, none⟩) 2 2)] by simp [u116, u119, u122, u125, u128]) (fiveT_run B w)) (hK _ _ (FivT.new B w) ((Ext.refl w).alloc _))
                      · exact gs_val rfl (yr_move rfl ((hF 10 (fr_of rfl)).trans rfl)) (hK _ _ rfl (Ext.refl _))
                      · have u130 : a.eval (.tmp 130) = .int .i64 ((q + 1 : Nat) : Int) := hD 16 (by kernel_rfl)
                        exact gs_val rfl (yr_subi rfl u130 rfl (by rw [IntWalk.i64_in _ (by omega)]; omega)) (hK _ _ rfl (Ext.refl _))
                      · have u129 : (FivT B) (a.eval (.tmp 129)) w := hD 15 (by kernel_rfl)
                        have u131 : a.eval (.tmp 131) = .int .i64 (q : Int) := hD 17 (by kernel_rfl)
                        obtain ⟨DT, u129, hD1, hC⟩ := u129
                        exact gs_val rfl (yr_idxa rfl u129 u131 (ix_ss DT 0 5 5 q w hq5)) (hK _ _ ⟨DT, rfl, hD1, hC⟩ (Ext.refl _))
                      · have u132 : (FivTP B q) (a.eval (.tmp 132)) w := hD 18 (by kernel_rfl)
                        obtain ⟨DT, u132, hD1, hC⟩ := u132
                        exact gs_val rfl (yr_load rfl u132 (ld_ss _ _ _ (hC q hq5))) (hK _ _ rfl (Ext.refl _))
                      · have u133 : a.eval (.tmp 133) = .slice (some ⟨B, nmOff (q + 1), none⟩) (nmLen (q + 1)) (nmLen (q + 1)) := hD 19 (by kernel_rfl)
                        exact gs_val rfl (yr_assign rfl u133) (hK _ _ rfl (Ext.refl _))
                    intro vals wz hEz hRz
                    obtain ⟨-, -, -, -, -, -, -, -, -, -, -, -, -, -, -, -, -, -, -, -, h20, -⟩ := hRz
                    have e29 : vals 20 = .slice (some ⟨B, nmOff (q + 1), none⟩) (nmLen (q + 1)) (nmLen (q + 1)) := h20
                    refine wpAny_done (by kernel_rfl) ?_ _
                    simp only [putF, Act.put, List.length_cons, List.length_nil, List.getD_cons_zero, List.getD_cons_succ, List.setIfInBounds_toArray, List.set_cons_zero, List.set_cons_succ, Nat.reduceAdd, e29]
                    clear e29
                    have HE5 := Lib.hid (hE4.trans hEz)
                    have HR5 := Lib.hid (hRs.ext hEz)
                    have HEv := Lib.hid (HE3.out.trans HE5.out)
                    have HEq := Lib.hid (HEq3.out.trans HE5.out)
                    have H5 := Lib.hid (HL3.out.ext HE5.out)
                    have hRs3 : w3.heap.size ≤ Rs := hsz
                    obtain ⟨o1, o2, o3, o4⟩ := off_len (q + 1) (by omega) (by omega)
                    obtain ⟨off, ho⟩ : ∃ off, off = nmOff (q + 1) := ⟨_, rfl⟩
                    obtain ⟨n, hn⟩ : ∃ n, n = nmLen (q + 1) := ⟨_, rfl⟩
                    rw [← ho, ← hn] at o2
                    rw [← hn] at o3 o4 HAD
                    rw [← ho] at o1
                    rw [← ho, ← hn]
                    have Ho := Lib.hid ho
                    have Hn := Lib.hid hn
                    clear hE4 hEz hRs hsz ho hn
                    by_cases hl : S.length = n
                    · have tl : ((S.length : Int) == (n : Int)) = true := by rw [hl]; simp
                      have tl2 : ((S.length : Int) != (n : Int)) = false := by rw [bne, tl]; rfl
                      have HfR : Hid (Far L B Rs) := ⟨by have := HL3.out.lt; omega, fun i e => by have := (HL3.out.blk_in i Rs e).2; omega⟩
                      have HSn : Hid (S.length = nmLen (q + 1)) := by rw [Hid, hl, Hn.out]
                      go_upto_region 30 with fail
                      go_loopw [30] (fun i wr => ∃ j : Nat, j ≤ n ∧ i = .int .i64 (j : Int) ∧ LSw { L with N := nmsAt L.N (q + 1) S j } B B wr ∧ Stp L { L with N := nmsAt L.N (q + 1) S j } B wz wr) (fun i _ => n - (intOf i).toNat)
                      case atStart => exact ⟨0, Nat.zero_le _, rfl, by rw [nmsAt_0 L.N (q + 1) (by omega) (by omega) S]; exact H5.out, by rw [nmsAt_0 L.N (q + 1) (by omega) (by omega) S]; exact Stp.of_ext L B (Ext.refl _)⟩
                      case round =>
                        obtain ⟨j, hj, rfl, hLj, hSj⟩ := hrel
                        by_cases hlt : j < n
                        · have hjS : j < S.length := by omega
                          have hRj := rds_blk HR5.out (hSj.far HfR.out HR5.out.1).2
                          have x0 := hRj.2 j hjS
                          rw [Nat.zero_add] at x0
                          have hRz := hRj.1
                          obtain ⟨y, hy⟩ := hLj.cell_any (off + j) (by omega)
                          have hf := frz_obj hLj.obj (off + j)
                          have hBj := hLj.lt
                          have HPn := Lib.hid (hLj.put_name (q + 1) (by omega) (by omega) S HSn.out j (by rw [← Hn.out]; exact hlt) hjS H5.out.ok)
                          rw [← Ho.out] at HPn
                          have HSj := Lib.hid hSj
                          obtain ⟨fx, hx⟩ : ∃ x, x = S[j] := ⟨_, rfl⟩
                          rw [← hx] at x0 HPn
                          clear hx hRj hLj hSj
                          go_wp2_with fail
                          go_roundw
                          case rel => exact ⟨j + 1, by omega, by go_num, HPn.out.1, HSj.out.trans HPn.out.2⟩
                          case measure => simp [intOf]; omega
                        · obtain rfl : j = n := by omega
                          rw [Hn.out, nmsAt_n H5.out.ok (q + 1) S HSn.out] at hLj hSj
                          have HLj := Lib.hid hLj
                          have HSj := Lib.hid hSj
                          clear hLj hSj
                          go_wp2_with fail
                          refine Met.intro ?_
                          refine hJ _ _ ⟨rfl, ?_⟩
                          exact ⟨_, { D with N := setN D.N (q + 1) S }, HLj.out, (Stp.of_ext L B HE5.out).trans HSj.out, ⟨HD.out.nm, by show setN L.N _ _ = _; rw [HD.out.N], HD.out.P, HD.out.O, HD.out.U, HD.out.pt⟩, by rw [HAD.out, if_pos hl]⟩
                    · have tl : ((S.length : Int) == (n : Int)) = false := by rw [beq_eq_false_iff_ne]; omega
                      have tl2 : ((S.length : Int) != (n : Int)) = true := by rw [bne, tl]; rfl
                      have HP := Lib.hid (HNone.out (by rw [HAD.out, if_neg hl]))
                      clear hl
                      replace HthL := Lib.hid (there_frm HthL.out hRLl (S := fun _ => False) (Frm.of_ext HEv.out) id)
                      replace HthP := Lib.hid (there_frm HthP.out hRPl (S := fun _ => False) (Frm.of_ext HEv.out) id)
                      replace hRLl := HEv.out.lt hRLl
                      replace hRPl := HEv.out.lt hRPl
                      have q0 := (HEq.out.cells PQ 0 HQ.out.2.2).trans HQ.out.1
                      have q1 := (HEq.out.cells PQ 1 HQ.out.2.2).trans HQ.out.2.1
                      have hQl := HEq.out.lt HQ.out.2.2
                      have HnX : Hid (∀ i, ¬ OthS (fun i k => (i = 3 ∧ k = RL) ∨ (i = 4 ∧ k = RP)) i PQ) := by
                        rintro i ⟨j, -, ⟨-, e⟩ | ⟨-, e⟩⟩ <;> omega
                      have HLP := Lib.hid hLP
                      go_upto_region 28 with fail
                      have hnQ := HnX.out
                      have hLP := HLP.out
                      refine wp_region_growO [some 139, some 140, some 141, none, none, some 4] [fun x _ => x = .agg zeroV, fun x _ => x = .agg #[.int .i64 ((at_ + 1 : Nat) : Int), .int .i64 1], fun x _ => x = .int .i64 3, fun _ w => RL < w.heap.size ∧ w.rangeAt RL 0 LocD.zero.loc.vals, fun _ w => RP < w.heap.size ∧ w.rangeAt RP 0 [.int .i64 ((at_ + 1 : Nat) : Int), .int .i64 1], fun x _ => x = .int .i64 3] (fun i k => (i = 3 ∧ k = RL) ∨ (i = 4 ∧ k = RP)) 0 (by kernel_rfl) (by kernel_rfl) (by kernel_rfl) (by kernel_rfl) ?_ ?_ ?_
                      · refine ⟨?_, ?_, ?_, ?_, ?_, ?_, trivial⟩
                        · exact fun _ _ _ h _ => h
                        · exact fun _ _ _ h _ => h
                        · exact fun _ _ _ h _ => h
                        · exact fun _ _ _ h hF => range_frm h hF (by rintro ⟨j, h1, ⟨q, -⟩ | ⟨-, q⟩⟩ <;> omega)
                        · exact fun _ _ _ h hF => range_frm h hF (by rintro ⟨j, h1, ⟨-, q⟩ | ⟨q, -⟩⟩ <;> omega)
                        · exact fun _ _ _ h _ => h
                      · refine ⟨?_, ?_, ?_, ?_, ?_, ?_, trivial⟩
                        · intro a w hE hF hD K hK
                          exact gs_val rfl (yr_bld0 rfl (bld0_loc w)) (hK _ _ rfl (Frm.refl _ _))
                        · intro a w hE hF hD K hK
                          exact gs_val rfl (yr_load rfl ((hF 12 (fr_ofO rfl)).trans rfl) (ld_pos PQ 0 _ _ w ((hE.cel hQl (hnQ _) 0).trans q0) ((hE.cel hQl (hnQ _) 1).trans q1))) (hK _ _ rfl (Frm.refl _ _))
                        · intro a w hE hF hD K hK
                          exact gs_val rfl (yr_move rfl ((hF 8 (fr_ofO rfl)).trans rfl)) (hK _ _ rfl (Frm.refl _ _))
                        · intro a w hE hF hD K hK
                          have u139 : a.eval (.tmp 139) = .agg zeroV := hD 0 (by kernel_rfl)
                          exact gs_store rfl rfl ((hF 2 (fr_ofO rfl)).trans rfl) u139 (run_storeAt_mid w RL 0 30 zeroV (there_frm HthL.out hRLl hE (by rintro ⟨j, h1, ⟨rfl, -⟩ | ⟨-, q⟩⟩ <;> omega)) zero_info zero_one) (hK _ _ (range_set w RL LocD.zero.loc.vals (hE.lt hRLl) (there_frm HthL.out hRLl hE (by rintro ⟨j, h1, ⟨rfl, -⟩ | ⟨-, q⟩⟩ <;> omega))) (frm_sets w RL _ _ (.inl ⟨rfl, rfl⟩)))
                        · intro a w hE hF hD K hK
                          have u140 : a.eval (.tmp 140) = .agg #[.int .i64 ((at_ + 1 : Nat) : Int), .int .i64 1] := hD 1 (by kernel_rfl)
                          exact gs_store rfl rfl ((hF 3 (fr_ofO rfl)).trans rfl) u140 (run_storeAt_mid w RP 0 39 #[.int .i64 ((at_ + 1 : Nat) : Int), .int .i64 1] (there_frm HthP.out hRPl hE (by rintro ⟨j, h1, ⟨-, q⟩ | ⟨rfl, -⟩⟩ <;> omega)) (pos_info _ _) (pos_one _ _)) (hK _ _ (range_set w RP [.int .i64 ((at_ + 1 : Nat) : Int), .int .i64 1] (hE.lt hRPl) (there_frm HthP.out hRPl hE (by rintro ⟨j, h1, ⟨-, q⟩ | ⟨rfl, -⟩⟩ <;> omega))) (frm_sets w RP _ _ (.inr ⟨rfl, rfl⟩)))
                        · intro a w hE hF hD K hK
                          have u141 : a.eval (.tmp 141) = .int .i64 3 := hD 2 (by kernel_rfl)
                          exact gs_val rfl (yr_assign rfl u141) (hK _ _ rfl (Frm.refl _ _))
                      intro vals wz hEz hRz
                      obtain ⟨-, -, -, h3, h4, h5, -⟩ := hRz
                      have e4 : vals 5 = .int .i64 3 := h5
                      refine wpAny_done (by kernel_rfl) ?_ _
                      simp only [putG, putD, Act.put, List.length_cons, List.length_nil, List.getD_cons_zero, List.getD_cons_succ, List.setIfInBounds_toArray, List.set_cons_zero, List.set_cons_succ, Nat.reduceAdd, e4]
                      clear e4
                      go_wp2_with fail
                      refine bodyPost_ret (v := .tuple #[.agg zeroV, .agg #[.int .i64 ((at_ + 1 : Nat) : Int), .int .i64 1], .int .i64 3]) (results_c3 rfl rfl rfl rfl (run_loadVar_mid wz RL 0 30 LocD.zero.loc.vals _ h3.2 Tryz.underlying30 rfl (by kernel_rfl)) (run_loadVar_mid wz RP 0 39 [.int .i64 ((at_ + 1 : Nat) : Int), .int .i64 1] _ h4.2 Tryz.underlying39 rfl (by kernel_rfl))) rfl ⟨er3_out HP.out _, ?_⟩
                      refine ext_frm (HE0.out.trans HEv.out) hEz ?_
                      rintro k ⟨j, ⟨-, e⟩ | ⟨-, e⟩⟩ <;> omega
                  · obtain ⟨A2, R2, two, hcut⟩ : ∃ A2 R2 two, cut1 T = (A2, R2, two) := ⟨_, _, _, rfl⟩
                    have hcl2 : A2.length ≤ T.length ∧ R2.length ≤ T.length := by
                      have := cut_len T [32]
                      unfold cut1 at hcut
                      rw [hcut] at this
                      exact this
                    have HAD : Hid (addL 6 D T = if A2 = [] ∨ (two = true ∧ R2 = []) then none else some (if 6 = 6 then { D with P := D.P ++ [⟨A2, R2⟩] } else { D with O := D.O ++ [⟨A2, R2⟩] })) := add_cat (by decide) (by decide) hcut
                    have HCutT : Hid (∀ w', Calls Tryz.prog 52 #[.string ⟨T.toArray⟩] w' fun e w'' => e = .returned (.tuple #[.string ⟨A2.toArray⟩, .string ⟨R2.toArray⟩, .bool two]) ∧ Ext w' w'') := fun w' => rcut_c T A2 R2 two w' (by omega) hcut
                    obtain ⟨i0, hi, hz0, hz1, hz2⟩ := info_parts infoPlu
                    have Hi := Lib.hid hi
                    have Hz0 := Lib.hid hz0
                    have Hz1 := Lib.hid hz1
                    have Hz2 := Lib.hid hz2
                    have hn : L.P.length ≤ 60000 := by have := Hz.out.nP; rw [HD.out.P]; omega
                    clear hcut hi hz0 hz1 hz2
                    go_upto_region 38 with (first
                      | (go_at_call 52; (with_reducible refine (HCutT.out _).mono ?_); rintro e w4 ⟨rfl, hE4⟩))
                    have H4 := Lib.hid (HL3.out.ext hE4)
                    have HE4 := Lib.hid hE4
                    have c4 : w4.cell? ⟨B, 41, none⟩ = some (.slice L.pa L.P.length L.pc) := by
                      obtain ⟨g0, g1, g2, g3, g4⟩ := H4.out.lcb.cells H4.out.ok
                      assumption
                    have hB4 := H4.out.lt
                    have hown4 := H4.out.oP
                    have HEv4 := Lib.hid (HE3.out.trans hE4)
                    clear hE4
                    obtain ⟨bd, hbd⟩ : ∃ bd : Bool, bd = decide (A2 = [] ∨ (two = true ∧ R2 = [])) := ⟨_, rfl⟩
                    go_cut [176] from 168 to 176 (fun x wx => x = .bool bd ∧ wx = w4)
                    case first =>
                      by_cases hA : A2 = []
                      · have tA : (A2 == []) = true := by simpa using hA
                        have tA3 : A2.isEmpty = true := by simpa using hA
                        have hd : bd = true := by rw [hbd]; simp [hA]
                        clear hA
                        go_wp2_with fail
                        go_meet
                        exact ⟨by rw [hd], rfl⟩
                      · have tA : (A2 == []) = false := by simpa using hA
                        have tA3 : A2.isEmpty = false := by simpa using hA
                        by_cases hR : R2 = []
                        · have tR : (R2 == []) = true := by simpa using hR
                          have tR3 : R2.isEmpty = true := by simpa using hR
                          have hd : bd = two := by rw [hbd]; simp [hA, hR]
                          clear hA hR
                          cases two
                          all_goals
                            go_wp2_with fail
                            go_meet
                            exact ⟨by rw [hd], rfl⟩
                        · have tR : (R2 == []) = false := by simpa using hR
                          have tR3 : R2.isEmpty = false := by simpa using hR
                          have hd : bd = false := by rw [hbd]; simp [hA, hR]
                          clear hA hR
                          cases two
                          all_goals
                            go_wp2_with fail
                            go_meet
                            exact ⟨by rw [hd], rfl⟩
                    case rest =>
                      obtain ⟨rfl, rfl⟩ := hcut
                      generalize wc = w4 at *
                      cases bd with
                      | true =>
                        have HP := Lib.hid (HNone.out (by rw [HAD.out, if_pos (of_decide_eq_true hbd.symm)]))
                        clear hbd c4 hown4
                        have HEv := HEv4
                        have HEq := Lib.hid (HEq3.out.trans HE4.out)
                        replace HthL := Lib.hid (there_frm HthL.out hRLl (S := fun _ => False) (Frm.of_ext HEv.out) id)
                        replace HthP := Lib.hid (there_frm HthP.out hRPl (S := fun _ => False) (Frm.of_ext HEv.out) id)
                        replace hRLl := HEv.out.lt hRLl
                        replace hRPl := HEv.out.lt hRPl
                        have q0 := (HEq.out.cells PQ 0 HQ.out.2.2).trans HQ.out.1
                        have q1 := (HEq.out.cells PQ 1 HQ.out.2.2).trans HQ.out.2.1
                        have hQl := HEq.out.lt HQ.out.2.2
                        have HnX : Hid (∀ i, ¬ OthS (fun i k => (i = 3 ∧ k = RL) ∨ (i = 4 ∧ k = RP)) i PQ) := by
                          rintro i ⟨j, -, ⟨-, e⟩ | ⟨-, e⟩⟩ <;> omega
                        have HLP := Lib.hid hLP
                        go_upto_region 39 with fail
                        have hnQ := HnX.out
                        have hLP := HLP.out
                        refine wp_region_growO [some 177, some 178, some 179, none, none, some 4] [fun x _ => x = .agg zeroV, fun x _ => x = .agg #[.int .i64 ((at_ + 1 : Nat) : Int), .int .i64 1], fun x _ => x = .int .i64 3, fun _ w => RL < w.heap.size ∧ w.rangeAt RL 0 LocD.zero.loc.vals, fun _ w => RP < w.heap.size ∧ w.rangeAt RP 0 [.int .i64 ((at_ + 1 : Nat) : Int), .int .i64 1], fun x _ => x = .int .i64 3] (fun i k => (i = 3 ∧ k = RL) ∨ (i = 4 ∧ k = RP)) 0 (by kernel_rfl) (by kernel_rfl) (by kernel_rfl) (by kernel_rfl) ?_ ?_ ?_
                        · refine ⟨?_, ?_, ?_, ?_, ?_, ?_, trivial⟩
                          · exact fun _ _ _ h _ => h
                          · exact fun _ _ _ h _ => h
                          · exact fun _ _ _ h _ => h
                          · exact fun _ _ _ h hF => range_frm h hF (by rintro ⟨j, h1, ⟨q, -⟩ | ⟨-, q⟩⟩ <;> omega)
                          · exact fun _ _ _ h hF => range_frm h hF (by rintro ⟨j, h1, ⟨-, q⟩ | ⟨q, -⟩⟩ <;> omega)
                          · exact fun _ _ _ h _ => h
                        · refine ⟨?_, ?_, ?_, ?_, ?_, ?_, trivial⟩
                          · intro a w hE hF hD K hK
                            exact gs_val rfl (yr_bld0 rfl (bld0_loc w)) (hK _ _ rfl (Frm.refl _ _))
                          · intro a w hE hF hD K hK
                            exact gs_val rfl (yr_load rfl ((hF 12 (fr_ofO rfl)).trans rfl) (ld_pos PQ 0 _ _ w ((hE.cel hQl (hnQ _) 0).trans q0) ((hE.cel hQl (hnQ _) 1).trans q1))) (hK _ _ rfl (Frm.refl _ _))
                          · intro a w hE hF hD K hK
                            exact gs_val rfl (yr_move rfl ((hF 8 (fr_ofO rfl)).trans rfl)) (hK _ _ rfl (Frm.refl _ _))
                          · intro a w hE hF hD K hK
                            have u177 : a.eval (.tmp 177) = .agg zeroV := hD 0 (by kernel_rfl)
                            exact gs_store rfl rfl ((hF 2 (fr_ofO rfl)).trans rfl) u177 (run_storeAt_mid w RL 0 30 zeroV (there_frm HthL.out hRLl hE (by rintro ⟨j, h1, ⟨rfl, -⟩ | ⟨-, q⟩⟩ <;> omega)) zero_info zero_one) (hK _ _ (range_set w RL LocD.zero.loc.vals (hE.lt hRLl) (there_frm HthL.out hRLl hE (by rintro ⟨j, h1, ⟨rfl, -⟩ | ⟨-, q⟩⟩ <;> omega))) (frm_sets w RL _ _ (.inl ⟨rfl, rfl⟩)))
                          · intro a w hE hF hD K hK
                            have u178 : a.eval (.tmp 178) = .agg #[.int .i64 ((at_ + 1 : Nat) : Int), .int .i64 1] := hD 1 (by kernel_rfl)
                            exact gs_store rfl rfl ((hF 3 (fr_ofO rfl)).trans rfl) u178 (run_storeAt_mid w RP 0 39 #[.int .i64 ((at_ + 1 : Nat) : Int), .int .i64 1] (there_frm HthP.out hRPl hE (by rintro ⟨j, h1, ⟨-, q⟩ | ⟨rfl, -⟩⟩ <;> omega)) (pos_info _ _) (pos_one _ _)) (hK _ _ (range_set w RP [.int .i64 ((at_ + 1 : Nat) : Int), .int .i64 1] (hE.lt hRPl) (there_frm HthP.out hRPl hE (by rintro ⟨j, h1, ⟨-, q⟩ | ⟨rfl, -⟩⟩ <;> omega))) (frm_sets w RP _ _ (.inr ⟨rfl, rfl⟩)))
                          · intro a w hE hF hD K hK
                            have u179 : a.eval (.tmp 179) = .int .i64 3 := hD 2 (by kernel_rfl)
                            exact gs_val rfl (yr_assign rfl u179) (hK _ _ rfl (Frm.refl _ _))
                        intro vals wz hEz hRz
                        obtain ⟨-, -, -, h3, h4, h5, -⟩ := hRz
                        have e4 : vals 5 = .int .i64 3 := h5
                        refine wpAny_done (by kernel_rfl) ?_ _
                        simp only [putG, putD, Act.put, List.length_cons, List.length_nil, List.getD_cons_zero, List.getD_cons_succ, List.setIfInBounds_toArray, List.set_cons_zero, List.set_cons_succ, Nat.reduceAdd, e4]
                        clear e4
                        go_wp2_with fail
                        refine bodyPost_ret (v := .tuple #[.agg zeroV, .agg #[.int .i64 ((at_ + 1 : Nat) : Int), .int .i64 1], .int .i64 3]) (results_c3 rfl rfl rfl rfl (run_loadVar_mid wz RL 0 30 LocD.zero.loc.vals _ h3.2 Tryz.underlying30 rfl (by kernel_rfl)) (run_loadVar_mid wz RP 0 39 [.int .i64 ((at_ + 1 : Nat) : Int), .int .i64 1] _ h4.2 Tryz.underlying39 rfl (by kernel_rfl))) rfl ⟨er3_out HP.out _, ?_⟩
                        refine ext_frm (HE0.out.trans HEv.out) hEz ?_
                        rintro k ⟨j, ⟨-, e⟩ | ⟨-, e⟩⟩ <;> omega
                      | false =>
                        have Hbd : Hid (¬ (A2 = [] ∨ (two = true ∧ R2 = []))) := fun q => by rw [decide_eq_true q] at hbd; cases hbd
                        clear hbd
                        go_wp2_with (first
                          | (at_builtin; go_loud (refine wpList_append_lies _ rfl _ _ 27 rfl B 50 i0 (.agg #[.string ByteArray.empty, .string ByteArray.empty]) 2 32 Tryz.underlying27 Hi.out Hz0.out Hz1.out Hz2.out rfl (by decide) (.slice L.pa L.P.length L.pc) L.P.length (plcs L.P) rfl (own_ext hown4 ((Ext.refl w4).alloc _)) ⟨w4.heap.size, 0, none⟩ 1 1 [_, _] rfl rfl (cell_two_new w4 _ _ _) (fun y hy => by simp at hy; rcases hy with rfl | rfl <;> rfl) (by decide) (by unfold maxLen; omega) (by omega) (by simp; omega) _ rfl ?_; intro g3 cap3 w5 hown5 hgrow5 hat5 hlt5; rw [own_bk] at hgrow5 hat5; obtain ⟨G41, G42, G43, GF⟩ := obj_grown H4.out ((Ext.refl w4).alloc _) hgrow5 (H4.out.nB 0); have Gf := GF 41; clear GF)))
                        have hx := Lib.hid ((H4.out.ext ((Ext.refl w4).alloc (.cells #[.string ⟨A2.toArray⟩, .string ⟨R2.toArray⟩] 50))).app_P ⟨A2, R2⟩ hown5 hgrow5 (hat5.imp id (fun q => Nat.le_of_eq q.symm)))
                        have HE5 := Lib.hid (HE4.out.trans ((Ext.refl w4).alloc (.cells #[.string ⟨A2.toArray⟩, .string ⟨R2.toArray⟩] 50)))
                        clear hown5 hgrow5 hat5 hlt5 G41 G42 G43 Gf c4 hown4
                        refine Met.intro ?_
                        refine hJ _ _ ⟨rfl, ?_⟩
                        exact ⟨_, { D with P := D.P ++ [⟨A2, R2⟩] }, hx.out.1, (Stp.of_ext L B HE5.out).trans hx.out.2, ⟨HD.out.nm, HD.out.N, by show L.P ++ _ = _; rw [HD.out.P], HD.out.O, HD.out.U, HD.out.pt⟩, by rw [HAD.out, if_neg Hbd.out]; rfl⟩
                  · obtain ⟨A2, R2, two, hcut⟩ : ∃ A2 R2 two, cut1 T = (A2, R2, two) := ⟨_, _, _, rfl⟩
                    have hcl2 : A2.length ≤ T.length ∧ R2.length ≤ T.length := by
                      have := cut_len T [32]
                      unfold cut1 at hcut
                      rw [hcut] at this
                      exact this
                    have HAD : Hid (addL 7 D T = if A2 = [] ∨ (two = true ∧ R2 = []) then none else some (if 7 = 6 then { D with P := D.P ++ [⟨A2, R2⟩] } else { D with O := D.O ++ [⟨A2, R2⟩] })) := add_cat (by decide) (by decide) hcut
                    have HCutT : Hid (∀ w', Calls Tryz.prog 52 #[.string ⟨T.toArray⟩] w' fun e w'' => e = .returned (.tuple #[.string ⟨A2.toArray⟩, .string ⟨R2.toArray⟩, .bool two]) ∧ Ext w' w'') := fun w' => rcut_c T A2 R2 two w' (by omega) hcut
                    obtain ⟨i0, hi, hz0, hz1, hz2⟩ := info_parts infoPlu
                    have Hi := Lib.hid hi
                    have Hz0 := Lib.hid hz0
                    have Hz1 := Lib.hid hz1
                    have Hz2 := Lib.hid hz2
                    have hn : L.O.length ≤ 60000 := by have := Hz.out.nO; rw [HD.out.O]; omega
                    clear hcut hi hz0 hz1 hz2
                    go_upto_region 38 with (first
                      | (go_at_call 52; (with_reducible refine (HCutT.out _).mono ?_); rintro e w4 ⟨rfl, hE4⟩))
                    have H4 := Lib.hid (HL3.out.ext hE4)
                    have HE4 := Lib.hid hE4
                    have c4 : w4.cell? ⟨B, 42, none⟩ = some (.slice L.oa L.O.length L.oc) := by
                      obtain ⟨g0, g1, g2, g3, g4⟩ := H4.out.lcb.cells H4.out.ok
                      assumption
                    have hB4 := H4.out.lt
                    have hown4 := H4.out.oO
                    have HEv4 := Lib.hid (HE3.out.trans hE4)
                    clear hE4
                    obtain ⟨bd, hbd⟩ : ∃ bd : Bool, bd = decide (A2 = [] ∨ (two = true ∧ R2 = [])) := ⟨_, rfl⟩
                    go_cut [176] from 168 to 176 (fun x wx => x = .bool bd ∧ wx = w4)
                    case first =>
                      by_cases hA : A2 = []
                      · have tA : (A2 == []) = true := by simpa using hA
                        have tA3 : A2.isEmpty = true := by simpa using hA
                        have hd : bd = true := by rw [hbd]; simp [hA]
                        clear hA
                        go_wp2_with fail
                        go_meet
                        exact ⟨by rw [hd], rfl⟩
                      · have tA : (A2 == []) = false := by simpa using hA
                        have tA3 : A2.isEmpty = false := by simpa using hA
                        by_cases hR : R2 = []
                        · have tR : (R2 == []) = true := by simpa using hR
                          have tR3 : R2.isEmpty = true := by simpa using hR
                          have hd : bd = two := by rw [hbd]; simp [hA, hR]
                          clear hA hR
                          cases two
                          all_goals
                            go_wp2_with fail
                            go_meet
                            exact ⟨by rw [hd], rfl⟩
                        · have tR : (R2 == []) = false := by simpa using hR
                          have tR3 : R2.isEmpty = false := by simpa using hR
                          have hd : bd = false := by rw [hbd]; simp [hA, hR]
                          clear hA hR
                          cases two
                          all_goals
                            go_wp2_with fail
                            go_meet
                            exact ⟨by rw [hd], rfl⟩
                    case rest =>
                      obtain ⟨rfl, rfl⟩ := hcut
                      generalize wc = w4 at *
                      cases bd with
                      | true =>
                        have HP := Lib.hid (HNone.out (by rw [HAD.out, if_pos (of_decide_eq_true hbd.symm)]))
                        clear hbd c4 hown4
                        have HEv := HEv4
                        have HEq := Lib.hid (HEq3.out.trans HE4.out)
                        replace HthL := Lib.hid (there_frm HthL.out hRLl (S := fun _ => False) (Frm.of_ext HEv.out) id)
                        replace HthP := Lib.hid (there_frm HthP.out hRPl (S := fun _ => False) (Frm.of_ext HEv.out) id)
                        replace hRLl := HEv.out.lt hRLl
                        replace hRPl := HEv.out.lt hRPl
                        have q0 := (HEq.out.cells PQ 0 HQ.out.2.2).trans HQ.out.1
                        have q1 := (HEq.out.cells PQ 1 HQ.out.2.2).trans HQ.out.2.1
                        have hQl := HEq.out.lt HQ.out.2.2
                        have HnX : Hid (∀ i, ¬ OthS (fun i k => (i = 3 ∧ k = RL) ∨ (i = 4 ∧ k = RP)) i PQ) := by
                          rintro i ⟨j, -, ⟨-, e⟩ | ⟨-, e⟩⟩ <;> omega
                        have HLP := Lib.hid hLP
                        go_upto_region 39 with fail
                        have hnQ := HnX.out
                        have hLP := HLP.out
                        refine wp_region_growO [some 177, some 178, some 179, none, none, some 4] [fun x _ => x = .agg zeroV, fun x _ => x = .agg #[.int .i64 ((at_ + 1 : Nat) : Int), .int .i64 1], fun x _ => x = .int .i64 3, fun _ w => RL < w.heap.size ∧ w.rangeAt RL 0 LocD.zero.loc.vals, fun _ w => RP < w.heap.size ∧ w.rangeAt RP 0 [.int .i64 ((at_ + 1 : Nat) : Int), .int .i64 1], fun x _ => x = .int .i64 3] (fun i k => (i = 3 ∧ k = RL) ∨ (i = 4 ∧ k = RP)) 0 (by kernel_rfl) (by kernel_rfl) (by kernel_rfl) (by kernel_rfl) ?_ ?_ ?_
                        · refine ⟨?_, ?_, ?_, ?_, ?_, ?_, trivial⟩
                          · exact fun _ _ _ h _ => h
                          · exact fun _ _ _ h _ => h
                          · exact fun _ _ _ h _ => h
                          · exact fun _ _ _ h hF => range_frm h hF (by rintro ⟨j, h1, ⟨q, -⟩ | ⟨-, q⟩⟩ <;> omega)
                          · exact fun _ _ _ h hF => range_frm h hF (by rintro ⟨j, h1, ⟨-, q⟩ | ⟨q, -⟩⟩ <;> omega)
                          · exact fun _ _ _ h _ => h
                        · refine ⟨?_, ?_, ?_, ?_, ?_, ?_, trivial⟩
                          · intro a w hE hF hD K hK
                            exact gs_val rfl (yr_bld0 rfl (bld0_loc w)) (hK _ _ rfl (Frm.refl _ _))
                          · intro a w hE hF hD K hK
                            exact gs_val rfl (yr_load rfl ((hF 12 (fr_ofO rfl)).trans rfl) (ld_pos PQ 0 _ _ w ((hE.cel hQl (hnQ _) 0).trans q0) ((hE.cel hQl (hnQ _) 1).trans q1))) (hK _ _ rfl (Frm.refl _ _))
                          · intro a w hE hF hD K hK
                            exact gs_val rfl (yr_move rfl ((hF 8 (fr_ofO rfl)).trans rfl)) (hK _ _ rfl (Frm.refl _ _))
                          · intro a w hE hF hD K hK
                            have u177 : a.eval (.tmp 177) = .agg zeroV := hD 0 (by kernel_rfl)
                            exact gs_store rfl rfl ((hF 2 (fr_ofO rfl)).trans rfl) u177 (run_storeAt_mid w RL 0 30 zeroV (there_frm HthL.out hRLl hE (by rintro ⟨j, h1, ⟨rfl, -⟩ | ⟨-, q⟩⟩ <;> omega)) zero_info zero_one) (hK _ _ (range_set w RL LocD.zero.loc.vals (hE.lt hRLl) (there_frm HthL.out hRLl hE (by rintro ⟨j, h1, ⟨rfl, -⟩ | ⟨-, q⟩⟩ <;> omega))) (frm_sets w RL _ _ (.inl ⟨rfl, rfl⟩)))
                          · intro a w hE hF hD K hK
                            have u178 : a.eval (.tmp 178) = .agg #[.int .i64 ((at_ + 1 : Nat) : Int), .int .i64 1] := hD 1 (by kernel_rfl)
                            exact gs_store rfl rfl ((hF 3 (fr_ofO rfl)).trans rfl) u178 (run_storeAt_mid w RP 0 39 #[.int .i64 ((at_ + 1 : Nat) : Int), .int .i64 1] (there_frm HthP.out hRPl hE (by rintro ⟨j, h1, ⟨-, q⟩ | ⟨rfl, -⟩⟩ <;> omega)) (pos_info _ _) (pos_one _ _)) (hK _ _ (range_set w RP [.int .i64 ((at_ + 1 : Nat) : Int), .int .i64 1] (hE.lt hRPl) (there_frm HthP.out hRPl hE (by rintro ⟨j, h1, ⟨-, q⟩ | ⟨rfl, -⟩⟩ <;> omega))) (frm_sets w RP _ _ (.inr ⟨rfl, rfl⟩)))
                          · intro a w hE hF hD K hK
                            have u179 : a.eval (.tmp 179) = .int .i64 3 := hD 2 (by kernel_rfl)
                            exact gs_val rfl (yr_assign rfl u179) (hK _ _ rfl (Frm.refl _ _))
                        intro vals wz hEz hRz
                        obtain ⟨-, -, -, h3, h4, h5, -⟩ := hRz
                        have e4 : vals 5 = .int .i64 3 := h5
                        refine wpAny_done (by kernel_rfl) ?_ _
                        simp only [putG, putD, Act.put, List.length_cons, List.length_nil, List.getD_cons_zero, List.getD_cons_succ, List.setIfInBounds_toArray, List.set_cons_zero, List.set_cons_succ, Nat.reduceAdd, e4]
                        clear e4
                        go_wp2_with fail
                        refine bodyPost_ret (v := .tuple #[.agg zeroV, .agg #[.int .i64 ((at_ + 1 : Nat) : Int), .int .i64 1], .int .i64 3]) (results_c3 rfl rfl rfl rfl (run_loadVar_mid wz RL 0 30 LocD.zero.loc.vals _ h3.2 Tryz.underlying30 rfl (by kernel_rfl)) (run_loadVar_mid wz RP 0 39 [.int .i64 ((at_ + 1 : Nat) : Int), .int .i64 1] _ h4.2 Tryz.underlying39 rfl (by kernel_rfl))) rfl ⟨er3_out HP.out _, ?_⟩
                        refine ext_frm (HE0.out.trans HEv.out) hEz ?_
                        rintro k ⟨j, ⟨-, e⟩ | ⟨-, e⟩⟩ <;> omega
                      | false =>
                        have Hbd : Hid (¬ (A2 = [] ∨ (two = true ∧ R2 = []))) := fun q => by rw [decide_eq_true q] at hbd; cases hbd
                        clear hbd
                        go_wp2_with (first
                          | (at_builtin; go_loud (refine wpList_append_lies _ rfl _ _ 27 rfl B 50 i0 (.agg #[.string ByteArray.empty, .string ByteArray.empty]) 2 32 Tryz.underlying27 Hi.out Hz0.out Hz1.out Hz2.out rfl (by decide) (.slice L.oa L.O.length L.oc) L.O.length (plcs L.O) rfl (own_ext hown4 ((Ext.refl w4).alloc _)) ⟨w4.heap.size, 0, none⟩ 1 1 [_, _] rfl rfl (cell_two_new w4 _ _ _) (fun y hy => by simp at hy; rcases hy with rfl | rfl <;> rfl) (by decide) (by unfold maxLen; omega) (by omega) (by simp; omega) _ rfl ?_; intro g3 cap3 w5 hown5 hgrow5 hat5 hlt5; rw [own_bk] at hgrow5 hat5; obtain ⟨G41, G42, G43, GF⟩ := obj_grown H4.out ((Ext.refl w4).alloc _) hgrow5 (H4.out.nB 1); have Gf := GF 42; clear GF)))
                        have hx := Lib.hid ((H4.out.ext ((Ext.refl w4).alloc (.cells #[.string ⟨A2.toArray⟩, .string ⟨R2.toArray⟩] 50))).app_O ⟨A2, R2⟩ hown5 hgrow5 (hat5.imp id (fun q => Nat.le_of_eq q.symm)))
                        have HE5 := Lib.hid (HE4.out.trans ((Ext.refl w4).alloc (.cells #[.string ⟨A2.toArray⟩, .string ⟨R2.toArray⟩] 50)))
                        clear hown5 hgrow5 hat5 hlt5 G41 G42 G43 Gf c4 hown4
                        refine Met.intro ?_
                        refine hJ _ _ ⟨rfl, ?_⟩
                        exact ⟨_, { D with O := D.O ++ [⟨A2, R2⟩] }, hx.out.1, (Stp.of_ext L B HE5.out).trans hx.out.2, ⟨HD.out.nm, HD.out.N, HD.out.P, by show L.O ++ _ = _; rw [HD.out.O], HD.out.U, HD.out.pt⟩, by rw [HAD.out, if_neg Hbd.out]; rfl⟩
                  · obtain ⟨A2, R2, two, hcut⟩ : ∃ A2 R2 two, cut1 T = (A2, R2, two) := ⟨_, _, _, rfl⟩
                    have hcl2 : A2.length ≤ T.length ∧ R2.length ≤ T.length := by
                      have := cut_len T [32]
                      unfold cut1 at hcut
                      rw [hcut] at this
                      exact this
                    have HAD := Lib.hid (add_uni (D := D) hcut)
                    have HCutT : Hid (∀ w', Calls Tryz.prog 52 #[.string ⟨T.toArray⟩] w' fun e w'' => e = .returned (.tuple #[.string ⟨A2.toArray⟩, .string ⟨R2.toArray⟩, .bool two]) ∧ Ext w' w'') := fun w' => rcut_c T A2 R2 two w' (by omega) hcut
                    have hcnt := spl_count 44 R2
                    have hne := spl_ne 44 R2
                    obtain ⟨S, hS⟩ : ∃ S, spl 44 R2 = S := ⟨_, rfl⟩
                    have HSp2 : Hid (∀ w', Calls Tryz.prog 51 #[.string ⟨R2.toArray⟩, .int .u8 44] w' fun e w'' => ∃ R cap, e = .returned (.slice (some ⟨R, 0, none⟩) S.length cap) ∧ S.length ≤ cap ∧ cap ≤ maxLen ∧ RdS S R 0 w'' ∧ w'.heap.size ≤ R ∧ Ext w' w'') := fun w' => by
                      have := rsplit_44 R2 w' (by omega)
                      unfold SplR at this
                      rwa [hS] at this
                    rw [hS] at hcnt hne HAD
                    obtain ⟨sc, hsc⟩ : ∃ sc, numMN A2 = sc := ⟨_, rfl⟩
                    obtain ⟨okb, hok⟩ : ∃ okb, numM 13 A2 = okb := ⟨_, rfl⟩
                    have HSec : Hid (∀ w', Calls Tryz.prog 53 #[.string ⟨A2.toArray⟩, .int .i64 13] w' fun e w'' => e = .returned (.tuple #[.int .i64 (sc : Int), .bool okb]) ∧ w' = w'') := fun w' => by
                      have := rnumM_c A2 w' (by omega)
                      rwa [hsc, hok] at this
                    rw [hok] at HAD
                    have hn : L.P.length ≤ 60000 ∧ L.U.length ≤ 60000 := by have := Hz.out.nP; have := Hz.out.nU; rw [HD.out.P, HD.out.ulen]; omega
                    have HPV := Lib.hid (own_plv HL3.out.oP)
                    have Hsc := Lib.hid hsc
                    have Hok := Lib.hid hok
                    have HDP : Hid (D.P.length = L.P.length) := by rw [Hid, HD.out.P]
                    have hc41 := (HL3.out.lcb.cells HL3.out.ok).2.1
                    clear hcut hS hsc hok
                    go_upto_region 47 with (first
                      | (go_at_call 52; (with_reducible refine (HCutT.out _).mono ?_); rintro e w4 ⟨rfl, hE4⟩)
                      | (go_at_call 53; (with_reducible refine (HSec.out _).mono ?_); rintro e w9 ⟨rfl, rfl⟩)
                      | (go_at_call 51; (with_reducible refine (HSp2.out _).mono ?_); rintro e w5 ⟨Rs, scap, rfl, hs1, hs2, hRs, hsz, hE5⟩))
                    have HE5 := Lib.hid (hE4.trans hE5)
                    have HR5 := Lib.hid hRs
                    have H5 := Lib.hid (HL3.out.ext HE5.out)
                    have hB5 := H5.out.lt
                    have g41 := (HE5.out.cells B 41 HL3.out.lt).trans hc41
                    have HEv := Lib.hid (HE3.out.trans HE5.out)
                    have HEq := Lib.hid (HEq3.out.trans HE5.out)
                    have hz5 := HEv.out.size
                    have hsw : w4.heap.size ≤ Rs := hsz
                    unfold maxLen at hs2
                    clear hE4 hE5 hRs hsz hc41
                    obtain ⟨bd, hbd⟩ : ∃ bd : Bool, bd = decide (two = false ∨ okb = false ∨ R2 = [] ∨ S.length ≠ L.P.length) := ⟨_, rfl⟩
                    obtain ⟨lq, hlq⟩ : ∃ lq : Bool, ((S.length : Int) != (L.P.length : Int)) = lq := ⟨_, rfl⟩
                    have hlq2 : lq = decide (S.length ≠ L.P.length) := by rw [← hlq, Bool.eq_iff_iff]; simp <;> omega
                    go_cut [230] from 211 to 230 (fun x wx => x = .bool bd ∧ wx = w5)
                    case first =>
                      cases okb
                      · have hd : bd = true := by rw [hbd]; simp
                        cases two
                        all_goals
                          go_wp2_with fail
                          go_meet
                          exact ⟨by rw [hd], rfl⟩
                      · cases two
                        · have hd : bd = true := by rw [hbd]; simp
                          go_wp2_with fail
                          go_meet
                          exact ⟨by rw [hd], rfl⟩
                        · by_cases hR : R2 = []
                          · have tR : (R2 == []) = true := by simpa using hR
                            have tR3 : R2.isEmpty = true := by simpa using hR
                            have hd : bd = true := by rw [hbd]; simp [hR]
                            clear hR
                            go_wp2_with fail
                            go_meet
                            exact ⟨by rw [hd], rfl⟩
                          · have tR : (R2 == []) = false := by simpa using hR
                            have tR3 : R2.isEmpty = false := by simpa using hR
                            have hd : bd = lq := by rw [hbd, hlq2]; simp [hR]
                            clear hR
                            go_wp2_with fail
                            go_meet
                            exact ⟨by rw [hd, hlq2]; simp, rfl⟩
                    case rest =>
                      obtain ⟨rfl, rfl⟩ := hcut
                      generalize wc = w5 at *
                      rw [← HDP.out] at hbd
                      cases bd with
                      | true =>
                        have HP := Lib.hid (HNone.out (by rw [HAD.out, if_pos (of_decide_eq_true hbd.symm)]))
                        clear hbd
                        replace HthL := Lib.hid (there_frm HthL.out hRLl (S := fun _ => False) (Frm.of_ext HEv.out) id)
                        replace HthP := Lib.hid (there_frm HthP.out hRPl (S := fun _ => False) (Frm.of_ext HEv.out) id)
                        replace hRLl := HEv.out.lt hRLl
                        replace hRPl := HEv.out.lt hRPl
                        have q0 := (HEq.out.cells PQ 0 HQ.out.2.2).trans HQ.out.1
                        have q1 := (HEq.out.cells PQ 1 HQ.out.2.2).trans HQ.out.2.1
                        have hQl := HEq.out.lt HQ.out.2.2
                        have HnX : Hid (∀ i, ¬ OthS (fun i k => (i = 3 ∧ k = RL) ∨ (i = 4 ∧ k = RP)) i PQ) := by
                          rintro i ⟨j, -, ⟨-, e⟩ | ⟨-, e⟩⟩ <;> omega
                        have HLP := Lib.hid hLP
                        go_upto_region 48 with fail
                        have hnQ := HnX.out
                        have hLP := HLP.out
                        refine wp_region_growO [some 231, some 232, some 233, none, none, some 4] [fun x _ => x = .agg zeroV, fun x _ => x = .agg #[.int .i64 ((at_ + 1 : Nat) : Int), .int .i64 1], fun x _ => x = .int .i64 3, fun _ w => RL < w.heap.size ∧ w.rangeAt RL 0 LocD.zero.loc.vals, fun _ w => RP < w.heap.size ∧ w.rangeAt RP 0 [.int .i64 ((at_ + 1 : Nat) : Int), .int .i64 1], fun x _ => x = .int .i64 3] (fun i k => (i = 3 ∧ k = RL) ∨ (i = 4 ∧ k = RP)) 0 (by kernel_rfl) (by kernel_rfl) (by kernel_rfl) (by kernel_rfl) ?_ ?_ ?_
                        · refine ⟨?_, ?_, ?_, ?_, ?_, ?_, trivial⟩
                          · exact fun _ _ _ h _ => h
                          · exact fun _ _ _ h _ => h
                          · exact fun _ _ _ h _ => h
                          · exact fun _ _ _ h hF => range_frm h hF (by rintro ⟨j, h1, ⟨q, -⟩ | ⟨-, q⟩⟩ <;> omega)
                          · exact fun _ _ _ h hF => range_frm h hF (by rintro ⟨j, h1, ⟨-, q⟩ | ⟨q, -⟩⟩ <;> omega)
                          · exact fun _ _ _ h _ => h
                        · refine ⟨?_, ?_, ?_, ?_, ?_, ?_, trivial⟩
                          · intro a w hE hF hD K hK
                            exact gs_val rfl (yr_bld0 rfl (bld0_loc w)) (hK _ _ rfl (Frm.refl _ _))
                          · intro a w hE hF hD K hK
                            exact gs_val rfl (yr_load rfl ((hF 12 (fr_ofO rfl)).trans rfl) (ld_pos PQ 0 _ _ w ((hE.cel hQl (hnQ _) 0).trans q0) ((hE.cel hQl (hnQ _) 1).trans q1))) (hK _ _ rfl (Frm.refl _ _))
                          · intro a w hE hF hD K hK
                            exact gs_val rfl (yr_move rfl ((hF 8 (fr_ofO rfl)).trans rfl)) (hK _ _ rfl (Frm.refl _ _))
                          · intro a w hE hF hD K hK
                            have u231 : a.eval (.tmp 231) = .agg zeroV := hD 0 (by kernel_rfl)
                            exact gs_store rfl rfl ((hF 2 (fr_ofO rfl)).trans rfl) u231 (run_storeAt_mid w RL 0 30 zeroV (there_frm HthL.out hRLl hE (by rintro ⟨j, h1, ⟨rfl, -⟩ | ⟨-, q⟩⟩ <;> omega)) zero_info zero_one) (hK _ _ (range_set w RL LocD.zero.loc.vals (hE.lt hRLl) (there_frm HthL.out hRLl hE (by rintro ⟨j, h1, ⟨rfl, -⟩ | ⟨-, q⟩⟩ <;> omega))) (frm_sets w RL _ _ (.inl ⟨rfl, rfl⟩)))
                          · intro a w hE hF hD K hK
                            have u232 : a.eval (.tmp 232) = .agg #[.int .i64 ((at_ + 1 : Nat) : Int), .int .i64 1] := hD 1 (by kernel_rfl)
                            exact gs_store rfl rfl ((hF 3 (fr_ofO rfl)).trans rfl) u232 (run_storeAt_mid w RP 0 39 #[.int .i64 ((at_ + 1 : Nat) : Int), .int .i64 1] (there_frm HthP.out hRPl hE (by rintro ⟨j, h1, ⟨-, q⟩ | ⟨rfl, -⟩⟩ <;> omega)) (pos_info _ _) (pos_one _ _)) (hK _ _ (range_set w RP [.int .i64 ((at_ + 1 : Nat) : Int), .int .i64 1] (hE.lt hRPl) (there_frm HthP.out hRPl hE (by rintro ⟨j, h1, ⟨-, q⟩ | ⟨rfl, -⟩⟩ <;> omega))) (frm_sets w RP _ _ (.inr ⟨rfl, rfl⟩)))
                          · intro a w hE hF hD K hK
                            have u233 : a.eval (.tmp 233) = .int .i64 3 := hD 2 (by kernel_rfl)
                            exact gs_val rfl (yr_assign rfl u233) (hK _ _ rfl (Frm.refl _ _))
                        intro vals wz hEz hRz
                        obtain ⟨-, -, -, h3, h4, h5, -⟩ := hRz
                        have e4 : vals 5 = .int .i64 3 := h5
                        refine wpAny_done (by kernel_rfl) ?_ _
                        simp only [putG, putD, Act.put, List.length_cons, List.length_nil, List.getD_cons_zero, List.getD_cons_succ, List.setIfInBounds_toArray, List.set_cons_zero, List.set_cons_succ, Nat.reduceAdd, e4]
                        clear e4
                        go_wp2_with fail
                        refine bodyPost_ret (v := .tuple #[.agg zeroV, .agg #[.int .i64 ((at_ + 1 : Nat) : Int), .int .i64 1], .int .i64 3]) (results_c3 rfl rfl rfl rfl (run_loadVar_mid wz RL 0 30 LocD.zero.loc.vals _ h3.2 Tryz.underlying30 rfl (by kernel_rfl)) (run_loadVar_mid wz RP 0 39 [.int .i64 ((at_ + 1 : Nat) : Int), .int .i64 1] _ h4.2 Tryz.underlying39 rfl (by kernel_rfl))) rfl ⟨er3_out HP.out _, ?_⟩
                        refine ext_frm (HE0.out.trans HEv.out) hEz ?_
                        rintro k ⟨j, ⟨-, e⟩ | ⟨-, e⟩⟩ <;> omega
                      | false =>
                        have hg : ¬ (two = false ∨ okb = false ∨ R2 = [] ∨ S.length ≠ D.P.length) := fun q => by rw [decide_eq_true q] at hbd; cases hbd
                        have Hg := Lib.hid hg
                        have hl : S.length = L.P.length := by
                          rw [← HDP.out]
                          exact Classical.byContradiction fun q => hg (.inr (.inr (.inr q)))
                        have hok1 : okb = true := by
                          cases okb
                          · exact absurd (.inr (.inl rfl)) hg
                          · rfl
                        have Hl := Lib.hid hl
                        subst hok1
                        clear hbd hg
                        obtain ⟨i0, hi, hz0, hz1, hz2⟩ := info_parts infoPlu
                        have Hi := Lib.hid hi
                        have Hz0 := Lib.hid hz0
                        have Hz1 := Lib.hid hz1
                        have Hz2 := Lib.hid hz2
                        clear hi hz0 hz1 hz2
                        have hS1 : 1 ≤ S.length := List.length_pos_iff.2 hne
                        obtain ⟨hpl, hpc, hp3⟩ := HPV.out
                        unfold maxLen at hpc
                        obtain ⟨Rp, op, hpa, hRp0, hpcells⟩ := hp3 (by intro e; have q := hl; rw [e] at q; simp at q; exact hne q)
                        have HPc := Lib.hid hpcells
                        have HPa := Lib.hid hpa
                        have HRp0 := Lib.hid hRp0
                        rw [hpa] at g41
                        clear hpa hpcells hp3 hl
                        go_upto_region 50 with fail
                        have hUo : (w5.alloc (.cells #[.int .i64 (sc : Int), .slice none 0 0] 53)).heap[w5.heap.size]? = some (.cells #[.int .i64 (sc : Int), .slice none 0 0] 53 (0, 0)) := heap_alloc_new w5 _
                        have hUz : (w5.alloc (.cells #[.int .i64 (sc : Int), .slice none 0 0] 53)).heap.size = w5.heap.size + 1 := by simp
                        have hEU : Ext w5 (w5.alloc (.cells #[.int .i64 (sc : Int), .slice none 0 0] 53)) := (Ext.refl w5).alloc _
                        generalize w5.alloc (.cells #[.int .i64 (sc : Int), .slice none 0 0] 53) = W6 at hUo hUz hEU ⊢
                        obtain ⟨U, hU⟩ : ∃ U, U = w5.heap.size := ⟨_, rfl⟩
                        obtain ⟨z, hz⟩ : ∃ z, z = W6.heap.size := ⟨_, rfl⟩
                        rw [← hU] at hUo hUz ⊢
                        have HE6 := Lib.hid (HE5.out.trans hEU)
                        have HUo := Lib.hid hUo
                        have HR6 := Lib.hid (HR5.out.ext hEU)
                        have hzz : z = U + 1 := by omega
                        have hRsU : Rs < U := by have := HR5.out.1; omega
                        have h3U : w3.heap.size ≤ U := by have := HE5.out.size; omega
                        have Hz6 := Lib.hid hz
                        have c41 := (hEU.cells B 41 hB5).trans g41
                        have hB6 := hEU.lt hB5
                        have hBU : B < U := by omega
                        clear hUo hUz hEU hU hz g41
                        go_wp2_with fail
                        go_loopw [27] (fun i wr => ∃ (j : Nat) (ao : Option Addr) (cv : Nat), j ≤ S.length ∧ i = .int .i64 (j : Int) ∧ wr.ownsRow z 50 2 (.slice ao j cv) j (plcs ((frs L.P S).take j)) ∧ wr.heap[U]? = some (.cells #[.int .i64 (sc : Int), .slice ao j cv] 53 (0, 0)) ∧ Frm (fun k => k = U ∨ z ≤ k) W6 wr) (fun i _ => S.length - (intOf i).toNat)
                        case atStart => exact ⟨0, none, 0, Nat.zero_le _, rfl, World.ownsRow_nil _ _ _ _, HUo.out, Frm.refl _ _⟩
                        case round =>
                          obtain ⟨j, ao, cv, hj, rfl, hown, hUr, hF⟩ := hrel
                          have hsz := hF.size
                          rw [← Hz6.out] at hsz
                          have hEr : Ext w3 wr := ext_frm HE6.out hF (by rintro k (rfl | q) <;> omega)
                          have hUlt : U < wr.heap.size := by omega
                          have hU0 : wr.cell? ⟨U, 0, none⟩ = some (.int .i64 (sc : Int)) := by rw [cell_of_row wr U 0 _ _ _ hUr]; rfl
                          have hU1 : wr.cell? ⟨U, 1, none⟩ = some (.slice ao j cv) := by rw [cell_of_row wr U 1 _ _ _ hUr]; rfl
                          have hSlt0 : ∀ k, bk ao = some k → z ≤ k ∧ k < wr.heap.size := fun k e => hown.lt k (by rw [own_bk]; exact e)
                          have HF := Lib.hid hF
                          have HEr := Lib.hid hEr
                          have hBr := hEr.lt HL3.out.lt
                          by_cases hlt : j < S.length
                          · have hjP : j < L.P.length := by rw [← Hl.out]; exact hlt
                            have x0 := (hF.cel HR6.out.1 (by rintro (q | q); omega; omega) (0 + j)).trans (HR6.out.2 j hlt)
                            obtain ⟨p0, -⟩ := HPc.out j hjP
                            replace p0 := (hEr.cells Rp _ HRp0.out).trans p0
                            have hRp := hEr.lt HRp0.out
                            have hRr := hF.lt HR6.out.1
                            have c41r := (hF.cel hB6 (by rintro (q | q) <;> omega) 41).trans c41
                            have HSq := Lib.hid (frs_succ Hl.out j hlt hjP)
                            obtain ⟨fx, hx⟩ : ∃ x, x = S[j] := ⟨_, rfl⟩
                            obtain ⟨c, hc⟩ : ∃ c, c = (L.P[j]).c := ⟨_, rfl⟩
                            rw [← hx] at x0 HSq
                            rw [← hc] at p0 HSq
                            clear hx hc
                            have hnU : ¬ bk ao = some U := fun e => by have := (hSlt0 U e).1; omega
                            have hnB : ¬ bk ao = some B := fun e => by have := (hSlt0 B e).1; omega
                            have hnR : ¬ bk ao = some Rp := fun e => by have := (hSlt0 Rp e).1; have := HRp0.out; omega
                            have hnS : ¬ bk ao = some Rs := fun e => by have := (hSlt0 Rs e).1; omega
                            have hSlt : ∀ k, bk ao = some k → k < wr.heap.size := fun k e => (hSlt0 k e).2
                            clear hF hEr
                            go_upto_region 53 with fail
                            refine wp_region_growP [242, 243, 244, 245, 246, 247, 248, 249, 250, 251, 252, 253, 254, 255, 256, 257] [fun x _ => x = .pointer (some ⟨U, 1, none⟩), fun x _ => x = .slice ao j cv, fun x _ => x = .pointer (some ⟨B, 41, none⟩), fun x _ => x = .slice (some ⟨Rp, op, none⟩) L.P.length L.pc, fun x _ => x = .int .i64 (j : Int), fun x _ => x = .pointer (some ⟨Rp, op + j * 2, none⟩), fun x _ => x = .pointer (some ⟨Rp, op + j * 2, none⟩), fun x _ => x = .string ⟨c.toArray⟩, fun x _ => x = .slice (some ⟨Rs, 0, none⟩) S.length scap, fun x _ => x = .int .i64 (j : Int), fun x _ => x = .pointer (some ⟨Rs, 0 + j, none⟩), fun x _ => x = .string ⟨fx.toArray⟩, fun x _ => x = .agg #[.string ⟨c.toArray⟩, .string ⟨fx.toArray⟩], TwoS (fun k => bk ao = some k) c fx, RowS z ao j (plcs ((frs L.P S).take j) ++ [.string ⟨c.toArray⟩, .string ⟨fx.toArray⟩]) wr.heap.size, fun x _ => x = .pointer (some ⟨U, 1, none⟩)] (fun k => bk ao = some k) 14 1 (by kernel_rfl) (by kernel_rfl) (by kernel_rfl) (by kernel_rfl) ?_ ?_ ?_ ?_ ?_
                            · refine ⟨?_, ?_, ?_, ?_, ?_, ?_, ?_, ?_, ?_, ?_, ?_, ?_, ?_, ?_, ?_, ?_, trivial⟩
                              · exact fun _ _ _ _ h _ => h
                              · exact fun _ _ _ _ h _ => h
                              · exact fun _ _ _ _ h _ => h
                              · exact fun _ _ _ _ h _ => h
                              · exact fun _ _ _ _ h _ => h
                              · exact fun _ _ _ _ h _ => h
                              · exact fun _ _ _ _ h _ => h
                              · exact fun _ _ _ _ h _ => h
                              · exact fun _ _ _ _ h _ => h
                              · exact fun _ _ _ _ h _ => h
                              · exact fun _ _ _ _ h _ => h
                              · exact fun _ _ _ _ h _ => h
                              · exact fun _ _ _ _ h _ => h
                              · exact fun _ _ _ _ h hF => TwoS.frm h hF
                              · exact fun h => absurd rfl h
                              · exact fun _ _ _ _ h _ => h
                            · exact fun _ _ _ h hE => RowS.ext h hE
                            · refine ⟨?_, ?_, ?_, ?_, ?_, ?_, ?_, ?_, ?_, ?_, ?_, ?_, ?_, ?_, ?_, ?_, trivial⟩
                              · intro _ a w hE hF hD K hK
                                exact gs_val rfl (yr_field rfl ((hF 26 (fr_of rfl)).trans rfl) (by go_simp)) (hK _ _ rfl (Ext.refl _))
                              · intro _ a w hE hF hD K hK
                                have u242 : a.eval (.tmp 242) = .pointer (some ⟨U, 1, none⟩) := hD 0 (by kernel_rfl)
                                exact gs_val rfl (yr_load rfl u242 (ld_plu _ _ _ ((hE.cel hUlt hnU 1).trans hU1))) (hK _ _ rfl (Ext.refl _))
                              · intro _ a w hE hF hD K hK
                                exact gs_val rfl (yr_field rfl ((hF 5 (fr_of rfl)).trans rfl) (by go_simp)) (hK _ _ rfl (Ext.refl _))
                              · intro _ a w hE hF hD K hK
                                have u244 : a.eval (.tmp 244) = .pointer (some ⟨B, 41, none⟩) := hD 2 (by kernel_rfl)
                                exact gs_val rfl (yr_load rfl u244 (ld_plu _ _ _ ((hE.cel hBr hnB 41).trans c41r))) (hK _ _ rfl (Ext.refl _))
                              · intro _ a w hE hF hD K hK
                                exact gs_val rfl (yr_move rfl ((hF 27 (fr_of rfl)).trans rfl)) (hK _ _ rfl (Ext.refl _))
                              · intro _ a w hE hF hD K hK
                                have u245 : a.eval (.tmp 245) = .slice (some ⟨Rp, op, none⟩) L.P.length L.pc := hD 3 (by kernel_rfl)
                                have u246 : a.eval (.tmp 246) = .int .i64 (j : Int) := hD 4 (by kernel_rfl)
                                exact gs_val rfl (yr_idxa rfl u245 u246 (ix_pl Rp op _ _ j w hjP)) (hK _ _ rfl (Ext.refl _))
                              · intro _ a w hE hF hD K hK
                                have u247 : a.eval (.tmp 247) = .pointer (some ⟨Rp, op + j * 2, none⟩) := hD 5 (by kernel_rfl)
                                exact gs_val rfl (yr_field rfl u247 (by go_simp)) (hK _ _ rfl (Ext.refl _))
                              · intro _ a w hE hF hD K hK
                                have u248 : a.eval (.tmp 248) = .pointer (some ⟨Rp, op + j * 2, none⟩) := hD 6 (by kernel_rfl)
                                exact gs_val rfl (yr_load rfl u248 (ld_st _ _ _ ((hE.cel hRp hnR _).trans p0))) (hK _ _ rfl (Ext.refl _))
                              · intro _ a w hE hF hD K hK
                                exact gs_val rfl (yr_move rfl ((hF 25 (fr_of rfl)).trans rfl)) (hK _ _ rfl (Ext.refl _))
                              · intro _ a w hE hF hD K hK
                                exact gs_val rfl (yr_move rfl ((hF 27 (fr_of rfl)).trans rfl)) (hK _ _ rfl (Ext.refl _))
                              · intro _ a w hE hF hD K hK
                                have u250 : a.eval (.tmp 250) = .slice (some ⟨Rs, 0, none⟩) S.length scap := hD 8 (by kernel_rfl)
                                have u251 : a.eval (.tmp 251) = .int .i64 (j : Int) := hD 9 (by kernel_rfl)
                                exact gs_val rfl (yr_idxa rfl u250 u251 (ix_s5 Rs 0 _ _ j w hlt)) (hK _ _ rfl (Ext.refl _))
                              · intro _ a w hE hF hD K hK
                                have u252 : a.eval (.tmp 252) = .pointer (some ⟨Rs, 0 + j, none⟩) := hD 10 (by kernel_rfl)
                                exact gs_val rfl (yr_load rfl u252 (ld_st _ _ _ ((hE.cel hRr hnS _).trans x0))) (hK _ _ rfl (Ext.refl _))
                              · intro _ a w hE hF hD K hK
                                have u249 : a.eval (.tmp 249) = .string ⟨c.toArray⟩ := hD 7 (by kernel_rfl)
                                have u253 : a.eval (.tmp 253) = .string ⟨fx.toArray⟩ := hD 11 (by kernel_rfl)
                                exact gs_val rfl (yr_bld2 rfl u249 u253 (bld_plu _ _ w)) (hK _ _ rfl (Ext.refl _))
                              · intro _ a w hE hF hD K hK
                                have u254 : a.eval (.tmp 254) = .agg #[.string ⟨c.toArray⟩, .string ⟨fx.toArray⟩] := hD 12 (by kernel_rfl)
                                exact gs_mkE rfl (yr_bs1 rfl u254 (bs1_plu _ _ w)) (hK _ _ (TwoS.new hSlt hE.size _ _) ((Ext.refl _).alloc _))
                              · exact fun h => absurd rfl h
                              · intro _ a w hE hF hD K hK
                                exact gs_val rfl (yr_field rfl ((hF 26 (fr_of rfl)).trans rfl) (by go_simp)) (hK _ _ rfl (Ext.refl _))
                            · intro a w hE hF hD K hK
                              have u243 : a.eval (.tmp 243) = .slice ao j cv := hD 1 (by kernel_rfl)
                              have u255 : (TwoS (fun k => bk ao = some k) c fx) (a.eval (.tmp 255)) w := hD 13 (by kernel_rfl)
                              obtain ⟨g2, e20, k0, k1, k2, k3⟩ := u255
                              refine wp_append_lies w (.tmp 243) (.tmp 255) 27 rfl z 50 i0 (.agg #[.string ByteArray.empty, .string ByteArray.empty]) 2 32 Tryz.underlying27 Hi.out Hz0.out Hz1.out Hz2.out rfl (by decide) (.slice ao j cv) j (plcs ((frs L.P S).take j)) u243 (own_ext hown hE) ⟨g2, 0, none⟩ 1 1 [.string ⟨c.toArray⟩, .string ⟨fx.toArray⟩] e20 rfl (two_at k0 k1) (fun x hx => by simp at hx; rcases hx with rfl | rfl <;> rfl) (by decide) (by unfold maxLen; omega) (by omega) (by have := hE.size; omega) _ rfl ?_
                              intro g3 cap3 w3 hown3 hgrow3 hat3 hlt3
                              rw [own_bk] at hgrow3 hat3
                              exact hK _ _ ⟨g3, cap3, rfl, hown3, hat3.imp id (fun q => by rw [q]; exact hE.size)⟩ (grown_frm hgrow3)
                            intro vals wz hEz hRz
                            obtain ⟨-, -, -, -, -, -, -, -, -, -, -, -, -, -, h14, h15, -⟩ := hRz
                            obtain ⟨g3, cap3, e256, hown3, hat3⟩ := h14
                            have e257 : vals 15 = .pointer (some ⟨U, 1, none⟩) := h15
                            simp only [putF, Act.put, List.length_cons, List.length_nil, List.getD_cons_zero, List.getD_cons_succ, List.setIfInBounds_toArray, List.set_cons_zero, List.set_cons_succ, Nat.reduceAdd, e256, e257]
                            clear e256 e257
                            have GU := (hEz.block U hUlt hnU).trans hUr
                            refine wpAny_op (i := 16) (by kernel_rfl) rfl (by rfl) ?_
                            refine gs_store rfl rfl rfl rfl (st_plu _ _ _ _ _ _ (show wz.cell? ⟨U, 1, none⟩ = some (.slice ao j cv) from (hEz.cel hUlt hnU 1).trans hU1) (frz_obj GU 1)) ?_
                            refine wpAny_done (by kernel_rfl) ?_ _
                            simp only [Act.put, List.setIfInBounds_toArray, List.set_cons_zero, List.set_cons_succ]
                            have hg3 : z ≤ g3 := by
                              rcases hat3 with q | q
                              · exact (hSlt0 g3 q).1
                              · omega
                            have HO : Hid ((wz.setCell ⟨U, 1, none⟩ (.slice (some ⟨g3, 0, none⟩) (j + 1) cap3)).ownsRow z 50 2 (.slice (some ⟨g3, 0, none⟩) (j + 1) cap3) (j + 1) (plcs ((frs L.P S).take (j + 1)))) := by
                              rw [Hid, HSq.out]
                              exact own_frm hown3 (frm_set (B := U) (j := 1) _) (fun y hy e => by injection hy with hy; simp at hy; omega)
                            have HUq : Hid ((wz.setCell ⟨U, 1, none⟩ (.slice (some ⟨g3, 0, none⟩) (j + 1) cap3)).heap[U]? = some (.cells #[.int .i64 (sc : Int), .slice (some ⟨g3, 0, none⟩) (j + 1) cap3] 53 (0, 0))) := by
                              rw [Hid, heap_setCell_same wz U 1 _ _ _ GU]
                              rfl
                            have HFq : Hid (Frm (fun k => k = U ∨ z ≤ k) W6 (wz.setCell ⟨U, 1, none⟩ (.slice (some ⟨g3, 0, none⟩) (j + 1) cap3))) :=
                              HF.out.trans ((hEz.mono (fun k _ e => .inr (hSlt0 k e).1)).setCell (p := ⟨U, 1, none⟩) (.inl (.inl rfl)) _)
                            generalize wz.setCell ⟨U, 1, none⟩ (.slice (some ⟨g3, 0, none⟩) (j + 1) cap3) = W9 at HO HUq HFq ⊢
                            clear hown3 hat3 GU hEz hSlt0 hnU hnB hnR hSlt
                            go_wp2_with fail
                            go_roundw
                            case rel => exact ⟨j + 1, some ⟨g3, 0, none⟩, cap3, by omega, by go_num, HO.out, HUq.out, HFq.out⟩
                            case measure => simp [intOf]; omega
                          · obtain rfl : j = S.length := by omega
                            rw [List.take_of_length_le (by rw [frs_len Hl.out]; exact Nat.le_refl _)] at hown
                            have Hr := Lib.hid (HL3.out.ext hEr)
                            have c43 := (Hr.out.lcb.cells Hr.out.ok).2.2.2.1
                            have hown2 := Hr.out.oU
                            have HO := Lib.hid hown
                            obtain ⟨iu, hiu, hu0, hu1, hu2⟩ := info_parts infoUni
                            have Hiu := Lib.hid hiu
                            have Hu0 := Lib.hid hu0
                            have Hu1 := Lib.hid hu1
                            have Hu2 := Lib.hid hu2
                            have HSl := Lib.hid hSlt0
                            clear hiu hu0 hu1 hu2 hF hown hUr hSlt0
                            go_wp2_with (first
                              | (at_builtin; go_loud (refine wpList_append_lies _ rfl _ _ 28 rfl B 53 iu (.agg #[.int .i64 0, .slice none 0 0]) 2 32 Tryz.underlying28 Hiu.out Hu0.out Hu1.out Hu2.out rfl (by decide) (.slice L.ua L.U.length L.uc) L.U.length (uncs L.U) rfl (own_ext hown2 ((Ext.refl wr).alloc _)) ⟨wr.heap.size, 0, none⟩ 1 1 [_, _] rfl rfl (cell_two_new wr _ _ _) (fun y hy => by simp at hy; rcases hy with rfl | rfl <;> rfl) (by decide) (by unfold maxLen; omega) (by omega) (by simp; omega) _ rfl ?_; intro g3 cap3 w3' hown3 hgrow3 hat3 hlt3; rw [own_bk] at hgrow3 hat3; obtain ⟨G41, G42, G43, GF⟩ := obj_grown Hr.out ((Ext.refl wr).alloc _) hgrow3 (Hr.out.nB 2); have Gf := GF 43; clear GF)))
                            have hfl : (frs L.P S).length = S.length := frs_len Hl.out
                            have hx := Lib.hid ((Hr.out.ext ((Ext.refl wr).alloc (.cells #[.int .i64 (sc : Int), .slice ao S.length cv] 53))).app_U ⟨(sc : Int), ao, cv, frs L.P S⟩ (by rw [show unc ⟨(sc : Int), ao, cv, frs L.P S⟩ = [.int .i64 (sc : Int), .slice ao S.length cv] by unfold unc; rw [hfl]]; exact hown3) hgrow3 (hat3.imp id (fun q => Nat.le_of_eq q.symm))
                              (by show World.ownsRow _ B 50 2 (.slice ao (frs L.P S).length cv) (frs L.P S).length _; rw [hfl]; exact own_ext (own_mono HO.out (by omega)) ((Ext.refl wr).alloc _))
                              (fun y hy => by
                                have h1 := (HSl.out y hy).1
                                refine ⟨by omega, fun i e => ?_⟩
                                have := (HL3.out.blk_in i y e).2
                                omega))
                            have HEa := Lib.hid (HEr.out.trans ((Ext.refl wr).alloc (.cells #[.int .i64 (sc : Int), .slice ao S.length cv] 53)))
                            clear hown3 hgrow3 hat3 hlt3 G41 G42 G43 Gf c43 hown2 hfl
                            refine Met.intro ?_
                            refine hJ _ _ ⟨rfl, ?_⟩
                            refine ⟨_, { D with U := D.U ++ [⟨val A2, frs D.P S⟩] }, hx.out.1, ⟨(Frm.of_ext HEa.out).trans (hx.out.2.1.mono (fun k _ e => e.imp id (fun q => ⟨2, q⟩))), fun i y hy => ?_⟩, ⟨HD.out.nm, HD.out.N, HD.out.P, HD.out.O, ?_, HD.out.pt⟩, ?_⟩
                            · rcases hx.out.2.2 i y hy with q | q | q
                              · exact .inl q
                              · right; have := (HSl.out y q).1; omega
                              · right; have := HEa.out.size; omega
                            · have e1 : val A2 = sc := by
                                have := Hsc.out
                                unfold numMN at this
                                rw [Hok.out] at this
                                exact this
                              show (L.U ++ [(⟨(sc : Int), ao, cv, frs L.P S⟩ : Uni)]).map Uni.sf = ((D.U ++ [(⟨val A2, frs D.P S⟩ : UniD)]).map UniD.uni).map Uni.sf
                              rw [List.map_append, List.map_append, List.map_append, HD.out.U, e1, HD.out.P]
                              rfl
                            · rw [HAD.out, if_neg Hg.out]
                  · have c0 := (HL3.out.lcb.cells HL3.out.ok).2.2.2.2
                    have f0 := frz_obj HL3.out.obj 44
                    have hB := HL3.out.lt
                    go_wp2_with fail
                    refine Met.intro ?_
                    refine hJ _ _ ⟨rfl, ?_⟩
                    exact ⟨{ L with pt := T }, { D with pt := T }, (HL3.out.set_pt T).1, (HL3.out.set_pt T).2, ⟨HD.out.nm, HD.out.N, HD.out.P, HD.out.O, HD.out.U, rfl⟩, by rw [addL, if_neg (by decide), if_neg (by decide), if_neg (by decide), if_neg (by decide)]⟩
                · intro a' wc hinv
                  obtain ⟨ha, hcut⟩ := hinv
                  obtain ⟨f, hf⟩ : ∃ f : Nat → Value, ∀ k, a'.tmps.getD k undef = f k := ⟨_, fun _ => rfl⟩
                  simp only [hf] at ha
                  clear hf
                  subst ha
                  obtain ⟨L', D', hL', hS', hD', ha'⟩ := hcut
                  generalize wc = w4 at *
                  have hz' : DSz D' (at_ + 1) := Hz.out.add hlT hp9 ha'
                  obtain ⟨hf', hbk⟩ := hS'.far Hf.out HR3.out.1
                  have hR' := rds_blk HR3.out hbk
                  have hE' : Ext W w4 := hS'.ext HL3.out HE3.out hWB
                  have hrun' := HSome.out D' Hok.out ha'
                  have HI : Hid (∀ q d, (if p < 6 ∨ p = 9 then runL tl (p + 1) 0 (at_ + 1) D' (LS.drop (at_ + 1)) else runL tl p (c + 1) (at_ + 1) D' (LS.drop (at_ + 1))) = runL tl q d (at_ + 1) D' (LS.drop (at_ + 1)) → RPI s tl (LS.drop (at_ + 1)) B R q d (at_ + 1) w4) := fun q d e => ⟨L', D', hL', hf', hD', hz', e.symm.trans hrun'⟩
                  have HE' := Lib.hid hE'
                  have HR' := Lib.hid hR'
                  clear hL' hS' hD' ha' hz' hf' hbk hR' hE' hrun'
                  obtain ⟨tb, htb⟩ : ∃ tb : Bool, tb = decide (p < 6 ∨ p = 9) := ⟨_, rfl⟩
                  go_upto_region 57 with fail
                  go_cut [273] from 268 to 273 (fun x wx => x = .bool tb ∧ wx = w4)
                  case first =>
                    by_cases h6 : p < 6
                    · have c6 : decide ((p : Int) < 6) = true := by simp; omega
                      have hd : tb = true := by rw [htb]; simp [h6]
                      go_wp2_with fail
                      go_meet
                      exact ⟨by rw [hd], rfl⟩
                    · have c6 : decide ((p : Int) < 6) = false := by simp; omega
                      obtain ⟨c9, hc9⟩ : ∃ c9 : Bool, ((p : Int) == 9) = c9 := ⟨_, rfl⟩
                      have hd : tb = c9 := by
                        rw [htb, ← hc9, Bool.eq_iff_iff]
                        simp
                        omega
                      go_wp2_with fail
                      go_meet
                      exact ⟨by rw [hd], rfl⟩
                  case rest =>
                    obtain ⟨rfl, rfl⟩ := hcut
                    generalize wc = w4 at *
                    cases tb
                    · have hI := HI.out p (c + 1) (if_neg (fun q => by rw [decide_eq_true q] at htb; cases htb))
                      have hp9' : ¬ p = 9 := fun q => by rw [decide_eq_true (.inr q)] at htb; cases htb
                      have HIf := Lib.hid hI
                      clear hI htb
                      go_wp2_with fail
                      go_roundw
                      case rel => exact ⟨at_ + 1, p, c + 1, rfl, rfl, rfl, by omega, by omega, by omega, HE'.out, HR'.out, HIf.out⟩
                      case measure => simp [intOf]; omega
                    · have hI := HI.out (p + 1) 0 (if_pos (of_decide_eq_true htb.symm))
                      have HIf := Lib.hid hI
                      clear hI htb
                      go_wp2_with fail
                      go_roundw
                      case rel => exact ⟨at_ + 1, p + 1, 0, rfl, rfl, rfl, by omega, by omega, by omega, HE'.out, HR'.out, HIf.out⟩
                      case measure => simp [intOf]; omega
              · have HP := Lib.hid (HBad.out (of_decide_eq_true hed.symm))
                clear hed
                replace HthL := Lib.hid (there_frm HthL.out hRLl (S := fun _ => False) (Frm.of_ext HEv.out) id)
                replace HthP := Lib.hid (there_frm HthP.out hRPl (S := fun _ => False) (Frm.of_ext HEv.out) id)
                replace hRLl := HEv.out.lt hRLl
                replace hRPl := HEv.out.lt hRPl
                have q0 := (HEq.out.cells PQ 0 HQ.out.2.2).trans HQ.out.1
                have q1 := (HEq.out.cells PQ 1 HQ.out.2.2).trans HQ.out.2.1
                have hQl := HEq.out.lt HQ.out.2.2
                have HnX : Hid (∀ i, ¬ OthS (fun i k => (i = 3 ∧ k = RL) ∨ (i = 4 ∧ k = RP)) i PQ) := by
                  rintro i ⟨j, -, ⟨-, e⟩ | ⟨-, e⟩⟩ <;> omega
                have HLP := Lib.hid hLP
                go_upto_region 21 with fail
                have hnQ := HnX.out
                have hLP := HLP.out
                refine wp_region_growO [some 104, some 105, some 106, none, none, some 4] [fun x _ => x = .agg zeroV, fun x _ => x = .agg #[.int .i64 ((at_ + 1 : Nat) : Int), .int .i64 1], fun x _ => x = .int .i64 3, fun _ w => RL < w.heap.size ∧ w.rangeAt RL 0 LocD.zero.loc.vals, fun _ w => RP < w.heap.size ∧ w.rangeAt RP 0 [.int .i64 ((at_ + 1 : Nat) : Int), .int .i64 1], fun x _ => x = .int .i64 3] (fun i k => (i = 3 ∧ k = RL) ∨ (i = 4 ∧ k = RP)) 0 (by kernel_rfl) (by kernel_rfl) (by kernel_rfl) (by kernel_rfl) ?_ ?_ ?_
                · refine ⟨?_, ?_, ?_, ?_, ?_, ?_, trivial⟩
                  · exact fun _ _ _ h _ => h
                  · exact fun _ _ _ h _ => h
                  · exact fun _ _ _ h _ => h
                  · exact fun _ _ _ h hF => range_frm h hF (by rintro ⟨j, h1, ⟨q, -⟩ | ⟨-, q⟩⟩ <;> omega)
                  · exact fun _ _ _ h hF => range_frm h hF (by rintro ⟨j, h1, ⟨-, q⟩ | ⟨q, -⟩⟩ <;> omega)
                  · exact fun _ _ _ h _ => h
                · refine ⟨?_, ?_, ?_, ?_, ?_, ?_, trivial⟩
                  · intro a w hE hF hD K hK
                    exact gs_val rfl (yr_bld0 rfl (bld0_loc w)) (hK _ _ rfl (Frm.refl _ _))
                  · intro a w hE hF hD K hK
                    exact gs_val rfl (yr_load rfl ((hF 12 (fr_ofO rfl)).trans rfl) (ld_pos PQ 0 _ _ w ((hE.cel hQl (hnQ _) 0).trans q0) ((hE.cel hQl (hnQ _) 1).trans q1))) (hK _ _ rfl (Frm.refl _ _))
                  · intro a w hE hF hD K hK
                    exact gs_val rfl (yr_move rfl ((hF 8 (fr_ofO rfl)).trans rfl)) (hK _ _ rfl (Frm.refl _ _))
                  · intro a w hE hF hD K hK
                    have u104 : a.eval (.tmp 104) = .agg zeroV := hD 0 (by kernel_rfl)
                    exact gs_store rfl rfl ((hF 2 (fr_ofO rfl)).trans rfl) u104 (run_storeAt_mid w RL 0 30 zeroV (there_frm HthL.out hRLl hE (by rintro ⟨j, h1, ⟨rfl, -⟩ | ⟨-, q⟩⟩ <;> omega)) zero_info zero_one) (hK _ _ (range_set w RL LocD.zero.loc.vals (hE.lt hRLl) (there_frm HthL.out hRLl hE (by rintro ⟨j, h1, ⟨rfl, -⟩ | ⟨-, q⟩⟩ <;> omega))) (frm_sets w RL _ _ (.inl ⟨rfl, rfl⟩)))
                  · intro a w hE hF hD K hK
                    have u105 : a.eval (.tmp 105) = .agg #[.int .i64 ((at_ + 1 : Nat) : Int), .int .i64 1] := hD 1 (by kernel_rfl)
                    exact gs_store rfl rfl ((hF 3 (fr_ofO rfl)).trans rfl) u105 (run_storeAt_mid w RP 0 39 #[.int .i64 ((at_ + 1 : Nat) : Int), .int .i64 1] (there_frm HthP.out hRPl hE (by rintro ⟨j, h1, ⟨-, q⟩ | ⟨rfl, -⟩⟩ <;> omega)) (pos_info _ _) (pos_one _ _)) (hK _ _ (range_set w RP [.int .i64 ((at_ + 1 : Nat) : Int), .int .i64 1] (hE.lt hRPl) (there_frm HthP.out hRPl hE (by rintro ⟨j, h1, ⟨-, q⟩ | ⟨rfl, -⟩⟩ <;> omega))) (frm_sets w RP _ _ (.inr ⟨rfl, rfl⟩)))
                  · intro a w hE hF hD K hK
                    have u106 : a.eval (.tmp 106) = .int .i64 3 := hD 2 (by kernel_rfl)
                    exact gs_val rfl (yr_assign rfl u106) (hK _ _ rfl (Frm.refl _ _))
                intro vals wz hEz hRz
                obtain ⟨-, -, -, h3, h4, h5, -⟩ := hRz
                have e4 : vals 5 = .int .i64 3 := h5
                refine wpAny_done (by kernel_rfl) ?_ _
                simp only [putG, putD, Act.put, List.length_cons, List.length_nil, List.getD_cons_zero, List.getD_cons_succ, List.setIfInBounds_toArray, List.set_cons_zero, List.set_cons_succ, Nat.reduceAdd, e4]
                clear e4
                go_wp2_with fail
                refine bodyPost_ret (v := .tuple #[.agg zeroV, .agg #[.int .i64 ((at_ + 1 : Nat) : Int), .int .i64 1], .int .i64 3]) (results_c3 rfl rfl rfl rfl (run_loadVar_mid wz RL 0 30 LocD.zero.loc.vals _ h3.2 Tryz.underlying30 rfl (by kernel_rfl)) (run_loadVar_mid wz RP 0 39 [.int .i64 ((at_ + 1 : Nat) : Int), .int .i64 1] _ h4.2 Tryz.underlying39 rfl (by kernel_rfl))) rfl ⟨er3_out HP.out _, ?_⟩
                refine ext_frm (HE0.out.trans HEv.out) hEz ?_
                rintro k ⟨j, ⟨-, e⟩ | ⟨-, e⟩⟩ <;> omega
      · obtain rfl : at_ = m := by omega
        obtain ⟨L, D, -, -, -, -, hr⟩ := hI
        have hP : parL s = .er 4 0 := by rw [← hr, List.drop_of_length_le (by rw [HLl.out]; omega)]; exact run_end h10
        have HP := Lib.hid hP
        clear hr hP hRr hEr
        obtain ⟨zl, hzl⟩ : ∃ zl, zl = LocD.zero.loc.vals := ⟨_, rfl⟩
        have hze : zeroV = zl.toArray := by rw [hzl]; rfl
        have hzb : ∀ w, (Instr.build 30 #[]).run Tryz.prog w = .ok (.agg zl.toArray) w := fun w => by rw [← hze]; exact bld0_loc w
        have hzi : (Tryz.prog.info? 30).map (·.size) = some zl.toArray.size := by rw [← hze]; exact zero_info
        have hzi2 : (Tryz.prog.info? 30).map (·.size) = some zl.length := by rw [hzi]; simp
        have hzo : zl.toArray.all (·.oneCell') = true := by rw [← hze]; exact zero_one
        have HthLv := Lib.hid (there_frm HthL.out hRLl (S := fun _ => False) (Frm.of_ext HEv.out) id)
        have HthPv := Lib.hid (there_frm HthP.out hRPl (S := fun _ => False) (Frm.of_ext HEv.out) id)
        have hRLv := HEv.out.lt hRLl
        have hRPv := HEv.out.lt hRPl
        rw [hze] at HthLv
        have Hze := Lib.hid hze
        clear hze hzl
        go_wp2_with (first
          | fail
          | ((with_reducible refine wpList_bldz (v := .agg zl.toArray) (o := ⟨some 55, _, _, _, _, _⟩) 30 _ rfl rfl ?he ?hz ?_); (case he => exact rfl); (case hz => exact hzb _))
          | ((with_reducible refine wpList_store_mid (op := ⟨none, .store 30 (.tmp 2) (.tmp 55), _, _, _, _⟩) rfl 30 _ _ rfl RL 0 zl.toArray ?hx ?hy HthLv.out hzi hzo ?_); (case hx => exact rfl); (case hy => exact rfl); have hsL := range_set wo RL zl hRLv HthLv.out; have hfL := frm_sets (S := fun k => k = RL) wo RL zl 0 rfl; generalize wo.setCells RL 0 zl = vc at hsL hfL ⊢)
          | ((with_reducible refine wpList_store_mid (op := ⟨none, .store 39 (.tmp 3) _, _, _, _, _⟩) rfl 39 _ _ rfl RP 0 #[.int .i64 0, .int .i64 0] ?hx ?hy ?ht ?hi ?h1 ?_); (case hx => exact rfl); (case hy => exact rfl); (case ht => exact there_frm HthPv.out hRPv hfL (fun e => hLP e.symm)); (case hi => exact pos_info _ _); (case h1 => exact pos_one _ _); have hsP := range_set vc RP [.int .i64 0, .int .i64 0] (hfL.lt hRPv) (there_frm HthPv.out hRPv hfL (fun e => hLP e.symm)); have hfP := frm_sets (S := fun k => k = RP) vc RP [.int .i64 0, .int .i64 0] 0 rfl; replace hsL := range_frm hsL hfP (fun e => hLP e); generalize vc.setCells RP 0 [.int .i64 0, .int .i64 0] = vd at hsL hsP hfP ⊢))
        refine bodyPost_ret (v := .tuple #[.agg zl.toArray, .agg #[.int .i64 0, .int .i64 0], .int .i64 4]) (results_c3 rfl rfl rfl rfl (run_loadVar_mid vd RL 0 30 zl _ hsL.2 Tryz.underlying30 rfl hzi2) (run_loadVar_mid vd RP 0 39 [.int .i64 0, .int .i64 0] _ hsP.2 Tryz.underlying39 rfl (by kernel_rfl))) rfl ⟨?_, ?_⟩
        · rw [← Hze.out]; exact er4_out HP.out _
        · exact ext_frm (ext_frm (HE0.out.trans HEv.out) hfL (fun k e => by omega)) hfP (fun k e => by omega)
    · obtain rfl : st = 10 := by omega
      obtain ⟨L, D, hL, hf, hD, hz, hrun⟩ := hI
      by_cases hend : at_ < m
      · have hP : parL s = .er 3 (at_ + 1) := by rw [← hrun]; exact run_more (Nat.le_refl _) (.inr (by intro e; have := congrArg List.length e; rw [List.length_drop, HLl.out] at this; simp at this; omega))
        have HP := Lib.hid hP
        have tE : decide ((at_ : Int) < (m : Int)) = true := by simp; omega
        clear hL hf hD hz hrun hP hRr hEr
        obtain ⟨zl, hzl⟩ : ∃ zl, zl = LocD.zero.loc.vals := ⟨_, rfl⟩
        have hze : zeroV = zl.toArray := by rw [hzl]; rfl
        have hzb : ∀ w, (Instr.build 30 #[]).run Tryz.prog w = .ok (.agg zl.toArray) w := fun w => by rw [← hze]; exact bld0_loc w
        have hzi : (Tryz.prog.info? 30).map (·.size) = some zl.toArray.size := by rw [← hze]; exact zero_info
        have hzi2 : (Tryz.prog.info? 30).map (·.size) = some zl.length := by rw [hzi]; simp
        have hzo : zl.toArray.all (·.oneCell') = true := by rw [← hze]; exact zero_one
        have HthLv := Lib.hid (there_frm HthL.out hRLl (S := fun _ => False) (Frm.of_ext HEv.out) id)
        have HthPv := Lib.hid (there_frm HthP.out hRPl (S := fun _ => False) (Frm.of_ext HEv.out) id)
        have hRLv := HEv.out.lt hRLl
        have hRPv := HEv.out.lt hRPl
        rw [hze] at HthLv
        have Hze := Lib.hid hze
        clear hze hzl
        go_wp2_with (first
          | fail
          | ((with_reducible refine wpList_bldz (v := .agg zl.toArray) (o := ⟨some 284, _, _, _, _, _⟩) 30 _ rfl rfl ?he ?hz ?_); (case he => exact rfl); (case hz => exact hzb _))
          | ((with_reducible refine wpList_store_mid (op := ⟨none, .store 30 (.tmp 2) (.tmp 284), _, _, _, _⟩) rfl 30 _ _ rfl RL 0 zl.toArray ?hx ?hy HthLv.out hzi hzo ?_); (case hx => exact rfl); (case hy => exact rfl); have hsL := range_set wo RL zl hRLv HthLv.out; have hfL := frm_sets (S := fun k => k = RL) wo RL zl 0 rfl; generalize wo.setCells RL 0 zl = vc at hsL hfL ⊢)
          | ((with_reducible refine wpList_store_mid (op := ⟨none, .store 39 (.tmp 3) _, _, _, _, _⟩) rfl 39 _ _ rfl RP 0 #[.int .i64 ((at_ : Int) + 1), .int .i64 1] ?hx ?hy ?ht ?hi ?h1 ?_); (case hx => exact rfl); (case hy => exact rfl); (case ht => exact there_frm HthPv.out hRPv hfL (fun e => hLP e.symm)); (case hi => exact pos_info _ _); (case h1 => exact pos_one _ _); have hsP := range_set vc RP [.int .i64 ((at_ : Int) + 1), .int .i64 1] (hfL.lt hRPv) (there_frm HthPv.out hRPv hfL (fun e => hLP e.symm)); have hfP := frm_sets (S := fun k => k = RP) vc RP [.int .i64 ((at_ : Int) + 1), .int .i64 1] 0 rfl; replace hsL := range_frm hsL hfP (fun e => hLP e); generalize vc.setCells RP 0 [.int .i64 ((at_ : Int) + 1), .int .i64 1] = vd at hsL hsP hfP ⊢))
        refine bodyPost_ret (v := .tuple #[.agg zl.toArray, .agg #[.int .i64 ((at_ : Int) + 1), .int .i64 1], .int .i64 3]) (results_c3 rfl rfl rfl rfl (run_loadVar_mid vd RL 0 30 zl _ hsL.2 Tryz.underlying30 rfl hzi2) (run_loadVar_mid vd RP 0 39 [.int .i64 ((at_ : Int) + 1), .int .i64 1] _ hsP.2 Tryz.underlying39 rfl (by kernel_rfl))) rfl ⟨?_, ?_⟩
        · rw [← Hze.out]; exact er3_out HP.out _
        · exact ext_frm (ext_frm (HE0.out.trans HEv.out) hfL (fun k e => by omega)) hfP (fun k e => by omega)
      · obtain rfl : at_ = m := by omega
        have tE : decide ((at_ : Int) < (at_ : Int)) = false := by simp
        rw [List.drop_of_length_le (by rw [HLl.out]; omega)] at hrun
        by_cases hla : la = []
        · have tla : (la == []) = true := by simpa using hla
          have tla2 : (la != []) = false := by simpa using hla
          have tla3 : la.isEmpty = true := by simpa using hla
          have hP : parL s = finL D := by rw [← hrun, Htl.out, tla]; exact run_fin (Nat.le_refl _)
          obtain ⟨sh1, sh2⟩ := hD.sh hz
          have HDs : Hid (DSz D 50000) := ⟨hz.nm, hz.pt, hz.N, hz.P, hz.O, hz.F, hz.ok, by have := hz.nP; omega, by have := hz.nO; omega, by have := hz.nU; omega⟩
          have hval := hD.valid
          have HL := Lib.hid hL
          have HD := Lib.hid hD
          have Hs1 := Lib.hid sh1
          have Hs2 := Lib.hid sh2
          have HVo := Lib.hid hL.lcv
          have hRo := hL.lcb.2
          have hIL := loc_size hL.ok
          clear hL hf hD hz hrun hRr hEr sh1 sh2 hla
          rcases Bool.eq_false_or_eq_true (validLB L) with hv | hv
          · have HP : Hid (parL s = .ok D) := by rw [Hid, hP]; unfold finL; rw [if_pos (by rw [← hval]; exact hv)]
            have HVl := Lib.hid hv
            clear hv hP hval
            go_upto_region 64 with (first
              | (refine load_midg (by rfl) 30 _ rfl B 0 rfl L.vals _ hRo Tryz.underlying30 rfl hIL ?_)
              | (go_at_call 10; (with_reducible refine (rvalid_c L true _ HVo.out Hs1.out Hs2.out HVl.out).mono ?_); rintro e vb ⟨rfl, hEb⟩))
            have HLv := Lib.hid (HL.out.ext hEb)
            have HEv := Lib.hid (HEv.out.trans hEb)
            clear hEb hRo
            have hIL := loc_size HLv.out.ok
            have hI2 : (Tryz.prog.info? 30).map (·.size) = some L.vals.toArray.size := by rw [List.size_toArray]; exact hIL
            have h45 : L.vals.toArray.size = zeroV.size := by rw [List.size_toArray, Loc.len HLv.out.ok]; kernel_rfl
            have HthLv := Lib.hid (there_frm HthL.out hRLl (S := fun _ => False) (Frm.of_ext HEv.out) id)
            have HthPv := Lib.hid (there_frm HthP.out hRPl (S := fun _ => False) (Frm.of_ext HEv.out) id)
            have hRLv := HEv.out.lt hRLl
            have hRPv := HEv.out.lt hRPl
            rw [← h45] at HthLv
            have hoc : L.vals.toArray.all (·.oneCell') = true := all_oneCell_toArray (fun v hv => loc_one L v hv)
            have hRv := HLv.out.lcb.2
            clear h45
            go_wp2_with (first
              | (refine load_midg (by rfl) 30 _ rfl B 0 rfl L.vals _ hRv Tryz.underlying30 rfl hIL ?_)
              | ((with_reducible refine wpList_store_mid (op := ⟨none, .store 30 (.tmp 2) (.tmp 294), _, _, _, _⟩) rfl 30 _ _ rfl RL 0 L.vals.toArray ?hx ?hy HthLv.out hI2 hoc ?_); (case hx => exact rfl); (case hy => exact rfl); have hsL := range_set vb RL L.vals hRLv HthLv.out; have hfL := frm_sets (S := fun k => k = RL) vb RL L.vals 0 rfl; generalize vb.setCells RL 0 L.vals = vc at hsL hfL ⊢)
              | ((with_reducible refine wpList_store_mid (op := ⟨none, .store 39 (.tmp 3) _, _, _, _, _⟩) rfl 39 _ _ rfl RP 0 #[.int .i64 0, .int .i64 0] ?hx ?hy ?ht ?hi ?h1 ?_); (case hx => exact rfl); (case hy => exact rfl); (case ht => exact there_frm HthPv.out hRPv hfL (fun e => hLP e.symm)); (case hi => exact pos_info _ _); (case h1 => exact pos_one _ _); have hsP := range_set vc RP [.int .i64 0, .int .i64 0] (hfL.lt hRPv) (there_frm HthPv.out hRPv hfL (fun e => hLP e.symm)); have hfP := frm_sets (S := fun k => k = RP) vc RP [.int .i64 0, .int .i64 0] 0 rfl; replace hsL := range_frm hsL hfP (fun e => hLP e); generalize vc.setCells RP 0 [.int .i64 0, .int .i64 0] = vd at hsL hsP hfP ⊢))
            refine bodyPost_ret (v := .tuple #[.agg L.vals.toArray, .agg #[.int .i64 0, .int .i64 0], .int .i64 0]) (results_c3 rfl rfl rfl rfl (run_loadVar_mid vd RL 0 30 L.vals _ hsL.2 Tryz.underlying30 rfl hIL) (run_loadVar_mid vd RP 0 39 [.int .i64 0, .int .i64 0] _ hsP.2 Tryz.underlying39 rfl (by kernel_rfl))) rfl ⟨?_, ?_⟩
            · unfold parOut
              rw [HP.out]
              have hF : Frm (fun k => k = RL ∨ k = RP) vb vd := (hfL.mono (fun k _ e => .inl e)).trans (hfP.mono (fun k _ e => .inr e))
              refine ⟨L, HD.out, HDs.out, ?_, rfl⟩
              have hLb := HLv.out
              exact (hLb.frm hF (by rintro (e | e) <;> omega) (fun i x hx e => by have := (hLb.blk_in i x hx).1; rcases e with e | e <;> omega)).lcv
            · exact ext_frm (ext_frm (HE0.out.trans HEv.out) hfL (fun k e => by omega)) hfP (fun k e => by omega)
          · have HP : Hid (parL s = .er 1 0) := by rw [Hid, hP]; unfold finL; rw [if_neg (by rw [← hval, hv]; simp)]
            have HVl := Lib.hid hv
            clear hv hP hval
            go_upto_region 63 with (first
              | (refine load_midg (by rfl) 30 _ rfl B 0 rfl L.vals _ hRo Tryz.underlying30 rfl hIL ?_)
              | (go_at_call 10; (with_reducible refine (rvalid_c L false _ HVo.out Hs1.out Hs2.out HVl.out).mono ?_); rintro e vb ⟨rfl, hEb⟩))
            have HEv := Lib.hid (HEv.out.trans hEb)
            clear hEb hRo
            obtain ⟨zl, hzl⟩ : ∃ zl, zl = LocD.zero.loc.vals := ⟨_, rfl⟩
            have hze : zeroV = zl.toArray := by rw [hzl]; rfl
            have hzb : ∀ w, (Instr.build 30 #[]).run Tryz.prog w = .ok (.agg zl.toArray) w := fun w => by rw [← hze]; exact bld0_loc w
            have hzi : (Tryz.prog.info? 30).map (·.size) = some zl.toArray.size := by rw [← hze]; exact zero_info
            have hzi2 : (Tryz.prog.info? 30).map (·.size) = some zl.length := by rw [hzi]; simp
            have hzo : zl.toArray.all (·.oneCell') = true := by rw [← hze]; exact zero_one
            have HthLv := Lib.hid (there_frm HthL.out hRLl (S := fun _ => False) (Frm.of_ext HEv.out) id)
            have HthPv := Lib.hid (there_frm HthP.out hRPl (S := fun _ => False) (Frm.of_ext HEv.out) id)
            have hRLv := HEv.out.lt hRLl
            have hRPv := HEv.out.lt hRPl
            rw [hze] at HthLv
            have Hze := Lib.hid hze
            clear hze hzl
            go_wp2_with (first
              | fail
              | ((with_reducible refine wpList_bldz (v := .agg zl.toArray) (o := ⟨some 292, _, _, _, _, _⟩) 30 _ rfl rfl ?he ?hz ?_); (case he => exact rfl); (case hz => exact hzb _))
              | ((with_reducible refine wpList_store_mid (op := ⟨none, .store 30 (.tmp 2) (.tmp 292), _, _, _, _⟩) rfl 30 _ _ rfl RL 0 zl.toArray ?hx ?hy HthLv.out hzi hzo ?_); (case hx => exact rfl); (case hy => exact rfl); have hsL := range_set vb RL zl hRLv HthLv.out; have hfL := frm_sets (S := fun k => k = RL) vb RL zl 0 rfl; generalize vb.setCells RL 0 zl = vc at hsL hfL ⊢)
              | ((with_reducible refine wpList_store_mid (op := ⟨none, .store 39 (.tmp 3) _, _, _, _, _⟩) rfl 39 _ _ rfl RP 0 #[.int .i64 0, .int .i64 0] ?hx ?hy ?ht ?hi ?h1 ?_); (case hx => exact rfl); (case hy => exact rfl); (case ht => exact there_frm HthPv.out hRPv hfL (fun e => hLP e.symm)); (case hi => exact pos_info _ _); (case h1 => exact pos_one _ _); have hsP := range_set vc RP [.int .i64 0, .int .i64 0] (hfL.lt hRPv) (there_frm HthPv.out hRPv hfL (fun e => hLP e.symm)); have hfP := frm_sets (S := fun k => k = RP) vc RP [.int .i64 0, .int .i64 0] 0 rfl; replace hsL := range_frm hsL hfP (fun e => hLP e); generalize vc.setCells RP 0 [.int .i64 0, .int .i64 0] = vd at hsL hsP hfP ⊢))
            refine bodyPost_ret (v := .tuple #[.agg zl.toArray, .agg #[.int .i64 0, .int .i64 0], .int .i64 1]) (results_c3 rfl rfl rfl rfl (run_loadVar_mid vd RL 0 30 zl _ hsL.2 Tryz.underlying30 rfl hzi2) (run_loadVar_mid vd RP 0 39 [.int .i64 0, .int .i64 0] _ hsP.2 Tryz.underlying39 rfl (by kernel_rfl))) rfl ⟨?_, ?_⟩
            · rw [← Hze.out]; exact er1_out HP.out _
            · exact ext_frm (ext_frm (HE0.out.trans HEv.out) hfL (fun k e => by omega)) hfP (fun k e => by omega)
        · have tla : (la == []) = false := by simpa using hla
          have tla2 : (la != []) = true := by simpa using hla
          have tla3 : la.isEmpty = false := by simpa using hla
          have hP : parL s = .er 3 (at_ + 1) := by rw [← hrun]; exact run_more (Nat.le_refl _) (.inl (by rw [Htl.out, tla]; rfl))
          have HP := Lib.hid hP
          clear hL hf hD hz hrun hP hRr hEr hla
          obtain ⟨zl, hzl⟩ : ∃ zl, zl = LocD.zero.loc.vals := ⟨_, rfl⟩
          have hze : zeroV = zl.toArray := by rw [hzl]; rfl
          have hzb : ∀ w, (Instr.build 30 #[]).run Tryz.prog w = .ok (.agg zl.toArray) w := fun w => by rw [← hze]; exact bld0_loc w
          have hzi : (Tryz.prog.info? 30).map (·.size) = some zl.toArray.size := by rw [← hze]; exact zero_info
          have hzi2 : (Tryz.prog.info? 30).map (·.size) = some zl.length := by rw [hzi]; simp
          have hzo : zl.toArray.all (·.oneCell') = true := by rw [← hze]; exact zero_one
          have HthLv := Lib.hid (there_frm HthL.out hRLl (S := fun _ => False) (Frm.of_ext HEv.out) id)
          have HthPv := Lib.hid (there_frm HthP.out hRPl (S := fun _ => False) (Frm.of_ext HEv.out) id)
          have hRLv := HEv.out.lt hRLl
          have hRPv := HEv.out.lt hRPl
          rw [hze] at HthLv
          have Hze := Lib.hid hze
          clear hze hzl
          go_wp2_with (first
            | fail
            | ((with_reducible refine wpList_bldz (v := .agg zl.toArray) (o := ⟨some 284, _, _, _, _, _⟩) 30 _ rfl rfl ?he ?hz ?_); (case he => exact rfl); (case hz => exact hzb _))
            | ((with_reducible refine wpList_store_mid (op := ⟨none, .store 30 (.tmp 2) (.tmp 284), _, _, _, _⟩) rfl 30 _ _ rfl RL 0 zl.toArray ?hx ?hy HthLv.out hzi hzo ?_); (case hx => exact rfl); (case hy => exact rfl); have hsL := range_set wo RL zl hRLv HthLv.out; have hfL := frm_sets (S := fun k => k = RL) wo RL zl 0 rfl; generalize wo.setCells RL 0 zl = vc at hsL hfL ⊢)
            | ((with_reducible refine wpList_store_mid (op := ⟨none, .store 39 (.tmp 3) _, _, _, _, _⟩) rfl 39 _ _ rfl RP 0 #[.int .i64 ((at_ : Int) + 1), .int .i64 1] ?hx ?hy ?ht ?hi ?h1 ?_); (case hx => exact rfl); (case hy => exact rfl); (case ht => exact there_frm HthPv.out hRPv hfL (fun e => hLP e.symm)); (case hi => exact pos_info _ _); (case h1 => exact pos_one _ _); have hsP := range_set vc RP [.int .i64 ((at_ : Int) + 1), .int .i64 1] (hfL.lt hRPv) (there_frm HthPv.out hRPv hfL (fun e => hLP e.symm)); have hfP := frm_sets (S := fun k => k = RP) vc RP [.int .i64 ((at_ : Int) + 1), .int .i64 1] 0 rfl; replace hsL := range_frm hsL hfP (fun e => hLP e); generalize vc.setCells RP 0 [.int .i64 ((at_ : Int) + 1), .int .i64 1] = vd at hsL hsP hfP ⊢))
          refine bodyPost_ret (v := .tuple #[.agg zl.toArray, .agg #[.int .i64 ((at_ : Int) + 1), .int .i64 1], .int .i64 3]) (results_c3 rfl rfl rfl rfl (run_loadVar_mid vd RL 0 30 zl _ hsL.2 Tryz.underlying30 rfl hzi2) (run_loadVar_mid vd RP 0 39 [.int .i64 ((at_ : Int) + 1), .int .i64 1] _ hsP.2 Tryz.underlying39 rfl (by kernel_rfl))) rfl ⟨?_, ?_⟩
          · rw [← Hze.out]; exact er3_out HP.out _
          · exact ext_frm (ext_frm (HE0.out.trans HEv.out) hfL (fun k e => by omega)) hfP (fun k e => by omega)
end Go.Proofs.YtnhdmnhfllecgaaGreatDoor
