/- Locales: the walks of ContainsFunc over categories, where a category is sought. -/
import Derived.Test.YtnhdmnhfllecgaaGreatDoorQ08
import Derived.Test.YtnhdmnhfllecgaaGreatDoorQ06
import Derived.Test.YtnhdmnhfllecgaaGreatDoorQ01
namespace Go.Proofs.YtnhdmnhfllecgaaGreatDoor
set_option linter.unusedVariables false
set_option linter.unusedSimpArgs false
open Go.RowKit

set_option maxRecDepth 100000 in
theorem cat1_c (qc qr pc : List UInt8) (D : Nat) (b : Bool) (w : World) (hD : w.cell? ⟨D, 0, none⟩ = some (.string ⟨pc.toArray⟩)) (hDl : D < w.heap.size) (hb : (qc == pc) = b) :
    Calls Tryz.prog 33 #[.agg #[.string ⟨qc.toArray⟩, .string ⟨qr.toArray⟩], .pointer (some ⟨D, 0, none⟩)] w fun e w' => e = .returned (.bool b) ∧ Ext w w' := by
  have hE : Ext w (w.alloc (.cells #[.string ⟨qc.toArray⟩, .string ⟨qr.toArray⟩] 50)) := (Ext.refl w).alloc _
  have hD2 := (hE.cells D 0 hDl).trans hD
  go_enter Tryz.func33, Tryz.ntmps33
  go_wp2_with fail
  go_ret
  exact ⟨rfl, hE⟩
set_option maxRecDepth 100000 in
set_option maxHeartbeats 1000000 in
theorem idxP_c (l : List Plu) (ao : Option Addr) (cap D : Nat) (pc : List UInt8) (w : World) (hl : PlV ao cap l w) (hD : w.cell? ⟨D, 0, none⟩ = some (.string ⟨pc.toArray⟩)) (hDl : D < w.heap.size) :
    Calls Tryz.prog 81 #[.slice ao l.length cap, .func (.func 33) #[] #[.pointer (some ⟨D, 0, none⟩)]] w fun e w' => (∃ z : Int, e = .returned (.int .i64 z) ∧ decide (0 ≤ z) = l.any (fun p => p.c == pc)) ∧ Ext w w' := by
  have hlen := hl.1
  have hcap := hl.2.1
  unfold maxLen at hcap
  have HL := Lib.hid hl.2.2
  have HD := Lib.hid hD
  obtain ⟨G, hG⟩ : ∃ G, G = l.any (fun p => p.c == pc) := ⟨_, rfl⟩
  have HP := Lib.hid hG
  rw [← hG]
  clear hl hG hD
  go_enter Tryz.func81, Tryz.ntmps81
  go_wp2_with fail
  go_loopw [8] (fun i wr => ∃ j : Nat, j ≤ l.length ∧ i = .int .i64 (j : Int) ∧ Hid ((l.take j).any (fun p => p.c == pc) = false) ∧ Ext w wr) (fun i _ => l.length - (intOf i).toNat)
  case atStart => exact ⟨0, Nat.zero_le _, rfl, rfl, Ext.refl _⟩
  case round =>
    obtain ⟨j, hj, rfl, Hall, hE⟩ := hrel
    by_cases hlt : j < l.length
    · obtain ⟨R2, of2, rfl, hR0, hc⟩ := HL.out (by rintro rfl; simp at hlt)
      obtain ⟨c0, c1⟩ := hc j hlt
      replace c0 := (hE.cells _ _ hR0).trans c0
      replace c1 := (hE.cells _ _ hR0).trans c1
      have Hs : Hid ((l.take (j + 1)).any (fun p => p.c == pc) = ((l.take j).any (fun p => p.c == pc) || (l[j].c == pc))) := by rw [Hid, List.take_succ_eq_append_getElem hlt, List.any_append]; simp
      have hmem : l[j] ∈ l := List.getElem_mem _
      have HDr : Hid (wr.cell? ⟨D, 0, none⟩ = some (.string ⟨pc.toArray⟩)) := (hE.cells _ _ hDl).trans HD.out
      have hDr := hE.lt hDl
      obtain ⟨p, hp⟩ : ∃ p, p = l[j] := ⟨_, rfl⟩
      rw [← hp] at c0 c1 Hs hmem
      clear hp hc
      obtain ⟨qc, qr⟩ := p
      simp only at c0 c1 Hs
      rcases Bool.eq_false_or_eq_true (qc == pc) with hq | hq
      · have HV : Hid (G = true) := by rw [Hid, HP.out, List.any_eq_true]; exact ⟨_, hmem, hq⟩
        have Hq := Lib.hid hq
        clear hq hmem
        go_wp2_with (first
          | (go_at_call 33; (with_reducible refine (cat1_c qc qr pc D true _ HDr.out hDr Hq.out).mono ?_); rintro e w1 ⟨rfl, hE1⟩))
        go_ret
        exact ⟨⟨(j : Int), rfl, by rw [HV.out]; simp⟩, hE.trans hE1⟩
      · have Hq := Lib.hid hq
        have Hn : Hid ((l.take (j + 1)).any (fun p => p.c == pc) = false) := by rw [Hid, Hs.out, Hall.out, hq]; rfl
        clear hq hmem
        go_wp2_with (first
          | (go_at_call 33; (with_reducible refine (cat1_c qc qr pc D false _ HDr.out hDr Hq.out).mono ?_); rintro e w1 ⟨rfl, hE1⟩))
        go_roundw
        case rel => exact ⟨j + 1, by omega, by go_num, Hn, hE.trans hE1⟩
        case measure => simp [intOf]; omega
    · obtain rfl : j = l.length := by omega
      have HV : Hid (G = false) := by rw [Hid, HP.out]; have := Hall.out; rwa [List.take_length] at this
      go_wp2_with fail
      go_ret
      exact ⟨⟨-1, rfl, by rw [HV.out]; rfl⟩, hE⟩
theorem conP_c (l : List Plu) (ao : Option Addr) (cap D : Nat) (pc : List UInt8) (b : Bool) (w : World) (hl : PlV ao cap l w) (hD : w.cell? ⟨D, 0, none⟩ = some (.string ⟨pc.toArray⟩)) (hDl : D < w.heap.size) (hb : l.any (fun p => p.c == pc) = b) :
    Calls Tryz.prog 32 #[.slice ao l.length cap, .func (.func 33) #[] #[.pointer (some ⟨D, 0, none⟩)]] w fun e w' => e = .returned (.bool b) ∧ Ext w w' := by
  have HC := Lib.hid (idxP_c l ao cap D pc w hl hD hDl)
  rw [hb] at HC
  clear hl hD hb
  go_enter Tryz.func32, Tryz.ntmps32
  go_wp2_with (first
    | (go_at_call 81; (with_reducible refine HC.out.mono ?_); rintro e w1 ⟨⟨z, rfl, hz⟩, hE1⟩))
  all_goals
    go_ret
    exact ⟨by rw [← hz]; rfl, hE1⟩
theorem PlV.take {ao : Option Addr} {cap : Nat} {l : List Plu} {w : World} (h : PlV ao cap l w) (j : Nat) (hj : j ≤ l.length) : PlV ao cap (l.take j) w := by
  have e : (l.take j).length = j := by rw [List.length_take]; omega
  refine ⟨by rw [e]; have := h.1; omega, h.2.1, fun hne => ?_⟩
  obtain ⟨R, off, rfl, hR, hc⟩ := h.2.2 (by rintro rfl; simp at hne)
  refine ⟨R, off, rfl, hR, fun i hi => ?_⟩
  have hi2 : i < l.length := by omega
  have := hc i hi2
  rw [List.getElem_take]
  exact this
end Go.Proofs.YtnhdmnhfllecgaaGreatDoor
/- Patterns: the walk of ValidNames. -/
namespace Go.Proofs.YtnhdmnhfllecgaaGreatDoor
set_option linter.unusedVariables false
set_option linter.unusedSimpArgs false
open Go.RowKit Go.Maps

theorem ok_all {N : Nms} (h : ∀ k : Int, (k = 4 ∨ k = 5 ∨ k = 7 ∨ k = 8 ∨ k = 13) → nmsB 30 (lstK N k) = true) : nmOk N = true := by
  unfold nmOk
  rw [show nmsB 30 N.mo = true from h 5 (by decide), show nmsB 30 N.sh = true from h 4 (by decide), show nmsB 30 N.da = true from h 8 (by decide), show nmsB 30 N.sd = true from h 7 (by decide), show nmsB 30 N.ha = true from h 13 (by decide)]
  rfl
theorem ok_no {N : Nms} {k : Int} (hk : k = 4 ∨ k = 5 ∨ k = 7 ∨ k = 8 ∨ k = 13) (h : nmsB 30 (lstK N k) = false) : nmOk N = false := by
  cases e : nmOk N with
  | false => rfl
  | true => rw [names_ok N e k] at h; cases h
theorem cfn_x (ws : List (List UInt8)) (s : List UInt8) (R off cap S j : Nat) (b : Bool) (w : World) (hw : RdS ws R off w) (hS : w.cell? ⟨S, 0, none⟩ = some (.string ⟨s.toArray⟩)) (hj : j ≤ ws.length) (hn : ws.length ≤ 1000) (hcap : ws.length ≤ cap) (hm : cap ≤ maxLen) (hb : preB (ws.take j) s = b) :
    Calls Tryz.prog 74 #[.slice (some ⟨R, off, none⟩) j cap, .func (.func 75) #[] #[.pointer (some ⟨S, 0, none⟩)]] w fun e w' => e = .returned (.bool b) ∧ w = w' := by
  have hl : (ws.take j).length = j := by rw [List.length_take]; omega
  have q := cfn_c (ws.take j) s R off cap S b w ⟨hw.1, fun i hi => by rw [hw.2 i (by omega), List.getElem_take]⟩ hS (by omega) (by omega) hm hb
  rw [hl] at q
  exact q
theorem name_l (s : List UInt8) (b : Bool) (w : World) (hs : s.length ≤ 2000000) (h : nameB 30 s = b) : Calls Tryz.prog 73 #[.string ⟨s.toArray⟩] w fun e w' => e = .returned (.bool b) ∧ w = w' := by
  rw [← h]; exact name_c s w (by omega)
theorem lstK_sub (N : Nms) (k : Int) : ∀ s ∈ lstK N k, s ∈ N.all := by
  intro s hs
  unfold Nms.all
  unfold lstK at hs
  simp only [List.mem_append]
  repeat' split at hs
  all_goals simp [hs]
theorem lstK_len {N : Nms} (hN : N.ok) (k : Int) : (lstK N k).length ≤ 12 := by
  obtain ⟨a, b, c, d, e⟩ := hN
  unfold lstK
  repeat' split
  all_goals omega
theorem nmsB_step (ws : List (List UInt8)) (j : Nat) (h : j < ws.length) (hI : nmsB 30 ws = nmsL 30 (ws.take j) (ws.drop j)) : nmsB 30 ws = (nameB 30 ws[j] && !preB (ws.take j) ws[j] && nmsL 30 (ws.take (j + 1)) (ws.drop (j + 1))) := by
  rw [hI, List.drop_eq_getElem_cons h, nmsL, List.take_succ_eq_append_getElem h]
set_option maxRecDepth 100000 in
set_option maxHeartbeats 2000000 in
theorem validnames_c (N : Nms) (hN : N.ok) (w : World) (hl : ∀ s ∈ N.all, s.length ≤ 2000000) : Calls Tryz.prog 28 #[.agg (sv N.all).toArray] w fun e w' => e = .returned (.bool (nmOk N)) ∧ Ext w w' := by
  have hI := names_size hN
  have hR : (w.alloc (.cells (sv N.all).toArray 26)).rangeAt w.heap.size 0 (sv N.all) := by
    intro j v hv
    rw [Nat.zero_add, World.cell?_alloc_new]
    simpa using hv
  have hE0 : Ext w (w.alloc (.cells (sv N.all).toArray 26)) := (Ext.refl w).alloc _
  have HN := Lib.hid hN
  have Hl := Lib.hid hl
  clear hN hl
  go_enter Tryz.func28, Tryz.ntmps28
  go_wp2_with (first
    | (refine wpList_load_mid rfl 26 _ rfl w.heap.size 0 rfl (sv N.all) _ hR Tryz.underlying26 rfl hI ?_)
    | (go_at_call 72; (with_reducible refine (lists_c (sv N.all).toArray _).mono ?_); rintro e w1 ⟨b, D, rfl, hown, hat, hBl, hcell, hE1⟩)
    | (at_range; refine wpList_range_own _ rfl _ 114 rfl 3 54 mkeyI Tryz.underlying114 _ b 5 D rfl hown ?_; intro w5 hrg0 hg5 hs5)
    | go_in)
  have hE5 : Ext w w5 := hE0.trans (hE1.trans (ext_grown_none (Ext.refl w1) hg5))
  obtain ⟨B, hB⟩ : ∃ B, (w.alloc (.cells (sv N.all).toArray 26)).heap.size = B := ⟨_, rfl⟩
  rw [hB] at hrg0 hat hBl hcell
  have hRd : RdS N.all B 0 w5 := by
    refine RdS.ext (w := w1) ⟨hBl, fun i hi => ?_⟩ (ext_grown_none (Ext.refl w1) hg5)
    rw [hcell, Nat.zero_add]
    simp [sv, hi]
  have HR : Hid (w5.ranges Tryz.prog 3 (slR B) b w1.heap.size 5 D (Maps.has D) (Maps.size D)) := hrg0
  have HRd := Lib.hid hRd
  have Hat := Lib.hid hat
  have hrw : w.heap.size ≤ w1.heap.size := (hE0.trans hE1).size
  have HK0 : Hid (∀ k : Int, (k = 4 ∨ k = 5 ∨ k = 7 ∨ k = 8 ∨ k = 13) → Maps.has D (.int .i64 k) = false → nmsB 30 (lstK N k) = true) := by
    intro k hk hh
    exfalso
    have h1 := Hat.out k .nil
    have h2 := Hat.out k (.agg [])
    rw [Maps.atKey_of_not_has hh] at h1 h2
    rcases hk with rfl | rfl | rfl | rfl | rfl <;> simp [insAt, lsJ] at h1
  clear hown hat hcell hg5 hs5 hrg0 hRd hR hI hE0 hE1 hB
  generalize w1.heap.size = r at HR hrw hBl ⊢
  have hBr : B < r := hBl
  go_frame
  go_loopw [10] (fun _ wr => ∃ left cnt, Hid (wr.ranges Tryz.prog 3 (slR B) b r 5 D left cnt) ∧ Ext w wr ∧ Hid (RdS N.all B 0 wr) ∧ Hid (∀ k : Int, (k = 4 ∨ k = 5 ∨ k = 7 ∨ k = 8 ∨ k = 13) → left (.int .i64 k) = false → nmsB 30 (lstK N k) = true)) (fun _ wr => wr.rangeLeft b r)
  case atStart => exact ⟨_, _, HR, hE5, HRd, HK0⟩
  case round =>
    obtain ⟨left, cnt, hr, hE, HRr, HK⟩ := hrel
    have hrg := hr.out
    go_wp2_with (first
      | (at_next; refine wpList_next_ranges _ rfl _ rfl 3 mkeyI (slR B) (fun x => Value.int .i64 x) (fun c : Option Addr × Nat × Nat => Value.slice c.1 c.2.1 c.2.2) (fun key kl hk => by obtain ⟨x, h, _⟩ := keyOf_int_inv Tryz.underlying3 hk; exact ⟨x, h⟩) (fun v y hv => slR_inv B v y hv) b r 5 D left cnt rfl hrg ?_ ?_
         rotate_left
         intro x c kl y w6 cnt1 hk hlk hv hat hrg1 hlt hg1 hs1 hen
         obtain ⟨x', hx', rfl, _⟩ := keyOf_int_inv Tryz.underlying3 hk
         obtain rfl : x = x' := by injection hx'
         obtain ⟨ao, n, cp⟩ := c
         obtain ⟨hkx, hao, hn, hcp⟩ := ls_entry Hat.out HN.out hv hat
         subst hao
         have hen2 : Sem.run Tryz.prog (Instr.entry (Value.pointer (some { block := r, off := 0 }))) w6 = Result.ok (Value.tuple #[Value.int IntKind.i64 x, Value.slice (some ⟨B, offK x, none⟩) n cp]) w6 := hen
         have Hkx := Lib.hid hkx
         have Hn := Lib.hid hn
         have Hcp := Lib.hid hcp
         have Hr1 := Lib.hid hrg1
         have Hlt : Hid (cnt1 < cnt) := hlt
         have hE6 : Ext w w6 := ext_grown_at hE hg1 hrw
         have HR6 : Hid (RdS N.all B 0 w6) := ⟨by rw [hs1]; exact HRr.out.1, fun i hi => by
           have e : w6.heap[B]? = wr.heap[B]? := hg1.block B HRr.out.1 (fun e => by injection e with e; exact absurd e (Nat.ne_of_lt hBr))
           have q := HRr.out.2 i hi
           unfold World.cell? at q ⊢
           rw [e]
           exact q⟩
         clear hk hlk hv hat hrg1 hlt hg1 hs1 hen hkx hn hcp
         rotate_right
         intro hc0 hl0)
      | go_in)
    all_goals first
      | (go_ret
         exact ⟨by rw [ok_all (fun k hk => HK.out k hk (hl0 _))]; rfl, hE⟩)
      | skip
    have hcpn : cp = n := Hcp.out
    subst hcpn
    obtain ⟨ws, hws⟩ : ∃ ws, ws = lstK N x := ⟨_, rfl⟩
    have hnw : cp = ws.length := by rw [hws]; exact Hn.out
    subst hnw
    have hw12 : ws.length ≤ 12 := by rw [hws]; exact lstK_len HN.out x
    have HRw : Hid (RdS ws B (offK x) w6) := by rw [Hid, hws]; exact names_at HN.out HR6.out Hkx.out
    have HLs : Hid (∀ s ∈ ws, s.length ≤ 2000000) := by rw [hws]; exact fun s hs => Hl.out s (lstK_sub N x s hs)
    have HW := Lib.hid hws
    clear hws Hn Hcp
    generalize offK x = off at HRw ⊢
    go_loopw [16] (fun i wy => ∃ j : Nat, j ≤ ws.length ∧ i = .int .i64 (j : Int) ∧ Hid (nmsB 30 ws = nmsL 30 (ws.take j) (ws.drop j)) ∧ Ext w6 wy) (fun i _ => ws.length - (intOf i).toNat)
    case atStart => exact ⟨0, Nat.zero_le _, rfl, rfl, Ext.refl _⟩
    case round =>
      obtain ⟨j, hj, rfl, HI, hEy⟩ := hrel
      by_cases hlt : j < ws.length
      · have hRy := HRw.out.ext hEy
        have c0 := hRy.2 j hlt
        have hBy := hRy.1
        have hls := HLs.out ws[j] (List.getElem_mem _)
        have HS := Lib.hid (nmsB_step ws j hlt HI.out)
        obtain ⟨s, hs⟩ : ∃ s, s = ws[j] := ⟨_, rfl⟩
        rw [← hs] at c0 hls HS
        clear hs
        have hEs : Ext wr (wr.alloc (.cells #[.string ⟨s.toArray⟩] 9)) := (Ext.refl wr).alloc _
        have hS0 : (wr.alloc (.cells #[.string ⟨s.toArray⟩] 9)).cell? ⟨wr.heap.size, 0, none⟩ = some (.string ⟨s.toArray⟩) := by rw [World.cell?_alloc_new]; rfl
        have HRs := Lib.hid (hRy.ext hEs)
        have hEw := Lib.hid (hEy.trans hEs)
        rcases Bool.eq_false_or_eq_true (nameB 30 s) with hnm | hnm
        · have Hnm := Lib.hid hnm
          rcases Bool.eq_false_or_eq_true (preB (ws.take j) s) with hpb | hpb
          · have Hpb := Lib.hid hpb
            have HV := Lib.hid (ok_no Hkx.out (by rw [← HW.out, HS.out, hnm, hpb]; rfl))
            clear hnm hpb
            go_wp2_with (first
              | (go_at_call 73; (with_reducible refine (name_l s true _ hls Hnm.out).mono ?_); rintro e w9 ⟨rfl, rfl⟩)
              | (go_at_call 74; (with_reducible refine (cfn_x ws s B off ws.length wr.heap.size j true _ HRs.out hS0 hj (by omega) (by omega) (by unfold maxLen; omega) Hpb.out).mono ?_); rintro e w9 ⟨rfl, rfl⟩))
            go_ret
            exact ⟨by rw [HV.out]; rfl, hE6.trans hEw.out⟩
          · have Hpb := Lib.hid hpb
            have HV : Hid (nmsB 30 ws = nmsL 30 (ws.take (j + 1)) (ws.drop (j + 1))) := by rw [Hid, HS.out, hnm, hpb]; rfl
            clear hnm hpb
            go_wp2_with (first
              | (go_at_call 73; (with_reducible refine (name_l s true _ hls Hnm.out).mono ?_); rintro e w9 ⟨rfl, rfl⟩)
              | (go_at_call 74; (with_reducible refine (cfn_x ws s B off ws.length wr.heap.size j false _ HRs.out hS0 hj (by omega) (by omega) (by unfold maxLen; omega) Hpb.out).mono ?_); rintro e w9 ⟨rfl, rfl⟩))
            go_roundw
            case rel => exact ⟨j + 1, by omega, by go_num, HV, hEw.out⟩
            case measure => simp [intOf]; omega
        · have Hnm := Lib.hid hnm
          have HV := Lib.hid (ok_no Hkx.out (by rw [← HW.out, HS.out, hnm]; rfl))
          clear hnm
          go_wp2_with (first
            | (go_at_call 73; (with_reducible refine (name_l s false _ hls Hnm.out).mono ?_); rintro e w9 ⟨rfl, rfl⟩))
          go_ret
          exact ⟨by rw [HV.out]; rfl, hE6.trans hEw.out⟩
      · obtain rfl : j = ws.length := by omega
        have HV : Hid (nmsB 30 ws = true) := by rw [Hid, HI.out, List.drop_length]; rfl
        go_wp2_with fail
        have hr8 := Hr1.out.kept (grown_ext hEy none) (by simp) (by simp)
        refine ⟨⟨_, _, hr8, hE6.trans hEy, HR6.out.ext hEy, ?_⟩, ?_⟩
        · intro k hk hh
          rw [Bool.and_eq_false_iff] at hh
          rcases hh with hh | hh
          · exact HK.out k hk hh
          · have := WideAt.sameKey_eq (by simpa using hh)
            injection this with _ this
            subst this
            rw [← HW.out]
            exact HV.out
        · rw [hr8.left_eq, hrg.left_eq]; exact Hlt.out
end Go.Proofs.YtnhdmnhfllecgaaGreatDoor
/- A slice of parts in a world: its cells. -/
namespace Go.Proofs.YtnhdmnhfllecgaaGreatDoor
set_option linter.unusedVariables false
set_option linter.unusedSimpArgs false
open Go.RowKit

/-- A readable row of parts. -/
def RdP (l : List Prt) (R off : Nat) (w : World) : Prop := R < w.heap.size ∧ ∀ i (h : i < l.length),
  w.cell? ⟨R, off + i * 3, none⟩ = some (.int .i64 l[i].k) ∧ w.cell? ⟨R, off + i * 3 + 1, none⟩ = some (.int .i64 l[i].w) ∧ w.cell? ⟨R, off + i * 3 + 2, none⟩ = some (.string ⟨l[i].t.toArray⟩)
theorem RdP.ext {l : List Prt} {R off : Nat} {w w' : World} (h : RdP l R off w) (hE : Ext w w') : RdP l R off w' := by
  refine ⟨hE.lt h.1, fun i hi => ?_⟩
  obtain ⟨a, b, c⟩ := h.2 i hi
  exact ⟨(hE.cells _ _ h.1).trans a, (hE.cells _ _ h.1).trans b, (hE.cells _ _ h.1).trans c⟩
/-- ao, n, cap: a slice of the parts l. -/
def PtV (ao : Option Addr) (cap : Nat) (l : List Prt) (w : World) : Prop :=
  l.length ≤ cap ∧ cap ≤ maxLen ∧ (l ≠ [] → ∃ R off, ao = some ⟨R, off, none⟩ ∧ RdP l R off w)
theorem PtV.ext {ao : Option Addr} {cap : Nat} {l : List Prt} {w w' : World} (h : PtV ao cap l w) (hE : Ext w w') : PtV ao cap l w' := by
  refine ⟨h.1, h.2.1, fun hl => ?_⟩
  obtain ⟨R, off, e, hR⟩ := h.2.2 hl
  exact ⟨R, off, e, hR.ext hE⟩
theorem PtV.nil (w : World) : PtV none 0 [] w := ⟨Nat.le_refl _, by decide, fun h => absurd rfl h⟩
theorem PtV.of_own {w : World} {base n : Nat} {e : TypeId} {ao : Option Addr} {cap : Nat} {l : List Prt} (h : w.ownsRow base e 3 (.slice ao n cap) n (pcs l)) (hn : n = l.length) : PtV ao cap l w := by
  subst hn
  obtain ⟨_, ⟨h1, h0⟩ | ⟨g, cap', cur, he, hb, hg, hc, hm, hs, ht⟩⟩ := h
  · have : l = [] := List.length_eq_zero_iff.1 h0
    subst this
    injection h1 with e1 e2 e3
    subst e1; subst e3
    exact PtV.nil w
  · injection he with e1 e2 e3
    subst e1; subst e3
    refine ⟨hc, hm, fun _ => ⟨g, 0, rfl, ?_, fun i hi => ?_⟩⟩
    · rcases Nat.lt_or_ge g w.heap.size with q | q
      · exact q
      · rw [Array.getElem?_eq_none q] at hg; cases hg
    · have e1 : ∀ j, j < l.length * 3 → cur[j]? = (pcs l)[j]? := by
        intro j hj
        rw [← ht, List.getElem?_take_of_lt hj, Array.getElem?_toList]
      have e2 : ∀ j, w.cell? ⟨g, j, none⟩ = cur[j]? := fun j => by simp [World.cell?, hg]
      obtain ⟨a, b, c⟩ := pcs_at l i hi
      rw [Nat.mul_comm 3 i] at a b c
      rw [Nat.zero_add]
      exact ⟨by rw [e2, e1 _ (by omega), a], by rw [e2, e1 _ (by omega), b], by rw [e2, e1 _ (by omega), c]⟩
end Go.Proofs.YtnhdmnhfllecgaaGreatDoor
