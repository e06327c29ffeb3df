/- Patterns: the walk of reader.read: names. -/
import Derived.Test.YticckkadmhklmaaGreatDoorK10
import Derived.Test.YticckkadmhklmaaGreatDoorK14
namespace Go.Proofs.YticckkadmhklmaaGreatDoor
set_option linter.unusedVariables false
set_option linter.unusedSimpArgs false
open Go.RowKit Go.Maps

theorem yr_len {a : Act} {w : World} {o : Oper} {x : Operand} {t : TypeId} {ao : Option Addr} {n c : Nat} {ot : TypeId} (hop : o.op = .call ⟨.builtin .len, #[x], #[t]⟩) (hot : o.type = 3) (hu : Tryz.prog.underlying t = some (.slice 9)) (hx : a.eval x = .slice ao n c) : (execOp a.eval o).run Tryz.prog w = .ok (.value (.int .i64 (n : Int))) w := by
  have hm : (#[x] : Array Operand).map a.eval = #[.slice ao n c] := by simp [hx]
  unfold execOp
  simp only [hop, resolve, hot, hm]
  simp [go_sem, hu]
theorem rd1_nam (N : Nms) (k wd : Int) (t s : List UInt8) (q : Option Prt) (hk : k = 4 ∨ k = 5 ∨ k = 7 ∨ k = 8 ∨ k = 13) :
    rd1 N ⟨k, wd, t⟩ q s = if namI (lstK N k) s < (lstK N k).length then some (((lstK N k).getD (namI (lstK N k) s) []).length, [(k, namI (lstK N k) s)]) else none := by
  rcases hk with rfl | rfl | rfl | rfl | rfl <;> rfl
theorem namI_at {l : List (List UInt8)} {s : List UInt8} {j : Nat} (hj : j < l.length) (h : ∀ i (hi : i < l.length), i < j → l[i].isPrefixOf s = false) (hp : l[j].isPrefixOf s = true) : namI l s = j := by
  unfold namI
  rw [List.findIdx_eq hj]
  exact ⟨hp, fun i hi => by simpa using h i (by omega) hi⟩
theorem namI_no {l : List (List UInt8)} {s : List UInt8} (h : ∀ i (hi : i < l.length), i < l.length → l[i].isPrefixOf s = false) : namI l s = l.length := by
  unfold namI
  rw [List.findIdx_eq_length]
  intro x hx
  obtain ⟨i, hi, rfl⟩ := List.getElem_of_mem hx
  rw [h i hi hi]
set_option maxRecDepth 100000 in
set_option maxHeartbeats 4000000 in
theorem read_nam (N : Nms) (hN : N.ok) (B b : Nat) (q0 : Option Prt) (q : Prt) (s t : List UInt8) (vs : List (Int × Nat)) (k wd : Int) (hk : k = 4 ∨ k = 5 ∨ k = 7 ∨ k = 8 ∨ k = 13) (w : World) (h : Rdr N B b s vs w) (hs : s.length ≤ 100000) (hvn : vs.length ≤ 1000) :
    Calls Tryz.prog 64 #[.pointer (some ⟨B, 0, none⟩), .agg #[.int .i64 k, .int .i64 wd, .string ⟨t.toArray⟩], pv q] w (RdPost N B b ⟨k, wd, t⟩ q0 s vs w) := by
  obtain ⟨c, D, n, hM, hD, hnn, hcl⟩ := h
  obtain ⟨qk, qw, qt⟩ := q
  have hE0 : Ext w ((w.alloc (.cells #[.int .i64 k, .int .i64 wd, .string ⟨t.toArray⟩] 38)).alloc (.cells #[.int .i64 qk, .int .i64 qw, .string ⟨qt.toArray⟩] 38)) := ((Ext.refl w).alloc _).alloc _
  have hM0 := hM.ext hE0
  have c40 := hM0.rest
  have f40 := hM0.free
  have cN := hM0.nms
  have ltB := hM0.lt
  have hI := names_size hN
  have HM := Lib.hid hM
  have HD := Lib.hid hD
  have HC := Lib.hid hcl
  have HN := Lib.hid hN
  have HKK := Lib.hid hk
  have HR := Lib.hid (rd1_nam N k wd t s q0 hk)
  have HLK : Hid (∀ (b' B' : Nat) (D' : DataW Unit) (W : World), W.ownsMap Tryz.prog 3 (slR B') b' 5 D' → (∀ (z : Int) zd, D'.atKey (.int .i64 z) zd = insAt (lsJ B') z zd) →
      Sem.run Tryz.prog (Instr.lookup 66 (.map (some b')) (.int .i64 k) false) W = .ok (.slice (some ⟨B', offK k, none⟩) (lstK N k).length (lstK N k).length) W) := fun b' B' D' W h1 h2 => lookup_ls h1 h2 hN hk
  have HNM : Hid (∀ (B' j : Nat) (W : World) (hj : j < (lstK N k).length), RdS N.all B' 0 W → W.cell? ⟨B', offK k + j, none⟩ = some (.string ⟨(lstK N k)[j].toArray⟩)) := fun B' j W hj h => (names_at HN.out h hk).2 j hj
  obtain ⟨ws, hws⟩ : ∃ ws, ws = lstK N k := ⟨_, rfl⟩
  obtain ⟨O, hO⟩ : ∃ O, O = offK k := ⟨_, rfl⟩
  have hw12 : ws.length ≤ 12 := by rw [hws]; exact lstK_len hN k
  rw [← hws] at HR
  rw [← hws, ← hO] at HLK HNM
  clear hM hD hcl hN hM0 hws hO
  have yk : ((w.alloc (.cells #[.int .i64 k, .int .i64 wd, .string ⟨t.toArray⟩] 38)).alloc (.cells #[.int .i64 qk, .int .i64 qw, .string ⟨qt.toArray⟩] 38)).cell? ⟨w.heap.size, 0, none⟩ = some (.int .i64 k) := by
    rw [World.cell?_alloc_lt _ _ _ (by simp), World.cell?_alloc_new]; rfl
  have yz : w.heap.size < ((w.alloc (.cells #[.int .i64 k, .int .i64 wd, .string ⟨t.toArray⟩] 38)).alloc (.cells #[.int .i64 qk, .int .i64 qw, .string ⟨qt.toArray⟩] 38)).heap.size := by simp; omega
  show Calls _ _ #[_, _, .agg #[.int .i64 qk, .int .i64 qw, .string ⟨qt.toArray⟩]] w _
  rcases hk with rfl | rfl | rfl | rfl | rfl
  · go_enter Tryz.func64, Tryz.ntmps64
    go_upto_region 28 with fail
    generalize (w.alloc (.cells #[.int .i64 4, .int .i64 wd, .string ⟨t.toArray⟩] 38)).alloc (.cells #[.int .i64 qk, .int .i64 qw, .string ⟨qt.toArray⟩] 38) = W at hE0 c40 f40 cN ltB yk yz ⊢
    obtain ⟨T, hT⟩ : ∃ T, w.heap.size = T := ⟨_, rfl⟩
    rw [hT] at yk yz ⊢
    refine wp_region_grow [119, 120, 121, 122, 123, 124, 125, 126, 127, 128] [fun x _ => x = .pointer (some ⟨B, 0, none⟩), fun x _ => x = .pointer (some ⟨B, 0, none⟩), fun x _ => x = .pointer (some ⟨B, 0, none⟩), fun x _ => x = .agg (sv N.all).toArray, LsR N, fun x _ => x = .pointer (some ⟨T, 0, none⟩), fun x _ => x = .int .i64 4, LsK N O ws.length, fun x _ => x = .int .i64 (ws.length : Int), fun x _ => x = .int .i64 0] 0 (by kernel_rfl) (by kernel_rfl) (by kernel_rfl) (by kernel_rfl) ?_ ?_ ?_
    · intro R hR
      simp only [List.mem_cons, List.not_mem_nil, or_false] at hR
      rcases hR with rfl | rfl | rfl | rfl | rfl | rfl | rfl | rfl | rfl | rfl
      all_goals first
        | exact fun _ _ _ h _ => h
        | exact fun _ _ _ h hE => LsR.ext h hE
        | exact fun _ _ _ h hE => LsK.ext h hE
    · refine ⟨?_, ?_, ?_, ?_, ?_, ?_, ?_, ?_, ?_, ?_, trivial⟩
      all_goals intro a w hE hF hD K hK
      · exact gs_val rfl (yr_move rfl ((hF 0 (fr_of rfl)).trans rfl)) (hK _ _ rfl (Ext.refl _))
      · have h1 : a.eval (.tmp 119) = .pointer (some ⟨B, 0, none⟩) := hD 0 (by kernel_rfl)
        exact gs_val rfl (yr_nil rfl h1) (hK _ _ rfl (Ext.refl _))
      · have h1 : a.eval (.tmp 120) = .pointer (some ⟨B, 0, none⟩) := hD 1 (by kernel_rfl)
        exact gs_val rfl (yr_field rfl h1 (by go_simp)) (hK _ _ rfl (Ext.refl _))
      · have h1 : a.eval (.tmp 121) = .pointer (some ⟨B, 0, none⟩) := hD 2 (by kernel_rfl)
        exact gs_val rfl (yr_load rfl h1 (run_loadAt_mid w B 0 _ _ _ (rangeAt_ext cN ltB hE) Tryz.underlying27 rfl hI)) (hK _ _ rfl (Ext.refl _))
      · have h1 : a.eval (.tmp 122) = .agg (sv N.all).toArray := hD 3 (by kernel_rfl)
        exact gs_call rfl (yr_call rfl rfl (show (#[Operand.tmp 122] : Array Operand).map a.eval = #[.agg (sv N.all).toArray] by simp [h1]) (by kernel_rfl)) (lists_R N w) hK
      · exact gs_val rfl (yr_field rfl ((hF 4 (fr_of rfl)).trans rfl) (by go_simp)) (hK _ _ rfl (Ext.refl _))
      · have h1 : a.eval (.tmp 124) = .pointer (some ⟨T, 0, none⟩) := hD 5 (by kernel_rfl)
        exact gs_val rfl (yr_load rfl h1 (ld_int _ _ _ ((hE.cells _ _ yz).trans yk))) (hK _ _ rfl (Ext.refl _))
      · have h1 : LsR N (a.eval (.tmp 123)) w := hD 4 (by kernel_rfl)
        have h2 : a.eval (.tmp 125) = .int .i64 4 := hD 6 (by kernel_rfl)
        obtain ⟨b5, B5, D5, e1, e2, e3, e4⟩ := h1
        exact gs_val rfl (yr_look rfl e1 h2 (HLK.out b5 B5 D5 w e2 e3)) (hK _ _ ⟨B5, rfl, e4⟩ (Ext.refl _))
      · have h1 : LsK N O ws.length (a.eval (.tmp 126)) w := hD 7 (by kernel_rfl)
        obtain ⟨B5, e1, e2⟩ := h1
        exact gs_val rfl (yr_len (ot := 3) rfl rfl Tryz.underlying59 e1) (hK _ _ rfl (Ext.refl _))
      · exact gs_val rfl (yr_move rfl rfl) (hK _ _ rfl (Ext.refl _))
    · intro vals w6 hE6 hR
      obtain ⟨h0, h1, h2, h3, h4, h5, h6, h7, h8, h9, -⟩ := hR
      obtain ⟨B5, e7, hRd⟩ := (show LsK N O ws.length (vals 7) w6 from h7)
      have e8 : vals 8 = .int .i64 (ws.length : Int) := h8
      have e9 : vals 9 = .int .i64 0 := h9
      have HRd := Lib.hid hRd
      have c46 := (hE6.cells _ _ ltB).trans c40
      have f46 := fun o => (hE6.frozens _ o ltB).trans (f40 o)
      have yk6 := (hE6.cells _ _ yz).trans yk
      have hE06 := hE0.trans hE6
      clear h0 h1 h2 h3 h4 h5 h6 h7 h8 h9 hRd yk
      refine wpAny_done (by kernel_rfl) ?_ _
      simp only [putF, Act.put, List.length_cons, List.length_nil, List.getD_cons_zero, List.getD_cons_succ, List.setIfInBounds_toArray, List.set_cons_zero, List.set_cons_succ, Nat.reduceAdd, e7, e8, e9]
      go_wp2_with fail
      go_loop [128] (fun i => ∃ j : Nat, j ≤ ws.length ∧ i = .int .i64 (j : Int) ∧ Hid (∀ i (hi : i < ws.length), i < j → ws[i].isPrefixOf s = false)) (fun i => ws.length - (intOf i).toNat)
      case atStart => exact ⟨0, Nat.zero_le _, rfl, fun i hi q => absurd q (Nat.not_lt_zero i)⟩
      case round =>
        obtain ⟨j, hj, rfl, Hall⟩ := hrel
        by_cases hlt : j < ws.length
        · have hcj := HNM.out B5 j w6 hlt HRd.out
          have Hat := Lib.hid (fun (q : ws[j].isPrefixOf s = true) => namI_at (s := s) hlt Hall.out q)
          have HS : Hid (ws[j].isPrefixOf s = false → ∀ i (hi : i < ws.length), i < j + 1 → ws[i].isPrefixOf s = false) := fun q i hi q2 => by
            by_cases e : i = j
            · subst e; exact q
            · exact Hall.out i hi (by omega)
          have HG : Hid ((ws.getD j []) = ws[j]) := by simp [Hid, List.getD, hlt]
          obtain ⟨x, hx⟩ : ∃ x, x = ws[j] := ⟨_, rfl⟩
          rw [← hx] at hcj Hat HS HG
          clear hx
          rcases Bool.eq_false_or_eq_true (x.isPrefixOf s) with hp | hp
          · have HRj : Hid (rd1 N ⟨4, wd, t⟩ q0 s = some (x.length, [(4, j)])) := by
              rw [Hid, HR.out, Hat.out hp, if_pos hlt, HG.out]
            have Hp := Lib.hid hp
            have hM6 := HM.out.ext hE06
            have hM7 := hM6.set HN.out (s' := s.drop x.length) (c' := c) 40 (.string ⟨(s.drop x.length).toArray⟩) (.inl ⟨rfl, rfl, rfl⟩)
            have HR7 : Hid (Rdr N B b (s.drop x.length) vs (w6.setCell ⟨B, 40, none⟩ (.string ⟨(s.drop x.length).toArray⟩))) := ⟨c, D, n, hM7, HD.out, hnn, HC.out⟩
            have HF7 : Hid (Frm (RdS2 B b) w (w6.setCell ⟨B, 40, none⟩ (.string ⟨(s.drop x.length).toArray⟩))) := Frm.put40 hE06 40 _
            obtain ⟨X, hX⟩ : ∃ X, X = s.drop x.length := ⟨_, rfl⟩
            rw [← hX] at HR7 HF7
            have HXX := Lib.hid hX
            have HX : Hid ((if true then s.drop x.length else s) = X) := hX.symm
            clear hp hM6 hM7 HS hX
            go_wp2_with (first
              | (go_at_call 90; (with_reducible refine (cut_l s x X true _ Hp.out HX.out).mono ?_); rintro e w1 ⟨rfl, rfl⟩)
              | (go_at_call 93; (with_reducible refine (set_c N HN.out B b X vs 4 j _ HR7.out (by decide) (by decide) (by omega) hvn).mono ?_); rintro e w9 ⟨rfl, hR9, hF9⟩; have HR9 := Lib.hid hR9; have HF9 := Lib.hid hF9; clear hR9 hF9))
            go_ret
            exact rd_yes HRj.out (HF7.out.trans HF9.out) (by rw [← HXX.out]; exact HR9.out)
          · have Hp := Lib.hid hp
            have HX : Hid ((if false then s.drop x.length else s) = s) := rfl
            have HS2 := Lib.hid (HS.out hp)
            clear hp HS
            go_wp2_with (first
              | (go_at_call 90; (with_reducible refine (cut_l s x s false _ Hp.out HX.out).mono ?_); rintro e w1 ⟨rfl, rfl⟩))
            go_round
            case rel => exact ⟨j + 1, by omega, by go_num, HS2⟩
            case measure => simp [intOf]; omega
        · obtain rfl : j = ws.length := by omega
          have HRj : Hid (rd1 N ⟨4, wd, t⟩ q0 s = none) := by
            rw [Hid, HR.out, namI_no Hall.out, if_neg (Nat.lt_irrefl _)]
          clear hlt
          go_wp2_with fail
          go_ret
          exact rd_no HRj.out (Frm.of_ext hE06)
  · go_enter Tryz.func64, Tryz.ntmps64
    go_upto_region 28 with fail
    generalize (w.alloc (.cells #[.int .i64 5, .int .i64 wd, .string ⟨t.toArray⟩] 38)).alloc (.cells #[.int .i64 qk, .int .i64 qw, .string ⟨qt.toArray⟩] 38) = W at hE0 c40 f40 cN ltB yk yz ⊢
    obtain ⟨T, hT⟩ : ∃ T, w.heap.size = T := ⟨_, rfl⟩
    rw [hT] at yk yz ⊢
    refine wp_region_grow [119, 120, 121, 122, 123, 124, 125, 126, 127, 128] [fun x _ => x = .pointer (some ⟨B, 0, none⟩), fun x _ => x = .pointer (some ⟨B, 0, none⟩), fun x _ => x = .pointer (some ⟨B, 0, none⟩), fun x _ => x = .agg (sv N.all).toArray, LsR N, fun x _ => x = .pointer (some ⟨T, 0, none⟩), fun x _ => x = .int .i64 5, LsK N O ws.length, fun x _ => x = .int .i64 (ws.length : Int), fun x _ => x = .int .i64 0] 0 (by kernel_rfl) (by kernel_rfl) (by kernel_rfl) (by kernel_rfl) ?_ ?_ ?_
    · intro R hR
      simp only [List.mem_cons, List.not_mem_nil, or_false] at hR
      rcases hR with rfl | rfl | rfl | rfl | rfl | rfl | rfl | rfl | rfl | rfl
      all_goals first
        | exact fun _ _ _ h _ => h
        | exact fun _ _ _ h hE => LsR.ext h hE
        | exact fun _ _ _ h hE => LsK.ext h hE
    · refine ⟨?_, ?_, ?_, ?_, ?_, ?_, ?_, ?_, ?_, ?_, trivial⟩
      all_goals intro a w hE hF hD K hK
      · exact gs_val rfl (yr_move rfl ((hF 0 (fr_of rfl)).trans rfl)) (hK _ _ rfl (Ext.refl _))
      · have h1 : a.eval (.tmp 119) = .pointer (some ⟨B, 0, none⟩) := hD 0 (by kernel_rfl)
        exact gs_val rfl (yr_nil rfl h1) (hK _ _ rfl (Ext.refl _))
      · have h1 : a.eval (.tmp 120) = .pointer (some ⟨B, 0, none⟩) := hD 1 (by kernel_rfl)
        exact gs_val rfl (yr_field rfl h1 (by go_simp)) (hK _ _ rfl (Ext.refl _))
      · have h1 : a.eval (.tmp 121) = .pointer (some ⟨B, 0, none⟩) := hD 2 (by kernel_rfl)
        exact gs_val rfl (yr_load rfl h1 (run_loadAt_mid w B 0 _ _ _ (rangeAt_ext cN ltB hE) Tryz.underlying27 rfl hI)) (hK _ _ rfl (Ext.refl _))
      · have h1 : a.eval (.tmp 122) = .agg (sv N.all).toArray := hD 3 (by kernel_rfl)
        exact gs_call rfl (yr_call rfl rfl (show (#[Operand.tmp 122] : Array Operand).map a.eval = #[.agg (sv N.all).toArray] by simp [h1]) (by kernel_rfl)) (lists_R N w) hK
      · exact gs_val rfl (yr_field rfl ((hF 4 (fr_of rfl)).trans rfl) (by go_simp)) (hK _ _ rfl (Ext.refl _))
      · have h1 : a.eval (.tmp 124) = .pointer (some ⟨T, 0, none⟩) := hD 5 (by kernel_rfl)
        exact gs_val rfl (yr_load rfl h1 (ld_int _ _ _ ((hE.cells _ _ yz).trans yk))) (hK _ _ rfl (Ext.refl _))
      · have h1 : LsR N (a.eval (.tmp 123)) w := hD 4 (by kernel_rfl)
        have h2 : a.eval (.tmp 125) = .int .i64 5 := hD 6 (by kernel_rfl)
        obtain ⟨b5, B5, D5, e1, e2, e3, e4⟩ := h1
        exact gs_val rfl (yr_look rfl e1 h2 (HLK.out b5 B5 D5 w e2 e3)) (hK _ _ ⟨B5, rfl, e4⟩ (Ext.refl _))
      · have h1 : LsK N O ws.length (a.eval (.tmp 126)) w := hD 7 (by kernel_rfl)
        obtain ⟨B5, e1, e2⟩ := h1
        exact gs_val rfl (yr_len (ot := 3) rfl rfl Tryz.underlying59 e1) (hK _ _ rfl (Ext.refl _))
      · exact gs_val rfl (yr_move rfl rfl) (hK _ _ rfl (Ext.refl _))
    · intro vals w6 hE6 hR
      obtain ⟨h0, h1, h2, h3, h4, h5, h6, h7, h8, h9, -⟩ := hR
      obtain ⟨B5, e7, hRd⟩ := (show LsK N O ws.length (vals 7) w6 from h7)
      have e8 : vals 8 = .int .i64 (ws.length : Int) := h8
      have e9 : vals 9 = .int .i64 0 := h9
      have HRd := Lib.hid hRd
      have c46 := (hE6.cells _ _ ltB).trans c40
      have f46 := fun o => (hE6.frozens _ o ltB).trans (f40 o)
      have yk6 := (hE6.cells _ _ yz).trans yk
      have hE06 := hE0.trans hE6
      clear h0 h1 h2 h3 h4 h5 h6 h7 h8 h9 hRd yk
      refine wpAny_done (by kernel_rfl) ?_ _
      simp only [putF, Act.put, List.length_cons, List.length_nil, List.getD_cons_zero, List.getD_cons_succ, List.setIfInBounds_toArray, List.set_cons_zero, List.set_cons_succ, Nat.reduceAdd, e7, e8, e9]
      go_wp2_with fail
      go_loop [128] (fun i => ∃ j : Nat, j ≤ ws.length ∧ i = .int .i64 (j : Int) ∧ Hid (∀ i (hi : i < ws.length), i < j → ws[i].isPrefixOf s = false)) (fun i => ws.length - (intOf i).toNat)
      case atStart => exact ⟨0, Nat.zero_le _, rfl, fun i hi q => absurd q (Nat.not_lt_zero i)⟩
      case round =>
        obtain ⟨j, hj, rfl, Hall⟩ := hrel
        by_cases hlt : j < ws.length
        · have hcj := HNM.out B5 j w6 hlt HRd.out
          have Hat := Lib.hid (fun (q : ws[j].isPrefixOf s = true) => namI_at (s := s) hlt Hall.out q)
          have HS : Hid (ws[j].isPrefixOf s = false → ∀ i (hi : i < ws.length), i < j + 1 → ws[i].isPrefixOf s = false) := fun q i hi q2 => by
            by_cases e : i = j
            · subst e; exact q
            · exact Hall.out i hi (by omega)
          have HG : Hid ((ws.getD j []) = ws[j]) := by simp [Hid, List.getD, hlt]
          obtain ⟨x, hx⟩ : ∃ x, x = ws[j] := ⟨_, rfl⟩
          rw [← hx] at hcj Hat HS HG
          clear hx
          rcases Bool.eq_false_or_eq_true (x.isPrefixOf s) with hp | hp
          · have HRj : Hid (rd1 N ⟨5, wd, t⟩ q0 s = some (x.length, [(5, j)])) := by
              rw [Hid, HR.out, Hat.out hp, if_pos hlt, HG.out]
            have Hp := Lib.hid hp
            have hM6 := HM.out.ext hE06
            have hM7 := hM6.set HN.out (s' := s.drop x.length) (c' := c) 40 (.string ⟨(s.drop x.length).toArray⟩) (.inl ⟨rfl, rfl, rfl⟩)
            have HR7 : Hid (Rdr N B b (s.drop x.length) vs (w6.setCell ⟨B, 40, none⟩ (.string ⟨(s.drop x.length).toArray⟩))) := ⟨c, D, n, hM7, HD.out, hnn, HC.out⟩
            have HF7 : Hid (Frm (RdS2 B b) w (w6.setCell ⟨B, 40, none⟩ (.string ⟨(s.drop x.length).toArray⟩))) := Frm.put40 hE06 40 _
            obtain ⟨X, hX⟩ : ∃ X, X = s.drop x.length := ⟨_, rfl⟩
            rw [← hX] at HR7 HF7
            have HXX := Lib.hid hX
            have HX : Hid ((if true then s.drop x.length else s) = X) := hX.symm
            clear hp hM6 hM7 HS hX
            go_wp2_with (first
              | (go_at_call 90; (with_reducible refine (cut_l s x X true _ Hp.out HX.out).mono ?_); rintro e w1 ⟨rfl, rfl⟩)
              | (go_at_call 93; (with_reducible refine (set_c N HN.out B b X vs 5 j _ HR7.out (by decide) (by decide) (by omega) hvn).mono ?_); rintro e w9 ⟨rfl, hR9, hF9⟩; have HR9 := Lib.hid hR9; have HF9 := Lib.hid hF9; clear hR9 hF9))
            go_ret
            exact rd_yes HRj.out (HF7.out.trans HF9.out) (by rw [← HXX.out]; exact HR9.out)
          · have Hp := Lib.hid hp
            have HX : Hid ((if false then s.drop x.length else s) = s) := rfl
            have HS2 := Lib.hid (HS.out hp)
            clear hp HS
            go_wp2_with (first
              | (go_at_call 90; (with_reducible refine (cut_l s x s false _ Hp.out HX.out).mono ?_); rintro e w1 ⟨rfl, rfl⟩))
            go_round
            case rel => exact ⟨j + 1, by omega, by go_num, HS2⟩
            case measure => simp [intOf]; omega
        · obtain rfl : j = ws.length := by omega
          have HRj : Hid (rd1 N ⟨5, wd, t⟩ q0 s = none) := by
            rw [Hid, HR.out, namI_no Hall.out, if_neg (Nat.lt_irrefl _)]
          clear hlt
          go_wp2_with fail
          go_ret
          exact rd_no HRj.out (Frm.of_ext hE06)
  · go_enter Tryz.func64, Tryz.ntmps64
    go_upto_region 28 with fail
    generalize (w.alloc (.cells #[.int .i64 7, .int .i64 wd, .string ⟨t.toArray⟩] 38)).alloc (.cells #[.int .i64 qk, .int .i64 qw, .string ⟨qt.toArray⟩] 38) = W at hE0 c40 f40 cN ltB yk yz ⊢
    obtain ⟨T, hT⟩ : ∃ T, w.heap.size = T := ⟨_, rfl⟩
    rw [hT] at yk yz ⊢
    refine wp_region_grow [119, 120, 121, 122, 123, 124, 125, 126, 127, 128] [fun x _ => x = .pointer (some ⟨B, 0, none⟩), fun x _ => x = .pointer (some ⟨B, 0, none⟩), fun x _ => x = .pointer (some ⟨B, 0, none⟩), fun x _ => x = .agg (sv N.all).toArray, LsR N, fun x _ => x = .pointer (some ⟨T, 0, none⟩), fun x _ => x = .int .i64 7, LsK N O ws.length, fun x _ => x = .int .i64 (ws.length : Int), fun x _ => x = .int .i64 0] 0 (by kernel_rfl) (by kernel_rfl) (by kernel_rfl) (by kernel_rfl) ?_ ?_ ?_
    · intro R hR
      simp only [List.mem_cons, List.not_mem_nil, or_false] at hR
      rcases hR with rfl | rfl | rfl | rfl | rfl | rfl | rfl | rfl | rfl | rfl
      all_goals first
        | exact fun _ _ _ h _ => h
        | exact fun _ _ _ h hE => LsR.ext h hE
        | exact fun _ _ _ h hE => LsK.ext h hE
    · refine ⟨?_, ?_, ?_, ?_, ?_, ?_, ?_, ?_, ?_, ?_, trivial⟩
      all_goals intro a w hE hF hD K hK
      · exact gs_val rfl (yr_move rfl ((hF 0 (fr_of rfl)).trans rfl)) (hK _ _ rfl (Ext.refl _))
      · have h1 : a.eval (.tmp 119) = .pointer (some ⟨B, 0, none⟩) := hD 0 (by kernel_rfl)
        exact gs_val rfl (yr_nil rfl h1) (hK _ _ rfl (Ext.refl _))
      · have h1 : a.eval (.tmp 120) = .pointer (some ⟨B, 0, none⟩) := hD 1 (by kernel_rfl)
        exact gs_val rfl (yr_field rfl h1 (by go_simp)) (hK _ _ rfl (Ext.refl _))
      · have h1 : a.eval (.tmp 121) = .pointer (some ⟨B, 0, none⟩) := hD 2 (by kernel_rfl)
        exact gs_val rfl (yr_load rfl h1 (run_loadAt_mid w B 0 _ _ _ (rangeAt_ext cN ltB hE) Tryz.underlying27 rfl hI)) (hK _ _ rfl (Ext.refl _))
      · have h1 : a.eval (.tmp 122) = .agg (sv N.all).toArray := hD 3 (by kernel_rfl)
        exact gs_call rfl (yr_call rfl rfl (show (#[Operand.tmp 122] : Array Operand).map a.eval = #[.agg (sv N.all).toArray] by simp [h1]) (by kernel_rfl)) (lists_R N w) hK
      · exact gs_val rfl (yr_field rfl ((hF 4 (fr_of rfl)).trans rfl) (by go_simp)) (hK _ _ rfl (Ext.refl _))
      · have h1 : a.eval (.tmp 124) = .pointer (some ⟨T, 0, none⟩) := hD 5 (by kernel_rfl)
        exact gs_val rfl (yr_load rfl h1 (ld_int _ _ _ ((hE.cells _ _ yz).trans yk))) (hK _ _ rfl (Ext.refl _))
      · have h1 : LsR N (a.eval (.tmp 123)) w := hD 4 (by kernel_rfl)
        have h2 : a.eval (.tmp 125) = .int .i64 7 := hD 6 (by kernel_rfl)
        obtain ⟨b5, B5, D5, e1, e2, e3, e4⟩ := h1
        exact gs_val rfl (yr_look rfl e1 h2 (HLK.out b5 B5 D5 w e2 e3)) (hK _ _ ⟨B5, rfl, e4⟩ (Ext.refl _))
      · have h1 : LsK N O ws.length (a.eval (.tmp 126)) w := hD 7 (by kernel_rfl)
        obtain ⟨B5, e1, e2⟩ := h1
        exact gs_val rfl (yr_len (ot := 3) rfl rfl Tryz.underlying59 e1) (hK _ _ rfl (Ext.refl _))
      · exact gs_val rfl (yr_move rfl rfl) (hK _ _ rfl (Ext.refl _))
    · intro vals w6 hE6 hR
      obtain ⟨h0, h1, h2, h3, h4, h5, h6, h7, h8, h9, -⟩ := hR
      obtain ⟨B5, e7, hRd⟩ := (show LsK N O ws.length (vals 7) w6 from h7)
      have e8 : vals 8 = .int .i64 (ws.length : Int) := h8
      have e9 : vals 9 = .int .i64 0 := h9
      have HRd := Lib.hid hRd
      have c46 := (hE6.cells _ _ ltB).trans c40
      have f46 := fun o => (hE6.frozens _ o ltB).trans (f40 o)
      have yk6 := (hE6.cells _ _ yz).trans yk
      have hE06 := hE0.trans hE6
      clear h0 h1 h2 h3 h4 h5 h6 h7 h8 h9 hRd yk
      refine wpAny_done (by kernel_rfl) ?_ _
      simp only [putF, Act.put, List.length_cons, List.length_nil, List.getD_cons_zero, List.getD_cons_succ, List.setIfInBounds_toArray, List.set_cons_zero, List.set_cons_succ, Nat.reduceAdd, e7, e8, e9]
      go_wp2_with fail
      go_loop [128] (fun i => ∃ j : Nat, j ≤ ws.length ∧ i = .int .i64 (j : Int) ∧ Hid (∀ i (hi : i < ws.length), i < j → ws[i].isPrefixOf s = false)) (fun i => ws.length - (intOf i).toNat)
      case atStart => exact ⟨0, Nat.zero_le _, rfl, fun i hi q => absurd q (Nat.not_lt_zero i)⟩
      case round =>
        obtain ⟨j, hj, rfl, Hall⟩ := hrel
        by_cases hlt : j < ws.length
        · have hcj := HNM.out B5 j w6 hlt HRd.out
          have Hat := Lib.hid (fun (q : ws[j].isPrefixOf s = true) => namI_at (s := s) hlt Hall.out q)
          have HS : Hid (ws[j].isPrefixOf s = false → ∀ i (hi : i < ws.length), i < j + 1 → ws[i].isPrefixOf s = false) := fun q i hi q2 => by
            by_cases e : i = j
            · subst e; exact q
            · exact Hall.out i hi (by omega)
          have HG : Hid ((ws.getD j []) = ws[j]) := by simp [Hid, List.getD, hlt]
          obtain ⟨x, hx⟩ : ∃ x, x = ws[j] := ⟨_, rfl⟩
          rw [← hx] at hcj Hat HS HG
          clear hx
          rcases Bool.eq_false_or_eq_true (x.isPrefixOf s) with hp | hp
          · have HRj : Hid (rd1 N ⟨7, wd, t⟩ q0 s = some (x.length, [(7, j)])) := by
              rw [Hid, HR.out, Hat.out hp, if_pos hlt, HG.out]
            have Hp := Lib.hid hp
            have hM6 := HM.out.ext hE06
            have hM7 := hM6.set HN.out (s' := s.drop x.length) (c' := c) 40 (.string ⟨(s.drop x.length).toArray⟩) (.inl ⟨rfl, rfl, rfl⟩)
            have HR7 : Hid (Rdr N B b (s.drop x.length) vs (w6.setCell ⟨B, 40, none⟩ (.string ⟨(s.drop x.length).toArray⟩))) := ⟨c, D, n, hM7, HD.out, hnn, HC.out⟩
            have HF7 : Hid (Frm (RdS2 B b) w (w6.setCell ⟨B, 40, none⟩ (.string ⟨(s.drop x.length).toArray⟩))) := Frm.put40 hE06 40 _
            obtain ⟨X, hX⟩ : ∃ X, X = s.drop x.length := ⟨_, rfl⟩
            rw [← hX] at HR7 HF7
            have HXX := Lib.hid hX
            have HX : Hid ((if true then s.drop x.length else s) = X) := hX.symm
            clear hp hM6 hM7 HS hX
            go_wp2_with (first
              | (go_at_call 90; (with_reducible refine (cut_l s x X true _ Hp.out HX.out).mono ?_); rintro e w1 ⟨rfl, rfl⟩)
              | (go_at_call 93; (with_reducible refine (set_c N HN.out B b X vs 7 j _ HR7.out (by decide) (by decide) (by omega) hvn).mono ?_); rintro e w9 ⟨rfl, hR9, hF9⟩; have HR9 := Lib.hid hR9; have HF9 := Lib.hid hF9; clear hR9 hF9))
            go_ret
            exact rd_yes HRj.out (HF7.out.trans HF9.out) (by rw [← HXX.out]; exact HR9.out)
          · have Hp := Lib.hid hp
            have HX : Hid ((if false then s.drop x.length else s) = s) := rfl
            have HS2 := Lib.hid (HS.out hp)
            clear hp HS
            go_wp2_with (first
              | (go_at_call 90; (with_reducible refine (cut_l s x s false _ Hp.out HX.out).mono ?_); rintro e w1 ⟨rfl, rfl⟩))
            go_round
            case rel => exact ⟨j + 1, by omega, by go_num, HS2⟩
            case measure => simp [intOf]; omega
        · obtain rfl : j = ws.length := by omega
          have HRj : Hid (rd1 N ⟨7, wd, t⟩ q0 s = none) := by
            rw [Hid, HR.out, namI_no Hall.out, if_neg (Nat.lt_irrefl _)]
          clear hlt
          go_wp2_with fail
          go_ret
          exact rd_no HRj.out (Frm.of_ext hE06)
  · go_enter Tryz.func64, Tryz.ntmps64
    go_upto_region 28 with fail
    generalize (w.alloc (.cells #[.int .i64 8, .int .i64 wd, .string ⟨t.toArray⟩] 38)).alloc (.cells #[.int .i64 qk, .int .i64 qw, .string ⟨qt.toArray⟩] 38) = W at hE0 c40 f40 cN ltB yk yz ⊢
    obtain ⟨T, hT⟩ : ∃ T, w.heap.size = T := ⟨_, rfl⟩
    rw [hT] at yk yz ⊢
    refine wp_region_grow [119, 120, 121, 122, 123, 124, 125, 126, 127, 128] [fun x _ => x = .pointer (some ⟨B, 0, none⟩), fun x _ => x = .pointer (some ⟨B, 0, none⟩), fun x _ => x = .pointer (some ⟨B, 0, none⟩), fun x _ => x = .agg (sv N.all).toArray, LsR N, fun x _ => x = .pointer (some ⟨T, 0, none⟩), fun x _ => x = .int .i64 8, LsK N O ws.length, fun x _ => x = .int .i64 (ws.length : Int), fun x _ => x = .int .i64 0] 0 (by kernel_rfl) (by kernel_rfl) (by kernel_rfl) (by kernel_rfl) ?_ ?_ ?_
    · intro R hR
      simp only [List.mem_cons, List.not_mem_nil, or_false] at hR
      rcases hR with rfl | rfl | rfl | rfl | rfl | rfl | rfl | rfl | rfl | rfl
      all_goals first
        | exact fun _ _ _ h _ => h
        | exact fun _ _ _ h hE => LsR.ext h hE
        | exact fun _ _ _ h hE => LsK.ext h hE
    · refine ⟨?_, ?_, ?_, ?_, ?_, ?_, ?_, ?_, ?_, ?_, trivial⟩
      all_goals intro a w hE hF hD K hK
      · exact gs_val rfl (yr_move rfl ((hF 0 (fr_of rfl)).trans rfl)) (hK _ _ rfl (Ext.refl _))
      · have h1 : a.eval (.tmp 119) = .pointer (some ⟨B, 0, none⟩) := hD 0 (by kernel_rfl)
        exact gs_val rfl (yr_nil rfl h1) (hK _ _ rfl (Ext.refl _))
      · have h1 : a.eval (.tmp 120) = .pointer (some ⟨B, 0, none⟩) := hD 1 (by kernel_rfl)
        exact gs_val rfl (yr_field rfl h1 (by go_simp)) (hK _ _ rfl (Ext.refl _))
      · have h1 : a.eval (.tmp 121) = .pointer (some ⟨B, 0, none⟩) := hD 2 (by kernel_rfl)
        exact gs_val rfl (yr_load rfl h1 (run_loadAt_mid w B 0 _ _ _ (rangeAt_ext cN ltB hE) Tryz.underlying27 rfl hI)) (hK _ _ rfl (Ext.refl _))
      · have h1 : a.eval (.tmp 122) = .agg (sv N.all).toArray := hD 3 (by kernel_rfl)
        exact gs_call rfl (yr_call rfl rfl (show (#[Operand.tmp 122] : Array Operand).map a.eval = #[.agg (sv N.all).toArray] by simp [h1]) (by kernel_rfl)) (lists_R N w) hK
      · exact gs_val rfl (yr_field rfl ((hF 4 (fr_of rfl)).trans rfl) (by go_simp)) (hK _ _ rfl (Ext.refl _))
      · have h1 : a.eval (.tmp 124) = .pointer (some ⟨T, 0, none⟩) := hD 5 (by kernel_rfl)
        exact gs_val rfl (yr_load rfl h1 (ld_int _ _ _ ((hE.cells _ _ yz).trans yk))) (hK _ _ rfl (Ext.refl _))
      · have h1 : LsR N (a.eval (.tmp 123)) w := hD 4 (by kernel_rfl)
        have h2 : a.eval (.tmp 125) = .int .i64 8 := hD 6 (by kernel_rfl)
        obtain ⟨b5, B5, D5, e1, e2, e3, e4⟩ := h1
        exact gs_val rfl (yr_look rfl e1 h2 (HLK.out b5 B5 D5 w e2 e3)) (hK _ _ ⟨B5, rfl, e4⟩ (Ext.refl _))
      · have h1 : LsK N O ws.length (a.eval (.tmp 126)) w := hD 7 (by kernel_rfl)
        obtain ⟨B5, e1, e2⟩ := h1
        exact gs_val rfl (yr_len (ot := 3) rfl rfl Tryz.underlying59 e1) (hK _ _ rfl (Ext.refl _))
      · exact gs_val rfl (yr_move rfl rfl) (hK _ _ rfl (Ext.refl _))
    · intro vals w6 hE6 hR
      obtain ⟨h0, h1, h2, h3, h4, h5, h6, h7, h8, h9, -⟩ := hR
      obtain ⟨B5, e7, hRd⟩ := (show LsK N O ws.length (vals 7) w6 from h7)
      have e8 : vals 8 = .int .i64 (ws.length : Int) := h8
      have e9 : vals 9 = .int .i64 0 := h9
      have HRd := Lib.hid hRd
      have c46 := (hE6.cells _ _ ltB).trans c40
      have f46 := fun o => (hE6.frozens _ o ltB).trans (f40 o)
      have yk6 := (hE6.cells _ _ yz).trans yk
      have hE06 := hE0.trans hE6
      clear h0 h1 h2 h3 h4 h5 h6 h7 h8 h9 hRd yk
      refine wpAny_done (by kernel_rfl) ?_ _
      simp only [putF, Act.put, List.length_cons, List.length_nil, List.getD_cons_zero, List.getD_cons_succ, List.setIfInBounds_toArray, List.set_cons_zero, List.set_cons_succ, Nat.reduceAdd, e7, e8, e9]
      go_wp2_with fail
      go_loop [128] (fun i => ∃ j : Nat, j ≤ ws.length ∧ i = .int .i64 (j : Int) ∧ Hid (∀ i (hi : i < ws.length), i < j → ws[i].isPrefixOf s = false)) (fun i => ws.length - (intOf i).toNat)
      case atStart => exact ⟨0, Nat.zero_le _, rfl, fun i hi q => absurd q (Nat.not_lt_zero i)⟩
      case round =>
        obtain ⟨j, hj, rfl, Hall⟩ := hrel
        by_cases hlt : j < ws.length
        · have hcj := HNM.out B5 j w6 hlt HRd.out
          have Hat := Lib.hid (fun (q : ws[j].isPrefixOf s = true) => namI_at (s := s) hlt Hall.out q)
          have HS : Hid (ws[j].isPrefixOf s = false → ∀ i (hi : i < ws.length), i < j + 1 → ws[i].isPrefixOf s = false) := fun q i hi q2 => by
            by_cases e : i = j
            · subst e; exact q
            · exact Hall.out i hi (by omega)
          have HG : Hid ((ws.getD j []) = ws[j]) := by simp [Hid, List.getD, hlt]
          obtain ⟨x, hx⟩ : ∃ x, x = ws[j] := ⟨_, rfl⟩
          rw [← hx] at hcj Hat HS HG
          clear hx
          rcases Bool.eq_false_or_eq_true (x.isPrefixOf s) with hp | hp
          · have HRj : Hid (rd1 N ⟨8, wd, t⟩ q0 s = some (x.length, [(8, j)])) := by
              rw [Hid, HR.out, Hat.out hp, if_pos hlt, HG.out]
            have Hp := Lib.hid hp
            have hM6 := HM.out.ext hE06
            have hM7 := hM6.set HN.out (s' := s.drop x.length) (c' := c) 40 (.string ⟨(s.drop x.length).toArray⟩) (.inl ⟨rfl, rfl, rfl⟩)
            have HR7 : Hid (Rdr N B b (s.drop x.length) vs (w6.setCell ⟨B, 40, none⟩ (.string ⟨(s.drop x.length).toArray⟩))) := ⟨c, D, n, hM7, HD.out, hnn, HC.out⟩
            have HF7 : Hid (Frm (RdS2 B b) w (w6.setCell ⟨B, 40, none⟩ (.string ⟨(s.drop x.length).toArray⟩))) := Frm.put40 hE06 40 _
            obtain ⟨X, hX⟩ : ∃ X, X = s.drop x.length := ⟨_, rfl⟩
            rw [← hX] at HR7 HF7
            have HXX := Lib.hid hX
            have HX : Hid ((if true then s.drop x.length else s) = X) := hX.symm
            clear hp hM6 hM7 HS hX
            go_wp2_with (first
              | (go_at_call 90; (with_reducible refine (cut_l s x X true _ Hp.out HX.out).mono ?_); rintro e w1 ⟨rfl, rfl⟩)
              | (go_at_call 93; (with_reducible refine (set_c N HN.out B b X vs 8 j _ HR7.out (by decide) (by decide) (by omega) hvn).mono ?_); rintro e w9 ⟨rfl, hR9, hF9⟩; have HR9 := Lib.hid hR9; have HF9 := Lib.hid hF9; clear hR9 hF9))
            go_ret
            exact rd_yes HRj.out (HF7.out.trans HF9.out) (by rw [← HXX.out]; exact HR9.out)
          · have Hp := Lib.hid hp
            have HX : Hid ((if false then s.drop x.length else s) = s) := rfl
            have HS2 := Lib.hid (HS.out hp)
            clear hp HS
            go_wp2_with (first
              | (go_at_call 90; (with_reducible refine (cut_l s x s false _ Hp.out HX.out).mono ?_); rintro e w1 ⟨rfl, rfl⟩))
            go_round
            case rel => exact ⟨j + 1, by omega, by go_num, HS2⟩
            case measure => simp [intOf]; omega
        · obtain rfl : j = ws.length := by omega
          have HRj : Hid (rd1 N ⟨8, wd, t⟩ q0 s = none) := by
            rw [Hid, HR.out, namI_no Hall.out, if_neg (Nat.lt_irrefl _)]
          clear hlt
          go_wp2_with fail
          go_ret
          exact rd_no HRj.out (Frm.of_ext hE06)
  · go_enter Tryz.func64, Tryz.ntmps64
    go_upto_region 28 with fail
    generalize (w.alloc (.cells #[.int .i64 13, .int .i64 wd, .string ⟨t.toArray⟩] 38)).alloc (.cells #[.int .i64 qk, .int .i64 qw, .string ⟨qt.toArray⟩] 38) = W at hE0 c40 f40 cN ltB yk yz ⊢
    obtain ⟨T, hT⟩ : ∃ T, w.heap.size = T := ⟨_, rfl⟩
    rw [hT] at yk yz ⊢
    refine wp_region_grow [119, 120, 121, 122, 123, 124, 125, 126, 127, 128] [fun x _ => x = .pointer (some ⟨B, 0, none⟩), fun x _ => x = .pointer (some ⟨B, 0, none⟩), fun x _ => x = .pointer (some ⟨B, 0, none⟩), fun x _ => x = .agg (sv N.all).toArray, LsR N, fun x _ => x = .pointer (some ⟨T, 0, none⟩), fun x _ => x = .int .i64 13, LsK N O ws.length, fun x _ => x = .int .i64 (ws.length : Int), fun x _ => x = .int .i64 0] 0 (by kernel_rfl) (by kernel_rfl) (by kernel_rfl) (by kernel_rfl) ?_ ?_ ?_
    · intro R hR
      simp only [List.mem_cons, List.not_mem_nil, or_false] at hR
      rcases hR with rfl | rfl | rfl | rfl | rfl | rfl | rfl | rfl | rfl | rfl
      all_goals first
        | exact fun _ _ _ h _ => h
        | exact fun _ _ _ h hE => LsR.ext h hE
        | exact fun _ _ _ h hE => LsK.ext h hE
    · refine ⟨?_, ?_, ?_, ?_, ?_, ?_, ?_, ?_, ?_, ?_, trivial⟩
      all_goals intro a w hE hF hD K hK
      · exact gs_val rfl (yr_move rfl ((hF 0 (fr_of rfl)).trans rfl)) (hK _ _ rfl (Ext.refl _))
      · have h1 : a.eval (.tmp 119) = .pointer (some ⟨B, 0, none⟩) := hD 0 (by kernel_rfl)
        exact gs_val rfl (yr_nil rfl h1) (hK _ _ rfl (Ext.refl _))
      · have h1 : a.eval (.tmp 120) = .pointer (some ⟨B, 0, none⟩) := hD 1 (by kernel_rfl)
        exact gs_val rfl (yr_field rfl h1 (by go_simp)) (hK _ _ rfl (Ext.refl _))
      · have h1 : a.eval (.tmp 121) = .pointer (some ⟨B, 0, none⟩) := hD 2 (by kernel_rfl)
        exact gs_val rfl (yr_load rfl h1 (run_loadAt_mid w B 0 _ _ _ (rangeAt_ext cN ltB hE) Tryz.underlying27 rfl hI)) (hK _ _ rfl (Ext.refl _))
      · have h1 : a.eval (.tmp 122) = .agg (sv N.all).toArray := hD 3 (by kernel_rfl)
        exact gs_call rfl (yr_call rfl rfl (show (#[Operand.tmp 122] : Array Operand).map a.eval = #[.agg (sv N.all).toArray] by simp [h1]) (by kernel_rfl)) (lists_R N w) hK
      · exact gs_val rfl (yr_field rfl ((hF 4 (fr_of rfl)).trans rfl) (by go_simp)) (hK _ _ rfl (Ext.refl _))
      · have h1 : a.eval (.tmp 124) = .pointer (some ⟨T, 0, none⟩) := hD 5 (by kernel_rfl)
        exact gs_val rfl (yr_load rfl h1 (ld_int _ _ _ ((hE.cells _ _ yz).trans yk))) (hK _ _ rfl (Ext.refl _))
      · have h1 : LsR N (a.eval (.tmp 123)) w := hD 4 (by kernel_rfl)
        have h2 : a.eval (.tmp 125) = .int .i64 13 := hD 6 (by kernel_rfl)
        obtain ⟨b5, B5, D5, e1, e2, e3, e4⟩ := h1
        exact gs_val rfl (yr_look rfl e1 h2 (HLK.out b5 B5 D5 w e2 e3)) (hK _ _ ⟨B5, rfl, e4⟩ (Ext.refl _))
      · have h1 : LsK N O ws.length (a.eval (.tmp 126)) w := hD 7 (by kernel_rfl)
        obtain ⟨B5, e1, e2⟩ := h1
        exact gs_val rfl (yr_len (ot := 3) rfl rfl Tryz.underlying59 e1) (hK _ _ rfl (Ext.refl _))
      · exact gs_val rfl (yr_move rfl rfl) (hK _ _ rfl (Ext.refl _))
    · intro vals w6 hE6 hR
      obtain ⟨h0, h1, h2, h3, h4, h5, h6, h7, h8, h9, -⟩ := hR
      obtain ⟨B5, e7, hRd⟩ := (show LsK N O ws.length (vals 7) w6 from h7)
      have e8 : vals 8 = .int .i64 (ws.length : Int) := h8
      have e9 : vals 9 = .int .i64 0 := h9
      have HRd := Lib.hid hRd
      have c46 := (hE6.cells _ _ ltB).trans c40
      have f46 := fun o => (hE6.frozens _ o ltB).trans (f40 o)
      have yk6 := (hE6.cells _ _ yz).trans yk
      have hE06 := hE0.trans hE6
      clear h0 h1 h2 h3 h4 h5 h6 h7 h8 h9 hRd yk
      refine wpAny_done (by kernel_rfl) ?_ _
      simp only [putF, Act.put, List.length_cons, List.length_nil, List.getD_cons_zero, List.getD_cons_succ, List.setIfInBounds_toArray, List.set_cons_zero, List.set_cons_succ, Nat.reduceAdd, e7, e8, e9]
      go_wp2_with fail
      go_loop [128] (fun i => ∃ j : Nat, j ≤ ws.length ∧ i = .int .i64 (j : Int) ∧ Hid (∀ i (hi : i < ws.length), i < j → ws[i].isPrefixOf s = false)) (fun i => ws.length - (intOf i).toNat)
      case atStart => exact ⟨0, Nat.zero_le _, rfl, fun i hi q => absurd q (Nat.not_lt_zero i)⟩
      case round =>
        obtain ⟨j, hj, rfl, Hall⟩ := hrel
        by_cases hlt : j < ws.length
        · have hcj := HNM.out B5 j w6 hlt HRd.out
          have Hat := Lib.hid (fun (q : ws[j].isPrefixOf s = true) => namI_at (s := s) hlt Hall.out q)
          have HS : Hid (ws[j].isPrefixOf s = false → ∀ i (hi : i < ws.length), i < j + 1 → ws[i].isPrefixOf s = false) := fun q i hi q2 => by
            by_cases e : i = j
            · subst e; exact q
            · exact Hall.out i hi (by omega)
          have HG : Hid ((ws.getD j []) = ws[j]) := by simp [Hid, List.getD, hlt]
          obtain ⟨x, hx⟩ : ∃ x, x = ws[j] := ⟨_, rfl⟩
          rw [← hx] at hcj Hat HS HG
          clear hx
          rcases Bool.eq_false_or_eq_true (x.isPrefixOf s) with hp | hp
          · have HRj : Hid (rd1 N ⟨13, wd, t⟩ q0 s = some (x.length, [(13, j)])) := by
              rw [Hid, HR.out, Hat.out hp, if_pos hlt, HG.out]
            have Hp := Lib.hid hp
            have hM6 := HM.out.ext hE06
            have hM7 := hM6.set HN.out (s' := s.drop x.length) (c' := c) 40 (.string ⟨(s.drop x.length).toArray⟩) (.inl ⟨rfl, rfl, rfl⟩)
            have HR7 : Hid (Rdr N B b (s.drop x.length) vs (w6.setCell ⟨B, 40, none⟩ (.string ⟨(s.drop x.length).toArray⟩))) := ⟨c, D, n, hM7, HD.out, hnn, HC.out⟩
            have HF7 : Hid (Frm (RdS2 B b) w (w6.setCell ⟨B, 40, none⟩ (.string ⟨(s.drop x.length).toArray⟩))) := Frm.put40 hE06 40 _
            obtain ⟨X, hX⟩ : ∃ X, X = s.drop x.length := ⟨_, rfl⟩
            rw [← hX] at HR7 HF7
            have HXX := Lib.hid hX
            have HX : Hid ((if true then s.drop x.length else s) = X) := hX.symm
            clear hp hM6 hM7 HS hX
            go_wp2_with (first
              | (go_at_call 90; (with_reducible refine (cut_l s x X true _ Hp.out HX.out).mono ?_); rintro e w1 ⟨rfl, rfl⟩)
              | (go_at_call 93; (with_reducible refine (set_c N HN.out B b X vs 13 j _ HR7.out (by decide) (by decide) (by omega) hvn).mono ?_); rintro e w9 ⟨rfl, hR9, hF9⟩; have HR9 := Lib.hid hR9; have HF9 := Lib.hid hF9; clear hR9 hF9))
            go_ret
            exact rd_yes HRj.out (HF7.out.trans HF9.out) (by rw [← HXX.out]; exact HR9.out)
          · have Hp := Lib.hid hp
            have HX : Hid ((if false then s.drop x.length else s) = s) := rfl
            have HS2 := Lib.hid (HS.out hp)
            clear hp HS
            go_wp2_with (first
              | (go_at_call 90; (with_reducible refine (cut_l s x s false _ Hp.out HX.out).mono ?_); rintro e w1 ⟨rfl, rfl⟩))
            go_round
            case rel => exact ⟨j + 1, by omega, by go_num, HS2⟩
            case measure => simp [intOf]; omega
        · obtain rfl : j = ws.length := by omega
          have HRj : Hid (rd1 N ⟨13, wd, t⟩ q0 s = none) := by
            rw [Hid, HR.out, namI_no Hall.out, if_neg (Nat.lt_irrefl _)]
          clear hlt
          go_wp2_with fail
          go_ret
          exact rd_no HRj.out (Frm.of_ext hE06)
end Go.Proofs.YticckkadmhklmaaGreatDoor
