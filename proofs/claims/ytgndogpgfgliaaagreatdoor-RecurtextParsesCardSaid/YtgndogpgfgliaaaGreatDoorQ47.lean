/- Recurrence rules: the walk of the reference's Parse. -/
import Derived.Test.YtgndogpgfgliaaaGreatDoorQ46
namespace Go.Proofs.YtgndogpgfgliaaaGreatDoor
set_option linter.unusedVariables false
set_option linter.unnecessarySimpa false
set_option linter.unusedSimpArgs false
open Go.RowKit

theorem yr_slt31 {P : Program} {o : Oper} {a : Act} {w : World} {t : TypeId} {x y : Operand} {u z v : Value} (hop : o.op = .slice t x none (some y) none) (hx : a.eval x = u) (hy : a.eval y = z) (hrun : (Instr.sliceAt t u none (some z) none).run P w = .ok v w) : (execOp a.eval o).run P w = .ok (.value v) w := by
  unfold execOp; simp [hop, hx, hy, hrun, Result.andThen]
theorem yr_slf31 {P : Program} {o : Oper} {a : Act} {w : World} {t : TypeId} {x y : Operand} {u z v : Value} (hop : o.op = .slice t x (some y) none none) (hx : a.eval x = u) (hy : a.eval y = z) (hrun : (Instr.sliceAt t u (some z) none none).run P w = .ok v w) : (execOp a.eval o).run P w = .ok (.value v) w := by
  unfold execOp; simp [hop, hx, hy, hrun, Result.andThen]
theorem yr_add30 {o : Oper} {a : Act} {w : World} {x y : Operand} {t2 : TypeId} {A B C : Int} (hop : o.op = .binOp .add 3 x y t2) (hx : a.eval x = .int .i64 A) (hy : a.eval y = .int .i64 B) (hb : IntKind.i64.wrap (A + B) = C) : (execOp a.eval o).run Tryz.prog w = .ok (.value (.int .i64 C)) w := by
  unfold execOp
  simp only [hop, hx, hy]
  simp [Result.andThen, go_sem, hb]
theorem yr_ext31 {P : Program} {o : Oper} {a : Act} {w : World} {x : Operand} {i : Nat} {vs : Array Value} {v : Value} (hop : o.op = .extract x i) (hx : a.eval x = .tuple vs) (hv : vs[i]? = some v) : (execOp a.eval o).run P w = .ok (.value v) w := by
  unfold execOp; simp [hop, hx, Instr.extract, hv, Result.andThen]
/-- The blocks into which Parse still writes: the result, the rule, the names. -/
def FFp (C D : Nat) (o : Value) (b : Nat) : Prop := b = C ∨ b = D ∨ o.ownBlock = some b
theorem PSt.step {C D : Nat} {o v' : Value} {q : Rec} {w3 W4 w5 W6 : World} (h : PSt (FFp C D o) q w3) (hE : Ext w3 W4) (hg : W4.grownBy w5 o.ownBlock) (hb : v'.ownBlock = o.ownBlock ∨ v'.ownBlock = some W4.heap.size) (h6 : Frm (fun b => b = D) w5 W6) : PSt (FFp C D v') q W6 := fun W hF => by
  refine h W ⟨hF.os.trans (h6.os.trans (hg.os.trans hE.os)), hF.tape.trans (h6.tape.trans (hg.tape.trans hE.tape)), hF.output.trans (h6.output.trans (hg.output.trans hE.output)), Nat.le_trans hE.size (Nat.le_trans hg.size (Nat.le_trans h6.size hF.size)), fun k hk hn => ?_⟩
  have k4 := Nat.lt_of_lt_of_le hk hE.size
  have k5 := Nat.lt_of_lt_of_le k4 hg.size
  have k6 := Nat.lt_of_lt_of_le k5 h6.size
  have n1 : k ≠ C := fun e => hn (.inl e)
  have n2 : k ≠ D := fun e => hn (.inr (.inl e))
  have n3 : o.ownBlock ≠ some k := fun e => hn (.inr (.inr e))
  have e1 : W.heap[k]? = W6.heap[k]? := hF.block k k6 (fun q => by
    rcases q with q | q | q
    · exact n1 q
    · exact n2 q
    · rcases hb with hb | hb
      · exact n3 (hb.symm.trans q)
      · have := Option.some.inj (hb.symm.trans q)
        omega)
  exact e1.trans ((h6.block k k5 n2).trans ((hg.block k k4 (fun e => n3 e.symm)).trans (hE.block k hk)))
theorem own_blk {w : World} {b0 size n : Nat} {e : TypeId} {v : Value} {xs : List Value} (h : w.ownsRow b0 e size v n xs) {b : Nat} (hb : v.ownBlock = some b) : b0 ≤ b ∧ b < w.heap.size := by
  rcases h.2 with ⟨rfl, _⟩ | ⟨g, cap, cur, rfl, h1, h2, _⟩
  · cases hb
  · have : g = b := Option.some.inj hb
    subst this
    exact ⟨h1, (Array.getElem?_eq_some_iff.1 h2).1⟩
theorem rplace_own (nms : List (List UInt8)) (n base : Nat) (ao : Option Addr) (cv : Nat) (s : List UInt8) (p : Nat) (w : World) (hl : nms.length = n) (hown : w.ownsRow base 9 1 (.slice ao n cv) n (sv nms)) (hn : n ≤ 100000) (hp : plW nms s = p) :
    Calls Tryz.prog 56 #[.slice ao n cv, .string ⟨s.toArray⟩] w fun e w' => e = .returned (.int .i64 (p : Int)) ∧ w = w' := by
  subst hl
  rcases hown.2 with ⟨h, h0⟩ | ⟨g, cap, cur, h, h1, h2, h3, _⟩
  · injection h with e1 e2 e3
    have : nms = [] := List.length_eq_zero_iff.1 e2
    subst this
    subst e1
    have h0 : p = 0 := by rw [← hp]; rfl
    subst h0
    exact rplaceZ_c s cv w
  · injection h with e1 e2 e3
    subst e1
    subst e3
    exact rplaceN_c nms g cv s p w (rdS_own hown) hn h3 hp
theorem mem_of_eq30 {i : Nat} {l m : List Nat} (h : l = m) (hi : i ∈ l) : i ∈ m := by rw [← h]; exact hi
theorem wpOp_of {P : Program} {ops : Array Oper} {Q : Exit → Act → World → Prop} {i : Nat} {K : Act → World → Prop} {a : Act} {w : World} {o : Oper} (ho : ops[i]? = some o) (hw : Region.wanted o (yielded ops a.tmps) = true) (h : o.wp P a w K Q) : wpOp P ops Q i K a w := by
  unfold wpOp
  simp only [ho, hw, if_true]
  exact .inl h
theorem own_frm30 {w w' : World} {b size n : Nat} {e : TypeId} {v : Value} {xs : List Value} {F : Nat → Prop} (h : w.ownsRow b e size v n xs) (hF : Frm F w w') (hn : ∀ k, v.ownBlock = some k → ¬ F k) : w'.ownsRow b e size v n xs := by
  refine ⟨h.1, ?_⟩
  rcases h.2 with h | ⟨g, cap, cur, rfl, h2, h3, h4⟩
  · exact .inl h
  · exact .inr ⟨g, cap, cur, rfl, h2, (hF.block _ (Array.getElem?_eq_some_iff.1 h3).1 (hn g rfl)).trans h3, h4⟩
theorem grown_frm {w w' : World} {row : Option Nat} (h : w.grownBy w' row) : Frm (fun b => row = some b) w w' := ⟨h.os, h.tape, h.output, h.size, fun k hk hn => h.block k hk (fun e => hn e.symm)⟩
set_option maxRecDepth 100000 in
set_option maxHeartbeats 4000000 in
theorem rparse_long (s : List UInt8) (w : World) (h4 : 4000 < s.length) : Calls Tryz.prog 18 #[.string ⟨s.toArray⟩] w (ParR s w) := by
  have hzs := rec_size Rec.zero
  have hz1 := rec_all1 Rec.zero
  obtain ⟨WA, hWA⟩ : ∃ WA, WA = w.alloc (.cells #[.int .i64 0, .int .i64 0, .int .i64 0, .int .i64 0, .slice none 0 0, .slice none 0 0, .slice none 0 0, .slice none 0 0, .slice none 0 0, .slice none 0 0, .slice none 0 0, .slice none 0 0, .slice none 0 0, .int .i64 0] 25) := ⟨_, rfl⟩
  have hEA : Ext w WA := by rw [hWA]; exact (Ext.refl w).alloc _
  have hTA : WA.there w.heap.size 0 14 := by rw [hWA]; exact thr_new w _ _ 14 rfl
  have hlA : w.heap.size < WA.heap.size := by rw [hWA]; simp
  have HWA := Lib.hid hWA
  have HR : Hid (∀ e w', e = .returned (.tuple #[.agg Rec.zero.vals.toArray, .int .i64 5]) ∧ Ext w w' → ParR s w e w') := fun e w' h => by
    unfold ParR parZ; rw [if_pos h4]; exact h
  have t1 : decide ((4000 : Int) < (s.length : Int)) = true := decide_eq_true (by omega)
  have t0 : decide (4000 < s.length) = true := decide_eq_true h4
  have HEA := Lib.hid hEA
  clear hWA hEA h4
  go_enter Tryz.func18, Tryz.ntmps18
  go_upto_region 1 with fail
  rw [← HWA.out]
  go_wp2_with (refine wpList_store_gen (op := ⟨none, .store 25 (.tmp 2) (.tmp 14), _, _, _, _⟩) rfl 25 _ _ rfl w.heap.size Rec.zero.vals rfl rfl hlA hTA hzs hz1 ?_; intro W9 hFW9 hlW9 hrW9)
  refine bodyPost_ret (results_ct rfl rfl rfl (run_loadVar_mid W9 w.heap.size 0 25 _ _ hrW9 Tryz.underlying25 rfl hzs)) rfl (HR.out _ _ ⟨rfl, Frm.far HEA.out hFW9 (fun k hk e => by omega)⟩)
set_option maxRecDepth 100000 in
set_option maxHeartbeats 16000000 in
theorem rparse_short (s : List UInt8) (w : World) (hs4 : s.length ≤ 4000) : Calls Tryz.prog 18 #[.string ⟨s.toArray⟩] w (ParR s w) := by
  have hzs := rec_size Rec.zero
  have hz1 := rec_all1 Rec.zero
  obtain ⟨i0, hi, hz0, hzz, hz2⟩ := info_parts infoStr
  have Hi := Lib.hid hi
  have Hz0 := Lib.hid hz0
  have Hz1 := Lib.hid hzz
  have Hz2 := Lib.hid hz2
  obtain ⟨WA, hWA⟩ : ∃ WA, WA = w.alloc (.cells #[.int .i64 0, .int .i64 0, .int .i64 0, .int .i64 0, .slice none 0 0, .slice none 0 0, .slice none 0 0, .slice none 0 0, .slice none 0 0, .slice none 0 0, .slice none 0 0, .slice none 0 0, .slice none 0 0, .int .i64 0] 25) := ⟨_, rfl⟩
  have hEA : Ext w WA := by rw [hWA]; exact (Ext.refl w).alloc _
  have hTA : WA.there w.heap.size 0 14 := by rw [hWA]; exact thr_new w _ _ 14 rfl
  have hzA : WA.heap.size = w.heap.size + 1 := by rw [hWA]; simp
  have HWA := Lib.hid hWA
  have hcnt := spl_count 59 s
  have hlen := spl_len 59 s
  have HPz : Hid (parZ untZ vldR s = runZ untZ vldR (spl 59 s) [] RecD.start) := by rw [Hid]; unfold parZ; rw [if_neg (by omega)]
  obtain ⟨S, hS⟩ : ∃ S, S = spl 59 s := ⟨_, rfl⟩
  obtain ⟨W0, hW0⟩ : ∃ W0, W0 = WA.alloc (.cells #[.int .i64 0, .int .i64 1, .int .i64 0, .int .i64 0, .slice none 0 0, .slice none 0 0, .slice none 0 0, .slice none 0 0, .slice none 0 0, .slice none 0 0, .slice none 0 0, .slice none 0 0, .slice none 0 0, .int .i64 1] 25) := ⟨_, rfl⟩
  have hz0' : W0.heap.size = w.heap.size + 2 := by rw [hW0]; simp [hzA]
  have hEA0 : Ext WA W0 := by rw [hW0]; exact (Ext.refl _).alloc _
  have hE0 := hEA.trans hEA0
  have hTC : W0.there w.heap.size 0 14 := thr_ext hTA (by omega) hEA0
  have hBD : RcB Rec.strt (w.heap.size + 1) W0 := by
    have := RcB.new Rec.strt WA 25
    rw [hzA] at this
    rw [hW0]
    exact this
  have hTD : W0.there (w.heap.size + 1) 0 14 := by
    have h1 := thr_new WA (#[.int .i64 0, .int .i64 1, .int .i64 0, .int .i64 0, .slice none 0 0, .slice none 0 0, .slice none 0 0, .slice none 0 0, .slice none 0 0, .slice none 0 0, .slice none 0 0, .slice none 0 0, .slice none 0 0, .int .i64 1]) 25 14 rfl
    rw [hzA] at h1
    rw [hW0]
    exact h1
  have HSp : Hid (Calls Tryz.prog 55 #[.string ⟨s.toArray⟩, .int .u8 59] W0 fun e w' => ∃ x, e = .returned x ∧ OwZ W0.heap.size S x w' ∧ Ext W0 w') := by
    rw [hS]
    exact rsplit_c s 59 W0 (by omega)
  rw [← hS] at hcnt hlen HPz
  have HW0 := Lib.hid hW0
  have HL := Lib.hid hlen
  have HE0 := Lib.hid hE0
  have HTC := Lib.hid hTC
  have HTD := Lib.hid hTD
  have HBD := Lib.hid hBD
  have Hz0' := Lib.hid hz0'
  obtain ⟨Rz, hRz⟩ : ∃ Rz, Rz = parZ untZ vldR s := ⟨_, rfl⟩
  have HRun0 : Hid (runZ untZ vldR S [] RecD.start = Rz) := by rw [Hid, hRz]; exact HPz.out.symm
  have HEr : Hid (∀ c : Nat, Rz = .er c → ∀ e w', e = .returned (.tuple #[.agg Rec.zero.vals.toArray, .int .i64 (c : Int)]) ∧ Ext w w' → ParR s w e w') := fun c q e w' h => by unfold ParR; rw [← hRz, q]; exact h
  have HOk : Hid (∀ D', Rz = .ok D' → ∀ (e : Ending) (w' : World) (r' : Rec), r'.D = D' → e = .returned (.tuple #[.agg r'.vals.toArray, .int .i64 0]) → RcV r' w' → Ext w w' → ParR s w e w') := fun D' q e w' r' h1 h2 h3 h4 => by unfold ParR; rw [← hRz, q]; exact ⟨r', h1, h2, h3, h4⟩
  have t1 : decide ((4000 : Int) < (s.length : Int)) = false := decide_eq_false (by omega)
  have t0 : decide (4000 < s.length) = false := decide_eq_false (by omega)
  have hS4 : S.length ≤ 4001 := by omega
  obtain ⟨D, hD⟩ : ∃ D, D = WA.heap.size := ⟨_, rfl⟩
  have hD1 : w.heap.size + 1 ≤ D ∧ D ≤ w.heap.size + 1 := by omega
  have hDe : w.heap.size + 1 = D := by omega
  rw [hDe] at HTD HBD
  have HD := Lib.hid hD
  clear hDe hD hWA hEA hW0 hEA0 hE0 hTC hTD hBD hlen hS hTA hzA hcnt hRz HPz hi hz0 hzz hz2 hz0'
  go_enter Tryz.func18, Tryz.ntmps18
  go_upto_region 1 with fail
  rw [← HWA.out]
  go_upto_region 5 with fail
  rw [← HW0.out]
  rw [← HD.out]
  go_upto_region 6 with (go_at_call 55; (with_reducible refine HSp.out.mono ?_); rintro e w1 ⟨xS, rfl, ⟨H, cS, rfl, hoS⟩, hE1⟩; have HoS := Lib.hid hoS; have HE1 := Lib.hid hE1; clear hoS hE1)
  have HR0 := Lib.hid (rdS_own HoS.out)
  have hHb : W0.heap.size ≤ H ∧ H < w1.heap.size := own_blk HoS.out rfl
  have hz := Hz0'.out
  have hH2 : D < H := by omega
  clear HoS hz
  obtain ⟨b1, hb1⟩ : ∃ b1, b1 = w1.heap.size := ⟨_, rfl⟩
  have Hb1 := Lib.hid hb1
  have hHb1 : H < b1 := by omega
  clear hb1 hHb
  go_wp2_with fail
  go_loopw [5, 7] (fun o i wr => ∃ (n : Nat) (nms : List (List UInt8)) (r : Rec) (ao : Option Addr) (cv : Nat), nms.length = n ∧ n ≤ S.length ∧ i = .int .i64 (n : Int) ∧ o = .slice ao n cv ∧ wr.ownsRow b1 9 1 (.slice ao n cv) n (sv nms) ∧ RcB r D wr ∧ wr.there D 0 14 ∧ wr.there w.heap.size 0 14 ∧ PSt (FFp w.heap.size D (.slice ao n cv)) r wr ∧ RdS S H 0 wr ∧ Ext w wr ∧ b1 ≤ wr.heap.size ∧ runZ untZ vldR (S.drop n) nms.reverse r.D = Rz) (fun _ i _ => S.length - (intOf i).toNat)
  case atStart => exact ⟨0, [], Rec.strt, none, 0, rfl, Nat.zero_le _, rfl, rfl, World.ownsRow_nil _ _ _ _, HBD.out.ext HE1.out, thr_ext HTD.out HBD.out.1 HE1.out, thr_ext HTC.out (by have := HBD.out.1; omega) HE1.out, (fun W _ => strt_v W), HR0.out, HE0.out.trans HE1.out, by have := Hb1.out; omega, HRun0.out⟩
  case round =>
    obtain ⟨n, nms, r, ao, cv, hnl, hn, rfl, rfl, hown, hBD, hTD, hTC, hPS, hRd, hE, hbw, hRun⟩ := hrel
    have Hnl := Lib.hid hnl
    have Hown := Lib.hid hown
    have HBD := Lib.hid hBD
    have HTD := Lib.hid hTD
    have HTC := Lib.hid hTC
    have HPS := Lib.hid hPS
    have HRd := Lib.hid hRd
    have HE := Lib.hid hE
    have HRun := Lib.hid hRun
    have hDl := hBD.1
    have hBr := hBD.2
    have hHl := hRd.1
    have hCl : w.heap.size < wr.heap.size := by omega
    have hrs := rec_size r
    have hcvs : n ≤ cv ∧ cv ≤ maxLen := by
      rcases hown.2 with ⟨h, _⟩ | ⟨g, cap, cur, h, _, _, hle, hmx, _⟩
      · injection h with h1 h2 h3; rw [h2, h3]; exact ⟨Nat.le_refl _, Nat.zero_le _⟩
      · injection h with h1 h2 h3; rw [h3]; exact ⟨hle, hmx⟩
    clear hnl hown hBD hTD hTC hPS hE hRun HRun0
    by_cases hlt : n < S.length
    · have x0 := hRd.2 n hlt
      rw [Nat.zero_add] at x0
      have hpl := HL.out _ (List.getElem_mem hlt)
      have hrc := HRun.out
      rw [List.drop_eq_getElem_cons hlt, runZ_cons] at hrc
      replace hrc := hrc.symm
      obtain ⟨p, hp⟩ : ∃ p, p = S[n] := ⟨_, rfl⟩
      rw [← hp] at x0 hpl hrc
      have Hrc := Lib.hid hrc
      have hpl2 : p.length ≤ 4000 := by omega
      clear hp hrc hRd hpl
      go_wp2_with fail
      obtain ⟨V, hV⟩ : ∃ V, V = wr := ⟨_, rfl⟩
      rw [← hV] at Hown HBD HTD HTC HPS HRd HE hDl hBr hHl hCl hbw x0 ⊢
      clear hV wr
      go_loopw [8] (fun i wy => ∃ k : Nat, k ≤ p.length ∧ i = .int .i64 (k : Int) ∧ Hid (∀ i (hi : i < p.length), i < k → p[i] ≠ 61) ∧ V = wy) (fun i _ => p.length - (intOf i).toNat)
      case atStart => exact ⟨0, Nat.zero_le _, rfl, (fun i hi q => by omega), rfl⟩
      case round =>
        obtain ⟨k, hk, rfl, Hb, rfl⟩ := hrel
        by_cases hk2 : k < p.length
        · obtain ⟨x, hx⟩ : ∃ x, x = p[k] := ⟨_, rfl⟩
          have bg := bget p k hk2 x hx
          have Hx := Lib.hid hx
          clear hx
          by_cases hc : x = 61
          · have z1 : ((x.toNat : Int) == 61) = true := by rw [hc]; rfl
            have z2 : ((x.toNat : Int) != 61) = false := by rw [hc]; rfl
            have hcut := cut_atq hk2 Hb.out (Hx.out.symm.trans hc)
            have hkl : k ≤ p.length := hk
            have hkl2 : k + 1 ≤ p.length := hk2
            have hA0 := ext_take p k
            have hB0 := ext_drop p (k + 1)
            have hAl : (p.take k).length ≤ 4000 := by rw [List.length_take]; omega
            have hBlen : (p.drop (k + 1)).length ≤ 4000 := by rw [List.length_drop]; omega
            have hrc := Hrc.out
            rw [hcut] at hrc
            obtain ⟨A, hA'⟩ : ∃ A, A = p.take k := ⟨_, rfl⟩
            obtain ⟨B, hB'⟩ : ∃ B, B = p.drop (k + 1) := ⟨_, rfl⟩
            rw [← hA'] at hA0 hAl hrc
            rw [← hB'] at hB0 hBlen hrc
            have hA : (⟨p.toArray⟩ : ByteArray).extract 0 k = ⟨A.toArray⟩ := hA0
            have hB : (⟨p.toArray⟩ : ByteArray).extract (k + 1) p.length = ⟨B.toArray⟩ := hB0
            rw [if_neg (by simp)] at hrc
            simp only at hrc
            obtain ⟨X, hX⟩ : ∃ X, X = prtZ untZ A B r.D := ⟨_, rfl⟩
            rw [← hX] at hrc
            have Hrc2 := Lib.hid hrc
            obtain ⟨FF, hFF⟩ : ∃ FF, FF = FFp w.heap.size D (.slice ao n cv) := ⟨_, rfl⟩
            have HFF := Lib.hid hFF
            have HPt : Hid (∀ f w', Ext V w' → (∀ E, f 18 = some (.pointer (some ⟨E, 0, none⟩)) → V.heap.size ≤ E ∧ E < w'.heap.size) → Calls Tryz.prog 21 #[.string ⟨A.toArray⟩, .string ⟨B.toArray⟩, .agg r.vals.toArray] w' fun e w'' => ∃ x, e = .returned x ∧ PrQ (FJ FF f) X x w'' ∧ Ext w' w'') := fun f w' hE' h18 => by
              rw [hX, hFF]
              refine rpart_q A B r _ w' (by omega) (fun b q => ?_) (fun W hW => HPS.out W (Frm.below hE' hW (fun k hk q => ?_)))
              · rcases q with q | q
                · rcases q with q | q | q
                  · have := hE'.size; omega
                  · have := hE'.size; omega
                  · have := (own_blk Hown.out q).2; have := hE'.size; omega
                · exact (h18 b q).2
              · rcases q with q | q
                · exact q
                · have := (h18 k q).1; omega
            obtain ⟨c, hc⟩ : ∃ c, c = prC2 X := ⟨_, rfl⟩
            have HX := Lib.hid hX
            have hk1 : IntKind.i64.wrap ((k : Int) + 1) = ((k + 1 : Nat) : Int) := by
              simp [IntKind.wrap, IntKind.bits]
              omega
            have tk : ((k : Int) == (p.length : Int)) = false := by rw [beq_eq_false_iff_ne]; omega
            clear hA0 hB0 hA' hB' hrc hX hFF hcut
            go_upto_region 14 with fail
            go_cut [9, 10] from 50 to 67 (fun x y wx => ∃ (E : Nat) (q : Rec) (wz : World), x = .pointer (some ⟨E, 0, none⟩) ∧ y = .int .i64 c ∧ q.D = prD2 X ∧ PSt (fun b => FF b ∨ b = E) q wz ∧ Ext V wz ∧ V.heap.size ≤ E ∧ Frm (fun k => k = E) wz wx ∧ E < wx.heap.size ∧ wx.rangeAt E 0 q.vals)
            case first =>
              refine wp_region_growT [51, 52, 53, 54, 55, 56, 57, 58, 59, 60, 61, 62, 63, 64, 65, 50, 66, 67, 9] [fun x _ => x = .slice (some ⟨H, 0, none⟩) S.length cS, fun x _ => x = .int .i64 (n : Int), fun x _ => x = .pointer (some ⟨H, n, none⟩), fun x _ => x = .string ⟨p.toArray⟩, fun x _ => x = .int .i64 (k : Int), fun x _ => x = .string ⟨A.toArray⟩, fun x _ => x = .slice (some ⟨H, 0, none⟩) S.length cS, fun x _ => x = .int .i64 (n : Int), fun x _ => x = .pointer (some ⟨H, n, none⟩), fun x _ => x = .string ⟨p.toArray⟩, fun x _ => x = .int .i64 (k : Int), fun x _ => x = .int .i64 ((k + 1 : Nat) : Int), fun x _ => x = .string ⟨B.toArray⟩, fun x _ => x = .agg r.vals.toArray, fun _ _ => True, fun _ _ => True, fun _ _ => True, fun x _ => x = .int .i64 c, AlR V.heap.size] (JP V FF X) 2 17 (by kernel_rfl) (by kernel_rfl) (by kernel_rfl) (by kernel_rfl) ?_ ?_ ?_ ?_ ?_ ?_
              · exact JP.start V FF X _
              · exact fun f g w h hJ => JP.congr h hJ
              · intro Rl hRl
                simp only [List.mem_cons, List.not_mem_nil, or_false] at hRl
                rcases hRl with rfl | rfl | rfl | rfl | rfl | rfl | rfl | rfl | rfl | rfl | rfl | rfl | rfl | rfl | rfl | rfl | rfl | rfl | rfl
                all_goals first
                  | exact fun _ _ _ h _ => h
                  | exact fun _ _ _ h hE => AlR.ext h hE
              · refine ⟨?_, ?_, ?_, ?_, ?_, ?_, ?_, ?_, ?_, ?_, ?_, ?_, ?_, ?_, ?_, ?_, ?_, ?_, ?_, trivial⟩
                all_goals intro a w f hE hF hD hJ hf K hK
                · exact gs_val rfl (yr_move rfl ((hF 6 (fr_of rfl)).trans rfl)) (hK _ _ rfl (Ext.refl _) (JP.ne (by decide) hJ (Ext.refl _)))
                · exact gs_val rfl (yr_move rfl ((hF 7 (fr_of rfl)).trans rfl)) (hK _ _ rfl (Ext.refl _) (JP.ne (by decide) hJ (Ext.refl _)))
                · have u51 : a.eval (.tmp 51) = .slice (some ⟨H, 0, none⟩) S.length cS := (hD 0 (by kernel_rfl)).1
                  have u52 : a.eval (.tmp 52) = .int .i64 (n : Int) := (hD 1 (by kernel_rfl)).1
                  exact gs_val rfl (yr_idxa rfl u51 u52 (ix_s H cS S.length n w hlt)) (hK _ _ rfl (Ext.refl _) (JP.ne (by decide) hJ (Ext.refl _)))
                · have u53 : a.eval (.tmp 53) = .pointer (some ⟨H, n, none⟩) := (hD 2 (by kernel_rfl)).1
                  exact gs_val rfl (yr_load rfl u53 (ld_st _ _ _ ((hE.cells H n hHl).trans x0))) (hK _ _ rfl (Ext.refl _) (JP.ne (by decide) hJ (Ext.refl _)))
                · exact gs_val rfl (yr_move rfl ((hF 8 (fr_of rfl)).trans rfl)) (hK _ _ rfl (Ext.refl _) (JP.ne (by decide) hJ (Ext.refl _)))
                · have u54 : a.eval (.tmp 54) = .string ⟨p.toArray⟩ := (hD 3 (by kernel_rfl)).1
                  have u55 : a.eval (.tmp 55) = .int .i64 (k : Int) := (hD 4 (by kernel_rfl)).1
                  exact gs_val rfl (yr_slt31 rfl u54 u55 (slh_s p A k w hkl hA)) (hK _ _ rfl (Ext.refl _) (JP.ne (by decide) hJ (Ext.refl _)))
                · exact gs_val rfl (yr_move rfl ((hF 6 (fr_of rfl)).trans rfl)) (hK _ _ rfl (Ext.refl _) (JP.ne (by decide) hJ (Ext.refl _)))
                · exact gs_val rfl (yr_move rfl ((hF 7 (fr_of rfl)).trans rfl)) (hK _ _ rfl (Ext.refl _) (JP.ne (by decide) hJ (Ext.refl _)))
                · have u57 : a.eval (.tmp 57) = .slice (some ⟨H, 0, none⟩) S.length cS := (hD 6 (by kernel_rfl)).1
                  have u58 : a.eval (.tmp 58) = .int .i64 (n : Int) := (hD 7 (by kernel_rfl)).1
                  exact gs_val rfl (yr_idxa rfl u57 u58 (ix_s H cS S.length n w hlt)) (hK _ _ rfl (Ext.refl _) (JP.ne (by decide) hJ (Ext.refl _)))
                · have u59 : a.eval (.tmp 59) = .pointer (some ⟨H, n, none⟩) := (hD 8 (by kernel_rfl)).1
                  exact gs_val rfl (yr_load rfl u59 (ld_st _ _ _ ((hE.cells H n hHl).trans x0))) (hK _ _ rfl (Ext.refl _) (JP.ne (by decide) hJ (Ext.refl _)))
                · exact gs_val rfl (yr_move rfl ((hF 8 (fr_of rfl)).trans rfl)) (hK _ _ rfl (Ext.refl _) (JP.ne (by decide) hJ (Ext.refl _)))
                · have u61 : a.eval (.tmp 61) = .int .i64 (k : Int) := (hD 10 (by kernel_rfl)).1
                  exact gs_val rfl (yr_add30 rfl u61 rfl hk1) (hK _ _ rfl (Ext.refl _) (JP.ne (by decide) hJ (Ext.refl _)))
                · have u60 : a.eval (.tmp 60) = .string ⟨p.toArray⟩ := (hD 9 (by kernel_rfl)).1
                  have u62 : a.eval (.tmp 62) = .int .i64 ((k + 1 : Nat) : Int) := (hD 11 (by kernel_rfl)).1
                  exact gs_val rfl (yr_slf31 rfl u60 u62 (sll_s p B (k + 1) w hkl2 hB)) (hK _ _ rfl (Ext.refl _) (JP.ne (by decide) hJ (Ext.refl _)))
                · exact gs_val rfl (yr_load rfl ((hF 4 (fr_of rfl)).trans rfl) (run_loadAt_mid w D 0 _ _ _ ((HBD.out.ext hE).2) Tryz.underlying25 rfl hrs)) (hK _ _ rfl (Ext.refl _) (JP.ne (by decide) hJ (Ext.refl _)))
                · have u56 : a.eval (.tmp 56) = .string ⟨A.toArray⟩ := (hD 5 (by kernel_rfl)).1
                  have u63 : a.eval (.tmp 63) = .string ⟨B.toArray⟩ := (hD 12 (by kernel_rfl)).1
                  have u64 : a.eval (.tmp 64) = .agg r.vals.toArray := (hD 13 (by kernel_rfl)).1
                  have q0 : a.eval (.tmp 56) = .string ⟨A.toArray⟩ := u56
                  have q1 : a.eval (.tmp 63) = .string ⟨B.toArray⟩ := u63
                  have q2 : a.eval (.tmp 64) = .agg r.vals.toArray := u64
                  exact gs_call rfl (yr_call rfl rfl (show (#[Operand.tmp 56, Operand.tmp 63, Operand.tmp 64] : Array Operand).map a.eval = #[.string ⟨A.toArray⟩, .string ⟨B.toArray⟩, .agg r.vals.toArray] by simp only [List.map_toArray, List.map_cons, List.map_nil, q0, q1, q2] <;> rfl) (by kernel_rfl)) (HPt.out f w hE hJ.1) (fun v w' h1 h2 => hK v w' trivial h2 (hJ.call hf h1 h2))
                · have q65 := (hD 14 (by kernel_rfl)).2
                  exact gs_val rfl (yr_move rfl rfl) (hK _ _ trivial (Ext.refl _) (hJ.move q65))
                · obtain ⟨q, q50, hJ2⟩ := hJ.tu (hD 15 (by kernel_rfl)).2
                  exact gs_val rfl (yr_ext31 rfl q50 rfl) (hK _ _ trivial (Ext.refl _) hJ2)
                · obtain ⟨q, q50, -⟩ := hJ.tu (hD 15 (by kernel_rfl)).2
                  exact gs_val rfl (yr_ext31 rfl q50 rfl) (hK _ _ (show Value.int .i64 (prC2 X) = .int .i64 c by rw [hc]) (Ext.refl _) (JP.ne (by decide) hJ (Ext.refl _)))
                · exact gs_mkE rfl (al_rec _ _ _ rfl) (hK _ _ (AlR.new hE.size) ((Ext.refl _).alloc _) (hJ.alloc _ hf hE.size))
              · intro vals wz hEz hRz hJz i hi hr
                obtain ⟨-, -, -, -, -, -, -, -, -, -, -, -, -, -, -, -, -, -, h18, -⟩ := hRz
                have h18 := h18 (by decide)
                obtain ⟨E, e9, hEb, hEl, hEt⟩ := h18
                obtain rfl : i = 19 := by
                  have hr2 : i ∈ [17, 19] := mem_of_eq30 (by kernel_rfl) hr
                  simp only [List.mem_cons, List.not_mem_nil, or_false] at hr2
                  have hi2 : 19 ≤ i := hi
                  omega
                obtain ⟨q50, hq50, -⟩ := hJz.tu (show (if (15 : Nat) = 17 then none else some (vals 15)) = some (vals 15) from rfl)
                obtain ⟨q, e66, hqD, hqS⟩ := JP.fin (E := E) hJz rfl (show (if (18 : Nat) = 17 then none else some (vals 18)) = some (.pointer (some ⟨E, 0, none⟩)) by rw [← e9]; rfl)
                simp only [putF, Act.put, List.length_cons, List.length_nil, List.getD_cons_zero, List.getD_cons_succ, List.setIfInBounds_toArray, List.set_cons_zero, List.set_cons_succ, Nat.reduceAdd, e9, e66, hq50]
                refine wpOp_of (o := ⟨none, .store 25 (.tmp 9) (.tmp 66), _, _, _, _⟩) rfl (by rfl) ?_
                refine wp_store_gen30 25 (.tmp 9) (.tmp 66) rfl E q.vals rfl rfl hEl hEt (rec_size q) (rec_all1 q) ?_
                intro W4 hF4 hl4 hr4
                refine wpAny_one (i := 17) (o := ⟨some 67, .extract (.tmp 50) 1, _, _, _, _⟩) (by kernel_rfl) rfl (by rfl) (by exact yr_ext31 rfl rfl rfl) ?_
                refine wpAny_one (i := 20) (o := ⟨some 10, .assign (.tmp 67), _, _, _, _⟩) (by kernel_rfl) rfl (by rfl) (by exact yr_assign rfl rfl) ?_
                refine wpAny_done (by kernel_rfl) ?_ _
                simp only [Act.put, List.setIfInBounds_toArray, List.set_cons_zero, List.set_cons_succ, ← hc]
                go_wp2_with fail
                go_meet
                exact ⟨E, q, wz, rfl, by rw [hc], hqD, hqS, hEz, hEb, hF4, hl4, hr4⟩
              intro vals wz hEz hRz hJz
              obtain ⟨-, -, -, -, -, -, -, -, -, -, -, -, -, -, -, -, -, h17, h18, -⟩ := hRz
              have e67 : vals 17 = .int .i64 c := h17
              obtain ⟨E, e9, hEb, hEl, hEt⟩ := h18
              simp only [putF, Act.put, List.length_cons, List.length_nil, List.getD_cons_zero, List.getD_cons_succ, List.setIfInBounds_toArray, List.set_cons_zero, List.set_cons_succ, Nat.reduceAdd, e67, e9]
              obtain ⟨q, e66, hqD, hqS⟩ := JP.fin (E := E) hJz rfl (show some (vals 18) = some (.pointer (some ⟨E, 0, none⟩)) by rw [e9])
              simp only [e66]
              refine wpAny_op (i := 19) (o := ⟨none, .store 25 (.tmp 9) (.tmp 66), _, _, _, _⟩) (by kernel_rfl) rfl (by rfl) ?_
              refine wp_store_gen30 25 (.tmp 9) (.tmp 66) rfl E q.vals rfl rfl hEl hEt (rec_size q) (rec_all1 q) ?_
              intro W4 hF4 hl4 hr4
              refine wpAny_one (i := 20) (o := ⟨some 10, .assign (.tmp 67), _, _, _, _⟩) (by kernel_rfl) rfl (by rfl) (by exact yr_assign rfl rfl) ?_
              refine wpAny_done (by kernel_rfl) ?_ _
              simp only [Act.put, List.setIfInBounds_toArray, List.set_cons_zero, List.set_cons_succ]
              go_wp2_with fail
              go_meet
              exact ⟨E, q, wz, rfl, by rw [hc], hqD, hqS, hEz, hEb, hF4, hl4, hr4⟩
            case rest =>
            obtain ⟨E, q, wz, rfl, rfl, hqD, hqS, hEz, hEb, hF4, hl4, hr4⟩ := hcut
            obtain ⟨W4, hW4⟩ : ∃ W4, W4 = wc := ⟨_, rfl⟩
            subst hW4
            have hEz4 : Ext V W4 := Frm.far hEz hF4 (fun k hk e => by omega)
            have HEz := Lib.hid hEz
            have HEz4 := Lib.hid hEz4
            have hT4 := thr_ext HTC.out hCl hEz4
            have hC4 := hEz4.lt hCl
            have HqS : Hid (PSt FF q W4) := fun W hF => hqS W ((hF4.mono (fun b _ q => (show FF b ∨ b = E from .inr q))).trans (hF.mono (fun b _ q => .inl q)))
            have HqD := Lib.hid hqD
            have HF4 := Lib.hid hF4
            have hqs := rec_size q
            have hq1 := rec_all1 q
            clear hqS hqD hEz hEz4 hF4 HPt
            cases X with
            | er c' =>
              have HR := Lib.hid (HEr.out c' Hrc2.out)
              have h7 := prtZ_er HX.out.symm
              have hcc : c = (c' : Int) := hc
              subst hcc
              have t2 : ((c' : Int) != 0) = true := by rw [bne_iff_ne]; omega
              have t3 : ((c' : Int) == 0) = false := by rw [beq_eq_false_iff_ne]; omega
              clear h7 hc hr4
              go_wp2_with (refine wpList_store_gen (op := ⟨none, .store 25 (.tmp 2) (.tmp 70), _, _, _, _⟩) rfl 25 _ _ rfl w.heap.size Rec.zero.vals rfl rfl hC4 hT4 hzs hz1 ?_; intro W9 hFW9 hlW9 hrW9)
              refine bodyPost_ret (results_ct rfl rfl rfl (run_loadVar_mid W9 w.heap.size 0 25 _ _ hrW9 Tryz.underlying25 rfl hzs)) rfl (HR.out _ _ ⟨rfl, Frm.far (HE.out.trans HEz4.out) hFW9 (fun k hk e => by omega)⟩)
            | ok D' =>
              have hcc : c = 0 := hc
              subst hcc
              clear hc
              have hq := Hrc2.out
              simp only at hq
              obtain ⟨pl, hpl⟩ : ∃ pl, plW nms A = pl := ⟨_, rfl⟩
              have HPl := Lib.hid (rplace_own nms n b1 ao cv A pl W4 Hnl.out (own_ext Hown.out HEz4.out) (by omega) hpl)
              by_cases hsn : A ∈ nms
              · rw [if_pos (by simpa using hsn)] at hq
                have HR := Lib.hid (HEr.out 8 hq)
                have hpp : pl ≠ 0 := by rw [← hpl]; exact fun e => (plW_zero.1 e) hsn
                have t4 : decide (0 < pl) = true := decide_eq_true (by omega)
                have t5 : decide ((0 : Int) < (pl : Int)) = true := decide_eq_true (by omega)
                have x4 := (HEz4.out.cells H n hHl).trans x0
                have hH4 := HEz4.out.lt hHl
                clear hq hpl hpp hsn hr4
                go_wp2_with (first
                  | (go_at_call 56; (with_reducible refine HPl.out.mono ?_); rintro e wp ⟨rfl, rfl⟩)
                  | (refine wpList_store_gen (op := ⟨none, .store 25 (.tmp 2) (.tmp 81), _, _, _, _⟩) rfl 25 _ _ rfl w.heap.size Rec.zero.vals rfl rfl hC4 hT4 hzs hz1 ?_; intro W9 hFW9 hlW9 hrW9))
                refine bodyPost_ret (results_ct rfl rfl rfl (run_loadVar_mid W9 w.heap.size 0 25 _ _ hrW9 Tryz.underlying25 rfl hzs)) rfl (HR.out _ _ ⟨rfl, Frm.far (HE.out.trans HEz4.out) hFW9 (fun k hk e => by omega)⟩)
              · rw [if_neg (by simpa using hsn)] at hq
                have HRn := Lib.hid hq
                have hpp : pl = 0 := by rw [← hpl]; exact plW_zero.2 hsn
                have t4 : decide (0 < pl) = false := decide_eq_false (by omega)
                have t5 : decide ((0 : Int) < (pl : Int)) = false := decide_eq_false (by omega)
                have x4 := (HEz4.out.cells H n hHl).trans x0
                have hH4 := HEz4.out.lt hHl
                have hown4 := own_ext Hown.out HEz4.out
                have hb4 : b1 ≤ W4.heap.size := by have := HEz4.out.size; omega
                have hTD4 := thr_ext HTD.out hDl HEz4.out
                have hD4 := HEz4.out.lt hDl
                have hE4l := hl4
                clear hq hpl hpp hsn
                go_upto_region 20 with (first
                  | (go_at_call 56; (with_reducible refine HPl.out.mono ?_); rintro e wp ⟨rfl, rfl⟩)
                  | (at_builtin; refine wpList_append_own_at _ rfl _ _ 55 rfl b1 9 i0 (.string .empty) 1 16 Tryz.underlying55 Hi.out Hz0.out Hz1.out Hz2.out rfl (by decide) _ _ _ rfl (hown4.alloc _) ⟨W4.heap.size, 0, none⟩ 1 1 [.string ⟨A.toArray⟩] rfl rfl (cell_one_new _ _ _) (fun x hx => by simp at hx; subst hx; rfl) (by unfold maxLen; omega) (by omega) (by simp; omega) ?_; intro v5 w5 hown5 hgrow5 hnil5 hob5))
                obtain ⟨a5, c5, rfl⟩ := own_slice hown5
                have hEa : Ext W4 (W4.alloc (.cells #[.string ⟨A.toArray⟩] 9)) := (Ext.refl _).alloc _
                have hF5 : Frm (fun b => (Value.slice ao n cv).ownBlock = some b) W4 w5 := (Frm.of_ext hEa).trans (grown_frm hgrow5)
                have hnO : ∀ b, (Value.slice ao n cv).ownBlock = some b → b1 ≤ b ∧ b < V.heap.size := fun b q => own_blk Hown.out q
                have hT5 := there_frm hTD4 hD4 hF5 (fun q => by have := hnO _ q; omega)
                have hTC5 := there_frm hT4 hC4 hF5 (fun q => by have := hnO _ q; omega)
                have hD5 := hF5.lt hD4
                have hC5 := hF5.lt hC4
                have hrE5 := (range_frm ⟨hE4l, hr4⟩ hF5 (fun q => by have := hnO _ q; omega)).2
                have HF5 := Lib.hid hF5
                have Hown5 := Lib.hid hown5
                have Hgr5 := Lib.hid hgrow5
                have Hob5 := Lib.hid hob5
                have HEa := Lib.hid hEa
                have HnO := Lib.hid hnO
                clear hown5 hgrow5 hob5 hnil5 hEa hF5 hr4 hown4 hnO x4
                go_wp2_with (first
                  | (refine load_midg (by rfl) 25 _ rfl E 0 rfl q.vals _ hrE5 Tryz.underlying25 rfl hqs ?_)
                  | (refine wpList_store_gen2 (op := ⟨none, .store 25 (.tmp 4) (.tmp 91), _, _, _, _⟩) rfl 25 _ _ rfl D q.vals rfl rfl hD5 hT5 hqs hq1 ?_; intro W6 hFW6 hlW6 hrW6 hthW6))
                have HEz : Hid (Ext w W6) := Frm.far (Frm.far (HE.out.trans HEz4.out) HF5.out (fun k hk e => by have := HnO.out _ e; omega)) hFW6 (fun k hk e => by omega)
                have HRdz : Hid (RdS S H 0 W6) := by
                  have h1 := HRd.out.ext HEz4.out
                  have h2 : RdS S H 0 w5 := ⟨HF5.out.lt h1.1, fun i hi => (HF5.out.cel h1.1 (fun q => by have := HnO.out _ q; omega) _).trans (h1.2 i hi)⟩
                  exact ⟨hFW6.lt h2.1, fun i hi => (hFW6.cel h2.1 (by omega) _).trans (h2.2 i hi)⟩
                have HOz : Hid (W6.ownsRow b1 9 1 (.slice a5 (n + 1) c5) (n + 1) (sv (nms ++ [A]))) := by
                  rw [Hid, sv_app]
                  exact own_frm30 Hown5.out hFW6 (fun k q e => by have := (own_blk Hown5.out q).1; omega)
                have HPz : Hid (PSt (FFp w.heap.size D (.slice a5 (n + 1) c5)) q W6) := by
                  have h := HqS.out
                  rw [HFF.out] at h
                  exact h.step HEa.out Hgr5.out Hob5.out hFW6
                go_roundw
                case rel => exact ⟨n + 1, nms ++ [A], q, a5, c5, by rw [List.length_append, Hnl.out]; rfl, hlt, by go_num, rfl, HOz.out, ⟨hlW6, hrW6⟩, hthW6, there_frm hTC5 hC5 hFW6 (by omega), HPz.out, HRdz.out, HEz.out, by have := HEz4.out.size; have := HF5.out.size; have := hFW6.size; omega, by rw [List.reverse_append, List.reverse_singleton, HqD.out]; exact HRn.out.symm⟩
                case measure => simp [intOf]; omega
          · have z1 : ((x.toNat : Int) == 61) = false := by
              rw [beq_eq_false_iff_ne]; intro q; exact hc (UInt8.toNat_inj.1 (by have : (61 : UInt8).toNat = 61 := rfl; omega))
            have z2 : ((x.toNat : Int) != 61) = true := by
              rw [bne_iff_ne]; intro q; exact hc (UInt8.toNat_inj.1 (by have : (61 : UInt8).toNat = 61 := rfl; omega))
            have HB2 : Hid (∀ i (hi : i < p.length), i < k + 1 → p[i] ≠ 61) := fun i hi q => by
              by_cases e : i = k
              · subst e; rw [← Hx.out]; exact hc
              · exact Hb.out i hi (by omega)
            clear hc
            go_wp2_with fail
            go_roundw
            case rel => exact ⟨k + 1, by omega, by go_num, HB2, by first | rfl | trivial⟩
            case measure => simp [intOf]; omega
        · obtain rfl : k = p.length := by omega
          have hcut := cut_noq (p := p) (fun i hi => Hb.out i hi hi)
          have hrc := Hrc.out
          rw [hcut, if_pos rfl] at hrc
          have HR := Lib.hid (HEr.out 3 hrc)
          clear hrc hcut
          go_wp2_with (refine wpList_store_gen (op := ⟨none, .store 25 (.tmp 2) (.tmp 49), _, _, _, _⟩) rfl 25 _ _ rfl w.heap.size Rec.zero.vals rfl rfl hCl HTC.out hzs hz1 ?_; intro W9 hFW9 hlW9 hrW9)
          refine bodyPost_ret (results_ct rfl rfl rfl (run_loadVar_mid W9 w.heap.size 0 25 _ _ hrW9 Tryz.underlying25 rfl hzs)) rfl (HR.out _ _ ⟨rfl, Frm.far HE.out hFW9 (fun k hk e => by omega)⟩)
    · obtain rfl : n = S.length := by omega
      have hrn := HRun.out
      rw [List.drop_length] at hrn
      have hrn : Rz = if ptW.getD 0 [] ∈ nms.reverse then (if vldR r.D = true then .ok r.D else .er 1) else .er 4 := hrn.symm
      have HPS0 := HPS.out.v
      obtain ⟨pl, hpl⟩ : ∃ pl, plW nms (ptW.getD 0 []) = pl := ⟨_, rfl⟩
      have HPl : Hid (Calls Tryz.prog 56 #[.slice ao S.length cv, .string ⟨#[70, 82, 69, 81]⟩] wr fun e w' => e = .returned (.int .i64 (pl : Int)) ∧ wr = w') := rplace_own nms S.length b1 ao cv (ptW.getD 0 []) pl wr Hnl.out Hown.out (by omega) hpl
      by_cases hsn : ptW.getD 0 [] ∈ nms
      · rw [if_pos (by simpa using hsn)] at hrn
        have hpp : pl ≠ 0 := by rw [← hpl]; exact fun e => (plW_zero.1 e) hsn
        have t4 : ((pl : Int) == 0) = false := by rw [beq_eq_false_iff_ne]; omega
        rcases Bool.eq_false_or_eq_true (vldR r.D) with hv | hv
        · rw [if_pos hv] at hrn
          have HO := Lib.hid (HOk.out r.D hrn)
          have HV := Lib.hid (rvalid29_c r true wr HPS0 hv)
          have hr1 := rec_all1 r
          have hTC := HTC.out
          clear hrn hv hsn HPS0 hpl hpp hRd
          go_wp2_with (first
            | (go_at_call 56; (with_reducible refine HPl.out.mono ?_); rintro e wp ⟨rfl, rfl⟩)
            | (refine load_midg (by rfl) 25 _ rfl D 0 rfl r.vals _ hBr2 Tryz.underlying25 rfl hrs ?_)
            | (refine load_midg (by rfl) 25 _ rfl D 0 rfl r.vals _ hBr Tryz.underlying25 rfl hrs ?_)
            | (go_at_call 30; (with_reducible refine HV.out.mono ?_); rintro e w2 ⟨rfl, hE2⟩; have hB2 := HBD.out.ext hE2; have hBr2 := hB2.2; have hT2 := thr_ext hTC hCl hE2; have hC2 := hE2.lt hCl)
            | (refine wpList_store_gen (op := ⟨none, .store 25 (.tmp 2) (.tmp 100), _, _, _, _⟩) rfl 25 _ _ rfl w.heap.size r.vals rfl rfl hC2 hT2 hrs hr1 ?_; intro W9 hFW9 hlW9 hrW9))
          refine bodyPost_ret (results_ct rfl rfl rfl (run_loadVar_mid W9 w.heap.size 0 25 _ _ hrW9 Tryz.underlying25 rfl hrs)) rfl (HO.out _ _ r rfl rfl (HPS.out W9 ((Frm.of_ext hE2).trans (hFW9.mono (fun b _ q => .inl q)))) (Frm.far (HE.out.trans hE2) hFW9 (fun k hk e => by omega)))
        · rw [if_neg (by rw [hv]; simp)] at hrn
          have HR := Lib.hid (HEr.out 1 hrn)
          have HV := Lib.hid (rvalid29_c r false wr HPS0 hv)
          have hTC := HTC.out
          clear hrn hv hsn HPS0 hpl hpp hRd
          go_wp2_with (first
            | (go_at_call 56; (with_reducible refine HPl.out.mono ?_); rintro e wp ⟨rfl, rfl⟩)
            | (refine load_midg (by rfl) 25 _ rfl D 0 rfl r.vals _ hBr Tryz.underlying25 rfl hrs ?_)
            | (go_at_call 30; (with_reducible refine HV.out.mono ?_); rintro e w2 ⟨rfl, hE2⟩; have hT2 := thr_ext hTC hCl hE2; have hC2 := hE2.lt hCl)
            | (refine wpList_store_gen (op := ⟨none, .store 25 (.tmp 2) (.tmp 99), _, _, _, _⟩) rfl 25 _ _ rfl w.heap.size Rec.zero.vals rfl rfl hC2 hT2 hzs hz1 ?_; intro W9 hFW9 hlW9 hrW9))
          refine bodyPost_ret (results_ct rfl rfl rfl (run_loadVar_mid W9 w.heap.size 0 25 _ _ hrW9 Tryz.underlying25 rfl hzs)) rfl (HR.out _ _ ⟨rfl, Frm.far (HE.out.trans hE2) hFW9 (fun k hk e => by omega)⟩)
      · rw [if_neg (by simpa using hsn)] at hrn
        have HR := Lib.hid (HEr.out 4 hrn)
        have hpp : pl = 0 := by rw [← hpl]; exact plW_zero.2 hsn
        have t4 : ((pl : Int) == 0) = true := by rw [hpp]; rfl
        have hTC := HTC.out
        clear hrn hsn HPS0 hpl hpp hRd
        go_wp2_with (first
          | (go_at_call 56; (with_reducible refine HPl.out.mono ?_); rintro e wp ⟨rfl, rfl⟩)
          | (refine wpList_store_gen (op := ⟨none, .store 25 (.tmp 2) (.tmp 95), _, _, _, _⟩) rfl 25 _ _ rfl w.heap.size Rec.zero.vals rfl rfl hCl hTC hzs hz1 ?_; intro W9 hFW9 hlW9 hrW9))
        refine bodyPost_ret (results_ct rfl rfl rfl (run_loadVar_mid W9 w.heap.size 0 25 _ _ hrW9 Tryz.underlying25 rfl hzs)) rfl (HR.out _ _ ⟨rfl, Frm.far HE.out hFW9 (fun k hk e => by omega)⟩)
end Go.Proofs.YtgndogpgfgliaaaGreatDoor
