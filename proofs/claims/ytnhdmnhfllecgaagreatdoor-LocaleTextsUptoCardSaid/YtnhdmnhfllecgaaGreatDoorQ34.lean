/- Locales: a locale's contents decide whether it is valid. -/
import Derived.Test.YtnhdmnhfllecgaaGreatDoorQ09
import Derived.Test.YtnhdmnhfllecgaaGreatDoorQ10
import Derived.Test.YtnhdmnhfllecgaaGreatDoorQ02
import Derived.Test.YtnhdmnhfllecgaaGreatDoorQ33
import Derived.Laws.CopyOwn
namespace Go.Proofs.YtnhdmnhfllecgaaGreatDoor
set_option linter.unusedVariables false
set_option linter.unusedSimpArgs false
open Go.RowKit

def Uni.sf (u : Uni) : Int × List Plu := (u.s, u.f)
def unS (q : Int × List Plu) : Uni := ⟨q.1, none, 0, q.2⟩
theorem uHead_strip (l : List Uni) : uHead (l.map fun u => unS u.sf) ↔ uHead l := by
  unfold uHead
  simp [unS, Uni.sf]
theorem unAt_strip (P : List Plu) (l : List Uni) (i : Nat) : unAt P (l.map fun u => unS u.sf) i ↔ unAt P l i := by
  unfold unAt
  simp [unS, Uni.sf]
theorem unB_iff (P : List Plu) (l : List Uni) : unB P l = true ↔ uHead l ∧ ∀ i, i < l.length → unAt P l i := by
  unfold unB
  exact @decide_eq_true_iff _ (_)
theorem unB_strip (P : List Plu) (l : List Uni) : unB P (l.map fun u => unS u.sf) = unB P l := by
  rw [Bool.eq_iff_iff, unB_iff, unB_iff, uHead_strip, List.length_map]
  exact ⟨fun q => ⟨q.1, fun i hi => (unAt_strip P l i).1 (q.2 i hi)⟩, fun q => ⟨q.1, fun i hi => (unAt_strip P l i).2 (q.2 i hi)⟩⟩
theorem unB_congr (P : List Plu) {l l' : List Uni} (h : l.map Uni.sf = l'.map Uni.sf) : unB P l = unB P l' := by
  rw [← unB_strip P l, ← unB_strip P l']
  have e : ∀ l : List Uni, (l.map fun u => unS u.sf) = (l.map Uni.sf).map unS := fun l => by simp
  rw [e, e, h]
/-- The locale's contents. -/
structure Dat (L : Loc) (D : LocD) : Prop where
  nm : L.nm = D.nm
  N : L.N = D.N
  P : L.P = D.P
  O : L.O = D.O
  U : L.U.map Uni.sf = D.loc.U.map Uni.sf
  pt : L.pt = D.pt
theorem Dat.valid {L : Loc} {D : LocD} (h : Dat L D) : validLB L = validLB D.loc := by
  unfold validLB
  rw [h.nm, h.N, h.P, h.O, h.pt, unB_congr _ h.U]
  rfl
theorem Dat.ulen {L : Loc} {D : LocD} (h : Dat L D) : L.U.length = D.U.length := by
  have := congrArg List.length h.U
  simpa [LocD.loc] using this
/-- Moderate sizes. -/
structure DSz (D : LocD) (k : Nat) : Prop where
  nm : D.nm.length ≤ 6000
  pt : D.pt.length ≤ 6000
  N : ∀ s ∈ D.N.all, s.length ≤ 6000
  P : ∀ p ∈ D.P, p.c.length ≤ 6000 ∧ p.r.length ≤ 6000
  O : ∀ p ∈ D.O, p.c.length ≤ 6000 ∧ p.r.length ≤ 6000
  F : ∀ u ∈ D.U, ∀ p ∈ u.f, p.c.length ≤ 6000 ∧ p.r.length ≤ 6000
  ok : D.N.ok
  nP : D.P.length ≤ k
  nO : D.O.length ≤ k
  nU : D.U.length ≤ k
theorem Dat.sh {L : Loc} {D : LocD} {k : Nat} (h : Dat L D) (hz : DSz D k) : shL L ∧ ∀ s ∈ L.N.all, s.length ≤ 2000000 := by
  refine ⟨⟨?_, ?_, ?_, ?_, ?_⟩, ?_⟩
  · rw [h.P]; intro p hp; have := hz.P p hp; omega
  · rw [h.O]; intro p hp; have := hz.O p hp; omega
  · intro u hu p hp
    have h1 : u.sf ∈ D.loc.U.map Uni.sf := by rw [← h.U]; exact List.mem_map.2 ⟨u, hu, rfl⟩
    obtain ⟨v, hv, e⟩ := List.mem_map.1 h1
    obtain ⟨d, hd, rfl⟩ := List.mem_map.1 (show v ∈ D.U.map UniD.uni from hv)
    have e2 : u.f = d.f := by
      have := congrArg Prod.snd e
      exact this.symm
    rw [e2] at hp
    have := hz.F d hd p hp
    omega
  · rw [h.nm]; have := hz.nm; omega
  · rw [h.pt]; have := hz.pt; omega
  · rw [h.N]; intro s hs; have := hz.N s hs; omega
end Go.Proofs.YtnhdmnhfllecgaaGreatDoor
/- Locales: the walk of the reference's number, at 13 digits. -/
namespace Go.Proofs.YtnhdmnhfllecgaaGreatDoor
set_option linter.unusedVariables false
set_option linter.unusedSimpArgs false
open Go.RowKit

def numMN (s : List UInt8) : Nat := if numM 13 s then val s else 0
theorem numM_iff (s : List UInt8) : numM 13 s = true ↔ 1 ≤ s.length ∧ s.length ≤ 13 ∧ ¬ (s.head? = some 48 ∧ 1 < s.length) ∧ s.all isDg = true := by
  unfold numM
  simp only [Bool.and_eq_true, decide_eq_true_eq, Bool.not_eq_true', Bool.and_eq_false_iff, beq_eq_false_iff_ne, decide_eq_false_iff_not, ne_eq]
  constructor
  · rintro ⟨⟨⟨a, b⟩, c⟩, d⟩
    exact ⟨a, b, fun ⟨q1, q2⟩ => by rcases c with c | c; exact c q1; exact c q2, d⟩
  · rintro ⟨a, b, c, d⟩
    refine ⟨⟨⟨a, b⟩, ?_⟩, d⟩
    by_cases q : s.head? = some 48
    · exact .inr (fun q2 => c ⟨q, q2⟩)
    · exact .inl q
set_option maxRecDepth 100000 in
set_option maxHeartbeats 1000000 in
theorem rnumM_loop (s : List UInt8) (w : World) (h1 : 1 ≤ s.length) (h2 : s.length ≤ 13) (hz : ¬ (s.head? = some 48 ∧ 1 < s.length)) :
    Calls Tryz.prog 53 #[.string ⟨s.toArray⟩, .int .i64 13] w fun e w' => e = .returned (.tuple #[.int .i64 (numMN s : Nat), .bool (numM 13 s)]) ∧ w = w' := by
  have HB : Hid (∀ q, s.all isDg = q → numM 13 s = q) := by
    intro q hq
    rw [← hq, Bool.eq_iff_iff, numM_iff]
    exact ⟨fun h => h.2.2.2, fun h => ⟨h1, h2, hz, h⟩⟩
  have h0 : 0 < s.length := by omega
  have hne : s ≠ [] := by intro e; rw [e] at h0; simp at h0
  obtain ⟨c, hc⟩ : ∃ c, c = s[0] := ⟨_, rfl⟩
  have b0 := bget s 0 h0 c hc
  have t0 : (s == []) = false := by simpa using hne
  have d2 : decide (13 < (s.length : Int)) = false := by simp; omega
  have hcz : ¬ (c = 48 ∧ 1 < s.length) := by
    rintro ⟨q1, q2⟩
    refine hz ⟨?_, q2⟩
    rw [List.head?_eq_getElem?, List.getElem?_eq_getElem h0, ← hc, q1]
  clear hc hz
  by_cases hl1 : 1 < s.length
  · have d3 : decide (1 < (s.length : Int)) = true := by simp; omega
    have q1 : ((c.toNat : Int) == 48) = false := by
      rw [beq_eq_false_iff_ne]; intro e; exact hcz ⟨UInt8.toNat_inj.1 (by show c.toNat = 48; omega), hl1⟩
    clear hcz hne
    go_enter Tryz.func53, Tryz.ntmps53
    go_wp2_with fail
    go_loop [6, 7] (fun n i => ∃ k : Nat, k ≤ s.length ∧ i = .int .i64 (k : Int) ∧ n = .int .i64 (val (s.take k) : Int) ∧ Hid (∀ c ∈ s.take k, isDg c = true)) (fun _ i => s.length - (intOf i).toNat)
    case atStart => exact ⟨0, by omega, rfl, rfl, by intro c hc; simp at hc⟩
    case round =>
      obtain ⟨k, hk, rfl, rfl, Hd⟩ := hrel
      have hv0 : val (s.take k) < 10000000000000 := by
        have g2 := val_lt (s.take k) Hd.out
        have g3 : (s.take k).length ≤ 13 := by rw [List.length_take]; omega
        have g4 : (10 : Nat) ^ (s.take k).length ≤ 10 ^ 13 := Nat.pow_le_pow_right (by omega) g3
        have g5 : (10 : Nat) ^ 13 = 10000000000000 := rfl
        omega
      obtain ⟨v, hv⟩ : ∃ v, v = val (s.take k) := ⟨_, rfl⟩
      rw [← hv] at hv0 ⊢
      have Hv := Lib.hid hv
      clear hv
      by_cases hlt : k < s.length
      · have Hs := val_take_succ s k hlt
        have Ht : Hid (s.take (k + 1) = s.take k ++ [s[k]]) := List.take_succ_eq_append_getElem hlt
        have Hm : Hid (s[k] ∈ s) := List.getElem_mem _
        obtain ⟨x, hx⟩ : ∃ x, x = s[k] := ⟨_, rfl⟩
        have hi := bget s k hlt x hx
        rw [← hx] at Hs Ht Hm
        rw [← Hv.out] at Hs
        have Hs := Lib.hid Hs
        clear hx
        rcases Bool.eq_false_or_eq_true (isDg x) with hdx | hdx
        · have hd2 := isDg_iff.1 hdx
          have e1 : ¬ (x.toNat : Int) < 48 := by omega
          have e2 : ¬ 57 < (x.toNat : Int) := by omega
          have e3 : 48 ≤ (x.toNat : Int) := by omega
          have e4 : (x.toNat : Int) ≤ 57 := by omega
          have Hdx := Lib.hid hdx
          clear hd2 hdx
          go_wp2
          go_round
          case rel => exact ⟨k + 1, by omega, by go_num, by rw [Hs.out]; congr 1; omega, by
            intro c hc
            rw [Ht.out] at hc
            rcases List.mem_append.1 hc with q | q
            · exact Hd.out c q
            · rw [List.mem_singleton.1 q]; exact Hdx.out⟩
          case measure => simp [intOf]; omega
        · have hn2 : ¬ (48 ≤ x.toNat ∧ x.toNat ≤ 57) := by rw [← isDg_iff, hdx]; simp
          have HA : Hid (s.all isDg = false) := by
            rw [Hid, ← Bool.not_eq_true]
            intro q
            rw [List.all_eq_true.1 q x Hm.out] at hdx
            cases hdx
          have HB2 := Lib.hid (HB.out false HA.out)
          have HN : Hid (numMN s = 0) := by unfold Hid numMN; rw [HB2.out]; rfl
          clear hdx
          by_cases e1 : (x.toNat : Int) < 48
          · clear hn2
            go_wp2
            go_ret2
            exact ⟨by rw [HN.out, HB2.out]; rfl, rfl⟩
          · have e2 : 57 < (x.toNat : Int) := by omega
            clear hn2
            go_wp2
            go_ret2
            exact ⟨by rw [HN.out, HB2.out]; rfl, rfl⟩
      · obtain rfl : k = s.length := by omega
        have HA : Hid (s.all isDg = true) := by
          rw [Hid, List.all_eq_true]
          intro c hc
          exact Hd.out c (by rw [List.take_length]; exact hc)
        have HB2 := Lib.hid (HB.out true HA.out)
        have HN : Hid (v = numMN s) := by unfold Hid numMN; rw [HB2.out, if_pos rfl, Hv.out, List.take_length]
        go_wp2
        go_ret2
        exact ⟨by rw [HB2.out, ← HN.out]; rfl, rfl⟩
  · have d3 : decide (1 < (s.length : Int)) = false := by simp; omega
    clear hcz hne
    go_enter Tryz.func53, Tryz.ntmps53
    go_wp2_with fail
    go_loop [6, 7] (fun n i => ∃ k : Nat, k ≤ s.length ∧ i = .int .i64 (k : Int) ∧ n = .int .i64 (val (s.take k) : Int) ∧ Hid (∀ c ∈ s.take k, isDg c = true)) (fun _ i => s.length - (intOf i).toNat)
    case atStart => exact ⟨0, by omega, rfl, rfl, by intro c hc; simp at hc⟩
    case round =>
      obtain ⟨k, hk, rfl, rfl, Hd⟩ := hrel
      have hv0 : val (s.take k) < 10000000000000 := by
        have g2 := val_lt (s.take k) Hd.out
        have g3 : (s.take k).length ≤ 13 := by rw [List.length_take]; omega
        have g4 : (10 : Nat) ^ (s.take k).length ≤ 10 ^ 13 := Nat.pow_le_pow_right (by omega) g3
        have g5 : (10 : Nat) ^ 13 = 10000000000000 := rfl
        omega
      obtain ⟨v, hv⟩ : ∃ v, v = val (s.take k) := ⟨_, rfl⟩
      rw [← hv] at hv0 ⊢
      have Hv := Lib.hid hv
      clear hv
      by_cases hlt : k < s.length
      · have Hs := val_take_succ s k hlt
        have Ht : Hid (s.take (k + 1) = s.take k ++ [s[k]]) := List.take_succ_eq_append_getElem hlt
        have Hm : Hid (s[k] ∈ s) := List.getElem_mem _
        obtain ⟨x, hx⟩ : ∃ x, x = s[k] := ⟨_, rfl⟩
        have hi := bget s k hlt x hx
        rw [← hx] at Hs Ht Hm
        rw [← Hv.out] at Hs
        have Hs := Lib.hid Hs
        clear hx
        rcases Bool.eq_false_or_eq_true (isDg x) with hdx | hdx
        · have hd2 := isDg_iff.1 hdx
          have e1 : ¬ (x.toNat : Int) < 48 := by omega
          have e2 : ¬ 57 < (x.toNat : Int) := by omega
          have e3 : 48 ≤ (x.toNat : Int) := by omega
          have e4 : (x.toNat : Int) ≤ 57 := by omega
          have Hdx := Lib.hid hdx
          clear hd2 hdx
          go_wp2
          go_round
          case rel => exact ⟨k + 1, by omega, by go_num, by rw [Hs.out]; congr 1; omega, by
            intro c hc
            rw [Ht.out] at hc
            rcases List.mem_append.1 hc with q | q
            · exact Hd.out c q
            · rw [List.mem_singleton.1 q]; exact Hdx.out⟩
          case measure => simp [intOf]; omega
        · have hn2 : ¬ (48 ≤ x.toNat ∧ x.toNat ≤ 57) := by rw [← isDg_iff, hdx]; simp
          have HA : Hid (s.all isDg = false) := by
            rw [Hid, ← Bool.not_eq_true]
            intro q
            rw [List.all_eq_true.1 q x Hm.out] at hdx
            cases hdx
          have HB2 := Lib.hid (HB.out false HA.out)
          have HN : Hid (numMN s = 0) := by unfold Hid numMN; rw [HB2.out]; rfl
          clear hdx
          by_cases e1 : (x.toNat : Int) < 48
          · clear hn2
            go_wp2
            go_ret2
            exact ⟨by rw [HN.out, HB2.out]; rfl, rfl⟩
          · have e2 : 57 < (x.toNat : Int) := by omega
            clear hn2
            go_wp2
            go_ret2
            exact ⟨by rw [HN.out, HB2.out]; rfl, rfl⟩
      · obtain rfl : k = s.length := by omega
        have HA : Hid (s.all isDg = true) := by
          rw [Hid, List.all_eq_true]
          intro c hc
          exact Hd.out c (by rw [List.take_length]; exact hc)
        have HB2 := Lib.hid (HB.out true HA.out)
        have HN : Hid (v = numMN s) := by unfold Hid numMN; rw [HB2.out, if_pos rfl, Hv.out, List.take_length]
        go_wp2
        go_ret2
        exact ⟨by rw [HB2.out, ← HN.out]; rfl, rfl⟩
set_option maxRecDepth 100000 in
theorem rnumM_c (s : List UInt8) (w : World) (hs : s.length ≤ 7000) :
    Calls Tryz.prog 53 #[.string ⟨s.toArray⟩, .int .i64 13] w fun e w' => e = .returned (.tuple #[.int .i64 (numMN s : Nat), .bool (numM 13 s)]) ∧ w = w' := by
  by_cases hn : s.length < 1 ∨ 13 < s.length ∨ (s.head? = some 48 ∧ 1 < s.length)
  · have hb : numM 13 s = false := by
      rw [← Bool.not_eq_true, numM_iff]
      rintro ⟨a, b, c, _⟩
      rcases hn with q | q | q
      · omega
      · omega
      · exact c q
    have HN : Hid (numMN s = 0) := by unfold Hid numMN; rw [hb]; rfl
    by_cases h1 : s = []
    · subst h1
      clear hn
      go_enter Tryz.func53, Tryz.ntmps53
      go_wp2
      go_ret2
      exact ⟨by rw [HN.out, hb]; rfl, rfl⟩
    · have t0 : (s == []) = false := by simpa using h1
      have hl := List.length_pos_iff.2 h1
      by_cases h9 : 13 < s.length
      · have d2 : decide (13 < (s.length : Int)) = true := by simp; omega
        clear hn h1
        go_enter Tryz.func53, Tryz.ntmps53
        go_wp2
        go_ret2
        exact ⟨by rw [HN.out, hb]; rfl, rfl⟩
      · have d2 : decide (13 < (s.length : Int)) = false := by simp; omega
        obtain ⟨q1, q2⟩ : s.head? = some 48 ∧ 1 < s.length := by
          rcases hn with q | q | q
          · omega
          · omega
          · exact q
        have hs0 : s[0] = 48 := by
          rw [List.head?_eq_getElem?, List.getElem?_eq_getElem hl] at q1
          exact Option.some.inj q1
        have b0 := bget s 0 hl 48 hs0.symm
        have d3 : decide (1 < (s.length : Int)) = true := by simp; omega
        clear hn h1 q1 hs0
        go_enter Tryz.func53, Tryz.ntmps53
        go_wp2
        go_ret2
        exact ⟨by rw [HN.out, hb]; rfl, rfl⟩
  · exact rnumM_loop s w (by omega) (by omega) (fun q => hn (.inr (.inr q)))
end Go.Proofs.YtnhdmnhfllecgaaGreatDoor
/- Locales: the walks of what reads a line: a name, a number, names. -/
namespace Go.Proofs.YtnhdmnhfllecgaaGreatDoor
set_option linter.unusedVariables false
set_option linter.unusedSimpArgs false
open Go.RowKit

theorem frz_obj {w : World} {B : Nat} {cs : Array Value} {t : TypeId} (h : w.heap[B]? = some (.cells cs t (0, 0))) (o : Nat) : w.frozen? ⟨B, o, none⟩ = false := by
  unfold World.frozen?
  rw [h]
  simp
/-- What a closure makes of a line's tail. -/
def AccQ (st b B : Nat) (L : Loc) (D : LocD) (t : List UInt8) (w : World) (e : Ending) (w' : World) : Prop :=
  ∃ (bb : Bool) (L' : Loc), e = .returned (.bool bb) ∧ Stp L L' B w w' ∧ (bb = true → ∃ D', addL st D t = some D' ∧ LSw L' b B w' ∧ Dat L' D') ∧ (bb = false → addL st D t = none)
def AccS (st fid : Nat) (cap : Value) (b B : Nat) (Kd : Loc → World → Prop) : Prop :=
  (∀ (xs : Array Value) (w' : World), (callFunc fid xs).run Tryz.prog w' = .ok (.enter fid xs) w') ∧ ∀ (L : Loc) (D : LocD) (k : Nat) (t : List UInt8) (w : World), LSw L b B w → Dat L D → DSz D k → k ≤ 60000 → t.length ≤ 6000 → Lm w → Kd L w →
    Calls Tryz.prog fid #[.string ⟨t.toArray⟩, cap] w (AccQ st b B L D t w)
theorem acc_nm (b B : Nat) : AccS 0 42 (.pointer (some ⟨B, 0, none⟩)) b B (fun _ _ => True) := by
  refine ⟨fun xs w' => by kernel_rfl, ?_⟩
  intro L D k t w h hD hz hk ht hm _
  have H := Lib.hid h
  have HD := Lib.hid hD
  have c0 := (h.lcb.cells h.ok).1
  have f0 := frz_obj h.obj 0
  have hB := h.lt
  clear h hD hz hm
  go_enter Tryz.func42, Tryz.ntmps42
  go_wp2
  go_ret
  unfold AccQ
  exact ⟨true, { L with nm := t }, rfl, (H.out.set_nm t).2, (fun _ => ⟨{ D with nm := t }, by rw [addL, if_pos rfl], (H.out.set_nm t).1, ⟨rfl, HD.out.N, HD.out.P, HD.out.O, HD.out.U, HD.out.pt⟩⟩), fun q => by cases q⟩
theorem acc_pt (b B : Nat) : AccS 9 49 (.pointer (some ⟨B, 0, none⟩)) b B (fun _ _ => True) := by
  refine ⟨fun xs w' => by kernel_rfl, ?_⟩
  intro L D k t w h hD hz hk ht hm _
  have H := Lib.hid h
  have HD := Lib.hid hD
  have c0 := (h.lcb.cells h.ok).2.2.2.2
  have f0 := frz_obj h.obj 44
  have hB := h.lt
  clear h hD hz hm
  go_enter Tryz.func49, Tryz.ntmps49
  go_wp2
  go_ret
  unfold AccQ
  exact ⟨true, { L with pt := t }, rfl, (H.out.set_pt t).2, (fun _ => ⟨{ D with pt := t }, by rw [addL, if_neg (by decide), if_neg (by decide), if_neg (by decide), if_neg (by decide)], (H.out.set_pt t).1, ⟨HD.out.nm, HD.out.N, HD.out.P, HD.out.O, HD.out.U, rfl⟩⟩), fun q => by cases q⟩
/-- strconv.Atoi at up to 13 digits. -/
theorem pu_val13 (l : List UInt8) (hl : l.length ≤ 13) (hd : ∀ c ∈ l, isDg c = true) : Lib.parseUint10 0 l = .ok (val l) := by
  suffices H : ∀ (n : Nat) (l : List UInt8) (acc : Nat), l.length ≤ n → n ≤ 13 → acc < 10 ^ (16 - n) → (∀ c ∈ l, isDg c = true) → Lib.parseUint10 acc l = .ok (l.foldl (fun a c => 10 * a + (c.toNat - 48)) acc) by
    exact H 13 l 0 hl (by omega) (by decide) hd
  intro n
  induction n with
  | zero =>
    intro l acc hl _ _ _
    obtain rfl : l = [] := List.length_eq_zero_iff.1 (by omega)
    rfl
  | succ n ih =>
    intro l acc hl hn ha hd
    match l with
    | [] => rfl
    | c :: r =>
      have hc := isDg_iff.1 (hd c (by simp))
      have h16 : (10 : Nat) ^ (16 - (n + 1)) ≤ 10 ^ 15 := Nat.pow_le_pow_right (by omega) (by omega)
      have h15 : (10 : Nat) ^ 15 = 1000000000000000 := rfl
      have e : (10 : Nat) ^ (16 - n) = 10 ^ (16 - (n + 1)) * 10 := by rw [← Nat.pow_succ]; congr 1; omega
      rw [Lib.parseUint10, if_pos hc, if_neg (by omega), if_neg (by omega), ih r _ (by simpa using hl) (by omega) (by omega) (fun x hx => hd x (by simp [hx])), List.foldl_cons, Nat.mul_comm]
theorem val13 {l : List UInt8} (hl : l.length ≤ 13) (hd : ∀ c ∈ l, isDg c = true) : val l < 10000000000000 := by
  have hv := val_lt l hd
  have h10 : (10 : Nat) ^ l.length ≤ 10 ^ 13 := Nat.pow_le_pow_right (by omega) hl
  have h9 : (10 : Nat) ^ 13 = 10000000000000 := rfl
  omega
theorem atoi_val13 (l : List UInt8) (h1 : 1 ≤ l.length) (h2 : l.length ≤ 13) (hd : ∀ c ∈ l, isDg c = true) : Lib.atoiAll l = .ok (val l : Int) := by
  have hv := val13 h2 hd
  match l with
  | c :: r =>
    have hc := isDg_iff.1 (hd c (by simp))
    unfold Lib.atoiAll
    simp only
    rw [if_neg (by omega)]
    unfold Lib.parseMag
    rw [if_neg (by simp), pu_val13 (c :: r) h2 hd]
    show (if ¬ c.toNat = 45 ∧ 9223372036854775808 ≤ val (c :: r) then _ else _) = _
    rw [if_neg (by omega), if_neg (by omega), if_neg (by omega)]
theorem atoi13_c (f : List UInt8) (w : World) (h1 : 1 ≤ f.length) (h2 : f.length ≤ 13) (hd : ∀ c ∈ f, isDg c = true) :
    Calls Tryz.prog 96 #[.string ⟨f.toArray⟩] w fun e w' => e = .returned (.tuple #[.int .i64 (val f : Nat), .nilIface]) ∧ Ext w w' := by
  refine (Tryz.strconv_Atoi_ok ⟨f.toArray⟩ (by show f.toArray.size ≤ _; simp; omega) _ (atoi_val13 f h1 h2 hd) w).mono ?_
  rintro e w' ⟨rfl, rfl | ⟨t, rfl⟩⟩
  · exact ⟨rfl, Ext.refl _⟩
  · exact ⟨rfl, ext_bytes _ _ _⟩
set_option maxRecDepth 100000 in
set_option maxHeartbeats 1000000 in
theorem seconds_mid (s : List UInt8) (w : World) (h1 : 1 ≤ s.length) (h2 : s.length ≤ 13) (hz : ¬ (s.head? = some 48 ∧ 1 < s.length)) (bb : Bool) (hb : s.all isDg = bb) :
    Calls Tryz.prog 48 #[.string ⟨s.toArray⟩] w fun e w' => e = .returned (.tuple #[.int .i64 ((if bb then val s else 0 : Nat) : Int), .bool bb]) ∧ Ext w w' := by
  have h0 : 0 < s.length := by omega
  have HA : Hid (bb = true → ∀ c ∈ s, isDg c = true) := fun q c hc => List.all_eq_true.1 (hb.trans q) c hc
  obtain ⟨c, hc⟩ : ∃ c, c = s[0] := ⟨_, rfl⟩
  have b0 := bget s 0 h0 c hc
  have d1 : decide ((s.length : Int) < 1) = false := by simp; omega
  have d2 : decide (13 < (s.length : Int)) = false := by simp; omega
  have t1 : (Lib.trimS s digs).isEmpty = bb := by rw [trim_digs s, hb]
  have hcz : ¬ (c = 48 ∧ 1 < s.length) := by
    rintro ⟨q1, q2⟩
    refine hz ⟨?_, q2⟩
    rw [List.head?_eq_getElem?, List.getElem?_eq_getElem h0, ← hc, q1]
  clear hc hz hb
  by_cases hl1 : 1 < s.length
  · have d3 : decide (1 < (s.length : Int)) = true := by simp; omega
    have q1 : ((c.toNat : Int) == 48) = false := by
      rw [beq_eq_false_iff_ne]; intro e; exact hcz ⟨UInt8.toNat_inj.1 (by show c.toNat = 48; omega), hl1⟩
    clear hcz
    cases bb with
    | true =>
      go_enter Tryz.func48, Tryz.ntmps48
      go_wp2_with (first
        | (go_at_call 95; (with_reducible refine (trim_c s _ (by omega)).mono ?_); rintro e w1 ⟨rfl, hE1⟩)
        | (go_at_call 96; (with_reducible refine (atoi13_c s _ (by omega) (by omega) (HA.out (by trivial))).mono ?_); rintro e w2 ⟨rfl, hE2⟩))
      go_ret2
      exact ⟨rfl, hE1.trans hE2⟩
    | false =>
      go_enter Tryz.func48, Tryz.ntmps48
      go_wp2_with (first
        | (go_at_call 95; (with_reducible refine (trim_c s _ (by omega)).mono ?_); rintro e w1 ⟨rfl, hE1⟩))
      go_ret2
      exact ⟨rfl, hE1⟩
  · have d3 : decide (1 < (s.length : Int)) = false := by simp; omega
    clear hcz
    by_cases q1 : ((c.toNat : Int) == 48) = true
    · cases bb with
      | true =>
        go_enter Tryz.func48, Tryz.ntmps48
        go_wp2_with (first
          | (go_at_call 95; (with_reducible refine (trim_c s _ (by omega)).mono ?_); rintro e w1 ⟨rfl, hE1⟩)
          | (go_at_call 96; (with_reducible refine (atoi13_c s _ (by omega) (by omega) (HA.out (by trivial))).mono ?_); rintro e w2 ⟨rfl, hE2⟩))
        go_ret2
        exact ⟨rfl, hE1.trans hE2⟩
      | false =>
        go_enter Tryz.func48, Tryz.ntmps48
        go_wp2_with (first
          | (go_at_call 95; (with_reducible refine (trim_c s _ (by omega)).mono ?_); rintro e w1 ⟨rfl, hE1⟩))
        go_ret2
        exact ⟨rfl, hE1⟩
    · have q1 : ((c.toNat : Int) == 48) = false := by simpa using q1
      cases bb with
      | true =>
        go_enter Tryz.func48, Tryz.ntmps48
        go_wp2_with (first
          | (go_at_call 95; (with_reducible refine (trim_c s _ (by omega)).mono ?_); rintro e w1 ⟨rfl, hE1⟩)
          | (go_at_call 96; (with_reducible refine (atoi13_c s _ (by omega) (by omega) (HA.out (by trivial))).mono ?_); rintro e w2 ⟨rfl, hE2⟩))
        go_ret2
        exact ⟨rfl, hE1.trans hE2⟩
      | false =>
        go_enter Tryz.func48, Tryz.ntmps48
        go_wp2_with (first
          | (go_at_call 95; (with_reducible refine (trim_c s _ (by omega)).mono ?_); rintro e w1 ⟨rfl, hE1⟩))
        go_ret2
        exact ⟨rfl, hE1⟩
set_option maxRecDepth 100000 in
theorem seconds_c (s : List UInt8) (w : World) (hs : s.length ≤ 7000) :
    Calls Tryz.prog 48 #[.string ⟨s.toArray⟩] w fun e w' => e = .returned (.tuple #[.int .i64 (numMN s : Nat), .bool (numM 13 s)]) ∧ Ext w w' := by
  by_cases hn : s.length < 1 ∨ 13 < s.length ∨ (s.head? = some 48 ∧ 1 < s.length)
  · have hb : numM 13 s = false := by
      rw [← Bool.not_eq_true, numM_iff]
      rintro ⟨a, b, c, _⟩
      rcases hn with q | q | q
      · omega
      · omega
      · exact c q
    have HN : Hid (numMN s = 0) := by unfold Hid numMN; rw [hb]; rfl
    by_cases h1 : s.length < 1
    · have d1 : decide ((s.length : Int) < 1) = true := by simp; omega
      clear hn
      go_enter Tryz.func48, Tryz.ntmps48
      go_wp2
      go_ret2
      exact ⟨by rw [HN.out, hb]; rfl, Ext.refl _⟩
    · have d1 : decide ((s.length : Int) < 1) = false := by simp; omega
      by_cases h9 : 13 < s.length
      · have d2 : decide (13 < (s.length : Int)) = true := by simp; omega
        clear hn h1
        go_enter Tryz.func48, Tryz.ntmps48
        go_wp2
        go_ret2
        exact ⟨by rw [HN.out, hb]; rfl, Ext.refl _⟩
      · have d2 : decide (13 < (s.length : Int)) = false := by simp; omega
        obtain ⟨q1, q2⟩ : s.head? = some 48 ∧ 1 < s.length := by
          rcases hn with q | q | q
          · omega
          · omega
          · exact q
        have hl : 0 < s.length := by omega
        have hs0 : s[0] = 48 := by
          rw [List.head?_eq_getElem?, List.getElem?_eq_getElem hl] at q1
          exact Option.some.inj q1
        have b0 := bget s 0 hl 48 hs0.symm
        have d3 : decide (1 < (s.length : Int)) = true := by simp; omega
        clear hn h1 q1 hs0
        go_enter Tryz.func48, Tryz.ntmps48
        go_wp2
        go_ret2
        exact ⟨by rw [HN.out, hb]; rfl, Ext.refl _⟩
  · have h1 : 1 ≤ s.length := by omega
    have h2 : s.length ≤ 13 := by omega
    have h3 : ¬ (s.head? = some 48 ∧ 1 < s.length) := fun q => hn (.inr (.inr q))
    have e : s.all isDg = numM 13 s := by
      rw [Bool.eq_iff_iff, numM_iff]
      exact ⟨fun h => ⟨h1, h2, h3, h⟩, fun h => h.2.2.2⟩
    have := seconds_mid s w h1 h2 h3 (numM 13 s) e
    unfold numMN
    exact this
end Go.Proofs.YtnhdmnhfllecgaaGreatDoor
