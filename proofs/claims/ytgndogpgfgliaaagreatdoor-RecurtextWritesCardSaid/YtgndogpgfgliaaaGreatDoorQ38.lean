/- Recurrence rules, plainly: putting a number into an ascending list, by its place. No program in sight. -/
import Derived.Test.YtgndogpgfgliaaaGreatDoorQ02
import Derived.Test.YtgndogpgfgliaaaGreatDoorQ11
import Derived.Deep.Upon
import Derived.BigQuiet
namespace Go.Proofs.YtgndogpgfgliaaaGreatDoor
set_option linter.unusedVariables false
set_option linter.unnecessarySimpa false
set_option linter.unusedSimpArgs false

theorem insZ_at (x : Int) : ∀ (l : List Int) (k : Nat), k ≤ l.length → (∀ i (h : i < l.length), i < k → l[i] < x) → (∀ h : k < l.length, ¬ l[k] < x) →
    insZ x l = if l[k]? = some x then l else l.take k ++ x :: l.drop k
  | [], k, hk, _, _ => by
    obtain rfl : k = 0 := by simpa using hk
    rfl
  | y :: r, 0, hk, _, h2 => by
    have h := h2 (by simp)
    simp only [List.getElem_cons_zero] at h
    unfold insZ
    rw [if_neg h]
    by_cases e : y = x
    · rw [if_pos e, if_pos (by simp [e])]
    · rw [if_neg e, if_neg (by simp [e])]; rfl
  | y :: r, k + 1, hk, h1, h2 => by
    have h0 := h1 0 (by simp) (by omega)
    simp only [List.getElem_cons_zero] at h0
    have ih := insZ_at x r k (by simpa using hk) (fun i h q => by
      have := h1 (i + 1) (by simpa using h) (by omega)
      simpa using this) (fun h => by
      have := h2 (by simpa using h)
      simpa using this)
    rw [insZ, if_pos h0, ih, List.getElem?_cons_succ]
    split
    · rfl
    · rfl
end Go.Proofs.YtgndogpgfgliaaaGreatDoor
/- Recurrence rules: the reference's Set (ref29), number. -/
namespace Go.Proofs.YtgndogpgfgliaaaGreatDoor
set_option linter.unusedVariables false
set_option linter.unnecessarySimpa false
set_option linter.unusedSimpArgs false
open Go.RowKit

theorem setZ_snoc : ∀ (l out : List Int) (x : Int), setZ out (l ++ [x]) = insZ x (setZ out l)
  | [], out, x => rfl
  | y :: r, out, x => by
    rw [List.cons_append, setZ, setZ]
    exact setZ_snoc r (insZ y out) x
theorem insZ_len (x : Int) : ∀ l : List Int, (insZ x l).length ≤ l.length + 1
  | [] => by simp [insZ]
  | y :: r => by
    have := insZ_len x r
    unfold insZ
    split
    · simp; omega
    · split <;> simp
theorem setZ_len : ∀ (l out : List Int), (setZ out l).length ≤ out.length + l.length
  | [], out => by simp [setZ]
  | y :: r, out => by
    have h1 := setZ_len r (insZ y out)
    have h2 := insZ_len y out
    rw [setZ]
    simp
    omega
theorem wp_app_own {P : Program} {w : World} {ops : Array Oper} {rest : List Oper} {o : Oper} {a : Act} {Q : Exit → Act → World → Prop} (hgd : o.guard = none) (s x : Operand) (t : TypeId)
    (ho : o.op = .call { callee := .builtin .append, args := #[s, x], argTypes := #[t, t] })
    (base : Nat) (e : TypeId) (i : TypeInfo) (z : Value) (size bytes : Nat) (ht : P.underlying t = some (.slice e)) (hi : P.info? e = some i) (hz : i.zero = some z)
    (hsize : i.size = size) (hby : i.bytes = bytes) (hzs : z.cells.size = size) (hsz : 0 < size)
    (v : Value) (n : Nat) (xs : List Value) (hs : a.eval s = v) (hown : w.ownsRow base e size v n xs)
    (ao : Option Addr) (m c : Nat) (news : List Value) (hx : a.eval x = .slice ao m c) (hl : news.length = m * size) (hn0 : ao = none → m = 0) (hnews : ∀ ad, ao = some ad → ∀ j u, news[j]? = some u → w.cell? (ad.add j) = some u) (h1 : ∀ u ∈ news, u.oneCell' = true)
    (h63 : n + m ≤ maxLen) (hbytes : (n + m) * bytes ≤ 140737488355328) (hbase : base ≤ w.heap.size)
    (h : ∀ v' w', w'.ownsRow base e size v' (n + m) (xs ++ news) → w.grownBy w' v.ownBlock → wpList P ops Q rest (a.put o.dst v') w') : wpList P ops Q (o :: rest) a w := by
  cases ao with
  | some ad => exact wpList_append_own w hgd s x t ho base e i z size bytes ht hi hz hsize hby hzs hsz v n xs hs hown ad m c news hx hl (hnews ad rfl) h1 h63 hbytes hbase (fun v' w' p q _ => h v' w' p q)
  | none =>
    obtain rfl := hn0 rfl
    have hnl : news = [] := List.length_eq_zero_iff.1 (by rw [hl, Nat.zero_mul])
    subst hnl
    have hsl : ∃ b l cp, v = .slice b l cp ∧ l ≤ cp := by
      rcases hown.2 with ⟨rfl, rfl⟩ | ⟨g, cap, cur, rfl, _, _, hle, _⟩
      · exact ⟨_, _, _, rfl, Nat.le_refl _⟩
      · exact ⟨_, _, _, rfl, hle⟩
    obtain ⟨b, l, cp, hv, hle⟩ := hsl
    refine wpList_plain hgd fun K hK => ?_
    have hr := run_append_nothing (P := P) w t t o.type e i ht hi b l cp hle (.slice none 0 c) (Src.ofNil w ht c)
    unfold Oper.wp execOp
    simp only [ho, resolve, invoke, builtin, Sem.run_bind, Sem.run_pure, Result.andThen_ok, List.map_toArray, List.map_cons, List.map_nil, hs, hx, hv, hr]
    rw [← hv]
    exact hK _ _ (h v w (by rw [List.append_nil]; exact hown) (World.grownBy.refl _ _))
theorem own_le {w : World} {b c size n : Nat} {e : TypeId} {v : Value} {xs : List Value} (h : w.ownsRow c e size v n xs) (hb : b ≤ c) : w.ownsRow b e size v n xs := by
  refine ⟨h.1, ?_⟩
  rcases h.2 with h | ⟨g, cap, cur, h1, h2, h3⟩
  · exact .inl h
  · exact .inr ⟨g, cap, cur, h1, Nat.le_trans hb h2, h3⟩
theorem own_ext29 {w w' : World} {b size n : Nat} {e : TypeId} {v : Value} {xs : List Value} (h : w.ownsRow b e size v n xs) (hE : Ext w w') : w'.ownsRow b e size v n xs := by
  refine ⟨h.1, ?_⟩
  rcases h.2 with h | ⟨g, cap, cur, h1, h2, h3, h4⟩
  · exact .inl h
  · exact .inr ⟨g, cap, cur, h1, h2, (hE.block _ (Array.getElem?_eq_some_iff.1 h3).1).trans h3, h4⟩
theorem iv_len (l : List Int) : (iv l).length = l.length := by unfold iv; simp
theorem iv_one (l : List Int) : ∀ u ∈ iv l, u.oneCell' = true := by
  intro u hu
  unfold iv at hu
  obtain ⟨y, _, rfl⟩ := List.mem_map.1 hu
  rfl
theorem iv_cells {g n cap : Nat} {b : Nat} {out : List Int} {V : World} (h : V.ownsRow b 3 1 (.slice (some ⟨g, 0, none⟩) n cap) n (iv out)) (k m : Nat) {W : World} (hE : Ext V W) :
    ∀ i u, (iv ((out.drop k).take m))[i]? = some u → W.cell? ⟨g, 0 + k + i, none⟩ = some u := by
  intro i u hu
  have hn : n = out.length := by
    have := h.1
    rw [iv_len] at this
    omega
  unfold iv at hu
  rw [List.getElem?_map] at hu
  obtain ⟨y, hy, rfl⟩ := Option.map_eq_some_iff.1 hu
  rw [List.getElem?_take] at hy
  split at hy
  · rw [List.getElem?_drop] at hy
    have hlt : k + i < out.length := (List.getElem?_eq_some_iff.1 hy).1
    have hg := h.lt g rfl
    have hc := h.cellAt (k + i) (by omega)
    rw [Nat.zero_add]
    refine (hE.cells g _ hg.2).trans (hc.trans ?_)
    unfold iv
    rw [List.getElem?_map, hy]
    rfl
  · cases hy
set_option maxRecDepth 100000 in
set_option maxHeartbeats 8000000 in
theorem rset_c (l : List Int) (ao : Option Addr) (cap : Nat) (w : World) (hV : IsV ao cap l w) (hn : l.length ≤ 60) :
    Calls Tryz.prog 121 #[.slice ao l.length cap] w fun e w' => (∃ ao2 cap2, e = .returned (.slice ao2 (ndZ l) cap2)) ∧ Ext w w' := by
  have hlen := hV.1
  have hcap := hV.2.1
  unfold maxLen at hcap
  have HL := Lib.hid hV.2.2
  obtain ⟨i0, hi, hz0, hz1, hz2⟩ := info_parts infoIv
  have Hi := Lib.hid hi
  have Hz0 := Lib.hid hz0
  have Hz1 := Lib.hid hz1
  have Hz2 := Lib.hid hz2
  have HSn : Hid (∀ j (h : j < l.length), setZ [] (l.take (j + 1)) = insZ l[j] (setZ [] (l.take j))) := fun j h => by
    rw [List.take_succ_eq_append_getElem h, setZ_snoc]
  have HSl : Hid (∀ j, (setZ [] (l.take j)).length ≤ 60) := fun j => by
    have := setZ_len (l.take j) []
    rw [List.length_take] at this
    simp at this
    omega
  have HEn : Hid ((setZ [] (l.take l.length)).length = ndZ l) := by rw [Hid, List.take_length]; rfl
  clear hi hz0 hz1 hz2 hV
  go_enter Tryz.func121, Tryz.ntmps121
  go_wp2_with fail
  go_loopw [3, 4] (fun o i wr => ∃ (j : Nat) (a2 : Option Addr) (cv : Nat), j ≤ l.length ∧ i = .int .i64 (j : Int) ∧ o = .slice a2 (setZ [] (l.take j)).length cv ∧ wr.ownsRow w.heap.size 3 1 (.slice a2 (setZ [] (l.take j)).length cv) (setZ [] (l.take j)).length (iv (setZ [] (l.take j))) ∧ Ext w wr) (fun _ i _ => l.length - (intOf i).toNat)
  case atStart => exact ⟨0, none, 0, Nat.zero_le _, rfl, rfl, World.ownsRow_nil _ _ _ _, Ext.refl _⟩
  case round =>
    obtain ⟨j, a2, cv, hj, rfl, rfl, hown, hE⟩ := hrel
    by_cases hlt : j < l.length
    · obtain ⟨R, off, rfl, hR⟩ := HL.out (by rintro rfl; simp at hlt)
      have hRr := hR.ext hE
      have hRz := hRr.1
      have x0 := hRr.2 j hlt
      have Hs : Hid (setZ [] (l.take (j + 1)) = insZ l[j] (setZ [] (l.take j))) := HSn.out j hlt
      have hol := HSl.out j
      have hol2 := HSl.out (j + 1)
      obtain ⟨x, hx⟩ : ∃ x, x = l[j] := ⟨_, rfl⟩
      rw [← hx] at x0 Hs
      obtain ⟨out, ho⟩ : ∃ out, out = setZ [] (l.take j) := ⟨_, rfl⟩
      rw [← ho] at Hs hol hown ⊢
      clear hx ho hR hRr
      have hcvl : cv ≤ maxLen ∧ out.length ≤ cv := by
        have := (IsV.of_own hown rfl)
        exact ⟨this.2.1, this.1⟩
      obtain ⟨hcv2, hcv⟩ := hcvl
      unfold maxLen at hcv2
      have Hown := Lib.hid hown
      have HE := Lib.hid hE
      have HWs : Hid (w.heap.size ≤ wr.heap.size) := hE.size
      clear hown hE
      obtain ⟨V, hVw⟩ : ∃ V, V = wr := ⟨_, rfl⟩
      rw [← hVw] at x0 hRz Hown HE HWs ⊢
      clear hVw wr
      have HX0 := Lib.hid x0
      cases a2 with
      | none =>
        have hl0 : out.length = 0 := by
          rcases Hown.out.2 with ⟨h, h2⟩ | ⟨g, _, _, h, _⟩
          · injection h
          · cases h
        have HC0 : Hid (∀ (k m : Nat) (W : World), Ext V W → ∀ ad, (none : Option Addr) = some ad → ∀ i u, (iv ((out.drop k).take m))[i]? = some u → W.cell? (ad.add i) = some u) := fun k m W hW ad h => by cases h
        have HC1 : Hid (∀ (k : Nat) (W : World), Ext V W → ∀ ad, (none : Option Addr) = some ad → ∀ i u, (iv ((out.drop k).take (out.length - k)))[i]? = some u → W.cell? (ad.add i) = some u) := fun k W hW ad h => by cases h
        have HN0 : Hid (∀ k, k ≤ out.length → (none : Option Addr) = none → k = 0) := fun k hk _ => by omega
        have HN1 : Hid (∀ k, k ≤ out.length → (none : Option Addr) = none → out.length - k = 0) := fun k hk _ => by omega
        have HRow : Hid (∀ (W : World) k, k ≤ out.length → ∀ (Z : List Int), Z = out.take k ++ x :: out.drop k → ∀ {v : Value}, W.ownsRow V.heap.size 3 1 v (k + 1 + (out.length - k)) (iv (out.take k) ++ [.int .i64 x] ++ iv ((out.drop k).take (out.length - k))) → W.ownsRow V.heap.size 3 1 v Z.length (iv Z)) := by
          intro W k hk Z hZ v h
          have e1 : Z.length = k + 1 + (out.length - k) := by rw [hZ]; simp; omega
          have e2 : iv Z = iv (out.take k) ++ [.int .i64 x] ++ iv ((out.drop k).take (out.length - k)) := by rw [hZ, List.take_of_length_le (l := out.drop k) (by rw [List.length_drop]; exact Nat.le_refl _)]; unfold iv; simp
          rw [e1, e2]
          exact h
        go_wp2_with fail
        go_loopw [5] (fun i wy => ∃ k : Nat, k ≤ out.length ∧ i = .int .i64 (k : Int) ∧ Hid (∀ i (h : i < out.length), i < k → out[i] < x) ∧ Ext V wy) (fun i _ => out.length - (intOf i).toNat)
        case atStart => exact ⟨0, Nat.zero_le _, rfl, (fun i h q => by omega), Ext.refl _⟩
        case round =>
          obtain ⟨k, hk, rfl, Hb, hEy⟩ := hrel
          obtain rfl : k = 0 := by omega
          have hRy := hEy.lt hRz
          have x0 := (hEy.cells R _ hRz).trans x0
          have HEy := Lib.hid hEy
          have hk2 : ¬ 0 < out.length := by omega
          have Hne : Hid (¬ out[0]? = some x) := fun h => by rw [List.getElem?_eq_none (by omega)] at h; cases h
          have HNl : Hid (∀ h : 0 < out.length, x ≤ out[0]) := fun h => absurd h hk2
          clear hEy
          go_upto_region 6 with fail
          go_quiet (fail)
          have HEy := Lib.hid (HEy.out.drewN nq)
          generalize wr.drewN nq = wq at *
          go_upto_region 8 with fail
          go_quiet (fail)
          have HEy := Lib.hid (HEy.out.drewN nq)
          generalize wq.drewN nq = wp at *
          have Hs3 : Hid (setZ [] (l.take (j + 1)) = out.take 0 ++ x :: out.drop 0) := by rw [Hid, Hs.out, insZ_at x out 0 hk Hb.out (fun h => Int.not_lt.2 (HNl.out h)), if_neg Hne.out]
          clear Hs
          have hwr : V.heap.size ≤ wp.heap.size := HEy.out.size
          go_upto_region 10 with fail
          have hown1 : (wp.alloc (.cells #[] 3)).ownsRow V.heap.size 3 1 (.slice (some ⟨wp.heap.size, 0, none⟩) 0 0) 0 (iv (out.take 0)) := World.ownsRow_lit (size := 1) wp #[] 0 hwr (by decide) rfl
          have hE1 := HEy.out.alloc (.cells #[] 3)
          obtain ⟨w1, hw1e⟩ : ∃ w1, w1 = wp.alloc (.cells #[] 3) := ⟨_, rfl⟩
          rw [← hw1e] at hown1 hE1 ⊢
          clear hw1e
          have HE1 := Lib.hid hE1
          have x1 := (hE1.cells R _ hRz).trans HX0.out
          have hR1 := hE1.lt hRz
          have hw1 := hE1.size
          have Hown1 := Lib.hid hown1
          clear hE1 hown1
          go_upto_region 11 with (at_builtin; refine wp_app_own rfl _ _ 22 rfl V.heap.size 3 i0 (.int .i64 0) 1 8 Tryz.underlying22 Hi.out Hz0.out Hz1.out Hz2.out rfl (by decide) _ 0 (iv (out.take 0)) rfl (Hown1.out.alloc _) (some ⟨w1.heap.size, 0, none⟩) 1 1 [.int .i64 x] rfl rfl (fun h => by cases h) (fun ad h => by cases h; exact cell_one_new _ _ _) (fun x hx => by simp at hx; subst hx; rfl) (by unfold maxLen; omega) (by omega) (by simp; omega) ?_; intro v2 w2 hown2 hgrow2)
          have hE2 := ext_grown (HE1.out.alloc (.cells #[.int .i64 x] 3)) (Hown1.out.alloc _) hgrow2
          have HE2 := Lib.hid hE2
          have hw2 := hE2.size
          have Hown2 := Lib.hid hown2
          clear hE2 hgrow2 hown2 x0 x1
          obtain ⟨a3, c3, rfl⟩ := own_slice Hown2.out
          go_wp2_with (at_builtin; refine wp_app_own rfl _ _ 22 rfl V.heap.size 3 i0 (.int .i64 0) 1 8 Tryz.underlying22 Hi.out Hz0.out Hz1.out Hz2.out rfl (by decide) _ (0 + 1) _ rfl Hown2.out none 0 _ [] rfl rfl (fun _ => rfl) (fun ad h => by cases h) (fun u h => by cases h) (by unfold maxLen; omega) (by omega) (by omega) ?_; intro v3 w3 hown3 hgrow3)
          have hE3 := ext_grown HE2.out Hown2.out hgrow3
          have hRE : w3.ownsRow V.heap.size 3 1 v3 (setZ [] (l.take (j + 1))).length (iv (setZ [] (l.take (j + 1)))) := by
            have e0 : out = [] := List.length_eq_zero_iff.1 hl0
            rw [Hs3.out, e0]
            rw [e0] at hown3
            exact hown3
          obtain ⟨a4, c4, rfl⟩ := own_slice hRE
          go_roundw
          case rel => exact ⟨j + 1, a4, c4, hlt, by go_num, rfl, own_le hRE HWs.out, HE.out.trans hE3⟩
          case measure => simp [intOf]; omega
      | some g0 =>
        obtain ⟨g, rfl⟩ : ∃ g, g0 = ⟨g, 0, none⟩ := by
          rcases Hown.out.2 with ⟨h, _⟩ | ⟨g, _, _, h, _⟩
          · cases h
          · cases h; exact ⟨_, rfl⟩
        have HC0 : Hid (∀ (k m : Nat) (W : World), Ext V W → ∀ ad, some (⟨g, 0, none⟩ : Addr) = some ad → ∀ i u, (iv ((out.drop 0).take m))[i]? = some u → W.cell? (ad.add i) = some u) := fun k m W hW ad h i u hu => by
          cases h
          have := iv_cells Hown.out 0 m hW i u hu
          unfold Addr.add
          split
          · next h => subst h; simpa using this
          · simpa using this
        have HC1 : Hid (∀ (k : Nat) (W : World), Ext V W → ∀ ad, some (⟨g, k, none⟩ : Addr) = some ad → ∀ i u, (iv ((out.drop k).take (out.length - k)))[i]? = some u → W.cell? (ad.add i) = some u) := fun k W hW ad h i u hu => by
          cases h
          have := iv_cells Hown.out k _ hW i u hu
          unfold Addr.add
          split
          · next h => subst h; simpa using this
          · simpa using this
        have HRow : Hid (∀ (W : World) k, k ≤ out.length → ∀ (Z : List Int), Z = out.take k ++ x :: out.drop k → ∀ {v : Value}, W.ownsRow V.heap.size 3 1 v (k + 1 + (out.length - k)) (iv (out.take k) ++ [.int .i64 x] ++ iv ((out.drop k).take (out.length - k))) → W.ownsRow V.heap.size 3 1 v Z.length (iv Z)) := by
          intro W k hk Z hZ v h
          have e1 : Z.length = k + 1 + (out.length - k) := by rw [hZ]; simp; omega
          have e2 : iv Z = iv (out.take k) ++ [.int .i64 x] ++ iv ((out.drop k).take (out.length - k)) := by rw [hZ, List.take_of_length_le (l := out.drop k) (by rw [List.length_drop]; exact Nat.le_refl _)]; unfold iv; simp
          rw [e1, e2]
          exact h
        have HCl : Hid (∀ (k : Nat) (h : k < out.length) (W : World), Ext V W → W.cell? ⟨g, k, none⟩ = some (.int .i64 out[k]) ∧ g < W.heap.size) := fun k h W hW => by
          have hg := (Hown.out.lt g rfl).2
          refine ⟨(hW.cells g _ hg).trans ((Hown.out.cellAt k (by omega)).trans ?_), hW.lt hg⟩
          unfold iv
          simp [h]
        go_wp2_with fail
        go_loopw [5] (fun i wy => ∃ k : Nat, k ≤ out.length ∧ i = .int .i64 (k : Int) ∧ Hid (∀ i (h : i < out.length), i < k → out[i] < x) ∧ Ext V wy) (fun i _ => out.length - (intOf i).toNat)
        case atStart => exact ⟨0, Nat.zero_le _, rfl, (fun i h q => by omega), Ext.refl _⟩
        case round =>
          obtain ⟨k, hk, rfl, Hb, hEy⟩ := hrel
          have hRy := hEy.lt hRz
          have x0 := (hEy.cells R _ hRz).trans x0
          have HEy := Lib.hid hEy
          by_cases hk2 : k < out.length
          · obtain ⟨y0, hgy⟩ := HCl.out k hk2 _ hEy
            obtain ⟨y, hy⟩ : ∃ y, y = out[k] := ⟨_, rfl⟩
            rw [← hy] at y0
            have Hy := Lib.hid hy
            clear hy hEy
            by_cases q1 : y < x
            · have t1 : decide (y < x) = true := decide_eq_true q1
              have HB2 : Hid (∀ i (h : i < out.length), i < k + 1 → out[i] < x) := fun i h q => by
                by_cases e : i = k
                · subst e; rw [← Hy.out]; exact q1
                · exact Hb.out i h (by omega)
              clear q1
              go_upto_region 6 with fail
              go_quiet (fail)
              go_wp2_with fail
              go_roundw
              case rel => exact ⟨k + 1, by omega, by go_num, HB2.out, HEy.out.drewN _⟩
              case measure => simp [intOf]; omega
            · have t1 : decide (y < x) = false := decide_eq_false q1
              have HNl : Hid (∀ h : k < out.length, x ≤ out[k]) := fun h => by rw [← Hy.out]; omega
              go_upto_region 6 with fail
              go_quiet (fail)
              have HEy := Lib.hid (HEy.out.drewN nq)
              have x0 : (wr.drewN nq).cell? ⟨R, off + j, none⟩ = some (.int .i64 x) := x0
              have y0 : (wr.drewN nq).cell? ⟨g, k, none⟩ = some (.int .i64 y) := y0
              have hRy : R < (wr.drewN nq).heap.size := hRy
              have hgy : g < (wr.drewN nq).heap.size := hgy
              generalize wr.drewN nq = wq at *
              go_upto_region 8 with fail
              by_cases q2 : y = x
              · have t2 : decide (y = x) = true := decide_eq_true q2
                have t3 : (y == x) = true := by simpa using q2
                have Hsa : Hid (setZ [] (l.take (j + 1)) = out) := by
                  rw [Hid, Hs.out, insZ_at x out k hk Hb.out (fun h => Int.not_lt.2 (HNl.out h)), if_pos (by rw [List.getElem?_eq_getElem hk2, ← Hy.out, q2])]
                clear q1 q2
                go_quiet (fail)
                go_wp2_with fail
                go_roundw
                case rel => exact ⟨j + 1, some ⟨g, 0, none⟩, cv, hlt, by go_num, by rw [Hsa.out], by rw [Hsa.out]; exact own_le (own_ext29 Hown.out (HEy.out.drewN nq)) (Nat.le_refl _), HE.out.trans (HEy.out.drewN nq)⟩
                case measure => simp [intOf]; omega
              · have t2 : decide (y = x) = false := decide_eq_false q2
                have t3 : (y == x) = false := by simpa using q2
                have Hne : Hid (¬ out[k]? = some x) := fun h => q2 (by
                  rw [List.getElem?_eq_getElem hk2] at h
                  rw [Hy.out]
                  exact Option.some.inj h)
                clear q1 q2
                go_quiet (fail)
                have HEy := Lib.hid (HEy.out.drewN nq)
                have x0 : (wq.drewN nq).cell? ⟨R, off + j, none⟩ = some (.int .i64 x) := x0
                generalize wq.drewN nq = wp at *
                have Hs3 : Hid (setZ [] (l.take (j + 1)) = out.take k ++ x :: out.drop k) := by rw [Hid, Hs.out, insZ_at x out k hk Hb.out (fun h => Int.not_lt.2 (HNl.out h)), if_neg Hne.out]
                clear Hs
                have hwr : V.heap.size ≤ wp.heap.size := HEy.out.size
                go_upto_region 10 with (at_builtin; refine wp_app_own rfl _ _ 22 rfl V.heap.size 3 i0 (.int .i64 0) 1 8 Tryz.underlying22 Hi.out Hz0.out Hz1.out Hz2.out rfl (by decide) _ 0 [] rfl (World.ownsRow_lit (size := 1) wp #[] 0 hwr (by decide) rfl) (some ⟨g, 0, none⟩) k _ (iv ((out.drop 0).take k)) rfl (by rw [iv_len, List.drop_zero, List.length_take]; omega) (fun h => by cases h) (fun ad h => HC0.out 0 k _ (HEy.out.alloc _) ad h) (iv_one _) (by unfold maxLen; omega) (by omega) (by simp; omega) ?_; intro v1 w1 hown1 hgrow1)
                have hE1 := ext_grown (HEy.out.alloc (.cells #[] 3)) (World.ownsRow_lit (size := 1) wp #[] 0 hwr (by decide) rfl) hgrow1
                rw [Nat.zero_add, List.nil_append, List.drop_zero] at hown1
                have HE1 := Lib.hid hE1
                have x1 := (hE1.cells R _ hRz).trans HX0.out
                have hR1 := hE1.lt hRz
                have hw1 := hE1.size
                have Hown1 := Lib.hid hown1
                clear hE1 hgrow1 hown1
                obtain ⟨a1, c1, rfl⟩ := own_slice Hown1.out
                go_upto_region 11 with (at_builtin; refine wp_app_own rfl _ _ 22 rfl V.heap.size 3 i0 (.int .i64 0) 1 8 Tryz.underlying22 Hi.out Hz0.out Hz1.out Hz2.out rfl (by decide) _ k (iv (out.take k)) rfl (Hown1.out.alloc _) (some ⟨w1.heap.size, 0, none⟩) 1 1 [.int .i64 x] rfl rfl (fun h => by cases h) (fun ad h => by cases h; exact cell_one_new _ _ _) (fun x hx => by simp at hx; subst hx; rfl) (by unfold maxLen; omega) (by omega) (by simp; omega) ?_; intro v2 w2 hown2 hgrow2)
                have hE2 := ext_grown (HE1.out.alloc (.cells #[.int .i64 x] 3)) (Hown1.out.alloc _) hgrow2
                have HE2 := Lib.hid hE2
                have hw2 := hE2.size
                have Hown2 := Lib.hid hown2
                clear hE2 hgrow2 hown2 x0 x1
                obtain ⟨a3, c3, rfl⟩ := own_slice Hown2.out
                go_wp2_with (at_builtin; refine wp_app_own rfl _ _ 22 rfl V.heap.size 3 i0 (.int .i64 0) 1 8 Tryz.underlying22 Hi.out Hz0.out Hz1.out Hz2.out rfl (by decide) _ (k + 1) _ rfl Hown2.out _ (out.length - k) _ (iv ((out.drop k).take (out.length - k))) rfl (by rw [iv_len, List.length_take, List.length_drop]; omega) (fun h => by cases h) (fun ad h => HC1.out k _ HE2.out ad h) (iv_one _) (by unfold maxLen; omega) (by omega) (by omega) ?_; intro v3 w3 hown3 hgrow3)
                have hE3 := ext_grown HE2.out Hown2.out hgrow3
                have hRE := HRow.out w3 k hk _ Hs3.out hown3
                obtain ⟨a4, c4, rfl⟩ := own_slice hRE
                go_roundw
                case rel => exact ⟨j + 1, a4, c4, hlt, by go_num, rfl, own_le hRE HWs.out, HE.out.trans hE3⟩
                case measure => simp [intOf]; omega
          · have Hne : Hid (¬ out[k]? = some x) := fun h => by rw [List.getElem?_eq_none (by omega)] at h; cases h
            have HNl : Hid (∀ h : k < out.length, x ≤ out[k]) := fun h => absurd h hk2
            clear hEy
            go_upto_region 6 with fail
            go_quiet (fail)
            have HEy := Lib.hid (HEy.out.drewN nq)
            have x0 : (wr.drewN nq).cell? ⟨R, off + j, none⟩ = some (.int .i64 x) := x0
            have hRy : R < (wr.drewN nq).heap.size := hRy
            generalize wr.drewN nq = wq at *
            go_upto_region 8 with fail
            go_quiet (fail)
            have HEy := Lib.hid (HEy.out.drewN nq)
            have x0 : (wq.drewN nq).cell? ⟨R, off + j, none⟩ = some (.int .i64 x) := x0
            generalize wq.drewN nq = wp at *
            have Hs3 : Hid (setZ [] (l.take (j + 1)) = out.take k ++ x :: out.drop k) := by rw [Hid, Hs.out, insZ_at x out k hk Hb.out (fun h => Int.not_lt.2 (HNl.out h)), if_neg Hne.out]
            clear Hs
            have hwr : V.heap.size ≤ wp.heap.size := HEy.out.size
            go_upto_region 10 with (at_builtin; refine wp_app_own rfl _ _ 22 rfl V.heap.size 3 i0 (.int .i64 0) 1 8 Tryz.underlying22 Hi.out Hz0.out Hz1.out Hz2.out rfl (by decide) _ 0 [] rfl (World.ownsRow_lit (size := 1) wp #[] 0 hwr (by decide) rfl) (some ⟨g, 0, none⟩) k _ (iv ((out.drop 0).take k)) rfl (by rw [iv_len, List.drop_zero, List.length_take]; omega) (fun h => by cases h) (fun ad h => HC0.out 0 k _ (HEy.out.alloc _) ad h) (iv_one _) (by unfold maxLen; omega) (by omega) (by simp; omega) ?_; intro v1 w1 hown1 hgrow1)
            have hE1 := ext_grown (HEy.out.alloc (.cells #[] 3)) (World.ownsRow_lit (size := 1) wp #[] 0 hwr (by decide) rfl) hgrow1
            rw [Nat.zero_add, List.nil_append, List.drop_zero] at hown1
            have HE1 := Lib.hid hE1
            have x1 := (hE1.cells R _ hRz).trans HX0.out
            have hR1 := hE1.lt hRz
            have hw1 := hE1.size
            have Hown1 := Lib.hid hown1
            clear hE1 hgrow1 hown1
            obtain ⟨a1, c1, rfl⟩ := own_slice Hown1.out
            go_upto_region 11 with (at_builtin; refine wp_app_own rfl _ _ 22 rfl V.heap.size 3 i0 (.int .i64 0) 1 8 Tryz.underlying22 Hi.out Hz0.out Hz1.out Hz2.out rfl (by decide) _ k (iv (out.take k)) rfl (Hown1.out.alloc _) (some ⟨w1.heap.size, 0, none⟩) 1 1 [.int .i64 x] rfl rfl (fun h => by cases h) (fun ad h => by cases h; exact cell_one_new _ _ _) (fun x hx => by simp at hx; subst hx; rfl) (by unfold maxLen; omega) (by omega) (by simp; omega) ?_; intro v2 w2 hown2 hgrow2)
            have hE2 := ext_grown (HE1.out.alloc (.cells #[.int .i64 x] 3)) (Hown1.out.alloc _) hgrow2
            have HE2 := Lib.hid hE2
            have hw2 := hE2.size
            have Hown2 := Lib.hid hown2
            clear hE2 hgrow2 hown2 x0 x1
            obtain ⟨a3, c3, rfl⟩ := own_slice Hown2.out
            go_wp2_with (at_builtin; refine wp_app_own rfl _ _ 22 rfl V.heap.size 3 i0 (.int .i64 0) 1 8 Tryz.underlying22 Hi.out Hz0.out Hz1.out Hz2.out rfl (by decide) _ (k + 1) _ rfl Hown2.out _ (out.length - k) _ (iv ((out.drop k).take (out.length - k))) rfl (by rw [iv_len, List.length_take, List.length_drop]; omega) (fun _ => by omega) (fun ad h i u hu => by rw [List.drop_of_length_le (by omega)] at hu; simp [iv] at hu) (iv_one _) (by unfold maxLen; omega) (by omega) (by omega) ?_; intro v3 w3 hown3 hgrow3)
            have hE3 := ext_grown HE2.out Hown2.out hgrow3
            have hRE := HRow.out w3 k hk _ Hs3.out hown3
            obtain ⟨a4, c4, rfl⟩ := own_slice hRE
            go_roundw
            case rel => exact ⟨j + 1, a4, c4, hlt, by go_num, rfl, own_le hRE HWs.out, HE.out.trans hE3⟩
            case measure => simp [intOf]; omega
    · obtain rfl : j = l.length := by omega
      have he := HEn.out
      rw [he] at hown ⊢
      go_wp2_with fail
      go_ret
      exact ⟨⟨_, _, rfl⟩, hE⟩
end Go.Proofs.YtgndogpgfgliaaaGreatDoor
