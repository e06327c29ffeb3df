/- Locales: the walks of what reads a line: names. -/
import Derived.Test.YtnhdmnhfllecgaaGreatDoorQ36
namespace Go.Proofs.YtnhdmnhfllecgaaGreatDoor
set_option linter.unusedVariables false
set_option linter.unusedSimpArgs false
open Go.RowKit

def nmOff : Nat → Nat
  | 1 => 1 | 2 => 13 | 3 => 25 | 4 => 32 | _ => 39
def grpN (N : Nms) : Nat → List (List UInt8)
  | 1 => N.mo | 2 => N.sh | 3 => N.da | 4 => N.sd | _ => N.ha
theorem grpN_len {N : Nms} (h : N.ok) : ∀ st, (grpN N st).length = nmLen st := by
  obtain ⟨h1, h2, h3, h4, h5⟩ := h
  intro st
  match st with
  | 0 => exact h5
  | 1 => exact h1
  | 2 => exact h2
  | 3 => exact h3
  | 4 => exact h4
  | k + 5 => exact h5
theorem splice_mid {α : Type} (A G C cs : List α) (h : cs.length ≤ G.length) : (A ++ (G ++ C)).take A.length ++ (cs ++ (A ++ (G ++ C)).drop (A.length + cs.length)) = A ++ ((cs ++ G.drop cs.length) ++ C) := by
  rw [List.take_left, List.drop_append, List.drop_of_length_le (by omega), List.nil_append, show A.length + cs.length - A.length = cs.length by omega, List.drop_append_of_le_length h]
  simp
theorem vals_splice {L : Loc} (hN : L.N.ok) (st : Nat) (h1 : 1 ≤ st) (h5 : st ≤ 5) (cs : List (List UInt8)) (hc : cs.length ≤ nmLen st) :
    L.vals.take (nmOff st) ++ (sv cs ++ L.vals.drop (nmOff st + (sv cs).length)) = ({ L with N := setN L.N st (cs ++ (grpN L.N st).drop cs.length) } : Loc).vals := by
  have hg := grpN_len hN st
  obtain ⟨q1, q2, q3, q4, q5⟩ := hN
  have key : ∀ (A G C : List Value), L.vals = A ++ (G ++ C) → A.length = nmOff st → G = sv (grpN L.N st) → L.vals.take (nmOff st) ++ (sv cs ++ L.vals.drop (nmOff st + (sv cs).length)) = A ++ (sv (cs ++ (grpN L.N st).drop cs.length) ++ C) := by
    intro A G C e1 e2 e3
    have hl : (sv cs).length = cs.length := by simp [sv]
    rw [e1, ← e2, splice_mid A G C (sv cs) (by rw [hl, e3]; simp [sv]; omega), e3, hl]
    simp [sv]
  obtain rfl | rfl | rfl | rfl | rfl : st = 1 ∨ st = 2 ∨ st = 3 ∨ st = 4 ∨ st = 5 := by omega
  · rw [key [.string ⟨L.nm.toArray⟩] (sv L.N.mo) _ (by simp [Loc.vals, Nms.all, sv]; rfl) rfl rfl]
    simp [Loc.vals, Nms.all, sv, setN, grpN]
  · rw [key (.string ⟨L.nm.toArray⟩ :: sv L.N.mo) (sv L.N.sh) _ (by simp [Loc.vals, Nms.all, sv]; rfl) (by simp [sv, nmOff, q1]) rfl]
    simp [Loc.vals, Nms.all, sv, setN, grpN]
  · rw [key (.string ⟨L.nm.toArray⟩ :: (sv L.N.mo ++ sv L.N.sh)) (sv L.N.da) _ (by simp [Loc.vals, Nms.all, sv]; rfl) (by simp [sv, nmOff, q1, q2]) rfl]
    simp [Loc.vals, Nms.all, sv, setN, grpN]
  · rw [key (.string ⟨L.nm.toArray⟩ :: (sv L.N.mo ++ (sv L.N.sh ++ sv L.N.da))) (sv L.N.sd) _ (by simp [Loc.vals, Nms.all, sv]; rfl) (by simp [sv, nmOff, q1, q2, q3]) rfl]
    simp [Loc.vals, Nms.all, sv, setN, grpN]
  · rw [key (.string ⟨L.nm.toArray⟩ :: (sv L.N.mo ++ (sv L.N.sh ++ (sv L.N.da ++ sv L.N.sd)))) (sv L.N.ha) _ (by simp [Loc.vals, Nms.all, sv]; rfl) (by simp [sv, nmOff, q1, q2, q3, q4]) rfl]
    simp [Loc.vals, Nms.all, sv, setN, grpN]
theorem setN_ok {N : Nms} (h : N.ok) (st : Nat) (h1 : 1 ≤ st) (h5 : st ≤ 5) (l : List (List UInt8)) (hl : l.length = nmLen st) : (setN N st l).ok := by
  obtain ⟨q1, q2, q3, q4, q5⟩ := h
  obtain rfl | rfl | rfl | rfl | rfl : st = 1 ∨ st = 2 ∨ st = 3 ∨ st = 4 ∨ st = 5 := by omega
  · exact ⟨hl, q2, q3, q4, q5⟩
  · exact ⟨q1, hl, q3, q4, q5⟩
  · exact ⟨q1, q2, hl, q4, q5⟩
  · exact ⟨q1, q2, q3, hl, q5⟩
  · exact ⟨q1, q2, q3, q4, hl⟩
theorem frm_row (w : World) (B : Nat) (cs : Array Value) : Frm (fun k => k = B) w (w.setRow B cs) :=
  ⟨rfl, rfl, rfl, by simp [World.setRow], fun k hk hs => setRow_other w B k cs (fun e => hs e)⟩
/-- Names are copied into the locale. -/
theorem LSw.set_row {L : Loc} {b B : Nat} {w : World} (h : LSw L b B w) (st : Nat) (h1 : 1 ≤ st) (h5 : st ≤ 5) (cs : List (List UInt8)) (hc : cs.length ≤ nmLen st) :
    LSw { L with N := setN L.N st (cs ++ (grpN L.N st).drop cs.length) } b B (w.setRow B (L.vals.toArray.toList.take (nmOff st) ++ (sv cs ++ L.vals.toArray.toList.drop (nmOff st + (sv cs).length))).toArray) ∧
    Stp L { L with N := setN L.N st (cs ++ (grpN L.N st).drop cs.length) } B w (w.setRow B (L.vals.toArray.toList.take (nmOff st) ++ (sv cs ++ L.vals.toArray.toList.drop (nmOff st + (sv cs).length))).toArray) := by
  have hg := grpN_len h.ok st
  refine h.re L.nm (setN L.N st (cs ++ (grpN L.N st).drop cs.length)) L.pt (setN_ok h.ok st h1 h5 _ (by rw [List.length_append, List.length_drop]; omega)) (frm_row _ _ _) ?_
  rw [setRow_heap w B _ _ _ _ h.obj]
  have := vals_splice h.ok st h1 h5 cs hc
  simp only [List.toList_toArray] at this ⊢
  rw [this]
set_option maxRecDepth 100000 in
set_option maxHeartbeats 2000000 in
theorem acc_ls (st b B Y n off : Nat) (h1 : 1 ≤ st) (h5 : st ≤ 5) (hn : nmLen st = n) (ho : nmOff st = off) : AccS st 91 (.pointer (some ⟨Y, 0, none⟩)) b B (KdB B Y (.slice (some ⟨B, off, none⟩) n n)) := by
  refine ⟨fun xs w' => by kernel_rfl, ?_⟩
  intro L D k t w h hD hz hk ht hm hY
  obtain ⟨hy0, hyz, hyf⟩ := hY
  have H := Lib.hid h
  have HD := Lib.hid hD
  have Hm := Lib.hid hm
  have hn12 : 1 ≤ n ∧ n ≤ 12 ∧ off + n ≤ 45 := by
    subst hn ho
    obtain rfl | rfl | rfl | rfl | rfl : st = 1 ∨ st = 2 ∨ st = 3 ∨ st = 4 ∨ st = 5 := by omega
    all_goals decide
  have hcnt := spl_count 44 t
  have hne := spl_ne 44 t
  have hlen := spl_len 44 t
  obtain ⟨S, hS⟩ : ∃ S, spl 44 t = S := ⟨_, rfl⟩
  have HSp : Hid (∀ w', Lm w' → Calls Tryz.prog 16 #[.string ⟨t.toArray⟩, .string ⟨#[44]⟩] w' fun e w'' => e = .returned (.slice (some ⟨w'.heap.size, 0, none⟩) S.length S.length) ∧ w'' = w'.alloc (.cells ((S.map fun l => Value.string ⟨l.toArray⟩).toArray) 9)) := fun w' hm' => by
    have := split_c t 44 w' hm' (by omega)
    rwa [hS] at this
  rw [hS] at hcnt hne
  have HS := Lib.hid hS
  have Hn := Lib.hid hn
  have Ho := Lib.hid ho
  clear h hD hz hm hS hn ho hlen
  obtain ⟨bb, hbb⟩ : ∃ bb, ((S.length : Int) == (n : Int)) = bb := ⟨_, rfl⟩
  go_enter Tryz.func91, Tryz.ntmps91
  go_upto_region 2 with (first
    | (go_at_call 16; (with_reducible refine (HSp.out _ Hm.out).mono ?_); rintro e w1 ⟨rfl, hw1⟩; have Hw1 := Lib.hid hw1; clear hw1))
  have hw1 := Hw1.out
  have hE1 : Ext w w1 := by rw [hw1]; exact (Ext.refl w).alloc _
  have hR : RdS S w.heap.size 0 w1 := by
    rw [hw1]
    refine ⟨by simp, fun i hi => ?_⟩
    rw [Nat.zero_add, World.cell?_alloc_new]
    simp [hi]
  generalize w.heap.size = R at hR ⊢
  clear hw1 Hw1
  have H1 := Lib.hid (H.out.ext hE1)
  have HE1 := Lib.hid hE1
  have y1 := (hE1.cells Y 0 hyz).trans hy0
  have yz1 := hE1.lt hyz
  have hobj := H1.out.obj
  have hB1 := H1.out.lt
  obtain ⟨cs, hcs⟩ : ∃ cs, cs = S.take n := ⟨_, rfl⟩
  have hcl : cs.length = min S.length n := by rw [hcs, List.length_take]; exact Nat.min_comm _ _
  have hsl : (sv cs).length = min S.length n := by rw [← hcl]; simp [sv]
  have h45 : L.vals.toArray.size = 45 := by rw [List.size_toArray]; exact Loc.len H1.out.ok
  have hfit : off + (sv cs).length ≤ L.vals.toArray.size := by rw [hsl, h45]; omega
  have hsrc : ∀ j v, (sv cs)[j]? = some v → w1.cell? ((⟨R, 0, none⟩ : Addr).add j) = some v := by
    intro j v hv
    have hj : j < (sv cs).length := (List.getElem?_eq_some_iff.1 hv).1
    have hj2 : j < S.length := by rw [hsl] at hj; omega
    have := hR.2 j hj2
    have e0 : ((⟨R, 0, none⟩ : Addr).add j) = ⟨R, 0 + j, none⟩ := by unfold Addr.add; split <;> simp_all
    rw [e0, this, ← hv]
    have hjn : j < n := by rw [hsl] at hj; omega
    rw [hcs]
    simp [sv, hj2, hjn]
  have hone : ∀ v ∈ sv cs, v.oneCell' = true := fun v hv => by
    unfold sv at hv
    obtain ⟨l, -, rfl⟩ := List.mem_map.1 hv
    rfl
  have hset := Lib.hid (H1.out.set_row st h1 h5 cs (by rw [hcl, Hn.out]; omega))
  rw [Ho.out] at hset
  have Hsl : Hid ((sv cs).length = Nat.min S.length n) := hsl
  have Hfit := Lib.hid hfit
  have Hsrc := Lib.hid hsrc
  have Hcs := Lib.hid hcs
  have Hcl := Lib.hid hcl
  clear hcs hcl hsl hfit hsrc h45 hE1
  go_upto_region 3 with (first
    | (refine wpList_copy_own (o := ⟨some 9, _, _, _, _, _⟩) rfl (.tmp 7) (.tmp 8) 54 54 rfl 9 Tryz.underlying54 rfl B off n n ⟨R, 0, none⟩ S.length S.length rfl rfl L.vals.toArray 30 hobj (sv cs) Hsl.out Hsrc.out Hfit.out hone ?_))
  have hF2 := frm_row w1 B (L.vals.toArray.toList.take off ++ (sv cs ++ L.vals.toArray.toList.drop (off + (sv cs).length))).toArray
  generalize w1.setRow B (L.vals.toArray.toList.take off ++ (sv cs ++ L.vals.toArray.toList.drop (off + (sv cs).length))).toArray = W2 at hset hF2 ⊢
  have y2 := (hF2.cel yz1 (fun e => hyf.1 e) 0).trans y1
  have HST := Lib.hid ((Stp.of_ext L B HE1.out).trans hset.out.2)
  clear hF2 hobj y1 hone
  have Hbb := Lib.hid hbb
  cases bb
  all_goals
    go_wp2_with fail
    go_ret
    unfold AccQ
  · refine ⟨false, _, rfl, HST.out, (fun q => by cases q), fun _ => ?_⟩
    have hq : ¬ S.length = n := fun e => by
      have := Hbb.out
      rw [e] at this
      simp at this
    rw [addL, if_neg (by omega), if_pos h5, HS.out, Hn.out, if_neg hq]
  · refine ⟨true, _, rfl, HST.out, (fun _ => ⟨{ D with N := setN D.N st S }, ?_, hset.out.1, ⟨HD.out.nm, ?_, HD.out.P, HD.out.O, HD.out.U, HD.out.pt⟩⟩), fun q => by cases q⟩
    · have hq : S.length = n := by have := Hbb.out; simp at this; omega
      rw [addL, if_neg (by omega), if_pos h5, HS.out, Hn.out, if_pos hq]
    · have hq : S.length = n := by have := Hbb.out; simp at this; omega
      show setN L.N st (cs ++ (grpN L.N st).drop cs.length) = setN D.N st S
      have e1 : cs = S := by rw [Hcs.out]; exact List.take_of_length_le (by omega)
      have e2 : (grpN L.N st).drop cs.length = [] := List.drop_of_length_le (by rw [grpN_len H.out.ok, Hn.out, e1]; omega)
      rw [e2, e1, List.append_nil, HD.out.N]
end Go.Proofs.YtnhdmnhfllecgaaGreatDoor
/- Locales: the walks of what reads a line: a unit. -/
namespace Go.Proofs.YtnhdmnhfllecgaaGreatDoor
set_option linter.unusedVariables false
set_option linter.unusedSimpArgs false
open Go.RowKit

theorem infoUni : (Tryz.prog.info? 53).map (fun i => (i.zero, i.size, i.bytes)) = some (some (.agg #[.int .i64 0, .slice none 0 0]), 2, 32) := by kernel_rfl
theorem own_mono {w : World} {b c : Nat} {e : TypeId} {size n : Nat} {v : Value} {xs : List Value} (h : w.ownsRow c e size v n xs) (hb : b ≤ c) : w.ownsRow b e size v n xs := by
  obtain ⟨h1, h2⟩ := h
  refine ⟨h1, ?_⟩
  rcases h2 with q | ⟨g, cap, cur, e0, hc, r⟩
  · exact .inl q
  · exact .inr ⟨g, cap, cur, e0, Nat.le_trans hb hc, r⟩
def frs (P : List Plu) (S : List (List UInt8)) : List Plu := (P.zip S).map fun q => ⟨q.1.c, q.2⟩
theorem frs_len {P : List Plu} {S : List (List UInt8)} (h : S.length = P.length) : (frs P S).length = S.length := by unfold frs; simp [h]
theorem frs_succ {P : List Plu} {S : List (List UInt8)} (h : S.length = P.length) (j : Nat) (hj : j < S.length) (hp : j < P.length) :
    plcs ((frs P S).take (j + 1)) = plcs ((frs P S).take j) ++ [.string ⟨(P[j]).c.toArray⟩, .string ⟨(S[j]).toArray⟩] := by
  have hl : j < (frs P S).length := by rw [frs_len h]; exact hj
  rw [List.take_succ_eq_append_getElem hl, plcs_app]
  congr 1
  have e : (frs P S)[j] = ⟨(P[j]).c, S[j]⟩ := by
    have h1 : (frs P S)[j]? = some ⟨(P[j]).c, S[j]⟩ := by
      have hzl : j < (P.zip S).length := by rw [List.length_zip]; omega
      have h0 : (P.zip S)[j] = (P[j], S[j]) := List.getElem_zip
      unfold frs
      rw [List.getElem?_map, List.getElem?_eq_getElem hzl, h0]; rfl
    rw [List.getElem?_eq_getElem hl] at h1
    injection h1
  rw [e]; rfl
theorem add_uni {D : LocD} {t A R : List UInt8} {two : Bool} (hcut : cut1 t = (A, R, two)) :
    addL 8 D t = if two = false ∨ numM 13 A = false ∨ R = [] ∨ (spl 44 R).length ≠ D.P.length then none else some { D with U := D.U ++ [⟨val A, frs D.P (spl 44 R)⟩] } := by
  rw [addL, if_neg (by decide), if_neg (by decide), if_neg (by decide), if_pos rfl, hcut]
  rfl
theorem ext_frm {w w1 w2 : World} {S : Nat → Prop} (h : Ext w w1) (hF : Frm S w1 w2) (hS : ∀ k, S k → w.heap.size ≤ k) : Ext w w2 :=
  Frm.far h hF (fun k hk q => by have := hS k q; omega)
set_option maxRecDepth 100000 in
set_option maxHeartbeats 4000000 in
theorem acc_U (b B : Nat) : AccS 8 46 (.pointer (some ⟨B, 0, none⟩)) b B (fun _ _ => True) := by
  refine ⟨fun xs w' => by kernel_rfl, ?_⟩
  intro L D k t w h hD hz hk ht hm _
  obtain ⟨A, R2, two, hcut⟩ : ∃ A R two, cut1 t = (A, R, two) := ⟨_, _, _, rfl⟩
  have hcl : A.length ≤ t.length ∧ R2.length ≤ t.length := by
    have := cut_len t [32]
    unfold cut1 at hcut
    rw [hcut] at this
    exact this
  have HAD := Lib.hid (add_uni (D := D) hcut)
  have Hcut : Hid (Lib.cut t [32] = (A, R2, two)) := hcut
  have H := Lib.hid h
  have HD := Lib.hid hD
  have Hm := Lib.hid hm
  have hcnt := spl_count 44 R2
  have hne := spl_ne 44 R2
  have hlen := spl_len 44 R2
  obtain ⟨S, hS⟩ : ∃ S, spl 44 R2 = S := ⟨_, rfl⟩
  have HSp : Hid (∀ w', Lm w' → Calls Tryz.prog 16 #[.string ⟨R2.toArray⟩, .string ⟨#[44]⟩] w' fun e w'' => e = .returned (.slice (some ⟨w'.heap.size, 0, none⟩) S.length S.length) ∧ w'' = w'.alloc (.cells ((S.map fun l => Value.string ⟨l.toArray⟩).toArray) 9)) := fun w' hm' => by
    have := split_c R2 44 w' hm' (by omega)
    rwa [hS] at this
  rw [hS] at hcnt hne hlen
  obtain ⟨s, hs⟩ : ∃ s, numMN A = s := ⟨_, rfl⟩
  obtain ⟨okb, hok⟩ : ∃ okb, numM 13 A = okb := ⟨_, rfl⟩
  have HSec : Hid (∀ w', Calls Tryz.prog 48 #[.string ⟨A.toArray⟩] w' fun e w'' => e = .returned (.tuple #[.int .i64 (s : Int), .bool okb]) ∧ Ext w' w'') := fun w' => by
    have := seconds_c A w' (by omega)
    rwa [hs, hok] at this
  rw [hS, hok] at HAD
  have hn : L.P.length ≤ 60000 ∧ L.U.length ≤ 60000 := by have := hz.nP; have := hz.nU; rw [hD.P, hD.ulen]; omega
  have hc41 := (h.lcb.cells h.ok).2.1
  have hB := h.lt
  have HPV := Lib.hid (own_plv h.oP)
  have Hs := Lib.hid hs
  have Hok := Lib.hid hok
  have Hlen := Lib.hid hlen
  clear h hD hz hm hcut hS hs hok hlen
  have HDP : Hid (D.P.length = L.P.length) := by rw [Hid, HD.out.P]
  go_enter Tryz.func46, Tryz.ntmps46
  go_upto_region 5 with (first
    | (go_at_call 47; (with_reducible refine (cutS_c t [32] A R2 two _ Hm.out (by omega) Hcut.out).mono ?_); rintro e w1 ⟨rfl, hE1⟩; have Hm1 := Lib.hid (Hm.out.ext hE1))
    | (go_at_call 48; (with_reducible refine (HSec.out _).mono ?_); rintro e w2 ⟨rfl, hE2⟩; have Hm2 := Lib.hid (Hm1.out.ext hE2))
    | (go_at_call 16; (with_reducible refine (HSp.out _ Hm2.out).mono ?_); rintro e w3 ⟨rfl, hw3⟩; have Hw3 := Lib.hid hw3; clear hw3))
  have hw3 := Hw3.out
  have hE3 : Ext w2 w3 := by rw [hw3]; exact (Ext.refl w2).alloc _
  have hR3 : RdS S w2.heap.size 0 w3 := by
    rw [hw3]
    refine ⟨by simp, fun i hi => ?_⟩
    rw [Nat.zero_add, World.cell?_alloc_new]
    simp [hi]
  have hEw3 := (hE1.trans hE2).trans hE3
  have hRU : w2.heap.size < w3.heap.size := hR3.1
  have hUw : w.heap.size ≤ w3.heap.size := hEw3.size
  have hEU : Ext w3 (w3.alloc (.cells #[.int .i64 (s : Int), .slice none 0 0] 53)) := (Ext.refl w3).alloc _
  have hRW := hR3.ext hEU
  have hUo : (w3.alloc (.cells #[.int .i64 (s : Int), .slice none 0 0] 53)).heap[w3.heap.size]? = some (.cells #[.int .i64 (s : Int), .slice none 0 0] 53 (0, 0)) := heap_alloc_new w3 _
  have hUz : w3.heap.size < (w3.alloc (.cells #[.int .i64 (s : Int), .slice none 0 0] 53)).heap.size := by simp
  have hEW := hEw3.trans hEU
  generalize w3.alloc (.cells #[.int .i64 (s : Int), .slice none 0 0] 53) = W1 at hRW hUo hUz hEW ⊢
  clear hw3 Hw3 hE3 hR3 hE1 hE2 hEw3 hEU
  generalize w3.heap.size = U at hRU hUw hUo hUz ⊢
  generalize w2.heap.size = R at hRU hRW ⊢
  have HEW := Lib.hid hEW
  have g41 := (hEW.cells B 41 hB).trans hc41
  have hB1 := hEW.lt hB
  have HRW := Lib.hid hRW
  have HUo := Lib.hid hUo
  clear hRW hUo hEW
  cases okb with
  | false => go_wp2_with fail
             go_ret
             unfold AccQ
             exact ⟨false, L, rfl, Stp.of_ext L B HEW.out, (fun q => by cases q), fun _ => by rw [HAD.out, if_pos (by simp)]⟩
  | true =>
    cases two with
    | false => go_wp2_with fail
               go_ret
               unfold AccQ
               exact ⟨false, L, rfl, Stp.of_ext L B HEW.out, (fun q => by cases q), fun _ => by rw [HAD.out, if_pos (by simp)]⟩
    | true =>
      by_cases hR2 : R2 = []
      · have tR : (R2 == []) = true := by simpa using hR2
        have tR3 : R2.isEmpty = true := by simpa using hR2
        have HR2 := Lib.hid hR2
        clear hR2
        go_wp2_with fail
        go_ret
        unfold AccQ
        exact ⟨false, L, rfl, Stp.of_ext L B HEW.out, (fun q => by cases q), fun _ => by rw [HAD.out, if_pos (by exact .inr (.inr (.inl HR2.out)))]⟩
      · have tR : (R2 == []) = false := by simpa using hR2
        have tR3 : R2.isEmpty = false := by simpa using hR2
        have HR2 := Lib.hid hR2
        clear hR2
        by_cases hl : S.length = L.P.length
        · have tl : ((S.length : Int) == (L.P.length : Int)) = true := by rw [hl]; simp
          have Hl := Lib.hid hl
          obtain ⟨i0, hi, hz0, hz1, hz2⟩ := info_parts infoPlu
          have Hi := Lib.hid hi
          have Hz0 := Lib.hid hz0
          have Hz1 := Lib.hid hz1
          have Hz2 := Lib.hid hz2
          clear hi hz0 hz1 hz2
          have hS1 : 1 ≤ S.length := List.length_pos_iff.2 hne
          obtain ⟨hpl, hpc, hp3⟩ := HPV.out
          unfold maxLen at hpc
          obtain ⟨Rp, op, hpa, hRp0, hpcells⟩ := hp3 (by intro e; have q := hl; rw [e] at q; simp at q; exact hne q)
          have HPc := Lib.hid hpcells
          have HPa := Lib.hid hpa
          rw [hpa] at g41
          clear hpa hpcells hp3 hl
          obtain ⟨z, hz⟩ : ∃ z, W1.heap.size = z := ⟨_, rfl⟩
          have HZ := Lib.hid hz
          rw [hz] at hUz hB1
          have hzw : w.heap.size ≤ z := by rw [← hz]; exact HEW.out.size
          clear hz
          go_wp2_with fail
          go_loopw [48] (fun i wr => ∃ (j : Nat) (ao : Option Addr) (cv : Nat), j ≤ S.length ∧ i = .int .i64 (j : Int) ∧ wr.ownsRow z 50 2 (.slice ao j cv) j (plcs ((frs L.P S).take j)) ∧ wr.heap[U]? = some (.cells #[.int .i64 (s : Int), .slice ao j cv] 53 (0, 0)) ∧ Frm (fun k => k = U ∨ z ≤ k) W1 wr) (fun i _ => S.length - (intOf i).toNat)
          case atStart => exact ⟨0, none, 0, Nat.zero_le _, rfl, World.ownsRow_nil _ _ _ _, HUo.out, Frm.refl _ _⟩
          case round =>
            obtain ⟨j, ao, cv, hj, rfl, hown, hUr, hF⟩ := hrel
            have hsz := hF.size
            rw [HZ.out] at hsz
            have hEr : Ext w wr := ext_frm HEW.out hF (by rintro k (rfl | q) <;> omega)
            have hUlt : U < wr.heap.size := by omega
            have hU0 : wr.cell? ⟨U, 0, none⟩ = some (.int .i64 (s : Int)) := by rw [cell_of_row wr U 0 _ _ _ hUr]; rfl
            have hU1 : wr.cell? ⟨U, 1, none⟩ = some (.slice ao j cv) := by rw [cell_of_row wr U 1 _ _ _ hUr]; rfl
            have hSlt0 : ∀ k, bk ao = some k → z ≤ k ∧ k < wr.heap.size := fun k e => hown.lt k (by rw [own_bk]; exact e)
            have HF := Lib.hid hF
            have HEr := Lib.hid hEr
            have hBr := hEr.lt hB
            by_cases hlt : j < S.length
            · have hjP : j < L.P.length := by rw [← Hl.out]; exact hlt
              have x0 := (hF.cel HRW.out.1 (by rintro (q | q); omega; have := HRW.out.1; rw [HZ.out] at this; omega) (0 + j)).trans (HRW.out.2 j hlt)
              rw [Nat.zero_add] at x0
              obtain ⟨p0, -⟩ := HPc.out j hjP
              replace p0 := (hEr.cells Rp _ hRp0).trans p0
              have hRp := hEr.lt hRp0
              have c41r := (hEr.cells B 41 hB).trans hc41
              rw [HPa.out] at c41r
              have HSq := Lib.hid (frs_succ Hl.out j hlt hjP)
              obtain ⟨fx, hx⟩ : ∃ x, x = S[j] := ⟨_, rfl⟩
              obtain ⟨c, hc⟩ : ∃ c, c = (L.P[j]).c := ⟨_, rfl⟩
              rw [← hx] at x0 HSq
              rw [← hc] at p0 HSq
              clear hx hc
              have hnU : ¬ bk ao = some U := fun e => by have := (hSlt0 U e).1; omega
              have hnB : ¬ bk ao = some B := fun e => by have := (hSlt0 B e).1; omega
              have hnR : ¬ bk ao = some Rp := fun e => by have := (hSlt0 Rp e).1; omega
              have hSlt : ∀ k, bk ao = some k → k < wr.heap.size := fun k e => (hSlt0 k e).2
              have hRr : R < wr.heap.size := by have := HRW.out.1; rw [HZ.out] at this; omega
              clear hF hEr
              go_upto_region 10 with fail
              refine wp_region_growP [53, 54, 55, 56, 57, 58, 59, 60, 61, 62, 63, 64, 65] [fun x _ => x = .pointer (some ⟨U, 1, none⟩), fun x _ => x = .slice ao j cv, fun x _ => x = .pointer (some ⟨B, 41, none⟩), fun x _ => x = .slice (some ⟨Rp, op, none⟩) L.P.length L.pc, fun x _ => x = .int .i64 (j : Int), fun x _ => x = .pointer (some ⟨Rp, op + j * 2, none⟩), fun x _ => x = .pointer (some ⟨Rp, op + j * 2, none⟩), fun x _ => x = .string ⟨c.toArray⟩, fun x _ => x = .string ⟨fx.toArray⟩, fun x _ => x = .agg #[.string ⟨c.toArray⟩, .string ⟨fx.toArray⟩], TwoS (fun k => bk ao = some k) c fx, RowS z ao j (plcs ((frs L.P S).take j) ++ [.string ⟨c.toArray⟩, .string ⟨fx.toArray⟩]) wr.heap.size, fun x _ => x = .pointer (some ⟨U, 1, none⟩)] (fun k => bk ao = some k) 11 1 (by kernel_rfl) (by kernel_rfl) (by kernel_rfl) (by kernel_rfl) ?_ ?_ ?_ ?_ ?_
              · refine ⟨?_, ?_, ?_, ?_, ?_, ?_, ?_, ?_, ?_, ?_, ?_, ?_, ?_, trivial⟩
                · exact fun _ _ _ _ h _ => h
                · exact fun _ _ _ _ h _ => h
                · exact fun _ _ _ _ h _ => h
                · exact fun _ _ _ _ h _ => h
                · exact fun _ _ _ _ h _ => h
                · exact fun _ _ _ _ h _ => h
                · exact fun _ _ _ _ h _ => h
                · exact fun _ _ _ _ h _ => h
                · exact fun _ _ _ _ h _ => h
                · exact fun _ _ _ _ h _ => h
                · exact fun _ _ _ _ h hF => TwoS.frm h hF
                · exact fun h => absurd rfl h
                · exact fun _ _ _ _ h _ => h
              · exact fun _ _ _ h hE => RowS.ext h hE
              · refine ⟨?_, ?_, ?_, ?_, ?_, ?_, ?_, ?_, ?_, ?_, ?_, ?_, ?_, trivial⟩
                · intro _ a w hE hF hD K hK
                  exact gs_val rfl (yr_field rfl ((hF 10 (fr_of rfl)).trans rfl) (by go_simp)) (hK _ _ rfl (Ext.refl _))
                · intro _ a w hE hF hD K hK
                  have u53 : a.eval (.tmp 53) = .pointer (some ⟨U, 1, none⟩) := hD 0 (by kernel_rfl)
                  exact gs_val rfl (yr_load rfl u53 (ld_plu _ _ _ ((hE.cel hUlt hnU 1).trans hU1))) (hK _ _ rfl (Ext.refl _))
                · intro _ a w hE hF hD K hK
                  exact gs_val rfl (yr_field rfl ((hF 1 (fr_of rfl)).trans rfl) (by go_simp)) (hK _ _ rfl (Ext.refl _))
                · intro _ a w hE hF hD K hK
                  have u55 : a.eval (.tmp 55) = .pointer (some ⟨B, 41, none⟩) := hD 2 (by kernel_rfl)
                  exact gs_val rfl (yr_load rfl u55 (ld_plu _ _ _ ((hE.cel hBr hnB 41).trans c41r))) (hK _ _ rfl (Ext.refl _))
                · intro _ a w hE hF hD K hK
                  exact gs_val rfl (yr_move rfl ((hF 11 (fr_of rfl)).trans rfl)) (hK _ _ rfl (Ext.refl _))
                · intro _ a w hE hF hD K hK
                  have u56 : a.eval (.tmp 56) = .slice (some ⟨Rp, op, none⟩) L.P.length L.pc := hD 3 (by kernel_rfl)
                  have u57 : a.eval (.tmp 57) = .int .i64 (j : Int) := hD 4 (by kernel_rfl)
                  exact gs_val rfl (yr_idxa rfl u56 u57 (ix_pl Rp op _ _ j w hjP)) (hK _ _ rfl (Ext.refl _))
                · intro _ a w hE hF hD K hK
                  have u58 : a.eval (.tmp 58) = .pointer (some ⟨Rp, op + j * 2, none⟩) := hD 5 (by kernel_rfl)
                  exact gs_val rfl (yr_field rfl u58 (by go_simp)) (hK _ _ rfl (Ext.refl _))
                · intro _ a w hE hF hD K hK
                  have u59 : a.eval (.tmp 59) = .pointer (some ⟨Rp, op + j * 2, none⟩) := hD 6 (by kernel_rfl)
                  exact gs_val rfl (yr_load rfl u59 (ld_st _ _ _ ((hE.cel hRp hnR _).trans p0))) (hK _ _ rfl (Ext.refl _))
                · intro _ a w hE hF hD K hK
                  exact gs_val rfl (yr_move rfl ((hF 12 (fr_of rfl)).trans rfl)) (hK _ _ rfl (Ext.refl _))
                · intro _ a w hE hF hD K hK
                  have u60 : a.eval (.tmp 60) = .string ⟨c.toArray⟩ := hD 7 (by kernel_rfl)
                  have u61 : a.eval (.tmp 61) = .string ⟨fx.toArray⟩ := hD 8 (by kernel_rfl)
                  exact gs_val rfl (yr_bld2 rfl u60 u61 (bld_plu _ _ w)) (hK _ _ rfl (Ext.refl _))
                · intro _ a w hE hF hD K hK
                  have u62 : a.eval (.tmp 62) = .agg #[.string ⟨c.toArray⟩, .string ⟨fx.toArray⟩] := hD 9 (by kernel_rfl)
                  exact gs_mkE rfl (yr_bs1 rfl u62 (bs1_plu _ _ w)) (hK _ _ (TwoS.new hSlt hE.size _ _) ((Ext.refl _).alloc _))
                · exact fun h => absurd rfl h
                · intro _ a w hE hF hD K hK
                  exact gs_val rfl (yr_field rfl ((hF 10 (fr_of rfl)).trans rfl) (by go_simp)) (hK _ _ rfl (Ext.refl _))
              · intro a w hE hF hD K hK
                have u54 : a.eval (.tmp 54) = .slice ao j cv := hD 1 (by kernel_rfl)
                have u63 : (TwoS (fun k => bk ao = some k) c fx) (a.eval (.tmp 63)) w := hD 10 (by kernel_rfl)
                obtain ⟨g2, e20, k0, k1, k2, k3⟩ := u63
                refine wp_append_lies w (.tmp 54) (.tmp 63) 27 rfl z 50 i0 (.agg #[.string ByteArray.empty, .string ByteArray.empty]) 2 32 Tryz.underlying27 Hi.out Hz0.out Hz1.out Hz2.out rfl (by decide) (.slice ao j cv) j (plcs ((frs L.P S).take j)) u54 (own_ext hown hE) ⟨g2, 0, none⟩ 1 1 [.string ⟨c.toArray⟩, .string ⟨fx.toArray⟩] e20 rfl (two_at k0 k1) (fun x hx => by simp at hx; rcases hx with rfl | rfl <;> rfl) (by decide) (by unfold maxLen; omega) (by omega) (by have := hE.size; omega) _ rfl ?_
                intro g3 cap3 w3 hown3 hgrow3 hat3 hlt3
                rw [own_bk] at hgrow3 hat3
                exact hK _ _ ⟨g3, cap3, rfl, hown3, hat3.imp id (fun q => by rw [q]; exact hE.size)⟩ (grown_frm hgrow3)
              intro vals wz hEz hRz
              obtain ⟨-, -, -, -, -, -, -, -, -, -, -, h11, h12, -⟩ := hRz
              obtain ⟨g3, cap3, e64, hown3, hat3⟩ := h11
              have e65 : vals 12 = .pointer (some ⟨U, 1, none⟩) := h12
              simp only [putF, Act.put, List.length_cons, List.length_nil, List.getD_cons_zero, List.getD_cons_succ, List.setIfInBounds_toArray, List.set_cons_zero, List.set_cons_succ, Nat.reduceAdd, e64, e65]
              clear e64 e65
              have GU := (hEz.block U hUlt hnU).trans hUr
              refine wpAny_op (i := 13) (by kernel_rfl) rfl (by rfl) ?_
              refine gs_store rfl rfl rfl rfl (st_plu _ _ _ _ _ _ (show wz.cell? ⟨U, 1, none⟩ = some (.slice ao j cv) from (hEz.cel hUlt hnU 1).trans hU1) (frz_obj GU 1)) ?_
              refine wpAny_done (by kernel_rfl) ?_ _
              simp only [Act.put, List.setIfInBounds_toArray, List.set_cons_zero, List.set_cons_succ]
              have hg3 : z ≤ g3 := by
                rcases hat3 with q | q
                · exact (hSlt0 g3 q).1
                · omega
              have HO : Hid ((wz.setCell ⟨U, 1, none⟩ (.slice (some ⟨g3, 0, none⟩) (j + 1) cap3)).ownsRow z 50 2 (.slice (some ⟨g3, 0, none⟩) (j + 1) cap3) (j + 1) (plcs ((frs L.P S).take (j + 1)))) := by
                rw [Hid, HSq.out]
                exact own_frm hown3 (frm_set (B := U) (j := 1) _) (fun y hy e => by injection hy with hy; simp at hy; omega)
              have HUq : Hid ((wz.setCell ⟨U, 1, none⟩ (.slice (some ⟨g3, 0, none⟩) (j + 1) cap3)).heap[U]? = some (.cells #[.int .i64 (s : Int), .slice (some ⟨g3, 0, none⟩) (j + 1) cap3] 53 (0, 0))) := by
                rw [Hid, heap_setCell_same wz U 1 _ _ _ GU]
                rfl
              have HFq : Hid (Frm (fun k => k = U ∨ z ≤ k) W1 (wz.setCell ⟨U, 1, none⟩ (.slice (some ⟨g3, 0, none⟩) (j + 1) cap3))) :=
                HF.out.trans ((hEz.mono (fun k _ e => .inr (hSlt0 k e).1)).setCell (p := ⟨U, 1, none⟩) (.inl (.inl rfl)) _)
              generalize wz.setCell ⟨U, 1, none⟩ (.slice (some ⟨g3, 0, none⟩) (j + 1) cap3) = W9 at HO HUq HFq ⊢
              clear hown3 hat3 GU hEz hSlt0 hnU hnB hnR hSlt
              go_wp2_with fail
              go_roundw
              case rel => exact ⟨j + 1, some ⟨g3, 0, none⟩, cap3, by omega, by go_num, HO.out, HUq.out, HFq.out⟩
              case measure => simp [intOf]; omega
            · obtain rfl : j = S.length := by omega
              rw [List.take_of_length_le (by rw [frs_len Hl.out]; exact Nat.le_refl _)] at hown
              have Hr := Lib.hid (H.out.ext hEr)
              have c43 := (Hr.out.lcb.cells Hr.out.ok).2.2.2.1
              have hown2 := Hr.out.oU
              have hbB := Hr.out.bB
              have HO := Lib.hid hown
              obtain ⟨iu, hiu, hu0, hu1, hu2⟩ := info_parts infoUni
              have Hiu := Lib.hid hiu
              have Hu0 := Lib.hid hu0
              have Hu1 := Lib.hid hu1
              have Hu2 := Lib.hid hu2
              have HSl := Lib.hid hSlt0
              clear hiu hu0 hu1 hu2 hF hown hUr hSlt0
              go_wp2_with (first
                | (at_builtin; go_loud (refine wpList_append_lies _ rfl _ _ 28 rfl b 53 iu (.agg #[.int .i64 0, .slice none 0 0]) 2 32 Tryz.underlying28 Hiu.out Hu0.out Hu1.out Hu2.out rfl (by decide) (.slice L.ua L.U.length L.uc) L.U.length (uncs L.U) rfl (own_ext hown2 ((Ext.refl wr).alloc _)) ⟨wr.heap.size, 0, none⟩ 1 1 [_, _] rfl rfl (cell_two_new wr _ _ _) (fun y hy => by simp at hy; rcases hy with rfl | rfl <;> rfl) (by decide) (by unfold maxLen; omega) (by omega) (by simp; omega) _ rfl ?_; intro g3 cap3 w3 hown3 hgrow3 hat3 hlt3; rw [own_bk] at hgrow3 hat3; obtain ⟨G41, G42, G43, GF⟩ := obj_grown Hr.out ((Ext.refl wr).alloc _) hgrow3 (Hr.out.nB 2); have Gf := GF 43; clear GF)))
              have hfl : (frs L.P S).length = S.length := frs_len Hl.out
              have hx := Lib.hid ((Hr.out.ext ((Ext.refl wr).alloc (.cells #[.int .i64 (s : Int), .slice ao S.length cv] 53))).app_U ⟨(s : Int), ao, cv, frs L.P S⟩ (by rw [show unc ⟨(s : Int), ao, cv, frs L.P S⟩ = [.int .i64 (s : Int), .slice ao S.length cv] by unfold unc; rw [hfl]]; exact hown3) hgrow3 (hat3.imp id (fun q => Nat.le_of_eq q.symm))
                (by show World.ownsRow _ b 50 2 (.slice ao (frs L.P S).length cv) (frs L.P S).length _; rw [hfl]; exact own_ext (own_mono HO.out (by omega)) ((Ext.refl wr).alloc _))
                (fun y hy => by
                  have h1 := (HSl.out y hy).1
                  refine ⟨by omega, fun i e => ?_⟩
                  have := (H.out.blk_in i y e).2
                  omega))
              have HEa := Lib.hid (HEr.out.trans ((Ext.refl wr).alloc (.cells #[.int .i64 (s : Int), .slice ao S.length cv] 53)))
              clear hown3 hgrow3 hat3 hlt3 G41 G42 G43 Gf c43 hown2 hfl
              go_ret
              unfold AccQ
              refine ⟨true, _, rfl, ⟨(Frm.of_ext HEa.out).trans (hx.out.2.1.mono (fun k _ e => e.imp id (fun q => ⟨2, q⟩))), fun i y hy => ?_⟩, (fun _ => ⟨{ D with U := D.U ++ [⟨val A, frs D.P S⟩] }, ?_, hx.out.1, ⟨HD.out.nm, HD.out.N, HD.out.P, HD.out.O, ?_, HD.out.pt⟩⟩), fun q => by cases q⟩
              · rcases hx.out.2.2 i y hy with q | q | q
                · exact .inl q
                · right; have := (HSl.out y q).1; omega
                · right; have := HEa.out.size; omega
              · rw [HAD.out, if_neg ?_]
                rintro (q | q | q | q)
                · cases q
                · cases q
                · exact HR2.out q
                · exact q (by rw [HDP.out]; exact Hl.out)
              · have e1 : val A = s := by
                  have := Hs.out
                  unfold numMN at this
                  rw [Hok.out] at this
                  exact this
                show (L.U ++ [(⟨(s : Int), ao, cv, frs L.P S⟩ : Uni)]).map Uni.sf = ((D.U ++ [(⟨val A, frs D.P S⟩ : UniD)]).map UniD.uni).map Uni.sf
                rw [List.map_append, List.map_append, List.map_append, HD.out.U, e1, HD.out.P]
                rfl
        · have tl : ((S.length : Int) == (L.P.length : Int)) = false := by rw [beq_eq_false_iff_ne]; omega
          have Hl := Lib.hid hl
          clear hl
          go_wp2_with fail
          go_ret
          unfold AccQ
          exact ⟨false, L, rfl, Stp.of_ext L B HEW.out, (fun q => by cases q), fun _ => by rw [HAD.out, if_pos (by refine .inr (.inr (.inr ?_)); rw [HDP.out]; exact Hl.out)]⟩
end Go.Proofs.YtnhdmnhfllecgaaGreatDoor
