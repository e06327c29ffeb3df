/- Queries: the walks of names: letters, digits, reserved words, a name, a list of names; both sides. -/
import Derived.Test.YtlmeinikknoeeaaGreatDoorQ00
import Derived.BigQuiet
import Derived.Deep.MidRow
namespace Go.Proofs.YtlmeinikknoeeaaGreatDoor
set_option linter.unusedVariables false
set_option linter.unnecessarySimpa false
set_option linter.unusedSimpArgs false
open Go.RowKit
theorem qlet_c (c:UInt8) (b:Bool) (w:World) (h:ltQ c=b):Calls Tryz.prog 241 #[.int .u8 (c.toNat:Int)] w fun e w'=>e = .returned (.bool b)∧w=w':=by
 subst h
 have hc:c.toNat<256:=c.toNat_lt
 go_enter Tryz.func241,Tryz.ntmps241
 go_wp2
 all_goals
  go_ret
  refine⟨?_,rfl⟩
  refine congrArg (fun b=>Ending.returned (Value.bool b)) ?_
  unfold ltQ
  rw[Bool.eq_iff_iff]
  simp
  omega
theorem qdig_c (c:UInt8) (b:Bool) (w:World) (h:isDg c=b):Calls Tryz.prog 242 #[.int .u8 (c.toNat:Int)] w fun e w'=>e = .returned (.bool b)∧w=w':=by
 subst h
 have hc:c.toNat<256:=c.toNat_lt
 go_enter Tryz.func242,Tryz.ntmps242
 go_wp2
 all_goals
  go_ret
  refine⟨?_,rfl⟩
  refine congrArg (fun b=>Ending.returned (Value.bool b)) ?_
  unfold isDg
  rw[Bool.eq_iff_iff]
  simp
  omega
theorem rqlet_c (c:UInt8) (b:Bool) (w:World) (h:ltQ c=b):Calls Tryz.prog 195 #[.int .u8 (c.toNat:Int)] w fun e w'=>e = .returned (.bool b)∧w=w':=by
 subst h
 have hc:c.toNat<256:=c.toNat_lt
 go_enter Tryz.func195,Tryz.ntmps195
 go_wp2
 all_goals
  go_ret
  refine⟨?_,rfl⟩
  refine congrArg (fun b=>Ending.returned (Value.bool b)) ?_
  unfold ltQ
  rw[Bool.eq_iff_iff]
  simp
  omega
theorem rqdig_c (c:UInt8) (b:Bool) (w:World) (h:isDg c=b):Calls Tryz.prog 196 #[.int .u8 (c.toNat:Int)] w fun e w'=>e = .returned (.bool b)∧w=w':=by
 subst h
 have hc:c.toNat<256:=c.toNat_lt
 go_enter Tryz.func196,Tryz.ntmps196
 go_wp2
 all_goals
  go_ret
  refine⟨?_,rfl⟩
  refine congrArg (fun b=>Ending.returned (Value.bool b)) ?_
  unfold isDg
  rw[Bool.eq_iff_iff]
  simp
  omega
def Rsv (w:World):Prop:=∃R off,w.cell? ⟨1,0,none⟩=some (.slice (some ⟨R,off,none⟩) 24 24)∧RdS rsvW R off w∧1<w.heap.size
theorem Rsv.ext {w w':World} (h:Rsv w) (hE:Ext w w'):Rsv w':=by
 obtain⟨R,off,h1,h2,h3⟩:=h
 exact⟨R,off,(hE.cells _ _ h3).trans h1,h2.ext hE,hE.lt h3⟩
set_option maxRecDepth 100000 in
set_option maxHeartbeats 1000000 in
theorem sidx_c (l:List (List UInt8)) (R off cap:Nat) (s:List UInt8) (w:World) (hR:l≠[]→RdS l R off w) (hl:l.length≤cap) (hc:cap≤maxLen) :
  Calls Tryz.prog 47 #[.slice (some ⟨R,off,none⟩) l.length cap,.string ⟨s.toArray⟩] w fun e w'=>(∃z:Int,e = .returned (.int .i64 z)∧decide (0≤z)=l.contains s)∧w=w':=by
 unfold maxLen at hc
 have HL:=Lib.hid hR
 obtain⟨G,hG⟩:∃G,G=l.contains s:=⟨_,rfl⟩
 have HP:=Lib.hid hG
 rw[←hG]
 clear hG hR
 go_enter Tryz.func47,Tryz.ntmps47
 go_wp2_with fail
 go_loop [8] (fun i=>∃j:Nat,j≤l.length∧i = .int .i64 (j:Int)∧Hid (∀i (h:i<j) (h2:i<l.length),l[i]≠s)) (fun i=>l.length-(intOf i).toNat)
 case atStart=>exact⟨0,Nat.zero_le _,rfl,fun i h=>absurd h (Nat.not_lt_zero i)⟩
 case round=>
  obtain⟨j,hj,rfl,Hall⟩:=hrel
  by_cases hlt:j<l.length
  ·obtain⟨hR0,hcs⟩:=HL.out (by rintro rfl;simp at hlt)
   have c0:=hcs j hlt
   clear hcs
   by_cases hq:l[j]=s
   ·have HV:Hid (G=true):=by rw[Hid,HP.out,List.contains_iff_mem,←hq];exact List.getElem_mem _
    rw[hq]at c0
    clear hq
    go_wp2_with fail
    go_ret
    exact⟨⟨(j:Int),rfl,by rw[HV.out];simp⟩,rfl⟩
   ·have Hn:Hid (∀i (h:i<j+1) (h2:i<l.length),l[i]≠s):=fun i h h2=>by
     by_cases e:i=j
     ·subst e;exact hq
     ·exact Hall.out i (by omega) h2
    obtain⟨x,hx⟩:∃x,x=l[j]:=⟨_,rfl⟩
    rw[←hx]at c0 hq
    clear hx
    have hne:(s==x)=false:=by rw[beq_eq_false_iff_ne];exact fun q=>hq q.symm
    clear hq
    go_wp2_with fail
    go_round
    case rel=>exact⟨j+1,by omega,by go_num,Hn⟩
    case measure=>simp[intOf];omega
  ·obtain rfl:j=l.length:=by omega
   have HV:Hid (G=false):=by
    rw[Hid,HP.out]
    cases e:l.contains s
    ·rfl
    ·exfalso
     rw[List.contains_iff_mem]at e
     obtain⟨i,hi,q⟩:=List.getElem_of_mem e
     exact Hall.out i hi hi q
   go_wp2_with fail
   go_ret
   exact⟨⟨-1,rfl,by rw[HV.out];rfl⟩,rfl⟩
theorem scon_c (l:List (List UInt8)) (R off cap:Nat) (s:List UInt8) (b:Bool) (w:World) (hR:l≠[]→RdS l R off w) (hl:l.length≤cap) (hc:cap≤maxLen) (hb:l.contains s=b) :
  Calls Tryz.prog 15 #[.slice (some ⟨R,off,none⟩) l.length cap,.string ⟨s.toArray⟩] w fun e w'=>e = .returned (.bool b)∧w=w':=by
 have HC:=Lib.hid (sidx_c l R off cap s w hR hl hc)
 rw[hb]at HC
 clear hR hb
 go_enter Tryz.func15,Tryz.ntmps15
 go_wp2_with (first
  | (go_at_call 47;(with_reducible refine HC.out.mono ?_);rintro e w1 ⟨⟨z,rfl,hz⟩,rfl⟩))
 go_ret
 exact⟨by rw[←hz];rfl,rfl⟩
end Go.Proofs.YtlmeinikknoeeaaGreatDoor
namespace Go.Proofs.YtlmeinikknoeeaaGreatDoor
set_option maxRecDepth 100000
set_option maxHeartbeats 4000000
set_option linter.unusedVariables false
set_option linter.unnecessarySimpa false
set_option linter.unusedSimpArgs false
open Go.RowKit
theorem rrsv_c (s:List UInt8) (b:Bool) (w:World) (hb:rsvW.contains s=b):Calls Tryz.prog 208 #[.string ⟨s.toArray⟩] w fun e w'=>e = .returned (.bool b)∧w=w':=by
 cases b
 ·have hf:∀x∈rsvW,(s==x)=false:=fun x hx=>by
   rw[beq_eq_false_iff_ne]
   rintro rfl
   rw[Bool.eq_false_iff]at hb
   exact hb (List.contains_iff_mem.2 hx)
  clear hb
  simp only[rsvW,List.forall_mem_cons]at hf
  obtain⟨f1,f2,f3,f4,f5,f6,f7,f8,f9,g1,g2,g3,g4,g5,g6,g7,g8,g9,k1,k2,k3,k4,k5,k6,-⟩:=hf
  go_enter Tryz.func208,Tryz.ntmps208
  go_wp2_with fail
  go_ret
  exact⟨rfl,rfl⟩
 ·rw[List.contains_iff_mem]at hb
  simp only[rsvW,List.mem_cons,List.not_mem_nil,or_false]at hb
  rcases hb with rfl|rfl|rfl|rfl|rfl|rfl|rfl|rfl|rfl|rfl|rfl|rfl|rfl|rfl|rfl|rfl|rfl|rfl|rfl|rfl|rfl|rfl|rfl|rfl
  all_goals
   go_enter Tryz.func208,Tryz.ntmps208
   go_wp2_with fail
   go_ret
   exact⟨rfl,rfl⟩
theorem scon24_c (R off:Nat) (s:List UInt8) (b:Bool) (w:World) (hR:RdS rsvW R off w) (hb:rsvW.contains s=b) :
  Calls Tryz.prog 15 #[.slice (some ⟨R,off,none⟩) 24 24,.string ⟨s.toArray⟩] w fun e w'=>e = .returned (.bool b)∧w=w':=scon_c rsvW R off 24 s b w (fun _=>hR) (by decide) (by decide) hb
theorem qname_c (s:List UInt8) (b:Bool) (w:World) (hs:s.length≤9223372036854775806) (hw:Rsv w) (hb:nmQ s=b) :
  Calls Tryz.prog 169 #[.string ⟨s.toArray⟩] w fun e w'=>e = .returned (.bool b)∧w=w':=by
 obtain⟨R,off,hg,hR,hgl⟩:=hw
 have HR:=Lib.hid hR
 clear hR hgl
 have HB:=Lib.hid hb
 clear hb
 by_cases h0:s = []
 ·subst h0
  have HF:Hid (b=false):=by rw[Hid,←HB.out];rfl
  go_enter Tryz.func169,Tryz.ntmps169
  go_wp2_with fail
  go_ret
  exact⟨by rw[HF.out];rfl,rfl⟩
 ·have h1:1≤s.length:=by cases s with|nil=>exact absurd rfl h0|cons=>simp
  have hne:(s == [])=false:=by simpa using h0
  have hne2:¬(s.length:Int)<1:=by omega
  by_cases h2:s.length≤30
  ·have d2:¬(30:Int)<(s.length:Int):=by omega
   obtain⟨c,hc⟩:∃c,c=s[0]'h1:=⟨_,rfl⟩
   have hbg:=bget s 0 h1 c hc
   have hhd:s.headD 0=c:=by rw[hc];cases s with|nil=>exact absurd rfl h0|cons=>rfl
   rcases Bool.eq_false_or_eq_true (ltQ c)with hl|hl
   ·have HN:Hid (nmQ s=(s.all wdC && !rsvW.contains s)):=by rw[Hid];unfold nmQ nmH;rw[hhd,hl,decide_eq_true h1,decide_eq_true h2];rfl
    have Hl:=Lib.hid hl
    clear hl hhd hc
    rcases Bool.eq_false_or_eq_true (rsvW.contains s)with hc|hc
    ·have HF:Hid (b=false):=by rw[Hid,←HB.out,HN.out,hc];simp
     have Hc:=Lib.hid hc
     clear hc h2 h0
     go_enter Tryz.func169,Tryz.ntmps169
     go_wp2_with (first
      | (go_at_call 241;(with_reducible refine(qlet_c c true _ Hl.out).mono ?_);rintro e w1 ⟨rfl,rfl⟩)
      | (go_at_call 15;(with_reducible refine(scon24_c R off s true _ HR.out Hc.out).mono ?_);rintro e w1 ⟨rfl,rfl⟩))
     go_ret
     exact⟨by rw[HF.out];rfl,rfl⟩
    ·have Hc:=Lib.hid hc
     clear hc h2 h0
     go_enter Tryz.func169,Tryz.ntmps169
     go_wp2_with (first
      | (go_at_call 241;(with_reducible refine(qlet_c c true _ Hl.out).mono ?_);rintro e w1 ⟨rfl,rfl⟩)
      | (go_at_call 15;(with_reducible refine(scon24_c R off s false _ HR.out Hc.out).mono ?_);rintro e w1 ⟨rfl,rfl⟩))
     clear hbg
     go_loop [24] (fun i=>∃j:Nat,j≤s.length∧i = .int .i64 (j:Int)∧Hid ((s.take j).all wdC=true)) (fun i=>s.length-(intOf i).toNat)
     case atStart=>exact⟨0,Nat.zero_le _,rfl,rfl⟩
     case round=>
      obtain⟨j,hj,rfl,Hall⟩:=hrel
      by_cases hlt:j<s.length
      ·have hbg:=bget s j hlt _ rfl
       have Hs:=Lib.hid (alq_take wdC s j hlt)
       have HN0:=Lib.hid (fun q:wdC s[j]=false=>alq_no j hlt q)
       obtain⟨c,hc⟩:∃c,c=s[j]:=⟨_,rfl⟩
       rw[←hc]at hbg Hs HN0
       clear hc
       rcases Bool.eq_false_or_eq_true (ltQ c)with hl|hl
       ·have Hq:=Lib.hid hl
        have Hn:Hid ((s.take (j+1)).all wdC=true):=by rw[Hid,Hs.out,Hall.out];unfold wdC;rw[hl];rfl
        clear hl
        go_wp2_with (first
         | (go_at_call 241;(with_reducible refine(qlet_c c true _ Hq.out).mono ?_);rintro e w1 ⟨rfl,rfl⟩))
        go_round
        case rel=>exact⟨j+1,by omega,by go_num,Hn⟩
        case measure=>simp[intOf];omega
       ·rcases Bool.eq_false_or_eq_true (isDg c)with hd|hd
        ·have Hq:=Lib.hid hl
         have Hd:=Lib.hid hd
         have Hn:Hid ((s.take (j+1)).all wdC=true):=by rw[Hid,Hs.out,Hall.out];unfold wdC;rw[hl,hd];rfl
         clear hl hd
         go_wp2_with (first
          | (go_at_call 241;(with_reducible refine(qlet_c c false _ Hq.out).mono ?_);rintro e w1 ⟨rfl,rfl⟩)
          | (go_at_call 242;(with_reducible refine(qdig_c c true _ Hd.out).mono ?_);rintro e w1 ⟨rfl,rfl⟩))
         go_round
         case rel=>exact⟨j+1,by omega,by go_num,Hn⟩
         case measure=>simp[intOf];omega
        ·have Hq:=Lib.hid hl
         have Hd:=Lib.hid hd
         by_cases h95:c.toNat=95
         ·have Hn:Hid ((s.take (j+1)).all wdC=true):=by rw[Hid,Hs.out,Hall.out];unfold wdC;rw[decide_eq_true h95];simp
          have hz:((c.toNat:Int) != 95)=false:=by rw[h95];rfl
          clear hl hd h95
          go_wp2_with (first
           | (go_at_call 241;(with_reducible refine(qlet_c c false _ Hq.out).mono ?_);rintro e w1 ⟨rfl,rfl⟩)
           | (go_at_call 242;(with_reducible refine(qdig_c c false _ Hd.out).mono ?_);rintro e w1 ⟨rfl,rfl⟩))
          go_round
          case rel=>exact⟨j+1,by omega,by go_num,Hn⟩
          case measure=>simp[intOf];omega
         ·have HF:Hid (b=false):=by
           rw[Hid,←HB.out,HN.out,HN0.out (by unfold wdC;rw[hl,hd,decide_eq_false h95];rfl)]
           rfl
          have hz:((c.toNat:Int) != 95)=true:=by rw[bne_iff_ne];omega
          clear hl hd
          go_wp2_with (first
           | (go_at_call 241;(with_reducible refine(qlet_c c false _ Hq.out).mono ?_);rintro e w1 ⟨rfl,rfl⟩)
           | (go_at_call 242;(with_reducible refine(qdig_c c false _ Hd.out).mono ?_);rintro e w1 ⟨rfl,rfl⟩))
          go_ret
          exact⟨by rw[HF.out];rfl,rfl⟩
      ·obtain rfl:j=s.length:=by omega
       have HT:Hid (b=true):=by rw[Hid,←HB.out,HN.out,Hc.out];have:=Hall.out;rw[List.take_length]at this;rw[this];rfl
       go_wp2_with fail
       go_ret
       exact⟨by rw[HT.out];rfl,rfl⟩
   ·have HF:Hid (b=false):=by rw[Hid,←HB.out];unfold nmQ nmH;rw[hhd,hl];simp
    have Hl:=Lib.hid hl
    clear hl hhd hc h0 h2
    go_enter Tryz.func169,Tryz.ntmps169
    go_wp2_with (first
     | (go_at_call 241;(with_reducible refine(qlet_c c false _ Hl.out).mono ?_);rintro e w1 ⟨rfl,rfl⟩))
    go_ret
    exact⟨by rw[HF.out];rfl,rfl⟩
  ·have HF:Hid (b=false):=by rw[Hid,←HB.out];unfold nmQ nmH;rw[decide_eq_false h2];simp
   have d2:(30:Int)<(s.length:Int):=by omega
   clear h2 h0
   go_enter Tryz.func169,Tryz.ntmps169
   go_wp2_with fail
   go_ret
   exact⟨by rw[HF.out];rfl,rfl⟩
theorem rname_c (s:List UInt8) (b:Bool) (w:World) (hs:s.length≤9223372036854775806) (hb:nmQ s=b) :
  Calls Tryz.prog 135 #[.string ⟨s.toArray⟩] w fun e w'=>e = .returned (.bool b)∧w=w':=by
 skip
 have HB:=Lib.hid hb
 clear hb
 by_cases h0:s = []
 ·subst h0
  have HF:Hid (b=false):=by rw[Hid,←HB.out];rfl
  go_enter Tryz.func135,Tryz.ntmps135
  go_wp2_with fail
  go_ret
  exact⟨by rw[HF.out];rfl,rfl⟩
 ·have h1:1≤s.length:=by cases s with|nil=>exact absurd rfl h0|cons=>simp
  have hne:(s == [])=false:=by simpa using h0
  have hne2:¬(s.length:Int)<1:=by omega
  by_cases h2:s.length≤30
  ·have d2:¬(30:Int)<(s.length:Int):=by omega
   obtain⟨c,hc⟩:∃c,c=s[0]'h1:=⟨_,rfl⟩
   have hbg:=bget s 0 h1 c hc
   have hhd:s.headD 0=c:=by rw[hc];cases s with|nil=>exact absurd rfl h0|cons=>rfl
   rcases Bool.eq_false_or_eq_true (ltQ c)with hl|hl
   ·have HN:Hid (nmQ s=(s.all wdC && !rsvW.contains s)):=by rw[Hid];unfold nmQ nmH;rw[hhd,hl,decide_eq_true h1,decide_eq_true h2];rfl
    have Hl:=Lib.hid hl
    clear hl hhd hc
    go_enter Tryz.func135,Tryz.ntmps135
    go_wp2_with (first
     | (go_at_call 195;(with_reducible refine(rqlet_c c true _ Hl.out).mono ?_);rintro e w1 ⟨rfl,rfl⟩))
    clear hbg
    go_loop [3] (fun i=>∃j:Nat,j≤s.length∧i = .int .i64 (j:Int)∧Hid ((s.take j).all wdC=true)) (fun i=>s.length-(intOf i).toNat)
    case atStart=>exact⟨0,Nat.zero_le _,rfl,rfl⟩
    case round=>
     obtain⟨j,hj,rfl,Hall⟩:=hrel
     by_cases hlt:j<s.length
     ·have hbg:=bget s j hlt _ rfl
      have Hs:=Lib.hid (alq_take wdC s j hlt)
      have HN0:=Lib.hid (fun q:wdC s[j]=false=>alq_no j hlt q)
      obtain⟨c,hc⟩:∃c,c=s[j]:=⟨_,rfl⟩
      rw[←hc]at hbg Hs HN0
      clear hc
      rcases Bool.eq_false_or_eq_true (ltQ c)with hl|hl
      ·have Hq:=Lib.hid hl
       have Hn:Hid ((s.take (j+1)).all wdC=true):=by rw[Hid,Hs.out,Hall.out];unfold wdC;rw[hl];rfl
       clear hl
       go_wp2_with (first
        | (go_at_call 195;(with_reducible refine(rqlet_c c true _ Hq.out).mono ?_);rintro e w1 ⟨rfl,rfl⟩))
       go_round
       case rel=>exact⟨j+1,by omega,by go_num,Hn⟩
       case measure=>simp[intOf];omega
      ·rcases Bool.eq_false_or_eq_true (isDg c)with hd|hd
       ·have Hq:=Lib.hid hl
        have Hd:=Lib.hid hd
        have Hn:Hid ((s.take (j+1)).all wdC=true):=by rw[Hid,Hs.out,Hall.out];unfold wdC;rw[hl,hd];rfl
        clear hl hd
        go_wp2_with (first
         | (go_at_call 195;(with_reducible refine(rqlet_c c false _ Hq.out).mono ?_);rintro e w1 ⟨rfl,rfl⟩)
         | (go_at_call 196;(with_reducible refine(rqdig_c c true _ Hd.out).mono ?_);rintro e w1 ⟨rfl,rfl⟩))
        go_round
        case rel=>exact⟨j+1,by omega,by go_num,Hn⟩
        case measure=>simp[intOf];omega
       ·have Hq:=Lib.hid hl
        have Hd:=Lib.hid hd
        by_cases h95:c.toNat=95
        ·have Hn:Hid ((s.take (j+1)).all wdC=true):=by rw[Hid,Hs.out,Hall.out];unfold wdC;rw[decide_eq_true h95];simp
         have hz:((c.toNat:Int) != 95)=false:=by rw[h95];rfl
         clear hl hd h95
         go_wp2_with (first
          | (go_at_call 195;(with_reducible refine(rqlet_c c false _ Hq.out).mono ?_);rintro e w1 ⟨rfl,rfl⟩)
          | (go_at_call 196;(with_reducible refine(rqdig_c c false _ Hd.out).mono ?_);rintro e w1 ⟨rfl,rfl⟩))
         go_round
         case rel=>exact⟨j+1,by omega,by go_num,Hn⟩
         case measure=>simp[intOf];omega
        ·have HF:Hid (b=false):=by
          rw[Hid,←HB.out,HN.out,HN0.out (by unfold wdC;rw[hl,hd,decide_eq_false h95];rfl)]
          rfl
         have hz:((c.toNat:Int) != 95)=true:=by rw[bne_iff_ne];omega
         clear hl hd
         go_wp2_with (first
          | (go_at_call 195;(with_reducible refine(rqlet_c c false _ Hq.out).mono ?_);rintro e w1 ⟨rfl,rfl⟩)
          | (go_at_call 196;(with_reducible refine(rqdig_c c false _ Hd.out).mono ?_);rintro e w1 ⟨rfl,rfl⟩))
         go_ret
         exact⟨by rw[HF.out];rfl,rfl⟩
     ·obtain rfl:j=s.length:=by omega
      obtain⟨q,hq⟩:∃q,rsvW.contains s=q:=⟨_,rfl⟩
      have HT:Hid (b = !q):=by rw[Hid,←HB.out,HN.out,hq];have:=Hall.out;rw[List.take_length]at this;rw[this];rfl
      have Hq:=Lib.hid hq
      clear hq
      go_wp2_with (first
       | (go_at_call 208;(with_reducible refine(rrsv_c s q _ Hq.out).mono ?_);rintro e w1 ⟨rfl,rfl⟩))
      go_ret
      exact⟨by rw[HT.out];rfl,rfl⟩
   ·have HF:Hid (b=false):=by rw[Hid,←HB.out];unfold nmQ nmH;rw[hhd,hl];simp
    have Hl:=Lib.hid hl
    clear hl hhd hc h0 h2
    go_enter Tryz.func135,Tryz.ntmps135
    go_wp2_with (first
     | (go_at_call 195;(with_reducible refine(rqlet_c c false _ Hl.out).mono ?_);rintro e w1 ⟨rfl,rfl⟩))
    go_ret
    exact⟨by rw[HF.out];rfl,rfl⟩
  ·have HF:Hid (b=false):=by rw[Hid,←HB.out];unfold nmQ nmH;rw[decide_eq_false h2];simp
   have d2:(30:Int)<(s.length:Int):=by omega
   clear h2 h0
   go_enter Tryz.func135,Tryz.ntmps135
   go_wp2_with fail
   go_ret
   exact⟨by rw[HF.out];rfl,rfl⟩
end Go.Proofs.YtlmeinikknoeeaaGreatDoor
namespace Go.Proofs.YtlmeinikknoeeaaGreatDoor
set_option linter.unusedVariables false
set_option linter.unnecessarySimpa false
set_option linter.unusedSimpArgs false
open Go.RowKit
def gdN (l:List (List UInt8)) (i:Nat):Prop:=∃h:i<l.length,nmQ l[i]=true∧∀k (hk:k<i),l[k]'(by omega)≠l[i]
theorem nmsQ_yes {l:List (List UInt8)} (h:∀i,i<l.length→gdN l i):nmsQ l=true:=decide_eq_true fun i hi=>(h i hi).2
theorem nmsQ_no {l:List (List UInt8)} (i:Nat) (hi:i<l.length) (h:¬gdN l i):nmsQ l=false:=decide_eq_false fun q=>h ⟨hi,q i hi⟩
theorem gdN_iff {l:List (List UInt8)} (i:Nat) (hi:i<l.length):gdN l i↔nmQ l[i]=true∧(l.take i).contains l[i]=false:=by
 constructor
 ·rintro⟨_,h1,h2⟩
  refine⟨h1,?_⟩
  rw[Bool.eq_false_iff]
  intro q
  rw[List.contains_iff_mem,List.mem_take_iff_getElem]at q
  obtain⟨k,hk,e⟩:=q
  exact h2 k (by omega) e
 ·rintro⟨h1,h2⟩
  refine⟨hi,h1,fun k hk e=>?_⟩
  rw[Bool.eq_false_iff]at h2
  apply h2
  rw[List.contains_iff_mem,List.mem_take_iff_getElem]
  exact⟨k,by omega,e⟩
theorem scont_c (l:List (List UInt8)) (j:Nat) (hj:j≤l.length) (R off cap:Nat) (s:List UInt8) (b:Bool) (w:World) (hR:RdS l R off w) (hl:l.length≤cap) (hc:cap≤maxLen) (hb:(l.take j).contains s=b) :
  Calls Tryz.prog 15 #[.slice (some ⟨R,off,none⟩) j cap,.string ⟨s.toArray⟩] w fun e w'=>e = .returned (.bool b)∧w=w':=by
 have e:(l.take j).length=j:=by rw[List.length_take];omega
 have h:=scon_c (l.take j) R off cap s b w (fun _=>⟨hR.1,fun i hi=>by
  rw[List.getElem_take]
  exact hR.2 i (by omega)⟩) (by omega) hc hb
 rw[e]at h
 exact h
set_option maxRecDepth 100000 in
set_option maxHeartbeats 4000000 in
theorem qnames_c (A:Nat→Prop) (l:List (List UInt8)) (ao:Option Addr) (cap:Nat) (b:Bool) (w:World) (hT:TxA A w ao cap l) (hw:Rsv w) (hb:nmsQ l=b) :
  Calls Tryz.prog 170 #[.slice ao l.length cap] w fun e w'=>e = .returned (.bool b)∧w=w':=by
 obtain⟨hl,hcap,hsz,hrd⟩:=hT
 have HM:=Lib.hid hcap
 unfold maxLen at hcap
 have HB:=Lib.hid hb
 have HL:=Lib.hid hrd
 have HZ:=Lib.hid hsz
 have HW:=Lib.hid hw
 clear hb hrd hsz hw
 go_enter Tryz.func170,Tryz.ntmps170
 go_wp2_with fail
 go_loop [7] (fun i=>∃j:Nat,j≤l.length∧i = .int .i64 (j:Int)∧Hid (∀i,i<j→gdN l i)) (fun i=>l.length-(intOf i).toNat)
 case atStart=>exact⟨0,Nat.zero_le _,rfl,fun i h=>absurd h (Nat.not_lt_zero i)⟩
 case round=>
  obtain⟨j,hj,rfl,Hall⟩:=hrel
  by_cases hlt:j<l.length
  ·obtain⟨R,off,rfl,-,hR0⟩:=HL.out (by rintro rfl;simp at hlt)
   have c0:=hR0.2 j hlt
   have HR:=Lib.hid hR0
   have HG:=Lib.hid (gdN_iff (l:=l) j hlt)
   have HS:Hid (l[j].length≤9223372036854775806):=HZ.out _ (List.getElem_mem _)
   obtain⟨x,hx⟩:∃x,x=l[j]:=⟨_,rfl⟩
   rw[←hx]at c0 HG HS
   obtain⟨q,hq⟩:∃q,nmQ x=q:=⟨_,rfl⟩
   obtain⟨r,hr⟩:∃r,(l.take j).contains x=r:=⟨_,rfl⟩
   have Hq:=Lib.hid hq
   have Hr:=Lib.hid hr
   rw[hq,hr]at HG
   have hjl:j≤cap:=by omega
   clear hq hr hx hR0 HL
   by_cases hg:q=true∧r=false
   ·obtain⟨rfl,rfl⟩:=hg
    have Hn:Hid (∀i,i<j+1→gdN l i):=fun i hi=>by
     by_cases e:i=j
     ·rw[e];exact HG.out.2 ⟨rfl,rfl⟩
     ·exact Hall.out i (by omega)
    go_wp2_with (first
     | (go_at_call 169;(with_reducible refine(qname_c x true _ HS.out HW.out Hq.out).mono ?_);rintro e w1 ⟨rfl,rfl⟩)
     | (go_at_call 15;(with_reducible refine(scont_c l j hj R off cap x false _ HR.out hl HM.out Hr.out).mono ?_);rintro e w1 ⟨rfl,rfl⟩))
    go_round
    case rel=>exact⟨j+1,by omega,by go_num,Hn⟩
    case measure=>simp[intOf];omega
   ·have HF:Hid (b=false):=by rw[Hid,←HB.out];exact nmsQ_no j hlt (fun p=>hg (HG.out.1 p))
    cases q
    ·clear hg
     go_wp2_with (first
      | (go_at_call 169;(with_reducible refine(qname_c x false _ HS.out HW.out Hq.out).mono ?_);rintro e w1 ⟨rfl,rfl⟩))
     go_ret
     exact⟨by rw[HF.out];rfl,rfl⟩
    ·obtain rfl:r=true:=by cases r;exact absurd ⟨rfl,rfl⟩ hg;rfl
     clear hg
     go_wp2_with (first
      | (go_at_call 169;(with_reducible refine(qname_c x true _ HS.out HW.out Hq.out).mono ?_);rintro e w1 ⟨rfl,rfl⟩)
      | (go_at_call 15;(with_reducible refine(scont_c l j hj R off cap x true _ HR.out hl HM.out Hr.out).mono ?_);rintro e w1 ⟨rfl,rfl⟩))
     go_ret
     exact⟨by rw[HF.out];rfl,rfl⟩
  ·obtain rfl:j=l.length:=by omega
   have HT:Hid (b=true):=by rw[Hid,←HB.out];exact nmsQ_yes Hall.out
   go_wp2_with fail
   go_ret
   exact⟨by rw[HT.out];rfl,rfl⟩
end Go.Proofs.YtlmeinikknoeeaaGreatDoor
namespace Go.Proofs.YtlmeinikknoeeaaGreatDoor
set_option linter.unusedVariables false
set_option linter.unnecessarySimpa false
set_option linter.unusedSimpArgs false
open Go.RowKit
theorem zthere_frm {W w:World} {R n:Nat} {S:Nat→Prop} (h:W.there R 0 n) (hl:R<W.heap.size) (hF:Frm S W w) (hS:¬S R):w.there R 0 n:=fun j hj=>by
 obtain⟨a,b⟩:=h j hj
 exact⟨by rw[hF.cel hl hS];exact a,by rw[hF.frz hl hS];exact b⟩
theorem zthr_new (w:World) (C:Array Value) (t:TypeId) (n:Nat) (hn:n=C.size):(w.alloc (.cells C t)).there w.heap.size 0 n:=by
 subst hn
 intro j hj
 constructor
 ·rw[Nat.zero_add,World.cell?_alloc_new,Array.getElem?_eq_getElem hj];rfl
 ·rw[World.frozen?_alloc_new]
theorem zfrm_sets {S:Nat→Prop} (w:World) (b:Nat):∀(vs:List Value) (o:Nat),S b→Frm S w (w.setCells b o vs):=by
 intro vs o hS
 induction vs generalizing w o with
 | nil=>exact Frm.refl _ _
 | cons v r ih=>rw[World.setCells];exact((Frm.refl S w).setCell (p:=⟨b,o,none⟩) (.inl hS) v).trans (ih _ _)
def BxR (B:Nat) (vs:List Value) (w:World):Prop:=B<w.heap.size∧w.rangeAt B 0 vs
theorem BxR.ext {B:Nat} {vs:List Value} {w w':World} (h:BxR B vs w) (hE:Ext w w'):BxR B vs w':=⟨hE.lt h.1,fun j v hv=>(hE.cells _ _ h.1).trans (h.2 j v hv)⟩
theorem BxR.new (w:World) (vs:List Value) (t:TypeId):BxR w.heap.size vs (w.alloc (.cells vs.toArray t)):=by
 refine⟨by simp,fun j v hv=>?_⟩
 rw[Nat.zero_add,World.cell?_alloc_new]
 simpa using hv
theorem BxR.at {B:Nat} {vs:List Value} {w:World} (h:BxR B vs w) (j:Nat) (v:Value) (hv:vs[j]? = some v):w.cell? ⟨B,j,none⟩=some v:=by
 have:=h.2 j v hv
 rwa [Nat.zero_add]at this
theorem wpl_load {P:Program} {ops:Array Oper} {rest:List Oper} {op:Oper} {a:Act} {w:World} {Q:Exit→Act→World→Prop} (hw:Region.wanted op (yielded ops a.tmps)=true) (ty:TypeId) (x:Operand) (ho:op.op = .load ty x)
  (b o:Nat) (hx:a.eval x = .pointer (some ⟨b,o,none⟩)) (cs:List Value) (d:TypeDesc) (hc:w.rangeAt b o cs)
  (hu:P.underlying ty=some d) (hd:d.isRow=true) (hi:(P.info? ty).map (·.size)=some cs.length)
  (h:wpList P ops Q rest (a.put op.dst (.agg cs.toArray)) w):wpList P ops Q (op::rest) a w:=by
 unfold wpList
 rw[if_pos hw]
 exact .inl (wp_load_mid ty x ho b o hx cs d hc hu hd hi h)
theorem wpl_elem {P:Program} {ops:Array Oper} {rest:List Oper} {o1 o2 o3:Oper} {a:Act} {w:World} {Q:Exit→Act→World→Prop} (g1:o1.guard=none) (g2:o2.guard=none) (g3:o3.guard=none)
  (ty:TypeId) (x y z:Operand) (h1:o1.op = .load ty x) (h2:o2.op = .alloc ty) (h3:o3.op = .store ty y z) (b o:Nat) (hx:a.eval x = .pointer (some ⟨b,o,none⟩)) (cs zs:List Value) (d:TypeDesc) (hc:w.rangeAt b o cs)
  (hu:P.underlying ty=some d) (hd:d.isRow=true) (hi:(P.info? ty).map (·.size)=some cs.length) (hone:cs.all (·.oneCell')=true) (hz:zs.length=cs.length)
  (hal:∀(w:World),(Instr.alloc ty true (.tuple #[])).run P w = .ok (.pointer (some ⟨w.heap.size,0,none⟩)) (w.alloc (.cells zs.toArray ty)))
  (hy:((a.put o1.dst (.agg cs.toArray)).put o2.dst (.pointer (some ⟨w.heap.size,0,none⟩))).eval y = .pointer (some ⟨w.heap.size,0,none⟩))
  (hzv:((a.put o1.dst (.agg cs.toArray)).put o2.dst (.pointer (some ⟨w.heap.size,0,none⟩))).eval z = .agg cs.toArray)
  (h:∀W,Ext w W→BxR w.heap.size cs W→wpList P ops Q rest (((a.put o1.dst (.agg cs.toArray)).put o2.dst (.pointer (some ⟨w.heap.size,0,none⟩))).put o3.dst undef) W):wpList P ops Q (o1::o2::o3::rest) a w:=by
 refine wpList_load_mid g1 ty x h1 b o hx cs d hc hu hd hi ?_
 refine wpList_plain g2 fun K hK=>?_
 unfold Oper.wp execOp
 simp only[h2,Sem.run_bind,Sem.run_pure,Result.andThen_ok,hal]
 refine hK _ _ ?_
 have hsz:(w.alloc (.cells zs.toArray ty)).heap.size=w.heap.size+1:=by simp
 have hth:(w.alloc (.cells zs.toArray ty)).there w.heap.size 0 cs.length:=zthr_new w _ _ _ (by simp[hz])
 refine wpList_store_mid g3 ty y z h3 w.heap.size 0 cs.toArray hy hzv (by simpa using hth) (by simpa using hi) (by rw[List.all_toArray];exact hone) ?_
 refine h _ ?_ ⟨?_,?_⟩
 ·exact(zfrm_sets (S:=fun k=>k=w.heap.size) (w.alloc (.cells zs.toArray ty)) w.heap.size cs 0 rfl).far ((Ext.refl w).alloc _) (fun k hk e=>by omega)
 ·exact(zfrm_sets (S:=fun _=>True) (w.alloc (.cells zs.toArray ty)) w.heap.size cs 0 trivial).lt (by omega)
 ·exact World.rangeAt_setCells_same _ _ _ _ hth
theorem vals_one_c (t:Cnd):(cdS.vals t).all (·.oneCell')=true:=by cases t;rfl
theorem vals_one_q (t:Qry):(qnS.vals t).all (·.oneCell')=true:=by cases t;rfl
theorem info_c (t:Cnd):(Tryz.prog.info? 27).map (·.size)=some (cdS.vals t).length:=by rw[show (cdS.vals t).length=7 by rfl];kernel_rfl
theorem info_q (t:Qry):(Tryz.prog.info? 32).map (·.size)=some (qnS.vals t).length:=by rw[show (qnS.vals t).length=16 by rfl];kernel_rfl
def zeroC:List Value:=[.int .i64 0,.string ⟨#[]⟩,.string ⟨#[]⟩,.int .i64 0,.int .i64 0,.string ⟨#[]⟩,.slice none 0 0]
def zeroQ:List Value:=[.int .i64 0,.string ⟨#[]⟩,.slice none 0 0,.slice none 0 0,.int .i64 0,.string ⟨#[]⟩,.string ⟨#[]⟩,.int .i64 0,.int .i64 0,.string ⟨#[]⟩,.slice none 0 0,.int .i64 0,.int .i64 0,.int .i64 0,.int .i64 0,.slice none 0 0]
theorem alloc_c (w:World):(Instr.alloc 27 true (.tuple #[])).run Tryz.prog w = .ok (.pointer (some ⟨w.heap.size,0,none⟩)) (w.alloc (.cells zeroC.toArray 27)):=by kernel_rfl
theorem alloc_q (w:World):(Instr.alloc 32 true (.tuple #[])).run Tryz.prog w = .ok (.pointer (some ⟨w.heap.size,0,none⟩)) (w.alloc (.cells zeroQ.toArray 32)):=by kernel_rfl
end Go.Proofs.YtlmeinikknoeeaaGreatDoor
