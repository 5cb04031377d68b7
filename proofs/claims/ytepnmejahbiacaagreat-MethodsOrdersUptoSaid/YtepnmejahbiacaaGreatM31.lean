/- Part 31 of the proof: Qv, Qw, Qx, Qy. -/
import Derived.Test.YtepnmejahbiacaaGreatM30
set_option linter.unusedVariables false
set_option linter.unusedSimpArgs false
set_option maxHeartbeats 64000000
set_option maxRecDepth 100000
namespace Go.Proofs.YtepnmejahbiacaaGreat
open Go.RowKit
theorem zz5{ms:List Meth}{x:Int}(h:zhm (ms.map (·.id)) x=true):0≤zkd ms x:=by
 unfold zkd;cases hq:ms.findIdx? (fun m=>decide (m.id=x))with
 |some i=>show(0:Int)≤(i:Int);omega
 |none=>
  rw[List.findIdx?_eq_none_iff]at hq;obtain⟨m,hm,e⟩:=List.mem_map.1 (zg9.1 h);have:=hq m hm;rw[decide_eq_false_iff_not]at this;exact absurd e this
theorem z1d{l:List CI}{ms:List Meth}{ts:List Tag}{x:Meth}(hL:zai l)(hn:¬300<ms.length)(hx:x∈ms)(h:x.pars.length≠ts.length):zaf l ms ts=101:=by
 apply zbw hL hn;by_cases h0:(ms[0]?.map fun m=>m.pars.length).getD 0=ts.length
 ·refine .inl (zgr rfl hx ?_);unfold zeg;rw[h0,Qgz h];rfl
 ·exact .inr (.inr ⟨List.length_pos_of_mem hx,h0⟩)
theorem z1u{l:List CI}{ms:List Meth}{ts:List Tag}{x:Meth}{k:Nat}(hL:zai l)(hn:¬300<ms.length)(hx:ms[k]? =some x)(h:zhm ((ms.take k).map (·.id)) x.id=true):zaf l ms ts=101:=
 zbw hL hn (.inl (zq9 hx h))
theorem zzm{l:List CI}{ms:List Meth}{ts:List Tag}{x:Meth}{p:Par}(hL:zai l)(hn:¬300<ms.length)(hx:x∈ms)(hp:p∈x.pars)(h:zaj l p.type≠0):zaf l ms ts=101:=
 zbw hL hn (.inl (zgr rfl hx (zlm hp h)))
structure ChkUp (l:List CI) (ms:List Meth) (n k:Nat):Prop where
 nd:((ms.take k).map (·.id)).Nodup
 all:∀(j:Nat)(m:Meth),j<k→ms[j]? =some m→m.pars.length=n∧∀p∈m.pars,zaj l p.type=0
theorem ChkUp.zero(l:List CI)(ms:List Meth)(n:Nat):ChkUp l ms n 0:=⟨by simp,fun j m h=>absurd h (by omega)⟩
theorem ChkUp.step{l:List CI}{ms:List Meth}{n k:Nat}{x:Meth}(h:ChkUp l ms n k)(hx:ms[k]? =some x)(hno:zhm ((ms.take k).map (·.id)) x.id=false)(hl:x.pars.length=n)(hv:∀(j:Nat)(p:Par),j<n→x.pars[j]? =some p→zaj l p.type=0):ChkUp l ms n (k+1):=by
 refine⟨?_,fun j m hj hm=> ?_⟩
 ·rw[take_snoc hx,List.map_append];refine List.nodup_append.2 ⟨h.nd,by simp,fun a ha b hb e=> ?_⟩;simp at hb;subst hb;subst e
  exact zfj.1 hno ha
 ·rcases Nat.lt_or_ge j k with z|z
  ·exact h.all j m z hm
  ·obtain rfl:j=k:=by omega
   rw[hx]at hm;cases hm
   refine⟨hl,fun p hp=> ?_⟩;obtain⟨i,hi⟩:=Qez hp;exact hv i p (by have:=(Qcz hi).1;omega) hi
theorem ChkUp.done{l:List CI}{ms:List Meth}{ts:List Tag}(h:ChkUp l ms ts.length ms.length)(hL:zai l)(hn:¬300<ms.length)(h6:¬6<ts.length):zaf l ms ts=if ts.all (zbt l)then 0 else 82:=by
 have hall:∀m∈ms,m.pars.length=ts.length∧∀p∈m.pars,zaj l p.type=0:=fun m hm=>by
  obtain⟨j,hj⟩:=Qez hm;exact h.all j m (Qcz hj).1 hj
 have hn0:0<ms.length→(ms[0]?.map fun m=>m.pars.length).getD 0=ts.length:=fun h0=>by
  rw[Qbz h0];exact(hall _ (List.getElem_mem h0)).1
 refine zc1 hL hn ?_;rintro(q|q|⟨q,r⟩)
 ·have:zcs l ms=true:=by
   unfold zcs;have hd:=h.nd;rw[List.take_length]at hd;rw[Qhz hd,Bool.true_and,List.all_eq_true];intro m hm;obtain⟨a,b⟩:=hall m hm;unfold zeg;rw[hn0 (List.length_pos_of_mem hm),Qhz a,Qhz (show m.pars.length≤6 by omega),Bool.true_and,Bool.true_and,List.all_eq_true];exact fun p hp=>Qhz (b p hp)
  rw[this]at q;cases q
 ·exact h6 q
 ·exact r (hn0 q)
theorem zc7(AH:Option Addr)(cH:Nat)(l:List CI)(A:Option Addr)(c:Nat)(ms:List Meth)(AT:Option Addr)(cT:Nat)(ts:List Tag)(W:World)(q:Asks AH cH l A ms AT ts W)(hcM:ms.length≤c):
  Calls Tryz.prog 13 #[.slice AH l.length cH,.slice A ms.length c,.slice AT ts.length cT] W fun e W'=>e=.returned (.int .i64 (zaf l ms ts))∧Below W.heap.size W W':=by
 obtain⟨GH,h⟩:=q.h;obtain⟨GM,hM⟩:=q.hM;obtain⟨GT,hT⟩:=q.hT;have HC:=Qaz (zj6 AH cH l W GH h q.hcH q.ol q.hl);have HSH:Hid (∀V x A c G,Below W.heap.size W V→TySmall x→Held G (Typs A x.args) V→Calls Tryz.prog 49 #[.slice AH l.length cH,tyV x A c] V fun e V'=>e=.returned (.int .i64 (zaj l x))∧Below V.heap.size V V'):=
  Qaz (fun V x A c G hv hs h2=>zf2 AH cH l q.hl x A c V G GH (h.keep (Keep.all hv)) hs.1 h2)
 have HTG:Hid (zai l→∀V t,Below W.heap.size W V→Calls Tryz.prog 50 #[.slice AH l.length cH,tagV t] V fun e V'=>e=.returned (.bool (zbt l t))∧Below V.heap.size V V'):=
  Qaz (fun hL V t hv=>zph AH cH l q.hl t V GH (h.keep (Keep.all hv)) hL)
 have HF:Hid (∀(k:Nat) x V,k≤ms.length→Below W.heap.size W V→Calls Tryz.prog 48 #[.slice A k c,.int .i64 x] V fun e V'=>e=.returned (.int .i64 (zkd (ms.take k) x))∧V'=V):=
  Qaz (fun k x V hk hv=>by
   have:=zni A c (ms.take k) x V GM ((hM.keep (Keep.all hv)).imp fun _ _ hs=>Slc.take hs k) (by rw[List.length_take];have:=q.hn;omega)
   rwa [List.length_take,Nat.min_eq_left hk]at this)
 have HM:=Qaz hM;have HS:=Qaz q.hs;have HCM:=Qaz hcM;have hcMi:(ms.length:Int)≤(c:Int):=by omega
 clear h hM q;go_enter Tryz.func13,Tryz.ntmps13;go_wp2_with (fail);refine HC.out.mono ?_;clear HC;rintro e V ⟨hbv,(⟨hL,rfl⟩|⟨hL,rfl⟩)⟩;rotate_left
 ·have HE:=Qaz (zfe (ms:=ms) (ts:=ts) hL);clear hL;go_wp2;go_ret;exact⟨(by rw[HE.out];try rfl),hbv⟩
 have HL:=Qaz hL;clear hL;by_cases h3:300<ms.length
 ·have h3':(300:Int)<(ms.length:Int):=by omega
  have HE:=Qaz (ze8 (ts:=ts) HL.out h3);go_wp2;go_ret;exact⟨(by rw[HE.out];try rfl),hbv⟩
 have h3':¬(300:Int)<(ms.length:Int):=by omega
 have H3:=Qaz h3;clear h3;by_cases h6:6<ts.length
 ·have h6':(6:Int)<(ts.length:Int):=by omega
  have HE:=Qaz (zbw (ms:=ms) HL.out H3.out (.inr (.inl h6)));go_wp2;go_ret;exact⟨(by rw[HE.out];try rfl),hbv⟩
 have h6':¬(6:Int)<(ts.length:Int):=by omega
 have H6:=Qaz h6;clear h6;go_wp2_with (fail)
 go_loopw [8] (fun i wr=>∃k:Nat,k≤ms.length∧i=.int .i64 k∧ChkUp l ms ts.length k∧Below W.heap.size W wr) (fun i _=>ms.length-(intOf i).toNat)
 case atStart=>exact⟨0,Qjz _,rfl,ChkUp.zero _ _ _,hbv⟩
 case round=>
  obtain⟨k,hk,rfl,hup,hbr⟩:=hrel;have HUP:=Qaz hup;clear hup;by_cases hlt:k<ms.length
  ·obtain⟨b,off,rfl⟩:=Slc.addrH HM.out (by omega);have hx:ms[k]? =some ms[k]:=Qbz hlt;have hxm:ms[k]∈ms:=List.getElem_mem hlt;generalize ms[k]=x at hx hxm;have HX:=Qaz hx;have HXM:=Qaz hxm;obtain⟨A1,c1,A2,c2,p1,p2,p3,p4,g0,g1,g2,g3,g4,g5,g6,g7⟩:=Meths.atH (HM.out.keep (Keep.all hbr)) hx;clear hx hxm g1 g3 g4 g5 g6 g7 p3 p4;have w1:(0:Int)≤(k:Int):=by omega
   have w2:(k:Int)<(ms.length:Int):=by omega
   have w3:k≤c:=by omega
   by_cases hpl:x.pars.length=ts.length;rotate_left
   ·have HE:=Qaz (z1d HL.out H3.out HXM.out hpl);have t2:((x.pars.length:Int) != (ts.length:Int))=true:=by rw[bne_iff_ne];omega
    clear hpl;go_wp2_with (fail)
    go_quiet (fail)
    go_wp2;go_ret;exact⟨(by rw[HE.out];try rfl),hbr.trans ((Drw.of _ _).below _)⟩
   have HPL:=Qaz hpl;have t2:((x.pars.length:Int) != (ts.length:Int))=false:=bne_eq_false_iff_eq.2 (by omega);clear hpl;have HFI:=Qaz (fun V (hv:Drw wr V)=>HF.out k x.id V hk (hbr.trans (hv.below _)));have HFA:Hid (∀y,zkd (ms.take k) x.id=y→(0≤y→zhm ((ms.take k).map (·.id)) x.id=true)∧(¬0≤y→zhm ((ms.take k).map (·.id)) x.id=false)):=Qaz (fun y hy=>by
    cases hh:zhm ((ms.take k).map (·.id)) x.id with
    |true=>exact⟨fun _=>rfl,fun q=>absurd (hy▸zz5 hh) q⟩
    |false=>exact⟨fun q=>absurd q (by rw[←hy,zn2 hh];decide),fun _=>rfl⟩)
   obtain⟨fi,hfi⟩:∃fi,zkd (ms.take k) x.id=fi:=⟨_,rfl⟩;have HFA2:=Qaz (HFA.out fi hfi);rw[hfi]at HFI;clear hfi HFA;by_cases hf0:0≤fi
   ·have HE:=Qaz (z1u (ts:=ts) HL.out H3.out HX.out (HFA2.out.1 hf0));go_wp2_with (fail)
    go_quiet ((go_at_call 48;exact(HFI.out _ (by first|exact Drw.of _ _|exact(Drw.of _ _).drewN _)).mono fun _ _ ⟨a,b⟩=>⟨a,_,b⟩))
    go_wp2;go_ret;exact⟨(by rw[HE.out];try rfl),hbr.trans ((Drw.of _ _).below _)⟩
   have HNO:=Qaz (HFA2.out.2 hf0);go_wp2_with (fail)
   go_quiet ((go_at_call 48;exact(HFI.out _ (by first|exact Drw.of _ _|exact(Drw.of _ _).drewN _)).mono fun _ _ ⟨a,b⟩=>⟨a,_,b⟩))
   have hbq:Below wr.heap.size wr (wr.drewN nq):=(Drw.of _ _).below _;have G2:=Qaz g2;have P2:=Qaz p2;clear g0 g2 p2 HFI HFA2;go_wp2_with (fail)
   go_loopw [9] (fun i w2=>∃j:Nat,j≤ts.length∧i=.int .i64 j∧(∀(i:Nat)(p:Par),i<j→x.pars[i]? =some p→zaj l p.type=0)∧Below wr.heap.size wr w2) (fun i _=>ts.length-(intOf i).toNat)
   case atStart=>exact⟨0,Qjz _,rfl,fun i p h=>absurd h (by omega),hbq⟩
   case round=>
    obtain⟨j,hj,rfl,hv,hb2⟩:=hrel;have HV:=Qaz hv;clear hv hbq;have bW2:=zab hbr hb2;by_cases hjl:j<ts.length
    ·have hjl2:j<x.pars.length:=by rw[HPL.out];exact hjl
     obtain⟨bp,offp,rfl⟩:=Slc.addrH P2.out (by omega);have hy:x.pars[j]? =some x.pars[j]:=Qbz hjl2;generalize x.pars[j]=p at hy;have HY:=Qaz hy;obtain⟨A3,c3,r1,r2,g0,g1,g2,g3,g4,g5⟩:=Pars.atH (P2.out.keep (Keep.all hb2)) hy;have m2:=zaa G2.out hb2;have HVal:=Qaz (HSH.out _ p.type A3 c3 _ bW2 (HS.out x HXM.out p (Qdz hy)) r2);have w5:(0:Int)≤(j:Int):=by omega
     have w6:(j:Int)<(x.pars.length:Int):=by omega
     obtain⟨ve,hve⟩:∃ve,zaj l p.type=ve:=⟨_,rfl⟩;rw[hve]at HVal;have HVE:=Qaz hve;clear hy hve g0 r1 r2 t2;go_wp2_with (fail);refine HVal.out.mono ?_;clear HVal;rintro e V2 ⟨rfl,hb3⟩;have hb4:=zab hb2 hb3;by_cases hz:ve=0
     ·subst hz;go_wp2;go_roundw
      case rel=>
       refine⟨j+1,by omega,by go_num,fun i p' hi hp=> ?_,hb4⟩;rcases Nat.lt_or_ge i j with q|q
       ·exact HV.out i p' q hp
       ·obtain rfl:i=j:=by omega
        rw[HY.out]at hp;cases hp;exact HVE.out
      case measure=>simp[intOf];omega
     ·have t3:(ve != 0)=true:=by rw[bne_iff_ne];exact hz
      have HE:=Qaz (zzm (ts:=ts) HL.out H3.out HXM.out (Qdz HY.out) (fun q=>hz (HVE.out.symm.trans q)));clear hz;go_wp2;go_ret;exact⟨(by rw[HE.out];try rfl),zab hbr hb4⟩
    ·obtain rfl:j=ts.length:=by omega
     have HUP2:=Qaz (HUP.out.step HX.out HNO.out HPL.out HV.out);go_wp2;go_roundw
     case rel=>exact⟨k+1,by omega,by go_num,HUP2.out,bW2⟩
     case measure=>simp[intOf];omega
  ·obtain rfl:k=ms.length:=by omega
   have HNE:=Qaz (HUP.out.done HL.out H3.out H6.out);clear HUP;go_wp2_with (fail)
   go_loopw [10] (fun i w2=>∃j:Nat,j≤ts.length∧i=.int .i64 j∧(∀(i:Nat)(t:Tag),i<j→ts[i]? =some t→zbt l t=true)∧Below W.heap.size W w2) (fun i _=>ts.length-(intOf i).toNat)
   case atStart=>exact⟨0,Qjz _,rfl,fun i t h=>absurd h (by omega),hbr⟩
   case round=>
    obtain⟨j,hj,rfl,hok,hb2⟩:=hrel;have HOK:=Qaz hok;clear hok;by_cases hjl:j<ts.length
    ·obtain⟨bt,ot,rfl⟩:=Slc.addrH hT (by omega);have hx:ts[j]? =some ts[j]:=Qbz hjl;generalize ts[j]=t at hx;have HY:=Qaz hx;obtain⟨d0,d1,d2⟩:=Tags.atH (hT.keep (Keep.all hb2)) hx;have HTT:=Qaz (HTG.out HL.out _ t hb2);have w5:(0:Int)≤(j:Int):=by omega
     have w6:(j:Int)<(ts.length:Int):=by omega
     clear hx;cases hto:zbt l t with
     |true=>
      have HTO:=Qaz hto;rw[hto]at HTT;clear hto;go_wp2_with (fail);refine HTT.out.mono ?_;clear HTT;rintro e V3 ⟨rfl,hb3⟩;go_wp2;go_roundw
      case rel=>
       refine⟨j+1,by omega,by go_num,fun i t' hi ht'=> ?_,zab hb2 hb3⟩;rcases Nat.lt_or_ge i j with z|z
       ·exact HOK.out i t' z ht'
       ·obtain rfl:i=j:=by omega
        rw[HY.out]at ht';cases ht';exact HTO.out
      case measure=>simp[intOf];omega
     |false=>
      have HE:Hid (zaf l ms ts=82):=Qaz (by
       rw[HNE.out];have:ts.all (zbt l)=false:=List.all_eq_false.2 ⟨t,Qdz HY.out,by rw[hto];decide⟩;rw[this];rfl)
      rw[hto]at HTT;clear hto;go_wp2_with (fail);refine HTT.out.mono ?_;clear HTT;rintro e V3 ⟨rfl,hb3⟩;go_wp2;go_ret;exact⟨(by rw[HE.out];try rfl),zab hb2 hb3⟩
    ·obtain rfl:j=ts.length:=by omega
     have HE:Hid (zaf l ms ts=0):=Qaz (by
      rw[HNE.out];have:ts.all (zbt l)=true:=List.all_eq_true.2 fun t ht=>by
       obtain⟨j,hj⟩:=Qez ht;exact HOK.out j t (Qcz hj).1 hj
      rw[this];rfl)
     go_wp2;go_ret;exact⟨(by rw[HE.out];try rfl),hb2⟩
section
attribute [local go_sem ↓] Go.wp_at_zero Go.wp_at_succ
def zuh(l:List CI)(ts:List Tag)(m:Meth)(k:Nat):Prop:=∀(j:Nat)(p:Par)(t:Tag),j<k→m.pars[j]? =some p→ts[j]? =some t→zbx l t p.type=true
theorem zzj{l:List CI}{ts:List Tag}{m:Meth}(hL:zai l)(hv:∀p∈m.pars,zaj l p.type=0)(ht:∀t∈ts,zbt l t=true)(h:zuh l ts m ts.length):zde l ts m=true:=
 zim fun i p t hp hq=>⟨hL,ht t (Qdz hq),hv p (Qdz hp),h i p t (Qcz hq).1 hp hq⟩
theorem zzd{l:List CI}{ts:List Tag}{m:Meth}{i:Nat}{p:Par}{t:Tag}(hp:m.pars[i]? =some p)(hq:ts[i]? =some t)(h:zbx l t p.type=false):zde l ts m=false:=
 zg6 fun q=>by
  have:=(q i p t hp hq).2.2.2;rw[h]at this;cases this
theorem zep(AH:Option Addr)(cH:Nat)(l:List CI)(m:Meth)(A1 A2:Option Addr)(c1 c2:Nat)(AT:Option Addr)(cT:Nat)(ts:List Tag)(W:World)(hi:HiIn W AH cH l)(hm:MetIn W m A1 A2 c1 c2)(hT:∃G,Held G (Tags AT ts) W)(hts:ts.length≤1000000)
  (hL:zai l) (hpl:m.pars.length=ts.length) (hv:∀p∈m.pars,zaj l p.type=0) (hok:∀t∈ts,zbt l t=true):
  Calls Tryz.prog 43 #[.slice AH l.length cH,zk2 m A1 c1 A2 c2,.slice AT ts.length cT] W fun e W'=>e=.returned (.bool (zde l ts m))∧Below W.heap.size W W':=by
 obtain⟨W1,hW1⟩:∃W1,W1=W.alloc (.cells #[.int .i64 m.id,.string m.lib,.slice A1 m.pars.length c1,.int .i64 m.result.kind,.string m.result.name,.int .i64 m.result.lo,.int .i64 m.result.hi,.slice A2 m.result.args.length c2] 68):=⟨_,rfl⟩;have b1:Below W.heap.size W W1:=by rw[hW1];exact(Below.refl _ W).alloc (Qiz _) _
 have x2:W1.cell? ⟨W.heap.size,2,none⟩=some (.slice A1 m.pars.length c1):=by rw[hW1];exact zac W _ _ _ rfl 2 _ rfl
 obtain⟨GT,hT⟩:=hT;obtain⟨GP,hP⟩:=hm.h2;obtain⟨GH,hH⟩:=hi.h;have HFT:Hid (∀V t x A c G,Below W.heap.size W V→TySmall x→Held G (Typs A x.args) V→Calls Tryz.prog 77 #[.slice AH l.length cH,tagV t,tyV x A c] V fun e V'=>e=.returned (.bool (zbx l t x))∧Below V.heap.size V V'):=
  Qaz (fun V t x A c G hb hs hx=>zte AH cH l hi.hl (zgn hL) hL t x.count x (Qiz _) A c V G GH (hH.keep (Keep.all hb)) hs.all hx)
 have HAP:Hid (zuh l ts m ts.length→zde l ts m=true):=Qaz (zzj hL hv hok);have HTG:=Qaz (hT.keep (Keep.all b1));have HPG:=Qaz (hP.keep (Keep.all b1));have HS:=Qaz hm.hs;have HPL:=Qaz hpl;clear hT hP hH hi hm hv hok hL hpl;go_enter Tryz.func43,Tryz.ntmps43;go_wp2_with (fail);rw[←hW1];clear hW1
 go_loopw [7] (fun i wr=>∃k:Nat,k≤ts.length∧i=.int .i64 k∧zuh l ts m k∧Below W1.heap.size W1 wr) (fun i _=>ts.length-(intOf i).toNat)
 case atStart=>exact⟨0,Qjz _,rfl,fun j p t h=>absurd h (by omega),Below.refl _ _⟩
 case round=>
  obtain⟨k,hk,rfl,hup,hb⟩:=hrel;have HUP:=Qaz hup;clear hup;have q1:=zab b1 hb;by_cases hlt:k<ts.length
  ·obtain⟨bt,ot,rfl⟩:=Slc.addrH HTG.out (by omega);have hlp:k<m.pars.length:=by rw[HPL.out];exact hlt
   obtain⟨bp,op,rfl⟩:=Slc.addrH HPG.out (by omega);have hx:ts[k]? =some ts[k]:=Qbz hlt;generalize ts[k]=t at hx;have hy:m.pars[k]? =some m.pars[k]:=Qbz hlp;generalize m.pars[k]=p at hy;have HX:=Qaz hx;have HY:=Qaz hy;obtain⟨d0,d1,d2⟩:=Tags.atH (HTG.out.keep (Keep.all hb)) hx;obtain⟨A3,c3,r1,r2,g0,g1,g2,g3,g4,g5⟩:=Pars.atH (HPG.out.keep (Keep.all hb)) hy;have m2:=zaa x2 hb;have HST:=Qaz (fun V (hv:Below wr.heap.size wr V)=>HFT.out V t p.type A3 c3 _ (zab q1 hv) (HS.out p (Qdz HY.out)) (r2.keep (Keep.all hv)));have w1:(0:Int)≤(k:Int):=by omega
   have w2:(k:Int)<(ts.length:Int):=by omega
   have w3:(k:Int)<(m.pars.length:Int):=by omega
   clear hx hy r1 r2 g0;obtain⟨fx,hfx⟩:∃fx,zbx l t p.type=fx:=⟨_,rfl⟩;have HFX:=Qaz hfx;rw[hfx]at HST;clear hfx;have HK:=Qaz hlt;go_wp2_with (fail)
   go_region_held3 (fun w'=>Below wr.heap.size wr w'∧w'.cell? ⟨W.heap.size,2,none⟩=some (.slice (some ⟨bp,op,none⟩) m.pars.length c1)∧w'.cell? ⟨bt,ot+k*3,none⟩=some (.int .i64 t.kind)∧w'.cell? ⟨bt,ot+k*3+1,none⟩=some (.int .i64 t.num)∧w'.cell? ⟨bt,ot+k*3+2,none⟩=some (.string t.name)∧
     w'.cell? ⟨bp,op+k*6+1,none⟩=some (.int .i64 p.type.kind)∧w'.cell? ⟨bp,op+k*6+2,none⟩=some (.string p.type.name)∧w'.cell? ⟨bp,op+k*6+3,none⟩=some (.int .i64 p.type.lo)∧w'.cell? ⟨bp,op+k*6+4,none⟩=some (.int .i64 p.type.hi)∧w'.cell? ⟨bp,op+k*6+5,none⟩=some (.slice A3 p.type.args.length c3))
    (first|exact⟨(Below.refl _ wr).drew,m2,d0,d1,d2,g1,g2,g3,g4,g5⟩|(go_split_ands;exact⟨zab (by assumption) hbu,zaa (by assumption) hbu,zaa (by assumption) hbu,zaa (by assumption) hbu,zaa (by assumption) hbu,zaa (by assumption) hbu,zaa (by assumption) hbu,zaa (by assumption) hbu,zaa (by assumption) hbu,zaa (by assumption) hbu⟩))
    ((go_at_call 77;refine(HST.out _ (by go_split_ands;assumption)).mono ?_;rintro e U ⟨rfl,hbu⟩))
   have hb5:Below wr.heap.size wr U:=by go_split_ands;assumption
   have hb6:=zab hb hb5;go_split_ands;clear HST;cases fx with
   |false=>
    have HR:=Qaz (zzd HY.out HX.out HFX.out);have qf:=zab b1 hb6;go_wp2;go_ret;exact⟨by rw[HR.out];try rfl,qf⟩
   |true=>
    have HN:Hid (zuh l ts m (k+1)):=Qaz (fun j p' t' hj hp' ht'=>by
     rcases Nat.lt_or_ge j k with z|z
     ·exact HUP.out j p' t' z hp' ht'
     ·obtain rfl:j=k:=by omega
      rw[HX.out]at ht';cases ht'
      rw[HY.out]at hp';cases hp'
      exact HFX.out)
    go_wp2;go_roundw
    case rel=>exact⟨k+1,by have:=HK.out;omega,by go_num,HN.out,hb6⟩
    case measure=>have:=HK.out;simp[intOf];omega
  ·obtain rfl:k=ts.length:=by omega
   have HR:=Qaz (HAP.out HUP.out);go_wp2;go_ret;exact⟨by rw[HR.out];try rfl,q1⟩
theorem zl4{α:Type}{p:α→Bool}{l:List α}{k:Nat}{x:α}(hx:l[k]? =some x):(l.take (k+1)).filter p=(l.take k).filter p++(if p x=true then[x]else[]):=by
 rw[take_snoc hx,List.filter_append];cases h:p x<;>simp[h]
theorem zi8(AH:Option Addr)(cH:Nat)(l:List CI)(A:Option Addr)(c:Nat)(ms:List Meth)(AT:Option Addr)(cT:Nat)(ts:List Tag)(W:World)(q:Asks AH cH l A ms AT ts W)(hcM:ms.length≤c):
  Calls Tryz.prog 11 #[.slice AH l.length cH,.slice A ms.length c,.slice AT ts.length cT] W fun e W'=>∃A' c',e=.returned (.tuple #[.slice A' (zgd l ms ts).1.length c',.int .i64 (zgd l ms ts).2])∧(zgd l ms ts).1.length≤c'∧Held (fun b=>b<W'.heap.size) (Ints A' (zgd l ms ts).1) W'∧Below W.heap.size W W':=by
 have HC:=Qaz (zc7 AH cH l A c ms AT cT ts W q hcM);have HI:=Qaz q.hi;obtain⟨GM,hM⟩:=q.hM;have HM:=Qaz hM;have HAP:Hid (zaf l ms ts=0→∀V m A1 c1 A2 c2,Below W.heap.size W V→m∈ms→MetIn V m A1 A2 c1 c2→Calls Tryz.prog 43 #[.slice AH l.length cH,zk2 m A1 c1 A2 c2,.slice AT ts.length cT] V fun e V'=>e=.returned (.bool (zde l ts m))∧Below V.heap.size V V'):=
  Qaz (fun hz V m A1 c1 A2 c2 hv hm hmi=>by
   obtain⟨z1,z2,z3,z4,z5,z6⟩:=za2 hz;refine zep AH cH l m A1 A2 c1 c2 AT cT ts V (HI.out.keep hv) hmi (q.hT.imp fun _ h=>h.keep (Keep.all hv)) q.hts z1 (z5 m hm) ?_ z6;intro p hp;unfold zcs at z3;rw[Bool.and_eq_true]at z3;have:=List.all_eq_true.1 z3.2 m hm;unfold zeg at this;rw[Bool.and_eq_true]at this;exact of_decide_eq_true (List.all_eq_true.1 this.2 p hp))
 have HS:=Qaz q.hs;have HP:=Qaz q.hp;have hn:=q.hn;clear hM q;go_enter Tryz.func11,Tryz.ntmps11;by_cases hz:zaf l ms ts=0;rotate_left
 ·have t1:(zaf l ms ts != 0)=true:=by rw[bne_iff_ne];exact hz
  have HR:=Qaz (zqw hz);clear hz HAP;generalize zaf l ms ts=ce at t1 HR HC;go_wp2_with (fail);refine HC.out.mono ?_;clear HC;rintro e V ⟨rfl,hbv⟩;go_wp2;go_ret2;exact⟨none,0,(by rw[HR.out];try rfl),(by rw[HR.out];exact Qiz _),(by rw[HR.out];exact fun _ _=>Slc.nil _ _ _ _),hbv⟩
 have HAZ:=Qaz (HAP.out hz);have HR:=Qaz (zou hz);rw[hz]at HC;clear hz HAP;go_wp2_with (fail);refine HC.out.mono ?_;clear HC;rintro e V ⟨rfl,hbv⟩;go_wp2_with (fail)
 go_loopw [9,10] (fun v i wr=>∃k:Nat,k≤ms.length∧i=.int .i64 k∧Own zfh 3 1 W.heap.size (fun _=>False) v (((ms.take k).filter (zde l ts)).map (·.id)) wr∧Below W.heap.size W wr) (fun _ i _=>ms.length-(intOf i).toNat)
 case atStart=>exact⟨0,Qjz _,rfl,Own.nil _ _ _ _ _ _,hbv⟩
 case round=>
  obtain⟨k,hk,rfl,hown,hb⟩:=hrel;by_cases hlt:k<ms.length
  ·obtain⟨b,off,rfl⟩:=Slc.addrH HM.out (by omega);have hx:ms[k]? =some ms[k]:=Qbz hlt;generalize ms[k]=x at hx;have HX:=Qaz hx;obtain⟨A1,c1,A2,c2,p1,p2,p3,p4,g0,g1,g2,g3,g4,g5,g6,g7⟩:=Meths.atH (HM.out.keep (Keep.all hb)) hx;have hxm:=Qdz hx;have HA:=Qaz (HAZ.out wr x A1 c1 A2 c2 hb hxm ⟨p1,⟨_,p2⟩,p3,⟨_,p4⟩,HS.out x hxm,HP.out x hxm⟩);have w1:(0:Int)≤(k:Int):=by omega
   have w2:(k:Int)<(ms.length:Int):=by omega
   have HST:=Qaz (zl4 (p:=zde l ts) hx);have HLN:Hid (((ms.take k).filter (zde l ts)).length≤k):=Qaz (by
    have h1:=List.length_filter_le (zde l ts) (ms.take k);rw[List.length_take]at h1;omega)
   clear hx hxm p1 p2 p3 p4;cases hap:zde l ts x with
   |false=>
    rw[hap]at HA HST;clear hap;go_wp2_with (fail);refine HA.out.mono ?_;clear HA;rintro e U ⟨rfl,hbu⟩;have hownU:=hown.all hbu;go_wp2;go_roundw
    case rel=>exact⟨k+1,by omega,by go_num,(by rw[HST.out];simpa using hownU),zab hb hbu⟩
    case measure=>simp[intOf];omega
   |true=>
    rw[hap]at HA HST;clear hap;go_wp2_with (fail);refine HA.out.mono ?_;clear HA;rintro e U ⟨rfl,hbu⟩;have hownU:=hown.all hbu;have u0:=zaa g0 hbu;have hb2:=zab hb hbu;clear g0 g1 g2 g3 g4 g5 g6 g7 hown;generalize((ms.take k).filter (zde l ts))=fl at hownU HST HLN;go_wp2_with (at_builtin;refine Classical.byContradiction fun hneg=> ?_);apply hneg;have hbz:=hb2.size;refine zao zfh 3 1 W.heap.size 8 (fun _=>False) _ rfl _ _ 27 _ rfl Tryz.underlying27 zhu rfl (by decide) (by decide) _ (fl.map (·.id)) rfl ?own ⟨U.heap.size,0,none⟩ 1 rfl x.id [.int .i64 x.id] rfl ?cells ?one ?held ?hG ?base ?len ?_
    case own=>exact hownU.alloc _
    case cells=>exact fun j u hu=>zaq U _ _ _ (by simp) j u hu
    case one=>intro u hu;simp at hu;subst hu;rfl
    case held=>exact fun _ _=>rfl
    case hG=>exact fun b hb _=>hb.elim
    case base=>simp;omega
    case len=>have:=HLN.out;simp;omega
    intro v' w1 hown1 hg1 _;have hb3:Below W.heap.size W w1:=(hb2.alloc hb2.size _).grown hg1 (by simp;omega) fun k' e=>(hownU.lt _ e).1;have hown2:Own zfh 3 1 W.heap.size (fun _=>False) v' ((fl++[x]).map (·.id)) w1:=by rw[List.map_append];exact hown1
    clear hown1;go_wp2;go_roundw
    case rel=>exact⟨k+1,by omega,by go_num,(by rw[HST.out];exact hown2),hb3⟩
    case measure=>simp[intOf];omega
  ·obtain rfl:k=ms.length:=by omega
   rw[List.take_length]at hown;obtain⟨A6,c6,rfl,hc6,h6⟩:=hown.out;have H6:=Qaz h6;have HC6:=Qaz hc6;clear hown h6 hc6;generalize(ms.filter (zde l ts)).map (·.id)=fl at H6 HR HC6;go_wp2;go_ret2;exact⟨A6,c6,(by rw[HR.out];try rfl),(by rw[HR.out];exact HC6.out),(by rw[HR.out];exact H6.out.mono fun b hb _=>hb),hb⟩
def zie(a b:Meth)(Aa Ar Ba Br:Option Addr)(ca cr cb cq:Nat):Value:=.agg #[.int .i64 a.id,.string a.lib,.slice Aa a.pars.length ca,.int .i64 a.result.kind,.string a.result.name,.int .i64 a.result.lo,.int .i64 a.result.hi,.slice Ar a.result.args.length cr,
 .int .i64 b.id,.string b.lib,.slice Ba b.pars.length cb,.int .i64 b.result.kind,.string b.result.name,.int .i64 b.result.lo,.int .i64 b.result.hi,.slice Br b.result.args.length cq]
theorem ztg(n:Int):(n=0∧zjy n=2)∨(n=1∧zjy n=1)∨(n≠0∧n≠1∧zjy n≠1∧zjy n≠2):=by
 unfold zjy;by_cases h0:n=0
 ·exact .inl ⟨h0,by rw[if_pos h0]⟩
 ·by_cases h1:n=1
  ·exact .inr (.inl ⟨h1,by rw[if_neg h0,if_pos h1]⟩)
  ·refine .inr (.inr ⟨h0,h1,?_,?_⟩)
   ·rw[if_neg h0,if_neg h1];split<;>decide
   ·rw[if_neg h0,if_neg h1];split<;>decide
def precUp(l:List CI)(ts:List Tag)(a b:Meth)(k:Nat):Prop:=∀j,j<k→zct l ts a b j=0∨zct l ts a b j=1
theorem precUp.step{l:List CI}{ts:List Tag}{a b:Meth}{k:Nat}(h:precUp l ts a b k)(hk:zct l ts a b k=0∨zct l ts a b k=1):precUp l ts a b (k+1):=fun j hj=>by
 rcases Nat.lt_or_ge j k with z|z
 ·exact h j z
 ·obtain rfl:j=k:=by omega
  exact hk
theorem precUp.done{l:List CI}{ts:List Tag}{a b:Meth}(hp:a.pars.length=ts.length)(h:precUp l ts a b ts.length):zbs l ts a b=(List.range ts.length).any fun i=>decide (zct l ts a b i=1):=by
 rw[znz (by rw[hp];exact h),hp]
theorem zed(AH:Option Addr)(cH:Nat)(l:List CI)(hL:zai l)(a b:Meth)(Aa Ar Ba Br:Option Addr)(ca cr cb cq:Nat)(AT:Option Addr)(cT:Nat)(ts:List Tag)(W:World)(hi:HiIn W AH cH l)(ha:MetIn W a Aa Ar ca cr)(hb:MetIn W b Ba Br cb cq)(hT:∃G,Held G (Tags AT ts) W)(hts:ts.length≤1000000)
  (hpa:a.pars.length=ts.length) (hpb:b.pars.length=ts.length) (hva:∀p∈a.pars,zaj l p.type=0) (hvb:∀p∈b.pars,zaj l p.type=0):
  Calls Tryz.prog 73 #[.slice AH l.length cH,zie a b Aa Ar Ba Br ca cr cb cq,.slice AT ts.length cT] W fun e W'=>e=.returned (.bool (zbs l ts a b))∧Below W.heap.size W W':=by
 obtain⟨W1,hW1⟩:∃W1,W1=W.alloc (.cells #[.int .i64 a.id,.string a.lib,.slice Aa a.pars.length ca,.int .i64 a.result.kind,.string a.result.name,.int .i64 a.result.lo,.int .i64 a.result.hi,.slice Ar a.result.args.length cr,
  .int .i64 b.id,.string b.lib,.slice Ba b.pars.length cb,.int .i64 b.result.kind,.string b.result.name,.int .i64 b.result.lo,.int .i64 b.result.hi,.slice Br b.result.args.length cq] 70):=⟨_,rfl⟩
 have b1:Below W.heap.size W W1:=by rw[hW1];exact(Below.refl _ W).alloc (Qiz _) _
 have x2:W1.cell? ⟨W.heap.size,2,none⟩=some (.slice Aa a.pars.length ca):=by rw[hW1];exact zac W _ _ _ rfl 2 _ rfl
 have x10:W1.cell? ⟨W.heap.size,10,none⟩=some (.slice Ba b.pars.length cb):=by rw[hW1];exact zac W _ _ _ rfl 10 _ rfl
 obtain⟨GT,hT⟩:=hT;obtain⟨GP,hP⟩:=ha.h2;obtain⟨GQ,hQ⟩:=hb.h2;have HRE:Hid (∀V t x y A c A' c',Below W.heap.size W V→TyIn V x A c→TyIn V y A' c'→zaj l x=0→zaj l y=0→Calls Tryz.prog 59 #[.slice AH l.length cH,tyV x A c,tyV y A' c',tagV t] V fun e V'=>e=.returned (.int .i64 (zjy (zgs l (za9 l t) x y)))∧Below V.heap.size V V'):=
  Qaz (fun V t x y A c A' c' hv hx hy h1 h2=>zki AH cH l hL x y A A' c c' t V (hi.keep hv) hx hy (zhp h1) (zhp h2))
 have HTG:=Qaz (hT.keep (Keep.all b1));have HPG:=Qaz (hP.keep (Keep.all b1));have HQG:=Qaz (hQ.keep (Keep.all b1));have HSA:=Qaz ha.hs;have HSB:=Qaz hb.hs;have HPA:=Qaz hpa;have HPB:=Qaz hpb;have HVA:=Qaz hva;have HVB:=Qaz hvb;have HC:Hid (∀(k:Nat) t x y,ts[k]? =some t→a.pars[k]? =some x→b.pars[k]? =some y→zct l ts a b k=zgs l (za9 l t) x.type y.type):=Qaz (fun k t x y h1 h2 h3=>by unfold zct;rw[h1,h2,h3]);clear hT hP hQ hi ha hb hva hvb hpa hpb;unfold zie;go_enter Tryz.func73,Tryz.ntmps73;go_wp2_with (fail);rw[←hW1];clear hW1
 go_loopw [7,8] (fun v i wr=>∃k:Nat,k≤ts.length∧i=.int .i64 k∧v=.bool ((List.range k).any fun i=>decide (zct l ts a b i=1))∧precUp l ts a b k∧Below W1.heap.size W1 wr) (fun _ i _=>ts.length-(intOf i).toNat)
 case atStart=>exact⟨0,Qjz _,rfl,rfl,fun j h=>absurd h (by omega),Below.refl _ _⟩
 case round=>
  obtain⟨k,hk,rfl,rfl,hup,hb⟩:=hrel;have HUP:=Qaz hup;clear hup;have q1:=zab b1 hb;by_cases hlt:k<ts.length
  ·obtain⟨bt,ot,rfl⟩:=Slc.addrH HTG.out (by omega);have hlp:k<a.pars.length:=by rw[HPA.out];exact hlt
   have hlq:k<b.pars.length:=by rw[HPB.out];exact hlt
   obtain⟨bp,op,rfl⟩:=Slc.addrH HPG.out (by omega);obtain⟨bq,oq,rfl⟩:=Slc.addrH HQG.out (by omega);have hx:ts[k]? =some ts[k]:=Qbz hlt;generalize ts[k]=t at hx;have hy:a.pars[k]? =some a.pars[k]:=Qbz hlp;generalize a.pars[k]=p at hy;have hz:b.pars[k]? =some b.pars[k]:=Qbz hlq;generalize b.pars[k]=r at hz;have HCK:=Qaz (HC.out k t p r hx hy hz);obtain⟨d0,d1,d2⟩:=Tags.atH (HTG.out.keep (Keep.all hb)) hx;obtain⟨A3,c3,r1,r2,g0,g1,g2,g3,g4,g5⟩:=Pars.atH (HPG.out.keep (Keep.all hb)) hy;obtain⟨A4,c4,s1,s2,e0,e1,e2,e3,e4,e5⟩:=Pars.atH (HQG.out.keep (Keep.all hb)) hz;have m2:=zaa x2 hb
   have m10:=zaa x10 hb;have HST:Hid (∀V,Below wr.heap.size wr V→Calls Tryz.prog 59 #[.slice AH l.length cH,tyV p.type A3 c3,tyV r.type A4 c4,tagV t] V fun e V'=>e=.returned (.int .i64 (zjy (zgs l (za9 l t) p.type r.type)))∧Below V.heap.size V V'):=Qaz (fun V hv=>
    HRE.out V t p.type r.type A3 c3 A4 c4 (zab q1 hv) ⟨r1,⟨_,r2.keep (Keep.all hv)⟩,HSA.out p (Qdz hy)⟩ ⟨s1,⟨_,s2.keep (Keep.all hv)⟩,HSB.out r (Qdz hz)⟩ (HVA.out p (Qdz hy)) (HVB.out r (Qdz hz)))
   rw[←HCK.out]at HST;have HRC:=Qaz (ztg (zct l ts a b k));have w1:(0:Int)≤(k:Int):=by omega
   have w2:(k:Int)<(ts.length:Int):=by omega
   have w3:(k:Int)<(a.pars.length:Int):=by omega
   have w4:(k:Int)<(b.pars.length:Int):=by omega
   clear hx hy hz r1 r2 g0 s1 s2 e0;have HK:=Qaz hlt;have HLP:=Qaz hlp;have HAN:Hid ((List.range (k+1)).any (fun i=>decide (zct l ts a b i=1))=((List.range k).any (fun i=>decide (zct l ts a b i=1))||decide (zct l ts a b k=1))):=Qaz (zfc _ _);have HFA:Hid (zct l ts a b k≠0→zct l ts a b k≠1→zbs l ts a b=false):=Qaz (fun h0 h1=>zlx HLP.out h0 h1);have HUS:Hid (zct l ts a b k=0∨zct l ts a b k=1→precUp l ts a b (k+1)):=Qaz (fun h=>HUP.out.step h);clear HC hlp hlq;generalize zct l ts a b k=cn at HST HRC HAN HFA HUS;generalize hrn:zjy cn=rn at HST HRC;clear hrn
   generalize hso:(List.range k).any (fun i=>decide (zct l ts a b i=1))=so at HAN;clear hso;go_wp2_with (fail)
   go_region_held3 (fun w'=>Below wr.heap.size wr w'∧w'.cell? ⟨W.heap.size,2,none⟩=some (.slice (some ⟨bp,op,none⟩) a.pars.length ca)∧w'.cell? ⟨W.heap.size,10,none⟩=some (.slice (some ⟨bq,oq,none⟩) b.pars.length cb)∧w'.cell? ⟨bt,ot+k*3,none⟩=some (.int .i64 t.kind)∧w'.cell? ⟨bt,ot+k*3+1,none⟩=some (.int .i64 t.num)∧w'.cell? ⟨bt,ot+k*3+2,none⟩=some (.string t.name)∧
     w'.cell? ⟨bp,op+k*6+1,none⟩=some (.int .i64 p.type.kind)∧w'.cell? ⟨bp,op+k*6+2,none⟩=some (.string p.type.name)∧w'.cell? ⟨bp,op+k*6+3,none⟩=some (.int .i64 p.type.lo)∧w'.cell? ⟨bp,op+k*6+4,none⟩=some (.int .i64 p.type.hi)∧w'.cell? ⟨bp,op+k*6+5,none⟩=some (.slice A3 p.type.args.length c3)∧
     w'.cell? ⟨bq,oq+k*6+1,none⟩=some (.int .i64 r.type.kind)∧w'.cell? ⟨bq,oq+k*6+2,none⟩=some (.string r.type.name)∧w'.cell? ⟨bq,oq+k*6+3,none⟩=some (.int .i64 r.type.lo)∧w'.cell? ⟨bq,oq+k*6+4,none⟩=some (.int .i64 r.type.hi)∧w'.cell? ⟨bq,oq+k*6+5,none⟩=some (.slice A4 r.type.args.length c4))
    (first|exact⟨(Below.refl _ wr).drew,m2,m10,d0,d1,d2,g1,g2,g3,g4,g5,e1,e2,e3,e4,e5⟩|(go_split_ands;exact⟨zab (by assumption) hbu,zaa (by assumption) hbu,zaa (by assumption) hbu,zaa (by assumption) hbu,zaa (by assumption) hbu,zaa (by assumption) hbu,zaa (by assumption) hbu,zaa (by assumption) hbu,zaa (by assumption) hbu,zaa (by assumption) hbu,zaa (by assumption) hbu,zaa (by assumption) hbu,zaa (by assumption) hbu,zaa (by assumption) hbu,zaa (by assumption) hbu,zaa (by assumption) hbu⟩))
    ((go_at_call 59;refine(HST.out _ (by go_split_ands;assumption)).mono ?_;rintro e U ⟨rfl,hbu⟩))
   have hb5:Below wr.heap.size wr U:=by go_split_ands;assumption
   have hb6:=zab hb hb5;go_split_ands;clear HST;rcases HRC.out with⟨rfl,rfl⟩|⟨rfl,rfl⟩|⟨h1,h2,h3,h4⟩
   ·have HU2:=Qaz (HUS.out (.inl rfl));cases so
    all_goals
     go_wp2;go_roundw
     case rel=>exact⟨k+1,by have:=HK.out;omega,by go_num,by rw[HAN.out];try rfl,HU2.out,hb6⟩
     case measure=>have:=HK.out;simp[intOf];omega
   ·have HU2:=Qaz (HUS.out (.inr rfl));cases so
    all_goals
     go_wp2;go_roundw
     case rel=>exact⟨k+1,by have:=HK.out;omega,by go_num,by rw[HAN.out];try rfl,HU2.out,hb6⟩
     case measure=>have:=HK.out;simp[intOf];omega
   ·have HR:=Qaz (HFA.out h1 h2);have t1:(rn != 1)=true:=by rw[bne_iff_ne];exact h3
    have t2:(rn != 2)=true:=by rw[bne_iff_ne];exact h4
    have qf:=zab b1 hb6;clear h1 h2 h3 h4;go_wp2;go_ret;exact⟨by rw[HR.out];try rfl,qf⟩
  ·obtain rfl:k=ts.length:=by omega
   have HR:=Qaz (HUP.out.done HPA.out);go_wp2;go_ret;exact⟨by rw[HR.out];try rfl,q1⟩
theorem Ints.atH{G:Nat→Prop}{b off:Nat}{l:List Int}{w:World}(h:Held G (Ints (some ⟨b,off,none⟩) l) w){k:Nat}{x:Int}(hx:l[k]? =some x):w.cell? ⟨b,off+k,none⟩=some (.int .i64 x):=by
 obtain⟨b',off',cs,e,_,hr,hc⟩:=h.now k x hx;simp only[Option.some.injEq,Addr.mk.injEq,and_true]at e;obtain⟨rfl,rfl⟩:=e;have e:cs=[.int .i64 x]:=hr;subst e
 simpa using hc 0 _ rfl
theorem zxw{ms:List Meth}{m:Meth}(hnd:(ms.map (·.id)).Nodup)(hm:m∈ms):∃k:Nat,zkd ms m.id=(k:Int)∧ms[k]? =some m:=by
 obtain⟨k,hk⟩:=Qez hm;refine⟨k,zns hk rfl ?_,hk⟩;rw[zfj];intro h;obtain⟨y,hy,e⟩:=List.mem_map.1 h;obtain⟨j,hj⟩:=Qez hy;rw[List.getElem?_take]at hj
 split at hj
 ·have h1:(ms.map (·.id))[j]? =some m.id:=by rw[List.getElem?_map,hj];exact congrArg some e
  have h2:(ms.map (·.id))[k]? =some m.id:=by rw[List.getElem?_map,hk];rfl
  have:=zds hnd h1 h2;omega
 ·cases hj
theorem zj7(A:Option Addr)(c:Nat)(ms:List Meth)(G:Nat→Prop)(AI:Option Addr)(cI:Nat)(lf:List Meth)(W:World)(hM:Held G (Meths A ms) W)(hn:ms.length≤1000000)(hnd:(ms.map (·.id)).Nodup)(hlf:∀m∈lf,m∈ms)(hln:lf.length≤1000000)(GI:Nat→Prop)(hI:Held GI (Ints AI (lf.map (·.id))) W):
  Calls Tryz.prog 72 #[.slice A ms.length c,.slice AI lf.length cI] W fun e W'=>∃v,e=.returned v∧Own metR 68 8 W.heap.size G v lf W'∧Below W.heap.size W W':=by
 have HM:=Qaz hM;have HI:=Qaz hI;have HFI:Hid (∀V x,Below W.heap.size W V→Calls Tryz.prog 48 #[.slice A ms.length c,.int .i64 x] V fun e V'=>e=.returned (.int .i64 (zkd ms x))∧V'=V):=Qaz (fun V x hv=>zni A c ms x V G (hM.keep (Keep.all hv)) hn);have HLF:=Qaz hlf;have HND:=Qaz hnd;have HG:Hid (∀b,G b→b<W.heap.size→True):=Qaz (fun _ _ _=>trivial);clear hM hI hlf hnd;go_enter Tryz.func72,Tryz.ntmps72;go_wp2_with (fail)
 go_loopw [5,6] (fun v i wr=>∃k:Nat,k≤lf.length∧i=.int .i64 k∧Own metR 68 8 W.heap.size (fun b=>G b∧b<W.heap.size) v (lf.take k) wr∧Below W.heap.size W wr) (fun _ i _=>lf.length-(intOf i).toNat)
 case atStart=>exact⟨0,Qjz _,rfl,Own.nil _ _ _ _ _ _,Below.refl _ _⟩
 case round=>
  obtain⟨k,hk,rfl,hown,hb⟩:=hrel;by_cases hlt:k<lf.length
  ·obtain⟨bi,oi,rfl⟩:=Slc.addrH HI.out (by simpa using(show 0<lf.length by omega));have hx:lf[k]? =some lf[k]:=Qbz hlt;generalize lf[k]=x at hx;have HX:=Qaz hx;have hxi:(lf.map (·.id))[k]? =some x.id:=by rw[List.getElem?_map,hx];rfl
   have g0:=zaa (Ints.atH HI.out hxi) hb;obtain⟨j,hj,hmj⟩:=zxw HND.out (HLF.out x (Qdz hx));have hjl:j<ms.length:=(Qcz hmj).1;obtain⟨bm,om,rfl⟩:=Slc.addrH HM.out (by omega);obtain⟨A1,c1,A2,c2,p1,p2,p3,p4,f0,f1,f2,f3,f4,f5,f6,f7⟩:=Meths.atH (HM.out.lt.keep (Keep.all hb)) hmj;have HF1:=Qaz (HFI.out wr x.id hb);rw[hj]at HF1;have w1:(0:Int)≤(k:Int):=by omega
   have w2:(k:Int)<(lf.length:Int):=by omega
   have w3:(0:Int)≤(j:Int):=by omega
   have w4:(j:Int)<(ms.length:Int):=by omega
   have P1:=Qaz p1;have P2:=Qaz p2;have P3:=Qaz p3;have P4:=Qaz p4;clear hx hxi hmj hj p1 p2 p3 p4;go_wp2_with (fail);refine HF1.out.mono ?_;clear HF1;rintro e V ⟨rfl,rfl⟩;have hbz:=hb.size;go_wp2_with (at_builtin;refine Classical.byContradiction fun hneg=> ?_);apply hneg
   refine zao metR 68 8 W.heap.size 112 (fun b=>G b∧b<W.heap.size) _ rfl _ _ 23 _ rfl Tryz.underlying23 zse rfl (by decide) (by decide) u5 (lf.take k) rfl (hown.alloc _) ⟨V.heap.size,0,none⟩ 1 rfl x [.int .i64 x.id,.string x.lib,.slice A1 x.pars.length c1,.int .i64 x.result.kind,.string x.result.name,.int .i64 x.result.lo,.int .i64 x.result.hi,.slice A2 x.result.args.length c2] rfl ?cells ?one (metR.mk P1.out (P2.out.keep (Keep.alloc _ _ _)) P3.out (P4.out.keep (Keep.alloc _ _ _))) ?hG ?base ?len ?_
   case cells=>exact fun j u hu=>zaq V _ _ _ rfl j u hu
   case one=>intro u hu;simp at hu;rcases hu with rfl|rfl|rfl|rfl|rfl|rfl|rfl|rfl<;>rfl
   case hG=>exact fun b hb e=>by have:=(hown.lt _ e).1;omega
   case base=>simp;omega
   case len=>rw[List.length_take];omega
   intro v' w1 hown1 hg1 _;rw[←take_snoc HX.out]at hown1;have bw1:Below W.heap.size W w1:=(hb.alloc hb.size _).grown hg1 (by simp;omega) fun k' e=>(hown.lt k' e).1;go_wp2;go_roundw
   case rel=>exact⟨k+1,by omega,by go_num,hown1,bw1⟩
   case measure=>simp[intOf];omega
  ·obtain rfl:k=lf.length:=by omega
   rw[List.take_length]at hown;have HOW:=Qaz hown;clear hown;go_wp2;go_ret;exact⟨_,rfl,HOW.out.mono fun b _ h=>h.1,hb⟩
def zhf{α:Type}(P:α→α→Bool)(l:List α)(k j:Nat):Bool:=(List.range j).all fun q=>decide (k=q)||zmj P l k q
theorem zsn{α:Type}(P:α→α→Bool)(l:List α)(k j:Nat):zhf P l k (j+1)=(zhf P l k j&&(decide (k=j)||zmj P l k j)):=by
 unfold zhf;rw[List.range_succ,List.all_append];simp
theorem zvw{α:Type}(P:α→α→Bool)(l:List α)(k:Nat):zhf P l k l.length=zdl P l k:=rfl
theorem zvr{α:Type}{P:α→α→Bool}{l:List α}{k j:Nat}(hj:j≤l.length)(h:zhf P l k j=false):zdl P l k=false:=by
 unfold zhf at h;obtain⟨q,hq,hn⟩:=List.all_eq_false.1 h;unfold zdl;exact List.all_eq_false.2 ⟨q,by rw[List.mem_range]at hq ⊢;omega,hn⟩
theorem zvu{α:Type}{P:α→α→Bool}{l:List α}{k:Nat}(hk:k<l.length)(h:zdl P l k=true)(hb:∀j,j<k→zdl P l j=false):pick P l=some k:=by
 unfold pick;rw[List.find?_range_eq_some];exact⟨h,List.mem_range.2 hk,fun j hj=>by rw[hb j hj];rfl⟩
theorem zu7{α:Type}{P:α→α→Bool}{l:List α}(hb:∀j,j<l.length→zdl P l j=false):pick P l=none:=by
 unfold pick;rw[List.find?_eq_none];intro j hj;rw[hb j (List.mem_range.1 hj)];decide
def zm6{α:Type}(P:α→α→Bool)(l:List α):Int:=match pick P l with
 |some i=>(i:Int)
 |none=> -1
structure MsOk (l:List CI) (n:Nat) (ls:List Meth):Prop where
 len:∀m∈ls,m.pars.length=n
 valid:∀m∈ls,∀p∈m.pars,zaj l p.type=0
 small:∀m∈ls,∀p∈m.pars,TySmall p.type
theorem zo6(AH:Option Addr)(cH:Nat)(l:List CI)(hL:zai l)(A:Option Addr)(c:Nat)(ls:List Meth)(AT:Option Addr)(cT:Nat)(ts:List Tag)(W:World)(hi:HiIn W AH cH l)(G:Nat→Prop)(hM:Held G (Meths A ls) W)(hn:ls.length≤1000000)(hT:∃G,Held G (Tags AT ts) W)(hts:ts.length≤1000000)(hok:MsOk l ts.length ls):
  Calls Tryz.prog 115 #[.slice AH l.length cH,.slice A ls.length c,.slice AT ts.length cT] W fun e W'=>e=.returned (.int .i64 (zm6 (zbs l ts) ls))∧Below W.heap.size W W':=by
 obtain⟨P,hP⟩:∃P,P=zbs l ts:=⟨_,rfl⟩;have HPR:Hid (∀(V:World)(a b:Meth)(Aa Ar Ba Br:Option Addr)(ca cr cb cq:Nat),Below W.heap.size W V→a∈ls→b∈ls→MetIn V a Aa Ar ca cr→MetIn V b Ba Br cb cq→Calls Tryz.prog 73 #[.slice AH l.length cH,zie a b Aa Ar Ba Br ca cr cb cq,.slice AT ts.length cT] V fun e V'=>e=.returned (.bool (P a b))∧Below V.heap.size V V'):=
  Qaz (fun V a b Aa Ar Ba Br ca cr cb cq hv ha hb h1 h2=>by
   rw[hP];exact zed AH cH l hL a b Aa Ar Ba Br ca cr cb cq AT cT ts V (hi.keep hv) h1 h2 (hT.imp fun _ h=>h.keep (Keep.all hv)) hts (hok.len a ha) (hok.len b hb) (hok.valid a ha) (hok.valid b hb))
 rw[←hP];have HM:=Qaz hM;have HOK:=Qaz hok;have hts':=hts;clear hP hM hi hT hok;go_enter Tryz.func115,Tryz.ntmps115;go_wp2_with (fail)
 go_loopw [7] (fun i wr=>∃k:Nat,k≤ls.length∧i=.int .i64 k∧(∀j,j<k→zdl P ls j=false)∧Below W.heap.size W wr) (fun i _=>ls.length-(intOf i).toNat)
 case atStart=>exact⟨0,Qjz _,rfl,fun j h=>absurd h (by omega),Below.refl _ _⟩
 case round=>
  obtain⟨k,hk,rfl,hbad,hb⟩:=hrel;have HBAD:=Qaz hbad;clear hbad;by_cases hlt:k<ls.length
  ·obtain⟨b,off,rfl⟩:=Slc.addrH HM.out (by omega);have hx:ls[k]? =some ls[k]:=Qbz hlt;generalize ls[k]=x at hx;have HX:=Qaz hx;have hxm:=Qdz hx;obtain⟨A1,c1,A2,c2,p1,p2,p3,p4,f0,f1,f2,f3,f4,f5,f6,f7⟩:=Meths.atH (HM.out.keep (Keep.all hb)) hx;have HF:=Qaz (And.intro f0 (And.intro f1 (And.intro f2 (And.intro f3 (And.intro f4 (And.intro f5 (And.intro f6 f7)))))));have HMI:Hid (MetIn wr x A1 A2 c1 c2):=Qaz ⟨p1,⟨_,p2⟩,p3,⟨_,p4⟩,HOK.out.small x hxm,by rw[HOK.out.len x hxm];exact hts'⟩;have HXM:=Qaz hxm;have w1:(0:Int)≤(k:Int):=by omega
   have w2:(k:Int)<(ls.length:Int):=by omega
   have HK:=Qaz hlt;clear hx hxm p1 p2 p3 p4 f0 f1 f2 f3 f4 f5 f6 f7;obtain⟨wo,hwo⟩:∃wo:World,wo=wr:=⟨_,rfl⟩;subst hwo;go_wp2_with (fail)
   go_loopw [8,9] (fun v i w2=>∃j:Nat,j≤ls.length∧v=.bool (zhf P ls k j)∧i=.int .i64 j∧Below wo.heap.size wo w2) (fun _ i _=>ls.length-(intOf i).toNat)
   case atStart=>exact⟨0,Qjz _,rfl,rfl,Below.refl _ _⟩
   case round=>
    obtain⟨j,hj,rfl,rfl,hb2⟩:=hrel;have q2:=zab hb hb2;cases hup:zhf P ls k j with
    |false=>
     have HNO:=Qaz (zvr hj hup);clear hup;by_cases hjl:j<ls.length
     all_goals
      go_wp2;go_roundw
      case rel=>
       refine⟨k+1,by have:=HK.out;omega,by go_num,fun i hi=> ?_,q2⟩;rcases Nat.lt_or_ge i k with z|z
       ·exact HBAD.out i z
       ·obtain rfl:i=k:=by have:=HK.out;omega
        exact HNO.out
      case measure=>have:=HK.out;simp[intOf];omega
    |true=>
     have HUP:=Qaz hup;have HST:=Qaz (zsn P ls k j);rw[hup]at HST;clear hup;by_cases hjl:j<ls.length
     ·by_cases hkj:k=j
      ·have HST2:Hid (zhf P ls k (j+1)=true):=Qaz (by rw[HST.out,Qhz hkj];rfl);have t1:((k:Int)==(j:Int))=true:=beq_iff_eq.2 (by omega);have HJ:=Qaz hjl;clear hkj;go_wp2_with (fail)
       go_quiet (fail)
       have hb3:Below wo.heap.size wo (wr.drewN nq):=zab hb2 ((Drw.of _ _).below _);go_wp2;go_roundw
       case rel=>exact⟨j+1,by have:=HJ.out;omega,by rw[HST2.out];try rfl,by go_num,hb3⟩
       case measure=>have:=HJ.out;simp[intOf];omega
      ·have t1:((k:Int)==(j:Int))=false:=Qfz (by omega);have hy:ls[j]? =some ls[j]:=Qbz hjl;generalize ls[j]=y at hy;have HST2:Hid (zhf P ls k (j+1)=P x y):=Qaz (by rw[HST.out,Qgz hkj];unfold zmj;rw[HX.out,hy];rfl);have hym:=Qdz hy;obtain⟨B1,d1,B2,d2,p1,p2,p3,p4,g0,g1,g2,g3,g4,g5,g6,g7⟩:=Meths.atH (HM.out.keep (Keep.all q2)) hy;have HMY:Hid (MetIn wr y B1 B2 d1 d2):=Qaz ⟨p1,⟨_,p2⟩,p3,⟨_,p4⟩,HOK.out.small y hym,by rw[HOK.out.len y hym];exact hts'⟩
       have HCP:=Qaz (fun V (hv:Below wr.heap.size wr V)=>HPR.out V x y A1 A2 B1 B2 c1 c2 d1 d2 (zab q2 hv) HXM.out hym ((HMI.out.keep hb2).keep hv) (HMY.out.keep hv));have f0:=zaa HF.out.1 hb2;have f1:=zaa HF.out.2.1 hb2;have f2:=zaa HF.out.2.2.1 hb2;have f3:=zaa HF.out.2.2.2.1 hb2;have f4:=zaa HF.out.2.2.2.2.1 hb2;have f5:=zaa HF.out.2.2.2.2.2.1 hb2;have f6:=zaa HF.out.2.2.2.2.2.2.1 hb2;have f7:=zaa HF.out.2.2.2.2.2.2.2 hb2;have w3:(0:Int)≤(j:Int):=by omega
       have w4:(j:Int)<(ls.length:Int):=by omega
       have HJ:=Qaz hjl;clear hkj hy hym p1 p2 p3 p4 HST;generalize P x y=pb at HST2 HCP;unfold zie at HCP;go_wp2_with (fail)
       go_region_held3 (fun w'=>Below wr.heap.size wr w'∧w'.cell? ⟨b,off+k*8,none⟩=some (.int .i64 x.id)∧w'.cell? ⟨b,off+k*8+1,none⟩=some (.string x.lib)∧w'.cell? ⟨b,off+k*8+2,none⟩=some (.slice A1 x.pars.length c1)∧w'.cell? ⟨b,off+k*8+3,none⟩=some (.int .i64 x.result.kind)∧w'.cell? ⟨b,off+k*8+4,none⟩=some (.string x.result.name)∧w'.cell? ⟨b,off+k*8+5,none⟩=some (.int .i64 x.result.lo)∧w'.cell? ⟨b,off+k*8+6,none⟩=some (.int .i64 x.result.hi)∧w'.cell? ⟨b,off+k*8+7,none⟩=some (.slice A2 x.result.args.length c2)∧
         w'.cell? ⟨b,off+j*8,none⟩=some (.int .i64 y.id)∧w'.cell? ⟨b,off+j*8+1,none⟩=some (.string y.lib)∧w'.cell? ⟨b,off+j*8+2,none⟩=some (.slice B1 y.pars.length d1)∧w'.cell? ⟨b,off+j*8+3,none⟩=some (.int .i64 y.result.kind)∧w'.cell? ⟨b,off+j*8+4,none⟩=some (.string y.result.name)∧w'.cell? ⟨b,off+j*8+5,none⟩=some (.int .i64 y.result.lo)∧w'.cell? ⟨b,off+j*8+6,none⟩=some (.int .i64 y.result.hi)∧w'.cell? ⟨b,off+j*8+7,none⟩=some (.slice B2 y.result.args.length d2))
        (first|exact⟨(Below.refl _ wr).drew,f0,f1,f2,f3,f4,f5,f6,f7,g0,g1,g2,g3,g4,g5,g6,g7⟩|(go_split_ands;exact⟨zab (by assumption) hbu,zaa (by assumption) hbu,zaa (by assumption) hbu,zaa (by assumption) hbu,zaa (by assumption) hbu,zaa (by assumption) hbu,zaa (by assumption) hbu,zaa (by assumption) hbu,zaa (by assumption) hbu,zaa (by assumption) hbu,zaa (by assumption) hbu,zaa (by assumption) hbu,zaa (by assumption) hbu,zaa (by assumption) hbu,zaa (by assumption) hbu,zaa (by assumption) hbu,zaa (by assumption) hbu⟩))
        ((go_at_call 73;refine(HCP.out _ (by go_split_ands;assumption)).mono ?_;rintro e U ⟨rfl,hbu⟩))
       have hb5:Below wr.heap.size wr U:=by go_split_ands;assumption
       have hb6:=zab hb2 hb5;go_split_ands;clear HCP;cases pb
       all_goals
        go_wp2;go_roundw
        case rel=>exact⟨j+1,by have:=HJ.out;omega,by rw[HST2.out];try rfl,by go_num,hb6⟩
        case measure=>have:=HJ.out;simp[intOf];omega
     ·obtain rfl:j=ls.length:=by omega
      have HR:Hid (zm6 P ls=(k:Int)):=Qaz (by unfold zm6;rw[zvu HK.out (by rw[←zvw];exact HUP.out) HBAD.out]);go_wp2;go_ret;exact⟨by rw[HR.out];try rfl,q2⟩
  ·obtain rfl:k=ls.length:=by omega
   have HR:Hid (zm6 P ls= -1):=Qaz (by unfold zm6;rw[zu7 HBAD.out]);go_wp2;go_ret;exact⟨by rw[HR.out];try rfl,hb⟩
end
end Go.Proofs.YtepnmejahbiacaaGreat
