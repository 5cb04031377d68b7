/- Part 32 of the proof: Sr, Ec. -/
import Derived.Test.YtepnmejahbiacaaGreatM31
set_option linter.unusedVariables false
set_option linter.unusedSimpArgs false
set_option maxHeartbeats 64000000
set_option maxRecDepth 100000
namespace Go.Proofs.YtepnmejahbiacaaGreat
open Go.RowKit
theorem zk6{l:List CI}{ms ls:List Meth}{ts:List Tag}(hz:zaf l ms ts=0)(hs:∀m∈ms,∀p∈m.pars,TySmall p.type)(hsub:∀m∈ls,m∈ms):MsOk l ts.length ls:=by
 obtain⟨z1,z2,z3,z4,z5,z6⟩:=za2 hz;refine⟨fun m hm=>z5 m (hsub m hm),fun m hm p hp=> ?_,fun m hm=>hs m (hsub m hm)⟩;unfold zcs at z3;rw[Bool.and_eq_true]at z3;have:=List.all_eq_true.1 z3.2 m (hsub m hm);unfold zeg at this;rw[Bool.and_eq_true]at this;exact of_decide_eq_true (List.all_eq_true.1 this.2 p hp)
theorem Own.lt'{α:Type}{R:α→List Value→World→Prop}{T sz base:Nat}{G:Nat→Prop}{v:Value}{l:List α}{w:World}(h:Own R T sz base G v l w)(k:Nat)(hk:v.ownBlock=some k):base≤k:=(h.lt k hk).1
def zpe(l:List CI)(ts:List Tag)(ms:List Meth)(W:World)(e:Ending)(W':World):Prop:=
 ∃A1 c1 A2 c2,e=.returned (.agg #[.slice A1 (zcw l ts ms).1.length c1,.bool (decide (0<(zcw l ts ms).2.length)),.slice A2 (zcw l ts ms).2.length c2])∧(zcw l ts ms).1.length≤c1∧Held (fun b=>W.heap.size≤b) (Ints A1 ((zcw l ts ms).1.map (·.id))) W'∧
  (zcw l ts ms).2.length≤c2∧Held (fun b=>W.heap.size≤b) (Ints A2 ((zcw l ts ms).2.map (·.id))) W'∧Below W.heap.size W W'
theorem zyy{l:List CI}{ts:List Tag}{ms os ls:List Meth}{vo lf:Value}{W wr Wf:World}{B:Nat}(h1:zcw l ts ms=(os,ls))(ho:Own zfh 3 1 B (fun _=>False) vo (os.map (·.id)) wr)(hl:Own zfh 3 1 B (fun _=>False) lf (ls.map (·.id)) wr)(hB:W.heap.size+2≤B)
  (hb:Below W.heap.size W wr) (hc:Chg (fun b=>b=W.heap.size∨b=W.heap.size+1) wr Wf) (bo:Bool) (hbo:bo=decide (0<ls.length)) (e:Ending) (he:e=.returned (.agg #[vo,.bool bo,lf])):zpe l ts ms W e Wf:=by
 obtain⟨A1,c1,rfl,hc1,k1⟩:=ho.out;obtain⟨A2,c2,rfl,hc2,k2⟩:=hl.out;subst he hbo;unfold zpe;rw[h1];rw[List.length_map]at hc1 hc2;refine⟨A1,c1,A2,c2,by simp only[List.length_map],hc1,?_,hc2,?_,?_⟩
 ·refine(k1.keep (hc.keep ?_)).mono ?_
  ·rintro b (q|q)
   ·exact q.elim
   ·have:=(ho.lt b q).1;omega
  ·rintro b _ (q|q)
   ·exact q.elim
   ·have:=(ho.lt' b q);omega
 ·refine(k2.keep (hc.keep ?_)).mono ?_
  ·rintro b (q|q)
   ·exact q.elim
   ·have:=(hl.lt b q).1;omega
  ·rintro b _ (q|q)
   ·exact q.elim
   ·have:=(hl.lt' b q);omega
 ·exact hb.trans (hc.below hb.size fun b q=>by rcases q with q|q<;>omega)
theorem zmt(AH:Option Addr)(cH:Nat)(l:List CI)(A:Option Addr)(c:Nat)(ms:List Meth)(AT:Option Addr)(cT:Nat)(ts:List Tag)(W:World)(q:Asks AH cH l A ms AT ts W)(hz:zaf l ms ts=0):
  Calls Tryz.prog 69 #[.slice AH l.length cH,.slice A ms.length c,.slice AT ts.length cT] W (zpe l ts ms W):=by
 obtain⟨z1,z2,z3,z4,z5,z6⟩:=za2 hz;have hok:=zk6 hz q.hs (ls:=ms) (fun _ h=>h);have hnd:=zht z3;have HI:=Qaz q.hi;obtain⟨GM,hM⟩:=q.hM;have HM:=Qaz hM;have HAP:Hid (∀V m A1 c1 A2 c2,Below W.heap.size W V→m∈ms→MetIn V m A1 A2 c1 c2→Calls Tryz.prog 43 #[.slice AH l.length cH,zk2 m A1 c1 A2 c2,.slice AT ts.length cT] V fun e V'=>e=.returned (.bool (zde l ts m))∧Below V.heap.size V V'):=
  Qaz (fun V m A1 c1 A2 c2 hv hm hmi=>zep AH cH l m A1 A2 c1 c2 AT cT ts V (HI.out.keep hv) hmi (q.hT.imp fun _ h=>h.keep (Keep.all hv)) q.hts z1 (z5 m hm) (hok.valid m hm) z6)
 obtain⟨P,hP⟩:∃P,P=zbs l ts:=⟨_,rfl⟩;obtain⟨fm,hfm⟩:∃fm,fm=ms.filter (zde l ts):=⟨_,rfl⟩;have HORD:Hid (zcw l ts ms=zbu P fm.length fm):=Qaz (by unfold zcw;rw[hP,hfm]);have HFM:Hid (∀m∈fm,m∈ms):=Qaz (fun m hm=>by rw[hfm]at hm;exact(List.mem_filter.1 hm).1);have HFE:Hid (fm=ms.filter (zde l ts)):=Qaz hfm;have HFL:Hid (fm.length≤ms.length):=Qaz (by rw[hfm];exact List.length_filter_le _ _)
 have HSO:Hid (∀V AI cI lf,Below W.heap.size W V→(∀m∈lf,m∈ms)→lf.length≤1000000→(∃GI,Held GI (Ints AI (lf.map (·.id))) V)→Calls Tryz.prog 72 #[.slice A ms.length c,.slice AI lf.length cI] V fun e V'=>∃v,e=.returned v∧Own metR 68 8 V.heap.size GM v lf V'∧Below V.heap.size V V'):=
  Qaz (fun V AI cI lf hv h1 h2 ⟨GI,h3⟩=>zj7 A c ms GM AI cI lf V (hM.keep (Keep.all hv)) q.hn hnd h1 h2 GI h3)
 have HFI:Hid (∀V A' c' ls G,Below W.heap.size W V→(∀m∈ls,m∈ms)→ls.length≤1000000→Held G (Meths A' ls) V→Calls Tryz.prog 115 #[.slice AH l.length cH,.slice A' ls.length c',.slice AT ts.length cT] V fun e V'=>e=.returned (.int .i64 (zm6 P ls))∧Below V.heap.size V V'):=
  Qaz (fun V A' c' ls G hv h1 h2 h3=>by
   rw[hP];exact zo6 AH cH l z1 A' c' ls AT cT ts V (HI.out.keep hv) G h3 h2 (q.hT.imp fun _ h=>h.keep (Keep.all hv)) q.hts (zk6 hz q.hs h1))
 have HS:=Qaz q.hs;have HP:=Qaz q.hp;have hn:=q.hn;clear hM q hok hnd hP hfm hz z1 z2 z3 z4 z5 z6;obtain⟨W1,hW1⟩:∃W1,W1=(W.alloc (.cells #[.slice none 0 0,.bool false,.slice none 0 0] 47)).alloc (.cells #[.slice none 0 0,.bool false,.slice none 0 0] 47):=⟨_,rfl⟩;have b1:Below W.heap.size W W1:=by rw[hW1];exact((Below.refl _ W).alloc (Qiz _) _).alloc (by simp) _
 have hz1:W1.heap.size=W.heap.size+2:=by rw[hW1];simp
 have CR:Hid (Cel W.heap.size [.slice none 0 0,.bool false,.slice none 0 0] W1):=Qaz (by rw[hW1];exact(Cel.new W _ _ _ rfl).all ((Below.refl _ _).alloc (Qiz _) _));have CS:Hid (Cel (W.heap.size+1) [.slice none 0 0,.bool false,.slice none 0 0] W1):=Qaz (by rw[hW1];exact Cel.new (W.alloc _) _ _ _ (by simp));go_enter Tryz.func69,Tryz.ntmps69;go_wp2_with (fail);rw[←hW1];clear hW1
 go_loopw [8,9] (fun v i wr=>∃k:Nat,k≤ms.length∧i=.int .i64 k∧Own zfh 3 1 (W.heap.size+2) (fun _=>False) v (((ms.take k).filter (zde l ts)).map (·.id)) wr∧Below W1.heap.size W1 wr) (fun _ i _=>ms.length-(intOf i).toNat)
 case atStart=>exact⟨0,Qjz _,rfl,Own.nil _ _ _ _ _ _,Below.refl _ _⟩
 case round=>
  obtain⟨k,hk,rfl,hown,hb1⟩:=hrel;have hb:=zab b1 hb1;by_cases hlt:k<ms.length
  ·obtain⟨b,off,rfl⟩:=Slc.addrH HM.out (by omega);have hx:ms[k]? =some ms[k]:=Qbz hlt;generalize ms[k]=x at hx;have HX:=Qaz hx;obtain⟨A1,c1,A2,c2,p1,p2,p3,p4,g0,g1,g2,g3,g4,g5,g6,g7⟩:=Meths.atH (HM.out.keep (Keep.all hb)) hx;have hxm:=Qdz hx;have HA:=Qaz (HAP.out wr x A1 c1 A2 c2 hb hxm ⟨p1,⟨_,p2⟩,p3,⟨_,p4⟩,HS.out x hxm,HP.out x hxm⟩);have w1:(0:Int)≤(k:Int):=by omega
   have w2:(k:Int)<(ms.length:Int):=by omega
   have HST:=Qaz (zl4 (p:=zde l ts) hx);have HLN:Hid (((ms.take k).filter (zde l ts)).length≤k):=Qaz (by
    have h1:=List.length_filter_le (zde l ts) (ms.take k);rw[List.length_take]at h1;omega)
   clear hx hxm p1 p2 p3 p4;cases hap:zde l ts x with
   |false=>
    rw[hap]at HA HST;clear hap;go_wp2_with (fail);refine HA.out.mono ?_;clear HA;rintro e U ⟨rfl,hbu⟩;have hownU:=hown.all hbu;go_wp2;go_roundw
    case rel=>exact⟨k+1,by omega,by go_num,(by rw[HST.out];simpa using hownU),zab hb1 hbu⟩
    case measure=>simp[intOf];omega
   |true=>
    rw[hap]at HA HST;clear hap;go_wp2_with (fail);refine HA.out.mono ?_;clear HA;rintro e U ⟨rfl,hbu⟩;have hownU:=hown.all hbu;have u0:=zaa g0 hbu;have hb2:=zab hb1 hbu;clear g0 g1 g2 g3 g4 g5 g6 g7 hown;generalize((ms.take k).filter (zde l ts))=fl at hownU HST HLN;go_wp2_with (at_builtin;refine Classical.byContradiction fun hneg=> ?_);apply hneg;have hbz:=hb2.size
    refine zao zfh 3 1 (W.heap.size+2) 8 (fun _=>False) _ rfl _ _ 27 _ rfl Tryz.underlying27 zhu rfl (by decide) (by decide) _ (fl.map (·.id)) rfl ?own ⟨U.heap.size,0,none⟩ 1 rfl x.id [.int .i64 x.id] rfl ?cells ?one ?held ?hG ?base ?len ?_
    case own=>exact hownU.alloc _
    case cells=>exact fun j u hu=>zaq U _ _ _ (by simp) j u hu
    case one=>intro u hu;simp at hu;subst hu;rfl
    case held=>exact fun _ _=>rfl
    case hG=>exact fun b hb _=>hb.elim
    case base=>simp;omega
    case len=>have:=HLN.out;simp;omega
    intro v' w1 hown1 hg1 _;have hb3:Below W1.heap.size W1 w1:=(hb2.alloc hb2.size _).grown hg1 (by simp;omega) fun k' e=>by have:=(hownU.lt _ e).1;omega
    have hown2:Own zfh 3 1 (W.heap.size+2) (fun _=>False) v' ((fl++[x]).map (·.id)) w1:=by rw[List.map_append];exact hown1
    clear hown1;go_wp2;go_roundw
    case rel=>exact⟨k+1,by omega,by go_num,(by rw[HST.out];exact hown2),hb3⟩
    case measure=>simp[intOf];omega
  ·obtain rfl:k=ms.length:=by omega
   rw[List.take_length,←HFE.out]at hown;have HOWN:=Qaz hown;have CR2:=Qaz (CR.out.all hb1);have CS2:=Qaz (CS.out.all hb1);clear hown CR CS;obtain⟨W2,hW2⟩:∃W2:World,W2=wr:=⟨_,rfl⟩;obtain⟨v2,hv2⟩:∃v2:Value,v2=u8:=⟨_,rfl⟩;subst hW2 hv2;go_wp2_with (fail)
   go_loopw [8] (fun lf wr=>∃(n:Nat)(os ls:List Meth)(Ao:Option Addr)(co:Nat),Own zfh 3 1 (W.heap.size+2) (fun _=>False) (.slice Ao os.length co) (os.map (·.id)) wr∧Own zfh 3 1 (W.heap.size+2) (fun _=>False) lf (ls.map (·.id)) wr∧(∀b,(Value.slice Ao os.length co).ownBlock=some b→lf.ownBlock≠some b)∧
    Cel (W.heap.size+1) [.slice Ao os.length co,.bool false,.slice none 0 0] wr∧Cel W.heap.size [.slice none 0 0,.bool false,.slice none 0 0] wr∧
    os++(zbu P n ls).1=(zbu P fm.length fm).1∧(zbu P n ls).2=(zbu P fm.length fm).2∧ls.length≤n∧os.length+ls.length≤ms.length∧(∀m∈ls,m∈ms)∧Below W.heap.size W wr) (fun lf _=>slLen lf)
   case atStart=>exact⟨fm.length,[],fm,none,0,Own.nil _ _ _ _ _ _,HOWN.out,by simp[Value.ownBlock],CS2.out,CR2.out,by simp,rfl,Qiz _,by simpa using HFL.out,HFM.out,hb⟩
   case round=>
    clear HOWN CR2 CS2 hb hb1;obtain⟨n,os,ls,Ao,co,hO,hL,hdis,cS,cR,e1,e2,hln,hlen,hmem,hb⟩:=hrel;have HE1:=Qaz e1;have HE2:=Qaz e2;have HMEM:=Qaz hmem;have HDIS:=Qaz hdis;have CSR:=Qaz cS;have CRR:=Qaz cR;have HO:=Qaz hO;have HL:=Qaz hL;have hbz:=hb.size;clear e1 e2 hmem hdis cS cR hO hL;by_cases h0:0<ls.length
    ·obtain⟨g,cl,rfl,hgb,hgl⟩:=HL.out.form (by simpa using h0);rw[List.length_map]at HL HDIS;have hl0:(0:Int)<(ls.length:Int):=by omega
     have HSC:=Qaz (HSO.out wr (some ⟨g,0,none⟩) cl ls hb HMEM.out (by omega) (by
      obtain⟨A',c',e',_,k'⟩:=HL.out.out;simp only[Value.slice.injEq]at e';obtain⟨rfl,_,_⟩:=e';exact⟨_,k'⟩))
     rw[List.length_map];go_wp2_with (fail);refine HSC.out.mono ?_;clear HSC;rintro e U ⟨v3,rfl,hown3,hbu⟩;obtain⟨A3,c3,rfl,hc3,k3⟩:=hown3.out;have bU:=zab hb hbu;have HFC:=Qaz (HFI.out U A3 c3 ls _ bU HMEM.out (by omega) k3);clear hown3 hc3 k3;cases hpk:pick P ls with
     |none=>
      have hpi:zm6 P ls= -1:=by unfold zm6;rw[hpk]
      have hon:=zf4 (n:=n) hpk;rw[hpi]at HFC;have HEQ:Hid (zcw l ts ms=(os,ls)):=Qaz (by
       rw[HORD.out];have a1:=HE1.out;have a2:=HE2.out;rw[hon]at a1 a2;simp only[List.append_nil]at a1;exact Prod.ext a1.symm a2.symm)
      clear hpk hpi hon;go_wp2_with (fail);refine HFC.out.mono ?_;clear HFC;rintro e V ⟨rfl,hbv⟩;have hv2:=zab hbu hbv;have bV:=zab bU hbv;have HOV:=Qaz (HO.out.all hv2);have HLV:=Qaz (HL.out.all hv2);have s0:=((CSR.out.all hv2) 0 _ rfl).1;have s1:=((CSR.out.all hv2) 1 _ rfl).1;have s2:=((CSR.out.all hv2) 2 _ rfl).1;have sf1:=((CSR.out.all hv2) 1 _ rfl).2;have sf2:=((CSR.out.all hv2) 2 _ rfl).2;have r0:=((CRR.out.all hv2) 0 _ rfl).1;have r1:=((CRR.out.all hv2) 1 _ rfl).1;have r2:=((CRR.out.all hv2) 2 _ rfl).1;have rf0:=((CRR.out.all hv2) 0 _ rfl).2;have rf1:=((CRR.out.all hv2) 1 _ rfl).2
      have rf2:=((CRR.out.all hv2) 2 _ rfl).2;go_wp2;refine bodyPost_ret (v:=.agg #[.slice Ao os.length co,.bool true,.slice (some ⟨g,0,none⟩) ls.length cl]) (by simp[results,Tryz.results69,go_sem,s0,s1,s2,r0,r1,r2]) rfl ?_;refine zyy HEQ.out HOV.out HLV.out (Qiz _) bV ?_ true (Qhz h0).symm _ rfl;have k:∀(b j:Nat)(X:World)(u:Value),b=W.heap.size∨b=W.heap.size+1→Chg (fun b=>b=W.heap.size∨b=W.heap.size+1) X (X.setCell ⟨b,j,none⟩ u):=fun b j X u hb=>Chg.setCell X (p:=⟨b,j,none⟩) hb u
      exact((((k _ _ _ _ (.inr rfl)).trans (k _ _ _ _ (.inr rfl))).trans (k _ _ _ _ (.inl rfl))).trans (k _ _ _ _ (.inl rfl))).trans (k _ _ _ _ (.inl rfl))
     |some i=>
      obtain⟨hil,_,_⟩:=zic hpk;have hx:ls[i]? =some ls[i]:=Qbz hil;generalize ls[i]=x at hx;have hpi:zm6 P ls=(i:Int):=by unfold zm6;rw[hpk]
      rw[hpi]at HFC;have hxi:(ls.map (·.id))[i]? =some x.id:=by rw[List.getElem?_map,hx];rfl
      have HXI:=Qaz hxi;obtain⟨n',rfl⟩:∃n',n=n'+1:=⟨n-1,by omega⟩;have hos:=zmm (n:=n') hpk hx;have HN1:Hid ((os++[x])++(zbu P n' (ls.eraseIdx i)).1=(zbu P fm.length fm).1):=Qaz (by
       have a1:=HE1.out;rw[hos]at a1
       simpa using a1)
      have HN2:Hid ((zbu P n' (ls.eraseIdx i)).2=(zbu P fm.length fm).2):=Qaz (by
       have a2:=HE2.out;rw[hos]at a2;exact a2)
      have HN3:Hid ((ls.eraseIdx i).length=ls.length-1):=Qaz (List.length_eraseIdx_of_lt hil);have HN4:Hid (∀m∈ls.eraseIdx i,m∈ms):=Qaz (fun m hm=>HMEM.out m (List.mem_of_mem_eraseIdx hm));have HN5:Hid ((ls.eraseIdx i).map (·.id)=(ls.map (·.id)).take i++(ls.map (·.id)).drop (i+1)):=Qaz (by rw[←List.map_take,←List.map_drop,←List.map_append,List.eraseIdx_eq_take_drop_succ]);have w1:¬(i:Int)<0:=by omega
      have w2:(0:Int)≤(i:Int):=by omega
      have w3:(i:Int)<(ls.length:Int):=by omega
      have HIL:=Qaz hil;have HLNN:=Qaz hln;have HLEN:=Qaz hlen;clear hpk hpi hos hx hxi HE1 HE2 HORD HFM HFE HFL;go_wp2_with (fail);refine HFC.out.mono ?_;clear HFC;rintro e V ⟨rfl,hbv⟩;have hv2:=zab hbu hbv;have bV:=zab bU hbv;have hbzV:=bV.size;have HOV:=Qaz (HO.out.all hv2);have HLV:=Qaz (HL.out.all hv2);have CSV:=Qaz (CSR.out.all hv2);have CRV:=Qaz (CRR.out.all hv2);have s0:=(CSV.out 0 _ rfl).1;have sf0:=(CSV.out 0 _ rfl).2;have l0:V.cell? ⟨g,i,none⟩=some (.int .i64 x.id):=by
       obtain⟨A',c',e',_,k'⟩:=HLV.out.out;simp only[Value.slice.injEq]at e';obtain⟨rfl,_,_⟩:=e';have:=Ints.atH k' HXI.out
       simpa using this
      have hgV:g<V.heap.size:=cell_lt l0;have hsV:W.heap.size+1<V.heap.size:=cell_lt s0;have HVBO:Hid (∀q,(Value.slice Ao os.length co).ownBlock=some q→W.heap.size+2≤q∧q<V.heap.size):=Qaz (fun q e=>HOV.out.lt q e);have HNS:Hid ((Value.slice Ao os.length co).ownBlock≠some (W.heap.size+1)):=Qaz (fun e=>by have:=(HVBO.out _ e).1;omega);have HNR:Hid ((Value.slice Ao os.length co).ownBlock≠some W.heap.size):=Qaz (fun e=>by have:=(HVBO.out _ e).1;omega);have hO2:=Qaz ((HOV.out.drew).alloc (.cells #[.int .i64 x.id] 3))
      have hC:Hid (∀j u,[Value.int .i64 x.id][j]? =some u→(V.drew.alloc (.cells #[.int .i64 x.id] 3)).cell? ((⟨V.heap.size,0,none⟩:Addr).add j)=some u):=Qaz (zaq V.drew #[.int .i64 x.id] _ _ rfl);have h1C:Hid (∀u∈[Value.int .i64 x.id],u.oneCell'=true):=Qaz (by intro u hu;simp at hu;subst hu;rfl);have hlo:(os.map (·.id)).length=os.length:=List.length_map _;have hos6:os.length≤1000000:=by omega
      go_wp2_with (fail)
      go_region_law (refine za1 zfh 3 1 (W.heap.size+2) 8 (fun _=>False) _ (by rfl) _ _ 27 _ (by rfl) Tryz.underlying27 zhu rfl (by decide) (by decide) (.slice Ao os.length co) (os.map (·.id)) (by rfl) hO2.out ⟨V.heap.size,0,none⟩ 1 (by rfl) x.id [.int .i64 x.id] rfl hC.out h1C.out (fun _ _=>rfl) (fun b hb=>hb.elim) (by simp;omega) (by rw[hlo];omega) (V.heap.size+1) (by simp) ?_;intro g1 cap1 w3 hown1 hgrow hat hlt3;have s2:=(hgrow.cell_far ⟨W.heap.size+1,0,none⟩ (show W.heap.size+1<_ by simp;omega) (fun e=>HNS.out e.symm)).trans (zaa s0 ((Below.refl _ V).drew.alloc (Qiz _) (.cells #[.int .i64 x.id] 3)));have s2f:w3.frozen? ⟨W.heap.size+1,0,none⟩=false:=(hgrow.frozen_far ⟨W.heap.size+1,0,none⟩ (show W.heap.size+1<_ by simp;omega) (fun e=>HNS.out e.symm)).trans ((World.frozen?_of_block (a:=⟨W.heap.size+1,0,none⟩) (((Below.refl _ V).drew.alloc (Qiz _) (.cells #[.int .i64 x.id] 3)).block _ hsV)).trans sf0))
      all_goals
       have hg1:g1=V.heap.size+1∨(Value.slice Ao os.length co).ownBlock=some g1:=hat.symm;have hg1':W.heap.size+2≤g1∧g1≠g:=by
        rcases hg1 with e|e
        ·constructor<;>omega
        ·exact⟨(HVBO.out _ e).1,fun q=>HDIS.out g1 e (by rw[q];rfl)⟩
       have own2:Own zfh 3 1 (W.heap.size+2) (fun _=>False) (.slice (some ⟨g1,0,none⟩) (os.length+1) cap1) ((os++[x]).map (·.id)) w3:=by
        rw[List.map_append];rw[hlo]at hown1;exact hown1
       have kV:Keep (fun b=>(Value.slice Ao os.length co).ownBlock≠some b) V w3:=((Keep.drew _ V).trans (Keep.alloc _ _ _)).trans (Keep.grown hgrow fun b hb e=>hb e.symm);have CS3:=(CSV.out.keep kV HNS.out).set 0 (by simp) (.slice (some ⟨g1,0,none⟩) (os.length+1) cap1);have CR3:=(CRV.out.keep kV HNR.out).other (b':=W.heap.size+1) (by omega) 0 (.slice (some ⟨g1,0,none⟩) (os.length+1) cap1);have z0l:=own2.setCell (p:=⟨W.heap.size+1,0,none⟩) (fun b hb=>hb.elim) (by simp[Value.ownBlock];omega) (.slice (some ⟨g1,0,none⟩) (os.length+1) cap1)
       have ownL:Own zfh 3 1 (W.heap.size+2) (fun _=>False) (.slice (some ⟨g,0,none⟩) ls.length cl) (ls.map (·.id)) w3:=HLV.out.keep (kV.mono fun b hb=>hb.elim) (fun k hk=>by
        cases hk;exact kV.2 g hgV (fun q=>HDIS.out g q rfl))
       have ownL3:=ownL.setCell (p:=⟨W.heap.size+1,0,none⟩) (fun b hb=>hb.elim) (by simp[Value.ownBlock];omega) (.slice (some ⟨g1,0,none⟩) (os.length+1) cap1);have bF:Below W.heap.size W (w3.setCell ⟨W.heap.size+1,0,none⟩ (.slice (some ⟨g1,0,none⟩) (os.length+1) cap1)):=
        ((bV.drew.alloc (by simpa using bV.size) _).grown hgrow (by simp;omega) (fun k' e=>by have:=(HVBO.out k' e).1;omega)).setCell (p:=⟨W.heap.size+1,0,none⟩) (by show W.heap.size≤W.heap.size+1;omega) _
       generalize w3.setCell ⟨W.heap.size+1,0,none⟩ (.slice (some ⟨g1,0,none⟩) (os.length+1) cap1)=W4 at CS3 CR3 z0l ownL3 bF ⊢;have HG1:=Qaz hg1';clear hg1 hg1' own2 kV ownL hown1 hgrow hat hlt3 s2 s2f;obtain⟨id4,hid4⟩:∃id4,ls.map (·.id)=id4:=⟨_,rfl⟩;rw[hid4]at HN5 ownL3;have HLI:Hid (id4.length=ls.length):=Qaz (by rw[←hid4,List.length_map]);clear hid4;have hzF:=bF.size;have hg4:g<W4.heap.size:=(ownL3.lt g rfl).2;have HC4:Hid (ls.length≤cl∧Held (fun b=>b=g) (Slc zfh 1 (some ⟨g,0,none⟩) id4) W4):=Qaz (by
        obtain⟨A',c',e',hc',k'⟩:=ownL3.out;simp only[Value.slice.injEq]at e';obtain⟨rfl,e2,rfl⟩:=e';exact⟨by omega,k'.mono fun b _ hb=>by rcases hb with hb|hb;exact hb.elim;exact(Option.some.inj hb).symm⟩)
       have hcl4:=HC4.out.1;have w4:i≤cl:=by omega
       have w5:(i:Int)+1≤(ls.length:Int):=by omega
       have w6:i+1≤ls.length:=by omega
       have w7:(i:Int)≤1000000:=by omega
       have w8:(i:Int)≤(i:Int)+1:=by omega
       have w9:(0:Int)≤(i:Int)+1:=by omega
       have w10:IntKind.i64.wrap ((i:Int)+1)=(i:Int)+1:=by rw[IntKind.wrap_i64];omega
       have w11:((i:Int)+1).toNat=i+1:=by omega
       have HSD:Hid (∀AD:Option Addr,(cl≠i+1→AD=some ⟨g,0+(i+1),none⟩)→Held (fun b=>b=g) (Slc zfh 1 AD (id4.drop (i+1))) W4):=Qaz (fun AD had=>by
        by_cases hcc:cl=i+1
        ·have:id4.drop (i+1)=[]:=List.drop_eq_nil_of_le (by have:=HLI.out;omega);rw[this];exact fun _ _=>Slc.nil _ _ _ _
        ·rw[had hcc];refine HC4.out.2.imp fun _ _ h=> ?_;have:=Slc.drop h (i+1)
         rwa [Nat.mul_one]at this)
       have HST:Hid (Held (fun b=>b=g) (Slc zfh 1 (some ⟨g,0,none⟩) (id4.take i)) W4):=Qaz (HC4.out.2.imp fun _ _ h=>Slc.take h i);have hlT:(id4.take i).length=i:=by rw[List.length_take,HLI.out];omega
       have hlD:(id4.drop (i+1)).length=ls.length-(i+1):=by rw[List.length_drop,HLI.out]
       have hl6:ls.length≤1000000:=by omega
       by_cases hcc:cl=i+1
       all_goals
        go_wp2_with (fail);have hE:Hid (Own zfh 3 1 (W.heap.size+2) (fun b=>b=g) (.slice (some ⟨W4.heap.size,0,none⟩) 0 0) [] (W4.drew.alloc (.cells #[] 3))):=Qaz (Own.empty zfh 3 1 (W.heap.size+2) (fun b=>b=g) W4.drew W4.heap.size rfl (by omega));have hS1:Hid (Held (fun b=>b=g) (Slc zfh 1 (some ⟨g,0,none⟩) (id4.take i)) (W4.drew.alloc (.cells #[] 3))):=Qaz (HST.out.keep ((Keep.drew _ _).trans (Keep.alloc _ _ _)));have hG1:Hid (∀b,b=g→(Value.slice (some ⟨W4.heap.size,0,none⟩) 0 0).ownBlock≠some b):=Qaz (fun b hb e=>by
         have:W4.heap.size=b:=Option.some.inj e;omega)
        have hG2:Hid (∀(v:Value)(n:Nat),W4.heap.size≤n→(v.ownBlock=(Value.slice (some ⟨W4.heap.size,0,none⟩) 0 0).ownBlock∨v.ownBlock=some n)→∀b,b=g→v.ownBlock≠some b):=Qaz (fun v n hn h b hb e=>by
         rcases h with h|h
         ·rw[h]at e;have:W4.heap.size=b:=Option.some.inj e;omega
         ·rw[h]at e;have:n=b:=Option.some.inj e;omega)
        have hS2:Hid (∀(w5:World)(row:Option Nat)(AD:Option Addr),(W4.drew.alloc (.cells #[] 3)).grownBy w5 row→(∀b,b=g→row≠some b)→(cl≠i+1→AD=some ⟨g,0+(i+1),none⟩)→Held (fun b=>b=g) (Slc zfh 1 AD (id4.drop (i+1))) w5):=Qaz (fun w5 row AD hg hr had=>
         (HSD.out AD had).keep (((Keep.drew _ _).trans (Keep.alloc _ _ _)).trans (Keep.grown hg fun b hb e=>hr b hb e.symm)))
        go_region_law (first
         |(refine zg2 zfh zul 3 1 (W.heap.size+2) 8 (fun b=>b=g) _ (by rfl) _ _ 27 _ (by rfl) Tryz.underlying27 zhu rfl (by decide) (by decide) (.slice (some ⟨W4.heap.size,0,none⟩) 0 0) [] (id4.take i) (by rfl) hE.out (some ⟨g,0,none⟩) _ i (by rfl) hlT.symm hS1.out hG1.out (by simp;omega) (by rw[hlT];simp;omega) ?_;intro v5 w5 hown5 hgr5 hat5)
         |(refine zg2 zfh zul 3 1 (W.heap.size+2) 8 (fun b=>b=g) _ (by rfl) _ _ 27 _ (by rfl) Tryz.underlying27 zhu rfl (by decide) (by decide) v5 ([]++id4.take i) (id4.drop (i+1)) (by rfl) hown5 _ _ _ (by rfl) (by first|exact hlD.symm|(rw[hlD];try rfl)) (hS2.out w5 _ _ hgr5 hG1.out (by first|exact fun _=>rfl|exact fun q=>absurd hcc q|(intro q;simp;done))) (hG2.out v5 _ (by simp) hat5) (by have:=hgr5.size;simp at this;omega) (by rw[List.nil_append,hlT,hlD];omega) ?_;intro v6 w6 hown6 hgr6 hat6))
        all_goals
         have z5:∀k,v5.ownBlock=some k→W4.heap.size≤k:=fun k e=>by
          rcases hat5 with q|q
          ·rw[q]at e;have:W4.heap.size=k:=Option.some.inj e;omega
          ·rw[q]at e;have:(W4.drew.alloc (.cells #[] 3)).heap.size=k:=Option.some.inj e;simp at this;omega
         have b4:Below W4.heap.size W4 w6:=by
          have h0:Below W4.heap.size W4 (W4.drew.alloc (.cells #[] 3)):=(Below.refl _ W4).drew.alloc (Qiz _) _;have h5:Below W4.heap.size W4 w5:=h0.grown hgr5 (by simp) (fun k e=>by have:W4.heap.size=k:=Option.some.inj e;omega);exact h5.grown hgr6 h5.size (fun k e=>z5 k e)
         have HVL:∀k,v6.ownBlock=some k→W4.heap.size≤k:=fun k e=>by
          rcases hat6 with q|q
          ·exact z5 k (q▸e)
          ·rw[q]at e;have:w5.heap.size=k:=Option.some.inj e;have:=hgr5.size;simp at this;omega
         have own6:Own zfh 3 1 (W.heap.size+2) (fun _=>False) v6 ((ls.eraseIdx i).map (·.id)) w6:=by
          rw[HN5.out];have:=zzu (G':=fun _=>False) hown6
          rwa [List.nil_append]at this
         have ownO:=z0l.all b4;have CS6:=CS3.all b4;have CR6:=CR3.all b4;have b6:=zab bF b4;have g14:=(z0l.lt g1 rfl).2;have h16:=own6.slLen;go_wp2;have hl1:(os++[x]).length=os.length+1:=by simp
         have ownO':Own zfh 3 1 (W.heap.size+2) (fun _=>False) (.slice (some ⟨g1,0,none⟩) (os++[x]).length cap1) ((os++[x]).map (·.id)) w6:=by rw[hl1];exact ownO
         have CS6':Cel (W.heap.size+1) [.slice (some ⟨g1,0,none⟩) (os++[x]).length cap1,.bool false,.slice none 0 0] w6:=by rw[hl1];exact CS6
         have hme:slLen v6<ls.length:=by rw[h16,List.length_map,HN3.out];omega
         go_roundw
         case rel=>((repeat apply Exists.intro);exact⟨⟨n',os++[x],ls.eraseIdx i,some ⟨g1,0,none⟩,cap1,ownO',own6,(fun b e q=>by have h1:g1=b:=Option.some.inj e;have:=HVL b q;omega),CS6',CR6,HN1.out,HN2.out,by rw[HN3.out];have:=HLNN.out;omega,by rw[HN3.out,hl1];have:=HLEN.out;omega,HN4.out,b6⟩,rfl⟩)
         case measure=>exact hme
    ·obtain rfl:ls=[]:=List.length_eq_zero_iff.1 (by omega);have hon:=zf4 (P:=P) (n:=n) (l:=[]) (by rfl);have HEQ:Hid (zcw l ts ms=(os,[])):=Qaz (by
      rw[HORD.out];have a1:=HE1.out;have a2:=HE2.out;rw[hon]at a1 a2;simp only[List.append_nil]at a1;exact Prod.ext a1.symm a2.symm)
     clear hon;obtain⟨Al,cl,rfl,_,_⟩:=HL.out.out;rw[List.map_nil,List.length_nil]at HL ⊢;have s0:=(CSR.out 0 _ rfl).1;have s1:=(CSR.out 1 _ rfl).1;have s2:=(CSR.out 2 _ rfl).1;have sf1:=(CSR.out 1 _ rfl).2;have sf2:=(CSR.out 2 _ rfl).2;have r0:=(CRR.out 0 _ rfl).1;have r1:=(CRR.out 1 _ rfl).1;have r2:=(CRR.out 2 _ rfl).1;have rf0:=(CRR.out 0 _ rfl).2;have rf1:=(CRR.out 1 _ rfl).2;have rf2:=(CRR.out 2 _ rfl).2;go_wp2;refine bodyPost_ret (v:=.agg #[.slice Ao os.length co,.bool false,.slice Al 0 cl]) (by simp[results,Tryz.results69,go_sem,s0,s1,s2,r0,r1,r2]) rfl ?_
     refine zyy HEQ.out HO.out HL.out (Qiz _) hb ?_ false rfl _ rfl;have k:∀(b j:Nat)(X:World)(u:Value),b=W.heap.size∨b=W.heap.size+1→Chg (fun b=>b=W.heap.size∨b=W.heap.size+1) X (X.setCell ⟨b,j,none⟩ u):=fun b j X u hb=>Chg.setCell X (p:=⟨b,j,none⟩) hb u;exact((((k _ _ _ _ (.inr rfl)).trans (k _ _ _ _ (.inr rfl))).trans (k _ _ _ _ (.inl rfl))).trans (k _ _ _ _ (.inl rfl))).trans (k _ _ _ _ (.inl rfl))
theorem zjl(AH:Option Addr)(cH:Nat)(l:List CI)(AT:Option Addr)(cT:Nat)(ts:List Tag)(a b:Meth)(Aa Ar Ba Br:Option Addr)(ca cr cb cq:Nat)(W:World)(hi:HiIn W AH cH l)(hT:∃G,Held G (Tags AT ts) W)(hts:ts.length≤1000000)(ha:MetIn W a Aa Ar ca cr)(hb:MetIn W b Ba Br cb cq):
  Calls Tryz.prog 33 #[.slice AH l.length cH,zie a b Aa Ar Ba Br ca cr cb cq,.slice AT ts.length cT] W fun e W'=>e=.returned (.bool (zji l a b ts))∧Below W.heap.size W W':=by
 obtain⟨Wb,hWb⟩:∃Wb,Wb=W.alloc (.cells #[.int .i64 a.id,.string a.lib,.slice Aa a.pars.length ca,.int .i64 a.result.kind,.string a.result.name,.int .i64 a.result.lo,.int .i64 a.result.hi,.slice Ar a.result.args.length cr,.int .i64 b.id,.string b.lib,.slice Ba b.pars.length cb,.int .i64 b.result.kind,.string b.result.name,.int .i64 b.result.lo,.int .i64 b.result.hi,.slice Br b.result.args.length cq] 70):=⟨_,rfl⟩
 obtain⟨W1,hW1⟩:∃W1,W1=Wb.alloc (.cells #[.int .i64 a.id,.string a.lib,.slice Aa a.pars.length ca,.int .i64 a.result.kind,.string a.result.name,.int .i64 a.result.lo,.int .i64 a.result.hi,.slice Ar a.result.args.length cr,.int .i64 b.id,.string b.lib,.slice Ba b.pars.length cb,.int .i64 b.result.kind,.string b.result.name,.int .i64 b.result.lo,.int .i64 b.result.hi,.slice Br b.result.args.length cq] 68):=⟨_,rfl⟩;have zb:Wb.heap.size=W.heap.size+1:=by rw[hWb];simp
 have b2:Below W.heap.size W Wb:=by rw[hWb];exact(Below.refl _ W).alloc (Qiz _) _
 have bb:Below Wb.heap.size Wb W1:=by rw[hW1];exact(Below.refl _ Wb).alloc (Qiz _) _
 have b1:Below W.heap.size W W1:=zab b2 bb;have CX:Hid (Cel W.heap.size [.int .i64 a.id,.string a.lib,.slice Aa a.pars.length ca,.int .i64 a.result.kind,.string a.result.name,.int .i64 a.result.lo,.int .i64 a.result.hi,.slice Ar a.result.args.length cr,.int .i64 b.id,.string b.lib,.slice Ba b.pars.length cb,.int .i64 b.result.kind,.string b.result.name,.int .i64 b.result.lo,.int .i64 b.result.hi,.slice Br b.result.args.length cq] W1):=Qaz (Cel.all (by rw[hWb];exact Cel.new W _ _ _ rfl) bb)
 have hrows:=zqv (R:=metR) (n:=Wb.heap.size) (w:=Wb) 68 rfl ((ha.keep b2).held) ((hb.keep b2).held) rfl rfl;have hM:Held (fun x=>x<Wb.heap.size+1) (Meths (some ⟨W.heap.size+1,0,none⟩) [a,b]) W1:=by rw[hW1,←zb];exact hrows
 have HAS:Hid (Asks AH cH l (some ⟨W.heap.size+1,0,none⟩) [a,b] AT ts W1):=Qaz ⟨(hi.keep b1).h,hi.hcH,hi.ol,hi.hl,⟨_,hM⟩,by simp,fun m hm=>by
   rcases List.mem_cons.1 hm with rfl|hm
   ·exact ha.hs
   ·rw[List.mem_singleton.1 hm];exact hb.hs,fun m hm=>by
   rcases List.mem_cons.1 hm with rfl|hm
   ·exact ha.hp
   ·rw[List.mem_singleton.1 hm];exact hb.hp,hT.imp fun _ h=>h.keep (Keep.all b1),hts⟩
 have HOP:=Qaz (zc7 AH cH l (some ⟨W.heap.size+1,0,none⟩) 2 [a,b] AT cT ts W1 HAS.out (by simp));have HAP:Hid (∀(m:Meth)(A1 A2:Option Addr)(c1 c2:Nat) V,Below W.heap.size W V→zaf l [a,b] ts=0→m∈[a,b]→MetIn W m A1 A2 c1 c2→Calls Tryz.prog 43 #[.slice AH l.length cH,zk2 m A1 c1 A2 c2,.slice AT ts.length cT] V fun e V'=>e=.returned (.bool (zde l ts m))∧Below V.heap.size V V'):=
  Qaz (fun m A1 A2 c1 c2 V hv hz hm hmi=>by
   obtain⟨z1,z2,z3,z4,z5,z6⟩:=za2 hz;exact zep AH cH l m A1 A2 c1 c2 AT cT ts V (hi.keep hv) (hmi.keep hv) (hT.imp fun _ h=>h.keep (Keep.all hv)) hts z1 (z5 m hm) ((zk6 hz HAS.out.hs fun _ h=>h).valid m hm) z6)
 have HPR:Hid (∀V,Below W.heap.size W V→zaf l [a,b] ts=0→Calls Tryz.prog 73 #[.slice AH l.length cH,zie a b Aa Ar Ba Br ca cr cb cq,.slice AT ts.length cT] V fun e V'=>e=.returned (.bool (zbs l ts a b))∧Below V.heap.size V V'):=
  Qaz (fun V hv hz=>by
   obtain⟨z1,z2,z3,z4,z5,z6⟩:=za2 hz;have hok:=(zk6 hz HAS.out.hs fun _ h=>h).valid;exact zed AH cH l z1 a b Aa Ar Ba Br ca cr cb cq AT cT ts V (hi.keep hv) (ha.keep hv) (hb.keep hv) (hT.imp fun _ h=>h.keep (Keep.all hv)) hts (z5 a (by simp)) (z5 b (by simp)) (hok a (by simp)) (hok b (by simp)))
 have HA:=Qaz ha;have HB:=Qaz hb;have HR:Hid (zji l a b ts=(decide (zaf l [a,b] ts=0)&&zde l ts a&&zde l ts b&&zbs l ts a b)):=Qaz rfl;clear hM hrows ha hb hi hT HAS b2 bb zb;have hsz:W.heap.size<Wb.heap.size:=by rw[hWb];simp
 unfold zie;subst hW1 hWb;go_enter Tryz.func33,Tryz.ntmps33;go_wp2_with (fail);refine HOP.out.mono ?_;clear HOP;rintro e V ⟨rfl,hbv⟩;by_cases hz:zaf l [a,b] ts=0;rotate_left
 ·have t1:(zaf l [a,b] ts != 0)=true:=by rw[bne_iff_ne];exact hz
  have HE:Hid (zji l a b ts=false):=Qaz (by rw[HR.out,Qgz hz];rfl);have q1:=zab b1 hbv;clear hz HAP HPR HR;generalize zaf l [a,b] ts=ce at t1;go_wp2;go_ret;exact⟨(by rw[HE.out];try rfl),q1⟩
 have HZ:=Qaz hz;have q1:=zab b1 hbv;rw[hz];clear hz;have HA1:=Qaz (HAP.out a Aa Ar ca cr V q1 HZ.out (by simp) HA.out);have c0:=(CX.out.all hbv 0 _ rfl).1;have c1:=(CX.out.all hbv 1 _ rfl).1;have c2:=(CX.out.all hbv 2 _ rfl).1;have c3:=(CX.out.all hbv 3 _ rfl).1;have c4:=(CX.out.all hbv 4 _ rfl).1;have c5:=(CX.out.all hbv 5 _ rfl).1;have c6:=(CX.out.all hbv 6 _ rfl).1;have c7:=(CX.out.all hbv 7 _ rfl).1;cases haa:zde l ts a with
 |false=>
  have HE:Hid (zji l a b ts=false):=Qaz (by rw[HR.out,haa];simp);rw[haa]at HA1;clear haa;go_wp2_with (fail);refine HA1.out.mono ?_;rintro e V2 ⟨rfl,hb2⟩;have q2:=zab q1 hb2;go_wp2;go_ret;exact⟨(by rw[HE.out];try rfl),q2⟩
 |true=>
 rw[haa]at HA1;have HAA:=Qaz haa;clear haa;go_wp2_with (fail);refine HA1.out.mono ?_;clear HA1;rintro e V2 ⟨rfl,hb2⟩;have q2:=zab q1 hb2;have hv2:=zab hbv hb2;have e8:=(CX.out.all hv2 8 _ rfl).1;have e9:=(CX.out.all hv2 9 _ rfl).1;have e10:=(CX.out.all hv2 10 _ rfl).1;have e11:=(CX.out.all hv2 11 _ rfl).1;have e12:=(CX.out.all hv2 12 _ rfl).1;have e13:=(CX.out.all hv2 13 _ rfl).1;have e14:=(CX.out.all hv2 14 _ rfl).1;have e15:=(CX.out.all hv2 15 _ rfl).1;have HB1:=Qaz (HAP.out b Ba Br cb cq V2 q2 HZ.out (by simp) HB.out);clear c0 c1 c2 c3 c4 c5 c6 c7;cases hbb:zde l ts b with
 |false=>
  have HE:Hid (zji l a b ts=false):=Qaz (by rw[HR.out,hbb];simp);rw[hbb]at HB1;clear hbb;go_wp2_with (fail);refine HB1.out.mono ?_;rintro e V3 ⟨rfl,hb3⟩;have q3:=zab q2 hb3;go_wp2;go_ret;exact⟨(by rw[HE.out];try rfl),q3⟩
 |true=>
 rw[hbb]at HB1;have HE:Hid (zji l a b ts=zbs l ts a b):=Qaz (by rw[HR.out,Qhz HZ.out,HAA.out,hbb];rfl);clear hbb HR;go_wp2_with (fail);refine HB1.out.mono ?_;clear HB1 e8 e9 e10 e11 e12 e13 e14 e15;rintro e V3 ⟨rfl,hb3⟩;have q3:=zab q2 hb3;have hv3:=zab hv2 hb3;have c0:=(CX.out.all hv3 0 _ rfl).1;have c1:=(CX.out.all hv3 1 _ rfl).1;have c2:=(CX.out.all hv3 2 _ rfl).1;have c3:=(CX.out.all hv3 3 _ rfl).1;have c4:=(CX.out.all hv3 4 _ rfl).1;have c5:=(CX.out.all hv3 5 _ rfl).1;have c6:=(CX.out.all hv3 6 _ rfl).1;have c7:=(CX.out.all hv3 7 _ rfl).1;have c8:=(CX.out.all hv3 8 _ rfl).1
 have c9:=(CX.out.all hv3 9 _ rfl).1;have c10:=(CX.out.all hv3 10 _ rfl).1;have c11:=(CX.out.all hv3 11 _ rfl).1;have c12:=(CX.out.all hv3 12 _ rfl).1;have c13:=(CX.out.all hv3 13 _ rfl).1;have c14:=(CX.out.all hv3 14 _ rfl).1;have c15:=(CX.out.all hv3 15 _ rfl).1;have HP1:=Qaz (HPR.out V3 q3 HZ.out);clear HPR HAP;generalize zbs l ts a b=pb at HP1 HE;go_wp2_with (fail);refine HP1.out.mono ?_;clear HP1;rintro e V4 ⟨rfl,hb4⟩;have q4:=zab q3 hb4;go_wp2;go_ret;exact⟨(by rw[HE.out];try rfl),q4⟩
end Go.Proofs.YtepnmejahbiacaaGreat
