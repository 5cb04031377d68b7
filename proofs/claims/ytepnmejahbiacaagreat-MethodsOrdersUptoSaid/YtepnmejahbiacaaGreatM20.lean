/- Part 20 of the proof: Cf, Sa, Sn, Pa. -/
import Derived.Test.YtepnmejahbiacaaGreatM19
set_option linter.unusedVariables false
set_option linter.unusedSimpArgs false
set_option maxHeartbeats 64000000
set_option maxRecDepth 100000
namespace Go.Proofs.YtepnmejahbiacaaGreat
open Go.RowKit
noncomputable def zc2 (l:List CI)(ms:List Meth)(ts:List Tag):Int×Int:=match (za4 l ms ts).1 with
 |x::_=>(x,0)
 | []=>if(za4 l ms ts).2=true then(0,2)else(0,1)
theorem zl7(AH:Option Addr)(cH:Nat)(l:List CI)(A:Option Addr)(c:Nat)(ms:List Meth)(AT:Option Addr)(cT:Nat)(ts:List Tag)(W:World)(q:Asks AH cH l A ms AT ts W):
  Calls Tryz.prog 28 #[.slice AH l.length cH,.slice A ms.length c,.slice AT ts.length cT] W fun e W'=>e=.returned (.tuple #[.int .i64 (zc2 l ms ts).1,.int .i64 (zc2 l ms ts).2])∧Below W.heap.size W W':=by
 have HC:=Qaz (zhz AH cH l A c ms AT cT ts W q);have hn:=q.hn;clear q;have HF:Hid (zc2 l ms ts=match (za4 l ms ts).1 with|x::_=>(x,0)| []=>if(za4 l ms ts).2=true then(0,2)else(0,1)):=Qaz rfl;generalize za4 l ms ts=r at HC HF;obtain⟨ids,amb⟩:=r;go_enter Tryz.func28,Tryz.ntmps28;go_wp2_with (fail);refine HC.out.mono ?_;clear HC;rintro e V ⟨v,rfl,hv,hbv⟩;obtain⟨A5,c5,rfl,hc5,hH⟩:=hv.out;cases ids with
 |nil=>
  cases amb with
  |true=>
   have H2:Hid (zc2 l ms ts=(0,2)):=Qaz HF.out;clear HF;go_wp2;go_ret2;exact⟨by rw[H2.out];rfl,hbv⟩
  |false=>
   have H2:Hid (zc2 l ms ts=(0,1)):=Qaz HF.out;clear HF;go_wp2;go_ret2;exact⟨by rw[H2.out];rfl,hbv⟩
 |cons x r=>
  have H2:Hid (zc2 l ms ts=(x,0)):=Qaz HF.out;obtain⟨b,off,rfl⟩:=Slc.addrH hH (by simp);obtain⟨cs,_,hr,hc⟩:=Slc.atH hH (by decide) (k:=0) (x:=x) rfl;obtain rfl:cs=[.int .i64 x]:=hr.now;have g0:V.cell? ⟨b,off,none⟩=some (.int .i64 x):=by simpa using(hc 0 _ rfl).now
  have hl0:(0:Int)<((x::r).length:Int):=by simp
  clear HF hc hr hH hv;go_wp2;go_ret2;exact⟨by rw[H2.out];rfl,hbv⟩
theorem zy3{base:Nat}{w:World}{a b x y:Int}(T:TypeId)(hb:base≤w.heap.size)(hx:x=min a b)(hy:y=max a b):Own zfh T 1 base (fun _=>False) (.slice (some ⟨w.heap.size,0,none⟩) 2 2) [min a b,max a b] (w.alloc (.cells #[.int .i64 x,.int .i64 y] T)):=by
 subst hx hy;refine⟨[.int .i64 (min a b),.int .i64 (max a b)],⟨by simp,.inr ⟨_,2,#[.int .i64 (min a b),.int .i64 (max a b)],rfl,hb,heap_alloc_new w _,Qiz _,by simp[maxLen],by simp,by simp⟩⟩,?_⟩;have h1:=Enc.snoc (Enc.nil (R:=fun x ds=>Held (fun _=>False) (zfh x ds) (w.alloc (.cells #[.int .i64 (min a b),.int .i64 (max a b)] T))) (sz:=1)) (x:=min a b) (cs:=[.int .i64 (min a b)]) (fun _ _=>rfl) rfl;have h2:=Enc.snoc h1 (x:=max a b) (cs:=[.int .i64 (max a b)]) (fun _ _=>rfl) rfl;exact h2
def zqi(P:Meth→Meth→Bool)(l:List Meth)(a b:Meth):Prop:=∃i k:Nat,k<i∧l[i]? =some a∧l[k]? =some b∧P a b=false∧P b a=false
def zj0(l:List CI)(ms:List Meth)(ts:List Tag)(W:World)(e:Ending)(W':World):Prop:=
 Below W.heap.size W W'∧((zaf l ms ts≠0∧e=.returned (.tuple #[.slice none 0 0,.int .i64 (zaf l ms ts)]))∨
  (zaf l ms ts=0∧(((∀a b,¬zqi (zbs l ts) (zcw l ts ms).2 a b)∧e=.returned (.tuple #[.slice none 0 0,.int .i64 3]))∨
   ∃a b v,zqi (zbs l ts) (zcw l ts ms).2 a b∧e=.returned (.tuple #[v,.int .i64 0])∧Own zfh 3 1 W.heap.size (fun _=>False) v [min a.id b.id,max a.id b.id] W')))
theorem zhl(AH:Option Addr)(cH:Nat)(l:List CI)(A:Option Addr)(c:Nat)(ms:List Meth)(AT:Option Addr)(cT:Nat)(ts:List Tag)(W:World)(q:Asks AH cH l A ms AT ts W):
  Calls Tryz.prog 30 #[.slice AH l.length cH,.slice A ms.length c,.slice AT ts.length cT] W (zj0 l ms ts W):=by
 have HC:=Qaz (zjt AH cH l A c ms AT cT ts W q);obtain⟨GH,h⟩:=q.h;obtain⟨GM,hM⟩:=q.hM;obtain⟨GT,hT⟩:=q.hT;have HOR:Hid (∀V cp A2 c2,Below W.heap.size W V→zaf l ms ts=0→OpenAt cp AH cH l AT cT ts A2 c2 V→Calls Tryz.prog 61 #[.pointer (some ⟨cp,0,none⟩),.slice A ms.length c] V fun e W'=>∃v1 v2,e=.returned (.tuple #[v1,v2])∧Own metR 68 8 V.heap.size (fun b=>b<V.heap.size) v1 (zcw l ts ms).1 W'∧
   Own metR 68 8 V.heap.size (fun b=>b<V.heap.size) v2 (zcw l ts ms).2 W'∧Below V.heap.size V W'):=
  Qaz (fun V cp A2 c2 hv he ho=>by
   obtain⟨z1,z2,z3,z4,z5,z6⟩:=za2 he;exact zi1 cp AH cH l AT cT ts A2 c2 V ho GH (h.keep (Keep.all hv)) q.hcH q.hl q.ol (fun t _=>zeq z1 t) q.hts GT (hT.keep (Keep.all hv)) A c ms GM (hM.keep (Keep.all hv)) q.hn z5 q.hs)
 obtain⟨P,hP⟩:∃P,P=zbs l ts:=⟨_,rfl⟩;have HPR:Hid (∀(cp:Nat)(A2:Option Addr)(c2:Nat)(a b:Meth)(Aa Ar Ba Br:Option Addr)(ca cr cb cq:Nat)(V:World),OpenAt cp AH cH l AT cT ts A2 c2 V→Below W.heap.size W V→zaf l ms ts=0→a∈ms→b∈ms→(∃G,Held G (Pars Aa a.pars) V)→(∃G,Held G (Pars Ba b.pars) V)→
   Calls Tryz.prog 70 #[.pointer (some ⟨cp,0,none⟩),zk2 a Aa ca Ar cr,zk2 b Ba cb Br cq] V fun e V'=>e=.returned (.bool (P a b))∧Below V.heap.size V V'):=
  Qaz (fun cp A2 c2 a b Aa Ar Ba Br ca cr cb cq V ho hv he ha hb ⟨Ga,h1⟩ ⟨Gb,h2⟩=>by
   obtain⟨z1,z2,z3,z4,z5,z6⟩:=za2 he;rw[hP];exact zfg cp AH cH l AT cT ts A2 c2 V ho GH (h.keep (Keep.all hv)) q.hl q.ol (fun t _=>zeq z1 t) q.hts a b Aa Ar Ba Br ca cr cb cq Ga Gb h1 h2 (z5 a ha) (z5 b hb) (q.hs a ha) (q.hs b hb))
 have HPP:=Qaz hP;have hn:=q.hn;have HL:=Qaz (zks l ts ms);have HMEM:Hid (∀m∈(zcw l ts ms).2,m∈ms):=Qaz (fun m hm=>by
  have h1:=zd4 (P:=zbs l ts) (ms.filter (zde l ts)).length (ms.filter (zde l ts));exact(List.mem_filter.1 (h1.mem_iff.1 (List.mem_append.2 (.inr hm)))).1)
 clear h hM hT q hP;go_enter Tryz.func30,Tryz.ntmps30;go_wp2_with (fail);refine HC.out.mono ?_;clear HC;rintro e V ⟨hbv,(⟨hz,rfl⟩|⟨hz,cp,A2,c2,rfl,hcp,ho⟩)⟩
 ·have t1:(zaf l ms ts != 0)=true:=by rw[bne_iff_ne];exact hz
  have HZ:=Qaz hz;clear hz HOR HPR;go_wp2;go_ret2;exact⟨hbv,.inl ⟨HZ.out,rfl⟩⟩
 ·have HO2:=Qaz (HOR.out V cp A2 c2 hbv hz ho);have HZ:=Qaz hz;clear HOR hz;go_wp2_with (fail);refine HO2.out.mono ?_;clear HO2;rintro e V2 ⟨v1,v2,rfl,h1,h2,hb2⟩;have bV2:=hbv.trans (hb2.mono hbv.size);have ho2:=ho.keep hb2;clear h1 ho;obtain⟨ls,hls⟩:∃ls,ls=(zcw l ts ms).2:=⟨_,rfl⟩;have HLS:=Qaz hls;rw[←hls]at h2 HMEM;have hln:ls.length≤1000000:=by rw[hls];have:=HL.out.2;omega
  clear hls;obtain⟨A6,c6,rfl,hc6,_⟩:=h2.out;go_wp2_with (fail)
  go_loopw [34] (fun i wr=>∃k:Nat,k≤ls.length∧i=.int .i64 k∧(∀j p a b,j<k→p<j→ls[j]? =some a→ls[p]? =some b→¬(P a b=false∧P b a=false))∧Below V2.heap.size V2 wr) (fun i _=>ls.length-(intOf i).toNat)
  case atStart=>exact⟨0,Qjz _,rfl,fun j p a b hj=>absurd hj (by omega),Below.refl _ _⟩
  case round=>
   obtain⟨k,hk,rfl,hok,hbr⟩:=hrel;have HOK:=Qaz hok;clear hok;by_cases hkl:k<ls.length
   ·obtain⟨g,cl,e0,hgb,hgl⟩:=h2.form (by omega);simp only[Value.slice.injEq]at e0;obtain⟨rfl,_,rfl⟩:=e0;have hx:ls[k]? =some ls[k]:=Qbz hkl;generalize ls[k]=a at hx;have HX:=Qaz hx;obtain⟨A1,c1,A3,c3,p1,p2,p3,p4,f0,f1,f2,f3,f4,f5,f6,f7⟩:=OwnMet.at (h2.all hbr) hx;clear hx;have hkc:k≤c6:=by omega
    go_wp2_with (fail);obtain⟨W1,hW1⟩:∃W1,W1=wr.alloc (.cells #[.int .i64 a.id,.string a.lib,.slice A1 a.pars.length c1,.int .i64 a.result.kind,.string a.result.name,.int .i64 a.result.lo,.int .i64 a.result.hi,.slice A3 a.result.args.length c3] 68):=⟨_,rfl⟩;rw[←hW1];have b1:Below wr.heap.size wr W1:=by rw[hW1];exact(Below.refl _ wr).alloc (Qiz _) _
    have xm:∀j u,[Value.int .i64 a.id,.string a.lib,.slice A1 a.pars.length c1,.int .i64 a.result.kind,.string a.result.name,.int .i64 a.result.lo,.int .i64 a.result.hi,.slice A3 a.result.args.length c3][j]? =some u→W1.cell? ⟨wr.heap.size,j,none⟩=some u:=fun j u hj=>by rw[hW1];exact zac wr _ _ _ rfl j u hj
    have XM:=Qaz xm;clear hW1 f0 f1 f2 f3 f4 f5 f6 f7 xm;have bo1:Below V2.heap.size V2 W1:=hbr.trans (b1.mono hbr.size);have p2':=p2.keep (Keep.all b1);obtain⟨ab,hab⟩:∃ab,ab=wr.heap.size:=⟨_,rfl⟩;rw[←hab]at XM ⊢;clear hab p2
    go_loopw [43] (fun i w3=>∃j:Nat,j≤k∧i=.int .i64 j∧(∀p b,p<j→ls[p]? =some b→¬(P a b=false∧P b a=false))∧Below W1.heap.size W1 w3) (fun i _=>k-(intOf i).toNat)
    case atStart=>exact⟨0,Qjz _,rfl,fun p b hj=>absurd hj (by omega),Below.refl _ _⟩
    case round=>
     obtain⟨j,hj,rfl,hgood,hb3⟩:=hrel;have HG:=Qaz hgood;clear hgood;have bo3:Below V2.heap.size V2 wr:=bo1.trans (hb3.mono bo1.size);have bW3:Below W.heap.size W wr:=bV2.trans (bo3.mono bV2.size);by_cases hjl:j<k
     ·have hy:ls[j]? =some ls[j]:=Qbz (by omega);generalize ls[j]=b at hy;have HY:=Qaz hy;obtain⟨B1,d1,B3,d3,q1,q2,q3,q4,g0,g1,g2,g3,g4,g5,g6,g7⟩:=OwnMet.at (h2.all bo3) hy;have m0:=zaa (XM.out 0 _ rfl) hb3;have m1:=zaa (XM.out 1 _ rfl) hb3;have m2:=zaa (XM.out 2 _ rfl) hb3;have m3:=zaa (XM.out 3 _ rfl) hb3;have m4:=zaa (XM.out 4 _ rfl) hb3;have m5:=zaa (XM.out 5 _ rfl) hb3;have m6:=zaa (XM.out 6 _ rfl) hb3;have m7:=zaa (XM.out 7 _ rfl) hb3;clear hy;have habl:ab<wr.heap.size:=cell_lt m0
      obtain⟨W4,hW4⟩:∃W4,W4=wr.alloc (.cells #[.int .i64 b.id,.string b.lib,.slice B1 b.pars.length d1,.int .i64 b.result.kind,.string b.result.name,.int .i64 b.result.lo,.int .i64 b.result.hi,.slice B3 b.result.args.length d3] 68):=⟨_,rfl⟩;have bal:Below wr.heap.size wr W4:=by rw[hW4];exact(Below.refl _ wr).alloc (Qiz _) _
      have HPC:=Qaz (fun V (hv:Below wr.heap.size wr V)=>HPR.out cp A2 c2 a b A1 A3 B1 B3 c1 c3 d1 d3 V (ho2.keep (bo3.trans (hv.mono bo3.size))) (bW3.trans (hv.mono bW3.size)) HZ.out (HMEM.out a (Qdz HX.out)) (HMEM.out b (Qdz HY.out)) ⟨_,(p2'.keep (Keep.all hb3)).keep (Keep.all hv)⟩ ⟨_,q2.keep (Keep.all hv)⟩)
      have HPD:=Qaz (fun V (hv:Below wr.heap.size wr V)=>HPR.out cp A2 c2 b a B1 B3 A1 A3 d1 d3 c1 c3 V (ho2.keep (bo3.trans (hv.mono bo3.size))) (bW3.trans (hv.mono bW3.size)) HZ.out (HMEM.out b (Qdz HY.out)) (HMEM.out a (Qdz HX.out)) ⟨_,q2.keep (Keep.all hv)⟩ ⟨_,(p2'.keep (Keep.all hb3)).keep (Keep.all hv)⟩)
      have xb:∀j u,[Value.int .i64 b.id,.string b.lib,.slice B1 b.pars.length d1,.int .i64 b.result.kind,.string b.result.name,.int .i64 b.result.lo,.int .i64 b.result.hi,.slice B3 b.result.args.length d3][j]? =some u→W4.cell? ⟨wr.heap.size,j,none⟩=some u:=fun j u hj=>by rw[hW4];exact zac wr _ _ _ rfl j u hj
      have XB:=Qaz xb;have HM4:=Qaz (fun j u hj=>zaa (zaa (XM.out j u hj) hb3) bal);have fin:∀V,Below wr.heap.size wr V→¬(P a b=false∧P b a=false)→∃j':Nat,j'≤k∧Value.int .i64 ((j:Int)+1)=.int .i64 j'∧(∀p b,p<j'→ls[p]? =some b→¬(P a b=false∧P b a=false))∧Below W1.heap.size W1 V:=fun V hv hne=>
       ⟨j+1,by omega,by go_num,fun p b' hp hb'=>by
        rcases Nat.lt_or_ge p j with z|z
        ·exact HG.out p b' z hb'
        ·obtain rfl:p=j:=by omega
         rw[HY.out]at hb';cases hb';exact hne,hb3.trans (hv.mono hb3.size)⟩
      have HFI:=Qaz fin;clear fin xb;cases hab:P a b with
      |true=>
       rw[hab]at HPC;have HNE:Hid (¬(P a b=false∧P b a=false)):=Qaz (fun e=>by rw[hab]at e;cases e.1);clear hab HPD;go_wp2_with (fail);rw[←hW4];refine(HPC.out _ bal).mono ?_;clear HPC;rintro e V5 ⟨rfl,hb5⟩;go_wp2;refine⟨HFI.out V5 (bal.trans (hb5.mono bal.size)) HNE.out,by simp[intOf];omega⟩
      |false=>
       rw[hab]at HPC;have HAB:=Qaz hab;cases hba:P b a with
       |true=>
        rw[hba]at HPD;have HNE:Hid (¬(P a b=false∧P b a=false)):=Qaz (fun e=>by rw[hba]at e;cases e.2);clear hab hba;go_wp2_with (fail);rw[←hW4];refine(HPC.out _ bal).mono ?_;clear HPC;rintro e V5 ⟨rfl,hb5⟩;have n0:=zaa (XB.out 0 _ rfl) hb5;have n1:=zaa (XB.out 1 _ rfl) hb5;have n2:=zaa (XB.out 2 _ rfl) hb5;have n3:=zaa (XB.out 3 _ rfl) hb5;have n4:=zaa (XB.out 4 _ rfl) hb5;have n5:=zaa (XB.out 5 _ rfl) hb5;have n6:=zaa (XB.out 6 _ rfl) hb5;have n7:=zaa (XB.out 7 _ rfl) hb5;have o0:=zaa (HM4.out 0 _ rfl) hb5;have o1:=zaa (HM4.out 1 _ rfl) hb5;have o2:=zaa (HM4.out 2 _ rfl) hb5
        have o3:=zaa (HM4.out 3 _ rfl) hb5;have o4:=zaa (HM4.out 4 _ rfl) hb5;have o5:=zaa (HM4.out 5 _ rfl) hb5;have o6:=zaa (HM4.out 6 _ rfl) hb5;have o7:=zaa (HM4.out 7 _ rfl) hb5;have b5:=bal.trans (hb5.mono bal.size);go_wp2_with (fail);refine(HPD.out V5 b5).mono ?_;clear HPD n0 n1 n2 n3 n4 n5 n6 n7 o0 o1 o2 o3 o4 o5 o6 o7;rintro e V6 ⟨rfl,hb6⟩;have b6:=b5.trans (hb6.mono b5.size);go_wp2;refine⟨HFI.out V6 b6 HNE.out,by simp[intOf];omega⟩
       |false=>
        rw[hba]at HPD;have HBA:=Qaz hba;clear hab hba;go_wp2_with (fail);rw[←hW4];refine(HPC.out _ bal).mono ?_;clear HPC;rintro e V5 ⟨rfl,hb5⟩;have n0:=zaa (XB.out 0 _ rfl) hb5;have n1:=zaa (XB.out 1 _ rfl) hb5;have n2:=zaa (XB.out 2 _ rfl) hb5;have n3:=zaa (XB.out 3 _ rfl) hb5;have n4:=zaa (XB.out 4 _ rfl) hb5;have n5:=zaa (XB.out 5 _ rfl) hb5;have n6:=zaa (XB.out 6 _ rfl) hb5;have n7:=zaa (XB.out 7 _ rfl) hb5;have o0:=zaa (HM4.out 0 _ rfl) hb5;have o1:=zaa (HM4.out 1 _ rfl) hb5;have o2:=zaa (HM4.out 2 _ rfl) hb5;have o3:=zaa (HM4.out 3 _ rfl) hb5;have o4:=zaa (HM4.out 4 _ rfl) hb5
        have o5:=zaa (HM4.out 5 _ rfl) hb5;have o6:=zaa (HM4.out 6 _ rfl) hb5;have o7:=zaa (HM4.out 7 _ rfl) hb5;have b5:=bal.trans (hb5.mono bal.size);go_wp2_with (fail);refine(HPD.out V5 b5).mono ?_;clear HPD n0 n1 n2 n3 n4 n5 n6 n7 o0 o1 o2 o3 o4 o5 o6 o7;rintro e V6 ⟨rfl,hb6⟩;have b6:=b5.trans (hb6.mono b5.size);have n0:=zaa (zaa (XB.out 0 _ rfl) hb5) hb6;have o0:=zaa (zaa (HM4.out 0 _ rfl) hb5) hb6;have HCL:Hid (zqi (zbs l ts) (zcw l ts ms).2 a b):=Qaz ⟨k,j,hjl,by rw[←HLS.out];exact HX.out,by rw[←HLS.out];exact HY.out,by rw[←HPP.out];exact HAB.out,by rw[←HPP.out];exact HBA.out⟩
        have bF:=bW3.trans (b6.mono bW3.size);go_wp2
        all_goals
         go_ret2;refine⟨bF.alloc bF.size _,.inr ⟨HZ.out,.inr ⟨a,b,_,HCL.out,rfl,?_⟩⟩⟩;exact zy3 _ bF.size (by omega) (by omega)
     ·obtain rfl:j=k:=by omega
      go_wp2;refine⟨⟨j+1,by omega,by go_num,fun i p a' b' hi hp h1 h2'=> ?_,bo3⟩,by simp[intOf];omega⟩;rcases Nat.lt_or_ge i j with z|z
      ·exact HOK.out i p a' b' z hp h1 h2'
      ·obtain rfl:i=j:=by omega
       rw[HX.out]at h1;cases h1
       exact HG.out p b' hp h2'
   ·obtain rfl:k=ls.length:=by omega
    have HNC:Hid (∀a b,¬zqi (zbs l ts) (zcw l ts ms).2 a b):=Qaz (by
     rintro a b ⟨i,p,hp,h1,h2,h3,h4⟩;rw[←HLS.out]at h1 h2;rw[←HPP.out]at h3 h4;exact HOK.out i p a b (Qcz h1).1 hp h1 h2 ⟨h3,h4⟩)
    have bf:=bV2.trans (hbr.mono bV2.size);go_wp2;go_ret2;exact⟨bf,.inr ⟨HZ.out,.inl ⟨HNC.out,rfl⟩⟩⟩
def z2e(l:List CI)(ts:List Tag)(m:Meth):Bool:=(List.range m.pars.length).all fun i=>match m.pars[i]?,ts[i]? with
 |some p,some t=>zbx l t p.type
 |_,_=>true
theorem z0v{l:List CI}{ts:List Tag}{m:Meth}(hL:zai l)(ht:∀t∈ts,zbt l t=true)(hv:∀p∈m.pars,zaj l p.type=0):zde l ts m=z2e l ts m:=by
 cases hc:z2e l ts m with
 |true=>
  refine zim fun i p t hp htt=> ?_;have:=List.all_eq_true.1 hc i (List.mem_range.2 (Qcz hp).1);rw[hp,htt]at this;exact⟨hL,ht t (Qdz htt),hv p (Qdz hp),this⟩
 |false=>
  refine zg6 fun hA=> ?_;obtain⟨i,hi,e⟩:=List.all_eq_false.1 hc;have hi':=List.mem_range.1 hi;rw[Qbz hi']at e;cases ht2:ts[i]? with
  |none=>rw[ht2]at e;simp at e
  |some t=>
   rw[ht2]at e;exact e (hA i _ t (Qbz hi') ht2).2.2.2
def zr8(l:List CI)(ms:List Meth)(ts:List Tag):List Meth×List Meth:=zbu (zbs l ts) (ms.filter (z2e l ts)).length (ms.filter (z2e l ts))
def z3g(l:List CI)(ms:List Meth)(ts:List Tag):Bool:=decide (ms.length≤300)&&zcs l ms&&decide (ts.length≤6)&&(decide (ms.length=0)||decide ((ms[0]?.map fun m=>m.pars.length).getD 0=ts.length))&&ts.all (zbt l)
theorem zkq{l:List CI}{ms:List Meth}{ts:List Tag}(hL:zai l)(h:z3g l ms ts=true):zaf l ms ts=0:=by
 unfold z3g at h;simp only[Bool.and_eq_true,Bool.or_eq_true,decide_eq_true_eq]at h;obtain⟨⟨⟨⟨h1,h2⟩,h3⟩,h4⟩,h5⟩:=h;rw[zc1 hL (by omega) (by
  rintro(q|q|⟨q,q2⟩)
  ·rw[h2]at q;cases q
  ·omega
  ·rcases h4 with h4|h4
   ·omega
   ·exact q2 h4),h5];rfl
theorem ztk{l:List CI}{ms:List Meth}(h:zcs l ms=true):∀m∈ms,∀p∈m.pars,zaj l p.type=0:=fun m hm p hp=>by
 unfold zcs at h;rw[Bool.and_eq_true]at h;have:=List.all_eq_true.1 h.2 m hm;unfold zeg at this;rw[Bool.and_eq_true]at this;have:=List.all_eq_true.1 this.2 p hp
 simpa using this
theorem zs4{l:List CI}{ms:List Meth}{ts:List Tag}(hz:zaf l ms ts=0):zcw l ts ms=zr8 l ms ts:=by
 obtain⟨h1,_,h3,_,_,h6⟩:=za2 hz;have e:ms.filter (zde l ts)=ms.filter (z2e l ts):=List.filter_congr fun m hm=>z0v h1 h6 (ztk h3 m hm);unfold zcw zr8;rw[e]
theorem zi3{l:List CI}{ms:List Meth}{ts:List Tag}(hz:zaf l ms ts=0):za4 l ms ts=((zr8 l ms ts).1.map (·.id),decide (0<(zr8 l ms ts).2.length)):=by
 unfold za4;rw[if_pos hz,zs4 hz]
def zqf:Tag:=⟨5,0,nC⟩
def z2v:Tag:=⟨1,5,⟨#[]⟩⟩
def z15:Tag:=⟨2,1,⟨#[]⟩⟩
def mA:Meth:=zp2 0 (zkk nA)
def mB:Meth:=zp2 1 (zkk nB)
def mO:Meth:=zp2 2 (zkk zcq)
def tyU:Ty:=.mk 5 ⟨#[]⟩ 0 0 [zkk nA,zkk zal]
def mU:Meth:=zp2 3 tyU
theorem z3s:zaf h3L [mA,mB,mO] [zqf]=0:=zkq zu1 (by kernel_rfl)
theorem z2z:zaf h3L [mB,mU] [zqf]=0:=zkq zu1 (by kernel_rfl)
theorem z3u:zaf h3L [mO,mU] [z2v]=0:=zkq zu1 (by kernel_rfl)
theorem z3z:zaf h3L [mA] [z15]=0:=zkq zu1 (by kernel_rfl)
theorem ex1:za4 h3L [mA,mB,mO] [zqf]=([0,1,2],false):=by rw[zi3 z3s];kernel_rfl
theorem ex2:za4 h3L [mB,mU] [zqf]=([],true):=by rw[zi3 z2z];kernel_rfl
theorem ex3:za4 h3L [mO,mU] [z2v]=([3,2],false):=by rw[zi3 z3u];kernel_rfl
theorem ex4:zc2 h3L [mA] [z15]=(0,1):=by
 have:za4 h3L [mA] [z15]=([],false):=by rw[zi3 z3z];kernel_rfl
 unfold zc2;rw[this];rfl
theorem z3k:(zr8 h3L [mB,mU] [zqf]).2=[mB,mU]:=by kernel_rfl
theorem z3h:zbs h3L [zqf] mB mU=false∧zbs h3L [zqf] mU mB=false:=⟨by kernel_rfl,by kernel_rfl⟩
theorem z3w{a b:Meth}(h:zqi (zbs h3L [zqf]) (zcw h3L [zqf] [mB,mU]).2 a b):min a.id b.id=1∧max a.id b.id=3:=by
 rw[zs4 z2z,z3k]at h;obtain⟨i,k,hk,h1,h2,_,_⟩:=h
 match i,k with
 |0,_=>omega
 |1,0=>cases h1;cases h2;exact⟨rfl,rfl⟩
 |1,_+1=>omega
 |_+2,_=>simp at h1
theorem z3v:zqi (zbs h3L [zqf]) (zcw h3L [zqf] [mB,mU]).2 mU mB:=by
 rw[zs4 z2z,z3k];exact⟨1,0,by omega,rfl,rfl,z3h.2,z3h.1⟩
theorem zh2(n:ByteArray):TySmall (zkk n):=⟨rfl,by show(zkk n).count≤_;simp[zkk,Ty.count,Ty.counts]⟩
theorem zxo:TySmall tyU:=⟨rfl,by show tyU.count≤_;simp[tyU,zkk,Ty.count,Ty.counts]⟩
theorem Own.ofEnc{α:Type}{R:α→List Value→World→Prop}{sz n:Nat}{G:Nat→Prop}{L:List α}{xs:List Value}{w:World}(T:TypeId)(hn:n=w.heap.size)(he:Enc (fun x cs=>Held G (R x cs) w) sz L xs)(hl:L.length≤1000000):
  Own R T sz n G (.slice (some ⟨n,0,none⟩) L.length L.length) L (w.alloc (.cells xs.toArray T)):=by
 subst hn;refine⟨xs,⟨he.length,.inr ⟨_,L.length,xs.toArray,rfl,Qiz _,heap_alloc_new w _,Qiz _,by simp only[maxLen];omega,by simp[he.length],by simp[←he.length]⟩⟩,he.imp fun x cs hx=>hx.keep (Keep.alloc _ _ _)⟩
theorem zzi{α:Type}{R:α→List Value→World→Prop}{sz n:Nat}{G:Nat→Prop}{L:List α}{xs:List Value}{w:World}(T:TypeId)(hn:n=w.heap.size)(he:Enc (fun x cs=>Held G (R x cs) w) sz L xs)(hl:L.length≤1000000):Held (fun b=>b<n+1) (Slc R sz (some ⟨n,0,none⟩) L) (w.alloc (.cells xs.toArray T)):=
 (Own.read (Own.ofEnc T hn he hl)).2.2.mono fun b hb _=>by subst hn;simpa using hb
theorem zz7{α:Type}{R:α→List Value→World→Prop}{sz n:Nat}{G:Nat→Prop}{x:α}{cx:List Value}{w:World}(T:TypeId)(hn:n=w.heap.size)(hx:Held G (R x cx) w)(lx:cx.length=sz):Held (fun b=>b<n+1) (Slc R sz (some ⟨n,0,none⟩) [x]) (w.alloc (.cells cx.toArray T)):=by
 have:=zzi T hn (Enc.snoc Enc.nil hx lx) (by simp)
 simpa using this
theorem zqv{α:Type}{R:α→List Value→World→Prop}{sz n:Nat}{G:Nat→Prop}{x y:α}{cx cy:List Value}{w:World}(T:TypeId)(hn:n=w.heap.size)(hx:Held G (R x cx) w)(hy:Held G (R y cy) w)(lx:cx.length=sz)(ly:cy.length=sz):Held (fun b=>b<n+1) (Slc R sz (some ⟨n,0,none⟩) [x,y]) (w.alloc (.cells (cx++cy).toArray T)):=by
 have:=zzi T hn (Enc.snoc (Enc.snoc Enc.nil hx lx) hy ly) (by simp)
 simpa using this
theorem z2l{α:Type}{R:α→List Value→World→Prop}{sz n:Nat}{G:Nat→Prop}{x y z:α}{cx cy cz:List Value}{w:World}(T:TypeId)(hn:n=w.heap.size)(hx:Held G (R x cx) w)(hy:Held G (R y cy) w)(hz:Held G (R z cz) w)(lx:cx.length=sz)(ly:cy.length=sz)(lz:cz.length=sz):Held (fun b=>b<n+1) (Slc R sz (some ⟨n,0,none⟩) [x,y,z]) (w.alloc (.cells (cx++cy++cz).toArray T)):=by
 have:=zzi T hn (Enc.snoc (Enc.snoc (Enc.snoc Enc.nil hx lx) hy ly) hz lz) (by simp)
 simpa using this
theorem zw7(ms:List Meth)(t:Tag)(l:List Int)(b:Bool)(hr:za4 h3L ms [t]=(l,b))(A:Option Addr)(c:Nat)(AM:Option Addr)(cM:Nat)(AT:Option Addr)(cT:Nat)(W:World)(q:Asks A c h3L AM ms AT [t] W):
  Calls Tryz.prog 26 #[.slice A h3L.length c,.slice AM ms.length cM,.slice AT [t].length cT] W fun e W'=>∃A' c',e=.returned (.tuple #[.slice A' l.length c',.bool b])∧Held (fun b=>b<W'.heap.size) (Ints A' l) W'∧Below W.heap.size W W':=by
 have:=zhz A c h3L AM cM ms AT cT [t] W q;rw[hr]at this;refine this.mono ?_;rintro e W' ⟨v,rfl,ho,hb⟩;obtain⟨A',c',rfl,_,h2⟩:=ho.out;exact⟨A',c',rfl,h2.mono fun b hb _=>hb,hb⟩
theorem z2m(A:Option Addr)(c:Nat)(AM:Option Addr)(cM:Nat)(AT:Option Addr)(cT:Nat)(W:World)(q:Asks A c h3L AM [mA] AT [z15] W):
  Calls Tryz.prog 28 #[.slice A h3L.length c,.slice AM 1 cM,.slice AT 1 cT] W fun e W'=>e=.returned (.tuple #[.int .i64 0,.int .i64 1])∧Below W.heap.size W W':=by
 have:=zl7 A c h3L AM cM [mA] AT cT [z15] W q;rw[ex4]at this;exact this
theorem z2o(A:Option Addr)(c:Nat)(AM:Option Addr)(cM:Nat)(AT:Option Addr)(cT:Nat)(W:World)(q:Asks A c h3L AM [mB,mU] AT [zqf] W):
  Calls Tryz.prog 30 #[.slice A h3L.length c,.slice AM 2 cM,.slice AT 1 cT] W fun e W'=>∃A' c',e=.returned (.tuple #[.slice A' 2 c',.int .i64 0])∧Held (fun b=>b<W'.heap.size) (Ints A' [1,3]) W'∧Below W.heap.size W W':=by
 have:=zhl A c h3L AM cM [mB,mU] AT cT [zqf] W q;refine this.mono ?_;rintro e W' ⟨hb,(⟨h,_⟩|⟨_,(⟨h,_⟩|⟨a,b,v,h,rfl,ho⟩)⟩)⟩
 ·exact absurd z2z h
 ·exact absurd z3v (h _ _)
 ·obtain⟨h1,h2⟩:=z3w h;rw[h1,h2]at ho;obtain⟨A',c',rfl,_,h2⟩:=ho.out;exact⟨A',c',rfl,h2.mono fun b hb _=>hb,hb⟩
theorem zgu{A:Option Addr}{c:Nat}{AM:Option Addr}{ms:List Meth}{AT:Option Addr}{t:Tag}{W:World}(h:∃G,Held G (CIs A h3L) W)(hc:h3L.length≤c)(hM:∃G,Held G (Meths AM ms) W)(hs:∀m∈ms,∀p∈m.pars,TySmall p.type)(hn:ms.length≤300)(hp:∀m∈ms,m.pars.length≤1000000)(hT:∃G,Held G (Tags AT [t]) W):
  Asks A c h3L AM ms AT [t] W:=⟨h,hc,zn5 z2h,by have:=zu1.1;omega,hM,by omega,hs,hp,hT,by simp⟩
theorem zd5{ms:List Meth}(h:∀m∈ms,m=mA∨m=mB∨m=mO∨m=mU):(∀m∈ms,∀p∈m.pars,TySmall p.type)∧∀m∈ms,m.pars.length≤1000000:=by
 constructor
 ·intro m hm p hp;rcases h m hm with rfl|rfl|rfl|rfl
  ·have:p=⟨nX,zkk nA⟩:=by simpa[mA,zp2]using hp
   subst this;exact zh2 _
  ·have:p=⟨nX,zkk nB⟩:=by simpa[mB,zp2]using hp
   subst this;exact zh2 _
  ·have:p=⟨nX,zkk zcq⟩:=by simpa[mO,zp2]using hp
   subst this;exact zh2 _
  ·have:p=⟨nX,tyU⟩:=by simpa[mU,zp2]using hp
   subst this;exact zxo
 ·intro m hm;rcases h m hm with rfl|rfl|rfl|rfl<;>simp[mA,mB,mO,mU,zp2]
theorem zeh(A B:Option Addr)(c d:Nat)(l:List Int)(w:World)(GA GB:Nat→Prop)(hA:Held GA (Ints A l) w)(hB:Held GB (Ints B l) w)(hl:l.length≤1000000):
  Calls Tryz.prog 14 #[.slice A l.length c,.slice B l.length d] w fun e w'=>e=.returned (.bool true)∧Below w.heap.size w w':=
 (zmp A B c d l l w GA GB hA hB hl hl).mono fun e w' ⟨h1,h2⟩=>⟨by rw[h1,Qhz rfl],h2.below _⟩
theorem z2d{W:World}{a b:Int}(T:TypeId):Held (fun x=>x<W.heap.size+1) (Ints (some ⟨W.heap.size,0,none⟩) [a,b]) (W.alloc (.cells #[.int .i64 a,.int .i64 b] T)):=
 zqv (R:=zfh) (G:=fun _=>True) (cx:=[.int .i64 a]) (cy:=[.int .i64 b]) T rfl (fun _ _=>rfl) (fun _ _=>rfl) rfl rfl
theorem z3e{W:World}{a b d:Int}(T:TypeId):Held (fun x=>x<W.heap.size+1) (Ints (some ⟨W.heap.size,0,none⟩) [a,b,d]) (W.alloc (.cells #[.int .i64 a,.int .i64 b,.int .i64 d] T)):=
 z2l (R:=zfh) (G:=fun _=>True) (cx:=[.int .i64 a]) (cy:=[.int .i64 b]) (cz:=[.int .i64 d]) T rfl (fun _ _=>rfl) (fun _ _=>rfl) (fun _ _=>rfl) rfl rfl rfl
abbrev zdx(m:Meth)(n:Nat):List Value:=[.int .i64 m.id,.string m.lib,.slice (some ⟨n,0,none⟩) m.pars.length 1,.int .i64 m.result.kind,.string m.result.name,.int .i64 m.result.lo,.int .i64 m.result.hi,.slice none m.result.args.length 0]
structure BoxM (m:Meth) (n b:Nat) (w:World):Prop where
 c:∀j u,(zdx m n)[j]? =some u→w.cell? ⟨b,j,none⟩=some u
 p:Held (fun b=>b<w.heap.size) (Pars (some ⟨n,0,none⟩) m.pars) w
theorem BoxM.keep{m:Meth}{n b:Nat}{w w':World}(h:BoxM m n b w)(k:Below w.heap.size w w'):BoxM m n b w':=
 ⟨fun j u hj=>zaa (h.c j u hj) k,(h.p.all k).mono fun b _ hb=>Nat.lt_of_lt_of_le hb k.size⟩
theorem BoxM.met{i:Int}{t:Ty}{n b:Nat}{w:World}(h:BoxM (zp2 i t) n b w):Held (fun b=>b<w.heap.size) (metR (zp2 i t) (zdx (zp2 i t) n)) w:=
 metR.mk (m:=zp2 i t) (A1:=some ⟨n,0,none⟩) (A2:=none) (c1:=1) (c2:=0) (Qiz _) h.p (Qiz _) (fun _ _=>Slc.nil _ _ _ _)
theorem zvv(W:World):Calls Tryz.prog 8 #[] W fun e W'=>e=.returned (.bool true)∧Below W.heap.size W W':=by
 go_enter Tryz.func8,Tryz.ntmps8;go_wp2_with (fail);refine(zly W).mono ?_;rintro e V0 ⟨A,c,rfl,hc,hH,b0⟩;have HH:=Qaz hH;have HC:=Qaz hc;clear hH hc;have q0:Below V0.heap.size V0 V0:=Below.refl _ _;go_wp2_with (fail);refine(zex nA _).mono ?_;rintro e V1 ⟨rfl,bV1⟩;have q1:=zab q0 bV1;go_wp2_with (fail);refine(zez 0 (zkk nA) none 0 _ _ (show Held (fun _=>True) (Typs none (zkk nA).args) _ from(fun _ _=>Slc.nil _ _ _ _)) (Qiz _)).mono ?_;rintro e V2 ⟨pbA,rfl,_,_,hpA,bV2⟩;have q2:=zab q1 bV2
 have aV2:Below V2.heap.size V2 (V2.alloc (.cells (zdx mA pbA).toArray 68)):=(Below.refl _ V2).alloc (Qiz _) _;have q3:=zab q2 aV2;have XA:Hid (BoxM mA pbA V2.heap.size (V2.alloc (.cells (zdx mA pbA).toArray 68))):=Qaz ⟨fun j u hj=>zac V2 _ _ _ rfl j u hj,(hpA.all aV2).mono fun b _ hb=>Nat.lt_of_lt_of_le hb aV2.size⟩;clear hpA;go_wp2_with (fail);refine(zex nB _).mono ?_;rintro e V3 ⟨rfl,bV3⟩;have q4:=zab q3 bV3;have XA:=Qaz (XA.out.keep bV3);go_wp2_with (fail);refine(zez 1 (zkk nB) none 0 _ _ (show Held (fun _=>True) (Typs none (zkk nB).args) _ from(fun _ _=>Slc.nil _ _ _ _)) (Qiz _)).mono ?_
 rintro e V4 ⟨pbB,rfl,_,_,hpB,bV4⟩;have q5:=zab q4 bV4;have XA:=Qaz (XA.out.keep bV4);have aV4:Below V4.heap.size V4 (V4.alloc (.cells (zdx mB pbB).toArray 68)):=(Below.refl _ V4).alloc (Qiz _) _;have q6:=zab q5 aV4;have XA:=Qaz (XA.out.keep aV4);have XB:Hid (BoxM mB pbB V4.heap.size (V4.alloc (.cells (zdx mB pbB).toArray 68))):=Qaz ⟨fun j u hj=>zac V4 _ _ _ rfl j u hj,(hpB.all aV4).mono fun b _ hb=>Nat.lt_of_lt_of_le hb aV4.size⟩;clear hpB;go_wp2_with (fail);refine(zex zcq _).mono ?_;rintro e V5 ⟨rfl,bV5⟩;have q7:=zab q6 bV5;have XA:=Qaz (XA.out.keep bV5);have XB:=Qaz (XB.out.keep bV5)
 go_wp2_with (fail);refine(zez 2 (zkk zcq) none 0 _ _ (show Held (fun _=>True) (Typs none (zkk zcq).args) _ from(fun _ _=>Slc.nil _ _ _ _)) (Qiz _)).mono ?_;rintro e V6 ⟨pbO,rfl,_,_,hpO,bV6⟩;have q8:=zab q7 bV6;have XA:=Qaz (XA.out.keep bV6);have XB:=Qaz (XB.out.keep bV6);have aV6:Below V6.heap.size V6 (V6.alloc (.cells (zdx mO pbO).toArray 68)):=(Below.refl _ V6).alloc (Qiz _) _;have q9:=zab q8 aV6;have XA:=Qaz (XA.out.keep aV6);have XB:=Qaz (XB.out.keep aV6)
 have XO:Hid (BoxM mO pbO V6.heap.size (V6.alloc (.cells (zdx mO pbO).toArray 68))):=Qaz ⟨fun j u hj=>zac V6 _ _ _ rfl j u hj,(hpO.all aV6).mono fun b _ hb=>Nat.lt_of_lt_of_le hb aV6.size⟩;clear hpO;go_wp2_with (fail);refine(zex nA _).mono ?_;rintro e V7 ⟨rfl,bV7⟩;have q10:=zab q9 bV7;have XA:=Qaz (XA.out.keep bV7);have XB:=Qaz (XB.out.keep bV7);have XO:=Qaz (XO.out.keep bV7);go_wp2_with (fail);refine(zex zal _).mono ?_;rintro e V8 ⟨rfl,bV8⟩;have q11:=zab q10 bV8;have XA:=Qaz (XA.out.keep bV8);have XB:=Qaz (XB.out.keep bV8);have XO:=Qaz (XO.out.keep bV8)
 have HT:Hid (Held (fun b=>b<V8.heap.size+1) (Typs (some ⟨V8.heap.size,0,none⟩) tyU.args) (V8.alloc (.cells #[.int .i64 1,.string nA,.int .i64 0,.int .i64 0,.slice none 0 0,.int .i64 1,.string zal,.int .i64 0,.int .i64 0,.slice none 0 0] 36))):=Qaz (zqv (R:=typR) (sz:=5) (G:=fun _=>True) (x:=zkk nA) (y:=zkk zal) (cx:=[.int .i64 1,.string nA,.int .i64 0,.int .i64 0,.slice none 0 0]) (cy:=[.int .i64 1,.string zal,.int .i64 0,.int .i64 0,.slice none 0 0]) 36 rfl (typR.mk (t:=zkk nA) (A:=none) (c:=0) (Qiz _) (fun _ _=>Slc.nil _ _ _ _)) (typR.mk (t:=zkk zal) (A:=none) (c:=0) (Qiz _) (fun _ _=>Slc.nil _ _ _ _)) rfl rfl)
 have aT:Below V8.heap.size V8 (V8.alloc (.cells #[.int .i64 1,.string nA,.int .i64 0,.int .i64 0,.slice none 0 0,.int .i64 1,.string zal,.int .i64 0,.int .i64 0,.slice none 0 0] 36)):=(Below.refl _ V8).alloc (Qiz _) _;have q12:=zab q11 aT;have XA:=Qaz (XA.out.keep aT);have XB:=Qaz (XB.out.keep aT);have XO:=Qaz (XO.out.keep aT);go_wp2_with (fail);refine(zez 3 tyU (some ⟨V8.heap.size,0,none⟩) 2 _ _ HT.out (Qiz _)).mono ?_;rintro e V9 ⟨pbU,rfl,_,_,hpU,bV9⟩;have q13:=zab q12 bV9;have XA:=Qaz (XA.out.keep bV9);have XB:=Qaz (XB.out.keep bV9);have XO:=Qaz (XO.out.keep bV9);have fA0:=XA.out.c 0 _ rfl
 have fA1:=XA.out.c 1 _ rfl;have fA2:=XA.out.c 2 _ rfl;have fA3:=XA.out.c 3 _ rfl;have fA4:=XA.out.c 4 _ rfl;have fA5:=XA.out.c 5 _ rfl;have fA6:=XA.out.c 6 _ rfl;have fA7:=XA.out.c 7 _ rfl;have lA:V2.heap.size<V9.heap.size:=cell_lt fA0;have fB0:=XB.out.c 0 _ rfl;have fB1:=XB.out.c 1 _ rfl;have fB2:=XB.out.c 2 _ rfl;have fB3:=XB.out.c 3 _ rfl;have fB4:=XB.out.c 4 _ rfl;have fB5:=XB.out.c 5 _ rfl;have fB6:=XB.out.c 6 _ rfl;have fB7:=XB.out.c 7 _ rfl;have lB:V4.heap.size<V9.heap.size:=cell_lt fB0;have fO0:=XO.out.c 0 _ rfl;have fO1:=XO.out.c 1 _ rfl;have fO2:=XO.out.c 2 _ rfl
 have fO3:=XO.out.c 3 _ rfl;have fO4:=XO.out.c 4 _ rfl;have fO5:=XO.out.c 5 _ rfl;have fO6:=XO.out.c 6 _ rfl;have fO7:=XO.out.c 7 _ rfl;have lO:V6.heap.size<V9.heap.size:=cell_lt fO0;have aV9:Below V9.heap.size V9 (V9.alloc (.cells (zdx mU pbU).toArray 68)):=(Below.refl _ V9).alloc (Qiz _) _;have q14:=zab q13 aV9;have XA:=Qaz (XA.out.keep aV9);have XB:=Qaz (XB.out.keep aV9);have XO:=Qaz (XO.out.keep aV9);have XU:Hid (BoxM mU pbU V9.heap.size (V9.alloc (.cells (zdx mU pbU).toArray 68))):=Qaz ⟨fun j u hj=>zac V9 _ _ _ rfl j u hj,(hpU.all aV9).mono fun b _ hb=>Nat.lt_of_lt_of_le hb aV9.size⟩
 clear hpU;have HTC:=Qaz (zz7 (R:=z0s) (n:=V9.heap.size+1) (w:=(V9.alloc (.cells (zdx mU pbU).toArray 68))) (x:=zqf) (cx:=[.int .i64 5,.int .i64 0,.string nC]) 39 (by simp) (show Held (fun _=>True) (z0s zqf [.int .i64 5,.int .i64 0,.string nC]) _ from fun _ _=>rfl) rfl);have aG:Below (V9.alloc (.cells (zdx mU pbU).toArray 68)).heap.size (V9.alloc (.cells (zdx mU pbU).toArray 68)) ((V9.alloc (.cells (zdx mU pbU).toArray 68)).alloc (.cells ([.int .i64 5,.int .i64 0,.string nC]:List Value).toArray 39)):=(Below.refl _ (V9.alloc (.cells (zdx mU pbU).toArray 68))).alloc (Qiz _) _
 have q15:=zab q14 aG;have XA:=Qaz (XA.out.keep aG);have XB:=Qaz (XB.out.keep aG);have XO:=Qaz (XO.out.keep aG);have XU:=Qaz (XU.out.keep aG);have HM1:=Qaz (z2l (R:=metR) (n:=V9.heap.size+1+1) (w:=((V9.alloc (.cells (zdx mU pbU).toArray 68)).alloc (.cells ([.int .i64 5,.int .i64 0,.string nC]:List Value).toArray 39))) (x:=mA) (y:=mB) (z:=mO) (cx:=(zdx mA pbA)) (cy:=(zdx mB pbB)) (cz:=(zdx mO pbO)) 68 (by simp) XA.out.met XB.out.met XO.out.met rfl rfl rfl)
 have aM1:Below ((V9.alloc (.cells (zdx mU pbU).toArray 68)).alloc (.cells ([.int .i64 5,.int .i64 0,.string nC]:List Value).toArray 39)).heap.size ((V9.alloc (.cells (zdx mU pbU).toArray 68)).alloc (.cells ([.int .i64 5,.int .i64 0,.string nC]:List Value).toArray 39)) (((V9.alloc (.cells (zdx mU pbU).toArray 68)).alloc (.cells ([.int .i64 5,.int .i64 0,.string nC]:List Value).toArray 39)).alloc (.cells ((zdx mA pbA)++(zdx mB pbB)++(zdx mO pbO)).toArray 68)):=(Below.refl _ ((V9.alloc (.cells (zdx mU pbU).toArray 68)).alloc (.cells ([.int .i64 5,.int .i64 0,.string nC]:List Value).toArray 39))).alloc (Qiz _) _
 have q16:=zab q15 aM1;have XA:=Qaz (XA.out.keep aM1);have XB:=Qaz (XB.out.keep aM1);have XO:=Qaz (XO.out.keep aM1);have XU:=Qaz (XU.out.keep aM1);have HTC:=Qaz (HTC.out.all aM1);go_wp2_with (fail);refine(zw7 [mA,mB,mO] zqf [0,1,2] false ex1 A c _ _ _ _ _ (zgu ⟨_,HH.out.all q16⟩ HC.out ⟨_,HM1.out⟩ (zd5 (by simp)).1 (by simp) (zd5 (by simp)).2 ⟨_,HTC.out⟩)).mono ?_;rintro e V10 ⟨A1,c1,rfl,ho1,bV10⟩;clear fA0 fA1 fA2 fA3 fA4 fA5 fA6 fA7 lA fB0 fB1 fB2 fB3 fB4 fB5 fB6 fB7 lB fO0 fO1 fO2 fO3 fO4 fO5 fO6 fO7 lO;have q17:=zab q16 bV10;have XA:=Qaz (XA.out.keep bV10);have XB:=Qaz (XB.out.keep bV10)
 have XO:=Qaz (XO.out.keep bV10);have XU:=Qaz (XU.out.keep bV10);have HTC:=Qaz (HTC.out.all bV10);have HM1:=Qaz (HM1.out.all bV10);have HO1:=Qaz ho1;clear ho1;have fB0:=XB.out.c 0 _ rfl;have fB1:=XB.out.c 1 _ rfl;have fB2:=XB.out.c 2 _ rfl;have fB3:=XB.out.c 3 _ rfl;have fB4:=XB.out.c 4 _ rfl;have fB5:=XB.out.c 5 _ rfl;have fB6:=XB.out.c 6 _ rfl;have fB7:=XB.out.c 7 _ rfl;have lB:V4.heap.size<V10.heap.size:=cell_lt fB0;have fU0:=XU.out.c 0 _ rfl;have fU1:=XU.out.c 1 _ rfl;have fU2:=XU.out.c 2 _ rfl;have fU3:=XU.out.c 3 _ rfl;have fU4:=XU.out.c 4 _ rfl;have fU5:=XU.out.c 5 _ rfl
 have fU6:=XU.out.c 6 _ rfl;have fU7:=XU.out.c 7 _ rfl;have lU:V9.heap.size<V10.heap.size:=cell_lt fU0;have HM2:=Qaz (zqv (R:=metR) (n:=V10.heap.size) (w:=V10) (x:=mB) (y:=mU) (cx:=(zdx mB pbB)) (cy:=(zdx mU pbU)) 68 (by simp) XB.out.met XU.out.met rfl rfl);have aM2:Below V10.heap.size V10 (V10.alloc (.cells ((zdx mB pbB)++(zdx mU pbU)).toArray 68)):=(Below.refl _ V10).alloc (Qiz _) _;have q18:=zab q17 aM2;have XA:=Qaz (XA.out.keep aM2);have XB:=Qaz (XB.out.keep aM2);have XO:=Qaz (XO.out.keep aM2);have XU:=Qaz (XU.out.keep aM2);have HTC:=Qaz (HTC.out.all aM2);have HO1:=Qaz (HO1.out.all aM2)
 go_wp2_with (fail);refine(zw7 [mB,mU] zqf [] true ex2 A c _ _ _ _ _ (zgu ⟨_,HH.out.all q18⟩ HC.out ⟨_,HM2.out⟩ (zd5 (by simp)).1 (by simp) (zd5 (by simp)).2 ⟨_,HTC.out⟩)).mono ?_;rintro e V11 ⟨A2,c2,rfl,ho2,bV11⟩;clear fB0 fB1 fB2 fB3 fB4 fB5 fB6 fB7 lB fU0 fU1 fU2 fU3 fU4 fU5 fU6 fU7 lU;have q19:=zab q18 bV11;have XA:=Qaz (XA.out.keep bV11);have XB:=Qaz (XB.out.keep bV11);have XO:=Qaz (XO.out.keep bV11);have XU:=Qaz (XU.out.keep bV11);have HTC:=Qaz (HTC.out.all bV11);have HO1:=Qaz (HO1.out.all bV11);have HM2:=Qaz (HM2.out.all bV11);have HO2:=Qaz ho2;clear ho2;have fO0:=XO.out.c 0 _ rfl
 have fO1:=XO.out.c 1 _ rfl;have fO2:=XO.out.c 2 _ rfl;have fO3:=XO.out.c 3 _ rfl;have fO4:=XO.out.c 4 _ rfl;have fO5:=XO.out.c 5 _ rfl;have fO6:=XO.out.c 6 _ rfl;have fO7:=XO.out.c 7 _ rfl;have lO:V6.heap.size<V11.heap.size:=cell_lt fO0;have fU0:=XU.out.c 0 _ rfl;have fU1:=XU.out.c 1 _ rfl;have fU2:=XU.out.c 2 _ rfl;have fU3:=XU.out.c 3 _ rfl;have fU4:=XU.out.c 4 _ rfl;have fU5:=XU.out.c 5 _ rfl;have fU6:=XU.out.c 6 _ rfl;have fU7:=XU.out.c 7 _ rfl;have lU:V9.heap.size<V11.heap.size:=cell_lt fU0
 have HM3:=Qaz (zqv (R:=metR) (n:=V11.heap.size) (w:=V11) (x:=mO) (y:=mU) (cx:=(zdx mO pbO)) (cy:=(zdx mU pbU)) 68 (by simp) XO.out.met XU.out.met rfl rfl);have aM3:Below V11.heap.size V11 (V11.alloc (.cells ((zdx mO pbO)++(zdx mU pbU)).toArray 68)):=(Below.refl _ V11).alloc (Qiz _) _;have q20:=zab q19 aM3;have XA:=Qaz (XA.out.keep aM3);have XB:=Qaz (XB.out.keep aM3);have XO:=Qaz (XO.out.keep aM3);have XU:=Qaz (XU.out.keep aM3);have HTC:=Qaz (HTC.out.all aM3);have HO1:=Qaz (HO1.out.all aM3)
 have HTI:=Qaz (zz7 (R:=z0s) (n:=V11.heap.size+1) (w:=(V11.alloc (.cells ((zdx mO pbO)++(zdx mU pbU)).toArray 68))) (x:=z2v) (cx:=[.int .i64 1,.int .i64 5,.string ⟨#[]⟩]) 39 (by simp) (show Held (fun _=>True) (z0s z2v [.int .i64 1,.int .i64 5,.string ⟨#[]⟩]) _ from fun _ _=>rfl) rfl)
 have aTI:Below (V11.alloc (.cells ((zdx mO pbO)++(zdx mU pbU)).toArray 68)).heap.size (V11.alloc (.cells ((zdx mO pbO)++(zdx mU pbU)).toArray 68)) ((V11.alloc (.cells ((zdx mO pbO)++(zdx mU pbU)).toArray 68)).alloc (.cells ([.int .i64 1,.int .i64 5,.string ⟨#[]⟩]:List Value).toArray 39)):=(Below.refl _ (V11.alloc (.cells ((zdx mO pbO)++(zdx mU pbU)).toArray 68))).alloc (Qiz _) _;have q21:=zab q20 aTI;have XA:=Qaz (XA.out.keep aTI);have XB:=Qaz (XB.out.keep aTI);have XO:=Qaz (XO.out.keep aTI);have XU:=Qaz (XU.out.keep aTI);have HTC:=Qaz (HTC.out.all aTI);have HO1:=Qaz (HO1.out.all aTI)
 have HM3:=Qaz (HM3.out.all aTI);go_wp2_with (fail);refine(zw7 [mO,mU] z2v [3,2] false ex3 A c _ _ _ _ _ (zgu ⟨_,HH.out.all q21⟩ HC.out ⟨_,HM3.out⟩ (zd5 (by simp)).1 (by simp) (zd5 (by simp)).2 ⟨_,HTI.out⟩)).mono ?_;rintro e V12 ⟨A3,c3,rfl,ho3,bV12⟩;clear fO0 fO1 fO2 fO3 fO4 fO5 fO6 fO7 lO fU0 fU1 fU2 fU3 fU4 fU5 fU6 fU7 lU;have q22:=zab q21 bV12;have XA:=Qaz (XA.out.keep bV12);have XB:=Qaz (XB.out.keep bV12);have XO:=Qaz (XO.out.keep bV12);have XU:=Qaz (XU.out.keep bV12);have HTC:=Qaz (HTC.out.all bV12);have HO1:=Qaz (HO1.out.all bV12);have HM3:=Qaz (HM3.out.all bV12)
 have HTI:=Qaz (HTI.out.all bV12);have HO3:=Qaz ho3;clear ho3;have fA0:=XA.out.c 0 _ rfl;have fA1:=XA.out.c 1 _ rfl;have fA2:=XA.out.c 2 _ rfl;have fA3:=XA.out.c 3 _ rfl;have fA4:=XA.out.c 4 _ rfl;have fA5:=XA.out.c 5 _ rfl;have fA6:=XA.out.c 6 _ rfl;have fA7:=XA.out.c 7 _ rfl;have lA:V2.heap.size<V12.heap.size:=cell_lt fA0;have HM4:=Qaz (zz7 (R:=metR) (n:=V12.heap.size) (w:=V12) (x:=mA) (cx:=(zdx mA pbA)) 68 (by simp) XA.out.met rfl);have aM4:Below V12.heap.size V12 (V12.alloc (.cells ((zdx mA pbA):List Value).toArray 68)):=(Below.refl _ V12).alloc (Qiz _) _;have q23:=zab q22 aM4
 have XA:=Qaz (XA.out.keep aM4);have XB:=Qaz (XB.out.keep aM4);have XO:=Qaz (XO.out.keep aM4);have XU:=Qaz (XU.out.keep aM4);have HTC:=Qaz (HTC.out.all aM4);have HO1:=Qaz (HO1.out.all aM4);have HO3:=Qaz (HO3.out.all aM4);have HTB:=Qaz (zz7 (R:=z0s) (n:=V12.heap.size+1) (w:=(V12.alloc (.cells ((zdx mA pbA):List Value).toArray 68))) (x:=z15) (cx:=[.int .i64 2,.int .i64 1,.string ⟨#[]⟩]) 39 (by simp) (show Held (fun _=>True) (z0s z15 [.int .i64 2,.int .i64 1,.string ⟨#[]⟩]) _ from fun _ _=>rfl) rfl)
 have aTB:Below (V12.alloc (.cells ((zdx mA pbA):List Value).toArray 68)).heap.size (V12.alloc (.cells ((zdx mA pbA):List Value).toArray 68)) ((V12.alloc (.cells ((zdx mA pbA):List Value).toArray 68)).alloc (.cells ([.int .i64 2,.int .i64 1,.string ⟨#[]⟩]:List Value).toArray 39)):=(Below.refl _ (V12.alloc (.cells ((zdx mA pbA):List Value).toArray 68))).alloc (Qiz _) _;have q24:=zab q23 aTB;have XA:=Qaz (XA.out.keep aTB);have XB:=Qaz (XB.out.keep aTB);have XO:=Qaz (XO.out.keep aTB);have XU:=Qaz (XU.out.keep aTB);have HTC:=Qaz (HTC.out.all aTB);have HO1:=Qaz (HO1.out.all aTB)
 have HO3:=Qaz (HO3.out.all aTB);have HM4:=Qaz (HM4.out.all aTB);go_wp2_with (fail);refine(z2m A c _ _ _ _ _ (zgu ⟨_,HH.out.all q24⟩ HC.out ⟨_,HM4.out⟩ (zd5 (by simp)).1 (by simp) (zd5 (by simp)).2 ⟨_,HTB.out⟩)).mono ?_;rintro e V13 ⟨rfl,bV13⟩;clear fA0 fA1 fA2 fA3 fA4 fA5 fA6 fA7 lA;have q25:=zab q24 bV13;have XA:=Qaz (XA.out.keep bV13);have XB:=Qaz (XB.out.keep bV13);have XO:=Qaz (XO.out.keep bV13);have XU:=Qaz (XU.out.keep bV13);have HTC:=Qaz (HTC.out.all bV13);have HO1:=Qaz (HO1.out.all bV13);have HO3:=Qaz (HO3.out.all bV13);have HM4:=Qaz (HM4.out.all bV13);have HTB:=Qaz (HTB.out.all bV13)
 have fB0:=XB.out.c 0 _ rfl;have fB1:=XB.out.c 1 _ rfl;have fB2:=XB.out.c 2 _ rfl;have fB3:=XB.out.c 3 _ rfl;have fB4:=XB.out.c 4 _ rfl;have fB5:=XB.out.c 5 _ rfl;have fB6:=XB.out.c 6 _ rfl;have fB7:=XB.out.c 7 _ rfl;have lB:V4.heap.size<V13.heap.size:=cell_lt fB0;have fU0:=XU.out.c 0 _ rfl;have fU1:=XU.out.c 1 _ rfl;have fU2:=XU.out.c 2 _ rfl;have fU3:=XU.out.c 3 _ rfl;have fU4:=XU.out.c 4 _ rfl;have fU5:=XU.out.c 5 _ rfl;have fU6:=XU.out.c 6 _ rfl;have fU7:=XU.out.c 7 _ rfl;have lU:V9.heap.size<V13.heap.size:=cell_lt fU0
 have HM5:=Qaz (zqv (R:=metR) (n:=V13.heap.size) (w:=V13) (x:=mB) (y:=mU) (cx:=(zdx mB pbB)) (cy:=(zdx mU pbU)) 68 (by simp) XB.out.met XU.out.met rfl rfl);have aM5:Below V13.heap.size V13 (V13.alloc (.cells ((zdx mB pbB)++(zdx mU pbU)).toArray 68)):=(Below.refl _ V13).alloc (Qiz _) _;have q26:=zab q25 aM5;have XA:=Qaz (XA.out.keep aM5);have XB:=Qaz (XB.out.keep aM5);have XO:=Qaz (XO.out.keep aM5);have XU:=Qaz (XU.out.keep aM5);have HTC:=Qaz (HTC.out.all aM5);have HO1:=Qaz (HO1.out.all aM5);have HO3:=Qaz (HO3.out.all aM5);go_wp2_with (fail)
 refine(z2o A c _ _ _ _ _ (zgu ⟨_,HH.out.all q26⟩ HC.out ⟨_,HM5.out⟩ (zd5 (by simp)).1 (by simp) (zd5 (by simp)).2 ⟨_,HTC.out⟩)).mono ?_;rintro e V14 ⟨A5,c5,rfl,ho5,bV14⟩;clear fB0 fB1 fB2 fB3 fB4 fB5 fB6 fB7 lB fU0 fU1 fU2 fU3 fU4 fU5 fU6 fU7 lU;have q27:=zab q26 bV14;have XA:=Qaz (XA.out.keep bV14);have XB:=Qaz (XB.out.keep bV14);have XO:=Qaz (XO.out.keep bV14);have XU:=Qaz (XU.out.keep bV14);have HTC:=Qaz (HTC.out.all bV14);have HO1:=Qaz (HO1.out.all bV14);have HO3:=Qaz (HO3.out.all bV14);have HM5:=Qaz (HM5.out.all bV14);have HO5:=Qaz ho5;clear ho5
 have HI:=Qaz (z3e (W:=V14) (a:=0) (b:=1) (d:=2) 3);have aI14:Below V14.heap.size V14 (V14.alloc (.cells #[.int .i64 0,.int .i64 1,.int .i64 2] 3)):=(Below.refl _ V14).alloc (Qiz _) _;have q28:=zab q27 aI14;have HO1:=Qaz (HO1.out.all aI14);have HO3:=Qaz (HO3.out.all aI14);have HO5:=Qaz (HO5.out.all aI14);go_wp2_with (fail);refine(zeh A1 _ _ _ [0,1,2] _ _ _ HO1.out HI.out (by simp)).mono ?_;rintro e V15 ⟨rfl,bV15⟩;have q29:=zab q28 bV15;have HO1:=Qaz (HO1.out.all bV15);have HO3:=Qaz (HO3.out.all bV15);have HO5:=Qaz (HO5.out.all bV15);have HI:=Qaz (z2d (W:=V15) (a:=3) (b:=2) 3)
 have aI15:Below V15.heap.size V15 (V15.alloc (.cells #[.int .i64 3,.int .i64 2] 3)):=(Below.refl _ V15).alloc (Qiz _) _;have q30:=zab q29 aI15;have HO3:=Qaz (HO3.out.all aI15);have HO5:=Qaz (HO5.out.all aI15);go_wp2_with (fail);refine(zeh A3 _ _ _ [3,2] _ _ _ HO3.out HI.out (by simp)).mono ?_;rintro e V16 ⟨rfl,bV16⟩;have q31:=zab q30 bV16;have HO3:=Qaz (HO3.out.all bV16);have HO5:=Qaz (HO5.out.all bV16);have HI:=Qaz (z2d (W:=V16) (a:=1) (b:=3) 3);have aI16:Below V16.heap.size V16 (V16.alloc (.cells #[.int .i64 1,.int .i64 3] 3)):=(Below.refl _ V16).alloc (Qiz _) _;have q32:=zab q31 aI16
 have HO5:=Qaz (HO5.out.all aI16);go_wp2_with (fail);refine(zeh A5 _ _ _ [1,3] _ _ _ HO5.out HI.out (by simp)).mono ?_;rintro e V17 ⟨rfl,bV17⟩;have q33:=zab q32 bV17;have HO5:=Qaz (HO5.out.all bV17);go_wp2;go_ret;exact⟨rfl,b0.trans (q33.mono b0.size)⟩
noncomputable def zgd (l:List CI)(ms:List Meth)(ts:List Tag):List Int×Int:=if zaf l ms ts=0 then((ms.filter (zde l ts)).map (·.id),0)else([],zaf l ms ts)
theorem zou{l:List CI}{ms:List Meth}{ts:List Tag}(h:zaf l ms ts=0):zgd l ms ts=((ms.filter (zde l ts)).map (·.id),0):=by unfold zgd;rw[if_pos h]
theorem zqw{l:List CI}{ms:List Meth}{ts:List Tag}(h:¬zaf l ms ts=0):zgd l ms ts=([],zaf l ms ts):=by unfold zgd;rw[if_neg h]
theorem zqp(A:Option Addr)(c:Nat)(l:List Int)(x:Int)(W:World)(h:Ints A l W)(hl:l.length≤1000000):
  Calls Tryz.prog 71 #[.slice A l.length c,.int .i64 x] W fun e W'=>e=.returned (.bool (zhm l x))∧W'=W:=by
 have H:=Qaz h;clear h;go_enter Tryz.func71,Tryz.ntmps71;go_wp2_with (fail)
 go_loopw [5] (fun i wr=>∃k:Nat,k≤l.length∧i=.int .i64 k∧zhm (l.take k) x=false∧wr=W) (fun i _=>l.length-(intOf i).toNat)
 case atStart=>exact⟨0,Qjz _,rfl,rfl,rfl⟩
 case round=>
  obtain⟨k,hk,rfl,hno,rfl⟩:=hrel;have HNO:=Qaz hno;clear hno;by_cases hlt:k<l.length
  ·have hy:l[k]? =some l[k]:=Qbz hlt;generalize l[k]=y at hy;have HY:=Qaz hy;obtain⟨b,off,cs,rfl,_,hr,hc⟩:=H.out k y hy;have g0:wr.cell? ⟨b,off+k,none⟩=some (.int .i64 y):=by
    have e:cs=[.int .i64 y]:=hr;subst e
    simpa using hc 0 _ rfl
   clear hy hr hc;by_cases hyx:y=x
   ·have t1:(y==x)=true:=beq_iff_eq.2 hyx;have HB:Hid (zhm l x=true):=Qaz (zg9.2 (by rw[←hyx];exact Qdz HY.out));clear hyx;go_wp2;go_ret;exact⟨(by rw[HB.out];try rfl),rfl⟩
   ·have t1:(y==x)=false:=Qfz hyx;have HN:Hid (zhm (l.take (k+1)) x=false):=Qaz (by
     rw[take_snoc HY.out];have:=HNO.out;unfold zhm at this ⊢;rw[List.any_append,this];simp[hyx])
    clear hyx;go_wp2;exact⟨⟨k+1,by omega,by go_num,HN.out,trivial⟩,by simp[intOf];omega⟩
  ·obtain rfl:k=l.length:=by omega
   have HB:Hid (zhm l x=false):=Qaz (by have:=HNO.out;rwa [List.take_length]at this);go_wp2;go_ret;exact⟨(by rw[HB.out];try rfl),rfl⟩
def zkd(ms:List Meth)(x:Int):Int:=match ms.findIdx? (fun m=>decide (m.id=x))with
 |some i=>i
 |none=> -1
theorem zns{ms:List Meth}{x:Int}{k:Nat}{m:Meth}(hm:ms[k]? =some m)(hx:m.id=x)(hno:zhm ((ms.take k).map (·.id)) x=false):zkd ms x=k:=by
 obtain⟨hk,rfl⟩:=Qcz hm;unfold zkd;have:ms.findIdx? (fun m=>decide (m.id=x))=some k:=by
  rw[List.findIdx?_eq_some_iff_getElem];refine⟨hk,by simpa using hx,fun j hj=> ?_⟩;simp only[decide_eq_true_eq];intro e;refine zfj.1 hno (List.mem_map.2 ⟨ms[j],?_,e⟩);rw[List.mem_iff_getElem?];exact⟨j,by rw[List.getElem?_take,if_pos hj,Qbz (by omega)]⟩
 rw[this]
theorem zn2{ms:List Meth}{x:Int}(hno:zhm (ms.map (·.id)) x=false):zkd ms x= -1:=by
 unfold zkd;have:ms.findIdx? (fun m=>decide (m.id=x))=none:=by
  rw[List.findIdx?_eq_none_iff];intro y hy;simp only[decide_eq_false_iff_not];exact fun e=>zfj.1 hno (List.mem_map.2 ⟨y,hy,e⟩)
 rw[this]
theorem zni(A:Option Addr)(c:Nat)(ms:List Meth)(x:Int)(W:World)(G:Nat→Prop)(h:Held G (Meths A ms) W)(hl:ms.length≤1000000):
  Calls Tryz.prog 48 #[.slice A ms.length c,.int .i64 x] W fun e W'=>e=.returned (.int .i64 (zkd ms x))∧W'=W:=by
 have H:=Qaz h;clear h;go_enter Tryz.func48,Tryz.ntmps48;go_wp2_with (fail)
 go_loopw [5] (fun i wr=>∃k:Nat,k≤ms.length∧i=.int .i64 k∧zhm ((ms.take k).map (·.id)) x=false∧wr=W) (fun i _=>ms.length-(intOf i).toNat)
 case atStart=>exact⟨0,Qjz _,rfl,rfl,rfl⟩
 case round=>
  obtain⟨k,hk,rfl,hno,rfl⟩:=hrel;have HNO:=Qaz hno;clear hno;by_cases hlt:k<ms.length
  ·obtain⟨b,off,rfl⟩:=Slc.addrH H.out (by omega);have hy:ms[k]? =some ms[k]:=Qbz hlt;generalize ms[k]=y at hy;have HY:=Qaz hy;obtain⟨A1,c1,A2,c2,_,_,_,_,g0,_,_,_,_,_,_,_⟩:=Meths.atH H.out hy;clear hy;by_cases hyx:y.id=x
   ·have t1:(y.id==x)=true:=beq_iff_eq.2 hyx;have HB:=Qaz (zns HY.out hyx HNO.out);clear hyx;go_wp2;go_ret;exact⟨(by rw[HB.out];try rfl),rfl⟩
   ·have t1:(y.id==x)=false:=Qfz hyx;have HN:Hid (zhm ((ms.take (k+1)).map (·.id)) x=false):=Qaz (by
     rw[take_snoc HY.out,List.map_append];have:=HNO.out;unfold zhm at this ⊢;rw[List.any_append,this];simp[hyx])
    clear hyx;go_wp2;exact⟨⟨k+1,by omega,by go_num,HN.out,trivial⟩,by simp[intOf];omega⟩
  ·obtain rfl:k=ms.length:=by omega
   have HB:=Qaz (zn2 (ms:=ms) (x:=x) (by have:=HNO.out;rwa [List.take_length]at this));go_wp2;go_ret;exact⟨(by rw[HB.out];try rfl),rfl⟩
theorem zht{l:List CI}{ms:List Meth}(h:zcs l ms=true):(ms.map (·.id)).Nodup:=by
 unfold zcs at h;rw[Bool.and_eq_true]at h;exact of_decide_eq_true h.1
end Go.Proofs.YtepnmejahbiacaaGreat
