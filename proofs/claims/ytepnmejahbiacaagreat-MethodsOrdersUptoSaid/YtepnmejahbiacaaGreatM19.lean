/- Part 19 of the proof: Od, Ck, On, He. -/
import Derived.Test.YtepnmejahbiacaaGreatM16
import Derived.Test.YtepnmejahbiacaaGreatM18
set_option linter.unusedVariables false
set_option linter.unusedSimpArgs false
set_option maxHeartbeats 64000000
set_option maxRecDepth 100000
namespace Go.Proofs.YtepnmejahbiacaaGreat
open Go.RowKit
theorem zqd(AH:Option Addr)(cH:Nat)(l:List CI)(AT:Option Addr)(cT:Nat)(ts:List Tag)(W:World)(GH:Nat→Prop)(h:Held GH (CIs AH l) W)(hcH:l.length≤cH)(ol:∀x∈l,zdo x)(hl:l.length≤1000000)
  (GT:Nat→Prop) (hT:Held GT (Tags AT ts) W) (hn:ts.length≤1000000) (hL:zai l) (htg:∀t∈ts,zbt l t=true):
  Calls Tryz.prog 54 #[.slice AH l.length cH,.slice AT ts.length cT] W fun e W'=>∃cp A2 c2,e=.returned (.pointer (some ⟨cp,0,none⟩))∧Below W.heap.size W W'∧W.heap.size≤cp∧CallAt cp AH cH l AT cT ts W'∧
   W'.cell? ⟨cp,2,none⟩=some (.slice A2 ts.length c2)∧W'.cell? ⟨cp,3,none⟩=some (.func (.func 55) #[.pointer (some ⟨cp,0,none⟩)] #[])∧Held (fun b=>b<W'.heap.size) (Lsts A2 (ts.map (za9 l))) W':=by
 go_enter Tryz.func54,Tryz.ntmps54;go_wp2;obtain⟨cp,hcp⟩:∃cp,cp=W.heap.size:=⟨_,rfl⟩;rw[←hcp];obtain⟨W1,hW1⟩:∃W1,W1=W.alloc (.cells #[.slice AH l.length cH,.slice AT ts.length cT,.slice none 0 0,Value.nilFunc] 113):=⟨_,rfl⟩;rw[←hW1];have b1:Below W.heap.size W W1:=by rw[hW1];exact(Below.refl _ W).alloc (Qiz _) _
 have x0:∀j u,[Value.slice AH l.length cH,.slice AT ts.length cT,.slice none 0 0,Value.nilFunc][j]? =some u→W1.cell? ⟨cp,j,none⟩=some u∧W1.frozen? ⟨cp,j,none⟩=false:=fun j u hj=>by
  rw[hW1];exact⟨zac W _ _ _ hcp j u hj,by subst hcp;unfold World.frozen?;rw[heap_alloc_new];simp⟩
 have HCP:=Qaz hcp;clear hW1 hcp
 go_loopw [16] (fun i wr=>∃k:Nat,k≤ts.length∧i=.int .i64 k∧∃v,Own lstR 108 1 W.heap.size (fun b=>b<W.heap.size) v ((ts.take k).map (za9 l)) wr∧v.ownBlock≠some cp∧
  wr.cell? ⟨cp,0,none⟩=some (.slice AH l.length cH)∧wr.cell? ⟨cp,1,none⟩=some (.slice AT ts.length cT)∧wr.cell? ⟨cp,2,none⟩=some v∧wr.frozen? ⟨cp,2,none⟩=false∧wr.cell? ⟨cp,3,none⟩=some Value.nilFunc∧wr.frozen? ⟨cp,3,none⟩=false∧Below W.heap.size W wr) (fun i _=>ts.length-(intOf i).toNat)
 case atStart=>exact⟨0,Qjz _,rfl,_,Own.nil _ _ _ _ _ _,by simp[Value.ownBlock],(x0 0 _ rfl).1,(x0 1 _ rfl).1,(x0 2 _ rfl).1,(x0 2 _ rfl).2,(x0 3 _ rfl).1,(x0 3 _ rfl).2,b1⟩
 case round=>
  obtain⟨k,hk,rfl,v,hown,hvc,q0,q1,q2,qf2,q3,qf3,hb⟩:=hrel;by_cases hlt:k<ts.length
  ·obtain⟨b2,off2,rfl⟩:=Slc.addrH hT (by omega);have ht:ts[k]? =some ts[k]:=Qbz hlt;generalize ts[k]=t at ht;have HT:=Qaz ht;have HTG:=Qaz (htg t (Qdz ht));obtain⟨d0,d1,d2⟩:=Tags.atH (hT.keep (Keep.all hb)) ht;clear ht;have HCO:=Qaz (fun V (hv:Below wr.heap.size wr V)=>zoy AH cH l t V hcH GH ((h.keep (Keep.all hb)).keep (Keep.all hv)) ol hl);have bw1:Below wr.heap.size wr (wr.alloc (.cells #[.int .i64 t.kind,.int .i64 t.num,.string t.name] 39)):=(Below.refl _ wr).alloc (Qiz _) _;go_wp2_with (fail);refine(HCO.out _ bw1).mono ?_;clear HCO;rintro e V ⟨hbv,hcase⟩
   have e1:e=.returned (.string (zbd t)):=by
    rcases hcase with q|q
    ·exact q.2
    ·exact absurd ⟨hL,HTG.out⟩ q.1
   subst e1;clear hcase;have bV:Below wr.heap.size wr V:=bw1.trans (hbv.mono bw1.size);have bWV:=hb.trans (bV.mono hb.size);have HPL:=Qaz (fun V' (hv:Below V.heap.size V V')(hs:V'.cell? ⟨V.heap.size,0,none⟩=some (.string (zbd t)))=>zt0 AH cH l (zbd t) V.heap.size V' hs GH ((h.keep (Keep.all bWV)).keep (Keep.all hv)) hl);go_wp2_with (fail);refine(HPL.out _ ((Below.refl _ V).alloc (Qiz _) _) (zac V _ _ _ rfl 0 _ rfl)).mono ?_;clear HPL;rintro e V2 (⟨rfl,hbv2,hno⟩|⟨i,hi,rfl,hbv2,hfst,x,hx,hxn⟩|⟨_,_,hf⟩)
   ·exfalso;obtain⟨x,hx,e⟩:=zvn hL HTG.out;obtain⟨j,hj⟩:=Qez hx;exact hno j x (Qcz hj).1 hj e
   rotate_left
   ·exact hf.elim
   go_wp2_with (fail);have bV2:Below wr.heap.size wr V2:=(bV.alloc bV.size _).trans (hbv2.mono (by have:=bV.size;simp;omega));have r0:=zaa q0 bV2;have r1:=zaa q1 bV2;have r2:=zaa q2 bV2;have r3:=zaa q3 bV2;have hownV:=hown.all bV2;have bWV2:=hb.trans (bV2.mono hb.size);obtain⟨bh,offh,rfl⟩:=Slc.addrH h (by omega);obtain⟨A2,c2,A3,c3,p1,p2,p3,p4,g0,g1,g2,g3,g4,g5⟩:=CIs.atH (h.here.keep (Keep.below bWV2)) hx;have hcpV:cp<V2.heap.size:=cell_lt r0;have hbhV:bh<V2.heap.size:=cell_lt g0;have hsz:=bWV2.size
   have rf2:V2.frozen? ⟨cp,2,none⟩=false:=(World.frozen?_of_block (a:=⟨cp,2,none⟩) (bV2.block cp (cell_lt q0))).trans qf2;have rf3:V2.frozen? ⟨cp,3,none⟩=false:=(World.frozen?_of_block (a:=⟨cp,3,none⟩) (bV2.block cp (cell_lt q0))).trans qf3;have hcv:x.cpl=za9 l t:=by
    unfold za9;have hf:l.find? (fun x=>decide (x.name=zbd t))=some x:=by
     rw[List.find?_eq_some_iff_getElem];obtain⟨hi',hx'⟩:=Qcz hx;refine⟨by simpa using hxn,i,hi',hx',fun j hj=> ?_⟩;have:=hfst j _ hj (Qbz (by omega))
     simpa using this
    rw[hf];rfl
   have HCV:=Qaz hcv;have HS:Hid ((ts.take (k+1)).map (za9 l)=(ts.take k).map (za9 l)++[x.cpl]):=Qaz (by rw[take_snoc HT.out,List.map_append,hcv];rfl);have hlen:((ts.take k).map (za9 l)).length=k:=by simp;omega
   have kW:Keep (fun b=>b<W.heap.size) V2 (V2.drew.alloc (.cells #[.slice A3 x.cpl.length c3] 108)):=(Keep.drew _ _).trans (Keep.alloc _ _ _);have hO:=Qaz ((hownV.drew).alloc (.cells #[.slice A3 x.cpl.length c3] 108));have hC:Hid (∀j u,[Value.slice A3 x.cpl.length c3][j]? =some u→(V2.drew.alloc (.cells #[.slice A3 x.cpl.length c3] 108)).cell? ((⟨V2.heap.size,0,none⟩:Addr).add j)=some u):=Qaz (zaq V2.drew #[.slice A3 x.cpl.length c3] _ _ rfl);have h1C:Hid (∀u∈[Value.slice A3 x.cpl.length c3],u.oneCell'=true):=Qaz (by intro u hu;simp at hu;subst hu;rfl)
   have hRR:Hid (Held (fun b=>b<W.heap.size) (lstR x.cpl [.slice A3 x.cpl.length c3]) (V2.drew.alloc (.cells #[.slice A3 x.cpl.length c3] 108))):=Qaz ((lstR.mk p2 p4).keep kW);have hGG:Hid (∀b,b<W.heap.size→v.ownBlock≠some b):=Qaz (fun b hb e=>by have:=(hown.lt _ e).1;omega);have HVB:Hid (∀g,v.ownBlock=some g→W.heap.size≤g):=Qaz (fun g e=>(hown.lt _ e).1);have hvlt:Hid (∀g,v.ownBlock=some g→g<V2.heap.size):=Qaz (fun g e=>(hownV.lt _ e).2);have HVC:=Qaz hvc;have HI:Hid (i<l.length):=Qaz hi;have HK:=Qaz hlt
   clear hcv hfst hown hownV hx hxn hbv hbv2 bV bw1 hvc q0 q1 q2 q3 qf2 qf3 d0 d1 d2 g1 g2 g4 g5 g0
   go_region_law (refine za1 lstR 108 1 W.heap.size 24 (fun b=>b<W.heap.size) _ (by rfl) _ _ 111 _ (by rfl) Tryz.underlying111 zf0 rfl (by decide) (by decide) v ((ts.take k).map (za9 l)) (by rfl) hO.out ⟨V2.heap.size,0,none⟩ 1 (by rfl) x.cpl [.slice A3 x.cpl.length c3] rfl hC.out h1C.out hRR.out hGG.out (by simp;omega) (by rw[hlen];omega) (V2.heap.size+1) (by simp) ?_;intro g cap w3 hown1 hgrow hat hlt3;have s2:=(hgrow.cell_far ⟨cp,2,none⟩ (show cp<_ by simp;omega) (fun e=>HVC.out e.symm)).trans (zaa r2 ((Below.refl _ V2).drew.alloc (Qiz _) (.cells #[.slice A3 x.cpl.length c3] 108)));have s2f:w3.frozen? ⟨cp,2,none⟩=false:=(hgrow.frozen_far ⟨cp,2,none⟩ (show cp<_ by simp;omega) (fun e=>HVC.out e.symm)).trans ((World.frozen?_of_block (a:=⟨cp,2,none⟩) (((Below.refl _ V2).drew.alloc (Qiz _) (.cells #[.slice A3 x.cpl.length c3] 108)).block cp hcpV)).trans rf2))
   all_goals go_wp2
   all_goals
    have hgc:g≠cp:=by
     rintro rfl;rcases hat with e|e
     ·exact HVC.out e
     ·omega
    have hszw:V2.heap.size<w3.heap.size:=by have:=hgrow.size;simp at this;omega
    have chs:Chg (fun b=>b=cp∨v.ownBlock=some b∨V2.heap.size≤b) V2 (w3.setCell ⟨cp,2,none⟩ (.slice (some ⟨g,0,none⟩) (k+1) cap)):=
     ((Chg.of (((Below.refl _ V2).drew.alloc (Qiz _) (.cells #[.slice A3 x.cpl.length c3] 108)))).trans (Chg.grown hgrow fun b e=>.inr (.inl e))).trans (Chg.setCell w3 (p:=⟨cp,2,none⟩) (.inl rfl) _)
    have own2:Own lstR 108 1 W.heap.size (fun b=>b<W.heap.size) (.slice (some ⟨g,0,none⟩) (k+1) cap) ((ts.take (k+1)).map (za9 l)) (w3.setCell ⟨cp,2,none⟩ (.slice (some ⟨g,0,none⟩) (k+1) cap)):=by
     rw[HS.out];have e:((ts.take k).map (za9 l)).length+1=k+1:=by rw[hlen]
     rw[e]at hown1;exact hown1.setCell (p:=⟨cp,2,none⟩) (fun b hb=>by have:=HCP.out;show b≠cp;omega) (by simp[Value.ownBlock];exact hgc) _
    have k3:Keep (fun b=>b=cp) V2 w3:=((Keep.drew _ V2).trans (Keep.alloc _ _ _)).trans (Keep.grown hgrow fun b hb e=>HVC.out (by rw[hb]at e;exact e.symm));have f3:w3.frozen? ⟨cp,3,none⟩=false:=(World.frozen?_of_block (a:=⟨cp,3,none⟩) (k3.2 cp hcpV rfl)).trans rf3;have k0:=k3.trans (Keep.refl _ w3);have e0:(w3.setCell ⟨cp,2,none⟩ (.slice (some ⟨g,0,none⟩) (k+1) cap)).cell? ⟨cp,0,none⟩=some (.slice (some ⟨bh,offh,none⟩) l.length cH):=(World.cell?_setCell_other _ _ _ _ (by simp)).trans (zah r0 k3 rfl)
    have e1:(w3.setCell ⟨cp,2,none⟩ (.slice (some ⟨g,0,none⟩) (k+1) cap)).cell? ⟨cp,1,none⟩=some (.slice (some ⟨b2,off2,none⟩) ts.length cT):=(World.cell?_setCell_other _ _ _ _ (by simp)).trans (zah r1 k3 rfl);have e2:(w3.setCell ⟨cp,2,none⟩ (.slice (some ⟨g,0,none⟩) (k+1) cap)).cell? ⟨cp,2,none⟩=some (.slice (some ⟨g,0,none⟩) (k+1) cap):=World.cell?_setCell_same' _ _ _ (by rw[s2];rfl);have e3:(w3.setCell ⟨cp,2,none⟩ (.slice (some ⟨g,0,none⟩) (k+1) cap)).cell? ⟨cp,3,none⟩=some Value.nilFunc:=(World.cell?_setCell_other _ _ _ _ (by simp)).trans (zah r3 k3 rfl)
    have bF:Below W.heap.size W (w3.setCell ⟨cp,2,none⟩ (.slice (some ⟨g,0,none⟩) (k+1) cap)):=by
     exact((bWV2.drew.alloc (by simpa using hsz) _).grown hgrow (by simp;omega) (fun k' e=>HVB.out k' e)).setCell (p:=⟨cp,2,none⟩) (by have:=HCP.out;show W.heap.size≤cp;omega) _
    refine⟨⟨k+1,by have:=HK.out;omega,by go_num,_,own2,by simp[Value.ownBlock];exact hgc,e0,e1,e2,by rw[World.frozen?_setCell];exact s2f,e3,by rw[World.frozen?_setCell];exact f3,bF⟩,by simp[intOf];have:=HK.out;omega⟩
  ·obtain rfl:k=ts.length:=by omega
   have hmf:∀(fn:Fn)(first cap:Array Value)(w:World),(Instr.makeFunc fn first cap).run Tryz.prog w=.ok (.func fn first cap) w:=fun _ _ _ _=>rfl;rw[List.take_length]at hown;obtain⟨A2,c2,rfl,hc2,hH⟩:=hown.out;rw[List.length_map]at hown hH hvc q2 hc2;have HH:=Qaz hH;have HV:=Qaz hvc;have HO:=Qaz hown;clear hH hvc hown;go_wp2;go_ret;have HCP2:=HCP.out;have k3:Keep (fun b=>b≠cp) wr (wr.setCell ⟨cp,3,none⟩ (.func (.func 55) #[.pointer (some ⟨cp,0,none⟩)] #[])):=Keep.setCell wr (p:=⟨cp,3,none⟩) (fun b hb=>hb) _
   refine⟨cp,A2,c2,rfl,hb.setCell (p:=⟨cp,3,none⟩) (by show W.heap.size≤cp;omega) _,by omega,⟨(World.cell?_setCell_other _ _ _ _ (by simp)).trans q0,(World.cell?_setCell_other _ _ _ _ (by simp)).trans q1⟩,(World.cell?_setCell_other _ _ _ _ (by simp)).trans q2,World.cell?_setCell_same' _ _ _ (by rw[q3];rfl),?_⟩;have hg:(wr.setCell ⟨cp,3,none⟩ (.func (.func 55) #[.pointer (some ⟨cp,0,none⟩)] #[])).heap.size=wr.heap.size:=by simp[World.setCell]
   refine(HH.out.keep (k3.mono ?_)).mono (fun b hb1 hb2=>by rw[hg]at*;assumption);rintro b (hb'|hb') rfl
   ·omega
   ·exact HV.out hb'
theorem zlo{l:List CI}{t:Tag}:zga l t=0↔zbt l t=true:=by
 unfold zga;cases zbt l t<;>simp
open Classical in
theorem zfe{l:List CI}{ms:List Meth}{ts:List Tag}(h:¬zai l):zaf l ms ts=80:=by unfold zaf;rw[if_pos h]
open Classical in
theorem ze8{l:List CI}{ms:List Meth}{ts:List Tag}(h:zai l)(h2:300<ms.length):zaf l ms ts=2:=by unfold zaf;rw[if_neg (fun q=>q h),if_pos h2]
open Classical in
theorem zbw{l:List CI}{ms:List Meth}{ts:List Tag}(h:zai l)(h2:¬300<ms.length)(h3:zcs l ms=false∨6<ts.length∨(0<ms.length∧(ms[0]?.map fun m=>m.pars.length).getD 0≠ts.length)):zaf l ms ts=101:=by
 unfold zaf;rw[if_neg (fun q=>q h),if_neg h2,if_pos h3]
open Classical in
theorem zc1{l:List CI}{ms:List Meth}{ts:List Tag}(h:zai l)(h2:¬300<ms.length)(h3:¬(zcs l ms=false∨6<ts.length∨(0<ms.length∧(ms[0]?.map fun m=>m.pars.length).getD 0≠ts.length))):zaf l ms ts=if ts.all (zbt l)then 0 else 82:=by
 unfold zaf;rw[if_neg (fun q=>q h),if_neg h2,if_neg h3]
theorem za2{l:List CI}{ms:List Meth}{ts:List Tag}(h:zaf l ms ts=0):zai l∧ms.length≤300∧zcs l ms=true∧ts.length≤6∧(∀m∈ms,m.pars.length=ts.length)∧∀t∈ts,zbt l t=true:=by
 by_cases h1:zai l
 ·by_cases h2:300<ms.length
  ·rw[ze8 h1 h2]at h;cases h
  ·by_cases h3:zcs l ms=false∨6<ts.length∨(0<ms.length∧(ms[0]?.map fun m=>m.pars.length).getD 0≠ts.length)
   ·rw[zbw h1 h2 h3]at h;cases h
   ·rw[zc1 h1 h2 h3]at h;have h4:zcs l ms=true:=by
     cases q:zcs l ms with
     |true=>rfl
     |false=>exact absurd (.inl q) h3
    have h5:¬6<ts.length:=fun q=>h3 (.inr (.inl q));refine⟨h1,by omega,h4,by omega,fun m hm=> ?_,?_⟩
    ·have h6:(ms[0]?.map fun m=>m.pars.length).getD 0=ts.length:=Classical.byContradiction fun q=>h3 (.inr (.inr ⟨List.length_pos_of_mem hm,q⟩));unfold zcs at h4;rw[h6,Bool.and_eq_true]at h4;have:=List.all_eq_true.1 h4.2 m hm;unfold zeg at this;simp only[Bool.and_eq_true,decide_eq_true_eq]at this;exact this.1.1
    ·intro t ht;cases q:ts.all (zbt l)with
     |true=>exact List.all_eq_true.1 q t ht
     |false=>rw[q]at h;simp at h
 ·rw[zfe h1]at h;cases h
theorem zmn(AH:Option Addr)(cH:Nat)(l:List CI)(A:Option Addr)(c:Nat)(ms:List Meth)(AT:Option Addr)(cT:Nat)(ts:List Tag)(W:World)(GH:Nat→Prop)(h:Held GH (CIs AH l) W)(hcH:l.length≤cH)(ol:∀x∈l,zdo x)(hl:l.length≤1000000)
  (G:Nat→Prop) (hM:Held G (Meths A ms) W) (hn:ms.length≤1000000) (hs:∀m∈ms,∀p∈m.pars,TySmall p.type) (hp:∀m∈ms,m.pars.length≤1000000) (GT:Nat→Prop) (hT:Held GT (Tags AT ts) W) (hts:ts.length≤1000000):
  Calls Tryz.prog 12 #[.slice AH l.length cH,.slice A ms.length c,.slice AT ts.length cT] W fun e W'=>e=.returned (.int .i64 (zaf l ms ts))∧Below W.heap.size W W':=by
 have HC:=Qaz (zkw AH cH l W hcH GH h ol hl);have HA:Hid (∀V,Below W.heap.size W V→zai l→Calls Tryz.prog 45 #[.slice AH l.length cH,.slice A ms.length c] V fun e W'=>e=.returned (.bool (zcs l ms))∧Below V.heap.size V W'):=
  Qaz (fun V hv hL=>zgb AH cH l A c ms V GH (h.keep (Keep.all hv)) hcH ol hl G (hM.keep (Keep.all hv)) hn hL hs hp)
 have HT:Hid (∀t V,Below W.heap.size W V→zai l→Calls Tryz.prog 46 #[.slice AH l.length cH,tagV t] V fun e W'=>e=.returned (.int .i64 (zga l t))∧Below V.heap.size V W'):=
  Qaz (fun t V hv hL=>(zmw AH cH l t V hcH GH (h.keep (Keep.all hv)) ol hl).mono (by
   rintro e w' ⟨q,(⟨q1,_⟩|⟨_,rfl⟩)⟩
   ·exact absurd hL q1
   ·exact⟨rfl,q⟩))
 have HM:=Qaz hM;clear h ol hM hs hp;go_enter Tryz.func12,Tryz.ntmps12;go_wp2_with (fail);refine HC.out.mono ?_;clear HC;rintro e V ⟨hbv,(⟨hL,rfl⟩|⟨hL,rfl⟩)⟩
 ·have HL:=Qaz hL;clear hL;by_cases h3:300<ms.length
  ·have h3':(300:Int)<(ms.length:Int):=by omega
   have HE:=Qaz (ze8 (ts:=ts) HL.out h3);go_wp2;go_ret;exact⟨(by rw[HE.out];try rfl),hbv⟩
  ·have h3':¬(300:Int)<(ms.length:Int):=by omega
   have H3:=Qaz h3;have HAV:=Qaz (HA.out V hbv HL.out);clear h3 HA;cases ha:zcs l ms with
   |false=>
    have HE:=Qaz (zbw (ts:=ts) HL.out H3.out (.inl ha));rw[ha]at HAV;clear ha;go_wp2_with (fail);refine HAV.out.mono ?_;clear HAV;rintro e V2 ⟨rfl,hb2⟩;go_wp2;go_ret;exact⟨(by rw[HE.out];try rfl),hbv.trans (hb2.mono hbv.size)⟩
   |true=>
    have HAT:=Qaz ha;rw[ha]at HAV;clear ha;by_cases h6:6<ts.length
    ·have h6':(6:Int)<(ts.length:Int):=by omega
     have HE:=Qaz (zbw (ms:=ms) HL.out H3.out (.inr (.inl h6)));go_wp2_with (fail);refine HAV.out.mono ?_;clear HAV;rintro e V2 ⟨rfl,hb2⟩;go_wp2;go_ret;exact⟨(by rw[HE.out];try rfl),hbv.trans (hb2.mono hbv.size)⟩
    ·have h6':¬(6:Int)<(ts.length:Int):=by omega
     have H6:=Qaz h6;clear h6;by_cases h0:0<ms.length
     ·have h0':(0:Int)<(ms.length:Int):=by omega
      obtain⟨b,off,rfl⟩:=Slc.addrH HM.out h0;have hx:ms[0]? =some ms[0]:=Qbz h0;generalize ms[0]=m0 at hx;have HX:=Qaz hx;clear hx;go_wp2_with (fail);refine HAV.out.mono ?_;clear HAV;rintro e V2 ⟨rfl,hb2⟩;have bV2:=hbv.trans (hb2.mono hbv.size);obtain⟨B1,d1,B2,d2,_,_,_,_,_,_,q2,_,_,_,_,_⟩:=Meths.atH (HM.out.keep (Keep.all bV2)) HX.out;rw[Nat.zero_mul,Nat.add_zero]at q2;by_cases hpl:m0.pars.length=ts.length
      ·have t2:((m0.pars.length:Int) != (ts.length:Int))=false:=bne_eq_false_iff_eq.2 (by omega);have HNE:Hid (zaf l ms ts=if ts.all (zbt l)then 0 else 82):=Qaz (zc1 HL.out H3.out (by
        rintro(q|q|⟨_,q⟩)
        ·rw[HAT.out]at q;cases q
        ·exact H6.out q
        ·rw[HX.out]at q;exact q hpl))
       clear hpl;go_wp2_with (fail)
       go_loopw [45] (fun i wr=>∃k:Nat,k≤ts.length∧i=.int .i64 k∧(∀(j:Nat)(t:Tag),j<k→ts[j]? =some t→zbt l t=true)∧Below W.heap.size W wr) (fun i _=>ts.length-(intOf i).toNat)
       case atStart=>exact⟨0,Qjz _,rfl,fun j t hj=>absurd hj (by omega),bV2⟩
       case round=>
        obtain⟨k,hk,rfl,hok,hbr⟩:=hrel;have HOK:=Qaz hok;clear hok;by_cases hlt:k<ts.length
        ·obtain⟨bt,ot,rfl⟩:=Slc.addrH hT (by omega);have hx:ts[k]? =some ts[k]:=Qbz hlt;generalize ts[k]=t at hx;have HY:=Qaz hx;obtain⟨d0,d1,d2⟩:=Tags.atH (hT.keep (Keep.all hbr)) hx;clear hx;have bal:Below W.heap.size W (wr.alloc (.cells #[.int .i64 t.kind,.int .i64 t.num,.string t.name] 39)):=hbr.alloc hbr.size _;have HTT:=Qaz (HT.out t _ bal HL.out);cases hto:zbt l t with
         |true=>
          have hte:zga l t=0:=zlo.2 hto;have HTO:=Qaz hto;rw[hte]at HTT;clear hto hte;go_wp2_with (fail);refine HTT.out.mono ?_;clear HTT;rintro e V3 ⟨rfl,hb3⟩;go_wp2;refine⟨⟨k+1,by omega,by go_num,fun j t' hj ht'=> ?_,bal.trans (hb3.mono bal.size)⟩,by simp[intOf];omega⟩;rcases Nat.lt_or_ge j k with z|z
          ·exact HOK.out j t' z ht'
          ·obtain rfl:j=k:=by omega
           rw[HY.out]at ht';cases ht';exact HTO.out
         |false=>
          have hte:zga l t=82:=by unfold zga;rw[hto];rfl
          have HE:Hid (zaf l ms ts=82):=Qaz (by
           rw[HNE.out];have:ts.all (zbt l)=false:=List.all_eq_false.2 ⟨t,Qdz HY.out,by rw[hto];decide⟩;rw[this];rfl)
          rw[hte]at HTT;clear hto hte;go_wp2_with (fail);refine HTT.out.mono ?_;clear HTT;rintro e V3 ⟨rfl,hb3⟩;go_wp2;go_ret;exact⟨(by rw[HE.out];try rfl),bal.trans (hb3.mono bal.size)⟩
        ·obtain rfl:k=ts.length:=by omega
         have HE:Hid (zaf l ms ts=0):=Qaz (by
          rw[HNE.out];have:ts.all (zbt l)=true:=List.all_eq_true.2 fun t ht=>by
           obtain⟨j,hj⟩:=Qez ht;exact HOK.out j t (Qcz hj).1 hj
          rw[this];rfl)
         go_wp2;go_ret;exact⟨(by rw[HE.out];try rfl),hbr⟩
      ·have t2:((m0.pars.length:Int) != (ts.length:Int))=true:=by rw[bne_iff_ne];omega
       have HE:=Qaz (zbw HL.out H3.out (.inr (.inr ⟨h0,by rw[HX.out];exact hpl⟩)));clear hpl;go_wp2;go_ret;exact⟨(by rw[HE.out];try rfl),bV2⟩
     ·have h0':¬(0:Int)<(ms.length:Int):=by omega
      have HNE:Hid (zaf l ms ts=if ts.all (zbt l)then 0 else 82):=Qaz (zc1 HL.out H3.out (by
       rintro(q|q|⟨q,_⟩)
       ·rw[HAT.out]at q;cases q
       ·exact H6.out q
       ·exact h0 q))
      go_wp2_with (fail);refine HAV.out.mono ?_;clear HAV;rintro e V2 ⟨rfl,hb2⟩;have bV2:=hbv.trans (hb2.mono hbv.size);go_wp2_with (fail)
      go_loopw [45] (fun i wr=>∃k:Nat,k≤ts.length∧i=.int .i64 k∧(∀(j:Nat)(t:Tag),j<k→ts[j]? =some t→zbt l t=true)∧Below W.heap.size W wr) (fun i _=>ts.length-(intOf i).toNat)
      case atStart=>exact⟨0,Qjz _,rfl,fun j t hj=>absurd hj (by omega),bV2⟩
      case round=>
       obtain⟨k,hk,rfl,hok,hbr⟩:=hrel;have HOK:=Qaz hok;clear hok;by_cases hlt:k<ts.length
       ·obtain⟨bt,ot,rfl⟩:=Slc.addrH hT (by omega);have hx:ts[k]? =some ts[k]:=Qbz hlt;generalize ts[k]=t at hx;have HY:=Qaz hx;obtain⟨d0,d1,d2⟩:=Tags.atH (hT.keep (Keep.all hbr)) hx;clear hx;have bal:Below W.heap.size W (wr.alloc (.cells #[.int .i64 t.kind,.int .i64 t.num,.string t.name] 39)):=hbr.alloc hbr.size _;have HTT:=Qaz (HT.out t _ bal HL.out);cases hto:zbt l t with
        |true=>
         have hte:zga l t=0:=zlo.2 hto;have HTO:=Qaz hto;rw[hte]at HTT;clear hto hte;go_wp2_with (fail);refine HTT.out.mono ?_;clear HTT;rintro e V3 ⟨rfl,hb3⟩;go_wp2;refine⟨⟨k+1,by omega,by go_num,fun j t' hj ht'=> ?_,bal.trans (hb3.mono bal.size)⟩,by simp[intOf];omega⟩;rcases Nat.lt_or_ge j k with z|z
         ·exact HOK.out j t' z ht'
         ·obtain rfl:j=k:=by omega
          rw[HY.out]at ht';cases ht';exact HTO.out
        |false=>
         have hte:zga l t=82:=by unfold zga;rw[hto];rfl
         have HE:Hid (zaf l ms ts=82):=Qaz (by
          rw[HNE.out];have:ts.all (zbt l)=false:=List.all_eq_false.2 ⟨t,Qdz HY.out,by rw[hto];decide⟩;rw[this];rfl)
         rw[hte]at HTT;clear hto hte;go_wp2_with (fail);refine HTT.out.mono ?_;clear HTT;rintro e V3 ⟨rfl,hb3⟩;go_wp2;go_ret;exact⟨(by rw[HE.out];try rfl),bal.trans (hb3.mono bal.size)⟩
       ·obtain rfl:k=ts.length:=by omega
        have HE:Hid (zaf l ms ts=0):=Qaz (by
         rw[HNE.out];have:ts.all (zbt l)=true:=List.all_eq_true.2 fun t ht=>by
          obtain⟨j,hj⟩:=Qez ht;exact HOK.out j t (Qcz hj).1 hj
         rw[this];rfl)
        go_wp2;go_ret;exact⟨(by rw[HE.out];try rfl),hbr⟩
 ·have HE:=Qaz (zfe (ms:=ms) (ts:=ts) hL);clear hL;go_wp2;go_ret;exact⟨(by rw[HE.out];try rfl),hbv⟩
theorem zeq{l:List CI}(h:zai l)(t:Tag):(za9 l t).length≤1000000:=by
 unfold za9;cases hf:l.find? (fun x=>decide (x.name=zbd t))with
 |none=>simp
 |some x=>
  obtain⟨j,hj⟩:=Qez (List.mem_of_find?_eq_some hf);have h1:=zbr (zaz h.2.2.2.2.1).2 (h.2.2.2.2.2 j x hj);rw[zba]at h1;have:=h.1;show x.cpl.length≤_;omega
structure Asks (AH:Option Addr) (cH:Nat) (l:List CI) (A:Option Addr) (ms:List Meth) (AT:Option Addr) (ts:List Tag) (W:World):Prop where
 h:∃G,Held G (CIs AH l) W
 hcH:l.length≤cH
 ol:∀x∈l,zdo x
 hl:l.length≤1000000
 hM:∃G,Held G (Meths A ms) W
 hn:ms.length≤1000000
 hs:∀m∈ms,∀p∈m.pars,TySmall p.type
 hp:∀m∈ms,m.pars.length≤1000000
 hT:∃G,Held G (Tags AT ts) W
 hts:ts.length≤1000000
theorem Asks.keep{AH:Option Addr}{cH:Nat}{l:List CI}{A:Option Addr}{ms:List Meth}{AT:Option Addr}{ts:List Tag}{W V:World}(q:Asks AH cH l A ms AT ts W)(b:Below W.heap.size W V):Asks AH cH l A ms AT ts V:=
 ⟨q.h.imp fun _ h=>h.keep (Keep.all b),q.hcH,q.ol,q.hl,q.hM.imp fun _ h=>h.keep (Keep.all b),q.hn,q.hs,q.hp,q.hT.imp fun _ h=>h.keep (Keep.all b),q.hts⟩
theorem zjt(AH:Option Addr)(cH:Nat)(l:List CI)(A:Option Addr)(c:Nat)(ms:List Meth)(AT:Option Addr)(cT:Nat)(ts:List Tag)(W:World)(q:Asks AH cH l A ms AT ts W):
  Calls Tryz.prog 39 #[.slice AH l.length cH,.slice A ms.length c,.slice AT ts.length cT] W fun e W'=>Below W.heap.size W W'∧
   ((zaf l ms ts≠0∧e=.returned (.tuple #[.pointer none,.int .i64 (zaf l ms ts)]))∨(zaf l ms ts=0∧∃cp A2 c2,e=.returned (.tuple #[.pointer (some ⟨cp,0,none⟩),.int .i64 0])∧W.heap.size≤cp∧OpenAt cp AH cH l AT cT ts A2 c2 W')):=by
 obtain⟨GH,h⟩:=q.h;obtain⟨GM,hM⟩:=q.hM;obtain⟨GT,hT⟩:=q.hT;have HC:=Qaz (zmn AH cH l A c ms AT cT ts W GH h q.hcH q.ol q.hl GM hM q.hn q.hs q.hp GT hT q.hts);have HOP:Hid (∀V,Below W.heap.size W V→zaf l ms ts=0→Calls Tryz.prog 54 #[.slice AH l.length cH,.slice AT ts.length cT] V fun e W'=>∃cp A2 c2,e=.returned (.pointer (some ⟨cp,0,none⟩))∧Below V.heap.size V W'∧V.heap.size≤cp∧OpenAt cp AH cH l AT cT ts A2 c2 W'):=
  Qaz (fun V hv he=>by
   obtain⟨z1,z2,z3,z4,z5,z6⟩:=za2 he;refine(zqd AH cH l AT cT ts V GH (h.keep (Keep.all hv)) q.hcH q.ol q.hl GT (hT.keep (Keep.all hv)) q.hts z1 z6).mono ?_;rintro e w' ⟨cp,A2,c2,rfl,q1,q2,q3,q4,q5,q6⟩;exact⟨cp,A2,c2,rfl,q1,q2,q3,q4,q5,q6⟩)
 clear h hM hT q;go_enter Tryz.func39,Tryz.ntmps39;by_cases hz:zaf l ms ts=0
 ·have HZ:=Qaz hz;rw[hz]at HC;clear hz;go_wp2_with (fail);refine HC.out.mono ?_;clear HC;rintro e V ⟨rfl,hbv⟩;go_wp2_with (fail);refine(HOP.out V hbv HZ.out).mono ?_;clear HOP;rintro e V2 ⟨cp,A2,c2,rfl,hb2,hcp,ho⟩;have HO:=Qaz ho;clear ho;go_wp2;go_ret2;exact⟨hbv.trans (hb2.mono hbv.size),.inr ⟨HZ.out,cp,A2,c2,rfl,Nat.le_trans hbv.size hcp,HO.out⟩⟩
 ·have HZ:=Qaz hz;have t1:(zaf l ms ts != 0)=true:=by rw[bne_iff_ne];exact hz
  clear hz;generalize zaf l ms ts=ce at HC t1 HZ HOP ⊢;go_wp2_with (fail);refine HC.out.mono ?_;clear HC;rintro e V ⟨rfl,hbv⟩;go_wp2;go_ret2;exact⟨hbv,.inl ⟨HZ.out,rfl⟩⟩
noncomputable def za4 (l:List CI)(ms:List Meth)(ts:List Tag):List Int×Bool:=if zaf l ms ts=0 then((zcw l ts ms).1.map (·.id),decide (0<(zcw l ts ms).2.length))else([],false)
theorem zks(l:List CI)(ts:List Tag)(ms:List Meth):(zcw l ts ms).1.length≤ms.length∧(zcw l ts ms).2.length≤ms.length:=by
 have h1:=(zd4 (P:=zbs l ts) (ms.filter (zde l ts)).length (ms.filter (zde l ts))).length_eq;rw[List.length_append]at h1;have h2:=List.length_filter_le (zde l ts) ms;unfold zcw;omega
theorem zhz(AH:Option Addr)(cH:Nat)(l:List CI)(A:Option Addr)(c:Nat)(ms:List Meth)(AT:Option Addr)(cT:Nat)(ts:List Tag)(W:World)(q:Asks AH cH l A ms AT ts W):
  Calls Tryz.prog 26 #[.slice AH l.length cH,.slice A ms.length c,.slice AT ts.length cT] W fun e W'=>∃v,e=.returned (.tuple #[v,.bool (za4 l ms ts).2])∧Own zfh 3 1 W.heap.size (fun _=>False) v (za4 l ms ts).1 W'∧Below W.heap.size W W':=by
 have HC:=Qaz (zjt AH cH l A c ms AT cT ts W q);obtain⟨GH,h⟩:=q.h;obtain⟨GM,hM⟩:=q.hM;obtain⟨GT,hT⟩:=q.hT;have HOR:Hid (∀V cp A2 c2,Below W.heap.size W V→zaf l ms ts=0→OpenAt cp AH cH l AT cT ts A2 c2 V→Calls Tryz.prog 61 #[.pointer (some ⟨cp,0,none⟩),.slice A ms.length c] V fun e W'=>∃v1 v2,e=.returned (.tuple #[v1,v2])∧Own metR 68 8 V.heap.size (fun b=>b<V.heap.size) v1 (zcw l ts ms).1 W'∧
   Own metR 68 8 V.heap.size (fun b=>b<V.heap.size) v2 (zcw l ts ms).2 W'∧Below V.heap.size V W'):=
  Qaz (fun V cp A2 c2 hv he ho=>by
   obtain⟨z1,z2,z3,z4,z5,z6⟩:=za2 he;exact zi1 cp AH cH l AT cT ts A2 c2 V ho GH (h.keep (Keep.all hv)) q.hcH q.hl q.ol (fun t _=>zeq z1 t) q.hts GT (hT.keep (Keep.all hv)) A c ms GM (hM.keep (Keep.all hv)) q.hn z5 q.hs)
 have hn:=q.hn;have HL:=Qaz (zks l ts ms);clear h hM hT q;go_enter Tryz.func26,Tryz.ntmps26;go_wp2_with (fail);refine HC.out.mono ?_;clear HC;rintro e V ⟨hbv,(⟨hz,rfl⟩|⟨hz,cp,A2,c2,rfl,hcp,ho⟩)⟩
 ·have t1:(zaf l ms ts != 0)=true:=by rw[bne_iff_ne];exact hz
  have HR:Hid (za4 l ms ts=([],false)):=Qaz (by unfold za4;rw[if_neg hz]);clear hz HOR;generalize zaf l ms ts=ce at t1;go_wp2;go_ret2;exact⟨_,by rw[HR.out];rfl,by rw[HR.out];exact Own.nil _ _ _ _ _ _,hbv⟩
 ·have HO2:=Qaz (HOR.out V cp A2 c2 hbv hz ho);have HR:Hid (za4 l ms ts=((zcw l ts ms).1.map (·.id),decide (0<(zcw l ts ms).2.length))):=Qaz (by unfold za4;rw[if_pos hz]);clear ho HOR hz;go_wp2_with (fail);refine HO2.out.mono ?_;clear HO2;rintro e V2 ⟨v1,v2,rfl,h1,h2,hb2⟩;obtain⟨A5,c5,rfl,hc5,h1'⟩:=h1.out;obtain⟨A6,c6,rfl,hc6,_⟩:=h2.out;have HI:=Qaz (zys A5 c5 (zcw l ts ms).1 _ V2 h1' (by have:=HL.out.1;omega));have bV2:=hbv.trans (hb2.mono hbv.size);clear h1 h2 h1';generalize(zcw l ts ms).1=o1 at HI HR ⊢;generalize(zcw l ts ms).2=o2 at HR ⊢;go_wp2_with (fail);refine HI.out.mono ?_;clear HI
  rintro e V3 ⟨v,rfl,hv,hb3⟩;have HV:=Qaz (hv.lower bV2.size);clear hv;go_wp2;go_ret2;refine⟨v,by rw[HR.out];simp,by rw[HR.out];exact HV.out,bV2.trans (hb3.mono bV2.size)⟩
theorem zex(s:ByteArray)(w:World):Calls Tryz.prog 38 #[.string s] w fun e w'=>e=.returned (tyV (zkk s) none 0)∧Below w.heap.size w w':=by
 go_enter Tryz.func38,Tryz.ntmps38;go_wp2;refine bodyPost_ret (v:=tyV (zkk s) none 0) (by simp[results,Tryz.results38,go_sem];first|done|exact⟨rfl,rfl,rfl,rfl,rfl⟩) rfl ?_;exact⟨rfl,(Below.refl _ w).alloc (Qiz _) _⟩
theorem parR.mk{G:Nat→Prop}{n:ByteArray}{t:Ty}{w:World}{A:Option Addr}{c:Nat}(h1:t.args.length≤c)(h3:Held G (Typs A t.args) w):Held G (parR ⟨n,t⟩ [.string n,.int .i64 t.kind,.string t.name,.int .i64 t.lo,.int .i64 t.hi,.slice A t.args.length c]) w:=fun w' k=>⟨_,rfl,rfl,typR.mk h1 h3 w' k⟩
def nX:ByteArray:=⟨#[120]⟩
def zp2(i:Int)(t:Ty):Meth:=⟨i,⟨#[]⟩,[⟨nX,t⟩],.mk 0 ⟨#[]⟩ 0 0 []⟩
theorem zob(i:Int)(t:Ty)(A:Option Addr)(c:Nat)(w:World)(G:Nat→Prop)(hA:Held G (Typs A t.args) w)(hc:t.args.length≤c):
  Calls Tryz.prog 37 #[.int .i64 i,tyV t A c] w fun e w'=>∃n,e=.returned (zk2 (zp2 i t) (some ⟨n,0,none⟩) 1 none 0)∧w.heap.size≤n∧n<w'.heap.size∧Held (fun b=>G b∨b=n) (Pars (some ⟨n,0,none⟩) (zp2 i t).pars) w'∧Below w.heap.size w w':=by
 go_enter Tryz.func37,Tryz.ntmps37;go_wp2;refine bodyPost_ret (v:=zk2 (zp2 i t) (some ⟨w.heap.size+1+1,0,none⟩) 1 none 0) (by simp[results,Tryz.results37,go_sem];first|done|rfl|exact⟨rfl,rfl,rfl,rfl,rfl,rfl,rfl,rfl⟩) rfl ?_;refine⟨w.heap.size+1+1,rfl,by omega,by simp,?_,(((Below.refl _ w).alloc (Qiz _) _).alloc (by simp) _).alloc (by simp;omega) _⟩
 exact(Own.read (Own.single (R:=parR) (base:=0) (x:=⟨nX,t⟩) (n:=w.heap.size+1+1) (by simp) (Qjz _) rfl (by simp) (parR.mk hc (hA.keep ((Keep.alloc _ _ _).trans (Keep.alloc _ _ _)))))).2.2.mono fun b _ h=>by rcases h with h|h;exact .inl h;exact .inr (by simpa[Value.ownBlock]using h.symm)
theorem zez(i:Int)(t:Ty)(A:Option Addr)(c:Nat)(w:World)(G:Nat→Prop)(hA:Held G (Typs A t.args) w)(hc:t.args.length≤c):
  Calls Tryz.prog 37 #[.int .i64 i,tyV t A c] w fun e w'=>∃n,e=.returned (zk2 (zp2 i t) (some ⟨n,0,none⟩) 1 none 0)∧w.heap.size≤n∧n<w'.heap.size∧Held (fun b=>b<w'.heap.size) (Pars (some ⟨n,0,none⟩) (zp2 i t).pars) w'∧Below w.heap.size w w':=
 (zob i t A c w G hA hc).mono fun e w' ⟨n,h1,h2,h3,h4,h5⟩=>⟨n,h1,h2,h3,h4.mono fun b hb _=>hb,h5⟩
theorem zbv(A:Option Addr)(c:Nat)(l:List ByteArray)(x:ByteArray)(w:World)(hA:Strs A l w)(hl:l.length≤1000000):
  Calls Tryz.prog 97 #[.slice A l.length c,.string x] w fun e w'=>e=.returned (.int .i64 (idx l x))∧w=w':=by
 go_enter Tryz.func97,Tryz.ntmps97;go_wp2
 go_loop [5] (fun i=>∃k:Nat,k≤l.length∧i=.int .i64 k∧∀j y,j<k→l[j]? =some y→y≠x) (fun i=>l.length-(intOf i).toNat)
 case atStart=>exact⟨0,Qjz _,rfl,fun j y h=>absurd h (by omega)⟩
 case round=>
  obtain⟨k,hk,rfl,heq⟩:=hrel;have HE:=Qaz heq;clear heq;by_cases hlt:k<l.length
  ·obtain⟨b,off,rfl⟩:=hA.addr (by omega);have hy:l[k]? =some l[k]:=Qbz hlt;have h1:=Strs.at hA hy;generalize l[k]=y at hy h1;have HY:=Qaz hy;clear hy;by_cases hyx:y=x
   ·subst hyx;have HI:Hid (idx l y=k):=Qaz (by
     unfold idx;have:l.findIdx? (fun z=>decide (z=y))=some k:=by
      rw[List.findIdx?_eq_some_iff_getElem];obtain⟨h0,e0⟩:=Qcz HY.out;refine⟨h0,by simp[e0],fun j hj=> ?_⟩;have:=HE.out j _ hj (Qbz (by omega))
      simpa using this
     rw[this])
    go_wp2;go_ret;exact⟨(by rw[HI.out];try rfl),rfl⟩
   ·have HN:=Qaz hyx;go_wp2
    go_round
    case rel=>
     refine⟨k+1,by omega,by go_num,fun j z hj hz=> ?_⟩;rcases Nat.lt_or_ge j k with q|q
     ·exact HE.out j z q hz
     ·obtain rfl:j=k:=by omega
      rw[HY.out]at hz;cases hz;exact HN.out
    case measure=>simp[intOf];omega
  ·have HI:Hid (idx l x= -1):=Qaz (zh3 (by
    intro hx;obtain⟨j,hj⟩:=Qez hx;exact HE.out j x (by have:=(Qcz hj).1;omega) hj rfl))
   go_wp2;go_ret;exact⟨(by rw[HI.out];try rfl),rfl⟩
def zbz(l:List ByteArray):Bool:=(List.range l.length).all fun i=>match l[i]? with|some x=> !hasS (l.take i) x|none=>true
theorem zho{l:List ByteArray}(h:zbz l=true):l.Nodup:=by
 rw[List.nodup_iff_pairwise_ne,List.pairwise_iff_getElem];intro i j hi hj hij e;unfold zbz at h;have:=List.all_eq_true.1 h j (List.mem_range.2 hj);rw[Qbz hj]at this;have h1:hasS (l.take j) l[j]=false:=by simpa using this
 refine zbl.1 h1 ?_;rw[←e];exact Qdz (i:=i) (by rw[List.getElem?_take,if_pos hij];exact Qbz hi)
theorem zf9{l:List ByteArray}{x:ByteArray}:decide (0≤idx l x)=hasS l x:=by
 unfold idx hasS;cases h:l.findIdx? (fun y=>decide (y=x))with
 |none=>
  have:(l.any fun y=>decide (y=x))=false:=by
   rw[List.any_eq_false];intro y hy
   have:=List.findIdx?_eq_none_iff.1 h y hy
   simpa using this
  rw[this];rfl
 |some i=>
  have:(l.any fun y=>decide (y=x))=true:=by
   obtain⟨h0,h1,_⟩:=List.findIdx?_eq_some_iff_getElem.1 h;exact List.any_eq_true.2 ⟨l[i],List.getElem_mem h0,h1⟩
  rw[this];exact Qhz (show(0:Int)≤(i:Int) by omega)
theorem zhk(A:Option Addr)(c:Nat)(l:List ByteArray)(w:World)(G:Nat→Prop)(h:Held G (Strs A l) w)(hc:l.length≤c)(hl:l.length≤1000000):
  Calls Tryz.prog 171 #[.slice A l.length c] w fun e w'=>e=.returned (.bool (zbz l))∧Drw w w':=by
 go_enter Tryz.func171,Tryz.ntmps171;go_wp2
 go_loopw [3] (fun i wr=>∃k:Nat,k≤l.length∧i=.int .i64 k∧(∀j y,j<k→l[j]? =some y→hasS (l.take j) y=false)∧Drw w wr) (fun i _=>l.length-(intOf i).toNat)
 case atStart=>exact⟨0,Qjz _,rfl,fun j y h=>absurd h (by omega),Drw.refl _⟩
 case round=>
  obtain⟨k,hk,rfl,heq,hd⟩:=hrel;obtain⟨n,rfl⟩:=hd;have HE:=Qaz heq;clear heq;by_cases hlt:k<l.length
  ·obtain⟨b,off,rfl⟩:=Slc.addrH h (by omega);have hy:l[k]? =some l[k]:=Qbz hlt;have h1:w.cell? ⟨b,off+k,none⟩=some (.string l[k]):=(Strs.atH h hy).now;generalize l[k]=y at hy h1;have HY:=Qaz hy;clear hy;have hkc:k≤c:=by omega
   have hlk:(l.take k).length=k:=by rw[List.length_take];omega
   have HX:Hid (∀U,Drw w U→Calls Tryz.prog 97 #[.slice (some ⟨b,off,none⟩) k c,.string y] U fun e w'=>e=.returned (.int .i64 (idx (l.take k) y))∧U=w'):=Qaz (fun U hu=>by
    obtain⟨m,rfl⟩:=hu;have:=zbv (some ⟨b,off,none⟩) c (l.take k) y (w.drewN m) (((h.imp fun _ _ q=>Slc.take q k).keep (Keep.drewN _ _ _)).now) (by omega);rw[hlk]at this;exact this)
   clear hlk;have HI:Hid (decide (0≤idx (l.take k) y)=hasS (l.take k) y):=Qaz zf9;cases hh:hasS (l.take k) y with
   |true=>
    have t1:decide ((0:Int)≤idx (l.take k) y)=true:=HI.out.trans hh;have HB:Hid (zbz l=false):=Qaz (by
     unfold zbz;rw[List.all_eq_false]
     exact⟨k,List.mem_range.2 hlt,by rw[HY.out];simp[hh]⟩)
    generalize idx (l.take k) y=ix at HX t1;clear hh HI;go_wp2
    go_quiet ((go_at_call 97;exact(HX.out _ (by first|exact Drw.of _ _|exact(Drw.of _ _).drewN _)).mono fun _ _ ⟨a,b⟩=>⟨a,_,b.symm⟩))
    go_wp2;go_ret;exact⟨(by rw[HB.out];try rfl),by first|exact Drw.of _ _|exact(Drw.of _ _).drewN _⟩
   |false=>
    have t1:decide ((0:Int)≤idx (l.take k) y)=false:=HI.out.trans hh;have HH:=Qaz hh;generalize idx (l.take k) y=ix at HX t1;clear hh HI;go_wp2
    go_quiet ((go_at_call 97;exact(HX.out _ (by first|exact Drw.of _ _|exact(Drw.of _ _).drewN _)).mono fun _ _ ⟨a,b⟩=>⟨a,_,b.symm⟩))
    go_wp2;go_roundw
    case rel=>
     refine⟨k+1,by omega,by go_num,fun j z hj hz=> ?_,by first|exact Drw.of _ _|exact(Drw.of _ _).drewN _⟩;rcases Nat.lt_or_ge j k with q|q
     ·exact HE.out j z q hz
     ·obtain rfl:j=k:=by omega
      rw[HY.out]at hz;cases hz;exact HH.out
    case measure=>simp[intOf];omega
  ·have HB:Hid (zbz l=true):=Qaz (by
    unfold zbz;rw[List.all_eq_true]
    intro j hj;have hj':=List.mem_range.1 hj;rw[Qbz hj'];simp[HE.out j _ (by omega) (Qbz hj')])
   go_wp2;go_ret;exact⟨(by rw[HB.out];try rfl),Drw.of _ _⟩
theorem znt(A:Option Addr)(c:Nat)(l:List CI)(s:ByteArray)(w:World)(G:Nat→Prop)(h:Held G (CIs A l) w)(hl:l.length≤1000000):
  Calls Tryz.prog 95 #[.slice A l.length c,.string s] w fun e w'=>w'=w∧∃A' c',e=.returned (.slice A' (((l.find? fun x=>decide (x.name=s)).map CI.cpl).getD []).length c')∧(((l.find? fun x=>decide (x.name=s)).map CI.cpl).getD []).length≤c'∧Held G (Strs A' (((l.find? fun x=>decide (x.name=s)).map CI.cpl).getD [])) w:=by
 go_enter Tryz.func95,Tryz.ntmps95;go_wp2
 go_loop [5] (fun i=>∃k:Nat,k≤l.length∧i=.int .i64 k∧∀j y,j<k→l[j]? =some y→y.name≠s) (fun i=>l.length-(intOf i).toNat)
 case atStart=>exact⟨0,Qjz _,rfl,fun j y h=>absurd h (by omega)⟩
 case round=>
  obtain⟨k,hk,rfl,heq⟩:=hrel;have HE:=Qaz heq;clear heq;by_cases hlt:k<l.length
  ·obtain⟨b,off,rfl⟩:=Slc.addrH h (by omega);have hy:l[k]? =some l[k]:=Qbz hlt;generalize l[k]=y at hy;obtain⟨A2,c2,A3,c3,p1,p2,p3,p4,g0,g1,g2,g3,g4,g5⟩:=CIs.atH h hy;have HY:=Qaz hy;clear hy;by_cases hyx:y.name=s
   ·have HI:Hid (l.find? (fun x=>decide (x.name=s))=some y):=Qaz (by
     rw[List.find?_eq_some_iff_getElem];obtain⟨h0,e0⟩:=Qcz HY.out;refine⟨by simpa using hyx,k,h0,e0,fun j hj=> ?_⟩;have:=HE.out j _ hj (Qbz (by omega))
     simpa using this)
    rw[hyx]at g0;clear hyx;go_wp2;go_ret;refine⟨rfl,A3,c3,?_,?_,?_⟩
    ·rw[HI.out];rfl
    ·rw[HI.out];exact p2
    ·rw[HI.out];exact p4
   ·have HN:=Qaz hyx;go_wp2
    go_round
    case rel=>
     refine⟨k+1,by omega,by go_num,fun j z hj hz=> ?_⟩;rcases Nat.lt_or_ge j k with q|q
     ·exact HE.out j z q hz
     ·obtain rfl:j=k:=by omega
      rw[HY.out]at hz;cases hz;exact HN.out
    case measure=>simp[intOf];omega
  ·have HI:Hid (l.find? (fun x=>decide (x.name=s))=none):=Qaz (by
    rw[List.find?_eq_none];intro y hy;obtain⟨j,hj⟩:=Qez hy;have:=HE.out j y (by have:=(Qcz hj).1;omega) hj
    simpa using this)
   go_wp2;go_ret;refine⟨rfl,none,0,?_,?_,?_⟩
   ·rw[HI.out];rfl
   ·rw[HI.out];exact Qiz _
   ·rw[HI.out];exact fun _ _=>Slc.nil _ _ _ _
theorem zmp(A B:Option Addr)(c d:Nat)(l m:List Int)(w:World)(GA GB:Nat→Prop)(hA:Held GA (Ints A l) w)(hB:Held GB (Ints B m) w)(hl:l.length≤1000000)(hm:m.length≤1000000):
  Calls Tryz.prog 14 #[.slice A l.length c,.slice B m.length d] w fun e w'=>e=.returned (.bool (decide (l=m)))∧Drw w w':=by
 by_cases hlen:l.length=m.length
 ·have t2:((l.length:Int) != (m.length:Int))=false:=bne_eq_false_iff_eq.2 (by omega);have HL:=Qaz hlen;clear hlen;go_enter Tryz.func14,Tryz.ntmps14;go_wp2
  go_loopw [5] (fun i wr=>∃k:Nat,k≤l.length∧i=.int .i64 k∧l.take k=m.take k∧Drw w wr) (fun i _=>l.length-(intOf i).toNat)
  case atStart=>exact⟨0,Qjz _,rfl,by simp,Drw.refl _⟩
  case round=>
   obtain⟨k,hk,rfl,heq,hd⟩:=hrel;obtain⟨n,rfl⟩:=hd;have HE:=Qaz heq;clear heq;by_cases hlt:k<l.length
   ·have hm':k<m.length:=by have:=HL.out;omega
    obtain⟨b,off,rfl⟩:=Slc.addrH hA (by omega);obtain⟨b',off',rfl⟩:=Slc.addrH hB (by omega);have hx:l[k]? =some l[k]:=Qbz hlt;have hy:m[k]? =some m[k]:=Qbz hm';generalize l[k]=x at hx;generalize m[k]=y at hy;have h1:w.cell? ⟨b,off+k,none⟩=some (.int .i64 x):=by
     obtain⟨cs,_,hr,hc⟩:=Slc.atH hA (by decide) hx;obtain rfl:cs=[.int .i64 x]:=hr.now
     simpa using(hc 0 _ rfl).now
    have h2:w.cell? ⟨b',off'+k,none⟩=some (.int .i64 y):=by
     obtain⟨cs,_,hr,hc⟩:=Slc.atH hB (by decide) hy;obtain rfl:cs=[.int .i64 y]:=hr.now
     simpa using(hc 0 _ rfl).now
    have HX:=Qaz hx;have HY:=Qaz hy;clear hx hy;by_cases hxy:x=y
    ·subst hxy;have t1:(x != x)=false:=bne_self_eq_false x;go_wp2
     go_quiet (fail)
     go_wp2;go_roundw
     case rel=>
      refine⟨k+1,by omega,by go_num,?_,Drw.of _ _⟩;rw[List.take_add_one,List.take_add_one,HE.out,HX.out,HY.out]
     case measure=>simp[intOf];omega
    ·have hne:l≠m:=by
      rintro rfl;have:=HX.out;rw[HY.out]at this;exact hxy (Option.some.inj this).symm
     have t1:(x != y)=true:=by rw[bne_iff_ne];exact hxy
     have HN:=Qaz hne;clear hne hxy;go_wp2
     go_quiet (fail)
     go_wp2;go_ret;exact⟨zge (Qgz HN.out).symm,(Drw.of _ _).drewN _⟩
   ·obtain rfl:k=l.length:=by omega
    have:l=m:=by have h:=HE.out;rw[List.take_length]at h;rw[h];exact List.take_of_length_le (by rw[HL.out];exact Qiz _)
    have HM:=Qaz this;clear this;go_wp2;go_ret;exact⟨zge (Qhz HM.out).symm,⟨n,rfl⟩⟩
 ·have t2:((l.length:Int) != (m.length:Int))=true:=by rw[bne_iff_ne];omega
  have HL:Hid (l≠m):=Qaz (fun e=>hlen (by rw[e]));clear hlen;go_enter Tryz.func14,Tryz.ntmps14;go_wp2;go_ret;exact⟨zge (Qgz HL.out).symm,Drw.refl _⟩
end Go.Proofs.YtepnmejahbiacaaGreat
