/- Part 35 of the proof: Ot, Ee, Af, Eg. -/
import Derived.Test.YtepnmejahbiacaaGreatM32
import Derived.Test.YtepnmejahbiacaaGreatM25
import Derived.Test.YtepnmejahbiacaaGreatM24
set_option linter.unusedVariables false
set_option linter.unusedSimpArgs false
set_option maxHeartbeats 64000000
set_option maxRecDepth 100000
namespace Go.Proofs.YtepnmejahbiacaaGreat
open Go.RowKit
noncomputable def zgy (l:List CI)(ms:List Meth)(ts:List Tag):List Int:=if zaf l ms ts=0 then(zcw l ts ms).2.map (·.id)else[]
theorem zxj(l:List CI)(ms:List Meth)(ts:List Tag):(zgy l ms ts).length≤ms.length:=by
 unfold zgy;by_cases h:zaf l ms ts=0
 ·rw[if_pos h,List.length_map];exact(zks l ts ms).2
 ·rw[if_neg h];exact Qjz _
def z2t(A1:Option Addr)(c1:Nat)(o:List Int)(b:Bool)(A2:Option Addr)(c2:Nat)(lf:List Int):Value:=.agg #[.slice A1 o.length c1,.bool b,.slice A2 lf.length c2]
theorem zfq(AH:Option Addr)(cH:Nat)(l:List CI)(A:Option Addr)(c:Nat)(ms:List Meth)(AT:Option Addr)(cT:Nat)(ts:List Tag)(W:World)(q:Asks AH cH l A ms AT ts W)(hcM:ms.length≤c):
  Calls Tryz.prog 27 #[.slice AH l.length cH,.slice A ms.length c,.slice AT ts.length cT] W fun e W'=>∃A1 c1 A2 c2,e=.returned (z2t A1 c1 (za4 l ms ts).1 (za4 l ms ts).2 A2 c2 (zgy l ms ts))∧(za4 l ms ts).1.length≤c1∧Held (fun b=>W.heap.size≤b) (Ints A1 (za4 l ms ts).1) W'∧
   (zgy l ms ts).length≤c2∧Held (fun b=>W.heap.size≤b) (Ints A2 (zgy l ms ts)) W'∧Below W.heap.size W W':=by
 obtain⟨W1,hW1⟩:∃W1,W1=W.alloc (.cells #[.slice none 0 0,.bool false,.slice none 0 0] 47):=⟨_,rfl⟩;have b1:Below W.heap.size W W1:=by rw[hW1];exact(Below.refl _ W).alloc (Qiz _) _
 have CR:Hid (Cel W.heap.size [.slice none 0 0,.bool false,.slice none 0 0] W1):=Qaz (by rw[hW1];exact Cel.new W _ _ _ rfl);have HC:=Qaz (zc7 AH cH l A c ms AT cT ts W1 (q.keep b1) hcM);have HSO:Hid (∀V,Below W.heap.size W V→zaf l ms ts=0→Calls Tryz.prog 69 #[.slice AH l.length cH,.slice A ms.length c,.slice AT ts.length cT] V (zpe l ts ms V)):=Qaz (fun V hv hz=>zmt AH cH l A c ms AT cT ts V (q.keep hv) hz);have HO1:Hid (zaf l ms ts≠0→za4 l ms ts=([],false)∧zgy l ms ts=[]):=Qaz (fun h=>⟨by unfold za4;rw[if_neg h],by unfold zgy;rw[if_neg h]⟩)
 have HO2:Hid (zaf l ms ts=0→za4 l ms ts=((zcw l ts ms).1.map (·.id),decide (0<(zcw l ts ms).2.length))∧zgy l ms ts=(zcw l ts ms).2.map (·.id)):=Qaz (fun h=>⟨by unfold za4;rw[if_pos h],by unfold zgy;rw[if_pos h]⟩);clear q;obtain⟨ce,hce⟩:∃ce,zaf l ms ts=ce:=⟨_,rfl⟩;rw[hce]at HC HSO HO1 HO2;clear hce;go_enter Tryz.func27,Tryz.ntmps27;go_wp2_with (fail);rw[←hW1];clear hW1;refine HC.out.mono ?_;clear HC;rintro e V ⟨rfl,hbv⟩;have q1:=zab b1 hbv;have CV:=Qaz (CR.out.all hbv);by_cases hz:ce=0;rotate_left
 ·have t1:(ce != 0)=true:=by rw[bne_iff_ne];exact hz
  have HE:=Qaz (HO1.out hz);have r0:=(CV.out 0 _ rfl).1;have r1:=(CV.out 1 _ rfl).1;have r2:=(CV.out 2 _ rfl).1;have rf0:=(CV.out 0 _ rfl).2;have rf1:=(CV.out 1 _ rfl).2;have rf2:=(CV.out 2 _ rfl).2;clear hz HO1 HO2 HSO;go_wp2;refine bodyPost_ret (v:=.agg #[.slice none 0 0,.bool false,.slice none 0 0]) (by simp[results,Tryz.results27,go_sem,r0,r1,r2]) rfl ?_;refine⟨none,0,none,0,by rw[HE.out.1,HE.out.2];rfl,by rw[HE.out.1];exact Qiz _,by rw[HE.out.1];exact fun _ _=>Slc.nil _ _ _ _,by rw[HE.out.2];exact Qiz _,by rw[HE.out.2];exact fun _ _=>Slc.nil _ _ _ _,?_⟩
  exact((q1.setCell (p:=⟨W.heap.size,0,none⟩) (Qiz _) _).setCell (p:=⟨W.heap.size,1,none⟩) (Qiz _) _).setCell (p:=⟨W.heap.size,2,none⟩) (Qiz _) _
 have HE:=Qaz (HO2.out hz);have HSV:=Qaz (HSO.out V q1 hz);clear HO1 HO2 HSO;subst hz;go_wp2_with (fail);refine HSV.out.mono ?_;clear HSV;rintro e V2 ⟨A1,c1,A2,c2,rfl,h1,k1,h2,k2,hb2⟩;have q2:=zab q1 hb2;have CV2:=Qaz (CV.out.all hb2);have H1:=Qaz h1;have H2:=Qaz h2;have K1:=Qaz k1;have K2:=Qaz k2;have r0:=(CV2.out 0 _ rfl).1;have r1:=(CV2.out 1 _ rfl).1;have r2:=(CV2.out 2 _ rfl).1;have rf0:=(CV2.out 0 _ rfl).2;have rf1:=(CV2.out 1 _ rfl).2;have rf2:=(CV2.out 2 _ rfl).2;have hsz:W.heap.size<V2.heap.size:=cell_lt r0;clear h1 h2 k1 k2;generalize(zcw l ts ms).1=o1 at H1 K1 HE
 generalize(zcw l ts ms).2=o2 at H2 K2 HE;go_wp2;refine bodyPost_ret (v:=.agg #[.slice A1 o1.length c1,.bool (decide (0<o2.length)),.slice A2 o2.length c2]) (by simp[results,Tryz.results27,go_sem,r0,r1,r2]) rfl ?_;have kk:Keep (fun b=>V.heap.size≤b) V2 (((V2.setCell ⟨W.heap.size,0,none⟩ (.slice A1 o1.length c1)).setCell ⟨W.heap.size,1,none⟩ (.bool (decide (0<o2.length)))).setCell ⟨W.heap.size,2,none⟩ (.slice A2 o2.length c2)):=by
  have k:∀(X:World)(j:Nat)(u:Value),Keep (fun b=>V.heap.size≤b) X (X.setCell ⟨W.heap.size,j,none⟩ u):=fun X j u=>Keep.setCell X (p:=⟨W.heap.size,j,none⟩) (fun b hb e=>by have e2:b=W.heap.size:=e;have:=CV.out.lt (by simp);omega) u;exact((k _ 0 _).trans (k _ 1 _)).trans (k _ 2 _)
 refine⟨A1,c1,A2,c2,by rw[HE.out.1,HE.out.2];simp[z2t],by rw[HE.out.1];simpa using H1.out,by rw[HE.out.1];exact(K1.out.keep kk).mono (fun b _ (h:V.heap.size≤b)=>Nat.le_trans q1.size h),by rw[HE.out.2];simpa using H2.out,by rw[HE.out.2];exact(K2.out.keep kk).mono (fun b _ (h:V.heap.size≤b)=>Nat.le_trans q1.size h),?_⟩;exact((q2.setCell (p:=⟨W.heap.size,0,none⟩) (Qiz _) _).setCell (p:=⟨W.heap.size,1,none⟩) (Qiz _) _).setCell (p:=⟨W.heap.size,2,none⟩) (Qiz _) _
section
attribute [local go_sem ↓] Go.wp_at_zero Go.wp_at_succ
theorem zm5(AH:Option Addr)(cH:Nat)(l:List CI)(A:Option Addr)(c:Nat)(ms:List Meth)(AT:Option Addr)(cT:Nat)(ts:List Tag)(W:World)(q:Asks AH cH l A ms AT ts W)(hcM:ms.length≤c):
  Calls Tryz.prog 29 #[.slice AH l.length cH,.slice A ms.length c,.slice AT ts.length cT] W fun e W'=>e=.returned (.tuple #[.int .i64 (zc2 l ms ts).1,.int .i64 (zc2 l ms ts).2])∧Below W.heap.size W W':=by
 have HAP:=Qaz (zi8 AH cH l A c ms AT cT ts W q hcM);have HOR:=Qaz (fun V (hv:Below W.heap.size W V)=>zfq AH cH l A c ms AT cT ts V (q.keep hv) hcM);have HN:Hid (zaf l ms ts≠0∨(zgd l ms ts).1=[]→zc2 l ms ts=(0,1)):=Qaz zsy;have HA:Hid (zaf l ms ts=0→(zgd l ms ts).1≠[]→(za4 l ms ts).1=[]→zc2 l ms ts=(0,2)):=Qaz zvt;have HS:Hid (∀x r,(za4 l ms ts).1=x::r→zc2 l ms ts=(x,0)):=Qaz (fun x r=>ztm);have HZ:Hid ((zgd l ms ts).2=zaf l ms ts):=Qaz (by
  by_cases hz:zaf l ms ts=0
  ·rw[zou hz];exact hz.symm
  ·rw[zqw hz])
 clear q;go_enter Tryz.func29,Tryz.ntmps29;go_wp2_with (fail);refine HAP.out.mono ?_;clear HAP;rintro e V ⟨A1,c1,rfl,_,_,hbv⟩;rw[HZ.out];clear HZ;by_cases hz:zaf l ms ts=0;rotate_left
 ·have HE:=Qaz (HN.out (.inl hz));have t1:(zaf l ms ts != 0)=true:=by rw[bne_iff_ne];exact hz
  clear hz HN HA HS HOR;generalize zaf l ms ts=ce at t1;go_wp2;go_ret2;exact⟨by rw[HE.out];rfl,hbv⟩
 have HZ:=Qaz hz;rw[hz];by_cases hl:(zgd l ms ts).1=[]
 ·have HE:=Qaz (HN.out (.inr hl));rw[hl];clear hz hl HN HA HS HOR HZ;go_wp2;go_ret2;exact⟨by rw[HE.out];rfl,hbv⟩
 have HA2:=Qaz (HA.out hz hl);have t1:(((zgd l ms ts).1.length:Int)==0)=false:=Qfz (by have:=List.length_pos_iff.2 hl;omega);have HO2:=Qaz (HOR.out V hbv);clear hz hl HN HA HOR HZ;generalize(zgd l ms ts).1=al at t1;generalize za4 l ms ts=ord at HA2 HS HO2;obtain⟨ids,amb⟩:=ord;simp only at HA2 HS HO2;generalize zgy l ms ts=lf at HO2;go_wp2_with (fail);refine HO2.out.mono ?_;clear HO2;rintro e V2 ⟨A3,c3,A4,c4,rfl,_,h1,_,_,hb2⟩;have q2:=zab hbv hb2
 have n0:(V2.alloc (.cells #[.slice A3 ids.length c3,.bool amb,.slice A4 lf.length c4] 47)).cell? ⟨V2.heap.size,0,none⟩=some (.slice A3 ids.length c3):=zac V2 _ _ _ rfl 0 _ rfl;have b3:Below V2.heap.size V2 (V2.alloc (.cells #[.slice A3 ids.length c3,.bool amb,.slice A4 lf.length c4] 47)):=(Below.refl _ V2).alloc (Qiz _) _;have q3:=zab q2 b3;unfold z2t;cases ids with
 |nil=>
  have HE:=Qaz (HA2.out rfl);clear h1 HS HA2;go_wp2;go_ret2;exact⟨by rw[HE.out];rfl,q3⟩
 |cons x r=>
  have HE:=Qaz (HS.out x r rfl);obtain⟨b,off,rfl⟩:=Slc.addrH h1 (by simp);have g0:=zaa (Ints.atH h1 (k:=0) rfl) b3;rw[Nat.add_zero]at g0;have hl0:(((x::r).length:Int)==0)=false:=Qfz (by simp;omega);have hl1:(0:Int)<((x::r).length:Int):=by simp
  clear h1 HS HA2;generalize(x::r).length=nn at hl0 hl1 n0 b3 q3 g0 ⊢;go_wp2;go_ret2;exact⟨by rw[HE.out];rfl,q3⟩
end
def z1v(A:Option Addr)(c:Nat)(ms:List Meth)(AT:Option Addr)(cT:Nat)(ts:List Tag):Value:=.agg #[.slice A ms.length c,.slice AT ts.length cT]
section
attribute [local go_sem ↓] Go.wp_at_zero Go.wp_at_succ
def z05(w:World)(A:Option Addr)(n:Nat)(x:Int):Prop:=∃l G,l.length=n∧zhm l x=true∧Held G (Ints A l) w∧n≤1000000
theorem zz1(w U:World)(hu:Drw w U)(A:Option Addr)(c n:Nat)(x:Int)(h:z05 w A n x):
  Calls Tryz.prog 71 #[.slice A n c,.int .i64 x] U fun e w'=>e=.returned (.bool true)∧U=w':=by
 obtain⟨l,G,rfl,hr,h,hl⟩:=h;obtain⟨m,rfl⟩:=hu;refine(zqp A c l x (w.drewN m) (h.keep (Keep.drewN _ _ _)).now hl).mono ?_;rintro e w' ⟨rfl,rfl⟩;exact⟨by rw[hr],rfl⟩
def z3f(l:List CI)(ts:List Tag)(ms:List Meth)(V:World)(a b:Meth)(Aa Ar Ba Br:Option Addr)(ca cr cb cq:Nat):Prop:=a∈ms∧b∈ms∧zbs l ts a b=false∧MetIn V a Aa Ar ca cr∧MetIn V b Ba Br cb cq
theorem zjz(AH:Option Addr)(cH:Nat)(l:List CI)(A:Option Addr)(c:Nat)(ms:List Meth)(AT:Option Addr)(cT:Nat)(ts:List Tag)(AL:Option Addr)(cL:Nat)(m1 m2:Meth)(W:World)(q:Asks AH cH l A ms AT ts W)(hcM:ms.length≤c)(hz:zaf l ms ts=0)
  (h1:m1∈(zcw l ts ms).2) (h2:m2∈(zcw l ts ms).2) (h12:m1.id<m2.id) (hp1:zbs l ts m1 m2=false) (hp2:zbs l ts m2 m1=false) (GL:Nat→Prop) (hL:Held GL (Ints AL [m1.id,m2.id]) W):
  Calls Tryz.prog 31 #[.slice AH l.length cH,z1v A c ms AT cT ts,.slice AL 2 cL] W fun e W'=>e=.returned (.bool true)∧Below W.heap.size W W':=by
 obtain⟨W1,hW1⟩:∃W1,W1=W.alloc (.cells #[.slice A ms.length c,.slice AT ts.length cT] 45):=⟨_,rfl⟩;have b1:Below W.heap.size W W1:=by rw[hW1];exact(Below.refl _ W).alloc (Qiz _) _
 have CO:Hid (Cel W.heap.size [.slice A ms.length c,.slice AT ts.length cT] W1):=Qaz (by rw[hW1];exact Cel.new W _ _ _ rfl);have HOR:=Qaz (zfq AH cH l A c ms AT cT ts W1 (q.keep b1) hcM);obtain⟨z1,z2,z3,z4,z5,z6⟩:=za2 hz;have hmem:∀m∈(zcw l ts ms).2,m∈ms:=fun m hm=>by
  have h1:=zd4 (P:=zbs l ts) (ms.filter (zde l ts)).length (ms.filter (zde l ts));exact(List.mem_filter.1 (h1.mem_iff.1 (List.mem_append.2 (.inr hm)))).1
 have hle:zgy l ms ts=(zcw l ts ms).2.map (·.id):=by unfold zgy;rw[if_pos hz]
 have HI1:Hid (zhm (zgy l ms ts) m1.id=true):=Qaz (zg9.2 (by rw[hle];exact List.mem_map.2 ⟨m1,h1,rfl⟩));have HI2:Hid (zhm (zgy l ms ts) m2.id=true):=Qaz (zg9.2 (by rw[hle];exact List.mem_map.2 ⟨m2,h2,rfl⟩));have HLL:Hid ((zgy l ms ts).length≤1000000):=Qaz (by have:=zxj l ms ts;have:=q.hn;omega);obtain⟨GM,hM⟩:=q.hM;have HSO:Hid (∀V,Below W.heap.size W V→Calls Tryz.prog 72 #[.slice A ms.length c,.slice AL 2 cL] V fun e V'=>∃v,e=.returned v∧Own metR 68 8 V.heap.size GM v [m1,m2] V'∧Below V.heap.size V V'):=Qaz (fun V hv=>
  zj7 A c ms GM AL cL [m1,m2] V (hM.keep (Keep.all hv)) q.hn (zht z3) (fun m hm=>by
   rcases List.mem_cons.1 hm with rfl|hm
   ·exact hmem _ h1
   ·rw[List.mem_singleton.1 hm];exact hmem _ h2) (by simp) GL (hL.keep (Keep.all hv)))
 have HPR:Hid (∀V a b Aa Ar Ba Br ca cr cb cq,Below W.heap.size W V→a∈ms→b∈ms→zbs l ts a b=false→MetIn V a Aa Ar ca cr→MetIn V b Ba Br cb cq→Calls Tryz.prog 73 #[.slice AH l.length cH,zie a b Aa Ar Ba Br ca cr cb cq,.slice AT ts.length cT] V fun e V'=>e=.returned (.bool false)∧Below V.heap.size V V'):=
  Qaz (fun V a b Aa Ar Ba Br ca cr cb cq hv ham hbm hp ha hb=>by
   have hok:=(zk6 hz q.hs fun _ h=>h).valid;have:=zed AH cH l z1 a b Aa Ar Ba Br ca cr cb cq AT cT ts V (q.hi.keep hv) ha hb (q.hT.imp fun _ h=>h.keep (Keep.all hv)) q.hts (z5 a ham) (z5 b hbm) (hok a ham) (hok b hbm);rw[hp]at this;exact this)
 have HM1:=Qaz (hmem _ h1);have HM2:=Qaz (hmem _ h2);have HP1:=Qaz hp1;have HP2:=Qaz hp2;have HS:=Qaz q.hs;have HPL:=Qaz q.hp;obtain⟨lb,lo,rfl⟩:=Slc.addrH hL (by simp);have l0:=Ints.atH hL (k:=0) rfl;have l1:=Ints.atH hL (k:=1) rfl;rw[Nat.add_zero]at l0;have o0:=(CO.out 0 _ rfl).1;have o1':=(CO.out 1 _ rfl).1;have t1:¬m2.id≤m1.id:=by omega
 have t2:decide (m2.id≤m1.id)=false:=Qgz t1;have hp0:ts.length≤1000000:=q.hts;clear q hz z1 z2 z3 z4 z5 z6 hmem hle hM h1 h2 hp1 hp2 hL;unfold z1v;unfold z2t at HOR;go_enter Tryz.func31,Tryz.ntmps31;go_wp2_with (fail);rw[←hW1];clear hW1;refine HOR.out.mono ?_;clear HOR;rintro e V2 ⟨A1,c1,A2,c2,rfl,_,_,_,k2,hb2⟩;have q2:=zab b1 hb2;generalize(za4 l ms ts).1.length=o1 at k2 ⊢;generalize(za4 l ms ts).2=oa at k2 ⊢;generalize zgy l ms ts=lf at k2 HI1 HI2 HLL ⊢;obtain⟨W3,hW3⟩:∃W3,W3=V2.alloc (.cells #[.slice A1 o1 c1,.bool oa,.slice A2 lf.length c2] 47):=⟨_,rfl⟩
 have b3:Below V2.heap.size V2 W3:=by rw[hW3];exact(Below.refl _ V2).alloc (Qiz _) _
 have q3:=zab q2 b3;have C3:Hid (Cel V2.heap.size [.slice A1 o1 c1,.bool oa,.slice A2 lf.length c2] W3):=Qaz (by rw[hW3];exact Cel.new V2 _ _ _ rfl);have n2:=(C3.out 2 _ rfl).1;have HK2:=Qaz (k2.keep (Keep.all b3));have u0:=zaa l0 q3;have u1:=zaa l1 q3;have hi1:z05 W3 A2 lf.length m1.id:=⟨lf,_,rfl,HI1.out,HK2.out,HLL.out⟩;have hi2:z05 W3 A2 lf.length m2.id:=⟨lf,_,rfl,HI2.out,HK2.out,HLL.out⟩;have hsz:V2.heap.size<W3.heap.size:=by rw[hW3];simp
 clear k2 o0 l0 l1;go_wp2_with (fail);rw[←hW3];clear hW3
 go_quiet ((go_at_call 71;refine(zz1 W3 _ (by first|exact Drw.of _ _|exact(Drw.of _ _).drewN _) _ _ _ _ (by assumption)).mono ?_;exact fun _ _ ⟨a,b⟩=>⟨a,_,b.symm⟩))
 obtain⟨wd,hwd⟩:∃wd,wd=W3.drewN nq:=⟨_,rfl⟩;have bd:Below W3.heap.size W3 wd:=by rw[hwd];exact zad _ _ _
 rw[←hwd];clear hwd n2 u0 u1 hi1 hi2 hsz;have qd:=zab q3 bd;have rd:=zab (zab hb2 b3) bd;have o0:=(CO.out.all rd 0 _ rfl).1;go_wp2_with (fail);refine(HSO.out wd qd).mono ?_;clear HSO o0;rintro e V5 ⟨v,rfl,hown,hb5⟩;have q5:=zab qd hb5;have o1:=(CO.out.all (zab rd hb5) 1 _ rfl).1;obtain⟨g,cl,rfl,_,_⟩:=hown.form (by simp);obtain⟨P1,p1,R1,r1,a1,a2,a3,a4,f0,f1,f2,f3,f4,f5,f6,f7⟩:=OwnMet.at hown (i:=0) (x:=m1) rfl;obtain⟨P2,p2,R2,r2,d1,d2,d3,d4,g0,g1,g2,g3,g4,g5,g6,g7⟩:=OwnMet.at hown (i:=1) (x:=m2) rfl
 simp only[Nat.zero_mul,Nat.one_mul,Nat.zero_add,Nat.reduceAdd]at f0 f1 f2 f3 f4 f5 f6 f7 g0 g1 g2 g3 g4 g5 g6 g7;have MI1:MetIn V5 m1 P1 R1 p1 r1:=⟨a1,⟨_,a2⟩,a3,⟨_,a4⟩,HS.out m1 HM1.out,HPL.out m1 HM1.out⟩;have MI2:MetIn V5 m2 P2 R2 p2 r2:=⟨d1,⟨_,d2⟩,d3,⟨_,d4⟩,HS.out m2 HM2.out,HPL.out m2 HM2.out⟩;have T1:z3f l ts ms V5 m1 m2 P1 R1 P2 R2 p1 r1 p2 r2:=⟨HM1.out,HM2.out,HP1.out,MI1,MI2⟩;have T2:z3f l ts ms V5 m2 m1 P2 R2 P1 R1 p2 r2 p1 r1:=⟨HM2.out,HM1.out,HP2.out,MI2,MI1⟩
 have HA:=Qaz (fun V a b Aa Ar Ba Br ca cr cb cq (hv:Below V5.heap.size V5 V)(h:z3f l ts ms V5 a b Aa Ar Ba Br ca cr cb cq)=>HPR.out V a b Aa Ar Ba Br ca cr cb cq (zab q5 hv) h.1 h.2.1 h.2.2.1 (h.2.2.2.1.keep hv) (h.2.2.2.2.keep hv));clear a1 a2 a3 a4 d1 d2 d3 d4 hown MI1 MI2 HPR HM1 HM2 HP1 HP2 HS HPL;go_wp2_with (fail)
 go_region_held3 (fun w'=>Below V5.heap.size V5 w'∧w'.cell? ⟨g,0,none⟩=some (.int .i64 m1.id)∧w'.cell? ⟨g,1,none⟩=some (.string m1.lib)∧w'.cell? ⟨g,2,none⟩=some (.slice P1 m1.pars.length p1)∧w'.cell? ⟨g,3,none⟩=some (.int .i64 m1.result.kind)∧w'.cell? ⟨g,4,none⟩=some (.string m1.result.name)∧w'.cell? ⟨g,5,none⟩=some (.int .i64 m1.result.lo)∧w'.cell? ⟨g,6,none⟩=some (.int .i64 m1.result.hi)∧w'.cell? ⟨g,7,none⟩=some (.slice R1 m1.result.args.length r1)∧w'.cell? ⟨g,8,none⟩=some (.int .i64 m2.id)∧w'.cell? ⟨g,9,none⟩=some (.string m2.lib)∧w'.cell? ⟨g,10,none⟩=some (.slice P2 m2.pars.length p2)∧w'.cell? ⟨g,11,none⟩=some (.int .i64 m2.result.kind)∧w'.cell? ⟨g,12,none⟩=some (.string m2.result.name)∧w'.cell? ⟨g,13,none⟩=some (.int .i64 m2.result.lo)∧w'.cell? ⟨g,14,none⟩=some (.int .i64 m2.result.hi)∧w'.cell? ⟨g,15,none⟩=some (.slice R2 m2.result.args.length r2)∧w'.cell? ⟨W.heap.size,1,none⟩=some (.slice AT ts.length cT))
  (first|exact⟨(Below.refl _ V5).drew,f0,f1,f2,f3,f4,f5,f6,f7,g0,g1,g2,g3,g4,g5,g6,g7,o1⟩|(go_split_ands;refine⟨zab (by assumption) hbu,?_⟩;and_intros<;>exact zaa (by assumption) hbu))
  ((go_at_call 73;refine(HA.out _ _ _ _ _ _ _ _ _ _ _ (by go_split_ands;assumption) (by assumption)).mono ?_;rintro e U ⟨rfl,hbu⟩))
 have hb6:Below V5.heap.size V5 U:=by go_split_ands;assumption
 have q6:=zab q5 hb6;go_split_ands;go_wp2;go_ret;exact⟨rfl,q6⟩
end
end Go.Proofs.YtepnmejahbiacaaGreat
