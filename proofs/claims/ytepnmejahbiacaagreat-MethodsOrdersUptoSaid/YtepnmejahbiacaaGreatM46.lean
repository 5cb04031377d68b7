/- Part 46 of the proof: Yu, Eh. -/
import Derived.Test.YtepnmejahbiacaaGreatM45
import Derived.Test.YtepnmejahbiacaaGreatM35
set_option linter.unusedVariables false
set_option linter.unusedSimpArgs false
set_option maxHeartbeats 64000000
set_option maxRecDepth 100000
namespace Go.Proofs.YtepnmejahbiacaaGreat
open Go.RowKit
section
attribute [local go_sem ↓] Go.wp_at_zero Go.wp_at_succ
theorem zr1(A:Option Addr)(c:Nat)(l:List CI)(a b:Meth)(A1 A2 B1 B2:Option Addr)(c1 c2 d1 d2:Nat)(W:World)(hi:HiIn W A c l)(ha:MetIn W a A1 A2 c1 c2)(hb:MetIn W b B1 B2 d1 d2)(ba:∀p∈a.pars,p.type.all zhs=true)(bb:∀p∈b.pars,p.type.all zhs=true):
  Calls Tryz.prog 35 #[.slice A l.length c,zk2 a A1 c1 A2 c2,zk2 b B1 d1 B2 d2] W fun e W'=>e=.returned (.bool (zgl l a b))∧Below W.heap.size W W':=by
 obtain⟨W1,hW1⟩:∃W1,W1=(W.alloc (.cells #[.int .i64 a.id,.string a.lib,.slice A1 a.pars.length c1,.int .i64 a.result.kind,.string a.result.name,.int .i64 a.result.lo,.int .i64 a.result.hi,.slice A2 a.result.args.length c2] 68)).alloc (.cells #[.int .i64 b.id,.string b.lib,.slice B1 b.pars.length d1,.int .i64 b.result.kind,.string b.result.name,.int .i64 b.result.lo,.int .i64 b.result.hi,.slice B2 b.result.args.length d2] 68):=⟨_,rfl⟩;have b1:Below W.heap.size W W1:=by rw[hW1];exact((Below.refl _ W).alloc (Qiz _) _).alloc (by simp) _
 have x2:W1.cell? ⟨W.heap.size,2,none⟩=some (.slice A1 a.pars.length c1):=by rw[hW1];exact zat (zac W _ _ _ rfl 2 _ rfl)
 have y2:W1.cell? ⟨W.heap.size+1,2,none⟩=some (.slice B1 b.pars.length d1):=by rw[hW1];exact zac (W.alloc _) _ _ _ (by simp) 2 _ rfl
 have HCK:Hid (Calls Tryz.prog 47 #[.slice A l.length c] W1 fun e V=>Below W1.heap.size W1 V∧((zai l∧e=.returned (.int .i64 0))∨(¬zai l∧e=.returned (.int .i64 80)))):=Qaz (by
  obtain⟨G,h⟩:=(hi.keep b1).h;exact zj6 A c l W1 G h hi.hcH hi.ol hi.hl)
 have HB1:=Qaz b1;have hla:=ha.hp;have hlb:=hb.hp;go_enter Tryz.func35,Tryz.ntmps35;go_wp2_with (fail);rw[←hW1];clear hW1;refine HCK.out.mono ?_;rintro e V ⟨hbv,(⟨hL,rfl⟩|⟨hL,rfl⟩)⟩;rotate_left
 ·have HE:Hid (zgl l a b=false):=Qaz (zin fun h=>hL h.1);clear hL;go_wp2;go_ret;exact⟨(by rw[HE.out];try rfl),zab HB1.out hbv⟩
 have x2':=zaa x2 hbv;have y2':=zaa y2 hbv;by_cases hle:a.pars.length=b.pars.length;rotate_left
 ·have HE:Hid (zgl l a b=false):=Qaz (zin fun h=>hle h.2.1);have t1:((a.pars.length:Int) != (b.pars.length:Int))=true:=by rw[bne_iff_ne];omega
  clear hle hL;go_wp2;go_ret;exact⟨(by rw[HE.out];try rfl),zab HB1.out hbv⟩
 have t1:((a.pars.length:Int) != (b.pars.length:Int))=false:=bne_eq_false_iff_eq.2 (by omega);by_cases h6:a.pars.length≤6;rotate_left
 ·have HE:Hid (zgl l a b=false):=Qaz (zin fun h=>h6 h.2.2);have t2:(6:Int)<(a.pars.length:Int):=by omega
  clear hle hL h6;go_wp2;go_ret;exact⟨(by rw[HE.out];try rfl),zab HB1.out hbv⟩
 have HE:Hid (zgl l a b=zgj l a b a.pars.length):=Qaz (zop hL hle h6);have t2:¬(6:Int)<(a.pars.length:Int):=by omega
 have HL:=Qaz hL;have HLE:=Qaz hle;clear hL hle;go_wp2_with (fail)
 go_loopw [7] (fun i wr=>∃k:Nat,k≤a.pars.length∧i=.int .i64 k∧zgj l a b k=true∧Below V.heap.size V wr) (fun i _=>a.pars.length-(intOf i).toNat)
 case atStart=>exact⟨0,Qjz _,rfl,by unfold zgj;simp,Below.refl _ _⟩
 case round=>
  obtain⟨k,hk,rfl,hal,hbw⟩:=hrel;have hbV:=zab (zab HB1.out hbv) hbw;have HBV:=Qaz hbV;have z2:=zaa x2' hbw;have w2:=zaa y2' hbw;by_cases hlt:k<a.pars.length
  ·have haV:=ha.keep hbV;have hbV2:=hb.keep hbV;obtain⟨GP,hP⟩:=haV.h2;obtain⟨GQ,hQ⟩:=hbV2.h2;obtain⟨pb,po,rfl⟩:=Slc.addrH hP (by omega);obtain⟨qb,qo,rfl⟩:=Slc.addrH hQ (by have:=HLE.out;omega);have hx:a.pars[k]? =some a.pars[k]:=Qbz hlt;generalize a.pars[k]=x at hx;have hy:b.pars[k]? =some (b.pars[k]'(by have:=HLE.out;omega)):=Qbz _;generalize(b.pars[k]'(by have:=HLE.out;omega))=y at hy;obtain⟨Ax,cx,ex1,ex2,f0,f1,f2,f3,f4,f5⟩:=Pars.atH hP hx;obtain⟨Ay,cy,ey1,ey2,g0,g1,g2,g3,g4,g5⟩:=Pars.atH hQ hy;have htx:TyIn wr x.type Ax cx:=⟨ex1,⟨_,ex2⟩,ha.hs x (Qdz hx)⟩
   have hty:TyIn wr y.type Ay cy:=⟨ey1,⟨_,ey2⟩,hb.hs y (Qdz hy)⟩;have wk1:(k:Int)<(b.pars.length:Int):=by have:=HLE.out;omega
   have HXX:=Qaz hx;have HYY:=Qaz hy;have hiV:=hi.keep hbV;have HVA:Hid (∀V x A2 c2,Below wr.heap.size wr V→TyIn wr x A2 c2→Calls Tryz.prog 56 #[.slice A l.length c,tyV x A2 c2] V fun e V'=>e=.returned (.int .i64 (zaj l x))∧Below V.heap.size V V'):=Qaz (fun V x A2 c2 hv hx=>by
    obtain⟨G,h⟩:=(hiV.keep hv).h;obtain⟨G2,h2⟩:=(hx.keep hv).h2;refine(zqz A c l x A2 c2 V G2 G h hi.hcH hi.ol hi.hl hx.hs.1 h2).mono ?_;rintro e V' ⟨hbl,⟨q,_⟩|⟨_,rfl⟩⟩
    ·exact absurd HL.out q
    ·exact⟨rfl,hbl⟩)
   have HSXY:=Qaz (fun V (hv:Below wr.heap.size wr V)=>zlb A c l x.type y.type Ax Ay cx cy V (hiV.keep hv) (htx.keep hv) (hty.keep hv) (ba x (Qdz hx)) (bb y (Qdz hy)));have HSYX:=Qaz (fun V (hv:Below wr.heap.size wr V)=>zlb A c l y.type x.type Ay Ax cy cx V (hiV.keep hv) (hty.keep hv) (htx.keep hv) (bb y (Qdz hy)) (ba x (Qdz hx)));have hw2:W.heap.size+1<wr.heap.size:=cell_lt w2;have hqb:qb<wr.heap.size:=cell_lt g1;have hpb:pb<wr.heap.size:=cell_lt f1;clear hP hQ ex2 ey2 hx hy haV hbV2 ex1 ey1
   obtain⟨W8,hW8⟩:∃W8,W8=(wr.alloc (.cells #[.int .i64 x.type.kind,.string x.type.name,.int .i64 x.type.lo,.int .i64 x.type.hi,.slice Ax x.type.args.length cx] 36)).alloc (.cells #[.int .i64 y.type.kind,.string y.type.name,.int .i64 y.type.lo,.int .i64 y.type.hi,.slice Ay y.type.args.length cy] 36):=⟨_,rfl⟩;have b8:Below wr.heap.size wr W8:=by rw[hW8];exact((Below.refl _ wr).alloc (Qiz _) _).alloc (by simp) _
   have HC:Hid (∀V,Below W8.heap.size W8 V→(V.cell? ⟨wr.heap.size,0,none⟩=some (.int .i64 x.type.kind)∧V.cell? ⟨wr.heap.size,1,none⟩=some (.string x.type.name)∧V.cell? ⟨wr.heap.size,2,none⟩=some (.int .i64 x.type.lo)∧V.cell? ⟨wr.heap.size,3,none⟩=some (.int .i64 x.type.hi)∧V.cell? ⟨wr.heap.size,4,none⟩=some (.slice Ax x.type.args.length cx))∧V.cell? ⟨wr.heap.size+1,0,none⟩=some (.int .i64 y.type.kind)∧V.cell? ⟨wr.heap.size+1,1,none⟩=some (.string y.type.name)∧V.cell? ⟨wr.heap.size+1,2,none⟩=some (.int .i64 y.type.lo)∧V.cell? ⟨wr.heap.size+1,3,none⟩=some (.int .i64 y.type.hi)∧V.cell? ⟨wr.heap.size+1,4,none⟩=some (.slice Ay y.type.args.length cy)):=Qaz (fun V hv=>by
    have xa:∀j u,[Value.int .i64 x.type.kind,.string x.type.name,.int .i64 x.type.lo,.int .i64 x.type.hi,.slice Ax x.type.args.length cx][j]? =some u→W8.cell? ⟨wr.heap.size,j,none⟩=some u:=fun j u hj=>by rw[hW8];exact zat (zac wr _ _ _ rfl j u hj)
    have xb:∀j u,[Value.int .i64 y.type.kind,.string y.type.name,.int .i64 y.type.lo,.int .i64 y.type.hi,.slice Ay y.type.args.length cy][j]? =some u→W8.cell? ⟨wr.heap.size+1,j,none⟩=some u:=fun j u hj=>by rw[hW8];exact zac (wr.alloc _) _ _ _ (by simp) j u hj
    exact⟨⟨zaa (xa 0 _ rfl) hv,zaa (xa 1 _ rfl) hv,zaa (xa 2 _ rfl) hv,zaa (xa 3 _ rfl) hv,zaa (xa 4 _ rfl) hv⟩,zaa (xb 0 _ rfl) hv,zaa (xb 1 _ rfl) hv,zaa (xb 2 _ rfl) hv,zaa (xb 3 _ rfl) hv,zaa (xb 4 _ rfl) hv⟩)
   have HPR:Hid (zp1 l x.type y.type=(decide (zaj l x.type=0)&&(decide (zaj l y.type=0)&&(zp3 l x.type y.type&&zp3 l y.type x.type)))):=Qaz rfl;have HPN:=Qaz (znl (l:=l) HXX.out HYY.out);have HVX:=Qaz (fun V hv=>HVA.out V x.type Ax cx hv htx);have HVY:=Qaz (fun V hv=>HVA.out V y.type Ay cy hv hty);have HAL:=Qaz hal;clear HVA htx hty hiV ha hb hi ba bb hal;go_wp2_with (fail);rw[←hW8];clear hW8 f0 f1 f2 f3 f4 f5 g0 g1 g2 g3 g4 g5 z2 w2;refine(HVX.out W8 b8).mono ?_;rintro e V1 ⟨rfl,v1⟩;have h1:=v1;by_cases k1:zaj l x.type=0;rotate_left
   ·have t5:(zaj l x.type != 0)=true:=by rw[bne_iff_ne];exact k1
    have HPF:Hid (zp1 l x.type y.type=false):=Qaz (by rw[HPR.out,Qgz k1];rfl);generalize zaj l x.type=va at t5;clear k1 HPR;go_wp2;go_ret;exact⟨(by rw[HE.out,zc9 hlt HXX.out HYY.out HPF.out];try rfl),zab (zab HBV.out b8) h1⟩
   rw[k1];obtain⟨⟨p0,p1,p2,p3,p4⟩,q0,q1,q2,q3,q4⟩:=HC.out V1 h1;go_wp2_with (fail);refine(HVY.out V1 (zab b8 h1)).mono ?_;clear p0 p1 p2 p3 p4 q0 q1 q2 q3 q4;rintro e V2 ⟨rfl,v2⟩;have h2:=zab h1 v2;by_cases k2:zaj l y.type=0;rotate_left
   ·have t5:(zaj l y.type != 0)=true:=by rw[bne_iff_ne];exact k2
    have HPF:Hid (zp1 l x.type y.type=false):=Qaz (by rw[HPR.out,Qgz k2];simp);generalize zaj l y.type=va at t5;clear k1 k2 HPR;go_wp2;go_ret;exact⟨(by rw[HE.out,zc9 hlt HXX.out HYY.out HPF.out];try rfl),zab (zab HBV.out b8) h2⟩
   rw[k2];have HPR2:Hid (zp1 l x.type y.type=(zp3 l x.type y.type&&zp3 l y.type x.type)):=Qaz (by rw[HPR.out,Qhz k1,Qhz k2];rfl);clear k1 k2 HPR;obtain⟨⟨p0,p1,p2,p3,p4⟩,q0,q1,q2,q3,q4⟩:=HC.out V2 h2;go_wp2_with (fail);refine(HSXY.out V2 (zab b8 h2)).mono ?_;clear p0 p1 p2 p3 p4 q0 q1 q2 q3 q4;rintro e V3 ⟨rfl,v3⟩;have h3:=zab h2 v3;generalize zp3 l x.type y.type=r1 at HPR2;cases r1 with
   |false=>
    have HPF:Hid (zp1 l x.type y.type=false):=Qaz (by rw[HPR2.out];rfl);go_wp2;go_ret;exact⟨(by rw[HE.out,zc9 hlt HXX.out HYY.out HPF.out];try rfl),zab (zab HBV.out b8) h3⟩
   |true=>
   obtain⟨⟨p0,p1,p2,p3,p4⟩,q0,q1,q2,q3,q4⟩:=HC.out V3 h3;go_wp2_with (fail);refine(HSYX.out V3 (zab b8 h3)).mono ?_;clear p0 p1 p2 p3 p4 q0 q1 q2 q3 q4;rintro e V4 ⟨rfl,v4⟩;have h4:=zab h3 v4;generalize zp3 l y.type x.type=r2 at HPR2;cases r2 with
   |false=>
    have HPF:Hid (zp1 l x.type y.type=false):=Qaz (by rw[HPR2.out];rfl);go_wp2;go_ret;exact⟨(by rw[HE.out,zc9 hlt HXX.out HYY.out HPF.out];try rfl),zab (zab HBV.out b8) h4⟩
   |true=>
    have HN:Hid (zgj l a b (k+1)=true):=Qaz (by rw[HPN.out,HAL.out,HPR2.out];rfl);go_wp2_with (fail);exact⟨⟨k+1,by omega,by go_num,HN.out,zab (zab hbw b8) h4⟩,by simp[intOf];omega⟩
  ·obtain rfl:k=a.pars.length:=by omega
   have HT:Hid (zgl l a b=true):=Qaz (by rw[HE.out,hal]);clear hal;go_wp2;go_ret;exact⟨(by rw[HT.out];try rfl),HBV.out⟩
def z2y(W:World)(ce:Int)(amb:Bool)(m1 m2:Meth)(Av:Option Addr)(n cv:Nat)(er:Int):Prop:=
 (ce≠0∧er=ce)∨(ce=0∧amb=false∧er=3)∨(ce=0∧amb=true∧er=0∧n=2∧∃G,Held G (Ints Av [m1.id,m2.id]) W)
theorem zw6{l:List CI}{ms:List Meth}{ts:List Tag}{W W':World}{e:Ending}(h:zj0 l ms ts W e W'):Below W.heap.size W W'∧∃(Av:Option Addr)(n cv:Nat)(er:Int)(m1 m2:Meth),e=.returned (.tuple #[.slice Av n cv,.int .i64 er])∧z2y W' (zaf l ms ts) (za4 l ms ts).2 m1 m2 Av n cv er∧
  (zaf l ms ts=0→(za4 l ms ts).2=true→m1∈(zcw l ts ms).2∧m2∈(zcw l ts ms).2∧m1.id<m2.id∧zbs l ts m1 m2=false∧zbs l ts m2 m1=false):=by
 have dm:Meth:=⟨0,default,[],.mk 0 default 0 0 []⟩;obtain⟨hb,⟨h1,rfl⟩|⟨hz,⟨hno,rfl⟩|⟨a,b,v,hc,rfl,hown⟩⟩⟩:=h
 ·exact⟨hb,none,0,0,_,dm,dm,rfl,.inl ⟨h1,rfl⟩,fun q=>absurd q h1⟩
 ·have ha:(za4 l ms ts).2≠true:=fun q=>by
   obtain⟨a,b,h⟩:=zpx hz (zyf.1 q).2;exact hno a b h
  exact⟨hb,none,0,0,_,dm,dm,rfl,.inr (.inl ⟨hz,by simpa using ha,rfl⟩),fun _ q=>absurd q ha⟩
 ·have ha:(za4 l ms ts).2=true:=zyf.2 ⟨hz,fun e=>by
   obtain⟨i,k,_,q,_⟩:=hc;rw[e]at q;simp at q⟩
  obtain⟨hne,hma,hmb,q1,q2⟩:=zxm hz hc;obtain⟨A',c',rfl,_,hH⟩:=hown.out;by_cases hlt:a.id<b.id
  ·rw[Int.min_eq_left (by omega),Int.max_eq_right (by omega)]at hH;exact⟨hb,A',_,c',0,a,b,rfl,.inr (.inr ⟨hz,ha,rfl,rfl,_,hH⟩),fun _ _=>⟨hma,hmb,hlt,q1,q2⟩⟩
  ·rw[Int.min_eq_right (by omega),Int.max_eq_left (by omega)]at hH;exact⟨hb,A',_,c',0,b,a,rfl,.inr (.inr ⟨hz,ha,rfl,rfl,_,hH⟩),fun _ _=>⟨hmb,hma,by omega,q2,q1⟩⟩
theorem zrp(AH:Option Addr)(cH:Nat)(l:List CI)(AM:Option Addr)(cM:Nat)(ms:List Meth)(AT:Option Addr)(cT:Nat)(ts:List Tag)(W:World)(q:Asks AH cH l AM ms AT ts W)(hcM:ms.length≤cM)(hbb:∀m∈ms,∀p∈m.pars,p.type.all zhs=true):
  Calls Tryz.prog 7 #[.slice AH l.length cH,.slice AM ms.length cM,.slice AT ts.length cT] W fun e W'=>e=.returned (.bool true)∧Below W.heap.size W W':=by
 have HQ:=Qaz q;obtain⟨GM,hM⟩:=q.hM;have HM:=Qaz hM;have hn:=q.hn;have HO1:=Qaz (fun V (hv:Below W.heap.size W V)=>zhz AH cH l AM cM ms AT cT ts V (q.keep hv));have HO2:=Qaz (fun V (hv:Below W.heap.size W V)=>zfq AH cH l AM cM ms AT cT ts V (q.keep hv) hcM);have HF1:=Qaz (fun V (hv:Below W.heap.size W V)=>zl7 AH cH l AM cM ms AT cT ts V (q.keep hv));have HF2:=Qaz (fun V (hv:Below W.heap.size W V)=>zm5 AH cH l AM cM ms AT cT ts V (q.keep hv) hcM);have HCF:=Qaz (fun V (hv:Below W.heap.size W V)=>(zhl AH cH l AM cM ms AT cT ts V (q.keep hv)).mono fun e W' h=>zw6 h)
 have HCA:=Qaz (fun V (hv:Below W.heap.size W V)=>zc7 AH cH l AM cM ms AT cT ts V (q.keep hv) hcM);have HCN:=Qaz (fun V (m1 m2:Meth) AL cL GL (hv:Below W.heap.size W V)(hz:zaf l ms ts=0) h1 h2 h12 hp1 hp2 hL=>zjz AH cH l AM cM ms AT cT ts AL cL m1 m2 V (q.keep hv) hcM hz h1 h2 h12 hp1 hp2 GL hL);have HOL:Hid ((za4 l ms ts).1.length≤1000000):=Qaz (by have:=zv0 l ms ts;omega)
 have HPM:Hid (∀wr (k:Nat)(x:Meth) A1 A2 c1 c2,Below W.heap.size W wr→ms[k]? =some x→x.pars.length≤c1→(∃G,Held G (Pars A1 x.pars) wr)→x.result.args.length≤c2→(∃G,Held G (Typs A2 x.result.args) wr)→MetIn wr x A1 A2 c1 c2):=Qaz (fun wr k x A1 A2 c1 c2 _ hx h1 h2 h3 h4=>
  ⟨h1,h2,h3,h4,q.hs x (Qdz hx),q.hp x (Qdz hx)⟩)
 have HBB:=Qaz hbb;obtain⟨GH,hH⟩:=q.h;obtain⟨GT,hT⟩:=q.hT;have HH:=Qaz hH;have HT:=Qaz hT;clear q hM hbb hH hT;go_enter Tryz.func7,Tryz.ntmps7;go_wp2_with (fail);refine(zvv W).mono ?_;rintro e V0 ⟨rfl,q0⟩;have HFE:=Qaz (zxr AM cM ms V0 _ (HM.out.all q0) HQ.out.hp);cases hfe:zxh ms with
 |false=>
  rw[hfe]at HFE;clear hfe;go_wp2_with (fail);refine HFE.out.mono ?_;rintro e V2 ⟨rfl,hb2⟩;have q2:=zab q0 hb2;go_wp2;go_ret;exact⟨rfl,q2⟩
 |true=>
 rw[hfe]at HFE;clear hfe;go_wp2_with (fail);refine HFE.out.mono ?_;clear HFE;rintro e V1 ⟨rfl,hb1⟩;have q1:=zab q0 hb1;go_wp2_with (fail);refine(HO1.out V1 q1).mono ?_;clear HO1;rintro e V2 ⟨v,rfl,hown,hb2⟩;have q2:=zab q1 hb2;obtain⟨A0,c0,rfl,_,k0⟩:=hown.out;have HK0:=Qaz k0;clear k0 hown;go_wp2_with (fail);refine(HO2.out V2 q2).mono ?_;clear HO2;rintro e V3 ⟨A1,c1,A2,c2,rfl,_,k1,_,_,hb3⟩;have q3:=zab q2 hb3;obtain⟨oi,hoi⟩:∃oi,(za4 l ms ts).1=oi:=⟨_,rfl⟩;obtain⟨oa,hoa⟩:∃oa,(za4 l ms ts).2=oa:=⟨_,rfl⟩;obtain⟨ce,hce⟩:∃ce,zaf l ms ts=ce:=⟨_,rfl⟩;have HCE:=Qaz hce;have HOA:=Qaz hoa;unfold z2t
 rw[hoi]at HK0 HOL k1 ⊢;rw[hoa]at HCF ⊢;rw[hce]at HCA HCF;clear hoi hoa hce;generalize zgy l ms ts=lf;obtain⟨W3,hW3⟩:∃W3,W3=V3.alloc (.cells #[.slice A1 oi.length c1,.bool oa,.slice A2 lf.length c2] 47):=⟨_,rfl⟩;have b3:Below V3.heap.size V3 W3:=by rw[hW3];exact(Below.refl _ V3).alloc (Qiz _) _
 have p3:=zab q3 b3;have C3:Hid (Cel V3.heap.size [.slice A1 oi.length c1,.bool oa,.slice A2 lf.length c2] W3):=Qaz (by rw[hW3];exact Cel.new V3 _ _ _ rfl);have K0:=Qaz (HK0.out.keep (Keep.all (zab hb3 b3)));have K1:=Qaz (k1.keep (Keep.all b3));obtain⟨ob,hob⟩:∃ob,V3.heap.size=ob:=⟨_,rfl⟩;rw[hob]at C3;clear HK0 k1 b3;go_wp2_with (fail);rw[←hW3]
 try rw[hob]
 clear hW3 hob;refine(HF1.out W3 p3).mono ?_;clear HF1;rintro e V4 ⟨rfl,hb4⟩;have q4:=zab p3 hb4;go_wp2_with (fail);refine(HF2.out V4 q4).mono ?_;clear HF2;rintro e V5 ⟨rfl,hb5⟩;have q5:=zab q4 hb5;generalize(zc2 l ms ts).1=f1;generalize(zc2 l ms ts).2=f2;go_wp2_with (fail);refine(HCF.out V5 q5).mono ?_;clear HCF;rintro e V6 ⟨hb6,Av,nv,cv,er,m1,m2,rfl,hcf,hcm⟩;have q6:=zab q5 hb6;have r36:=zab (zab hb4 hb5) hb6;have HCF:=Qaz hcf;have HCM:=Qaz hcm;have n0:=(C3.out.all r36 0 _ rfl).1;have n1:=(C3.out.all r36 1 _ rfl).1
 have HS:=Qaz (zeh A0 A1 c0 c1 oi V6 _ _ (K0.out.keep (Keep.all r36)) (K1.out.keep (Keep.all r36)) HOL.out);clear hcf hcm K0 K1;go_wp2_with (fail);refine HS.out.mono ?_;clear HS;rintro e V7 ⟨rfl,hb7⟩;have q7:=zab q6 hb7;have r37:=zab r36 hb7;have n0':=zaa n0 hb7;have n1':=zaa n1 hb7;clear n0 n1;have t1:(oa != oa)=false:=bne_self_eq_false oa;have t2:(f1 != f1)=false:=bne_self_eq_false f1;have t3:(f2 != f2)=false:=bne_self_eq_false f2;go_wp2_with (fail);refine(HCA.out V7 q7).mono ?_;clear HCA n0' n1';rintro e V8 ⟨rfl,hb8⟩;have q8:=zab q7 hb8;have r38:=zab r37 hb8;have r68:=zab hb7 hb8
 have n1:=(C3.out.all r38 1 _ rfl).1;clear hb1 hb2 hb3 hb4 hb5 hb6 hb7 hb8 r36 r37 r38 p3 q0 q1 q2 q3 q4 q5 q7 t1 t2 t3;rcases HCF.out with⟨h1,h2⟩|⟨h1,h2,h3⟩|⟨h1,h2,h3,h4,G,hG⟩
 case' inl=>
  have t4:(ce != 0)=true:=by rw[bne_iff_ne];exact h1
  subst h2;have t5:(er != er)=false:=bne_self_eq_false er;clear h1 HCF HCM HCN HCE HOA C3 n1;go_wp2_with (fail);obtain⟨U,hU⟩:∃U:World,U=V8:=⟨_,rfl⟩;subst hU;have qU:=q8;clear q8 q6 t4 t5
 case' inr.inl=>
  subst h1 h2 h3;clear HCF HCM HCN HCE HOA C3;go_wp2_with (fail);obtain⟨U,hU⟩:∃U:World,U=V8:=⟨_,rfl⟩;subst hU;have qU:=q8;clear q8 q6 n1
 case' inr.inr=>
  subst h1 h2 h3 h4;obtain⟨z1,z2,z3,z4,z5⟩:=HCM.out rfl rfl;have HC:=Qaz (HCN.out V8 m1 m2 Av cv G q8 HCE.out z1 z2 z3 z4 z5 (hG.keep (Keep.all r68)));unfold z1v at HC;clear z1 z2 z3 z4 z5 hG HCF HCM HCN HCE HOA C3;go_wp2_with (fail);refine HC.out.mono ?_;clear HC;rintro e V9 ⟨rfl,hb9⟩;have n1':=zaa n1 hb9;go_wp2_with (fail);obtain⟨U,hU⟩:∃U:World,U=V9:=⟨_,rfl⟩;subst hU;have qU:=zab q8 hb9;clear q8 q6 hb9 n1 n1'
 all_goals
  clear r68
  go_loopw [18] (fun i wr=>∃k:Nat,k≤ms.length∧i=.int .i64 k∧Below U.heap.size U wr) (fun i _=>ms.length-(intOf i).toNat)
  case atStart=>exact⟨0,Qjz _,rfl,Below.refl _ _⟩
  case round=>
   obtain⟨i,hi,rfl,hb⟩:=hrel;have qr:=zab qU hb;by_cases hlt:i<ms.length;rotate_left
   ·obtain rfl:i=ms.length:=by omega
    go_wp2;go_ret;exact⟨rfl,qr⟩
   by_cases h5:i<5;rotate_left
   ·have t1:decide ((i:Int)<5)=false:=Qgz (by omega);clear h5;go_wp2;go_ret;exact⟨rfl,qr⟩
   have t1:decide ((i:Int)<5)=true:=Qhz (by omega);clear h5;go_wp2_with (fail);obtain⟨Wo,hWo⟩:∃Wo:World,Wo=wr:=⟨_,rfl⟩;subst hWo;clear t1
   go_loopw [19] (fun j w2=>∃k:Nat,k≤ms.length∧j=.int .i64 k∧Below Wo.heap.size Wo w2) (fun j _=>ms.length-(intOf j).toNat)
   case atStart=>exact⟨0,Qjz _,rfl,Below.refl _ _⟩
   case round=>
    obtain⟨k,hk,rfl,hb2⟩:=hrel;have qw:=zab qr hb2;have hb3:=zab hb hb2;by_cases hlt2:k<ms.length;rotate_left
    ·obtain rfl:k=ms.length:=by omega
     go_wp2;go_roundw
     case rel=>exact⟨i+1,by omega,by go_num,hb3⟩
     case measure=>simp[intOf];omega
    by_cases h5:k<5;rotate_left
    ·have t1:decide ((k:Int)<5)=false:=Qgz (by omega);clear h5;go_wp2;go_roundw
     case rel=>exact⟨i+1,by omega,by go_num,hb3⟩
     case measure=>simp[intOf];omega
    have t1:decide ((k:Int)<5)=true:=Qhz (by omega);clear h5;obtain⟨bm,om,rfl⟩:=Slc.addrH HM.out (by omega);have hx:ms[i]? =some ms[i]:=Qbz hlt;generalize ms[i]=x at hx;have hy:ms[k]? =some ms[k]:=Qbz hlt2;generalize ms[k]=y at hy;obtain⟨Ap,cp,Aq,cq,p1,p2,p3,p4,f0,f1,f2,f3,f4,f5,f6,f7⟩:=Meths.atH (HM.out.keep (Keep.all qw)) hx;obtain⟨Bp,dp,Bq,dq,r1,r2,r3,r4,g0,g1,g2,g3,g4,g5,g6,g7⟩:=Meths.atH (HM.out.keep (Keep.all qw)) hy;have MI1:=HPM.out wr i x Ap Aq cp cq qw hx p1 ⟨_,p2⟩ p3 ⟨_,p4⟩;have MI2:=HPM.out wr k y Bp Bq dp dq qw hy r1 ⟨_,r2⟩ r3 ⟨_,r4⟩
    have HP1:=Qaz (fun V (hv:Below wr.heap.size wr V)=>zlw AH cH l AT cT ts x y Ap Aq Bp Bq cp cq dp dq V GH GT (HH.out.keep (Keep.all (zab qw hv))) HQ.out.hcH HQ.out.ol HQ.out.hl (HT.out.keep (Keep.all (zab qw hv))) HQ.out.hts (MI1.keep hv) (MI2.keep hv));have HP2:=Qaz (fun V (hv:Below wr.heap.size wr V)=>zjl AH cH l AT cT ts x y Ap Aq Bp Bq cp cq dp dq V (HQ.out.hi.keep (zab qw hv)) ⟨_,HT.out.keep (Keep.all (zab qw hv))⟩ HQ.out.hts (MI1.keep hv) (MI2.keep hv))
    have HP3:=Qaz (fun V (hv:Below wr.heap.size wr V)=>zkg AH cH l x y Ap Aq Bp Bq cp cq dp dq V (HQ.out.hi.keep (zab qw hv)) (MI1.keep hv) (MI2.keep hv) (HBB.out x (Qdz hx)) (HBB.out y (Qdz hy)));have HP4:=Qaz (fun V (hv:Below wr.heap.size wr V)=>zr1 AH cH l x y Ap Aq Bp Bq cp cq dp dq V (HQ.out.hi.keep (zab qw hv)) (MI1.keep hv) (MI2.keep hv) (HBB.out x (Qdz hx)) (HBB.out y (Qdz hy)));generalize zji l x y ts=pr at HP1 HP2;generalize zgl l x y=sm at HP3 HP4;unfold zie at HP2;have t5:(pr != pr)=false:=bne_self_eq_false pr;have t6:(sm != sm)=false:=bne_self_eq_false sm
    have w1:(0:Int)≤(i:Int):=by omega
    have w2:(i:Int)<(ms.length:Int):=by omega
    have w3:(0:Int)≤(k:Int):=by omega
    have w4:(k:Int)<(ms.length:Int):=by omega
    have HK:=Qaz hlt2;clear hx hy p1 p2 p3 p4 r1 r2 r3 r4 MI1 MI2;go_wp2_with (fail)
    go_region_held3 (fun w'=>Below wr.heap.size wr w'∧w'.cell? ⟨bm,om+i*8,none⟩=some (.int .i64 x.id)∧w'.cell? ⟨bm,om+i*8+1,none⟩=some (.string x.lib)∧w'.cell? ⟨bm,om+i*8+2,none⟩=some (.slice Ap x.pars.length cp)∧w'.cell? ⟨bm,om+i*8+3,none⟩=some (.int .i64 x.result.kind)∧w'.cell? ⟨bm,om+i*8+4,none⟩=some (.string x.result.name)∧w'.cell? ⟨bm,om+i*8+5,none⟩=some (.int .i64 x.result.lo)∧w'.cell? ⟨bm,om+i*8+6,none⟩=some (.int .i64 x.result.hi)∧w'.cell? ⟨bm,om+i*8+7,none⟩=some (.slice Aq x.result.args.length cq)∧w'.cell? ⟨bm,om+k*8,none⟩=some (.int .i64 y.id)∧w'.cell? ⟨bm,om+k*8+1,none⟩=some (.string y.lib)∧w'.cell? ⟨bm,om+k*8+2,none⟩=some (.slice Bp y.pars.length dp)∧w'.cell? ⟨bm,om+k*8+3,none⟩=some (.int .i64 y.result.kind)∧w'.cell? ⟨bm,om+k*8+4,none⟩=some (.string y.result.name)∧w'.cell? ⟨bm,om+k*8+5,none⟩=some (.int .i64 y.result.lo)∧w'.cell? ⟨bm,om+k*8+6,none⟩=some (.int .i64 y.result.hi)∧w'.cell? ⟨bm,om+k*8+7,none⟩=some (.slice Bq y.result.args.length dq))
     (first|exact⟨(Below.refl _ wr).drew,f0,f1,f2,f3,f4,f5,f6,f7,g0,g1,g2,g3,g4,g5,g6,g7⟩|(go_split_ands;refine⟨zab (by assumption) hbu,?_⟩;and_intros<;>exact zaa (by assumption) hbu))
     ((first|(go_at_call 32;refine(HP1.out _ (by go_split_ands;assumption)).mono ?_;rintro e V ⟨rfl,hbu⟩)|(go_at_call 33;refine(HP2.out _ (by go_split_ands;assumption)).mono ?_;rintro e V ⟨rfl,hbu⟩)|(go_at_call 34;refine(HP3.out _ (by go_split_ands;assumption)).mono ?_;rintro e V ⟨rfl,hbu⟩)|(go_at_call 35;refine(HP4.out _ (by go_split_ands;assumption)).mono ?_;rintro e V ⟨rfl,hbu⟩)))
    all_goals
     have hb5:Below wr.heap.size wr V:=by go_split_ands;assumption
     go_split_ands;clear HP1 HP2 HP3 HP4;go_wp2;go_roundw
     case rel=>exact⟨k+1,by have:=HK.out;omega,by go_num,zab hb2 hb5⟩
     case measure=>have:=HK.out;simp[intOf];omega
end
end Go.Proofs.YtepnmejahbiacaaGreat
