/- Part 13 of the proof: Ha, Ca, Ps, Am, Bw. -/
import Derived.Test.YtepnmejahbiacaaGreatM12
import Derived.Test.YtepnmejahbiacaaGreatM05
set_option linter.unusedVariables false
set_option linter.unusedSimpArgs false
set_option maxHeartbeats 64000000
set_option maxRecDepth 100000
namespace Go.Proofs.YtepnmejahbiacaaGreat
open Go.RowKit
theorem zjf{l:List CI}{t:Tag}(h:zbt l t=true):zpy t:=by
 unfold zbt at h;unfold zpy
 split at h
 ·exact .inl ‹_›
 ·split at h
  ·exact .inr (.inl ‹_›)
  ·split at h
   ·exact .inr (.inr (.inl ‹_›))
   ·split at h
    ·exact .inr (.inr (.inr (.inl ‹_›)))
    ·split at h
     ·exact .inr (.inr (.inr (.inr ‹_›)))
     ·cases h
def zx8(l:List CI)(v:Tag)(t:Ty):Prop:=zai l∧zbt l v=true∧zaj l t=0∧zbx l v t=true
theorem zyl(AH:Option Addr)(cH:Nat)(l:List CI)(v:Tag)(t:Ty)(A:Option Addr)(c:Nat)(W:World)(hcH:l.length≤cH)(GH:Nat→Prop)(h:Held GH (CIs AH l) W)(ol:∀x∈l,zdo x)(hl:l.length≤1000000)(G:Nat→Prop)(hA:Held G (Typs A t.args) W)
  (hc:t.args.length≤c) (hs:TySmall t):
  Calls Tryz.prog 53 #[.slice AH l.length cH,tagV v,tyV t A c] W fun e W'=>Below W.heap.size W W'∧((zx8 l v t∧e=.returned (.bool true))∨(¬zx8 l v t∧e=.returned (.bool false))):=by
 obtain⟨W1,hW1⟩:∃W1,W1=(W.alloc (.cells #[.int .i64 v.kind,.int .i64 v.num,.string v.name] 39)).alloc (.cells #[.int .i64 t.kind,.string t.name,.int .i64 t.lo,.int .i64 t.hi,.slice A t.args.length c] 36):=⟨_,rfl⟩;have b1:Below W.heap.size W W1:=by rw[hW1];exact((Below.refl _ W).alloc (Qiz _) _).alloc (by simp) _
 have xv:∀j u,[Value.int .i64 v.kind,.int .i64 v.num,.string v.name][j]? =some u→W1.cell? ⟨W.heap.size,j,none⟩=some u:=fun j u hj=>by rw[hW1];exact zbe (zac W _ _ _ rfl j u hj)
 have xt:∀j u,[Value.int .i64 t.kind,.string t.name,.int .i64 t.lo,.int .i64 t.hi,.slice A t.args.length c][j]? =some u→W1.cell? ⟨W.heap.size+1,j,none⟩=some u:=fun j u hj=>by rw[hW1];exact zac (W.alloc _) _ _ _ (by simp) j u hj
 have HL:=Qaz (zdh AH cH l W1 hcH GH (h.keep (Keep.all b1)) ol hl);go_enter Tryz.func53,Tryz.ntmps53;go_wp2_with (fail);rw[←hW1];refine HL.out.mono ?_;clear HL;rintro e W2 ⟨hb2,(⟨h1,rfl⟩|⟨h1,hp,M1,_,_,rfl,H⟩)⟩
 ·have b2:=b1.trans (hb2.mono b1.size);have H1:=Qaz h1;clear h1;go_wp2;go_ret;exact⟨b2,.inr ⟨fun hh=>H1.out hh.1,rfl⟩⟩
 have b2:=b1.trans (hb2.mono b1.size);have v0:=zaa (xv 0 _ rfl) hb2;have v1:=zaa (xv 1 _ rfl) hb2;have v2:=zaa (xv 2 _ rfl) hb2;have t0:=zaa (xt 0 _ rfl) hb2;have t1:=zaa (xt 1 _ rfl) hb2;have t2:=zaa (xt 2 _ rfl) hb2;have t3:=zaa (xt 3 _ rfl) hb2;have t4:=zaa (xt 4 _ rfl) hb2;have hl0:0<l.length:=by have:=h1.2.1;omega
 have H1:=Qaz h1;have HT:=Qaz (zhy hp M1 AH cH l v W2 H GH (h.keep (Keep.all b2)) hl0);clear h1 xv xt;go_wp2_with (fail);refine HT.out.mono ?_;clear HT;rintro e W3 ⟨rfl,hb3⟩;have b3:=b2.trans (hb3.mono b2.size);cases hq:zbt l v with
 |false=>
  have HQ:=Qaz hq;clear hq;go_wp2;go_ret;exact⟨b3,.inr ⟨fun hh=>(by have:=hh.2.1;rw[HQ.out]at this;cases this),rfl⟩⟩
 |true=>
  have HQ:=Qaz hq;clear hq;have v0:=zaa v0 hb3;have v1:=zaa v1 hb3;have v2:=zaa v2 hb3;have t0:=zaa t0 hb3;have t1:=zaa t1 hb3;have t2:=zaa t2 hb3;have t3:=zaa t3 hb3;have t4:=zaa t4 hb3;have HV:=Qaz (zfp hp M1 AH cH l t A c W3 G (H.keep hb3) (hA.keep (Keep.all b3)) hc hs);go_wp2_with (fail);refine HV.out.mono ?_;clear HV;rintro e W4 ⟨rfl,hb4⟩;have b4:=b3.trans (hb4.mono b3.size);by_cases hz:zaj l t=0
  ·have u1:(zaj l t==0)=true:=beq_iff_eq.2 hz;have HZ:=Qaz hz;clear hz;have v0:=zaa v0 hb4;have v1:=zaa v1 hb4;have v2:=zaa v2 hb4;have t0:=zaa t0 hb4;have t1:=zaa t1 hb4;have t2:=zaa t2 hb4;have t3:=zaa t3 hb4;have t4:=zaa t4 hb4;have HY:=Qaz (zpu hp M1 AH cH l ol v (zjf HQ.out) t.count t (Qiz _) A c W4 G GH ((H.keep hb3).keep hb4) (h.keep (Keep.all b4)) (hA.keep (Keep.all b4)) hc hs.all);go_wp2_with (fail);refine HY.out.mono ?_;clear HY;rintro e W5 ⟨rfl,hb5⟩;have b5:=b4.trans (hb5.mono b4.size);cases hy:zbx l v t with
   |false=>
    have HYY:=Qaz hy;clear hy;go_wp2;go_ret;exact⟨b5,.inr ⟨fun hh=>(by have:=hh.2.2.2;rw[HYY.out]at this;cases this),rfl⟩⟩
   |true=>
    have HYY:=Qaz hy;clear hy;go_wp2;go_ret;exact⟨b5,.inl ⟨⟨H1.out,HQ.out,HZ.out,HYY.out⟩,rfl⟩⟩
  ·have u1:(zaj l t==0)=false:=Qfz hz;have HZ:=Qaz hz;clear hz;go_wp2;go_ret;exact⟨b4,.inr ⟨fun hh=>HZ.out hh.2.2.1,rfl⟩⟩
theorem zoy(AH:Option Addr)(cH:Nat)(l:List CI)(v:Tag)(W:World)(hcH:l.length≤cH)(GH:Nat→Prop)(h:Held GH (CIs AH l) W)(ol:∀x∈l,zdo x)(hl:l.length≤1000000):
  Calls Tryz.prog 90 #[.slice AH l.length cH,tagV v] W fun e W'=>Below W.heap.size W W'∧(((zai l∧zbt l v=true)∧e=.returned (.string (zbd v)))∨(¬(zai l∧zbt l v=true)∧e=.returned (.string ⟨#[]⟩))):=by
 obtain⟨W1,hW1⟩:∃W1,W1=W.alloc (.cells #[.int .i64 v.kind,.int .i64 v.num,.string v.name] 39):=⟨_,rfl⟩;have b1:Below W.heap.size W W1:=by rw[hW1];exact(Below.refl _ W).alloc (Qiz _) _
 have xv:∀j u,[Value.int .i64 v.kind,.int .i64 v.num,.string v.name][j]? =some u→W1.cell? ⟨W.heap.size,j,none⟩=some u:=fun j u hj=>by rw[hW1];exact zac W _ _ _ rfl j u hj
 have HL:=Qaz (zdh AH cH l W1 hcH GH (h.keep (Keep.all b1)) ol hl);go_enter Tryz.func90,Tryz.ntmps90;go_wp2_with (fail);rw[←hW1];refine HL.out.mono ?_;clear HL;rintro e W2 ⟨hb2,(⟨h1,rfl⟩|⟨h1,hp,M1,_,_,rfl,H⟩)⟩
 ·have b2:=b1.trans (hb2.mono b1.size);have H1:=Qaz h1;clear h1;go_wp2;go_ret;exact⟨b2,.inr ⟨fun hh=>H1.out hh.1,rfl⟩⟩
 have b2:=b1.trans (hb2.mono b1.size);have v0:=zaa (xv 0 _ rfl) hb2;have v1:=zaa (xv 1 _ rfl) hb2;have v2:=zaa (xv 2 _ rfl) hb2;have hl0:0<l.length:=by have:=h1.2.1;omega
 have H1:=Qaz h1;have HT:=Qaz (zhy hp M1 AH cH l v W2 H GH (h.keep (Keep.all b2)) hl0);clear h1 xv;go_wp2_with (fail);refine HT.out.mono ?_;clear HT;rintro e W3 ⟨rfl,hb3⟩;have b3:=b2.trans (hb3.mono b2.size);cases hq:zbt l v with
 |false=>
  have HQ:=Qaz hq;clear hq;go_wp2;go_ret;exact⟨b3,.inr ⟨fun hh=>(by have:=hh.2;rw[HQ.out]at this;cases this),rfl⟩⟩
 |true=>
  have HQ:=Qaz hq;clear hq;have v0:=zaa v0 hb3;have v1:=zaa v1 hb3;have v2:=zaa v2 hb3;have HC:=Qaz (zij v (zjf HQ.out) W3);go_wp2_with (fail);refine HC.out.mono ?_;clear HC;rintro e W4 ⟨rfl,hb4⟩;have b4:=b3.trans (hb4.mono b3.size);go_wp2;go_ret;exact⟨b4,.inl ⟨⟨H1.out,HQ.out⟩,rfl⟩⟩
def z0s(t:Tag)(cs:List Value)(_:World):Prop:=cs=[.int .i64 t.kind,.int .i64 t.num,.string t.name]
abbrev Tags(A:Option Addr)(l:List Tag)(w:World):Prop:=Slc z0s 3 A l w
theorem Tags.atH{G:Nat→Prop}{b off:Nat}{l:List Tag}{w:World}(h:Held G (Tags (some ⟨b,off,none⟩) l) w){k:Nat}{x:Tag}(hk:l[k]? =some x):
  w.cell? ⟨b,off+k*3,none⟩=some (.int .i64 x.kind)∧w.cell? ⟨b,off+k*3+1,none⟩=some (.int .i64 x.num)∧w.cell? ⟨b,off+k*3+2,none⟩=some (.string x.name):=by
 obtain⟨cs,_,hr,hc⟩:=Slc.atH h (by decide) hk;obtain rfl:cs=_:=hr.now;exact⟨(hc 0 _ rfl).now,(hc 1 _ rfl).now,(hc 2 _ rfl).now⟩
structure CallAt (cp:Nat) (AH:Option Addr) (cH:Nat) (l:List CI) (AT:Option Addr) (cT:Nat) (ts:List Tag) (w:World):Prop where
 c0:w.cell? ⟨cp,0,none⟩=some (.slice AH l.length cH)
 c1:w.cell? ⟨cp,1,none⟩=some (.slice AT ts.length cT)
theorem CallAt.keep{cp:Nat}{AH:Option Addr}{cH:Nat}{l:List CI}{AT:Option Addr}{cT:Nat}{ts:List Tag}{w w':World}(h:CallAt cp AH cH l AT cT ts w)(q:Below w.heap.size w w'):CallAt cp AH cH l AT cT ts w':=
 ⟨zaa h.c0 q,zaa h.c1 q⟩
def zjk(l:List CI)(ts:List Tag)(m:Meth):Prop:=∀(i:Nat)(p:Par)(t:Tag),m.pars[i]? =some p→ts[i]? =some t→zx8 l t p.type
theorem ziv(cp:Nat)(AH:Option Addr)(cH:Nat)(l:List CI)(AT:Option Addr)(cT:Nat)(ts:List Tag)(m:Meth)(A1 A2:Option Addr)(c1 c2:Nat)(W:World)(HC:CallAt cp AH cH l AT cT ts W)
  (GH:Nat→Prop) (h:Held GH (CIs AH l) W) (hcH:l.length≤cH) (ol:∀x∈l,zdo x) (hl:l.length≤1000000) (GT:Nat→Prop) (hT:Held GT (Tags AT ts) W)
  (G:Nat→Prop) (hP:Held G (Pars A1 m.pars) W) (hn:m.pars.length=ts.length) (hn2:m.pars.length≤1000000) (hs:∀p∈m.pars,TySmall p.type):
  Calls Tryz.prog 42 #[.pointer (some ⟨cp,0,none⟩),.agg #[.int .i64 m.id,.string m.lib,.slice A1 m.pars.length c1,.int .i64 m.result.kind,.string m.result.name,.int .i64 m.result.lo,.int .i64 m.result.hi,.slice A2 m.result.args.length c2]] W
   fun e W'=>Below W.heap.size W W'∧((zjk l ts m∧e=.returned (.bool true))∨(¬zjk l ts m∧e=.returned (.bool false))):=by
 have HNN:=Qaz hn;clear hn;go_enter Tryz.func42,Tryz.ntmps42;go_wp2
 go_loopw [10] (fun i wr=>∃k:Nat,k≤m.pars.length∧i=.int .i64 k∧(∀(i:Nat)(p:Par)(t:Tag),i<k→m.pars[i]? =some p→ts[i]? =some t→zx8 l t p.type)∧Below W.heap.size W wr) (fun i _=>m.pars.length-(intOf i).toNat)
 case atStart=>exact⟨0,Qjz _,rfl,fun i p t hi=>absurd hi (by omega),(Below.refl _ W).alloc (Qiz _) _⟩
 case round=>
  obtain⟨k,hk,rfl,hok,hb⟩:=hrel;have HOK:=Qaz hok;clear hok;by_cases hlt:k<m.pars.length
  ·obtain⟨b,off,rfl⟩:=Slc.addrH hP (by omega);obtain⟨b2,off2,rfl⟩:=Slc.addrH hT (by rw[←HNN.out];omega);have hx:m.pars[k]? =some m.pars[k]:=Qbz hlt;have htk:k<ts.length:=by rw[←HNN.out];exact hlt
   have ht:ts[k]? =some ts[k]:=Qbz htk;generalize m.pars[k]=p at hx;generalize ts[k]=t at ht;have HX:=Qaz hx;have HT:=Qaz ht;have HCr:=HC.keep hb;have q0:=HCr.c0;have q1:=HCr.c1;obtain⟨A3,c3,p1,p2,g0,g1,g2,g3,g4,g5⟩:=Pars.atH (hP.keep (Keep.all hb)) hx;obtain⟨d0,d1,d2⟩:=Tags.atH (hT.keep (Keep.all hb)) ht;have hcpl:=cell_lt q0;have hb2l:=cell_lt d0;have HHas:=Qaz (fun V (hv:Below wr.heap.size wr V)=>zyl AH cH l t p.type A3 c3 V hcH GH ((h.keep (Keep.all hb)).keep (Keep.all hv)) ol hl G (p2.keep (Keep.all hv)) p1 (hs p (Qdz hx)));clear hx ht;by_cases hh:zx8 l t p.type
   ·have HO:=Qaz hh;have HH2:Hid (∀V,Below wr.heap.size wr V→Calls Tryz.prog 53 #[.slice AH l.length cH,tagV t,tyV p.type A3 c3] V fun e V'=>Below V.heap.size V V'∧e=.returned (.bool true)):=Qaz (fun V hv=>(HHas.out V hv).mono fun e V' hq=>⟨hq.1,by rcases hq.2 with q|q;exact q.2;exact absurd HO.out q.1⟩);clear hh HHas;go_wp2;refine(wpIn_wide (n:=9)).1 ?_
    gi_region_with (refine⟨trivial,?_⟩;gi_at_call 53;refine(callsIn_wide.2 (HH2.out _ (((Below.refl _ wr).alloc (Qiz _) _).drew))).mono ?_;rintro e V ⟨hbv,rfl⟩)
    all_goals go_wp2
    all_goals
     have bq:=((Below.refl _ wr).alloc (Qiz _) (Obj.cells #[.string p.name,.int .i64 p.type.kind,.string p.type.name,.int .i64 p.type.lo,.int .i64 p.type.hi,.slice A3 p.type.args.length c3] 76)).drew;have bf:Below W.heap.size W V:=hb.trans ((bq.trans (hbv.mono bq.size)).mono hb.size);refine⟨⟨k+1,by omega,by go_num,fun i p' t' hi hp ht=> ?_,bf⟩,by simp[intOf];omega⟩;rcases Nat.lt_or_ge i k with h|h
     ·exact HOK.out i p' t' h hp ht
     ·obtain rfl:i=k:=by omega
      rw[HX.out]at hp;rw[HT.out]at ht;cases hp;cases ht;exact HO.out
   ·have HO:=Qaz hh;have HH2:Hid (∀V,Below wr.heap.size wr V→Calls Tryz.prog 53 #[.slice AH l.length cH,tagV t,tyV p.type A3 c3] V fun e V'=>Below V.heap.size V V'∧e=.returned (.bool false)):=Qaz (fun V hv=>(HHas.out V hv).mono fun e V' hq=>⟨hq.1,by rcases hq.2 with q|q;exact absurd q.1 HO.out;exact q.2⟩);clear hh HHas;go_wp2;refine(wpIn_wide (n:=9)).1 ?_
    gi_region_with (refine⟨trivial,?_⟩;gi_at_call 53;refine(callsIn_wide.2 (HH2.out _ (((Below.refl _ wr).alloc (Qiz _) _).drew))).mono ?_;rintro e V ⟨hbv,rfl⟩)
    all_goals go_wp2
    all_goals
     have bq:=((Below.refl _ wr).alloc (Qiz _) (Obj.cells #[.string p.name,.int .i64 p.type.kind,.string p.type.name,.int .i64 p.type.lo,.int .i64 p.type.hi,.slice A3 p.type.args.length c3] 76)).drew;have bf:Below W.heap.size W V:=hb.trans ((bq.trans (hbv.mono bq.size)).mono hb.size);go_ret;exact⟨bf,.inr ⟨fun hA=>HO.out (hA k p t HX.out HT.out),rfl⟩⟩
  ·have hkl:k=m.pars.length:=by omega
   subst hkl;go_wp2;go_ret;exact⟨hb,.inl ⟨fun i p t hp ht=>HOK.out i p t (Qcz hp).1 hp ht,rfl⟩⟩
theorem zo4(x:CI)(A2 A3:Option Addr)(c2 c3:Nat)(s:ByteArray)(sb:Nat)(w:World)(hs:w.cell? ⟨sb,0,none⟩=some (.string s)):
  Calls Tryz.prog 92 #[.agg #[.string x.name,.string x.lib,.slice A2 x.supers.length c2,.slice A3 x.cpl.length c3,.bool x.abs,.bool x.seal_],.pointer (some ⟨sb,0,none⟩)] w fun e w'=>e=.returned (.bool (decide (x.name=s)))∧Below w.heap.size w w':=by
 have hl:=cell_lt hs;go_enter Tryz.func92,Tryz.ntmps92;go_wp2;go_ret;exact⟨rfl,(Below.refl _ w).alloc (Qiz _) _⟩
theorem zt0(A:Option Addr)(c:Nat)(l:List CI)(s:ByteArray)(sb:Nat)(w:World)(hs:w.cell? ⟨sb,0,none⟩=some (.string s))(G:Nat→Prop)(h:Held G (CIs A l) w)(hl:l.length≤1000000):
  Calls Tryz.prog 91 #[.slice A l.length c,.func (.func 92) #[] #[.pointer (some ⟨sb,0,none⟩)]] w
   (Found (fun i wr=>Below w.heap.size w wr∧∀j x,j<i→l[j]? =some x→x.name≠s) (fun i wr=>Below w.heap.size w wr∧(∀j x,j<i→l[j]? =some x→x.name≠s)∧∃x,l[i]? =some x∧x.name=s) (Panics fun _ _=>False) l.length):=by
 obtain⟨b,off,hbo⟩:∃b off,0<l.length→A=some ⟨b,off,none⟩:=by
  by_cases h0:0<l.length
  ·obtain⟨b,off,e⟩:=Slc.addrH h h0;exact⟨b,off,fun _=>e⟩
  ·exact⟨0,0,fun h=>absurd h h0⟩
 refine zj9 A l.length c 92 _ (fun i=>(l[i]?.map fun x=>Value.string x.name).getD undef) (fun i=>(l[i]?.map fun x=>Value.string x.lib).getD undef) (fun i=>(w.cell? ⟨b,off+i*6+2,none⟩).getD undef) (fun i=>(w.cell? ⟨b,off+i*6+3,none⟩).getD undef)
  (fun i=>(l[i]?.map fun x=>Value.bool x.abs).getD undef) (fun i=>(l[i]?.map fun x=>Value.bool x.seal_).getD undef) w (by omega) (enters Tryz.func92 (by kernel_rfl) rfl) _ _ _ ⟨Below.refl _ _,fun j x hj=>absurd hj (by omega)⟩ (fun h0=>⟨b,off,hbo h0⟩) ?_ ?_
 ·rintro i wr b' off' rfl hi ⟨hcw,_⟩;have hb':=hbo (by omega);simp only[Option.some.injEq,Addr.mk.injEq,and_true]at hb';obtain⟨rfl,rfl⟩:=hb';have hx:l[i]? =some l[i]:=Qbz hi;obtain⟨A2,c2,A3,c3,p1,p2,p3,p4,g0,g1,g2,g3,g4,g5⟩:=CIs.atH h hx;simp only[hx,Option.map_some,Option.getD_some,g2,g3];exact⟨zaa g0 hcw,zaa g1 hcw,zaa g2 hcw,zaa g3 hcw,zaa g4 hcw,zaa g5 hcw⟩
 ·rintro i wr hi ⟨hcw,hjw⟩;have hb':=hbo (by omega);subst hb';have hx:l[i]? =some l[i]:=Qbz hi;generalize l[i]=x at hx;obtain⟨A2,c2,A3,c3,p1,p2,p3,p4,g0,g1,g2,g3,g4,g5⟩:=CIs.atH h hx;simp only[hx,Option.map_some,Option.getD_some,g2,g3];refine(zo4 x A2 A3 c2 c3 s sb wr (zaa hs hcw)).mono ?_;rintro e w' ⟨rfl,hb2⟩;have hb3:=hcw.trans (hb2.mono hcw.size);by_cases hq:x.name=s
  ·exact .inr (.inl ⟨by rw[Qhz hq],hb3,hjw,x,hx,hq⟩)
  ·refine .inl ⟨by rw[Qgz hq],hb3,fun j y hj hy=> ?_⟩;rcases Nat.lt_or_ge j i with h|h
   ·exact hjw j y h hy
   ·obtain rfl:j=i:=by omega
    rw[hx]at hy;cases hy;exact hq
theorem zvn{l:List CI}(h:zai l){t:Tag}(ht:zbt l t=true):∃x∈l,x.name=zbd t:=by
 have hb:∀s:ByteArray,(zbm.any fun y=>decide (y.name=s))=true→∃x∈l,x.name=s:=fun s hs=>by
  obtain⟨x,hx,e⟩:=List.any_eq_true.1 hs;rw[←h.2.2.1]at hx;exact⟨x,List.mem_of_mem_take hx,of_decide_eq_true e⟩
 rcases zjf ht with k|k|k|k|k
 ·exact hb _ (by unfold zbd;rw[if_pos k];decide)
 ·exact hb _ (by unfold zbd;rw[if_neg (by omega),if_pos k];decide)
 ·exact hb _ (by unfold zbd;rw[if_neg (by omega),if_neg (by omega),if_pos k];decide)
 ·exact hb _ (by unfold zbd;rw[if_neg (by omega),if_neg (by omega),if_neg (by omega),if_pos k];decide)
 ·unfold zbt at ht;rw[if_neg (by omega),if_neg (by omega),if_neg (by omega),if_neg (by omega),if_pos k]at ht;simp only[Bool.and_eq_true]at ht;have h2:=ht.1.1.2;unfold hasB at h2;obtain⟨i,hi⟩:=Option.isSome_iff_exists.1 h2;obtain⟨x,hx,e⟩:=zdq hi;refine⟨x,Qdz hx,?_⟩;rw[e];unfold zbd
  rw[if_neg (by omega),if_neg (by omega),if_neg (by omega),if_neg (by omega)]
def za9(l:List CI)(t:Tag):List ByteArray:=((l.find? fun x=>decide (x.name=zbd t)).map CI.cpl).getD []
mutual
def Ty.pieces:Ty→List Ty
 | .mk k n lo hi args=>if k=5 then Ty.piecesL args else[.mk k n lo hi args]
def Ty.piecesL:List Ty→List Ty
 | []=>[]
 |t::r=>Ty.pieces t++Ty.piecesL r
end
theorem Ty.piecesL_eq:∀(l:List Ty),Ty.piecesL l=l.flatMap Ty.pieces
 | []=>by simp[Ty.piecesL]
 |t::r=>by rw[Ty.piecesL,Ty.piecesL_eq r];simp
theorem Ty.pieces_union{t:Ty}(h:t.kind=5):t.pieces=t.args.flatMap Ty.pieces:=by
 cases t with
 |mk k n lo hi args=>
  have hk:k=5:=h;rw[Ty.pieces,if_pos hk,Ty.piecesL_eq];rfl
theorem Ty.pieces_leaf{t:Ty}(h:t.kind≠5):t.pieces=[t]:=by
 cases t with
 |mk k n lo hi args=>
  have hk:¬k=5:=h;rw[Ty.pieces,if_neg hk]
def zuz(a:Ty):ByteArray:=if a.kind=2 then zal else if a.kind=3 then zan else if a.kind=4 then zaw else if a.kind=1 then a.name else⟨#[]⟩
def za0(l:List CI)(a b:ByteArray):Bool:=match l.find? fun x=>decide (x.name=a)with
 |none=>false
 |some x=>hasS x.cpl b
def za6(l:List CI)(a b:Ty):Bool:=
 if b.kind=1 then za0 l (zuz a) b.name
 else if a.kind≠b.kind then false
 else if a.kind=2 then decide (b.lo≤a.lo)&&decide (a.hi≤b.hi)
 else if a.kind=3 then decide (a.lo=b.lo)
 else za0 l a.name b.name
def za5(l:List CI)(s t:Ty):Bool:=s.pieces.all fun a=>t.pieces.any fun b=>za6 l a b
def zgs(l:List CI)(cpl:List ByteArray)(s t:Ty):Int:=
 if s.kind=1∧t.kind=1 then(if idx cpl t.name<idx cpl s.name then 2 else if idx cpl s.name<idx cpl t.name then 1 else 0)
 else if za5 l s t then(if za5 l t s then 0 else 1)else(if za5 l t s then 2 else 3)
def zct(l:List CI)(ts:List Tag)(a b:Meth)(i:Nat):Int:=match ts[i]?,a.pars[i]?,b.pars[i]? with
 |some t,some p,some q=>zgs l (za9 l t) p.type q.type
 |_,_,_=>3
def zbs(l:List CI)(ts:List Tag)(a b:Meth):Bool:=
 ((List.range a.pars.length).all fun i=>decide (zct l ts a b i=0∨zct l ts a b i=1))&&(List.range a.pars.length).any fun i=>decide (zct l ts a b i=1)
open Classical in
noncomputable def zde (l:List CI)(ts:List Tag)(m:Meth):Bool:=decide (zjk l ts m)
noncomputable def zcw (l:List CI)(ts:List Tag)(ms:List Meth):List Meth×List Meth:=zbu (zbs l ts) (ms.filter (zde l ts)).length (ms.filter (zde l ts))
def zeg(l:List CI)(n:Nat)(m:Meth):Bool:=decide (m.pars.length=n)&&decide (m.pars.length≤6)&&m.pars.all fun p=>decide (zaj l p.type=0)
def zcs(l:List CI)(ms:List Meth):Bool:=decide ((ms.map (·.id)).Nodup)&&ms.all (zeg l ((ms[0]?.map fun m=>m.pars.length).getD 0))
open Classical in
noncomputable def zaf (l:List CI)(ms:List Meth)(ts:List Tag):Int:=
 if ¬zai l then 80 else if 300<ms.length then 2
 else if zcs l ms=false∨6<ts.length∨(0<ms.length∧(ms[0]?.map fun m=>m.pars.length).getD 0≠ts.length)then 101
 else if ts.all (zbt l)then 0 else 82
theorem zft{l:List ByteArray}{x:ByteArray}{i:Nat}(hd:l.Nodup)(h:l[i]? =some x):idx l x=i:=by
 unfold idx;have:l.findIdx? (fun y=>decide (y=x))=some i:=by
  obtain⟨hi,rfl⟩:=Qcz h;rw[List.findIdx?_eq_some_iff_getElem];refine⟨hi,by simp,fun j hj=> ?_⟩;simp only[decide_eq_true_eq];intro e;have:=zds hd (i:=j) (j:=i) (Qbz (by omega)) (by rw[e];exact h);omega
 rw[this]
theorem zh3{l:List ByteArray}{x:ByteArray}(h:x∉l):idx l x= -1:=by
 unfold idx;have:l.findIdx? (fun y=>decide (y=x))=none:=by
  rw[List.findIdx?_eq_none_iff];intro y hy;simp only[decide_eq_false_iff_not];intro e;exact h (e▸hy)
 rw[this]
theorem zjn{l:List ByteArray}{x:ByteArray}(hd:l.Nodup)(h:x∈l):∃i:Nat,l[i]? =some x∧idx l x=i:=by
 obtain⟨i,hi⟩:=Qez h;exact⟨i,hi,zft hd hi⟩
theorem ziq(l:List CI):names (zav l)=l.map (·.name):=by
 unfold names zav;rw[List.map_map];rfl
theorem zpp{l:List CI}(h:zai l):(l.map (·.name)).Nodup:=by
 rw[←ziq];exact zer (zaz h.2.2.2.2.1).2
theorem zd1{l:List CI}(h:zai l){s:ByteArray}{i:Nat}{x:CI}(hx:l[i]? =some x)(hs:x.name=s):l.find? (fun x=>decide (x.name=s))=some x∧zck l s=some i:=by
 have hn:(l.map (·.name))[i]? =some s:=by rw[List.getElem?_map,hx];simp[hs]
 refine⟨?_,zja hn (zpp h)⟩;cases hf:l.find? (fun x=>decide (x.name=s))with
 |none=>
  have:=List.find?_eq_none.1 hf x (Qdz hx);simp[hs]at this
 |some y=>
  have hy:=List.find?_some hf;obtain⟨j,hj⟩:=Qez (List.mem_of_find?_eq_some hf);have hjn:(l.map (·.name))[j]? =some s:=by rw[List.getElem?_map,hj];simpa using hy
  obtain rfl:=zds (zpp h) hjn hn;rw[hj]at hx;exact hx
theorem zxk{l:List CI}{s:ByteArray}(hf:l.find? (fun x=>decide (x.name=s))=none):zck l s=none:=by
 cases h:zck l s with
 |none=>rfl
 |some i=>
  obtain⟨x,hx,e⟩:=zdq h;have:=List.find?_eq_none.1 hf x (Qdz hx);simp[e]at this
theorem ze5{l:List CI}(h:zai l)(a b:ByteArray):zbg l a b=za0 l a b:=by
 unfold zbg za0;cases hf:l.find? (fun x=>decide (x.name=a))with
 |none=>rw[zxk hf]
 |some x=>
  have hx:=List.find?_some hf;obtain⟨j,hj⟩:=Qez (List.mem_of_find?_eq_some hf);simp only[(zd1 h hj (by simpa using hx)).2,hj]
theorem zu4(l:List CI)(t:Tag)(n:ByteArray):za0 l (zbd t) n=hasS (za9 l t) n:=by
 unfold za0 za9;cases l.find? (fun x=>decide (x.name=zbd t))with
 |none=>rfl
 |some x=>rfl
theorem zyc{l:List CI}(h:zai l){x:CI}(hx:x∈l):x.cpl.Nodup:=by
 obtain⟨j,hj⟩:=Qez hx;exact(zii (zaz h.2.2.2.2.1).2 j x.cpl (h.2.2.2.2.2 j x hj)).1
def zkk(n:ByteArray):Ty:=.mk 1 n 0 0 []
def zhm(l:List Int)(x:Int):Bool:=l.any fun y=>decide (y=x)
theorem zg9{l:List Int}{x:Int}:zhm l x=true↔x∈l:=by
 unfold zhm;rw[List.any_eq_true]
 exact⟨fun ⟨y,hy,e⟩=>by have:=of_decide_eq_true e;rwa [←this],fun h=>⟨x,h,Qhz rfl⟩⟩
theorem zfj{l:List Int}{x:Int}:zhm l x=false↔x∉l:=by
 rw[←zg9];cases zhm l x<;>simp
def zmc(seen:List Int)(s:Int):Option Value:=if zhm seen s then some (.bool true)else none
theorem zvh(seen:List Int)(x:Int):(fun s=>if s=x then some (Value.bool true)else zmc seen s)=zmc (seen++[x]):=by
 funext s;unfold zmc zhm
 by_cases h:s=x
 ·subst h;simp
 ·have:¬x=s:=fun e=>h e.symm;rw[if_neg h,List.any_append];simp only[List.any_cons,List.any_nil,Qgz this,Bool.or_false]
theorem zx9(seen:List Int)(s:Int):(zmc seen s).getD (.bool false)=.bool (zhm seen s):=by
 unfold zmc;cases zhm seen s<;>rfl
noncomputable abbrev zk7:KeyKind Tryz.prog 3 Int:=KeyKind.int Tryz.underlying3
theorem zxv{w:World}{b:Nat}{seen:List Int}(h:MapF zk7 b (zmc seen) w)(s:Int):
  (Instr.lookup 114 (.map (some b)) (.int .i64 s) false).run Tryz.prog w=.ok (.bool (zhm seen s)) w:=by
 have:=zda h Tryz.underlying114 (zlh w) s false;rw[zx9]at this;exact this
theorem zq9{l:List CI}{ms:List Meth}{k:Nat}{x:Meth}(hx:ms[k]? =some x)(h:zhm ((ms.take k).map (·.id)) x.id=true):zcs l ms=false:=by
 unfold zcs;rw[Qgz];rfl
 intro hd;obtain⟨hk,rfl⟩:=Qcz hx;obtain⟨y,hy,e⟩:=List.mem_map.1 (zg9.1 h);obtain⟨j,hj⟩:=Qez hy;rw[List.getElem?_take]at hj
 split at hj
 ·have h1:(ms.map (·.id))[j]? =some ms[k].id:=by rw[List.getElem?_map,hj];exact congrArg some e
  have h2:(ms.map (·.id))[k]? =some ms[k].id:=by rw[List.getElem?_map,hx];rfl
  have:=zds hd h1 h2;omega
 ·cases hj
theorem zgr{l:List CI}{ms:List Meth}{x:Meth}{n0:Nat}(hn0:(ms[0]?.map fun m=>m.pars.length).getD 0=n0)(hx:x∈ms)(h:zeg l n0 x=false):zcs l ms=false:=by
 unfold zcs;rw[hn0,Bool.and_eq_false_iff];exact .inr (List.all_eq_false.2 ⟨x,hx,by rw[h];decide⟩)
theorem zlm{l:List CI}{n0:Nat}{x:Meth}{p:Par}(hp:p∈x.pars)(h:zaj l p.type≠0):zeg l n0 x=false:=by
 unfold zeg;rw[Bool.and_eq_false_iff];exact .inr (List.all_eq_false.2 ⟨p,hp,by simpa using h⟩)
theorem zgb(AH:Option Addr)(cH:Nat)(l:List CI)(A:Option Addr)(c:Nat)(ms:List Meth)(W:World)(GH:Nat→Prop)(h:Held GH (CIs AH l) W)(hcH:l.length≤cH)(ol:∀x∈l,zdo x)(hl:l.length≤1000000)
  (G:Nat→Prop) (hM:Held G (Meths A ms) W) (hn:ms.length≤1000000) (hL:zai l) (hs:∀m∈ms,∀p∈m.pars,TySmall p.type) (hp:∀m∈ms,m.pars.length≤1000000):
  Calls Tryz.prog 45 #[.slice AH l.length cH,.slice A ms.length c] W fun e W'=>e=.returned (.bool (zcs l ms))∧Below W.heap.size W W':=by
 obtain⟨n0,hn0⟩:∃n0,(ms[0]?.map fun m=>m.pars.length).getD 0=n0:=⟨_,rfl⟩;have HN0:=Qaz hn0;clear hn0;have hmm:= @run_makeMap Tryz.prog;have HL:=Qaz hL;clear hL;go_enter Tryz.func45,Tryz.ntmps45;go_wp2;clear hmm;have hM0:=MapF.made zk7 W W.heap.size rfl
 go_loopw [13] (fun i wr=>∃k:Nat,k≤ms.length∧i=.int .i64 k∧MapF zk7 W.heap.size (zmc ((ms.take k).map (·.id))) wr∧((ms.take k).map (·.id)).Nodup∧(ms.take k).all (zeg l n0)=true∧Below W.heap.size W wr) (fun i _=>ms.length-(intOf i).toNat)
 case atStart=>exact⟨0,Qjz _,rfl,hM0,by simp,by simp,(Below.refl _ W).alloc (Qiz _) _⟩
 case round=>
  clear hM0;obtain⟨k,hk,rfl,hMk,hnd,hall,hb⟩:=hrel;have HND:=Qaz hnd;have HALL:=Qaz hall;clear hnd hall;by_cases hlt:k<ms.length
  ·obtain⟨b,off,rfl⟩:=Slc.addrH hM (by omega);have hx:ms[k]? =some ms[k]:=Qbz hlt;have h0:ms[0]? =some ms[0]:=Qbz (by omega);have hxm:ms[k]∈ms:=List.getElem_mem hlt;generalize ms[k]=x at hx hxm;generalize ms[0]=m0 at h0;have HX:=Qaz hx;have HXM:=Qaz hxm;have HN:Hid (m0.pars.length=n0):=Qaz (by have:=HN0.out;rw[h0]at this;simpa using this);obtain⟨A1,c1,A2,c2,p1,p2,p3,p4,g0,g1,g2,g3,g4,g5,g6,g7⟩:=Meths.atH (hM.here.keep (Keep.below hb)) hx;obtain⟨B1,d1,B2,d2,_,_,_,_,_,_,q2,_,_,_,_,_⟩:=Meths.atH (hM.keep (Keep.all hb)) h0;rw[Nat.zero_mul,Nat.add_zero]at q2;have hpx:=hp x hxm
   have hpm:=hp m0 (Qdz h0);have HSX:=Qaz (hs x hxm);clear hx h0 hxm;go_wp2_with (fail);obtain⟨W1,hW1⟩:∃W1,W1=wr.alloc (.cells #[.int .i64 x.id,.string x.lib,.slice A1 x.pars.length c1,.int .i64 x.result.kind,.string x.result.name,.int .i64 x.result.lo,.int .i64 x.result.hi,.slice A2 x.result.args.length c2] 68):=⟨_,rfl⟩;rw[←hW1];have b1:Below wr.heap.size wr W1:=by rw[hW1];exact(Below.refl _ wr).alloc (Qiz _) _
   have xm:∀j u,[Value.int .i64 x.id,.string x.lib,.slice A1 x.pars.length c1,.int .i64 x.result.kind,.string x.result.name,.int .i64 x.result.lo,.int .i64 x.result.hi,.slice A2 x.result.args.length c2][j]? =some u→W1.cell? ⟨wr.heap.size,j,none⟩=some u:=fun j u hj=>by rw[hW1];exact zac wr _ _ _ rfl j u hj
   clear hW1;have m0':=xm 0 _ rfl;have m2':=xm 2 _ rfl;have q2':=zaa q2 b1;have hM1:MapF zk7 W.heap.size (zmc ((ms.take k).map (·.id))) W1:=hMk.keep (Keep.all (G:=fun _=>True) b1) trivial;have hlk:∀n,(Instr.lookup 114 (.map (some W.heap.size)) (.int .i64 x.id) false).run Tryz.prog (W1.drewN n)=.ok (.bool (zhm ((ms.take k).map (·.id)) x.id)) (W1.drewN n):=fun n=>zxv (hM1.keep (Keep.drewN (fun _=>True) W1 n) trivial) x.id;have bW1:=hb.trans (b1.mono hb.size);have HM1:=Qaz hM1;have hmlt:=hMk.lt;clear hM1 hMk g0 g1 g2 g3 g4 g5 g6 g7 q2 p3 p4 xm;generalize hseen:(ms.take k).map (·.id)=seen at hlk
   have HSE:=Qaz hseen;clear hseen;cases n1:zhm seen x.id with
   |true=>
    have HB:Hid (zcs l ms=false):=Qaz (zq9 HX.out (by rw[HSE.out];exact n1));rw[n1]at hlk;clear n1
    go_quiet (fail)
    go_wp2;go_ret;exact⟨(by rw[HB.out];try rfl),bW1.trans ((zad _ _ _).mono bW1.size)⟩
   |false=>
    rw[n1]at hlk;by_cases n2:x.pars.length=m0.pars.length
    ·have t2:((x.pars.length:Int) != (m0.pars.length:Int))=false:=bne_eq_false_iff_eq.2 (by omega);by_cases n3:6<x.pars.length
     ·have n3':(6:Int)<(x.pars.length:Int):=by omega
      have HB:Hid (zcs l ms=false):=Qaz (zgr HN0.out HXM.out (by unfold zeg;rw[Qgz (show ¬x.pars.length≤6 by omega)];simp));clear n1 n2
      go_quiet (fail)
      go_wp2;go_ret;exact⟨(by rw[HB.out];try rfl),bW1.trans ((zad _ _ _).mono bW1.size)⟩
     ·have n3':¬(6:Int)<(x.pars.length:Int):=by omega
      have HQ:=Qaz n1;have HE:=Qaz n2;have N3:=Qaz n3;clear n1 n2
      go_quiet (fail)
      have hMs:MapF zk7 W.heap.size (zmc seen) W1:=HSE.out▸HM1.out;go_wp2_with (at_mapUpdate;refine zcu zk7 _ rfl 114 4 _ _ _ rfl Tryz.underlying114 W.heap.size (zmc seen) (hMs.keep (Keep.drewN (fun _=>True) W1 _) trivial) rfl x.id rfl (.bool true) rfl ?_);intro w3 hM3 hg3;rw[zvh]at hM3;have hbq:Below W.heap.size W w3:=(bW1.trans ((zad _ _ _).mono bW1.size)).grown hg3 (by have:=bW1.size;simpa using this) fun k e=>by cases e;exact Qiz _
      have hkq:Keep (fun b=>b≠W.heap.size) W1 w3:=(Keep.drewN _ W1 _).trans (Keep.grown hg3 fun b hb e=>hb (by cases e;rfl));have m2q:=zah m2' hkq (show wr.heap.size≠W.heap.size by omega);have p2q:Held (fun b=>b<W.heap.size) (Pars A1 x.pars) w3:=p2.keep ((Keep.all b1).trans (hkq.mono fun b hb=>by omega));clear m0' m2' q2' hMs;clear hlk n3';go_wp2_with (fail)
      go_loopw [44] (fun i w2=>∃j:Nat,j≤x.pars.length∧i=.int .i64 j∧(∀(i:Nat)(p:Par),i<j→x.pars[i]? =some p→zaj l p.type=0)∧Below w3.heap.size w3 w2) (fun i _=>x.pars.length-(intOf i).toNat)
      case atStart=>exact⟨0,Qjz _,rfl,fun i p h=>absurd h (by omega),Below.refl _ _⟩
      case round=>
       obtain⟨j,hj,rfl,hv,hb2⟩:=hrel;have HV:=Qaz hv;clear hv;have bW2:=hbq.trans (hb2.mono hbq.size);by_cases hjl:j<x.pars.length
       ·obtain⟨bp,offp,rfl⟩:=Slc.addrH p2q (by omega);have hy:x.pars[j]? =some x.pars[j]:=Qbz hjl;generalize x.pars[j]=p at hy;have HY:=Qaz hy;obtain⟨A3,c3,r1,r2,g0,g1,g2,g3,g4,g5⟩:=Pars.atH (p2q.keep (Keep.all hb2)) hy;have HVal:=Qaz (fun V (hv:Below wr.heap.size wr V)=>zs3 AH cH l p.type A3 c3 V hcH GH ((h.keep (Keep.all bW2)).keep (Keep.all hv)) ol hl _ (r2.keep (Keep.all hv)) r1 (HSX.out p (Qdz hy)))
        have bw2:Below wr.heap.size wr (wr.alloc (.cells #[.string p.name,.int .i64 p.type.kind,.string p.type.name,.int .i64 p.type.lo,.int .i64 p.type.hi,.slice A3 p.type.args.length c3] 76)):=(Below.refl _ wr).alloc (Qiz _) _;clear hy;go_wp2_with (fail);refine(HVal.out _ bw2).mono ?_;clear HVal;rintro e V ⟨hbv,(⟨hn',_⟩|⟨_,rfl⟩)⟩
        ·exact absurd HL.out hn'
        have bV:=bw2.trans (hbv.mono bw2.size);by_cases hz:zaj l p.type=0
        ·have HZ:=Qaz hz;have t3:(zaj l p.type != 0)=false:=bne_eq_false_iff_eq.2 hz;clear hz;go_wp2;go_roundw
         case rel=>
          refine⟨j+1,by omega,by go_num,fun i p' hi hp=> ?_,hb2.trans (bV.mono hb2.size)⟩;rcases Nat.lt_or_ge i j with q|q
          ·exact HV.out i p' q hp
          ·obtain rfl:i=j:=by omega
           rw[HY.out]at hp;cases hp;exact HZ.out
         case measure=>simp[intOf];omega
        ·have t3:(zaj l p.type != 0)=true:=by rw[bne_iff_ne];exact hz
         have HB:Hid (zcs l ms=false):=Qaz (zgr HN0.out HXM.out (zlm (Qdz HY.out) hz));clear hz;go_wp2;go_ret;exact⟨(by rw[HB.out];try rfl),bW2.trans (bV.mono bW2.size)⟩
       ·obtain rfl:j=x.pars.length:=by omega
        have hM2:MapF zk7 W.heap.size (zmc (seen++[x.id])) wr:=hM3.keep (Keep.all (G:=fun _=>True) hb2) trivial;go_wp2;go_roundw
        case rel=>
         refine⟨k+1,by omega,by go_num,?_,?_,?_,bW2⟩
         ·rw[take_snoc HX.out,List.map_append,HSE.out];exact hM2
         ·rw[take_snoc HX.out,List.map_append];refine List.nodup_append.2 ⟨HND.out,by simp,fun a ha b hb e=> ?_⟩;simp at hb;subst hb;subst e
          rw[HSE.out]at ha;exact zfj.1 HQ.out ha
         ·rw[take_snoc HX.out,List.all_append,HALL.out];have hp1:zeg l n0 x=true:=by
           unfold zeg;rw[Qhz (show x.pars.length=n0 by rw[HE.out,HN.out]),Qhz (show x.pars.length≤6 by have:=N3.out;omega)];simp only[Bool.true_and,List.all_eq_true,decide_eq_true_eq];intro p hp;obtain⟨i,hi⟩:=Qez hp;exact HV.out i p (Qcz hi).1 hi
          simp[hp1]
        case measure=>simp[intOf];omega
    ·have t2:((x.pars.length:Int) != (m0.pars.length:Int))=true:=by rw[bne_iff_ne];omega
     have HB:Hid (zcs l ms=false):=Qaz (zgr HN0.out HXM.out (by unfold zeg;rw[Qgz (show ¬x.pars.length=n0 by rw[←HN.out];exact n2)];rfl));clear n1 n2
     go_quiet (fail)
     go_wp2;go_ret;exact⟨(by rw[HB.out];try rfl),bW1.trans ((zad _ _ _).mono bW1.size)⟩
  ·obtain rfl:k=ms.length:=by omega
   have HB:Hid (zcs l ms=true):=Qaz (by
    have h1:=HND.out;have h2:=HALL.out
    rw[List.take_length]at h1 h2;unfold zcs;rw[HN0.out,h2,Qhz h1];rfl)
   go_wp2;go_ret;exact⟨(by rw[HB.out];try rfl),hb⟩
theorem zra(x:CI)(A2 A3:Option Addr)(c2 c3:Nat)(s:ByteArray)(sb:Nat)(w:World)(hs:w.cell? ⟨sb,0,none⟩=some (.string s)):
  Calls Tryz.prog 174 #[.agg #[.string x.name,.string x.lib,.slice A2 x.supers.length c2,.slice A3 x.cpl.length c3,.bool x.abs,.bool x.seal_],.pointer (some ⟨sb,0,none⟩)] w fun e w'=>e=.returned (.bool (decide (x.name=s)))∧Below w.heap.size w w':=by
 have hl:=cell_lt hs;go_enter Tryz.func174,Tryz.ntmps174;go_wp2;go_ret;exact⟨rfl,(Below.refl _ w).alloc (Qiz _) _⟩
theorem zkf(A:Option Addr)(c:Nat)(l:List CI)(s:ByteArray)(sb:Nat)(w:World)(hs:w.cell? ⟨sb,0,none⟩=some (.string s))(G:Nat→Prop)(h:Held G (CIs A l) w)(hl:l.length≤1000000):
  Calls Tryz.prog 91 #[.slice A l.length c,.func (.func 174) #[] #[.pointer (some ⟨sb,0,none⟩)]] w
   (Found (fun i wr=>Below w.heap.size w wr∧∀j x,j<i→l[j]? =some x→x.name≠s) (fun i wr=>Below w.heap.size w wr∧(∀j x,j<i→l[j]? =some x→x.name≠s)∧∃x,l[i]? =some x∧x.name=s) (Panics fun _ _=>False) l.length):=by
 obtain⟨b,off,hbo⟩:∃b off,0<l.length→A=some ⟨b,off,none⟩:=by
  by_cases h0:0<l.length
  ·obtain⟨b,off,e⟩:=Slc.addrH h h0;exact⟨b,off,fun _=>e⟩
  ·exact⟨0,0,fun h=>absurd h h0⟩
 refine zj9 A l.length c 174 _ (fun i=>(l[i]?.map fun x=>Value.string x.name).getD undef) (fun i=>(l[i]?.map fun x=>Value.string x.lib).getD undef) (fun i=>(w.cell? ⟨b,off+i*6+2,none⟩).getD undef) (fun i=>(w.cell? ⟨b,off+i*6+3,none⟩).getD undef)
  (fun i=>(l[i]?.map fun x=>Value.bool x.abs).getD undef) (fun i=>(l[i]?.map fun x=>Value.bool x.seal_).getD undef) w (by omega) (enters Tryz.func174 (by kernel_rfl) rfl) _ _ _ ⟨Below.refl _ _,fun j x hj=>absurd hj (by omega)⟩ (fun h0=>⟨b,off,hbo h0⟩) ?_ ?_
 ·rintro i wr b' off' rfl hi ⟨hcw,_⟩;have hb':=hbo (by omega);simp only[Option.some.injEq,Addr.mk.injEq,and_true]at hb';obtain⟨rfl,rfl⟩:=hb';have hx:l[i]? =some l[i]:=Qbz hi;obtain⟨A2,c2,A3,c3,p1,p2,p3,p4,g0,g1,g2,g3,g4,g5⟩:=CIs.atH h hx;simp only[hx,Option.map_some,Option.getD_some,g2,g3];exact⟨zaa g0 hcw,zaa g1 hcw,zaa g2 hcw,zaa g3 hcw,zaa g4 hcw,zaa g5 hcw⟩
 ·rintro i wr hi ⟨hcw,hjw⟩;have hb':=hbo (by omega);subst hb';have hx:l[i]? =some l[i]:=Qbz hi;generalize l[i]=x at hx;obtain⟨A2,c2,A3,c3,p1,p2,p3,p4,g0,g1,g2,g3,g4,g5⟩:=CIs.atH h hx;simp only[hx,Option.map_some,Option.getD_some,g2,g3];refine(zra x A2 A3 c2 c3 s sb wr (zaa hs hcw)).mono ?_;rintro e w' ⟨rfl,hb2⟩;have hb3:=hcw.trans (hb2.mono hcw.size);by_cases hq:x.name=s
  ·exact .inr (.inl ⟨by rw[Qhz hq],hb3,hjw,x,hx,hq⟩)
  ·refine .inl ⟨by rw[Qgz hq],hb3,fun j y hj hy=> ?_⟩;rcases Nat.lt_or_ge j i with h|h
   ·exact hjw j y h hy
   ·obtain rfl:j=i:=by omega
    rw[hx]at hy;cases hy;exact hq
theorem zsb(A:Option Addr)(c:Nat)(l:List CI)(a b:ByteArray)(W:World)(G:Nat→Prop)(h:Held G (CIs A l) W)(hl:l.length≤1000000)(ol:∀x∈l,zdo x):
  Calls Tryz.prog 131 #[.slice A l.length c,.string a,.string b] W fun e W'=>e=.returned (.bool (za0 l a b))∧Below W.heap.size W W':=by
 have HPL:=Qaz (fun V (hv:Below W.heap.size W V)(hs:V.cell? ⟨W.heap.size,0,none⟩=some (.string a))=>zkf A c l a W.heap.size V hs G (h.keep (Keep.all hv)) hl);have b1:Below W.heap.size W (W.alloc (.cells #[.string a] 9)):=(Below.refl _ W).alloc (Qiz _) _;go_enter Tryz.func131,Tryz.ntmps131;go_wp2_with (fail);refine(HPL.out _ b1 (zac W _ _ _ rfl 0 _ rfl)).mono ?_;rintro e V (⟨rfl,hbv,hno⟩|⟨i,hi,rfl,hbv,hfst,x,hx,hxn⟩|⟨_,_,hf⟩)
 ·have hb0:decide ((0:Int)≤ -1)=false:=by decide
  have HB:Hid (za0 l a b=false):=Qaz (by
   unfold za0;cases hf:l.find? (fun x=>decide (x.name=a))with
   |none=>rfl
   |some x=>
    obtain⟨j,hj⟩:=Qez (List.mem_of_find?_eq_some hf);exact absurd (by simpa using List.find?_some hf) (hno j x (Qcz hj).1 hj))
  have bV:=b1.trans (hbv.mono b1.size);clear hno;go_wp2;go_ret;exact⟨(by rw[HB.out];try rfl),bV⟩
 ·have bV:=b1.trans (hbv.mono b1.size);have HB:Hid (za0 l a b=hasS x.cpl b):=Qaz (by
   unfold za0;have hf:l.find? (fun x=>decide (x.name=a))=some x:=by
    rw[List.find?_eq_some_iff_getElem];obtain⟨hi',hx'⟩:=Qcz hx;refine⟨by simpa using hxn,i,hi',hx',fun j hj=> ?_⟩;have:=hfst j _ hj (Qbz (by omega))
    simpa using this
   rw[hf])
  obtain⟨bh,offh,rfl⟩:=Slc.addrH h (by omega);obtain⟨A2,c2,A3,c3,p1,p2,p3,p4,g0,g1,g2,g3,g4,g5⟩:=CIs.atH (h.keep (Keep.all bV)) hx;have hcx:=(ol x (Qdz hx)).2;have HC:=Qaz (zcl A3 c3 x.cpl b V p4.now (by omega));have hi0:(0:Int)≤(i:Int):=Int.natCast_nonneg _;clear hx hxn hfst g0 g1 g2 g4 g5;go_wp2_with (go_at_call 175;refine(HC.out).mono ?_;rintro e w' ⟨rfl,rfl⟩);go_ret;exact⟨(by rw[HB.out];try rfl),bV⟩
 ·exact hf.elim
def z3a(n:ByteArray)(k:Int):Option Value:=if k=1 then some (.string n)else if k=4 then some (.string zaw)else if k=3 then some (.string zan)else if k=2 then some (.string zal)else none
theorem zzy(a:Ty):(z3a a.name a.kind).getD (.string ⟨#[]⟩)=.string (zuz a):=by
 unfold z3a zuz;by_cases h1:a.kind=1
 ·simp[h1]
 by_cases h2:a.kind=2
 ·simp[h2]
 by_cases h3:a.kind=3
 ·simp[h3]
 by_cases h4:a.kind=4
 ·simp[h4]
 simp[h1,h2,h3,h4]
theorem zy8(w:World):(zeroValue 9).run Tryz.prog w=.ok (.string ⟨#[]⟩) w:=by kernel_rfl
noncomputable abbrev zo5:KeyKind Tryz.prog 3 Int:=KeyKind.int Tryz.underlying3
theorem z1x{w:World}{b:Nat}{n:ByteArray}(h:MapF zo5 b (z3a n) w)(a:Ty)(hn:n=a.name):
  (Instr.lookup 163 (.map (some b)) (.int .i64 a.kind) false).run Tryz.prog w=.ok (.string (zuz a)) w:=by
 subst hn;have:=zda h Tryz.underlying163 (zy8 w) a.kind false;rw[zzy]at this;exact this
theorem zqk(A:Option Addr)(c:Nat)(l:List CI)(a b:Ty)(Aa Ab:Option Addr)(ca cb:Nat)(W:World)(G:Nat→Prop)(h:Held G (CIs A l) W)(hl:l.length≤1000000)(ol:∀x∈l,zdo x):
  Calls Tryz.prog 86 #[.slice A l.length c,tyV a Aa ca,tyV b Ab cb] W fun e W'=>e=.returned (.bool (za6 l a b))∧Below W.heap.size W W':=by
 obtain⟨W1,hW1⟩:∃W1,W1=(W.alloc (.cells #[.int .i64 a.kind,.string a.name,.int .i64 a.lo,.int .i64 a.hi,.slice Aa a.args.length ca] 36)).alloc (.cells #[.int .i64 b.kind,.string b.name,.int .i64 b.lo,.int .i64 b.hi,.slice Ab b.args.length cb] 36):=⟨_,rfl⟩;have b1:Below W.heap.size W W1:=by rw[hW1];exact((Below.refl _ W).alloc (Qiz _) _).alloc (by simp) _
 have xa:∀j u,[Value.int .i64 a.kind,.string a.name,.int .i64 a.lo,.int .i64 a.hi,.slice Aa a.args.length ca][j]? =some u→W1.cell? ⟨W.heap.size,j,none⟩=some u:=fun j u hj=>by rw[hW1];exact zat (zac W _ _ _ rfl j u hj)
 have xb:∀j u,[Value.int .i64 b.kind,.string b.name,.int .i64 b.lo,.int .i64 b.hi,.slice Ab b.args.length cb][j]? =some u→W1.cell? ⟨W.heap.size+1,j,none⟩=some u:=fun j u hj=>by rw[hW1];exact zac (W.alloc _) _ _ _ (by simp) j u hj
 obtain⟨M,hM⟩:∃M,M=W1.heap.size:=⟨_,rfl⟩;obtain⟨W2,hW2⟩:∃W2,W2=W1.alloc (.map #[] 0):=⟨_,rfl⟩;have hmk:(Instr.makeMap 163 none).run Tryz.prog W1=.ok (.map (some M)) W2:=by rw[hM,hW2];rfl
 have hM0:MapF zo5 M (fun _=>none) W2:=by rw[hM,hW2];exact MapF.made zo5 W1 _ rfl
 obtain⟨w3,hr3,hM3,hg3⟩:=zca hM0 (t:=163) (et:=9) Tryz.underlying163 2 (.string zal);obtain⟨w4,hr4,hM4,hg4⟩:=zca hM3 (t:=163) (et:=9) Tryz.underlying163 3 (.string zan);obtain⟨w5,hr5,hM5,hg5⟩:=zca hM4 (t:=163) (et:=9) Tryz.underlying163 4 (.string zaw);obtain⟨w6,hr6,hM6,hg6⟩:=zca hM5 (t:=163) (et:=9) Tryz.underlying163 1 (.string a.name);have hr3':(Instr.mapUpdate 163 (.map (some M)) (.int .i64 2) (.string ⟨#[60,105,110,116,101,103,101,114,62]⟩)).run Tryz.prog W2=.ok () w3:=hr3
 have hr4':(Instr.mapUpdate 163 (.map (some M)) (.int .i64 3) (.string ⟨#[60,98,111,111,108,101,97,110,62]⟩)).run Tryz.prog w3=.ok () w4:=hr4;have hr5':(Instr.mapUpdate 163 (.map (some M)) (.int .i64 4) (.string ⟨#[60,99,108,97,115,115,62]⟩)).run Tryz.prog w4=.ok () w5:=hr5;have hr6':(Instr.mapUpdate 163 (.map (some M)) (.int .i64 1) (.string a.name)).run Tryz.prog w5=.ok () w6:=hr6;have hMt:MapF zo5 M (z3a a.name) w6:=hM6;have hlk:=z1x hMt a rfl;have kg:∀{u v:World},u.grownBy v (some M)→Keep (fun b=>b≠M) u v:=fun h=>Keep.grown h fun b hb e=>hb (by cases e;rfl)
 have k2:Keep (fun b=>b≠M) W1 W2:=by rw[hW2];exact Keep.alloc _ _ _
 have k5:=((k2.trans (kg hg3)).trans (kg hg4)).trans (kg hg5);have k6:=k5.trans (kg hg6);have b6:Below W1.heap.size W1 w6:=by
  have z2:W1.heap.size≤W2.heap.size:=k2.1;have b2:Below W1.heap.size W1 W2:=by rw[hW2];exact(Below.refl _ W1).alloc (Qiz _) _
  have q:∀k,some M=some k→W1.heap.size≤k:=fun k e=>by cases e;omega
  exact(((b2.grown hg3 z2 q).grown hg4 (k2.trans (kg hg3)).1 q).grown hg5 ((k2.trans (kg hg3)).trans (kg hg4)).1 q).grown hg6 k5.1 q
 have hlM:W.heap.size+2=M:=by rw[hM,hW1];simp
 have an5:=zah (xa 1 _ rfl) k5 (show W.heap.size≠M by omega);have a0:=zah (xa 0 _ rfl) k6 (show W.heap.size≠M by omega);have a1:=zah (xa 1 _ rfl) k6 (show W.heap.size≠M by omega);have a2:=zah (xa 2 _ rfl) k6 (show W.heap.size≠M by omega);have a3:=zah (xa 3 _ rfl) k6 (show W.heap.size≠M by omega);have c0:=zah (xb 0 _ rfl) k6 (show W.heap.size+1≠M by omega);have c1:=zah (xb 1 _ rfl) k6 (show W.heap.size+1≠M by omega);have c2:=zah (xb 2 _ rfl) k6 (show W.heap.size+1≠M by omega);have c3:=zah (xb 3 _ rfl) k6 (show W.heap.size+1≠M by omega);have bW6:=b1.trans (b6.mono b1.size)
 have HBE:=Qaz (fun p q=>zsb A c l p q w6 G (h.keep (Keep.all bW6)) hl ol);rw[hW1]at hmk;clear hW1;clear hM0 hM3 hM4 hM5 hM6 hg3 hg4 hg5 hg6 hr3 hr4 hr5 hr6 hMt kg k2 k5 k6 xa xb b6 hM hW2 hlM h ol;go_enter Tryz.func86,Tryz.ntmps86;by_cases hk:b.kind=1
 ·have t1:(b.kind==1)=true:=beq_iff_eq.2 hk;have HC:Hid (za6 l a b=za0 l (zuz a) b.name):=Qaz (by unfold za6;rw[if_pos hk]);clear hk;go_wp2_with (go_at_call 131;refine(HBE.out _ _).mono ?_;rintro e V ⟨rfl,hbv⟩);go_ret;exact⟨(by rw[HC.out];try rfl),bW6.trans (hbv.mono bW6.size)⟩
 ·have t1:(b.kind==1)=false:=Qfz hk;by_cases hk2:a.kind=b.kind
  ·have t2:(a.kind != b.kind)=false:=bne_eq_false_iff_eq.2 hk2;by_cases hk3:a.kind=2
   ·have t3:(a.kind==2)=true:=beq_iff_eq.2 hk3;have HC:Hid (za6 l a b=(decide (b.lo≤a.lo)&&decide (a.hi≤b.hi))):=Qaz (by unfold za6;rw[if_neg hk,if_neg (fun h=>h hk2),if_pos hk3]);clear hk hk2 hk3;by_cases q1:b.lo≤a.lo
    ·by_cases q2:a.hi≤b.hi
     ·have HD:Hid (za6 l a b=true):=Qaz (by rw[HC.out,Qhz q1,Qhz q2];rfl);have d1:decide (b.lo≤a.lo)=true:=Qhz q1;have d2:decide (a.hi≤b.hi)=true:=Qhz q2;clear q1 q2;go_wp2;go_ret;exact⟨(by rw[HD.out];try rfl),bW6⟩
     ·have HD:Hid (za6 l a b=false):=Qaz (by rw[HC.out,Qgz q2];simp);have d1:decide (b.lo≤a.lo)=true:=Qhz q1;have d2:decide (a.hi≤b.hi)=false:=Qgz q2;clear q1 q2;go_wp2;go_ret;exact⟨(by rw[HD.out];try rfl),bW6⟩
    ·have HD:Hid (za6 l a b=false):=Qaz (by rw[HC.out,Qgz q1];rfl);have d1:decide (b.lo≤a.lo)=false:=Qgz q1;clear q1;go_wp2;go_ret;exact⟨(by rw[HD.out];try rfl),bW6⟩
   ·have t3:(a.kind==2)=false:=Qfz hk3;by_cases hk4:a.kind=3
    ·have t4:(a.kind==3)=true:=beq_iff_eq.2 hk4;have HC:Hid (za6 l a b=(a.lo==b.lo)):=Qaz (by
      unfold za6;rw[if_neg hk,if_neg (fun h=>h hk2),if_neg hk3,if_pos hk4]
      by_cases e:a.lo=b.lo
      ·rw[Qhz e,beq_iff_eq.2 e]
      ·rw[Qgz e,Qfz e])
     clear hk hk2 hk3 hk4;go_wp2;go_ret;exact⟨(by rw[HC.out];try rfl),bW6⟩
    ·have t4:(a.kind==3)=false:=Qfz hk4;have HC:Hid (za6 l a b=za0 l a.name b.name):=Qaz (by unfold za6;rw[if_neg hk,if_neg (fun h=>h hk2),if_neg hk3,if_neg hk4]);clear hk hk2 hk3 hk4;go_wp2_with (go_at_call 131;refine(HBE.out _ _).mono ?_;rintro e V ⟨rfl,hbv⟩);go_ret;exact⟨(by rw[HC.out];try rfl),bW6.trans (hbv.mono bW6.size)⟩
  ·have t2:(a.kind != b.kind)=true:=by rw[bne_iff_ne];exact hk2
   have HC:Hid (za6 l a b=false):=Qaz (by unfold za6;rw[if_neg hk,if_pos hk2]);clear hk hk2;go_wp2;go_ret;exact⟨(by rw[HC.out];try rfl),bW6⟩
end Go.Proofs.YtepnmejahbiacaaGreat
