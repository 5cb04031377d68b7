/- Part 21 of the proof: Pr, Pv, Lb, Tp, Pt, Pu, Pb, Pc. -/
import Derived.Test.YtepnmejahbiacaaGreatM20
import Derived.Test.YtepnmejahbiacaaGreatM17
set_option linter.unusedVariables false
set_option linter.unusedSimpArgs false
set_option maxHeartbeats 64000000
set_option maxRecDepth 100000
namespace Go.Proofs.YtepnmejahbiacaaGreat
open Go.RowKit
noncomputable def zji (l:List CI)(a b:Meth)(ts:List Tag):Bool:=decide (zaf l [a,b] ts=0)&&zde l ts a&&zde l ts b&&zbs l ts a b
structure MetIn (W:World) (m:Meth) (A1 A2:Option Addr) (c1 c2:Nat):Prop where
 h1:m.pars.length≤c1
 h2:∃G,Held G (Pars A1 m.pars) W
 h3:m.result.args.length≤c2
 h4:∃G,Held G (Typs A2 m.result.args) W
 hs:∀p∈m.pars,TySmall p.type
 hp:m.pars.length≤1000000
theorem MetIn.keep{W V:World}{m:Meth}{A1 A2:Option Addr}{c1 c2:Nat}(h:MetIn W m A1 A2 c1 c2)(b:Below W.heap.size W V):MetIn V m A1 A2 c1 c2:=
 ⟨h.h1,h.h2.imp fun _ h=>h.keep (Keep.all b),h.h3,h.h4.imp fun _ h=>h.keep (Keep.all b),h.hs,h.hp⟩
theorem MetIn.held{W:World}{m:Meth}{A1 A2:Option Addr}{c1 c2:Nat}(h:MetIn W m A1 A2 c1 c2):Held (fun b=>b<W.heap.size) (metR m [.int .i64 m.id,.string m.lib,.slice A1 m.pars.length c1,.int .i64 m.result.kind,.string m.result.name,.int .i64 m.result.lo,.int .i64 m.result.hi,.slice A2 m.result.args.length c2]) W:=by
 obtain⟨G1,g1⟩:=h.h2;obtain⟨G2,g2⟩:=h.h4;exact metR.mk h.h1 g1.here h.h3 g2.here
theorem zlw(AH:Option Addr)(cH:Nat)(l:List CI)(AT:Option Addr)(cT:Nat)(ts:List Tag)(a b:Meth)(Aa Ar Ba Br:Option Addr)(ca cr cb cq:Nat)(W:World)(GH GT:Nat→Prop)(h:Held GH (CIs AH l) W)(hcH:l.length≤cH)(ol:∀x∈l,zdo x)(hl:l.length≤1000000)
  (hT:Held GT (Tags AT ts) W) (hts:ts.length≤1000000) (ha:MetIn W a Aa Ar ca cr) (hb:MetIn W b Ba Br cb cq):
  Calls Tryz.prog 32 #[.slice AH l.length cH,zk2 a Aa ca Ar cr,zk2 b Ba cb Br cq,.slice AT ts.length cT] W fun e W'=>e=.returned (.bool (zji l a b ts))∧Below W.heap.size W W':=by
 obtain⟨Wa,hWa⟩:∃Wa,Wa=W.alloc (.cells #[.int .i64 a.id,.string a.lib,.slice Aa a.pars.length ca,.int .i64 a.result.kind,.string a.result.name,.int .i64 a.result.lo,.int .i64 a.result.hi,.slice Ar a.result.args.length cr] 68):=⟨_,rfl⟩;obtain⟨Wb,hWb⟩:∃Wb,Wb=Wa.alloc (.cells #[.int .i64 b.id,.string b.lib,.slice Ba b.pars.length cb,.int .i64 b.result.kind,.string b.result.name,.int .i64 b.result.lo,.int .i64 b.result.hi,.slice Br b.result.args.length cq] 68):=⟨_,rfl⟩
 obtain⟨W1,hW1⟩:∃W1,W1=Wb.alloc (.cells #[.int .i64 a.id,.string a.lib,.slice Aa a.pars.length ca,.int .i64 a.result.kind,.string a.result.name,.int .i64 a.result.lo,.int .i64 a.result.hi,.slice Ar a.result.args.length cr,.int .i64 b.id,.string b.lib,.slice Ba b.pars.length cb,.int .i64 b.result.kind,.string b.result.name,.int .i64 b.result.lo,.int .i64 b.result.hi,.slice Br b.result.args.length cq] 68):=⟨_,rfl⟩;have za:Wa.heap.size=W.heap.size+1:=by rw[hWa];simp
 have zb:Wb.heap.size=W.heap.size+2:=by rw[hWb];simp[za]
 have b0:Below W.heap.size W Wa:=by rw[hWa];exact(Below.refl _ W).alloc (Qiz _) _
 have ba:Below Wa.heap.size Wa Wb:=by rw[hWb];exact(Below.refl _ Wa).alloc (Qiz _) _
 have bb:Below Wb.heap.size Wb W1:=by rw[hW1];exact(Below.refl _ Wb).alloc (Qiz _) _
 have b2:Below W.heap.size W Wb:=zab b0 ba;have b1:Below W.heap.size W W1:=zab b2 bb;have xa:∀j u,[Value.int .i64 a.id,.string a.lib,.slice Aa a.pars.length ca,.int .i64 a.result.kind,.string a.result.name,.int .i64 a.result.lo,.int .i64 a.result.hi,.slice Ar a.result.args.length cr][j]? =some u→W1.cell? ⟨W.heap.size,j,none⟩=some u:=fun j u hj=>zaa (by rw[hWa];exact zac W _ _ _ rfl j u hj) (zab ba bb)
 have xb:∀j u,[Value.int .i64 b.id,.string b.lib,.slice Ba b.pars.length cb,.int .i64 b.result.kind,.string b.result.name,.int .i64 b.result.lo,.int .i64 b.result.hi,.slice Br b.result.args.length cq][j]? =some u→W1.cell? ⟨W.heap.size+1,j,none⟩=some u:=fun j u hj=>zaa (by rw[hWb];exact zac Wa _ _ _ za.symm j u hj) bb;have XA:=Qaz xa;have XB:=Qaz xb;have hrows:=zqv (R:=metR) (n:=Wb.heap.size) (w:=Wb) 68 rfl ((ha.keep b2).held) ((hb.keep b2).held) rfl rfl;have hM:Held (fun x=>x<Wb.heap.size+1) (Meths (some ⟨W.heap.size+2,0,none⟩) [a,b]) W1:=by rw[hW1,←zb];exact hrows
 have HAS:Hid (Asks AH cH l (some ⟨W.heap.size+2,0,none⟩) [a,b] AT ts W1):=Qaz ⟨⟨_,h.keep (Keep.all b1)⟩,hcH,ol,hl,⟨_,hM⟩,by simp,fun m hm=>by
   rcases List.mem_cons.1 hm with rfl|hm
   ·exact ha.hs
   ·rw[List.mem_singleton.1 hm];exact hb.hs,fun m hm=>by
   rcases List.mem_cons.1 hm with rfl|hm
   ·exact ha.hp
   ·rw[List.mem_singleton.1 hm];exact hb.hp,⟨_,hT.keep (Keep.all b1)⟩,hts⟩
 have HOP:=Qaz (zjt AH cH l (some ⟨W.heap.size+2,0,none⟩) 2 [a,b] AT cT ts W1 HAS.out);have HAP:Hid (∀(m:Meth)(A1 A2:Option Addr)(c1 c2:Nat) V cp A3 c3,Below W.heap.size W V→zaf l [a,b] ts=0→m∈[a,b]→MetIn W m A1 A2 c1 c2→OpenAt cp AH cH l AT cT ts A3 c3 V→Calls Tryz.prog 42 #[.pointer (some ⟨cp,0,none⟩),zk2 m A1 c1 A2 c2] V fun e V'=>e=.returned (.bool (zde l ts m))∧Below V.heap.size V V'):=
  Qaz (fun m A1 A2 c1 c2 V cp A3 c3 hv hz hm hmi ho=>by
   obtain⟨z1,z2,z3,z4,z5,z6⟩:=za2 hz;obtain⟨G1,g1⟩:=(hmi.keep hv).h2;refine(ziv cp AH cH l AT cT ts m A1 A2 c1 c2 V ho.call GH (h.keep (Keep.all hv)) hcH ol hl GT (hT.keep (Keep.all hv)) _ g1 (z5 m hm) hmi.hp hmi.hs).mono ?_;rintro e w' ⟨q,(⟨q1,rfl⟩|⟨q1,rfl⟩)⟩
   ·exact⟨by rw[zim q1],q⟩
   ·exact⟨by rw[zg6 q1],q⟩)
 have HPR:Hid (∀V cp A3 c3,Below W.heap.size W V→zaf l [a,b] ts=0→OpenAt cp AH cH l AT cT ts A3 c3 V→Calls Tryz.prog 70 #[.pointer (some ⟨cp,0,none⟩),zk2 a Aa ca Ar cr,zk2 b Ba cb Br cq] V fun e V'=>e=.returned (.bool (zbs l ts a b))∧Below V.heap.size V V'):=
  Qaz (fun V cp A3 c3 hv hz ho=>by
   obtain⟨z1,z2,z3,z4,z5,z6⟩:=za2 hz;obtain⟨G1,g1⟩:=(ha.keep hv).h2;obtain⟨G2,g2⟩:=(hb.keep hv).h2;exact zfg cp AH cH l AT cT ts A3 c3 V ho GH (h.keep (Keep.all hv)) hl ol (fun t _=>zeq z1 t) hts a b Aa Ar Ba Br ca cr cb cq G1 G2 g1 g2 (z5 a (by simp)) (z5 b (by simp)) ha.hs hb.hs)
 have HA:=Qaz ha;have HB:=Qaz hb;have HR:Hid (zji l a b ts=(decide (zaf l [a,b] ts=0)&&zde l ts a&&zde l ts b&&zbs l ts a b)):=Qaz rfl;clear hM hrows xa xb h hT ha hb HAS b0 ba bb b2 za zb;subst hW1 hWb hWa;go_enter Tryz.func32,Tryz.ntmps32;go_wp2_with (fail);refine HOP.out.mono ?_;clear HOP;rintro e V ⟨hbv,(⟨hz,rfl⟩|⟨hz,cp,A3,c3,rfl,hcp,ho⟩)⟩
 ·have t1:(zaf l [a,b] ts==0)=false:=Qfz hz;have HE:Hid (zji l a b ts=false):=Qaz (by rw[HR.out,Qgz hz];rfl);have q1:=zab b1 hbv;clear hz HAP HPR HR;generalize zaf l [a,b] ts=ce at t1;go_wp2;go_ret;exact⟨(by rw[HE.out];try rfl),q1⟩
 have HZ:=Qaz hz;have HO:=Qaz ho;have q1:=zab b1 hbv;clear hz ho;have HA1:=Qaz (HAP.out a Aa Ar ca cr V cp A3 c3 q1 HZ.out (by simp) HA.out HO.out);have c0:=zaa (XA.out 0 _ rfl) hbv;have c1:=zaa (XA.out 1 _ rfl) hbv;have c2:=zaa (XA.out 2 _ rfl) hbv;have c3':=zaa (XA.out 3 _ rfl) hbv;have c4:=zaa (XA.out 4 _ rfl) hbv;have c5:=zaa (XA.out 5 _ rfl) hbv;have c6:=zaa (XA.out 6 _ rfl) hbv;have c7:=zaa (XA.out 7 _ rfl) hbv;cases haa:zde l ts a with
 |false=>
  have HE:Hid (zji l a b ts=false):=Qaz (by rw[HR.out,haa];simp);rw[haa]at HA1;clear haa;go_wp2_with (fail);refine HA1.out.mono ?_;rintro e V2 ⟨rfl,hb2⟩;have q2:=zab q1 hb2;go_wp2;go_ret;exact⟨(by rw[HE.out];try rfl),q2⟩
 |true=>
 rw[haa]at HA1;have HAA:=Qaz haa;clear haa;go_wp2_with (fail);refine HA1.out.mono ?_;clear HA1;rintro e V2 ⟨rfl,hb2⟩;have q2:=zab q1 hb2;have hv2:=zab hbv hb2;have e0:=zaa (XB.out 0 _ rfl) hv2;have e1:=zaa (XB.out 1 _ rfl) hv2;have e2:=zaa (XB.out 2 _ rfl) hv2;have e3:=zaa (XB.out 3 _ rfl) hv2;have e4:=zaa (XB.out 4 _ rfl) hv2;have e5:=zaa (XB.out 5 _ rfl) hv2;have e6:=zaa (XB.out 6 _ rfl) hv2;have e7:=zaa (XB.out 7 _ rfl) hv2;have HB1:=Qaz (HAP.out b Ba Br cb cq V2 cp A3 c3 q2 HZ.out (by simp) HB.out (HO.out.keep hb2));clear c0 c1 c2 c3' c4 c5 c6 c7;cases hbb:zde l ts b with
 |false=>
  have HE:Hid (zji l a b ts=false):=Qaz (by rw[HR.out,hbb];simp);rw[hbb]at HB1;clear hbb;go_wp2_with (fail);refine HB1.out.mono ?_;rintro e V3 ⟨rfl,hb3⟩;have q3:=zab q2 hb3;go_wp2;go_ret;exact⟨(by rw[HE.out];try rfl),q3⟩
 |true=>
 rw[hbb]at HB1;have HE:Hid (zji l a b ts=zbs l ts a b):=Qaz (by rw[HR.out,Qhz HZ.out,HAA.out,hbb];rfl);clear hbb HR;go_wp2_with (fail);refine HB1.out.mono ?_;clear HB1 e0 e1 e2 e3 e4 e5 e6 e7;rintro e V3 ⟨rfl,hb3⟩;have q3:=zab q2 hb3;have hv3:=zab hv2 hb3;have c0:=zaa (XA.out 0 _ rfl) hv3;have c1:=zaa (XA.out 1 _ rfl) hv3;have c2:=zaa (XA.out 2 _ rfl) hv3;have c3':=zaa (XA.out 3 _ rfl) hv3;have c4:=zaa (XA.out 4 _ rfl) hv3;have c5:=zaa (XA.out 5 _ rfl) hv3;have c6:=zaa (XA.out 6 _ rfl) hv3;have c7:=zaa (XA.out 7 _ rfl) hv3;have e0:=zaa (XB.out 0 _ rfl) hv3;have e1:=zaa (XB.out 1 _ rfl) hv3
 have e2:=zaa (XB.out 2 _ rfl) hv3;have e3:=zaa (XB.out 3 _ rfl) hv3;have e4:=zaa (XB.out 4 _ rfl) hv3;have e5:=zaa (XB.out 5 _ rfl) hv3;have e6:=zaa (XB.out 6 _ rfl) hv3;have e7:=zaa (XB.out 7 _ rfl) hv3;have HP1:=Qaz (HPR.out V3 cp A3 c3 q3 HZ.out (HO.out.keep (zab hb2 hb3)));clear HPR HAP;generalize zbs l ts a b=pb at HP1 HE;go_wp2_with (fail);refine HP1.out.mono ?_;clear HP1;rintro e V4 ⟨rfl,hb4⟩;have q4:=zab q3 hb4;go_wp2;go_ret;exact⟨(by rw[HE.out];try rfl),q4⟩
theorem zu6{l:List CI}{ms:List Meth}{ts:List Tag}(hz:zaf l ms ts=0):za4 l ms ts=((zcw l ts ms).1.map (·.id),decide (0<(zcw l ts ms).2.length)):=by unfold za4;rw[if_pos hz]
theorem zua(l:List CI)(ts:List Tag)(ms:List Meth):((zcw l ts ms).1++(zcw l ts ms).2).Perm (ms.filter (zde l ts)):=zd4 (P:=zbs l ts) (ms.filter (zde l ts)).length (ms.filter (zde l ts))
theorem zut{l:List CI}{ms:List Meth}{ts:List Tag}(hz:zaf l ms ts=0):(za4 l ms ts).1.length≤(zgd l ms ts).1.length∧(za4 l ms ts).2=decide ((za4 l ms ts).1.length<(zgd l ms ts).1.length):=by
 have h:=(zua l ts ms).length_eq;rw[List.length_append]at h;rw[zu6 hz,zou hz];simp only[List.length_map];refine⟨by omega,?_⟩;by_cases q:0<(zcw l ts ms).2.length
 ·rw[Qhz q,Qhz (by omega)]
 ·rw[Qgz q,Qgz (by omega)]
theorem zxf{l:List CI}{ms:List Meth}{ts:List Tag}(hz:¬zaf l ms ts=0):za4 l ms ts=([],false):=by unfold za4;rw[if_neg hz]
theorem znh{l:List CI}{s t:Ty}(hs:s.kind=1)(ht:t.kind=1):za5 l s t=za0 l s.name t.name:=by
 unfold za5;rw[Ty.pieces_leaf (by omega),Ty.pieces_leaf (by omega)];simp[za6,ht,zuz,hs]
theorem zk9{l:List CI}(h:zai l){v:Tag}{s t:Ty}(hs:zbx l v s=true)(hw:za5 l s t=true):
  (zgs l (za9 l v) s t=0∨zgs l (za9 l v) s t=1)∧(za5 l t s=false→zgs l (za9 l v) s t=1):=by
 unfold zgs;by_cases hk:s.kind=1∧t.kind=1
 ·rw[if_pos hk];rw[znh hk.1 hk.2]at hw;rw[zf6,if_pos hk.1,ze5 h,zu4,zb8]at hs;unfold za9 at hs ⊢;cases hf:l.find? (fun x=>decide (x.name=zbd v))with
  |none=>rw[hf]at hs;simp at hs
  |some x=>
   rw[hf]at hs;obtain⟨hx,_⟩:=zkn hf;obtain⟨_,h1,h2⟩:=z2p h hx (n:=s.name) (m:=t.name) hs hw;simp only[Option.map_some,Option.getD_some];rw[if_neg (by omega)];by_cases e:idx x.cpl s.name<idx x.cpl t.name
   ·rw[if_pos e];exact⟨.inr rfl,fun _=>rfl⟩
   ·rw[if_neg e];refine⟨.inl rfl,fun hn=> ?_⟩;have:=h2 (by omega);rw[znh hk.2 hk.1,←this,this]at hn;rw[this]at hw;rw[hw]at hn;cases hn
 ·rw[if_neg hk,if_pos hw];cases hw2:za5 l t s with
  |true=>exact⟨.inl (by simp),fun q=>by simp at q⟩
  |false=>exact⟨.inr (by simp),fun _=>by simp⟩
structure TyIn (W:World) (t:Ty) (A:Option Addr) (c:Nat):Prop where
 h1:t.args.length≤c
 h2:∃G,Held G (Typs A t.args) W
 hs:TySmall t
theorem TyIn.keep{W V:World}{t:Ty}{A:Option Addr}{c:Nat}(h:TyIn W t A c)(b:Below W.heap.size W V):TyIn V t A c:=⟨h.h1,h.h2.imp fun _ h=>h.keep (Keep.all b),h.hs⟩
structure HiIn (W:World) (AH:Option Addr) (cH:Nat) (l:List CI):Prop where
 h:∃G,Held G (CIs AH l) W
 hcH:l.length≤cH
 ol:∀x∈l,zdo x
 hl:l.length≤1000000
theorem HiIn.keep{W V:World}{AH:Option Addr}{cH:Nat}{l:List CI}(h:HiIn W AH cH l)(b:Below W.heap.size W V):HiIn V AH cH l:=⟨h.h.imp fun _ h=>h.keep (Keep.all b),h.hcH,h.ol,h.hl⟩
theorem Asks.hi{AH:Option Addr}{cH:Nat}{l:List CI}{A:Option Addr}{ms:List Meth}{AT:Option Addr}{ts:List Tag}{W:World}(q:Asks AH cH l A ms AT ts W):HiIn W AH cH l:=⟨q.h,q.hcH,q.ol,q.hl⟩
theorem Chg.trans3{S T:Nat→Prop}{a b c:World}(h:Chg S a b)(k:Chg T b c)(hs:∀x,T x→S x∨a.heap.size≤x):Chg S a c:=
 ⟨k.os.trans h.os,k.tape.trans h.tape,k.output.trans h.output,Nat.le_trans h.size k.size,fun x hx hn=>(k.block x (Nat.lt_of_lt_of_le hx h.size) fun q=>by rcases hs x q with r|r;exact hn r;omega).trans (h.block x hx hn)⟩
theorem zrb(w:World){a b:Addr}(h:a.block≠b.block)(u v:Value):(w.setCell a u).setCell b v=(w.setCell b v).setCell a u:=by
 simp only[World.setCell]
 congr 1
 apply Array.ext_getElem?;intro i;simp only[Array.getElem?_modify];by_cases h1:b.block=i
 ·have h2:¬a.block=i:=fun e=>h (e.trans h1.symm);simp[h1,h2]
 ·simp[h1]
theorem zfz{a:Addr}{g:Nat}(h:a.block≠g)(u:Value):∀(vs:List Value)(o:Nat)(w:World),(w.setCell a u).setCells g o vs=(w.setCells g o vs).setCell a u
 | [],_,_=>rfl
 |v::r,o,w=>by
  rw[World.setCells,World.setCells,zrb w (a:=a) (b:=⟨g,o,none⟩) h u v];exact zfz h u r (o+1) _
theorem Enc.unsnoc{α:Type}{R:α→List Value→Prop}{sz:Nat}{l:List α}{z:α}{xs:List Value}(h:Enc R sz (l++[z]) xs):∃xs0 cs,xs=xs0++cs∧Enc R sz l xs0∧R z cs∧cs.length=sz:=by
 generalize hm:l++[z]=m at h;cases h with
 |nil=>simp at hm
 |snoc h hx hl=>
  obtain⟨rfl,e⟩:=List.append_inj' hm rfl;cases e;exact⟨_,_,rfl,h,hx,hl⟩
theorem Own.setLast{α:Type}{R:α→List Value→World→Prop}{T sz base:Nat}{G:Nat→Prop}{l:List α}{z y:α}{cs:List Value}{g n c:Nat}{w:World}(h:Own R T sz base G (.slice (some ⟨g,0,none⟩) n c) (l++[z]) w)(hcl:cs.length=sz)(hR:Held G (R y cs) w)(hG:∀b,G b→b≠g):
  Own R T sz base G (.slice (some ⟨g,0,none⟩) n c) (l++[y]) (w.setCells g (l.length*sz) cs):=by
 obtain⟨xs,⟨hl,h2⟩,he⟩:=h;obtain⟨xs0,cz,rfl,he0,_,hcz⟩:=he.unsnoc;rcases h2 with⟨hv,_⟩|⟨g',cap,cur,hv,hg,hh,hn,hm,hs,ht⟩
 ·cases hv
 ·simp only[Value.slice.injEq,Option.some.injEq,Addr.mk.injEq,and_true]at hv;obtain⟨rfl,rfl,rfl⟩:=hv;have hlx:=he0.length;simp only[List.length_append,List.length_cons,List.length_nil,Nat.zero_add]at hn hl ht;have hfit:l.length*sz+cs.length≤cur.size:=by
   rw[hs,hcl,←Nat.succ_mul];exact Nat.mul_le_mul_right _ hn
  obtain⟨cur',h3,h4⟩:=zcf g T cs (l.length*sz) w cur (0,0) hh hfit;have k:Keep G w (w.setCells g (l.length*sz) cs):=(Chg.setCells (S:=fun b=>b=g) g rfl cs (l.length*sz) w).keep fun b hb q=>hG b hb q;have hc2:cur.toList.length=cur.size:=by simp
  refine⟨xs0++cs,⟨by rw[List.length_append,hlx,hcl,List.length_append,List.length_singleton,Nat.succ_mul],.inr ⟨g,c,cur',by simp,hg,h3,by rw[List.length_append,List.length_singleton];exact hn,hm,?_,?_⟩⟩,.snoc (he0.imp fun _ _ hx=>hx.keep k) (hR.keep k) hcl⟩
  ·have:=congrArg List.length h4;simp only[Array.length_toList,List.length_append,List.length_take,List.length_drop]at this;omega
  ·rw[List.length_append,List.length_singleton,h4];have e0:xs0=cur.toList.take (l.length*sz):=by
    have:=congrArg (List.take (l.length*sz)) ht;rw[List.take_take,Nat.min_eq_left (Nat.mul_le_mul_right _ (Nat.le_succ _)),List.take_left' (by rw[hlx])]at this;exact this.symm
   rw[←e0];have:(l.length+1)*sz=(xs0++cs).length:=by rw[List.length_append,hlx,hcl,Nat.add_mul,Nat.one_mul]
   rw[this];exact List.take_left
def zeu:Ty:=.mk 0 ⟨#[]⟩ 0 0 []
theorem zb1{G:Nat→Prop}{w:World}(k:Int)(s:ByteArray)(lo hi:Int)(A:Option Addr)(c:Nat):Held G (typR (.mk k s lo hi []) [.int .i64 k,.string s,.int .i64 lo,.int .i64 hi,.slice A 0 c]) w:=
 typR.mk (t:=.mk k s lo hi []) (A:=A) (c:=c) (Qjz _) (fun _ _=>Slc.nil _ _ _ _)
theorem zcp:(Tryz.prog.info? 36).map (fun i=>(i.zero,i.size,i.bytes))=some (some (.agg #[.int .i64 0,.string ⟨#[]⟩,.int .i64 0,.int .i64 0,.slice none 0 0]),5,64):=by kernel_rfl
structure PartsT where
 row:Fin 3→List Ty
 t0:Bool
 t1:Bool
structure PRows where
 a:Fin 3→Option Addr
 c:Fin 3→Nat
def PRows.v(r:PRows)(p:PartsT)(i:Fin 3):Value:=.slice (r.a i) (p.row i).length (r.c i)
def PRows.own(r:PRows)(b:Nat):Prop:=∃i x,r.a i=some x∧x.block=b
def zb2(hp:Nat)(p:PartsT)(r:PRows):List Value:=[.pointer (some ⟨hp,0,none⟩),r.v p 0,r.v p 1,r.v p 2,.bool p.t0,.bool p.t1]
structure PartsAt (pb hp:Nat) (p:PartsT) (r:PRows) (w:World):Prop where
 cel:Cel pb (zb2 hp p r) w
 row:∀i,Own typR 36 5 (pb+1) (fun _=>False) (r.v p i) (p.row i) w
 sep:∀i j x y,i≠j→r.a i=some x→r.a j=some y→x.block≠y.block
theorem PRows.ownOf{r:PRows}{p:PartsT}{i:Fin 3}{b:Nat}(h:(r.v p i).ownBlock=some b):r.own b:=by
 unfold PRows.v at h;cases e:r.a i with
 |none=>rw[e]at h;simp[Value.ownBlock]at h
 |some x=>rw[e]at h;exact⟨i,x,e,by simpa[Value.ownBlock]using h⟩
theorem PRows.ownTo{r:PRows}{p:PartsT}{i:Fin 3}{x:Addr}(h:r.a i=some x):(r.v p i).ownBlock=some x.block:=by
 unfold PRows.v;rw[h];simp[Value.ownBlock]
theorem PartsAt.lt{pb hp:Nat}{p:PartsT}{r:PRows}{w:World}(h:PartsAt pb hp p r w):pb<w.heap.size:=h.cel.lt (by simp[zb2])
theorem PartsAt.ownLt{pb hp:Nat}{p:PartsT}{r:PRows}{w:World}(h:PartsAt pb hp p r w){b:Nat}(hb:r.own b):pb<b∧b<w.heap.size:=by
 obtain⟨i,x,hx,rfl⟩:=hb;have:=(h.row i).lt _ (PRows.ownTo hx);omega
theorem PartsAt.all{pb hp:Nat}{p:PartsT}{r:PRows}{w w':World}(h:PartsAt pb hp p r w)(k:Below w.heap.size w w'):PartsAt pb hp p r w':=
 ⟨h.cel.all k,fun i=>(h.row i).all k,h.sep⟩
theorem PartsAt.chg{pb hp:Nat}{p:PartsT}{r:PRows}{S:Nat→Prop}{w w':World}(h:PartsAt pb hp p r w)(k:Chg S w w')(hS:∀b,S b→b≠pb∧¬r.own b):PartsAt pb hp p r w':=by
 have kk:Keep (fun b=>¬S b) w w':=k.keep fun b hb q=>hb q;exact⟨h.cel.keep kk fun s=>(hS pb s).1 rfl,fun i=>(h.row i).keep (kk.mono fun b hb=>hb.elim) fun q hq=>kk.2 q ((h.row i).lt q hq).2 fun s=>(hS q s).2 (PRows.ownOf hq),h.sep⟩
def PartsT.add(p:PartsT)(i:Fin 3)(y:Ty):PartsT:=⟨fun j=>if j=i then p.row j++[y]else p.row j,p.t0,p.t1⟩
def PRows.put(r:PRows)(i:Fin 3)(g cap:Nat):PRows:=⟨fun j=>if j=i then some ⟨g,0,none⟩else r.a j,fun j=>if j=i then cap else r.c j⟩
theorem zsp(hp:Nat)(p:PartsT)(r:PRows)(i:Fin 3)(y:Ty)(g cap:Nat):(zb2 hp p r).set (1+i.val) (.slice (some ⟨g,0,none⟩) ((p.row i).length+1) cap)=zb2 hp (p.add i y) (r.put i g cap):=by
 match i with
 |0=>simp[zb2,PRows.v,PartsT.add,PRows.put]
 |1=>simp[zb2,PRows.v,PartsT.add,PRows.put]
 |2=>simp[zb2,PRows.v,PartsT.add,PRows.put]
structure PMove (S:Nat→Prop) (pb:Nat) (r:PRows) (w:World) (r':PRows) (w':World):Prop where
 chg:Chg (fun b=>S b∨b=pb∨r.own b) w w'
 own:∀b,r'.own b→r.own b∨w.heap.size≤b
theorem PMove.refl(S:Nat→Prop)(pb:Nat)(r:PRows)(w:World):PMove S pb r w r w:=⟨Chg.refl _ _,fun _ h=>.inl h⟩
theorem PMove.trans{S:Nat→Prop}{pb:Nat}{r r' r'':PRows}{w w' w'':World}(h:PMove S pb r w r' w')(k:PMove S pb r' w' r'' w''):PMove S pb r w r'' w'':=
 ⟨h.chg.trans3 k.chg fun b hb=>by
   rcases hb with q|rfl|hb
   ·exact .inl (.inl q)
   ·exact .inl (.inr (.inl rfl))
   ·exact(h.own b hb).imp (fun q=>.inr (.inr q)) id,
  fun b hb=>by
   rcases k.own b hb with q|q
   ·exact h.own b q
   ·exact .inr (Nat.le_trans h.chg.size q)⟩
theorem PMove.of{S:Nat→Prop}{pb:Nat}{r:PRows}{w w':World}(h:Below w.heap.size w w'):PMove S pb r w r w':=⟨Chg.of h,fun _ h=>.inl h⟩
theorem PMove.memo{S:Nat→Prop}{pb:Nat}{r:PRows}{w w':World}(h:Chg S w w'):PMove S pb r w r w':=⟨h.mono fun _ _ q=>.inl q,fun _ h=>.inl h⟩
theorem PMove.mono{S T:Nat→Prop}{pb:Nat}{r r':PRows}{w w':World}(h:PMove S pb r w r' w')(q:∀b,S b→T b):PMove T pb r w r' w':=⟨h.chg.mono fun b _ x=>x.imp (q b) id,h.own⟩
theorem PMove.keep{S:Nat→Prop}{pb:Nat}{r r':PRows}{w w':World}(h:PMove S pb r w r' w'){G:Nat→Prop}(hG:∀b,G b→¬S b∧b≠pb∧¬r.own b):Keep G w w':=
 h.chg.keep fun b hb q=>by
  rcases q with q|rfl|q
  ·exact(hG _ hb).1 q
  ·exact(hG _ hb).2.1 rfl
  ·exact(hG _ hb).2.2 q
theorem PartsAt.put(S:Nat→Prop){pb hp:Nat}{p:PartsT}{r:PRows}{W w3:World}(h:PartsAt pb hp p r W)(i:Fin 3){g cap:Nat}(hgr:Chg (fun b=>(r.v p i).ownBlock=some b) W w3)(hat:(r.v p i).ownBlock=some g∨g=W.heap.size)
  (hown:Own typR 36 5 (pb+1) (fun _=>False) (.slice (some ⟨g,0,none⟩) ((p.row i).length+1) cap) (p.row i++[zeu]) w3) (k:Int) (s:ByteArray) (lo hi:Int) (A:Option Addr) (c:Nat):
  PartsAt pb hp (p.add i (.mk k s lo hi [])) (r.put i g cap) ((w3.setCells g ((p.row i).length*5) [.int .i64 k,.string s,.int .i64 lo,.int .i64 hi,.slice A 0 c]).setCell ⟨pb,1+i.val,none⟩ (.slice (some ⟨g,0,none⟩) ((p.row i).length+1) cap))∧
   PMove S pb r W (r.put i g cap) ((w3.setCells g ((p.row i).length*5) [.int .i64 k,.string s,.int .i64 lo,.int .i64 hi,.slice A 0 c]).setCell ⟨pb,1+i.val,none⟩ (.slice (some ⟨g,0,none⟩) ((p.row i).length+1) cap)):=by
 have hlt:=h.lt;have hg1:pb<g:=by
  rcases hat with e|e
  ·exact(h.ownLt (PRows.ownOf e)).1
  ·omega
 have hgn:g≠pb:=by omega
 have hown2:=hown.setLast (cs:=[.int .i64 k,.string s,.int .i64 lo,.int .i64 hi,.slice A 0 c]) rfl (zb1 k s lo hi A c) (fun _ hb=>hb.elim);have hC:Chg (fun b=>b=g) w3 (w3.setCells g ((p.row i).length*5) [.int .i64 k,.string s,.int .i64 lo,.int .i64 hi,.slice A 0 c]):=Chg.setCells (S:=fun b=>b=g) g rfl _ _ w3;have hG:Chg (fun b=>(r.v p i).ownBlock=some b) W w3:=hgr;have hsep:∀j x,j≠i→r.a j=some x→x.block≠g∧(r.v p i).ownBlock≠some x.block:=fun j x hj hx=>by
  have hn:(r.v p i).ownBlock≠some x.block:=fun e=>by
   obtain⟨i',x',hx',e'⟩:∃i' x',r.a i'=some x'∧x'.block=x.block∧i'=i:=by
    unfold PRows.v at e;cases e2:r.a i with
    |none=>rw[e2]at e;simp[Value.ownBlock]at e
    |some z=>rw[e2]at e;exact⟨i,z,e2,by simpa[Value.ownBlock]using e,rfl⟩
   obtain⟨e',rfl⟩:=e';exact h.sep _ _ _ _ hj hx hx' e'.symm
  refine⟨fun e=> ?_,hn⟩;rcases hat with q|q
  ·exact hn (by rw[e];exact q)
  ·have:=(h.ownLt ⟨j,x,hx,rfl⟩).2;omega
 have hW3:pb<w3.heap.size:=Nat.lt_of_lt_of_le hlt hG.size;refine⟨⟨?_,fun j=> ?_,fun a b x y hab hx hy=> ?_⟩,?_,fun b hb=> ?_⟩
 ·rw[←zsp];refine Cel.set ?_ _ (by simp[zb2];omega) _;exact(h.cel.keep (hG.keep (G:=fun b=>b=pb) fun b hb e=>by subst hb;have:=(h.ownLt (PRows.ownOf e)).1;omega) rfl).keep (hC.keep (G:=fun b=>b=pb) fun b hb e=>hgn (e.symm.trans hb)) rfl
 ·by_cases hj:j=i
  ·subst hj;have:(r.put j g cap).v (p.add j (.mk k s lo hi [])) j=.slice (some ⟨g,0,none⟩) ((p.row j).length+1) cap:=by simp[PRows.v,PartsT.add,PRows.put]
   rw[this];have e2:(p.add j (.mk k s lo hi [])).row j=p.row j++[.mk k s lo hi []]:=by simp[PartsT.add]
   rw[e2];exact hown2.setCell (p:=⟨pb,1+j.val,none⟩) (fun _ hb=>hb.elim) (by simp[Value.ownBlock];omega) _
  ·have:(r.put i g cap).v (p.add i (.mk k s lo hi [])) j=r.v p j:=by simp[PRows.v,PartsT.add,PRows.put,hj]
   rw[this];have e2:(p.add i (.mk k s lo hi [])).row j=p.row j:=by simp[PartsT.add,hj]
   rw[e2];have hne:∀q,(r.v p j).ownBlock=some q→q≠pb∧q≠g∧(r.v p i).ownBlock≠some q:=fun q hq=>by
    have:=(h.ownLt (PRows.ownOf hq)).1;cases e2:r.a j with
    |none=>unfold PRows.v at hq;rw[e2]at hq;simp[Value.ownBlock]at hq
    |some z=>
     have hz:z.block=q:=by unfold PRows.v at hq;rw[e2]at hq;simpa[Value.ownBlock]using hq
     have:=hsep j z hj e2;rw[hz]at this;exact⟨by omega,this⟩
   have o1:=(h.row j).keep (w':=w3) ⟨hG.size,fun b _ hb=>hb.elim⟩ fun q hq=>hG.block q ((h.row j).lt q hq).2 (hne q hq).2.2;have o2:=o1.keep (w':=w3.setCells g ((p.row i).length*5) [.int .i64 k,.string s,.int .i64 lo,.int .i64 hi,.slice A 0 c]) ⟨hC.size,fun b _ hb=>hb.elim⟩ fun q hq=>hC.block q (o1.lt q hq).2 (hne q hq).2.1;exact o2.setCell (p:=⟨pb,1+i.val,none⟩) (fun _ hb=>hb.elim) (fun e=>(hne _ e).1 rfl) _
 ·by_cases ha:a=i<;>by_cases hb:b=i
  ·exact absurd (ha.trans hb.symm) hab
  ·simp[PRows.put,ha,hb]at hx hy;subst hx;exact fun e=>(hsep b y hb hy).1 e.symm
  ·simp[PRows.put,ha,hb]at hx hy;subst hy;exact(hsep a x ha hx).1
  ·simp[PRows.put,ha,hb]at hx hy;exact h.sep a b x y hab hx hy
 ·have c1:Chg (fun b=>S b∨b=pb∨r.own b) W w3:=hG.mono fun b _ hb=>.inr (.inr (PRows.ownOf hb));refine(c1.trans3 hC fun b hb=> ?_).trans (Chg.setCell (S:=fun b=>S b∨b=pb∨r.own b) _ (p:=⟨pb,1+i.val,none⟩) (.inr (.inl rfl)) _);rcases hat with q|q
  ·exact .inl (.inr (.inr (by rw[hb];exact PRows.ownOf q)))
  ·exact .inr (by omega)
 ·obtain⟨j,x,hx,rfl⟩:=hb;by_cases hj:j=i
  ·simp[PRows.put,hj]at hx;subst hx;rcases hat with q|q
   ·exact .inl (PRows.ownOf q)
   ·exact .inr (Nat.le_of_eq q.symm)
  ·simp[PRows.put,hj]at hx;exact .inl ⟨j,x,hx,rfl⟩
theorem PartsAt.put2(S:Nat→Prop){pb hp:Nat}{p:PartsT}{r:PRows}{w W w3:World}(h:PartsAt pb hp p r W)(hb:Below w.heap.size w W)(i:Fin 3)(o:Nat)(ho:1+i.val=o){g cap:Nat}(hgr:Chg (fun b=>(r.v p i).ownBlock=some b) W w3)(hat:(r.v p i).ownBlock=some g∨g=W.heap.size)
  (hown:Own typR 36 5 (pb+1) (fun _=>False) (.slice (some ⟨g,0,none⟩) ((p.row i).length+1) cap) (p.row i++[zeu]) w3) (k:Int) (s:ByteArray) (lo hi:Int) (A:Option Addr) (c:Nat) (n:pb≠g):
  (∃r',PartsAt pb hp (p.add i (.mk k s lo hi [])) r' ((((((w3.setCell ⟨g,(p.row i).length*5,none⟩ (.int .i64 k)).setCell ⟨g,(p.row i).length*5+1,none⟩ (.string s)).setCell ⟨g,(p.row i).length*5+2,none⟩ (.int .i64 lo)).setCell ⟨g,(p.row i).length*5+3,none⟩ (.int .i64 hi)).setCell ⟨g,(p.row i).length*5+4,none⟩ (.slice A 0 c)).setCell ⟨pb,o,none⟩ (.slice (some ⟨g,0,none⟩) ((p.row i).length+1) cap))∧PMove S pb r w r' ((((((w3.setCell ⟨g,(p.row i).length*5,none⟩ (.int .i64 k)).setCell ⟨g,(p.row i).length*5+1,none⟩ (.string s)).setCell ⟨g,(p.row i).length*5+2,none⟩ (.int .i64 lo)).setCell ⟨g,(p.row i).length*5+3,none⟩ (.int .i64 hi)).setCell ⟨g,(p.row i).length*5+4,none⟩ (.slice A 0 c)).setCell ⟨pb,o,none⟩ (.slice (some ⟨g,0,none⟩) ((p.row i).length+1) cap)))∧
  (∃r',PartsAt pb hp (p.add i (.mk k s lo hi [])) r' ((((((w3.setCell ⟨pb,o,none⟩ (.slice (some ⟨g,0,none⟩) ((p.row i).length+1) cap)).setCell ⟨g,(p.row i).length*5,none⟩ (.int .i64 k)).setCell ⟨g,(p.row i).length*5+1,none⟩ (.string s)).setCell ⟨g,(p.row i).length*5+2,none⟩ (.int .i64 lo)).setCell ⟨g,(p.row i).length*5+3,none⟩ (.int .i64 hi)).setCell ⟨g,(p.row i).length*5+4,none⟩ (.slice A 0 c))∧PMove S pb r w r' ((((((w3.setCell ⟨pb,o,none⟩ (.slice (some ⟨g,0,none⟩) ((p.row i).length+1) cap)).setCell ⟨g,(p.row i).length*5,none⟩ (.int .i64 k)).setCell ⟨g,(p.row i).length*5+1,none⟩ (.string s)).setCell ⟨g,(p.row i).length*5+2,none⟩ (.int .i64 lo)).setCell ⟨g,(p.row i).length*5+3,none⟩ (.int .i64 hi)).setCell ⟨g,(p.row i).length*5+4,none⟩ (.slice A 0 c))):=by
 subst ho;have F:=h.put S i hgr hat hown k s lo hi A c;have F2:=(PMove.of (S:=S) (pb:=pb) (r:=r) hb).trans F.2;refine⟨⟨_,F.1,F2⟩,?_⟩;rw[←zfz (a:=⟨pb,1+i.val,none⟩) n]at F F2;exact⟨_,F.1,F2⟩
section
attribute [local go_sem ↓] Go.wp_at_zero Go.wp_at_succ
theorem zrl(W:World):Held (fun _=>False) (typR zeu [.int .i64 0,.string ⟨#[]⟩,.int .i64 0,.int .i64 0,.slice none 0 0]) W:=zb1 0 ⟨#[]⟩ 0 0 none 0
theorem zgx:∀u∈[Value.int .i64 0,.string ⟨#[]⟩,.int .i64 0,.int .i64 0,.slice none 0 0],u.oneCell'=true:=by
 intro u hu;simp at hu;rcases hu with rfl|rfl|rfl|rfl|rfl<;>rfl
theorem zeroCells{w3:World}{g n cap pb:Nat}{l:List Ty}(h:Own typR 36 5 (pb+1) (fun _=>False) (.slice (some ⟨g,0,none⟩) n cap) (l++[zeu]) w3):
  (w3.cell? ⟨g,l.length*5,none⟩=some (.int .i64 0)∧w3.frozen? ⟨g,l.length*5,none⟩=false)∧(w3.cell? ⟨g,l.length*5+1,none⟩=some (.string ⟨#[]⟩)∧w3.frozen? ⟨g,l.length*5+1,none⟩=false)∧
  (w3.cell? ⟨g,l.length*5+2,none⟩=some (.int .i64 0)∧w3.frozen? ⟨g,l.length*5+2,none⟩=false)∧(w3.cell? ⟨g,l.length*5+3,none⟩=some (.int .i64 0)∧w3.frozen? ⟨g,l.length*5+3,none⟩=false)∧
  (∃A c,w3.cell? ⟨g,l.length*5+4,none⟩=some (.slice A 0 c)∧w3.frozen? ⟨g,l.length*5+4,none⟩=false):=by
 obtain⟨cs,_,hr,hc⟩:=h.get (i:=l.length) (x:=zeu) (by simp);obtain⟨A,c,rfl,_⟩:=ze0.1 (hr w3 (Keep.refl _ _));exact⟨hc 0 _ rfl,hc 1 _ rfl,hc 2 _ rfl,hc 3 _ rfl,A,c,hc 4 _ rfl⟩
theorem zrq(S:Nat→Prop)(pb hp:Nat)(p:PartsT)(r:PRows)(k:Int)(s:ByteArray)(lo hi:Int)(A:Option Addr)(c:Nat)(w:World)(h:PartsAt pb hp p r w)(hl:(p.row 0).length≤1000000):
  Calls Tryz.prog 177 #[.pointer (some ⟨pb,0,none⟩),.agg #[.int .i64 k,.string s,.int .i64 lo,.int .i64 hi,.slice A 0 c]] w fun e w'=>e=.returned (.tuple #[])∧∃r',PartsAt pb hp (p.add 0 (.mk k s lo hi [])) r' w'∧PMove S pb r w r' w':=by
 have hlt:=h.lt;obtain⟨W1,hW1⟩:∃W1,W1=(w.alloc (.cells #[.int .i64 k,.string s,.int .i64 lo,.int .i64 hi,.slice A 0 c] 36)):=⟨_,rfl⟩;obtain⟨W2,hW2⟩:∃W2,W2=(W1.alloc (.cells #[.int .i64 0,.string ⟨#[]⟩,.int .i64 0,.int .i64 0,.slice none 0 0] 36)).drew:=⟨_,rfl⟩;have b1:Below w.heap.size w W1:=by rw[hW1];exact(Below.refl _ w).alloc (Qiz _) _
 have z1:W1.heap.size=w.heap.size+1:=by rw[hW1];simp
 have b2:Below w.heap.size w W2:=by rw[hW2];exact(b1.alloc b1.size _).drew
 have z2:W2.heap.size=w.heap.size+2:=by rw[hW2];simp[z1]
 have p2:=h.all b2;have box:Cel w.heap.size [.int .i64 k,.string s,.int .i64 lo,.int .i64 hi,.slice A 0 c] W1:=by rw[hW1];exact Cel.new w _ _ _ rfl
 have box2:Cel w.heap.size [.int .i64 k,.string s,.int .i64 lo,.int .i64 hi,.slice A 0 c] W2:=box.all (by rw[hW2];exact((Below.refl _ W1).alloc (Qiz _) _).drew);have hC:Hid (∀j u,[Value.int .i64 0,.string ⟨#[]⟩,.int .i64 0,.int .i64 0,.slice none 0 0][j]? =some u→W2.cell? ((⟨w.heap.size+1,0,none⟩:Addr).add j)=some u):=Qaz (by rw[hW2,←z1];exact zaq W1 #[.int .i64 0,.string ⟨#[]⟩,.int .i64 0,.int .i64 0,.slice none 0 0] _ _ rfl);have q1:W1.cell? ⟨pb,1,none⟩=some (r.v p 0):=((h.all b1).cel 1 _ rfl).1;have HP:=Qaz p2;have HB:=Qaz b2;have HX:=Qaz box2;obtain⟨x0,_⟩:=box 0 _ rfl
 obtain⟨x1,_⟩:=box 1 _ rfl;obtain⟨x2,_⟩:=box 2 _ rfl;obtain⟨x3,_⟩:=box 3 _ rfl;obtain⟨x4,_⟩:=box 4 _ rfl;have HV:Hid (r.v p 0=.slice (r.a 0) (p.row 0).length (r.c 0)):=Qaz rfl;have HZ:=Qaz z2;have hne:w.heap.size≠pb:=by omega
 have wb:((p.row 0).length:Int)<((p.row 0).length:Int)+1:=by omega
 have w0:(0:Int)≤((p.row 0).length:Int):=by omega
 have HN:Hid (∀b,b=pb∨b=w.heap.size→(Value.slice (r.a 0) (p.row 0).length (r.c 0)).ownBlock≠some b):=Qaz (fun b hb e=>by
  have:=h.ownLt (PRows.ownOf (p:=p) (i:=0) e);omega)
 clear h box box2 p2 b2;subst hW2;unfold PRows.v at q1;go_enter Tryz.func177,Tryz.ntmps177;go_wp2_with (fail);rw[←hW1];clear hW1
 go_region_law (
  refine za1 typR 36 5 (pb+1) 64 (fun _=>False) _ (by rfl) _ _ 34 _ (by rfl) Tryz.underlying34 zcp rfl (by decide) (by decide) (.slice (r.a 0) (p.row 0).length (r.c 0)) (p.row 0) (by rfl) (HP.out.row 0) ⟨w.heap.size+1,0,none⟩ 1 (by rfl) zeu [.int .i64 0,.string ⟨#[]⟩,.int .i64 0,.int .i64 0,.slice none 0 0] rfl hC.out zgx (zrl _) (fun _ hb=>hb.elim) (by rw[HZ.out];omega) (by omega) (w.heap.size+2) HZ.out ?_;intro g cap w3 hown hgrow hat hlt3;obtain⟨⟨y0,f0⟩,⟨y1,f1⟩,⟨y2,f2⟩,⟨y3,f3⟩,A4,c4,y4,f4⟩:=zeroCells hown;have v0:=zas hgrow (HX.out 0 _ rfl).1 (HN.out _ (.inr rfl))
  have v1:=zas hgrow (HX.out 1 _ rfl).1 (HN.out _ (.inr rfl));have v2:=zas hgrow (HX.out 2 _ rfl).1 (HN.out _ (.inr rfl));have v3:=zas hgrow (HX.out 3 _ rfl).1 (HN.out _ (.inr rfl));have v4:=zas hgrow (HX.out 4 _ rfl).1 (HN.out _ (.inr rfl));have u1:=zas hgrow (HP.out.cel 1 _ rfl).1 (HN.out _ (.inl rfl));have g1:=zbc hgrow (HP.out.cel 1 _ rfl).1 (HP.out.cel 1 _ rfl).2 (HN.out _ (.inl rfl));have n1:g≠pb:=by rcases hat with e|e;exact fun q=>HN.out g (.inl q) e;omega
  have n2:g≠w.heap.size:=by rcases hat with e|e;exact fun q=>HN.out g (.inr q) e;omega)
 all_goals
  have F:=HP.out.put2 S HB.out 0 1 rfl (Chg.grown hgrow fun b hb=>hb) (hat.imp id fun e=>e.trans HZ.out.symm) hown k s lo hi A c (fun e=>n1 e.symm);clear y0 f0 y1 f1 y2 f2 y3 f3 y4 f4 v0 v1 v2 v3 v4 u1 g1 hown hgrow hat;refine bodyPost_end (v:=.tuple #[]) (by simp[results,Tryz.results177]) rfl ?_
  first
   |with_reducible exact⟨rfl,F.1⟩
   |with_reducible exact⟨rfl,F.2⟩
   |trace_state
def PartsT.tru(p:PartsT)(n:Int):PartsT:=⟨p.row,p.t0||decide (n=0),p.t1||decide (n=1)⟩
theorem PartsAt.setT(S:Nat→Prop){pb hp:Nat}{p:PartsT}{r:PRows}{w W:World}(h:PartsAt pb hp p r W)(hb:Below w.heap.size w W)(q:PartsT)(o:Nat)(u:Value)(hr:q.row=p.row)(hc:(zb2 hp p r).set o u=zb2 hp q r)(ho:o<6):
  PartsAt pb hp q r (W.setCell ⟨pb,o,none⟩ u)∧PMove S pb r w r (W.setCell ⟨pb,o,none⟩ u):=by
 refine⟨⟨hc▸Cel.set h.cel o (by simpa[zb2]using ho) u,fun i=> ?_,h.sep⟩,(PMove.of hb).trans ⟨Chg.setCell _ (p:=⟨pb,o,none⟩) (.inr (.inl rfl)) _,fun b hb=>.inl hb⟩⟩;have:r.v q i=r.v p i:=by unfold PRows.v;rw[hr]
 rw[this,hr];exact(h.row i).setCell (p:=⟨pb,o,none⟩) (fun _ hb=>hb.elim) (fun e=>absurd ((h.row i).lt _ e).1 (Nat.not_succ_le_self pb)) _
theorem zo7(S:Nat→Prop)(pb hp:Nat)(p:PartsT)(r:PRows)(k:Int)(s:ByteArray)(lo hi:Int)(A:Option Addr)(c:Nat)(w:World)(h:PartsAt pb hp p r w)(hlo:lo=0∨lo=1):
  Calls Tryz.prog 178 #[.pointer (some ⟨pb,0,none⟩),.agg #[.int .i64 k,.string s,.int .i64 lo,.int .i64 hi,.slice A 0 c]] w fun e w'=>e=.returned (.tuple #[])∧∃r',PartsAt pb hp (p.tru lo) r' w'∧PMove S pb r w r' w':=by
 have hlt:=h.lt;obtain⟨W1,hW1⟩:∃W1,W1=(w.alloc (.cells #[.int .i64 k,.string s,.int .i64 lo,.int .i64 hi,.slice A 0 c] 36)):=⟨_,rfl⟩;have b1:Below w.heap.size w W1:=by rw[hW1];exact(Below.refl _ w).alloc (Qiz _) _
 have b2:=b1.drew;have p2:=(h.all b1).all (Below.refl _ W1).drew;have box:Cel w.heap.size [.int .i64 k,.string s,.int .i64 lo,.int .i64 hi,.slice A 0 c] W1:=by rw[hW1];exact Cel.new w _ _ _ rfl
 obtain⟨q4,q5⟩:=(h.all b1).cel 4 _ rfl;obtain⟨q6,q7⟩:=(h.all b1).cel 5 _ rfl;obtain⟨x2,_⟩:=box 2 _ rfl;have HP:=Qaz p2;have HB:=Qaz b2;have hne:w.heap.size≠pb:=by omega
 clear h box p2 b2 b1;rcases hlo with rfl|rfl
 all_goals
  go_enter Tryz.func178,Tryz.ntmps178;go_wp2_with (fail);rw[←hW1];clear hW1
  go_region
 all_goals
  refine bodyPost_end (v:=.tuple #[]) (by simp[results,Tryz.results178]) rfl ?_
 all_goals
  have F0:=HP.out.setT S HB.out (p.tru 0) 4 (.bool true) rfl (by simp[zb2,PRows.v,PartsT.tru]) (by decide);have F1:=HP.out.setT S HB.out (p.tru 1) 5 (.bool true) rfl (by simp[zb2,PRows.v,PartsT.tru]) (by decide)
  first
   |with_reducible exact⟨rfl,_,F0⟩
   |with_reducible exact⟨rfl,_,F1⟩
   |trace_state
theorem HierAt.chg{hp M1:Nat}{A:Option Addr}{c:Nat}{l:List CI}{k:Nat}{S:Nat→Prop}{w w':World}(h:HierAt hp M1 A c l k w)(q:Chg S w w')(hS:∀b,S b→b≠hp∧b≠M1∧¬zce M1 b):HierAt hp M1 A c l k w':=by
 have kk:Keep (fun b=>¬S b) w w':=q.keep fun b hb s=>hb s;have nh:¬S hp:=fun s=>(hS _ s).1 rfl;have n1:¬S M1:=fun s=>(hS _ s).2.1 rfl;have n2:¬S (M1+1):=fun s=>(hS _ s).2.2 (by first|exact .inl rfl|(simp[zce]));have n3:¬S (M1+1+1):=fun s=>(hS _ s).2.2 (by first|exact .inr rfl|(simp[zce]));exact⟨zah h.c0 kk nh,zah h.c1 kk nh,h.at_.keep kk n1,zah h.c2 kk nh,zah h.c3 kk nh,h.m2.imp fun f hf=>⟨hf.1.keep kk n2,hf.2⟩,h.m3.imp fun f hf=>⟨hf.1.keep kk n3,hf.2⟩,h.hpe⟩
def addC(l:List CI)(p:PartsT)(t:Ty):PartsT:=
 if t.name=zal then p.add 0 (zbo (-9223372036854775808) 9223372036854775807)
 else if t.name=zan then⟨p.row,true,true⟩
 else if vdB l t.name then p else p.add 2 t
theorem zw4(l:List CI)(p:PartsT)(k lo hi:Int):addC l p (.mk k zan lo hi [])=⟨p.row,true,true⟩:=by
 unfold addC;rw[if_neg (by show ¬(zan=zal);decide),if_pos (by rfl)]
theorem PartsAt.setTT{pb hp:Nat}{p:PartsT}{r:PRows}{w W:World}(S:Nat→Prop)(h:PartsAt pb hp p r W)(hb:Below w.heap.size w W):
  PartsAt pb hp ⟨p.row,true,true⟩ r ((W.setCell ⟨pb,4,none⟩ (.bool true)).setCell ⟨pb,5,none⟩ (.bool true))∧PMove S pb r w r ((W.setCell ⟨pb,4,none⟩ (.bool true)).setCell ⟨pb,5,none⟩ (.bool true)):=by
 have a:=h.setT S hb ⟨p.row,true,p.t1⟩ 4 (.bool true) rfl (by simp[zb2,PRows.v]) (by decide);have b:=a.1.setT S (Below.refl _ _) ⟨p.row,true,true⟩ 5 (.bool true) rfl (by simp[zb2,PRows.v]) (by decide);exact⟨b.1,a.2.trans b.2⟩
theorem zlr(S:Nat→Prop)(pb hp:Nat)(p:PartsT)(r:PRows)(k:Int)(lo hi:Int)(A:Option Addr)(c:Nat)(w:World)(h:PartsAt pb hp p r w):
  Calls Tryz.prog 176 #[.pointer (some ⟨pb,0,none⟩),.agg #[.int .i64 k,.string ⟨#[60,98,111,111,108,101,97,110,62]⟩,.int .i64 lo,.int .i64 hi,.slice A 0 c]] w fun e w'=>e=.returned (.tuple #[])∧∃r',PartsAt pb hp ⟨p.row,true,true⟩ r' w'∧PMove S pb r w r' w':=by
 have hlt:=h.lt;obtain⟨W1,hW1⟩:∃W1,W1=(w.alloc (.cells #[.int .i64 k,.string ⟨#[60,98,111,111,108,101,97,110,62]⟩,.int .i64 lo,.int .i64 hi,.slice A 0 c] 36)):=⟨_,rfl⟩;have b1:Below w.heap.size w W1:=by rw[hW1];exact(Below.refl _ w).alloc (Qiz _) _
 have box:Cel w.heap.size [.int .i64 k,.string ⟨#[60,98,111,111,108,101,97,110,62]⟩,.int .i64 lo,.int .i64 hi,.slice A 0 c] W1:=by rw[hW1];exact Cel.new w _ _ _ rfl
 obtain⟨q4,q5⟩:=h.cel 4 _ rfl;obtain⟨q6,q7⟩:=h.cel 5 _ rfl;obtain⟨x1,_⟩:=box 1 _ rfl;have F:=Qaz (h.setTT S (Below.refl _ w));have hne:w.heap.size≠pb:=by omega
 clear h box b1;go_enter Tryz.func176,Tryz.ntmps176;subst hW1;go_wp2;refine bodyPost_end (v:=.tuple #[]) (by simp[results,Tryz.results176]) rfl ?_;exact⟨rfl,_,F.out.1.all ((Below.refl _ _).alloc (Qiz _) _),F.out.2.trans (PMove.of ((Below.refl _ _).alloc (Qiz _) _))⟩
end
end Go.Proofs.YtepnmejahbiacaaGreat
