/- Part 18 of the proof: Px, Oo. -/
import Derived.Test.YtepnmejahbiacaaGreatM14
import Derived.Test.YtepnmejahbiacaaGreatM07
set_option linter.unusedVariables false
set_option linter.unusedSimpArgs false
set_option maxHeartbeats 64000000
set_option maxRecDepth 100000
namespace Go.Proofs.YtepnmejahbiacaaGreat
open Go.RowKit
theorem znz{l:List CI}{ts:List Tag}{a b:Meth}(h:∀j,j<a.pars.length→zct l ts a b j=0∨zct l ts a b j=1):zbs l ts a b=(List.range a.pars.length).any fun i=>decide (zct l ts a b i=1):=by
 unfold zbs;have:((List.range a.pars.length).all fun i=>decide (zct l ts a b i=0∨zct l ts a b i=1))=true:=by
  rw[List.all_eq_true];intro j hj;exact Qhz (h j (List.mem_range.1 hj))
 rw[this,Bool.true_and]
theorem zlx{l:List CI}{ts:List Tag}{a b:Meth}{j:Nat}(hj:j<a.pars.length)(h0:zct l ts a b j≠0)(h1:zct l ts a b j≠1):zbs l ts a b=false:=by
 unfold zbs;have:((List.range a.pars.length).all fun i=>decide (zct l ts a b i=0∨zct l ts a b i=1))=false:=by
  rw[List.all_eq_false];exact⟨j,List.mem_range.2 hj,by simp[h0,h1]⟩
 rw[this,Bool.false_and]
theorem zfc(f:Nat→Bool)(k:Nat):(List.range (k+1)).any f=((List.range k).any f||f k):=by
 rw[List.range_succ,List.any_append];simp
theorem zfg(cp:Nat)(AH:Option Addr)(cH:Nat)(l:List CI)(AT:Option Addr)(cT:Nat)(ts:List Tag)(A2:Option Addr)(c2:Nat)(W:World)(HO:OpenAt cp AH cH l AT cT ts A2 c2 W)
  (GH:Nat→Prop) (h:Held GH (CIs AH l) W) (hl:l.length≤1000000) (ol:∀x∈l,zdo x) (hcl:∀t∈ts,(za9 l t).length≤1000000) (hts:ts.length≤1000000)
  (a b:Meth) (Aa Ar Ba Br:Option Addr) (ca cr cb cq:Nat) (Ga Gb:Nat→Prop) (hA:Held Ga (Pars Aa a.pars) W) (hB:Held Gb (Pars Ba b.pars) W) (ha:a.pars.length=ts.length) (hb:b.pars.length=ts.length)
  (sa:∀p∈a.pars,TySmall p.type) (sb:∀p∈b.pars,TySmall p.type):
  Calls Tryz.prog 70 #[.pointer (some ⟨cp,0,none⟩),zk2 a Aa ca Ar cr,zk2 b Ba cb Br cq] W fun e W'=>e=.returned (.bool (zbs l ts a b))∧Below W.heap.size W W':=by
 obtain⟨W1,hW1⟩:∃W1,W1=(W.alloc (.cells #[.int .i64 a.id,.string a.lib,.slice Aa a.pars.length ca,.int .i64 a.result.kind,.string a.result.name,.int .i64 a.result.lo,.int .i64 a.result.hi,.slice Ar a.result.args.length cr] 68)).alloc (.cells #[.int .i64 b.id,.string b.lib,.slice Ba b.pars.length cb,.int .i64 b.result.kind,.string b.result.name,.int .i64 b.result.lo,.int .i64 b.result.hi,.slice Br b.result.args.length cq] 68):=⟨_,rfl⟩;have b1:Below W.heap.size W W1:=by rw[hW1];exact((Below.refl _ W).alloc (Qiz _) _).alloc (by simp) _
 have x2:W1.cell? ⟨W.heap.size,2,none⟩=some (.slice Aa a.pars.length ca):=by rw[hW1];exact zat (zac W _ _ _ rfl 2 _ rfl)
 have y2:W1.cell? ⟨W.heap.size+1,2,none⟩=some (.slice Ba b.pars.length cb):=by rw[hW1];exact zac (W.alloc _) _ _ _ (by simp) 2 _ rfl
 have hla:a.pars.length≤1000000:=by omega
 have HA:=Qaz ha;have HB:=Qaz hb;have HN:Hid (a.pars.length=b.pars.length):=Qaz (by omega);clear ha hb;go_enter Tryz.func70,Tryz.ntmps70;go_wp2_with (fail);rw[←hW1];clear hW1
 go_loopw [7,12] (fun v i wr=>∃k:Nat,k≤a.pars.length∧i=.int .i64 k∧v=.bool ((List.range k).any fun j=>decide (zct l ts a b j=1))∧(∀j,j<k→zct l ts a b j=0∨zct l ts a b j=1)∧Below W1.heap.size W1 wr) (fun _ i _=>a.pars.length-(intOf i).toNat)
 case atStart=>exact⟨0,Qjz _,rfl,rfl,fun j hj=>absurd hj (by omega),Below.refl _ _⟩
 case round=>
  obtain⟨k,hk,rfl,rfl,hok,hbr⟩:=hrel;have HOK:=Qaz hok;clear hok;have bWr:=b1.trans (hbr.mono b1.size);by_cases hlt:k<a.pars.length
  ·obtain⟨pa,oa,rfl⟩:=Slc.addrH hA (by omega);have hkb:k<b.pars.length:=by rw[←HN.out];exact hlt
   have hkt:k<ts.length:=by rw[←HA.out];exact hlt
   obtain⟨pb,ob,rfl⟩:=Slc.addrH hB (by omega);have hx:a.pars[k]? =some a.pars[k]:=Qbz hlt;have hy:b.pars[k]? =some b.pars[k]:=Qbz hkb;have ht:ts[k]? =some ts[k]:=Qbz hkt;generalize a.pars[k]=p at hx;generalize b.pars[k]=q at hy;generalize ts[k]=t at ht;obtain⟨A3,c3,r1,r2,_,g1,g2,g3,g4,g5⟩:=Pars.atH (hA.keep (Keep.all bWr)) hx;obtain⟨B3,d3,s1,s2,_,e1,e2,e3,e4,e5⟩:=Pars.atH (hB.keep (Keep.all bWr)) hy;have HCA:Hid (zct l ts a b k=zgs l (za9 l t) p.type q.type):=Qaz (by unfold zct;rw[ht,hx,hy]);have HOr:=HO.keep bWr;have z3:=HOr.c3;have x2r:=zaa x2 hbr;have y2r:=zaa y2 hbr
   have HC:=Qaz (fun V (hv:Below wr.heap.size wr V)=>zm8 cp AH cH l AT cT ts A2 c2 V (HOr.keep hv) GH ((h.keep (Keep.all bWr)).keep (Keep.all hv)) hl ol hcl hts k t ht p.type q.type A3 B3 c3 d3 _ _ (r2.keep (Keep.all hv)) (s2.keep (Keep.all hv)) (sa p (Qdz hx)).all (sb q (Qdz hy)).all);have hcf:∀args w,(callFunc 55 args).run Tryz.prog w=.ok (.enter 55 args) w:=enters Tryz.func55 (by kernel_rfl) rfl;have hk0:(0:Int)≤(k:Int):=Int.natCast_nonneg _;have hk1:(k:Int)<(a.pars.length:Int):=by omega
   have hk2:(k:Int)<(b.pars.length:Int):=by omega
   generalize zgs l (za9 l t) p.type q.type=cc at HC HCA;clear hx hy ht HOr HO h hcl ol;have fin:∀(w':World),Below wr.heap.size wr w'→Below W1.heap.size W1 w':=fun w' hq=>hbr.trans (hq.mono hbr.size);have HF:=Qaz fin;clear fin;by_cases h1:cc=1
   ·subst h1;go_wp2_with (fail)
    go_region_held3 (fun w'=>Below wr.heap.size wr w'∧w'.cell? ⟨cp,3,none⟩=some (.func (.func 55) #[.pointer (some ⟨cp,0,none⟩)] #[])∧w'.cell? ⟨W.heap.size,2,none⟩=some (.slice (some ⟨pa,oa,none⟩) a.pars.length ca)∧w'.cell? ⟨W.heap.size+1,2,none⟩=some (.slice (some ⟨pb,ob,none⟩) b.pars.length cb)∧
      w'.cell? ⟨pa,oa+k*6+1,none⟩=some (.int .i64 p.type.kind)∧w'.cell? ⟨pa,oa+k*6+1+1,none⟩=some (.string p.type.name)∧w'.cell? ⟨pa,oa+k*6+1+2,none⟩=some (.int .i64 p.type.lo)∧w'.cell? ⟨pa,oa+k*6+1+3,none⟩=some (.int .i64 p.type.hi)∧w'.cell? ⟨pa,oa+k*6+1+4,none⟩=some (.slice A3 p.type.args.length c3)∧
      w'.cell? ⟨pb,ob+k*6+1,none⟩=some (.int .i64 q.type.kind)∧w'.cell? ⟨pb,ob+k*6+1+1,none⟩=some (.string q.type.name)∧w'.cell? ⟨pb,ob+k*6+1+2,none⟩=some (.int .i64 q.type.lo)∧w'.cell? ⟨pb,ob+k*6+1+3,none⟩=some (.int .i64 q.type.hi)∧w'.cell? ⟨pb,ob+k*6+1+4,none⟩=some (.slice B3 q.type.args.length d3))
     (first|exact⟨(Below.refl _ wr).drew,z3,x2r,y2r,g1,g2,g3,g4,g5,e1,e2,e3,e4,e5⟩|(go_split_ands;exact⟨zab (by assumption) hbv,zaa (by assumption) hbv,zaa (by assumption) hbv,zaa (by assumption) hbv,zaa (by assumption) hbv,zaa (by assumption) hbv,zaa (by assumption) hbv,zaa (by assumption) hbv,zaa (by assumption) hbv,zaa (by assumption) hbv,zaa (by assumption) hbv,zaa (by assumption) hbv,zaa (by assumption) hbv,zaa (by assumption) hbv⟩))
     ((go_at_call 55;refine(HC.out _ (by go_split_ands;assumption)).mono ?_;rintro e V ⟨rfl,hbv⟩))
    all_goals
     go_wp2;refine⟨⟨k+1,by omega,by go_num,by rw[zfc,HCA.out];simp,fun j hj=> ?_,HF.out _ (by go_split_ands;assumption)⟩,by simp[intOf];omega⟩;rcases Nat.lt_or_ge j k with q|q
     ·exact HOK.out j q
     ·obtain rfl:j=k:=by omega
      rw[HCA.out];exact .inr rfl
   ·have t1:(cc==1)=false:=Qfz h1;by_cases h0:cc=0
    ·subst h0;go_wp2_with (fail)
     go_region_held3 (fun w'=>Below wr.heap.size wr w'∧w'.cell? ⟨cp,3,none⟩=some (.func (.func 55) #[.pointer (some ⟨cp,0,none⟩)] #[])∧w'.cell? ⟨W.heap.size,2,none⟩=some (.slice (some ⟨pa,oa,none⟩) a.pars.length ca)∧w'.cell? ⟨W.heap.size+1,2,none⟩=some (.slice (some ⟨pb,ob,none⟩) b.pars.length cb)∧
       w'.cell? ⟨pa,oa+k*6+1,none⟩=some (.int .i64 p.type.kind)∧w'.cell? ⟨pa,oa+k*6+1+1,none⟩=some (.string p.type.name)∧w'.cell? ⟨pa,oa+k*6+1+2,none⟩=some (.int .i64 p.type.lo)∧w'.cell? ⟨pa,oa+k*6+1+3,none⟩=some (.int .i64 p.type.hi)∧w'.cell? ⟨pa,oa+k*6+1+4,none⟩=some (.slice A3 p.type.args.length c3)∧
       w'.cell? ⟨pb,ob+k*6+1,none⟩=some (.int .i64 q.type.kind)∧w'.cell? ⟨pb,ob+k*6+1+1,none⟩=some (.string q.type.name)∧w'.cell? ⟨pb,ob+k*6+1+2,none⟩=some (.int .i64 q.type.lo)∧w'.cell? ⟨pb,ob+k*6+1+3,none⟩=some (.int .i64 q.type.hi)∧w'.cell? ⟨pb,ob+k*6+1+4,none⟩=some (.slice B3 q.type.args.length d3))
      (first|exact⟨(Below.refl _ wr).drew,z3,x2r,y2r,g1,g2,g3,g4,g5,e1,e2,e3,e4,e5⟩|(go_split_ands;exact⟨zab (by assumption) hbv,zaa (by assumption) hbv,zaa (by assumption) hbv,zaa (by assumption) hbv,zaa (by assumption) hbv,zaa (by assumption) hbv,zaa (by assumption) hbv,zaa (by assumption) hbv,zaa (by assumption) hbv,zaa (by assumption) hbv,zaa (by assumption) hbv,zaa (by assumption) hbv,zaa (by assumption) hbv,zaa (by assumption) hbv⟩))
      ((go_at_call 55;refine(HC.out _ (by go_split_ands;assumption)).mono ?_;rintro e V ⟨rfl,hbv⟩))
     all_goals
      go_wp2;refine⟨⟨k+1,by omega,by go_num,by rw[zfc,HCA.out];simp,fun j hj=> ?_,HF.out _ (by go_split_ands;assumption)⟩,by simp[intOf];omega⟩;rcases Nat.lt_or_ge j k with q|q
      ·exact HOK.out j q
      ·obtain rfl:j=k:=by omega
       rw[HCA.out];exact .inl rfl
    ·have t0:(cc==0)=false:=Qfz h0;have HPB:Hid (zbs l ts a b=false):=Qaz (zlx hlt (by rw[HCA.out];exact h0) (by rw[HCA.out];exact h1));clear h0 h1;go_wp2_with (fail)
     go_region_held3 (fun w'=>Below wr.heap.size wr w'∧w'.cell? ⟨cp,3,none⟩=some (.func (.func 55) #[.pointer (some ⟨cp,0,none⟩)] #[])∧w'.cell? ⟨W.heap.size,2,none⟩=some (.slice (some ⟨pa,oa,none⟩) a.pars.length ca)∧w'.cell? ⟨W.heap.size+1,2,none⟩=some (.slice (some ⟨pb,ob,none⟩) b.pars.length cb)∧
       w'.cell? ⟨pa,oa+k*6+1,none⟩=some (.int .i64 p.type.kind)∧w'.cell? ⟨pa,oa+k*6+1+1,none⟩=some (.string p.type.name)∧w'.cell? ⟨pa,oa+k*6+1+2,none⟩=some (.int .i64 p.type.lo)∧w'.cell? ⟨pa,oa+k*6+1+3,none⟩=some (.int .i64 p.type.hi)∧w'.cell? ⟨pa,oa+k*6+1+4,none⟩=some (.slice A3 p.type.args.length c3)∧
       w'.cell? ⟨pb,ob+k*6+1,none⟩=some (.int .i64 q.type.kind)∧w'.cell? ⟨pb,ob+k*6+1+1,none⟩=some (.string q.type.name)∧w'.cell? ⟨pb,ob+k*6+1+2,none⟩=some (.int .i64 q.type.lo)∧w'.cell? ⟨pb,ob+k*6+1+3,none⟩=some (.int .i64 q.type.hi)∧w'.cell? ⟨pb,ob+k*6+1+4,none⟩=some (.slice B3 q.type.args.length d3))
      (first|exact⟨(Below.refl _ wr).drew,z3,x2r,y2r,g1,g2,g3,g4,g5,e1,e2,e3,e4,e5⟩|(go_split_ands;exact⟨zab (by assumption) hbv,zaa (by assumption) hbv,zaa (by assumption) hbv,zaa (by assumption) hbv,zaa (by assumption) hbv,zaa (by assumption) hbv,zaa (by assumption) hbv,zaa (by assumption) hbv,zaa (by assumption) hbv,zaa (by assumption) hbv,zaa (by assumption) hbv,zaa (by assumption) hbv,zaa (by assumption) hbv,zaa (by assumption) hbv⟩))
      ((go_at_call 55;refine(HC.out _ (by go_split_ands;assumption)).mono ?_;rintro e V ⟨rfl,hbv⟩))
     all_goals
      go_wp2;go_ret;exact⟨(by rw[HPB.out];try rfl),zab bWr (by go_split_ands;assumption)⟩
  ·obtain rfl:k=a.pars.length:=by omega
   have HPB:=Qaz (znz (fun j hj=>HOK.out j hj));go_wp2;go_ret;exact⟨(by rw[HPB.out];try rfl),bWr⟩
def slLen:Value→Nat
 | .slice _ n _=>n
 |_=>0
theorem Own.slLen{α:Type}{R:α→List Value→World→Prop}{T sz base:Nat}{G:Nat→Prop}{v:Value}{l:List α}{w:World}(h:Own R T sz base G v l w):slLen v=l.length:=by
 obtain⟨A,c,rfl,_,_⟩:=h.out;rfl
theorem zmm{α:Type}{P:α→α→Bool}{l:List α}{i n:Nat}{a:α}(hp:pick P l=some i)(ha:l[i]? =some a):zbu P (n+1) l=(a::(zbu P n (l.eraseIdx i)).1,(zbu P n (l.eraseIdx i)).2):=by
 rw[zbu,hp];simp only[ha]
theorem zf4{α:Type}{P:α→α→Bool}{l:List α}{n:Nat}(hp:pick P l=none):zbu P n l=([],l):=by
 cases n with
 |zero=>rfl
 |succ n=>rw[zbu,hp]
open Classical in
theorem zim{l:List CI}{ts:List Tag}{m:Meth}(h:zjk l ts m):zde l ts m=true:=Qhz h
open Classical in
theorem zg6{l:List CI}{ts:List Tag}{m:Meth}(h:¬zjk l ts m):zde l ts m=false:=Qgz h
theorem zi1(cp:Nat)(AH:Option Addr)(cH:Nat)(l:List CI)(AT:Option Addr)(cT:Nat)(ts:List Tag)(A2:Option Addr)(c2:Nat)(W:World)(HO:OpenAt cp AH cH l AT cT ts A2 c2 W)
  (GH:Nat→Prop) (h:Held GH (CIs AH l) W) (hcH:l.length≤cH) (hl:l.length≤1000000) (ol:∀x∈l,zdo x) (hcl:∀t∈ts,(za9 l t).length≤1000000) (hts:ts.length≤1000000) (GT:Nat→Prop) (hT:Held GT (Tags AT ts) W)
  (A:Option Addr) (c:Nat) (ms:List Meth) (G:Nat→Prop) (hM:Held G (Meths A ms) W) (hn:ms.length≤1000000) (hp:∀m∈ms,m.pars.length=ts.length) (hs:∀m∈ms,∀p∈m.pars,TySmall p.type):
  Calls Tryz.prog 61 #[.pointer (some ⟨cp,0,none⟩),.slice A ms.length c] W fun e W'=>∃v1 v2,e=.returned (.tuple #[v1,v2])∧Own metR 68 8 W.heap.size (fun b=>b<W.heap.size) v1 (zcw l ts ms).1 W'∧
   Own metR 68 8 W.heap.size (fun b=>b<W.heap.size) v2 (zcw l ts ms).2 W'∧Below W.heap.size W W':=by
 have hmf:∀(fn:Fn)(first cap:Array Value)(w:World),(Instr.makeFunc fn first cap).run Tryz.prog w=.ok (.func fn first cap) w:=fun _ _ _ _=>rfl;have HF:=Qaz (zqe A c ms (fun b=>b<W.heap.size) W hM.here hn 42 #[.pointer (some ⟨cp,0,none⟩)] #[] (zde l ts) (enters Tryz.func42 (by kernel_rfl) rfl)
  (fun m hm A1 c1 A2 c2 wr hb h1 h2=>by
   refine(ziv cp AH cH l AT cT ts m A1 A2 c1 c2 wr (HO.call.keep hb) GH (h.keep (Keep.all hb)) hcH ol hl GT (hT.keep (Keep.all hb)) _ h2 (hp m hm) (by rw[hp m hm];exact hts) (hs m hm)).mono ?_;rintro e w' ⟨q,(⟨q1,rfl⟩|⟨q1,rfl⟩)⟩
   ·exact⟨by rw[zim q1],q⟩
   ·exact⟨by rw[zg6 q1],q⟩))
 obtain⟨P,hP⟩:∃P,P=zbs l ts:=⟨_,rfl⟩;obtain⟨fm,hfm⟩:∃fm,fm=ms.filter (zde l ts):=⟨_,rfl⟩;have HORD:Hid (zcw l ts ms=zbu P fm.length fm):=Qaz (by unfold zcw;rw[hP,hfm]);have HFM:Hid (∀m∈fm,m∈ms):=Qaz (fun m hm=>by rw[hfm]at hm;exact(List.mem_filter.1 hm).1);have HFL:Hid (fm.length≤ms.length):=Qaz (by rw[hfm];exact List.length_filter_le _ _);rw[←hfm]at HF;have HPR:Hid (∀(a b:Meth)(Aa Ar Ba Br:Option Addr)(ca cr cb cq:Nat)(V:World),Below W.heap.size W V→a∈ms→b∈ms→(∃G,Held G (Pars Aa a.pars) V)→(∃G,Held G (Pars Ba b.pars) V)→
   Calls Tryz.prog 70 #[.pointer (some ⟨cp,0,none⟩),zk2 a Aa ca Ar cr,zk2 b Ba cb Br cq] V fun e V'=>e=.returned (.bool (P a b))∧Below V.heap.size V V'):=
  Qaz (fun a b Aa Ar Ba Br ca cr cb cq V hv ha hb ⟨Ga,h1⟩ ⟨Gb,h2⟩=>by
   rw[hP];exact zfg cp AH cH l AT cT ts A2 c2 V (HO.keep hv) GH (h.keep (Keep.all hv)) hl ol hcl hts a b Aa Ar Ba Br ca cr cb cq Ga Gb h1 h2 (hp a ha) (hp b hb) (hs a ha) (hs b hb))
 clear hP hfm HO h hcl hT hM hp hs ol;go_enter Tryz.func61,Tryz.ntmps61;go_wp2
 go_step3
 go_wp2_with (fail);refine HF.out.mono ?_;clear HF hmf;rintro e V ⟨v,rfl,hown,hbv⟩;have hown:=hown.mono (G':=fun b=>b<W.heap.size) (fun b _ h=>h.1);go_wp2_with (fail)
 go_step3
 go_wp2_with (fail)
 go_loopw [4,5] (fun o lf wr=>∃(n:Nat)(os ls:List Meth),Own metR 68 8 W.heap.size (fun b=>b<W.heap.size) o os wr∧Own metR 68 8 W.heap.size (fun b=>b<W.heap.size) lf ls wr∧(∀b,o.ownBlock=some b→lf.ownBlock≠some b)∧
  os++(zbu P n ls).1=(zbu P fm.length fm).1∧(zbu P n ls).2=(zbu P fm.length fm).2∧ls.length≤n∧os.length+ls.length≤ms.length∧(∀m∈ls,m∈ms)∧Below W.heap.size W wr) (fun _ lf _=>slLen lf)
 case atStart=>exact⟨fm.length,[],fm,Own.nil _ _ _ _ _ _,hown,by simp[Value.ownBlock],by simp,rfl,Qiz _,by simpa using HFL.out,HFM.out,hbv⟩
 case round=>
  obtain⟨n,os,ls,hO,hL,hdis,e1,e2,hln,hlen,hmem,hb⟩:=hrel;have HE1:=Qaz e1;have HE2:=Qaz e2;have HMEM:=Qaz hmem;have HDIS:=Qaz hdis;clear e1 e2 hmem hdis;by_cases h0:0<ls.length
  ·obtain⟨g,cl,rfl,hgb,hgl⟩:=hL.form h0;have hl0:(0:Int)<(ls.length:Int):=by omega
   go_wp2_with (fail)
   go_step3
   go_wp2_with (fail)
   go_step3
   go_wp2_with (fail);obtain⟨Wo,hWo⟩:∃Wo,Wo=wr:=⟨_,rfl⟩;subst hWo;obtain⟨ov,hov⟩:∃ov,ov=u4:=⟨_,rfl⟩;subst hov
   go_loopw [4,5,19] (fun o' lf' i w2=>∃k:Nat,o'=ov∧lf'=.slice (some ⟨g,0,none⟩) ls.length cl∧k≤ls.length∧i=.int .i64 k∧(∀j,j<k→zdl P ls j=false)∧Below Wo.heap.size Wo w2) (fun _ _ i _=>ls.length-(intOf i).toNat)
   case atStart=>exact⟨0,rfl,rfl,Qjz _,rfl,fun j hj=>absurd hj (by omega),Below.refl _ _⟩
   case round=>
    obtain⟨k,rfl,rfl,hk,rfl,hbad,hb2⟩:=hrel;have HBAD:=Qaz hbad;clear hbad;by_cases hkl:k<ls.length
    ·have hx:ls[k]? =some ls[k]:=Qbz hkl;generalize ls[k]=a at hx;have HX:=Qaz hx;obtain⟨A1,c1,A3,c3,p1,p2,p3,p4,f0,f1,f2,f3,f4,f5,f6,f7⟩:=OwnMet.at hL hx;have g0:=zaa f0 hb2;have g1:=zaa f1 hb2;have g2:=zaa f2 hb2;have g3:=zaa f3 hb2;have g4:=zaa f4 hb2;have g5:=zaa f5 hb2;have g6:=zaa f6 hb2;have g7:=zaa f7 hb2;clear hx f0 f1 f2 f3 f4 f5 f6 f7;go_wp2_with (fail)
     obtain⟨W1,hW1⟩:∃W1,W1=wr.alloc (.cells #[.int .i64 a.id,.string a.lib,.slice A1 a.pars.length c1,.int .i64 a.result.kind,.string a.result.name,.int .i64 a.result.lo,.int .i64 a.result.hi,.slice A3 a.result.args.length c3] 68):=⟨_,rfl⟩;rw[←hW1];have b1:Below wr.heap.size wr W1:=by rw[hW1];exact(Below.refl _ wr).alloc (Qiz _) _
     have xm:∀j u,[Value.int .i64 a.id,.string a.lib,.slice A1 a.pars.length c1,.int .i64 a.result.kind,.string a.result.name,.int .i64 a.result.lo,.int .i64 a.result.hi,.slice A3 a.result.args.length c3][j]? =some u→W1.cell? ⟨wr.heap.size,j,none⟩=some u:=fun j u hj=>by rw[hW1];exact zac wr _ _ _ rfl j u hj
     have XM:=Qaz xm;clear hW1 g0 g1 g2 g3 g4 g5 g6 g7 xm;have bo1:Below Wo.heap.size Wo W1:=hb2.trans (b1.mono hb2.size);obtain⟨ab,hab⟩:∃ab,ab=wr.heap.size:=⟨_,rfl⟩;rw[←hab]at XM ⊢;clear hab b1 hb2;go_wp2_with (fail)
     go_loopw [26] (fun i w3=>∃j:Nat,j≤ls.length∧i=.int .i64 j∧(∀q,q<j→k=q∨zmj P ls k q=true)∧Below W1.heap.size W1 w3) (fun i _=>ls.length-(intOf i).toNat)
     case atStart=>exact⟨0,Qjz _,rfl,fun j hj=>absurd hj (by omega),Below.refl _ _⟩
     case round=>
      obtain⟨j,hj,rfl,hgood,hb3⟩:=hrel;have HG:=Qaz hgood;clear hgood;have bo3:Below Wo.heap.size Wo wr:=bo1.trans (hb3.mono bo1.size);have bW3:Below W.heap.size W wr:=hb.trans (bo3.mono hb.size);by_cases hjl:j<ls.length
      ·have hy:ls[j]? =some ls[j]:=Qbz hjl;generalize ls[j]=b at hy;have HY:=Qaz hy;obtain⟨B1,d1,B3,d3,q1,q2,q3,q4,f0,f1,f2,f3,f4,f5,f6,f7⟩:=OwnMet.at hL hy;have g0:=zaa f0 bo3;have g1:=zaa f1 bo3;have g2:=zaa f2 bo3;have g3:=zaa f3 bo3;have g4:=zaa f4 bo3;have g5:=zaa f5 bo3;have g6:=zaa f6 bo3;have g7:=zaa f7 bo3;have m0:=zaa (XM.out 0 _ rfl) hb3;have m1:=zaa (XM.out 1 _ rfl) hb3;have m2:=zaa (XM.out 2 _ rfl) hb3;have m3:=zaa (XM.out 3 _ rfl) hb3;have m4:=zaa (XM.out 4 _ rfl) hb3;have m5:=zaa (XM.out 5 _ rfl) hb3;have m6:=zaa (XM.out 6 _ rfl) hb3;have m7:=zaa (XM.out 7 _ rfl) hb3
       clear hy f0 f1 f2 f3 f4 f5 f6 f7;have habl:ab<wr.heap.size:=cell_lt m0;have bal:Below wr.heap.size wr (wr.alloc (.cells #[.int .i64 b.id,.string b.lib,.slice B1 b.pars.length d1,.int .i64 b.result.kind,.string b.result.name,.int .i64 b.result.lo,.int .i64 b.result.hi,.slice B3 b.result.args.length d3] 68)):=(Below.refl _ wr).alloc (Qiz _) _;by_cases hkj:k=j
       ·have t1:((k:Int) != (j:Int))=false:=bne_eq_false_iff_eq.2 (by omega);have HKJ:=Qaz hkj;clear hkj;go_wp2;go_roundw
        case rel=>
         refine⟨j+1,by omega,by go_num,fun q hq=> ?_,hb3.trans (bal.mono hb3.size)⟩;rcases Nat.lt_or_ge q j with z|z
         ·exact HG.out q z
         ·exact .inl (by have:=HKJ.out;omega)
        case measure=>simp[intOf];omega
       ·have t1:((k:Int) != (j:Int))=true:=by rw[bne_iff_ne];omega
        have HKJ:=Qaz hkj;clear hkj;have HPC:=Qaz (fun V (hv:Below wr.heap.size wr V)=>HPR.out a b A1 A3 B1 B3 c1 c3 d1 d3 V (bW3.trans (hv.mono bW3.size)) (HMEM.out a (Qdz HX.out)) (HMEM.out b (Qdz HY.out)) ⟨_,p2.keep (Keep.all (bo3.trans (hv.mono bo3.size)))⟩ ⟨_,q2.keep (Keep.all (bo3.trans (hv.mono bo3.size)))⟩);have HPP:Hid (zmj P ls k j=P a b):=Qaz (z0i HX.out HY.out);cases hpab:P a b with
        |true=>
         have HPT:Hid (zmj P ls k j=true):=Qaz (HPP.out.trans hpab);rw[hpab]at HPC;clear hpab HPP;go_wp2_with (fail);refine(HPC.out _ bal).mono ?_;clear HPC;rintro e V ⟨rfl,hbv⟩;go_wp2;go_roundw
         case rel=>
          refine⟨j+1,by omega,by go_num,fun q hq=> ?_,hb3.trans ((bal.trans (hbv.mono bal.size)).mono hb3.size)⟩;rcases Nat.lt_or_ge q j with z|z
          ·exact HG.out q z
          ·obtain rfl:q=j:=by omega
           exact .inr HPT.out
         case measure=>simp[intOf];omega
        |false=>
         have HPT:Hid (zdl P ls k=false):=Qaz (by
          cases hq:zdl P ls k with
          |false=>rfl
          |true=>
           rcases zje.1 hq j hjl with z|z
           ·exact absurd z HKJ.out
           ·rw[HPP.out,hpab]at z;cases z)
         rw[hpab]at HPC;clear hpab HPP;go_wp2_with (fail);refine(HPC.out _ bal).mono ?_;clear HPC;rintro e V ⟨rfl,hbv⟩;go_wp2;go_roundw
         case rel=>
          refine⟨k+1,rfl,rfl,by omega,by go_num,fun q hq=> ?_,bo3.trans ((bal.trans (hbv.mono bal.size)).mono bo3.size)⟩;rcases Nat.lt_or_ge q k with z|z
          ·exact HBAD.out q z
          ·obtain rfl:q=k:=by omega
           exact HPT.out
         case measure=>simp[intOf];omega
      ·obtain rfl:j=ls.length:=by omega
       have HPK:Hid (pick P ls=some k):=Qaz (z02 hkl (zje.2 fun q hq=>HG.out q hq) HBAD.out);have m0:=zaa (XM.out 0 _ rfl) hb3;have m1:=zaa (XM.out 1 _ rfl) hb3;have m2:=zaa (XM.out 2 _ rfl) hb3;have m3:=zaa (XM.out 3 _ rfl) hb3;have m4:=zaa (XM.out 4 _ rfl) hb3;have m5:=zaa (XM.out 5 _ rfl) hb3;have m6:=zaa (XM.out 6 _ rfl) hb3;have m7:=zaa (XM.out 7 _ rfl) hb3;have hOr:=hO.all bo3;have hLr:=hL.all bo3;have hbz:=bW3.size;have hO2:=Qaz (fun b e=>(hOr.lt b e));go_wp2_with (at_builtin;refine Classical.byContradiction fun hneg=> ?_);apply hneg
       refine zao metR 68 8 W.heap.size 112 (fun b=>b<W.heap.size) _ rfl _ _ 23 _ rfl Tryz.underlying23 zse rfl (by decide) (by decide) u4 os rfl (hOr.alloc _) ⟨wr.heap.size,0,none⟩ 1 rfl a [.int .i64 a.id,.string a.lib,.slice A1 a.pars.length c1,.int .i64 a.result.kind,.string a.result.name,.int .i64 a.result.lo,.int .i64 a.result.hi,.slice A3 a.result.args.length c3] rfl ?cells ?one ((metR.mk p1 (p2.keep (Keep.all bo3)) p3 (p4.keep (Keep.all bo3))).keep (Keep.alloc _ _ _)) ?hG ?base ?len ?_
       case cells=>exact fun j u hu=>zaq wr _ _ _ rfl j u hu
       case one=>intro u hu;simp at hu;rcases hu with rfl|rfl|rfl|rfl|rfl|rfl|rfl|rfl<;>rfl
       case hG=>exact fun b hb e=>by have:=(hO2.out b e).1;omega
       case base=>simp;omega
       case len=>omega
       intro v' w1 hown1 hg1 hat1;have bw1:Below W.heap.size W w1:=(bW3.alloc bW3.size _).grown hg1 (by simp;omega) fun k' e=>(hO2.out k' e).1;have hL1:Own metR 68 8 W.heap.size (fun b=>b<W.heap.size) (.slice (some ⟨g,0,none⟩) ls.length cl) ls w1:=by
        refine(hLr.alloc (.cells #[.int .i64 a.id,.string a.lib,.slice A1 a.pars.length c1,.int .i64 a.result.kind,.string a.result.name,.int .i64 a.result.lo,.int .i64 a.result.hi,.slice A3 a.result.args.length c3] 68)).keep (Keep.grown hg1 fun b hb e=>by have:=(hO2.out b e.symm).1;omega) fun k' e=> ?_;refine hg1.block k' (by have:=(hLr.lt k' e).2;simp;omega) fun e2=>HDIS.out k' e2.symm e
       clear m0 m1 m2 m3 m4 m5 m6 m7 hOr hLr;go_wp2_with (fail);refine(zmz (some ⟨g,0,none⟩) cl W.heap.size ls _ w1 hL1 (by omega)).mono ?_;rintro e V ⟨v2,rfl,hC,hbC⟩;obtain⟨g2,cl2,rfl,hg2,hg2l⟩:=hC.form h0;have hv1:Hid (∀b,v'.ownBlock=some b→b<w1.heap.size):=Qaz (fun b e=>(hown1.lt b e).2);have hownV:=hown1.all hbC;have hbWV:=bw1.trans (hbC.mono bw1.size);have hw1z:=bw1.size;clear hL1;go_wp2_with (fail);refine(zre g2 cl2 ls k hkl (by omega) W.heap.size (fun b=>b<W.heap.size) (fun b hb=>by omega) V (hC.lower (by omega))).mono ?_;rintro e V2 ⟨n2,hn2,rfl,hD,hch⟩
       have hownV2:Own metR 68 8 W.heap.size (fun b=>b<W.heap.size) v' (os++[a]) V2:=hownV.keep (hch.keep fun b hb=>by omega) fun k' e=>hch.block k' (hownV.lt k' e).2 (by have:=hv1.out k' e;omega);have hbF:Below W.heap.size W V2:=hbWV.trans (hch.below (by have:=hbWV.size;omega) (fun b e=>by omega));have HV2:=Qaz hownV2;have HD2:=Qaz hD;have HN2:=Qaz hn2;obtain⟨n',hn'⟩:∃n',n=n'+1:=⟨n-1,by omega⟩;have HST:Hid (zbu P n ls=(a::(zbu P n' (ls.eraseIdx k)).1,(zbu P n' (ls.eraseIdx k)).2)):=Qaz (by rw[hn'];exact zmm HPK.out HX.out);have HNN:=Qaz hn';clear hownV2 hD hn2 hn' hownV hown1 hC;go_wp2
       rw[Exit.noGoto_exit];go_wp2;go_roundw
       case rel=>
        refine⟨n',os++[a],ls.eraseIdx k,HV2.out,HD2.out,fun b e e2=> ?_,?_,?_,?_,?_,?_,hbF⟩
        ·have h1:=hv1.out b e;simp[Value.ownBlock]at e2;omega
        ·have:=HE1.out;rw[HST.out]at this
         simpa using this
        ·have:=HE2.out;rw[HST.out]at this;exact this
        ·rw[List.length_eraseIdx_of_lt hkl];have:=HNN.out;omega
        ·rw[List.length_eraseIdx_of_lt hkl,List.length_append,List.length_singleton];omega
        ·exact fun m hm=>HMEM.out m (List.mem_of_mem_eraseIdx hm)
       case measure=>
        have:=HN2.out;simp[slLen];omega
    ·obtain rfl:k=ls.length:=by omega
     have HPK:Hid (pick P ls=none):=Qaz (zsh HBAD.out);have HNO:Hid (zbu P n ls=([],ls)):=Qaz (zf4 HPK.out);have hOf:=Qaz (hO.all hb2);have hLf:=Qaz (hL.all hb2);have hbf:=hb.trans (hb2.mono hb.size);clear hO hL;go_wp2;rw[Exit.noGoto_exit];go_wp2;rw[Exit.noGoto_ret];go_ret2;refine⟨_,_,rfl,?_,?_,hbf⟩
     ·have e:=HE1.out;rw[HNO.out,List.append_nil]at e;rw[HORD.out,←e];exact hOf.out
     ·have e:=HE2.out;rw[HNO.out]at e;rw[HORD.out,←e];exact hLf.out
  ·have hnil:ls=[]:=List.length_eq_zero_iff.1 (by omega);subst hnil;have HNO:Hid (zbu P n []=(([]:List Meth),[])):=Qaz (zf4 rfl);obtain⟨A9,c9,rfl,_,_⟩:=hL.out;have HL:=Qaz hL;have HOo:=Qaz hO;clear hL hO;go_wp2;rw[Exit.noGoto_ret];go_ret2;refine⟨_,_,rfl,?_,?_,hb⟩
   ·have e:=HE1.out;rw[HNO.out,List.append_nil]at e;rw[HORD.out,←e];exact HOo.out
   ·have e:=HE2.out;rw[HNO.out]at e;rw[HORD.out,←e];exact HL.out
end Go.Proofs.YtepnmejahbiacaaGreat
