/- Part 7 of the proof: Fi. -/
import Derived.Test.YtepnmejahbiacaaGreatM05
import Derived.Deep.RegionLaw
set_option linter.unusedVariables false
set_option linter.unusedSimpArgs false
set_option maxHeartbeats 64000000
set_option maxRecDepth 100000
namespace Go.Proofs.YtepnmejahbiacaaGreat
open Go.RowKit
abbrev zk2(m:Meth)(A1:Option Addr)(c1:Nat)(A2:Option Addr)(c2:Nat):Value:=.agg #[.int .i64 m.id,.string m.lib,.slice A1 m.pars.length c1,.int .i64 m.result.kind,.string m.result.name,.int .i64 m.result.lo,.int .i64 m.result.hi,.slice A2 m.result.args.length c2]
theorem metR.mk{G:Nat→Prop}{m:Meth}{w:World}{A1 A2:Option Addr}{c1 c2:Nat}(h1:m.pars.length≤c1)(h2:Held G (Pars A1 m.pars) w)(h3:m.result.args.length≤c2)(h4:Held G (Typs A2 m.result.args) w):
  Held G (metR m [.int .i64 m.id,.string m.lib,.slice A1 m.pars.length c1,.int .i64 m.result.kind,.string m.result.name,.int .i64 m.result.lo,.int .i64 m.result.hi,.slice A2 m.result.args.length c2]) w:=fun w' k=>
 ⟨A1,c1,_,rfl,rfl,h1,h2 w' k,typR.mk h3 h4 w' k⟩
theorem zqe(A:Option Addr)(c:Nat)(l:List Meth)(G:Nat→Prop)(w:World)(h:Held G (Meths A l) w)(hl:l.length≤1000000)(fid:Nat)(first cap:Array Value)(q:Meth→Bool)
  (hfn:∀args w,(callFunc fid args).run Tryz.prog w=.ok (.enter fid args) w)
  (ask:∀m∈l,∀A1 c1 A2 c2 wr,Below w.heap.size w wr→m.pars.length≤c1→Held (fun b=>G b∧b<w.heap.size) (Pars A1 m.pars) wr→Calls Tryz.prog fid (first.push (zk2 m A1 c1 A2 c2)++cap) wr fun e w'=>e=.returned (.bool (q m))∧Below wr.heap.size wr w'):
  Calls Tryz.prog 41 #[.slice A l.length c,.func (.func fid) first cap] w fun e w'=>∃v,e=.returned v∧Own metR 68 8 w.heap.size (fun b=>G b∧b<w.heap.size) v (l.filter q) w'∧Below w.heap.size w w':=by
 have H:=h.lt;have HA:=Qaz ask;clear ask h;go_enter Tryz.func41,Tryz.ntmps41;go_wp2
 go_loopw [5,10] (fun v i wr=>∃k:Nat,k≤l.length∧i=.int .i64 k∧Own metR 68 8 w.heap.size (fun b=>G b∧b<w.heap.size) v ((l.take k).filter q) wr∧Below w.heap.size w wr) (fun _ i _=>l.length-(intOf i).toNat)
 case atStart=>exact⟨0,Qjz _,rfl,Own.nil _ _ _ _ _ _,Below.refl _ _⟩
 case round=>
  obtain⟨k,hk,rfl,hown,hb⟩:=hrel;by_cases hlt:k<l.length
  ·obtain⟨b,off,rfl⟩:=Slc.addrH H (by omega);have hx:l[k]? =some l[k]:=Qbz hlt;generalize l[k]=x at hx;have HX:=Qaz hx;obtain⟨A1,c1,A2,c2,p1,p2,p3,p4,g0,g1,g2,g3,g4,g5,g6,g7⟩:=Meths.atH (H.keep (Keep.all hb)) hx;have HQ:=Qaz (fun V (hv:Below wr.heap.size wr V)=>HA.out x (Qdz hx) A1 c1 A2 c2 V (hb.trans (hv.mono hb.size)) p1 (p2.keep (Keep.all hv)));have HS:Hid ((l.take (k+1)).filter q=(l.take k).filter q++[x].filter q):=Qaz (by rw[take_snoc hx,List.filter_append]);clear hx;go_wp2_with (fail)
   obtain⟨W1,hW1⟩:∃W1,W1=wr.alloc (.cells #[.int .i64 x.id,.string x.lib,.slice A1 x.pars.length c1,.int .i64 x.result.kind,.string x.result.name,.int .i64 x.result.lo,.int .i64 x.result.hi,.slice A2 x.result.args.length c2] 68):=⟨_,rfl⟩;rw[←hW1];have b1:Below wr.heap.size wr W1:=by rw[hW1];exact(Below.refl _ wr).alloc (Qiz _) _
   have xm:∀j u,[Value.int .i64 x.id,.string x.lib,.slice A1 x.pars.length c1,.int .i64 x.result.kind,.string x.result.name,.int .i64 x.result.lo,.int .i64 x.result.hi,.slice A2 x.result.args.length c2][j]? =some u→W1.cell? ⟨wr.heap.size,j,none⟩=some u:=fun j u hj=>by rw[hW1];exact zac wr _ _ _ rfl j u hj
   clear hW1;refine(HQ.out W1 b1).mono ?_;rintro e V ⟨rfl,hbv⟩;have bV:Below wr.heap.size wr V:=b1.trans (hbv.mono b1.size);have bWV:=hb.trans (bV.mono hb.size);have m0:=zaa (xm 0 _ rfl) hbv;have m1:=zaa (xm 1 _ rfl) hbv;have m2:=zaa (xm 2 _ rfl) hbv;have m3:=zaa (xm 3 _ rfl) hbv;have m4:=zaa (xm 4 _ rfl) hbv;have m5:=zaa (xm 5 _ rfl) hbv;have m6:=zaa (xm 6 _ rfl) hbv;have m7:=zaa (xm 7 _ rfl) hbv;have hownV:=hown.all bV;cases hq:q x with
   |false=>
    have hsk:(l.take (k+1)).filter q=(l.take k).filter q:=by rw[HS.out];simp[hq]
    have HK:=Qaz hsk;clear hq hsk;go_wp2;exact⟨⟨k+1,by omega,by go_num,by rw[HK.out];exact hownV,bWV⟩,by simp[intOf];omega⟩
   |true=>
    have hsk:(l.take (k+1)).filter q=(l.take k).filter q++[x]:=by rw[HS.out];simp[hq]
    have HK:=Qaz hsk;clear hq hsk;have hfl:((l.take k).filter q).length≤k:=Nat.le_trans (List.length_filter_le _ _) (by rw[List.length_take];omega);go_wp2_with (at_builtin;refine Classical.byContradiction fun hneg=> ?_);apply hneg;have hbz:=bWV.size
    refine zao metR 68 8 w.heap.size 112 (fun b=>G b∧b<w.heap.size) _ rfl _ _ 23 _ rfl Tryz.underlying23 zse rfl (by decide) (by decide) _ ((l.take k).filter q) rfl (hownV.alloc _) ⟨V.heap.size,0,none⟩ 1 rfl x [.int .i64 x.id,.string x.lib,.slice A1 x.pars.length c1,.int .i64 x.result.kind,.string x.result.name,.int .i64 x.result.lo,.int .i64 x.result.hi,.slice A2 x.result.args.length c2] rfl ?cells ?one ((metR.mk p1 (p2.keep (Keep.all bV)) p3 (p4.keep (Keep.all bV))).keep (Keep.alloc _ _ _)) ?hG ?base ?len ?_
    case cells=>exact fun j u hu=>zaq V _ _ _ rfl j u hu
    case one=>intro u hu;simp at hu;rcases hu with rfl|rfl|rfl|rfl|rfl|rfl|rfl|rfl<;>rfl
    case hG=>exact fun b hb e=>by have:=(hown.lt _ e).1;have:=hb.2;omega
    case base=>simp;omega
    case len=>omega
    intro v' w1 hown1 hg1 _;go_wp2;exact⟨⟨k+1,by omega,by go_num,by rw[HK.out];exact hown1,(bWV.alloc bWV.size _).grown hg1 (by simp;omega) fun k' e=>(hown.lt _ e).1⟩,by simp[intOf];omega⟩
  ·go_wp2;have hkl:k=l.length:=by omega
   go_ret;rw[hkl,List.take_length]at hown;exact⟨_,rfl,hown,hb⟩
theorem zcf(g:Nat)(e:TypeId):∀(vs:List Value)(o:Nat)(w:World)(cur:Array Value)(q:Nat×Nat),w.heap[g]? =some (.cells cur e q)→o+vs.length≤cur.size→
  ∃cur',(w.setCells g o vs).heap[g]? =some (.cells cur' e q)∧cur'.toList=cur.toList.take o++vs++cur.toList.drop (o+vs.length)
 | [],o,w,cur,q,h,_=>⟨cur,h,by simp⟩
 |v::r,o,w,cur,q,h,hl=>by
  rw[World.setCells];simp only[List.length_cons]at hl;have h1:(w.setCell ⟨g,o,none⟩ v).heap[g]? =some (.cells (cur.setIfInBounds o v) e q):=by
   simp only[World.setCell];rw[Array.getElem?_modify,if_pos rfl,h];rfl
  obtain⟨cur',h2,h3⟩:=zcf g e r (o+1) _ _ q h1 (by simp;omega);refine⟨cur',h2,?_⟩;rw[h3,Array.toList_setIfInBounds];have hs:cur.toList.length=cur.size:=by simp
  have e1:(cur.toList.set o v).take (o+1)=cur.toList.take o++[v]:=by
   rw[List.take_add_one,List.getElem?_set_self (by omega),List.take_set,List.set_eq_of_length_le (by simp;omega)];rfl
  have e2:(cur.toList.set o v).drop (o+1+r.length)=cur.toList.drop (o+(v::r).length):=by
   rw[List.drop_set_of_lt (by omega),List.length_cons];congr 1;omega
  rw[e1,e2];simp
theorem Chg.setCells{S:Nat→Prop}(g:Nat)(hg:S g):∀(vs:List Value)(o:Nat)(w:World),Chg S w (w.setCells g o vs)
 | [],_,_=>Chg.refl _ _
 |v::r,o,w=>by
  rw[World.setCells];exact(Chg.setCell w (p:=⟨g,o,none⟩) hg v).trans (Chg.setCells g hg r (o+1) _)
theorem zox{P:Program}(w:World)(t e ty:TypeId)(z:Value)(ht:P.underlying t=some (.slice e))(hv:∀w,(zeroValue e).run P w=.ok z w)(h1:∀v∈z.cells.toList,v.oneCell'=true)(b o c:Nat)
  (hc:∀j,j<z.cells.size→(w.cell? ⟨b,o+j,none⟩).isSome=true) (hf:∀j,j<z.cells.size→w.frozen? ⟨b,o+j,none⟩=false):
  (Builtin.clear_ #[t] ty #[.slice (some ⟨b,o,none⟩) 1 c]).run P w=.ok (.tuple #[]) (w.setCells b o z.cells.toList):=by
 have hzc:(Builtin.zeroCells z.cells 1).toList=z.cells.toList:=by
  simp[Builtin.zeroCells];apply List.ext_getElem
  ·simp
  ·intro i h1 h2;simp at h1 h2;simp[Nat.mod_eq_of_lt h2,getElem!_pos z.cells i h1]
 have hst:=run_storeCells_cells (P:=P) b o z.cells.toList 0 w (by simpa using hc) (by simpa using hf) h1;simp only[Nat.add_zero]at hst;simp[Builtin.clear_,run_underlying ht,hv,hzc,hst]
theorem Enc.erase{α:Type}{R:α→List Value→Prop}{sz:Nat}{l:List α}{xs:List Value}(h:Enc R sz l xs):∀i,i<l.length→Enc R sz (l.eraseIdx i) (xs.take (i*sz)++xs.drop ((i+1)*sz)):=by
 induction h with
 |nil=>intro i hi;simp at hi
 | @snoc l xs y cs h hy hl ih=>
  intro i hi;have hxs:=h.length;rcases Nat.lt_or_ge i l.length with q|q
  ·rw[List.eraseIdx_append_of_lt_length q];have e1:(i+1)*sz≤xs.length:=by rw[hxs];exact Nat.mul_le_mul_right _ q
   have e2:i*sz≤xs.length:=Nat.le_trans (Nat.mul_le_mul_right _ (Nat.le_succ i)) e1;rw[List.take_append_of_le_length e2,List.drop_append_of_le_length e1,←List.append_assoc];exact .snoc (ih i q) hy hl
  ·obtain rfl:i=l.length:=by simp at hi;omega
   rw[List.eraseIdx_append_of_length_le (Qiz _),Nat.sub_self,←hxs,List.take_append_of_le_length (Qiz _),List.take_length];have:(l.length+1)*sz=xs.length+cs.length:=by rw[Nat.add_mul,Nat.one_mul,hxs,hl]
   rw[this,List.drop_eq_nil_of_le (by simp)]
   simpa using h
def zjq:Value:=.agg #[.int .i64 0,.string ⟨#[]⟩,.slice none 0 0,.int .i64 0,.string ⟨#[]⟩,.int .i64 0,.int .i64 0,.slice none 0 0]
theorem zx7(w:World):(zeroValue 68).run Tryz.prog w=.ok zjq w:=by kernel_rfl
theorem zzf{α:Type}{cur cur1 cur2 news zc:List α}{i n:Nat}(h1:cur1=cur.take (i*8)++news++cur.drop (i*8+news.length))(h2:cur2=cur1.take (n*8)++zc++cur1.drop (n*8+zc.length))(hn:news.length=(n-i)*8)(hin:i≤n)(hc:(n+1)*8≤cur.length):
  cur2.take (n*8)=cur.take (i*8)++news:=by
 have e0:(cur.take (i*8)).length=i*8:=by rw[List.length_take];omega
 have e1:(cur.take (i*8)++news).length=n*8:=by rw[List.length_append,e0,hn];omega
 have e2:cur1.take (n*8)=cur.take (i*8)++news:=by rw[h1];exact List.take_left' e1
 rw[h2,e2,List.append_assoc];exact List.take_left' e1
theorem zre(g c:Nat)(l:List Meth)(i:Nat)(hi:i<l.length)(hl6:l.length≤1000000)(base:Nat)(G:Nat→Prop)(hG:∀b,G b→b≠g)(w:World)(h:Own metR 68 8 base G (.slice (some ⟨g,0,none⟩) l.length c) l w):
  Calls Tryz.prog 98 #[.slice (some ⟨g,0,none⟩) l.length c,.int .i64 i,.int .i64 ((i:Int)+1)] w fun e w'=>∃n,n=l.length-1∧e=.returned (.slice (some ⟨g,0,none⟩) n c)∧
   Own metR 68 8 base G (.slice (some ⟨g,0,none⟩) n c) (l.eraseIdx i) w'∧Chg (· =g) w w':=by
 obtain⟨xs,⟨hl,h2⟩,he⟩:=h;obtain⟨cur,hgb,hh,hn,hm,hs,ht⟩:∃cur,base≤g∧w.heap[g]? =some (.cells cur 68 (0,0))∧l.length≤c∧c≤maxLen∧cur.size=c*8∧cur.toList.take (l.length*8)=xs:=by
  rcases h2 with⟨e,_⟩|⟨g',cap,cur,e,h3,h4,h5,h6,h7,h8⟩
  ·cases e
  ·simp only[Value.slice.injEq,Option.some.injEq,Addr.mk.injEq,and_true]at e;obtain⟨rfl,_,rfl⟩:=e;exact⟨cur,h3,h4,h5,h6,h7,h8⟩
 have hm':c≤9223372036854775807:=by simp only[maxLen]at hm;omega
 obtain⟨i0,hi0,hzz⟩:=Option.map_eq_some_iff.1 zse;simp only[Prod.mk.injEq]at hzz;obtain⟨hz0,hz1,hz2⟩:=hzz;obtain⟨n,hnl⟩:∃n,l.length=n+1:=⟨l.length-1,by omega⟩;obtain⟨news,hnews⟩:∃news,news=xs.drop ((i+1)*8):=⟨_,rfl⟩;have hlen:news.length=(n-i)*8:=by rw[hnews,List.length_drop,hl,hnl];omega
 have hxs:∀j u,xs[j]? =some u→w.cell? ⟨g,j,none⟩=some u:=fun j u hj=>by
  rw[←ht,List.getElem?_take]at hj
  split at hj
  ·simp only[World.cell?,hh];simpa using hj
  ·cases hj
 have hone:∀u∈xs,u.oneCell'=true:=by
  intro u hu;obtain⟨j,hj⟩:=Qez hu;have:∀{l':List Meth}{ys:List Value},Enc (fun x cs=>Held G (metR x cs) w) 8 l' ys→∀u∈ys,u.oneCell'=true:=by
   intro l' ys he
   induction he with
   |nil=>intro u hu;cases hu
   |snoc _ hx _ ih=>
    intro u hu;rcases List.mem_append.1 hu with hu|hu
    ·exact ih u hu
    ·exact zue _ _ _ hx.now u hu
  exact this he u hu
 have hcell:∀j,j<l.length*8→(w.cell? ⟨g,j,none⟩).isSome=true∧w.frozen? ⟨g,j,none⟩=false:=fun j hj=>by
  have:j<xs.length:=by omega
  exact⟨by rw[hxs j _ (Qbz this)];rfl,by simp[World.frozen?,hh]⟩
 obtain⟨A,hA,hsrc⟩:∃A:Addr,(if c=i+1 then some (⟨g,0,none⟩:Addr)else some ⟨g,(i+1)*8,none⟩)=some A∧Hid (∀t u,news[t]? =some u→w.drew.cell? (A.add t)=some u):=by
  by_cases hc:c=i+1
  ·refine⟨⟨g,0,none⟩,by simp[hc],fun t u hu=> ?_⟩;have h0:news.length=0:=by rw[hlen];omega
   rw[List.length_eq_zero_iff.1 h0]at hu;simp at hu
  ·refine⟨⟨g,(i+1)*8,none⟩,by simp[hc],fun t u hu=> ?_⟩;rw[hnews,List.getElem?_drop]at hu;rw[Addr.add_lit];exact hxs _ u hu
 have s1:Hid (news.length=(n-i)*8):=Qaz hlen;have s2:Hid (∀u∈news,u.oneCell'=true):=fun u hu=>hone u (by rw[hnews]at hu;exact List.mem_of_mem_drop hu);have s3:Hid (∀t,t<news.length→(w.drew.cell? ⟨g,0+i*8+t,none⟩).isSome=true∧w.drew.frozen? ⟨g,0+i*8+t,none⟩=false):=fun t ht'=>hcell _ (by rw[hlen]at ht';omega);obtain⟨W1,hW1⟩:∃W1,W1=w.drew.setCells g (0+i*8) news:=⟨_,rfl⟩;obtain⟨cur1,hh1,ht1⟩:=zcf g 68 news (0+i*8) w.drew cur (0,0) hh (by rw[hlen,hs];omega);rw[←hW1]at hh1;have hcs:cur1.size=c*8:=by
  have:=congrArg List.length ht1;simp at this;rw[hlen]at this;omega
 have hc1:∀j,j<c*8→(W1.cell? ⟨g,j,none⟩).isSome=true∧W1.frozen? ⟨g,j,none⟩=false:=fun j hj=>by
  refine⟨?_,by simp[World.frozen?,hh1]⟩;simp only[World.cell?,hh1];rw[Array.getElem?_eq_getElem (by omega)];rfl
 have hcl:∀ty,(Builtin.clear_ #[23] ty #[.slice (some ⟨g,n*8,none⟩) 1 (c-n)]).run Tryz.prog W1=.ok (.tuple #[]) (W1.setCells g (n*8) zjq.cells.toList):=fun ty=>
  zox W1 _ _ ty zjq Tryz.underlying23 zx7 (by intro v hv;simp[zjq,Value.cells]at hv;rcases hv with rfl|rfl|rfl|rfl|rfl|rfl|rfl|rfl<;>rfl) g (n*8) (c-n)
   (fun j hj=>(hc1 _ (by simp[zjq,Value.cells]at hj;omega)).1) (fun j hj=>(hc1 _ (by simp[zjq,Value.cells]at hj;omega)).2)
 obtain⟨cur2,hh2,ht2⟩:=zcf g 68 zjq.cells.toList (n*8) W1 cur1 (0,0) hh1 (by rw[hcs];simp[zjq,Value.cells];omega);have hz8:zjq.cells.toList.length=8:=rfl;have hfin:Hid (Own metR 68 8 base G (.slice (some ⟨g,0,none⟩) n c) (l.eraseIdx i) (W1.setCells g (n*8) zjq.cells.toList)∧Chg (· =g) w (W1.setCells g (n*8) zjq.cells.toList)):=Qaz (by
  have ch:Chg (· =g) w (W1.setCells g (n*8) zjq.cells.toList):=by
   rw[hW1];exact((Chg.drew w).trans (Chg.setCells (S:=(· =g)) g rfl _ _ _)).trans (Chg.setCells (S:=(· =g)) g rfl _ _ _)
  refine⟨⟨xs.take (i*8)++xs.drop ((i+1)*8),⟨?_,.inr ⟨g,c,cur2,?_,hgb,hh2,?_,hm,?_,?_⟩⟩,?_⟩,ch⟩
  ·rw[List.length_append,List.length_take,List.length_drop,List.length_eraseIdx_of_lt hi,hl,hnl];omega
  ·rw[List.length_eraseIdx_of_lt hi,hnl];rfl
  ·rw[List.length_eraseIdx_of_lt hi];omega
  ·have e:=congrArg List.length ht2;rw[List.length_append,List.length_append,List.length_take,List.length_drop,Array.length_toList,Array.length_toList,hz8,hcs]at e;omega
  ·have e:(l.eraseIdx i).length=n:=by rw[List.length_eraseIdx_of_lt hi,hnl];rfl
   have e5:cur2.toList.take (n*8)=cur.toList.take (i*8)++news:=zzf (by rw[Nat.zero_add]at ht1;exact ht1) ht2 hlen (by omega) (by rw[Array.length_toList,hs];omega);have e6:cur.toList.take (i*8)=xs.take (i*8):=by rw[←ht,List.take_take,Nat.min_eq_left (by omega)]
   rw[e,e5,e6,hnews]
  ·exact(he.erase i hi).imp fun _ _ hq=>hq.keep (ch.keep hG))
 have hW:Hid (W1=w.drew.setCells g (0+i*8) news):=hW1;have hic:i≤c:=by omega
 have hjc:i+1≤c:=by omega
 have hnl':l.length-1=n:=by omega
 have hin:i≤n:=by omega
 have hin2:(i:Int)≤(n:Int):=by omega
 have hin3:(0:Int)≤(i:Int)+1:=by omega
 have hnc:n+1≤c:=by omega
 have t1:((i:Int)==(i:Int)+1)=false:=Qfz (by omega);rw[hnl];have HNL:=Qaz hnl;clear hnl hnl';clear hW1 hh hh1 hh2 ht ht1 ht2 hs hcs hc1 hcell hnews hlen he h2 hxs hone;have hcn:¬c=n:=by omega
 generalize zjq.cells.toList=zc at hcl hfin;clear hz8 hl hgb hG;go_enter Tryz.func98,Tryz.ntmps98;go_wp2_with (fail)
 go_region_law (refine step_append_room rfl (.tmp 22) (.tmp 25) 23 rfl 68 i0 8 Tryz.underlying23 hi0 hz1 g 0 i c (by simp[Act.eval,Act.put]) A (n-i) (c-(i+1)) news (by simp[Act.eval,Act.put]) s1.out hsrc.out s2.out (by omega) s3.out ?_;rw[←hW.out])
 clear hsrc s1 s2 s3 hA;go_wp2_with (fail);go_ret;exact⟨n,by omega,rfl,hfin.out⟩
end Go.Proofs.YtepnmejahbiacaaGreat
