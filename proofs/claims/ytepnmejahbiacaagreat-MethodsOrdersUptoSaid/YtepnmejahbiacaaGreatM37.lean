/- Part 37 of the proof: Cp, Te, Tr, Cw. -/
import Derived.Test.YtepnmejahbiacaaGreatM36
set_option linter.unusedVariables false
set_option linter.unusedSimpArgs false
set_option maxHeartbeats 64000000
set_option maxRecDepth 100000
namespace Go.Proofs.YtepnmejahbiacaaGreat
open Go.RowKit
section
open Go.Deep
attribute [local go_sem ↓] Go.wp_at_zero Go.wp_at_succ
theorem zwu{a b:Ty}(ha:a.args=[])(hb:b.args=[]):eqL a b=true↔a=b:=by
 obtain⟨k,n,lo,hi,args⟩:=a;obtain⟨k',n',lo',hi',args'⟩:=b;have ha:args=[]:=ha;have hb:args'=[]:=hb;subst ha hb;unfold eqL;simp only[Bool.and_eq_true,Ty.kind,Ty.name,Ty.lo,Ty.hi];constructor
 ·rintro⟨h1,h2,h3,h4⟩;obtain rfl:k=k':=of_decide_eq_true h1;obtain rfl:n=n':=of_decide_eq_true h2;obtain rfl:lo=lo':=of_decide_eq_true h3;obtain rfl:hi=hi':=of_decide_eq_true h4
  rfl
 ·intro h;cases h;exact⟨Qhz rfl,Qhz rfl,Qhz rfl,Qhz rfl⟩
theorem size_zeroCells(z:Array Value)(m:Nat):(Builtin.zeroCells z m).size=m*z.size:=by simp[Builtin.zeroCells]
theorem zsu{P:Program}(w:World)(t e ty:TypeId)(z:Value)(m:Nat)(hm:0<m)(ht:P.underlying t=some (.slice e))(hv:∀w,(zeroValue e).run P w=.ok z w)(h1:∀v∈(Builtin.zeroCells z.cells m).toList,v.oneCell'=true)(b o c:Nat)
  (hc:∀j,j<m*z.cells.size→(w.cell? ⟨b,o+j,none⟩).isSome=true) (hf:∀j,j<m*z.cells.size→w.frozen? ⟨b,o+j,none⟩=false):
  (Builtin.clear_ #[t] ty #[.slice (some ⟨b,o,none⟩) m c]).run P w=.ok (.tuple #[]) (w.setCells b o (Builtin.zeroCells z.cells m).toList):=by
 have hl:(Builtin.zeroCells z.cells m).toList.length=m*z.cells.size:=by rw[Array.length_toList,size_zeroCells]
 have hst:=run_storeCells_cells (P:=P) b o (Builtin.zeroCells z.cells m).toList 0 w (fun j hj=>by have:=hc j (by rw[←hl];exact hj);simpa using this) (fun j hj=>by have q:=hf j (by rw[←hl];exact hj);first|exact q|(rw[Nat.add_zero];exact q)) h1;simp only[Nat.add_zero]at hst;obtain⟨m,rfl⟩:∃k,m=k+1:=⟨m-1,by omega⟩;simp[Builtin.clear_,run_underlying ht,hv,hst]
theorem zy2(w:World):(zeroValue 36).run Tryz.prog w=.ok (.agg #[.int .i64 0,.string ⟨#[]⟩,.int .i64 0,.int .i64 0,.slice none 0 0]) w:=by kernel_rfl
theorem Enc.take'{α:Type}{R:α→List Value→Prop}{sz:Nat}{l:List α}{xs:List Value}(h:Enc R sz l xs):∀k,k≤l.length→Enc R sz (l.take k) (xs.take (k*sz)):=by
 induction h with
 |nil=>intro k hk;simp;exact .nil
 | @snoc l xs x cs h hx hl ih=>
  intro k hk;have hlx:=h.length;by_cases q:k≤l.length
  ·rw[List.take_append_of_le_length q,List.take_append_of_le_length (by rw[hlx];exact Nat.mul_le_mul_right _ q)];exact ih k q
  ·have e:k=(l++[x]).length:=by simp at hk ⊢;omega
   have e2:k*sz=(xs++cs).length:=by rw[e,List.length_append,List.length_append,hlx,hl,List.length_singleton,Nat.add_mul,Nat.one_mul]
   rw[e2,List.take_length,e,List.take_length];exact .snoc h hx hl
theorem Own.cut{T base:Nat}{g n c:Nat}{L:List Ty}{w:World}(h:Own typR T 5 base (fun _=>False) (.slice (some ⟨g,0,none⟩) n c) L w)(k:Nat)(hk:k≤L.length)(vs:List Value)(hv:k*5+vs.length≤c*5):
  Own typR T 5 base (fun _=>False) (.slice (some ⟨g,0,none⟩) k c) (L.take k) (w.setCells g (k*5) vs):=by
 obtain⟨xs,⟨hl,h2⟩,he⟩:=h;rcases h2 with⟨hv,_⟩|⟨g',cap,cur,hv',hg,hh,hn,hm,hs,ht⟩
 ·cases hv
 ·simp only[Value.slice.injEq,Option.some.injEq,Addr.mk.injEq,and_true]at hv';obtain⟨rfl,rfl,rfl⟩:=hv';obtain⟨cur',h3,h4⟩:=zcf g T vs (k*5) w cur (0,0) hh (by omega);have hlk:(L.take k).length=k:=by rw[List.length_take];omega
  have hx:xs.take (k*5)=cur.toList.take (k*5):=by rw[←ht,List.take_take,Nat.min_eq_left (Nat.mul_le_mul_right _ hk)]
  refine⟨xs.take (k*5),⟨by rw[List.length_take,hlk,hl];have:=Nat.mul_le_mul_right 5 hk;omega,.inr ⟨g,c,cur',by rw[hlk],hg,h3,by rw[hlk];omega,hm,?_,?_⟩⟩,?_⟩
  ·have e:=congrArg List.length h4;rw[List.length_append,List.length_append,List.length_take,List.length_drop,Array.length_toList,Array.length_toList]at e;omega
  ·rw[hlk,h4,hx,List.append_assoc];exact List.take_left' (by rw[List.length_take,Array.length_toList];omega)
  ·have hk2:Keep (fun _:Nat=>False) w (w.setCells g (k*5) vs):=(Chg.setCells (S:=fun b=>b=g) g rfl vs (k*5) w).keep fun b hb=>hb.elim;exact(he.take' k hk).imp fun _ _ hq=>hq.keep hk2
theorem OwnT.setAll{T base:Nat}{g n c:Nat}{L:List Ty}{w:World}(h:Own typR T 5 base (fun _=>False) (.slice (some ⟨g,0,none⟩) n c) L w){i:Nat}{x y:Ty}(hx:L[i]? =some x)(ha:x.args=[])(hb:y.args=[])(A:Option Addr)(c5:Nat):
  Own typR T 5 base (fun _=>False) (.slice (some ⟨g,0,none⟩) n c) (L.set i y) (((((w.setCell ⟨g,i*5,none⟩ (.int .i64 y.kind)).setCell ⟨g,i*5+1,none⟩ (.string y.name)).setCell ⟨g,i*5+2,none⟩ (.int .i64 y.lo)).setCell ⟨g,i*5+3,none⟩ (.int .i64 y.hi)).setCell ⟨g,i*5+4,none⟩ (.slice A 0 c5)):=by
 obtain⟨k,s,lo,hi,args⟩:=x;obtain⟨k',s',lo',hi',args'⟩:=y;have ha:args=[]:=ha;have hb:args'=[]:=hb;subst ha hb;have hil:i<L.length:=(Qcz hx).1;have st:∀{L:List Ty}{w:World}(h:Own typR T 5 base (fun _=>False) (.slice (some ⟨g,0,none⟩) n c) L w){x:Ty}(hx:L[i]? =some x)(ha:x.args=[])(j:Nat)(hj:j<5)(u:Value)(x':Ty)(hR:∀A c,Held (fun _=>False) (typR x' ([.int .i64 x.kind,.string x.name,.int .i64 x.lo,.int .i64 x.hi,.slice A 0 c].set j u)) w),Own typR T 5 base (fun _=>False) (.slice (some ⟨g,0,none⟩) n c) (L.set i x') (w.setCell ⟨g,i*5+j,none⟩ u):=fun h x hx ha j hj u x' hR=>
  h.store rfl hx hj (fun b hb=>hb.elim) fun cs _ hr=>by
   obtain⟨A,c,rfl,_⟩:=typR.openH hr;rw[ha];exact hR A c
 have h0:=st h hx rfl 0 (by decide) (.int .i64 k') (.mk k' s lo hi []) fun A c=>zb1 k' s lo hi A c;have h1:=st h0 (List.getElem?_set_self hil) rfl 1 (by decide) (.string s') (.mk k' s' lo hi []) fun A c=>zb1 k' s' lo hi A c;rw[List.set_set]at h1;have h2:=st h1 (List.getElem?_set_self hil) rfl 2 (by decide) (.int .i64 lo') (.mk k' s' lo' hi []) fun A c=>zb1 k' s' lo' hi A c;rw[List.set_set]at h2;have h3:=st h2 (List.getElem?_set_self hil) rfl 3 (by decide) (.int .i64 hi') (.mk k' s' lo' hi' []) fun A c=>zb1 k' s' lo' hi' A c;rw[List.set_set]at h3
 have h4:=st h3 (List.getElem?_set_self hil) rfl 4 (by decide) (.slice A 0 c5) (.mk k' s' lo' hi' []) fun _ _=>zb1 k' s' lo' hi' A c5;rw[List.set_set]at h4;exact h4
theorem OwnT.at5{T base:Nat}{G:Nat→Prop}{L:List Ty}{w:World}{g c n:Nat}(h:Own typR T 5 base G (.slice (some ⟨g,0,none⟩) n c) L w){i:Nat}{x:Ty}(hx:L[i]? =some x)(ha:x.args=[]):
  ∃A c,(w.cell? ⟨g,i*5,none⟩=some (.int .i64 x.kind)∧w.frozen? ⟨g,i*5,none⟩=false)∧(w.cell? ⟨g,i*5+1,none⟩=some (.string x.name)∧w.frozen? ⟨g,i*5+1,none⟩=false)∧(w.cell? ⟨g,i*5+2,none⟩=some (.int .i64 x.lo)∧w.frozen? ⟨g,i*5+2,none⟩=false)∧
   (w.cell? ⟨g,i*5+3,none⟩=some (.int .i64 x.hi)∧w.frozen? ⟨g,i*5+3,none⟩=false)∧(w.cell? ⟨g,i*5+4,none⟩=some (.slice A 0 c)∧w.frozen? ⟨g,i*5+4,none⟩=false):=by
 obtain⟨cs,_,hr,hc⟩:=h.get hx;obtain⟨A,c5,rfl,h1,h2⟩:=typR.openH hr;rw[ha]at hc;exact⟨A,c5,hc 0 _ rfl,hc 1 _ rfl,hc 2 _ rfl,hc 3 _ rfl,hc 4 _ rfl⟩
def Cpt(T base g c:Nat)(L:List Ty)(k:Nat)(w:World)(k' k2:Nat)(N:List Ty)(wr:World):Prop:=
 k≤k'∧k'+1≤k+k2∧1≤k2∧k+k2≤L.length∧Own typR T 5 base (fun _=>False) (.slice (some ⟨g,0,none⟩) L.length c) N wr∧N.length=L.length∧(∀t∈N,t.args=[])∧N.drop (k+k2-1)=L.drop (k+k2-1)∧(∀t,t∈N.take k'↔t∈L.take (k+k2))∧Chg (fun b=>b=g) w wr
theorem Cpt.start{T base g c:Nat}{L:List Ty}{k m:Nat}{x:Ty}{w wr:World}(h:Own typR T 5 base (fun _=>False) (.slice (some ⟨g,0,none⟩) L.length c) L wr)(hb:Below w.heap.size w wr)(hl:∀t∈L,t.args=[])(h1:L[k]? =some x)(h2:L[m]? =some x)(h3:k=m+1):Cpt T base g c L k w k 1 L wr:=by
 have hk:=(Qcz h1).1;refine⟨Qiz _,Qiz _,Qiz _,hk,h,rfl,hl,rfl,fun t=> ?_,Chg.of hb⟩;rw[take_snoc h1];constructor
 ·intro q;exact List.mem_append.2 (.inl q)
 ·intro q;rcases List.mem_append.1 q with q|q
  ·exact q
  ·simp only[List.mem_singleton]at q;subst q;exact Qdz (i:=m) (by rw[List.getElem?_take,if_pos (by omega)];exact h2)
theorem Cpt.get{T base g c:Nat}{L:List Ty}{k k' k2 m2:Nat}{N:List Ty}{w wr:World}(h:Cpt T base g c L k w k' k2 N wr)(hm:k2=m2+1):N[k+k2]? =L[k+k2]? ∧N[k+m2]? =L[k+m2]? :=by
 obtain⟨_,_,_,_,_,_,_,hd,_⟩:=h;have e:k+k2-1=k+m2:=by omega
 rw[e]at hd;have h0:=congrArg (fun l=>l[0]?) hd;have h1:=congrArg (fun l=>l[1]?) hd;simp only[List.getElem?_drop]at h0 h1;exact⟨by rw[hm,←Nat.add_assoc];exact h1,h0⟩
theorem Cpt.same{T base g c:Nat}{L:List Ty}{k k' k2 m2:Nat}{N:List Ty}{x:Ty}{w wr V:World}(h:Cpt T base g c L k w k' k2 N wr)(hm:k2=m2+1)(h1:L[k+k2]? =some x)(h2:L[k+m2]? =some x)(hb:Below wr.heap.size wr V):Cpt T base g c L k w k' (k2+1) N V:=by
 obtain⟨a1,a2,a3,a4,a5,a6,a7,a8,a9,a10⟩:=h;have hk:=(Qcz h1).1;refine⟨a1,by omega,by omega,by omega,a5.all hb,a6,a7,?_,fun t=> ?_,a10.trans (Chg.of hb)⟩
 ·have:=congrArg (List.drop 1) a8;rw[List.drop_drop,List.drop_drop]at this;rw[show k+(k2+1)-1=k+k2-1+1 by omega];exact this
 ·rw[a9,←Nat.add_assoc,take_snoc h1];constructor
  ·intro q;exact List.mem_append.2 (.inl q)
  ·intro q;rcases List.mem_append.1 q with q|q
   ·exact q
   ·simp only[List.mem_singleton]at q;subst q;exact Qdz (i:=k+m2) (by rw[List.getElem?_take,if_pos (by omega)];exact h2)
theorem Cpt.other{T base g c:Nat}{L:List Ty}{k k' k2:Nat}{N:List Ty}{x z:Ty}{w wr V:World}(h:Cpt T base g c L k w k' k2 N wr)(h1:L[k+k2]? =some x)(hx:x.args=[])(hz:N[k']? =some z)(hb:Below wr.heap.size wr V)(A:Option Addr)(c5:Nat):
  Cpt T base g c L k w (k'+1) (k2+1) (N.set k' x) (((((V.setCell ⟨g,k'*5,none⟩ (.int .i64 x.kind)).setCell ⟨g,k'*5+1,none⟩ (.string x.name)).setCell ⟨g,k'*5+2,none⟩ (.int .i64 x.lo)).setCell ⟨g,k'*5+3,none⟩ (.int .i64 x.hi)).setCell ⟨g,k'*5+4,none⟩ (.slice A 0 c5)):=by
 obtain⟨a1,a2,a3,a4,a5,a6,a7,a8,a9,a10⟩:=h;have hk:=(Qcz h1).1;have hk':k'<N.length:=(Qcz hz).1;refine⟨by omega,by omega,by omega,by omega,OwnT.setAll (a5.all hb) hz (a7 z (Qdz hz)) hx A c5,by rw[List.length_set];exact a6,fun t ht=> ?_,?_,fun t=> ?_,?_⟩
 ·rcases List.mem_or_eq_of_mem_set ht with q|q
  ·exact a7 t q
  ·rw[q];exact hx
 ·rw[List.drop_set_of_lt (by omega)];have:=congrArg (List.drop 1) a8;rw[List.drop_drop,List.drop_drop]at this;rw[show k+(k2+1)-1=k+k2-1+1 by omega];exact this
 ·have e1:(N.set k' x).take (k'+1)=N.take k'++[x]:=by
   rw[List.take_add_one,List.getElem?_set_self hk',List.take_set,List.set_eq_of_length_le (by rw[List.length_take];omega)];rfl
  rw[e1,←Nat.add_assoc,take_snoc h1,List.mem_append,List.mem_append,a9]
 ·refine(a10.trans (Chg.of hb)).trans ?_;exact Chg.setCells (S:=fun b=>b=g) g rfl [.int .i64 x.kind,.string x.name,.int .i64 x.lo,.int .i64 x.hi,.slice A 0 c5] (k'*5) V
theorem zpd{base:Nat}(v:Value)(L:List Ty)(w:World)(h:Own typR 36 5 base (fun _=>False) v L w)(hl:∀t∈L,t.args=[])(hlen:L.length≤1000000):
  Calls Tryz.prog 187 #[v,.func (.func 142) #[] #[]] w fun e w'=>∃v' L',e=.returned v'∧((∀x,x∈L'↔x∈L)∧L'.length≤L.length)∧Own typR 36 5 base (fun _=>False) v' L' w'∧Chg (fun b=>v.ownBlock=some b) w w':=by
 by_cases h2:L.length<2
 ·obtain⟨A,c,rfl⟩:=h.anyForm;have HF:Hid (∃v' L',Value.slice A L.length c=v'∧((∀x,x∈L'↔x∈L)∧L'.length≤L.length)∧Own typR 36 5 base (fun _=>False) v' L' w∧Chg (fun b=>(Value.slice A L.length c).ownBlock=some b) w w):=Qaz ⟨_,L,rfl,⟨fun x=>Iff.rfl,Qiz _⟩,h,Chg.refl _ _⟩;have t1:decide ((L.length:Int)<2)=true:=Qhz (by omega);clear h hl hlen h2;go_enter Tryz.func187,Tryz.ntmps187;go_wp2;go_ret;obtain⟨v',L',rfl,q⟩:=HF.out;exact⟨_,L',rfl,q⟩
 ·obtain⟨g,c,rfl,hg,hgl⟩:=h.form (by omega);have t1:decide ((L.length:Int)<2)=false:=Qgz (by omega);have hcc:L.length≤c:=by
   obtain⟨xs,⟨_,q⟩,_⟩:=h;rcases q with⟨e,_⟩|⟨g',cap,cur,e,_,_,q,_⟩
   ·cases e
   ·simp only[Value.slice.injEq]at e;omega
  have HL:=Qaz hl;have HO:=Qaz h;have HLN:=Qaz h2;have hg2:g<w.heap.size:=hgl;have hck2:L.length≤9223372036854775807:=by omega
  clear h hl h2;go_enter Tryz.func187,Tryz.ntmps187;go_wp2_with (fail)
  go_loopw [5] (fun i wr=>∃k:Nat,1≤k∧k≤L.length∧i=.int .i64 k∧Own typR 36 5 base (fun _=>False) (.slice (some ⟨g,0,none⟩) L.length c) L wr∧Below w.heap.size w wr) (fun i _=>L.length-(intOf i).toNat)
  case atStart=>exact⟨1,Qiz _,by have:=HLN.out;omega,rfl,HO.out,Below.refl _ _⟩
  case round=>
   obtain⟨k,hk1,hk,rfl,hown,hb⟩:=hrel;by_cases hlt:k<L.length
   ·obtain⟨m,hm⟩:∃m,k=m+1:=⟨k-1,by omega⟩;have hx:L[k]? =some L[k]:=Qbz hlt;have hy:L[m]? =some L[m]:=Qbz (by omega);generalize L[k]=x at hx;generalize L[m]=y at hy;have hxa:=HL.out x (Qdz hx);have hya:=HL.out y (Qdz hy);obtain⟨A5,c5,_,x0,x1,x2,x3,x4,_⟩:=OwnT.at hown hx;obtain⟨A6,c6,_,y0,y1,y2,y3,y4,_⟩:=OwnT.at hown hy;rw[hxa]at x4;rw[hya]at y4;simp only[List.length_nil]at x4 y4;have wn1:IntKind.i64.wrap ((k:Int)-1)=(m:Int):=by rw[IntKind.wrap_i64];omega
    have wn0:(0:Int)≤(m:Int):=by omega
    have wm1:(m:Int)<(L.length:Int):=by omega
    have HE:=Qaz (fun W=>ze3 x y A5 A6 c5 c6 W);have hgw:g<wr.heap.size:=Nat.lt_of_lt_of_le hg2 hb.size;have HEQ:Hid (eqL x y=true→x=y):=Qaz (zwu hxa hya).1;cases hq:eqL x y with
    |false=>
     rw[hq]at HE;clear hx hy hxa hya hm hq;go_wp2_with (fail)
     go_region_with (go_at_call 142;refine(HE.out _).mono ?_;rintro e V ⟨rfl,hbv⟩)
     all_goals
      have hbV:Below wr.heap.size wr V:=zae (Below.refl _ wr).drew hbv;have hownV:=hown.all hbV;have hbV2:=zae hb hbV;clear hown x0 x1 x2 x3 x4 y0 y1 y2 y3 y4;go_wp2;go_roundw
      case rel=>exact⟨k+1,by omega,by omega,by go_num,hownV,hbV2⟩
      case measure=>simp[intOf];omega
    |true=>
     obtain rfl:=HEQ.out hq;rw[hq]at HE;have hck:¬c=k:=by omega
     have hkc:k≤c:=by omega
     have HXY:Hid (L[k]? =some x∧L[m]? =some x∧k=m+1):=Qaz ⟨hx,hy,hm⟩;clear hxa hya hq HEQ hx hy hm;go_wp2_with (fail)
     go_region_with (go_at_call 142;refine(HE.out _).mono ?_;rintro e V ⟨rfl,hbv⟩)
     all_goals
      have hbV:Below wr.heap.size wr V:=zae (Below.refl _ wr).drew hbv;have hownV:=hown.all hbV;have hbV2:=zae hb hbV;clear hown x0 x1 x2 x3 x4 y0 y1 y2 y3 y4;go_wp2_with (fail);have HST:Hid (Cpt 36 base g c L k w k 1 L V):=Qaz (Cpt.start hownV hbV2 HL.out HXY.out.1 HXY.out.2.1 HXY.out.2.2);clear hownV hbV2 hbV hbv hgw HE;obtain⟨r,hr⟩:∃r,r=L.length-k:=⟨_,rfl⟩;have HRK:Hid (k+r=L.length):=Qaz (by omega);rw[←hr];clear hr
      go_loopw [5,7] (fun i j wr=>∃k' k2 N,i=.int .i64 (k':Nat)∧j=.int .i64 (k2:Nat)∧Cpt 36 base g c L k w k' k2 N wr) (fun _ j _=>r-(intOf j).toNat)
      case atStart=>exact⟨k,1,L,rfl,rfl,HST.out⟩
      case round=>
       obtain⟨k',k2,N,rfl,rfl,hcpt⟩:=hrel;have HCP:=Qaz hcpt;obtain⟨a1,a2,a3,a4,a5,a6,a7,a8,a9,a10⟩:=hcpt;have hgw:g<wr.heap.size:=Nat.lt_of_lt_of_le hg2 a10.size;by_cases hlt2:k2<r
       ·obtain⟨m2,hm2⟩:∃m2,k2=m2+1:=⟨k2-1,by omega⟩;have hkr:=HRK.out;obtain⟨e1,e2⟩:=HCP.out.get hm2;have hx:L[k+k2]? =some L[k+k2]:=Qbz (by omega);have hy:L[k+m2]? =some L[k+m2]:=Qbz (by omega);generalize L[k+k2]=x2 at hx;generalize L[k+m2]=y2 at hy;rw[hx]at e1;rw[hy]at e2;have hz:N[k']? =some N[k']:=Qbz (by omega);generalize N[k']=z at hz;have hxa:=HL.out x2 (Qdz hx);have hya:=HL.out y2 (Qdz hy);obtain⟨B5,d5,⟨x0,_⟩,⟨x1,_⟩,⟨x2',_⟩,⟨x3,_⟩,⟨x4,_⟩⟩:=OwnT.at5 a5 e1 hxa;obtain⟨B6,d6,⟨y0,_⟩,⟨y1,_⟩,⟨y2',_⟩,⟨y3,_⟩,⟨y4,_⟩⟩:=OwnT.at5 a5 e2 hya;rw[Nat.add_mul]at x0 x1 x2' x3 x4 y0 y1 y2' y3 y4
        have wn1:IntKind.i64.wrap ((k2:Int)-1)=(m2:Int):=by rw[IntKind.wrap_i64];omega
        have wn0:(0:Int)≤(m2:Int):=by omega
        have wm1:(m2:Int)<(r:Int):=by omega
        have wk1:(k':Int)<(L.length:Int):=by omega
        have wk6:k'≤1000000:=by omega
        have wr6:r≤1000000:=by omega
        have HE:=Qaz (fun W=>ze3 x2 y2 B5 B6 d5 d6 W);have HEQ:Hid (eqL x2 y2=true→x2=y2):=Qaz (zwu hxa hya).1;have HOT:=Qaz (fun V (h:Below wr.heap.size wr V)=>HCP.out.other hx hxa hz h B5 d5);have HSM:Hid (x2=y2→∀V,Below wr.heap.size wr V→Cpt 36 base g c L k w k' (k2+1) N V):=Qaz (fun e V h=>HCP.out.same hm2 (e▸hx) hy h)
        have HZ:Hid (∀V,Below wr.heap.size wr V→∃A c',(V.cell? ⟨g,k'*5,none⟩=some (.int .i64 z.kind)∧V.frozen? ⟨g,k'*5,none⟩=false)∧(V.cell? ⟨g,k'*5+1,none⟩=some (.string z.name)∧V.frozen? ⟨g,k'*5+1,none⟩=false)∧(V.cell? ⟨g,k'*5+2,none⟩=some (.int .i64 z.lo)∧V.frozen? ⟨g,k'*5+2,none⟩=false)∧
          (V.cell? ⟨g,k'*5+3,none⟩=some (.int .i64 z.hi)∧V.frozen? ⟨g,k'*5+3,none⟩=false)∧(V.cell? ⟨g,k'*5+4,none⟩=some (.slice A 0 c')∧V.frozen? ⟨g,k'*5+4,none⟩=false)):=Qaz (fun V h=>OwnT.at5 (a5.all h) hz (a7 z (Qdz hz)))
        cases hq2:eqL x2 y2 with
        |true=>
         have HS2:=Qaz (HSM.out (HEQ.out hq2));rw[hq2]at HE;clear hx hy hz e1 e2 hxa hya hm2 hq2 HEQ HOT HSM HZ HCP a1 a2 a3 a4 a5 a6 a7 a8 a9 a10 hkr;go_wp2_with (fail)
         go_region_with (go_at_call 142;refine(HE.out _).mono ?_;rintro e V2 ⟨rfl,hbv⟩)
         all_goals
          have hcp2:=HS2.out V2 (zae (Below.refl _ wr).drew hbv);clear x0 x1 x2' x3 x4 y0 y1 y2' y3 y4;go_wp2;go_roundw
          case rel=>exact⟨k',k2+1,N,rfl,by go_num,hcp2⟩
          case measure=>simp[intOf];omega
        |false=>
         rw[hq2]at HE;clear hx hy hz e1 e2 hxa hya hm2 hq2 HEQ HSM HCP a1 a2 a3 a4 a5 a6 a7 a8 a9 a10 hkr;go_wp2_with (fail)
         go_region_with (go_at_call 142;refine(HE.out _).mono ?_;rintro e V2 ⟨rfl,hbv⟩)
         all_goals
          have hbz:Below wr.heap.size wr V2:=zae (Below.refl _ wr).drew hbv;have f0:=zaa x0 hbz;have f1:=zaa x1 hbz;have f2:=zaa x2' hbz;have f3:=zaa x3 hbz;have f4:=zaa x4 hbz;obtain⟨A7,c7,⟨u0,v0⟩,⟨u1,v1⟩,⟨u2,v2⟩,⟨u3,v3⟩,⟨u4,v4⟩⟩:=HZ.out V2 hbz;have hcp2:=Qaz (HOT.out V2 hbz);clear x0 x1 x2' x3 x4 y0 y1 y2' y3 y4 hbv hbz HZ HOT HE;go_wp2;go_roundw
          case rel=>exact⟨k'+1,k2+1,_,by go_num,by go_num,hcp2.out⟩
          case measure=>simp[intOf];omega
       ·have hkr:=HRK.out;have e:k+k2=L.length:=by omega
        rw[e,List.take_length]at a9;obtain⟨zs,hzs⟩:∃zs,zs=(Builtin.zeroCells (Value.agg #[.int .i64 0,.string ⟨#[]⟩,.int .i64 0,.int .i64 0,.slice none 0 0]).cells (L.length-k')).toList:=⟨_,rfl⟩;have hzl:zs.length=(L.length-k')*5:=by rw[hzs,Array.length_toList,size_zeroCells];rfl
        have hrow:∀i,i<c*5→(wr.cell? ⟨g,i,none⟩).isSome=true∧wr.frozen? ⟨g,i,none⟩=false:=by
         obtain⟨xs,⟨_,q⟩,_⟩:=a5;rcases q with⟨e,_⟩|⟨g',cap,cur,e,_,hh,_,_,hs,_⟩
         ·cases e
         ·simp only[Value.slice.injEq,Option.some.injEq,Addr.mk.injEq,and_true]at e;obtain⟨rfl,_,rfl⟩:=e;intro i hi;refine⟨?_,by simp[World.frozen?,hh]⟩;simp only[World.cell?,hh];rw[Array.getElem?_eq_getElem (by omega)];rfl
        have hcl:∀ty,(Builtin.clear_ #[34] ty #[.slice (some ⟨g,k'*5,none⟩) (L.length-k') (c-k')]).run Tryz.prog wr=.ok (.tuple #[]) (wr.setCells g (k'*5) zs):=fun ty=>by
         rw[hzs];refine zsu wr _ _ ty _ (L.length-k') (by omega) Tryz.underlying34 zy2 ?_ g (k'*5) (c-k') (fun j hj=>(hrow _ ?_).1) (fun j hj=>(hrow _ ?_).2)
         ·intro u hu;obtain⟨i,hi,rfl⟩:=List.mem_iff_getElem.1 hu;have:∀i,i<5→((Value.agg #[.int .i64 0,.string ⟨#[]⟩,.int .i64 0,.int .i64 0,.slice none 0 0]).cells[i]!).oneCell'=true:=by
           intro i hi
           match i,hi with
           |0,_=>rfl
           |1,_=>rfl
           |2,_=>rfl
           |3,_=>rfl
           |4,_=>rfl
          simp[Builtin.zeroCells];exact this (i % 5) (Nat.mod_lt _ (by decide))
         ·have hj:j<(L.length-k')*5:=hj;omega
         ·have hj:j<(L.length-k')*5:=hj;omega
        have HFIN:Hid (∃v' L',Value.slice (some ⟨g,0,none⟩) k' c=v'∧((∀x,x∈L'↔x∈L)∧L'.length≤L.length)∧Own typR 36 5 base (fun _=>False) v' L' (wr.setCells g (k'*5) zs)∧Chg (fun b=>(Value.slice (some ⟨g,0,none⟩) L.length c).ownBlock=some b) w (wr.setCells g (k'*5) zs)):=Qaz ⟨_,N.take k',rfl,⟨a9,by rw[List.length_take];omega⟩,a5.cut k' (by omega) zs (by omega),(a10.trans (Chg.setCells (S:=fun b=>b=g) g rfl zs _ wr)).mono fun b _ e=>by subst e;rfl⟩;have hck':¬c=k':=by omega
        have hkc':k'≤c:=by omega
        have hkn':k'≤L.length:=by omega
        clear hzs hzl hrow HCP a1 a2 a3 a4 a5 a6 a7 a8 a9 a10 hkr e;go_wp2;go_ret;obtain⟨v',L',rfl,q⟩:=HFIN.out;exact⟨_,L',rfl,q⟩
   ·obtain rfl:k=L.length:=by omega
    have HFIN:Hid (∃v' L',Value.slice (some ⟨g,0,none⟩) L.length c=v'∧((∀x,x∈L'↔x∈L)∧L'.length≤L.length)∧Own typR 36 5 base (fun _=>False) v' L' wr∧Chg (fun b=>(Value.slice (some ⟨g,0,none⟩) L.length c).ownBlock=some b) w wr):=Qaz ⟨_,L,rfl,⟨fun x=>Iff.rfl,Qiz _⟩,hown,Chg.of hb⟩;clear hown hb;go_wp2;go_ret;obtain⟨v',L',rfl,q⟩:=HFIN.out;exact⟨_,L',rfl,q⟩
theorem zvg(hp M1:Nat)(AH:Option Addr)(cH:Nat)(l:List CI)(ol:∀x∈l,zdo x)(hb tb fb:Nat)(u t:Ty)(A A':Option Addr)(c c':Nat)(W:World)(G:Nat→Prop)(H:HierAt hp M1 AH cH l l.length W)(hA:Held G (CIs AH l) W)(h0:W.cell? ⟨hb,0,none⟩=some (.pointer (some ⟨hp,0,none⟩)))
  (hf:W.cell? ⟨fb,0,none⟩=some (.func (.func 145) #[] #[.pointer (some ⟨hb,0,none⟩)])) (ht:Cel tb [.int .i64 t.kind,.string t.name,.int .i64 t.lo,.int .i64 t.hi,.slice A' 0 c'] W):
  Calls Tryz.prog 184 #[zgf u A c,.pointer (some ⟨tb,0,none⟩),.pointer (some ⟨fb,0,none⟩)] W fun e w'=>e=.returned (.bool (decide (u.name≠t.name)&&zbg l t.name u.name))∧Below W.heap.size W w':=by
 obtain⟨x0,_⟩:=ht 0 _ rfl;obtain⟨x1,_⟩:=ht 1 _ rfl;obtain⟨x2,_⟩:=ht 2 _ rfl;obtain⟨x3,_⟩:=ht 3 _ rfl;obtain⟨x4,_⟩:=ht 4 _ rfl;have b1:Below W.heap.size W (W.alloc (.cells #[.int .i64 u.kind,.string u.name,.int .i64 u.lo,.int .i64 u.hi,.slice A 0 c] 36)):=(Below.refl _ W).alloc (Qiz _) _;have HC:=Qaz (fun V (h:Below W.heap.size W V)=>zo8 hp M1 AH cH l ol hb u.kind t.kind u.name t.name u.lo u.hi t.lo t.hi A A' c c' V G (H.keep h) (hA.keep (Keep.all h)) (zaa h0 h));have l1:hb<W.heap.size:=cell_lt h0;have l2:fb<W.heap.size:=cell_lt hf;have l3:tb<W.heap.size:=ht.lt (by simp);clear H hA ht
 by_cases hn:u.name=t.name
 ·have t1:decide (u.name=t.name)=true:=Qhz hn;have HR:Hid ((decide (u.name≠t.name)&&zbg l t.name u.name)=false):=Qaz (by rw[Qgz (fun h=>h hn)];rfl);clear hn;go_enter Tryz.func184,Tryz.ntmps184;go_wp2;go_ret;exact⟨by rw[HR.out];try rfl,b1⟩
 ·have t1:decide (u.name=t.name)=false:=Qgz hn;have HR:Hid ((decide (u.name≠t.name)&&zbg l t.name u.name)=zbg l t.name u.name):=Qaz (by rw[Qhz (show u.name≠t.name from hn)];rfl);clear hn;generalize zbg l t.name u.name=r at HC HR;generalize(decide (u.name≠t.name)&&r)=r2 at HR ⊢;go_enter Tryz.func184,Tryz.ntmps184;go_wp2_with (go_at_call 145;refine(HC.out _ b1).mono ?_;rintro e V ⟨rfl,hbv⟩);go_ret;exact⟨by rw[HR.out];try rfl,zae b1 hbv⟩
theorem Chg.belowN{S:Nat→Prop}{n:Nat}{w w':World}(h:Chg S w w')(hS:∀b,S b→n≤b)(hn:n≤w.heap.size):Below n w w':=
 ⟨h.os,h.tape,h.output,h.size,fun b hb=>h.block b (Nat.lt_of_lt_of_le hb hn) fun s=>by have:=hS b s;omega⟩
theorem zyv(hp M1:Nat)(AH:Option Addr)(cH:Nat)(l:List CI)(ol:∀x∈l,zdo x)(hb:Nat)(A:Option Addr)(c:Nat)(d:List Leaf)(w:World)(G:Nat→Prop)(H:HierAt hp M1 AH cH l l.length w)(hA:Held G (CIs AH l) w)(h0:w.cell? ⟨hb,0,none⟩=some (.pointer (some ⟨hp,0,none⟩)))(hd:Slc zfk 5 A d w)(hlen:d.length≤1000000):
  Calls Tryz.prog 148 #[.slice A d.length c,.func (.func 145) #[] #[.pointer (some ⟨hb,0,none⟩)]] w fun e w'=>∃v' L',e=.returned v'∧((∀x,x∈L'↔x∈zp4 l (d.map Leaf.ty))∧L'.length≤d.length)∧Own typR 36 5 w.heap.size (fun _=>False) v' L' w'∧Below w.heap.size w w':=by
 have hmf:∀(fn:Fn)(first cap:Array Value)(w:World),(Instr.makeFunc fn first cap).run Tryz.prog w=.ok (.func fn first cap) w:=fun _ _ _ _=>rfl;obtain⟨W0,hW0⟩:∃W0,W0=(w.alloc (.cells #[.func (.func 145) #[] #[.pointer (some ⟨hb,0,none⟩)]] 100)):=⟨_,rfl⟩;have b0:Below w.heap.size w W0:=by rw[hW0];exact(Below.refl _ w).alloc (Qiz _) _
 have z0:W0.heap.size=w.heap.size+1:=by rw[hW0];simp
 have f0:W0.cell? ⟨w.heap.size,0,none⟩=some (.func (.func 145) #[] #[.pointer (some ⟨hb,0,none⟩)]):=by rw[hW0];exact zac w _ _ _ rfl 0 _ rfl
 obtain⟨q,hq⟩:∃q:Ty→Bool,q=fun t=> !((d.map Leaf.ty).any fun u=>decide (u.name≠t.name)&&zbg l t.name u.name):=⟨_,rfl⟩;have HQ:Hid (zp4 l (d.map Leaf.ty)=(d.map Leaf.ty).filter q):=Qaz (by rw[hq];rfl);have HD:Hid (∀V,Below W0.heap.size W0 V→Slc zfk 5 A d V):=Qaz (fun V h=>zb6 (zb6 hd b0) h)
 have HC:Hid (∀t A' c' tb V,Below W0.heap.size W0 V→Cel tb [.int .i64 t.kind,.string t.name,.int .i64 t.lo,.int .i64 t.hi,.slice A' 0 c'] V→Calls Tryz.prog 101 #[.slice A d.length c,.func (.func 184) #[] #[.pointer (some ⟨tb,0,none⟩),.pointer (some ⟨w.heap.size,0,none⟩)]] V fun e w'=>e=.returned (.bool (!q t))∧Below V.heap.size V w'):=Qaz (fun t A' c' tb V hV ht=>by
  have:=zdm 184 #[.pointer (some ⟨tb,0,none⟩),.pointer (some ⟨w.heap.size,0,none⟩)] (enters Tryz.func184 (by kernel_rfl) rfl) A c d (fun u=>decide (u.name≠t.name)&&zbg l t.name u.name) (fun W=>Below V.heap.size V W) V (Below.refl _ _) (fun wr hI=>zb6 (HD.out V hV) hI) hlen (fun x _ wr hI=>by
   have bw:Below w.heap.size w wr:=zae (zae b0 hV) hI;refine(zvg hp M1 AH cH l ol hb tb w.heap.size x.ty t x.A A' x.c c' wr G (H.keep bw) (hA.keep (Keep.all bw)) (zaa h0 bw) (zaa (zaa f0 hV) hI) (ht.all hI)).mono ?_;rintro e w' ⟨rfl,hb'⟩;exact⟨rfl,zae hI hb'⟩)
  refine this.mono ?_;rintro e w' ⟨rfl,hb'⟩;exact⟨by rw[hq];simp,hb'⟩)
 have hl1:(d.map Leaf.ty).length=d.length:=List.length_map _;have HLF:Hid (∀t∈(d.map Leaf.ty).filter q,t.args=[]):=Qaz (fun t ht=>by
  obtain⟨x,_,rfl⟩:=List.mem_map.1 (List.mem_filter.1 ht).1
  rfl)
 have HLL:Hid (((d.map Leaf.ty).filter q).length≤1000000):=Qaz (by have:=List.length_filter_le q (d.map Leaf.ty);omega);have HB0:=Qaz b0;have HL1:=Qaz hl1;clear H hA h0 hd hq hl1 b0;go_enter Tryz.func148,Tryz.ntmps148;go_wp2_with (fail);rw[←hW0];clear hW0
 go_loopw [5,10] (fun v i wr=>∃k:Nat,k≤d.length∧i=.int .i64 k∧Own typR 36 5 W0.heap.size (fun _=>False) v (((d.map Leaf.ty).take k).filter q) wr∧Below W0.heap.size W0 wr) (fun _ i _=>d.length-(intOf i).toNat)
 case atStart=>exact⟨0,Qjz _,rfl,Own.nil _ _ _ _ _ _,Below.refl _ _⟩
 case round=>
  obtain⟨k,hk,rfl,hown,hbw⟩:=hrel;by_cases hlt:k<d.length
  ·have hx:d[k]? =some d[k]:=Qbz hlt;generalize d[k]=x at hx;obtain⟨b,off,cs,rfl,_,hr,hc⟩:=HD.out wr hbw k x hx;have hr:cs=x.cs:=hr;subst hr;have e0:=hc 0 _ rfl;have e1:=hc 1 _ rfl;have e2:=hc 2 _ rfl;have e3:=hc 3 _ rfl;have e4:=hc 4 _ rfl;simp only[Nat.add_zero]at e0;have hxt:(d.map Leaf.ty)[k]? =some x.ty:=by rw[List.getElem?_map,hx];rfl
   have HST:Hid (((d.map Leaf.ty).take (k+1)).filter q=((d.map Leaf.ty).take k).filter q++(if q x.ty=true then[x.ty]else[])):=Qaz (by
    rw[take_snoc hxt,List.filter_append];cases h:q x.ty<;>simp[h])
   have HLN:Hid ((((d.map Leaf.ty).take k).filter q).length≤k):=Qaz (by
    have h1:=List.length_filter_le q ((d.map Leaf.ty).take k);rw[List.length_take]at h1;omega)
   have hbz:=hbw.size;have bwb:Below wr.heap.size wr (wr.alloc (.cells #[.int .i64 x.k,.string x.s,.int .i64 x.lo,.int .i64 x.hi,.slice x.A 0 x.c] 36)):=(Below.refl _ wr).alloc (Qiz _) _;have HCC:=Qaz (HC.out x.ty x.A x.c wr.heap.size _ (zae hbw bwb) (Cel.new wr _ _ _ rfl));clear hx hc hxt;generalize((d.map Leaf.ty).take k).filter q=fl at hown HST HLN;cases hh:q x.ty with
   |false=>
    rw[hh]at HCC HST;clear hh;go_wp2_with (fail);refine HCC.out.mono ?_;rintro e U ⟨rfl,hbu⟩;have hownU:=hown.all (zae bwb hbu);have hbU:=zae (zae hbw bwb) hbu;clear hown hbu HCC;go_wp2;go_roundw
    case rel=>exact⟨k+1,by omega,by go_num,by rw[HST.out];simpa using hownU,hbU⟩
    case measure=>simp[intOf];omega
   |true=>
    rw[hh]at HCC HST;clear hh;go_wp2_with (fail);refine HCC.out.mono ?_;rintro e U ⟨rfl,hbu⟩;have hownU:=hown.all (zae bwb hbu);have hbU:=zae (zae hbw bwb) hbu;have hbox:Cel wr.heap.size [.int .i64 x.k,.string x.s,.int .i64 x.lo,.int .i64 x.hi,.slice x.A 0 x.c] U:=(Cel.new wr _ _ _ rfl).all hbu;obtain⟨v0,_⟩:=hbox 0 _ rfl;obtain⟨v1,_⟩:=hbox 1 _ rfl;obtain⟨v2,_⟩:=hbox 2 _ rfl;obtain⟨v3,_⟩:=hbox 3 _ rfl;obtain⟨v4,_⟩:=hbox 4 _ rfl;clear hown hbu HCC hbox;go_wp2_with (at_builtin;refine Classical.byContradiction fun hneg=> ?_);apply hneg
    refine zao typR 36 5 W0.heap.size 64 (fun _=>False) _ rfl _ _ 34 _ rfl Tryz.underlying34 zcp rfl (by decide) (by decide) u5 fl rfl (hownU.alloc _) ⟨U.heap.size,0,none⟩ 1 rfl x.ty [.int .i64 x.k,.string x.s,.int .i64 x.lo,.int .i64 x.hi,.slice x.A 0 x.c] rfl ?cells ?one ?held ?hG ?base ?len ?_
    case cells=>exact fun j u hu=>zaq U _ _ _ rfl j u hu
    case one=>intro u hu;simp at hu;rcases hu with rfl|rfl|rfl|rfl|rfl<;>rfl
    case held=>exact x.held _ _
    case hG=>exact fun b hb _=>hb.elim
    case base=>have:=hbU.size;simp<;>omega
    case len=>have:=HLN.out;simp<;>omega
    intro v' w1 hown1 hg1 _;have hb3:Below W0.heap.size W0 w1:=(hbU.alloc hbU.size _).grown hg1 (by have:=hbU.size;simp<;>omega) fun k' e=>(hownU.lt _ e).1;have hown2:Own typR 36 5 W0.heap.size (fun _=>False) v' (fl++if true=true then[x.ty]else[]) w1:=hown1;clear hown1 v0 v1 v2 v3 v4;go_wp2;go_roundw
    case rel=>exact⟨k+1,by omega,by go_num,by rw[HST.out];exact hown2,hb3⟩
    case measure=>simp[intOf];omega
  ·obtain rfl:k=d.length:=by omega
   rw[show(d.map Leaf.ty).take d.length=d.map Leaf.ty by rw[←HL1.out,List.take_length]]at hown;have HS:=Qaz (znr 185 (enters Tryz.func185 (by kernel_rfl) rfl) (fun x y=>zuw x.name y.name) z3d zvz u5 _ wr hown HLF.out HLL.out);have HOL:Hid (∀b,u5.ownBlock=some b→W0.heap.size≤b):=Qaz fun b hb=>(hown.lt b hb).1;have HBW:=Qaz hbw;clear hown hbw
   go_wp2_with (first|(go_at_call 180;refine HS.out.mono ?_;rintro e V ⟨rfl,L1,hp,_,hown1,hch1⟩)|(go_at_call 187;refine(zpd _ L1 V hown1 (fun t ht=>HLF.out t (hp.mem_iff.1 ht)) (by rw[hp.length_eq];exact HLL.out)).mono ?_;rintro e V2 ⟨v2,L2,rfl,hm2,hown2,hch2⟩));have HF:Hid (∃v' L',v2=v'∧((∀x,x∈L'↔x∈zp4 l (d.map Leaf.ty))∧L'.length≤d.length)∧Own typR 36 5 w.heap.size (fun _=>False) v' L' V2∧Below w.heap.size w V2):=Qaz ⟨_,L2,rfl,⟨fun x=>by rw[HQ.out,hm2.1,hp.mem_iff],by
    have h1:=hm2.2;have h2:=hp.length_eq;have h3:=List.length_filter_le q (d.map Leaf.ty);have h4:=HL1.out;omega⟩,hown2.lower HB0.out.size,by
    have h1:Below W0.heap.size W0 V:=HBW.out.trans (hch1.belowN HOL.out HBW.out.size);have h2:Below W0.heap.size W0 V2:=h1.trans (hch2.belowN HOL.out h1.size);exact zae HB0.out h2⟩
   clear hp hown1 hch1 hm2 hown2 hch2;go_wp2;go_ret;obtain⟨v',L',rfl,q⟩:=HF.out;exact⟨_,L',rfl,q⟩
theorem zrt(hp M1:Nat)(AH:Option Addr)(cH:Nat)(l:List CI)(ol:∀x∈l,zdo x)(hb xb:Nat)(x y:Ty)(A A':Option Addr)(c c':Nat)(W:World)(G:Nat→Prop)(H:HierAt hp M1 AH cH l l.length W)(hA:Held G (CIs AH l) W)(h0:W.cell? ⟨hb,0,none⟩=some (.pointer (some ⟨hp,0,none⟩)))
  (hx:Cel xb [.int .i64 x.kind,.string x.name,.int .i64 x.lo,.int .i64 x.hi,.slice A' 0 c'] W):
  Calls Tryz.prog 150 #[zgf y A c,.pointer (some ⟨xb,0,none⟩),.pointer (some ⟨hb,0,none⟩)] W fun e w'=>e=.returned (.bool (covers l x y))∧Below W.heap.size W w':=by
 obtain⟨W1,hW1⟩:∃W1,W1=(W.alloc (.cells #[.int .i64 y.kind,.string y.name,.int .i64 y.lo,.int .i64 y.hi,.slice A 0 c] 36)):=⟨_,rfl⟩;have b1:Below W.heap.size W W1:=by rw[hW1];exact(Below.refl _ W).alloc (Qiz _) _
 have hy:Cel W.heap.size [.int .i64 y.kind,.string y.name,.int .i64 y.lo,.int .i64 y.hi,.slice A 0 c] W1:=by rw[hW1];exact Cel.new W _ _ _ rfl
 have HX:Hid (∀V,Below W1.heap.size W1 V→V.cell? ⟨hb,0,none⟩=some (.pointer (some ⟨hp,0,none⟩))∧(V.cell? ⟨xb,0,none⟩=some (.int .i64 x.kind)∧V.cell? ⟨xb,1,none⟩=some (.string x.name)∧V.cell? ⟨xb,2,none⟩=some (.int .i64 x.lo)∧V.cell? ⟨xb,3,none⟩=some (.int .i64 x.hi)∧V.cell? ⟨xb,4,none⟩=some (.slice A' 0 c'))∧
   (V.cell? ⟨W.heap.size,0,none⟩=some (.int .i64 y.kind)∧V.cell? ⟨W.heap.size,1,none⟩=some (.string y.name)∧V.cell? ⟨W.heap.size,2,none⟩=some (.int .i64 y.lo)∧V.cell? ⟨W.heap.size,3,none⟩=some (.int .i64 y.hi)∧V.cell? ⟨W.heap.size,4,none⟩=some (.slice A 0 c))):=Qaz (fun V hV=>by
  have h1:=(hx.all b1).all hV;have h2:=hy.all hV;exact⟨zaa (zaa h0 b1) hV,⟨(h1 0 _ rfl).1,(h1 1 _ rfl).1,(h1 2 _ rfl).1,(h1 3 _ rfl).1,(h1 4 _ rfl).1⟩,⟨(h2 0 _ rfl).1,(h2 1 _ rfl).1,(h2 2 _ rfl).1,(h2 3 _ rfl).1,(h2 4 _ rfl).1⟩⟩)
 have hU:Below W1.heap.size W1 W1:=Below.refl _ _;obtain⟨q0,⟨x0,x1,x2,x3,x4⟩,⟨y0,y1,y2,y3,y4⟩⟩:=HX.out W1 hU;have HI:=fun s V=>zot y A 0 c s V;have HE:=Qaz (fun V=>ze3 x y A' A c' c V);have HB:=Qaz (fun V (hV:Below W1.heap.size W1 V)=>zhw hp M1 AH cH l x.name y.name V (H.keep (zae b1 hV)) G (hA.keep (Keep.all (zae b1 hV))) ol);have HB1:=Qaz b1;have HIO:Hid (∀V,Calls Tryz.prog 151 #[.agg #[.int .i64 y.kind,.string y.name,.int .i64 y.lo,.int .i64 y.hi,.slice A 0 c],.string ⟨#[60,111,98,106,101,99,116,62]⟩] V fun e w'=>e=.returned (.bool (zdb y zak))∧Below V.heap.size V w'):=Qaz (HI zak)
 have HII:Hid (∀V,Calls Tryz.prog 151 #[.agg #[.int .i64 y.kind,.string y.name,.int .i64 y.lo,.int .i64 y.hi,.slice A 0 c],.string ⟨#[60,105,110,116,101,103,101,114,62]⟩] V fun e w'=>e=.returned (.bool (zdb y zal))∧Below V.heap.size V w'):=Qaz (HI zal);have HIB:Hid (∀V,Calls Tryz.prog 151 #[.agg #[.int .i64 y.kind,.string y.name,.int .i64 y.lo,.int .i64 y.hi,.slice A 0 c],.string ⟨#[60,98,111,111,108,101,97,110,62]⟩] V fun e w'=>e=.returned (.bool (zdb y zan))∧Below V.heap.size V w'):=Qaz (HI zan)
 have HIC:Hid (∀V,Calls Tryz.prog 151 #[.agg #[.int .i64 y.kind,.string y.name,.int .i64 y.lo,.int .i64 y.hi,.slice A 0 c],.string ⟨#[60,99,108,97,115,115,62]⟩] V fun e w'=>e=.returned (.bool (zdb y zaw))∧Below V.heap.size V w'):=Qaz (HI zaw);clear H hA h0 hx hy HI b1;have HU:Hid (∀r,covers l x y=r→covers l x y=r):=Qaz fun _ h=>h;cases hO:zdb y zak with
 |true=>
  have HR:Hid (covers l x y=true):=Qaz (by unfold covers;rw[hO];rfl);rw[hO]at HIO;go_enter Tryz.func150,Tryz.ntmps150;go_wp2_with (fail);rw[←hW1];clear hW1;go_wp2_with (go_at_call 151;with_reducible refine(HIO.out _).mono ?_;rintro e V ⟨rfl,hbv⟩);go_ret;exact⟨by rw[HR.out];try rfl,zae HB1.out hbv⟩
 |false=>
  rw[hO]at HIO;cases hE:eqL x y with
  |true=>
   have HR:Hid (covers l x y=true):=Qaz (by unfold covers;rw[hO,hE];rfl);rw[hE]at HE;go_enter Tryz.func150,Tryz.ntmps150;go_wp2_with (fail);rw[←hW1];clear hW1;go_wp2_with (first
    |(go_at_call 151;with_reducible refine(HIO.out _).mono ?_;rintro e V ⟨rfl,hbv⟩;have hU:=zae hU hbv;obtain⟨q0,⟨x0,x1,x2,x3,x4⟩,⟨y0,y1,y2,y3,y4⟩⟩:=HX.out _ hU)
    |(go_at_call 142;refine(HE.out _).mono ?_;rintro e V ⟨rfl,hbv⟩;have hU:=zae hU hbv;obtain⟨q0,⟨x0,x1,x2,x3,x4⟩,⟨y0,y1,y2,y3,y4⟩⟩:=HX.out _ hU))
   go_ret;exact⟨by rw[HR.out];try rfl,zae HB1.out hU⟩
  |false=>
   rw[hE]at HE;by_cases k2:x.kind=2
   ·have HK:Hid (covers l x y=((decide (y.kind=2)&&(decide (y.lo≤x.lo)&&decide (x.hi≤y.hi)))||zdb y zal)):=Qaz (by unfold covers;rw[hO,hE,if_pos k2];rfl);have t2:(x.kind==2)=true:=beq_iff_eq.2 k2;generalize zdb y zal=r at HII HK;clear k2;by_cases j2:y.kind=2
    ·have u2:(y.kind==2)=true:=beq_iff_eq.2 j2;by_cases d1:y.lo≤x.lo
     ·have e1:decide (y.lo≤x.lo)=true:=Qhz d1;by_cases d2:x.hi≤y.hi
      ·have e2:decide (x.hi≤y.hi)=true:=Qhz d2;have HR:Hid (covers l x y=true):=Qaz (by rw[HK.out,Qhz j2,e1,e2];rfl);clear j2 d1 d2;go_enter Tryz.func150,Tryz.ntmps150;go_wp2_with (fail);rw[←hW1];clear hW1;go_wp2_with (first
        |(go_at_call 151;with_reducible refine(HIO.out _).mono ?_;rintro e V ⟨rfl,hbv⟩;have hU:=zae hU hbv;obtain⟨q0,⟨x0,x1,x2,x3,x4⟩,⟨y0,y1,y2,y3,y4⟩⟩:=HX.out _ hU)
        |(go_at_call 142;refine(HE.out _).mono ?_;rintro e V ⟨rfl,hbv⟩;have hU:=zae hU hbv;obtain⟨q0,⟨x0,x1,x2,x3,x4⟩,⟨y0,y1,y2,y3,y4⟩⟩:=HX.out _ hU)
        |(go_at_call 151;with_reducible refine(HII.out _).mono ?_;rintro e V ⟨rfl,hbv⟩;have hU:=zae hU hbv;obtain⟨q0,⟨x0,x1,x2,x3,x4⟩,⟨y0,y1,y2,y3,y4⟩⟩:=HX.out _ hU))
       go_ret;exact⟨by rw[HR.out];try rfl,zae HB1.out hU⟩
      ·have e2:decide (x.hi≤y.hi)=false:=Qgz d2;have HR:Hid (covers l x y=r):=Qaz (by rw[HK.out,Qhz j2,e1,e2];rfl);clear j2 d1 d2;go_enter Tryz.func150,Tryz.ntmps150;go_wp2_with (fail);rw[←hW1];clear hW1;go_wp2_with (first
        |(go_at_call 151;with_reducible refine(HIO.out _).mono ?_;rintro e V ⟨rfl,hbv⟩;have hU:=zae hU hbv;obtain⟨q0,⟨x0,x1,x2,x3,x4⟩,⟨y0,y1,y2,y3,y4⟩⟩:=HX.out _ hU)
        |(go_at_call 142;refine(HE.out _).mono ?_;rintro e V ⟨rfl,hbv⟩;have hU:=zae hU hbv;obtain⟨q0,⟨x0,x1,x2,x3,x4⟩,⟨y0,y1,y2,y3,y4⟩⟩:=HX.out _ hU)
        |(go_at_call 151;with_reducible refine(HII.out _).mono ?_;rintro e V ⟨rfl,hbv⟩;have hU:=zae hU hbv;obtain⟨q0,⟨x0,x1,x2,x3,x4⟩,⟨y0,y1,y2,y3,y4⟩⟩:=HX.out _ hU))
       go_ret;exact⟨by rw[HR.out];try rfl,zae HB1.out hU⟩
     ·have e1:decide (y.lo≤x.lo)=false:=Qgz d1;have HR:Hid (covers l x y=r):=Qaz (by rw[HK.out,Qhz j2,e1];rfl);clear j2 d1;go_enter Tryz.func150,Tryz.ntmps150;go_wp2_with (fail);rw[←hW1];clear hW1;go_wp2_with (first
       |(go_at_call 151;with_reducible refine(HIO.out _).mono ?_;rintro e V ⟨rfl,hbv⟩;have hU:=zae hU hbv;obtain⟨q0,⟨x0,x1,x2,x3,x4⟩,⟨y0,y1,y2,y3,y4⟩⟩:=HX.out _ hU)
       |(go_at_call 142;refine(HE.out _).mono ?_;rintro e V ⟨rfl,hbv⟩;have hU:=zae hU hbv;obtain⟨q0,⟨x0,x1,x2,x3,x4⟩,⟨y0,y1,y2,y3,y4⟩⟩:=HX.out _ hU)
       |(go_at_call 151;with_reducible refine(HII.out _).mono ?_;rintro e V ⟨rfl,hbv⟩;have hU:=zae hU hbv;obtain⟨q0,⟨x0,x1,x2,x3,x4⟩,⟨y0,y1,y2,y3,y4⟩⟩:=HX.out _ hU))
      go_ret;exact⟨by rw[HR.out];try rfl,zae HB1.out hU⟩
    ·have u2:(y.kind==2)=false:=Qfz j2;have HR:Hid (covers l x y=r):=Qaz (by rw[HK.out,Qgz j2];rfl);clear j2;go_enter Tryz.func150,Tryz.ntmps150;go_wp2_with (fail);rw[←hW1];clear hW1;go_wp2_with (first
      |(go_at_call 151;with_reducible refine(HIO.out _).mono ?_;rintro e V ⟨rfl,hbv⟩;have hU:=zae hU hbv;obtain⟨q0,⟨x0,x1,x2,x3,x4⟩,⟨y0,y1,y2,y3,y4⟩⟩:=HX.out _ hU)
      |(go_at_call 142;refine(HE.out _).mono ?_;rintro e V ⟨rfl,hbv⟩;have hU:=zae hU hbv;obtain⟨q0,⟨x0,x1,x2,x3,x4⟩,⟨y0,y1,y2,y3,y4⟩⟩:=HX.out _ hU)
      |(go_at_call 151;with_reducible refine(HII.out _).mono ?_;rintro e V ⟨rfl,hbv⟩;have hU:=zae hU hbv;obtain⟨q0,⟨x0,x1,x2,x3,x4⟩,⟨y0,y1,y2,y3,y4⟩⟩:=HX.out _ hU))
     go_ret;exact⟨by rw[HR.out];try rfl,zae HB1.out hU⟩
   have t2:(x.kind==2)=false:=Qfz k2;by_cases k3:x.kind=3
   ·have HR:Hid (covers l x y=zdb y zan):=Qaz (by unfold covers;rw[hO,hE,if_neg k2,if_pos k3];rfl);have t3:(x.kind==3)=true:=beq_iff_eq.2 k3;generalize zdb y zan=r at HIB HR;clear k2 k3;go_enter Tryz.func150,Tryz.ntmps150;go_wp2_with (fail);rw[←hW1];clear hW1;go_wp2_with (first
     |(go_at_call 151;with_reducible refine(HIO.out _).mono ?_;rintro e V ⟨rfl,hbv⟩;have hU:=zae hU hbv;obtain⟨q0,⟨x0,x1,x2,x3,x4⟩,⟨y0,y1,y2,y3,y4⟩⟩:=HX.out _ hU)
     |(go_at_call 142;refine(HE.out _).mono ?_;rintro e V ⟨rfl,hbv⟩;have hU:=zae hU hbv;obtain⟨q0,⟨x0,x1,x2,x3,x4⟩,⟨y0,y1,y2,y3,y4⟩⟩:=HX.out _ hU)
     |(go_at_call 151;with_reducible refine(HIB.out _).mono ?_;rintro e V ⟨rfl,hbv⟩;have hU:=zae hU hbv;obtain⟨q0,⟨x0,x1,x2,x3,x4⟩,⟨y0,y1,y2,y3,y4⟩⟩:=HX.out _ hU))
    go_ret;exact⟨by rw[HR.out];try rfl,zae HB1.out hU⟩
   have t3:(x.kind==3)=false:=Qfz k3;by_cases k4:x.kind=4
   ·have HK:Hid (covers l x y=((decide (y.kind=4)&&zbg l x.name y.name)||zdb y zaw)):=Qaz (by unfold covers;rw[hO,hE,if_neg k2,if_neg k3,if_pos k4];rfl);have t4:(x.kind==4)=true:=beq_iff_eq.2 k4;generalize zdb y zaw=r at HIC HK;clear k2 k3 k4;by_cases j2:y.kind=4
    ·have u2:(y.kind==4)=true:=beq_iff_eq.2 j2;cases hB:zbg l x.name y.name with
     |true=>
      have HR:Hid (covers l x y=true):=Qaz (by rw[HK.out,Qhz j2,hB];rfl);rw[hB]at HB;clear j2 hB;go_enter Tryz.func150,Tryz.ntmps150;go_wp2_with (fail);rw[←hW1];clear hW1;go_wp2_with (first
       |(go_at_call 151;with_reducible refine(HIO.out _).mono ?_;rintro e V ⟨rfl,hbv⟩;have hU:=zae hU hbv;obtain⟨q0,⟨x0,x1,x2,x3,x4⟩,⟨y0,y1,y2,y3,y4⟩⟩:=HX.out _ hU)
       |(go_at_call 142;refine(HE.out _).mono ?_;rintro e V ⟨rfl,hbv⟩;have hU:=zae hU hbv;obtain⟨q0,⟨x0,x1,x2,x3,x4⟩,⟨y0,y1,y2,y3,y4⟩⟩:=HX.out _ hU)
       |(go_at_call 151;with_reducible refine(HIC.out _).mono ?_;rintro e V ⟨rfl,hbv⟩;have hU:=zae hU hbv;obtain⟨q0,⟨x0,x1,x2,x3,x4⟩,⟨y0,y1,y2,y3,y4⟩⟩:=HX.out _ hU)
       |(go_at_call 134;refine(HB.out _ hU).mono ?_;rintro e V ⟨rfl,rfl⟩))
      go_ret;exact⟨by rw[HR.out];try rfl,zae HB1.out hU⟩
     |false=>
      have HR:Hid (covers l x y=r):=Qaz (by rw[HK.out,Qhz j2,hB];rfl);rw[hB]at HB;clear j2 hB;go_enter Tryz.func150,Tryz.ntmps150;go_wp2_with (fail);rw[←hW1];clear hW1;go_wp2_with (first
       |(go_at_call 151;with_reducible refine(HIO.out _).mono ?_;rintro e V ⟨rfl,hbv⟩;have hU:=zae hU hbv;obtain⟨q0,⟨x0,x1,x2,x3,x4⟩,⟨y0,y1,y2,y3,y4⟩⟩:=HX.out _ hU)
       |(go_at_call 142;refine(HE.out _).mono ?_;rintro e V ⟨rfl,hbv⟩;have hU:=zae hU hbv;obtain⟨q0,⟨x0,x1,x2,x3,x4⟩,⟨y0,y1,y2,y3,y4⟩⟩:=HX.out _ hU)
       |(go_at_call 151;with_reducible refine(HIC.out _).mono ?_;rintro e V ⟨rfl,hbv⟩;have hU:=zae hU hbv;obtain⟨q0,⟨x0,x1,x2,x3,x4⟩,⟨y0,y1,y2,y3,y4⟩⟩:=HX.out _ hU)
       |(go_at_call 134;refine(HB.out _ hU).mono ?_;rintro e V ⟨rfl,rfl⟩))
      go_ret;exact⟨by rw[HR.out];try rfl,zae HB1.out hU⟩
    ·have u2:(y.kind==4)=false:=Qfz j2;have HR:Hid (covers l x y=r):=Qaz (by rw[HK.out,Qgz j2];rfl);clear j2;go_enter Tryz.func150,Tryz.ntmps150;go_wp2_with (fail);rw[←hW1];clear hW1;go_wp2_with (first
      |(go_at_call 151;with_reducible refine(HIO.out _).mono ?_;rintro e V ⟨rfl,hbv⟩;have hU:=zae hU hbv;obtain⟨q0,⟨x0,x1,x2,x3,x4⟩,⟨y0,y1,y2,y3,y4⟩⟩:=HX.out _ hU)
      |(go_at_call 142;refine(HE.out _).mono ?_;rintro e V ⟨rfl,hbv⟩;have hU:=zae hU hbv;obtain⟨q0,⟨x0,x1,x2,x3,x4⟩,⟨y0,y1,y2,y3,y4⟩⟩:=HX.out _ hU)
      |(go_at_call 151;with_reducible refine(HIC.out _).mono ?_;rintro e V ⟨rfl,hbv⟩;have hU:=zae hU hbv;obtain⟨q0,⟨x0,x1,x2,x3,x4⟩,⟨y0,y1,y2,y3,y4⟩⟩:=HX.out _ hU)
      |(go_at_call 134;refine(HB.out _ hU).mono ?_;rintro e V ⟨rfl,rfl⟩))
     go_ret;exact⟨by rw[HR.out];try rfl,zae HB1.out hU⟩
   ·have HK:Hid (covers l x y=(decide (y.kind=1)&&zbg l x.name y.name)):=Qaz (by unfold covers;rw[hO,hE,if_neg k2,if_neg k3,if_neg k4];rfl);have t4:(x.kind==4)=false:=Qfz k4;clear k2 k3 k4;by_cases j2:y.kind=1
    ·have u2:(y.kind==1)=true:=beq_iff_eq.2 j2;have HR:Hid (covers l x y=zbg l x.name y.name):=Qaz (by rw[HK.out,Qhz j2];rfl);generalize zbg l x.name y.name=r at HB HR HK;clear j2;go_enter Tryz.func150,Tryz.ntmps150;go_wp2_with (fail);rw[←hW1];clear hW1;go_wp2_with (first
      |(go_at_call 151;with_reducible refine(HIO.out _).mono ?_;rintro e V ⟨rfl,hbv⟩;have hU:=zae hU hbv;obtain⟨q0,⟨x0,x1,x2,x3,x4⟩,⟨y0,y1,y2,y3,y4⟩⟩:=HX.out _ hU)
      |(go_at_call 142;refine(HE.out _).mono ?_;rintro e V ⟨rfl,hbv⟩;have hU:=zae hU hbv;obtain⟨q0,⟨x0,x1,x2,x3,x4⟩,⟨y0,y1,y2,y3,y4⟩⟩:=HX.out _ hU)
      |(go_at_call 134;refine(HB.out _ hU).mono ?_;rintro e V ⟨rfl,rfl⟩))
     go_ret;exact⟨by rw[HR.out];try rfl,zae HB1.out hU⟩
    ·have u2:(y.kind==1)=false:=Qfz j2;have HR:Hid (covers l x y=false):=Qaz (by rw[HK.out,Qgz j2];rfl);clear j2;go_enter Tryz.func150,Tryz.ntmps150;go_wp2_with (fail);rw[←hW1];clear hW1;go_wp2_with (first
      |(go_at_call 151;with_reducible refine(HIO.out _).mono ?_;rintro e V ⟨rfl,hbv⟩;have hU:=zae hU hbv;obtain⟨q0,⟨x0,x1,x2,x3,x4⟩,⟨y0,y1,y2,y3,y4⟩⟩:=HX.out _ hU)
      |(go_at_call 142;refine(HE.out _).mono ?_;rintro e V ⟨rfl,hbv⟩;have hU:=zae hU hbv;obtain⟨q0,⟨x0,x1,x2,x3,x4⟩,⟨y0,y1,y2,y3,y4⟩⟩:=HX.out _ hU)
      |(go_at_call 134;refine(HB.out _ hU).mono ?_;rintro e V ⟨rfl,rfl⟩))
     go_ret;exact⟨by rw[HR.out];try rfl,zae HB1.out hU⟩
end
end Go.Proofs.YtepnmejahbiacaaGreat
