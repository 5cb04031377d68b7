/- Part 8 of the proof: Rf, Ns, Nt. -/
import Derived.Maps.OwnIn
import Derived.RangeFuncNested
import Derived.RangeFuncBound
import Derived.TacticsInMore
import Derived.Test.YtepnmejahbiacaaGreatM02
import Derived.Stop.RegionWithIn
import Derived.Laws.EntriesVeiled
set_option linter.unusedVariables false
set_option linter.unusedSimpArgs false
set_option maxHeartbeats 64000000
set_option maxRecDepth 100000
namespace Go.Proofs.YtepnmejahbiacaaGreat
open Go.RowKit
section
section
variable {F:Fence} {n:Nat} {P:Program} {ops:Array Oper} {rest:List Oper} {o:Oper} {a:Act} {Q:Exit→Act→World→Prop}
theorem zla{α:Type}(R:α→List Value→World→Prop)(T sz base bytes:Nat)(G:Nat→Prop)(W:World)(hgd:o.guard=none)(s x:Operand)(t:TypeId)(z:Value)
  (ho:o.op=.call { callee:=.builtin .append,args:= #[s,x],argTypes:= #[t,t] }) (ht:P.underlying t=some (.slice T))
  (hinfo:(P.info? T).map (fun i=>(i.zero,i.size,i.bytes))=some (some z,sz,bytes)) (hz:z.cells.size=sz) (hs0:0<sz) (hb0:0<bytes)
  (v:Value) (l:List α) (hs:a.eval s=v) (hown:Own R T sz base G v l W) (ad:Addr) (c:Nat) (hx:a.eval x=.slice (some ad) 1 c)
  (y:α) (cs:List Value) (hcl:cs.length=sz) (hcs:∀j u,cs[j]? =some u→W.cell? (ad.add j)=some u) (h1:∀u∈cs,u.oneCell'=true) (hR:Held G (R y cs) W)
  (hG:∀b,G b→v.ownBlock≠some b) (hbase:base≤W.heap.size) (hlen:(l.length+1)*bytes≤140737488355328)
  (h:∀v' w',Own R T sz base G v' (l++[y]) w'→W.grownBy w' v.ownBlock→(v'.ownBlock=v.ownBlock∨v'.ownBlock=some W.heap.size)→wpListIn F n P ops Q rest (a.put o.dst v') w'):wpListIn F n P ops Q (o::rest) a W:=by
 obtain⟨i0,hi,hzz⟩:=Option.map_eq_some_iff.1 hinfo;simp only[Prod.mk.injEq]at hzz;obtain⟨hz0,hz1,hz2⟩:=hzz;obtain⟨xs,hrow,henc⟩:=hown;have hl1:l.length+1≤140737488355328:=Nat.le_trans (Nat.le_mul_of_pos_right _ hb0) hlen;refine wpListIn_append_own_at W hgd s x t ho base T i0 z sz bytes ht hi hz0 hz1 hz2 hz hs0 v l.length xs hs hrow ad 1 c cs hx (by rw[hcl];simp) hcs h1 (by simp only[maxLen];omega) hlen hbase ?_;intro v' w' hrow' hg _ hat;refine h v' w' ⟨xs++cs,by simpa using hrow',?_⟩ hg hat;have k:Keep G W w':=Keep.grown hg fun b hb=>fun e=>hG b hb e.symm
 exact .snoc (henc.imp fun _ _ hx=>hx.keep k) (hR.keep k) hcl
end
theorem Own.limit{α:Type}{R:α→List Value→World→Prop}{T sz base:Nat}{G:Nat→Prop}{v:Value}{l:List α}{w:World}(h:Own R T sz base G v l w):Own R T sz base (fun b=>G b∧b<w.heap.size) v l w:=by
 obtain⟨xs,h1,h2⟩:=h;exact⟨xs,h1,h2.imp fun _ _ hx=>hx.lt⟩
theorem Chg.putObj{S:Nat→Prop}(w:World){l:Nat}(hl:S l)(o:Obj):Chg S w (w.putObj l o):=⟨rfl,rfl,rfl,by simp[World.putObj],fun b _ hs=>World.putObj_heap_other (fun e=>hs (by subst e;exact hl))⟩
theorem Keep.putObj{G:Nat→Prop}(w:World){l:Nat}(hl:∀b,G b→b≠l)(o:Obj):Keep G w (w.putObj l o):=⟨by simp[World.putObj],fun b _ hs=>World.putObj_heap_other (hl b hs)⟩
theorem Own.keepG{α:Type}{R:α→List Value→World→Prop}{T sz base:Nat}{G:Nat→Prop}{v:Value}{l:List α}{w w':World}(h:Own R T sz base G v l w)(k:Keep (fun b=>G b∨v.ownBlock=some b) w w'):Own R T sz base G v l w':=
 h.keep (k.mono fun _ h=>.inl h) fun b hb=>k.2 b (h.lt b hb).2 (.inr hb)
theorem zas{W w1:World}{row:Option Nat}(hg:W.grownBy w1 row){a:Addr}{v:Value}(h:W.cell? a=some v)(hr:row≠some a.block):w1.cell? a=some v:=
 (World.cell?_of_block (hg.block _ (cell_lt h) (fun e=>hr e.symm))).trans h
theorem zbc{W w1:World}{row:Option Nat}(hg:W.grownBy w1 row){a:Addr}{v:Value}(h:W.cell? a=some v)(hf:W.frozen? a=false)(hr:row≠some a.block):w1.frozen? a=false:=
 (World.frozen?_of_block (hg.block _ (cell_lt h) (fun e=>hr e.symm))).trans hf
theorem zk0{W w1:World}{row:Option Nat}(hg:W.grownBy w1 row){b:Nat}{o:Obj}(h:W.heap[b]? =some o)(hr:row≠some b):w1.heap[b]? =some o:=
 (hg.block _ (Array.getElem?_eq_some_iff.1 h).1 (fun e=>hr e.symm)).trans h
theorem zbe{W:World}{o:Obj}{a:Addr}{v:Value}(h:W.cell? a=some v):(W.alloc o).cell? a=some v:=zaa h ((Below.refl _ _).alloc (Qiz _) _)
theorem zb4{W:World}{o:Obj}{a:Addr}{v:Value}(h:W.cell? a=some v)(hf:W.frozen? a=false):(W.alloc o).frozen? a=false:=(World.frozen?_of_block (Below.heap_alloc _ _ _ (cell_lt h))).trans hf
theorem zh7{W:World}{o o':Obj}{b:Nat}(h:W.heap[b]? =some o'):(W.alloc o).heap[b]? =some o':=(Below.heap_alloc _ _ _ (Array.getElem?_eq_some_iff.1 h).1).trans h
def z2k(fn:FuncId)(tmps:Array Value)(ps:Array Tmp)(assign body:Code)(d:Nat)(pe:Option Code)(st:LoopState):Obj:=.loop { state:=st,pending:=pe,fn,tmps,params:=ps,assign,body,defers:=d }
section
variable {F:Fence} {n:Nat} {P:Program} {a:Act} {w:World} {Q:Exit→Act→World→Prop}
theorem ze2{g:Operand}{ps:Array Tmp}{assign body:Code}(hro:F.round=none)(h1:F.depth.isSome=true→1≤n){gf:Nat}{lb:Array Value}(hg:a.eval g=.func (.func gf) #[] lb)(hFg:F.fn gf)
  (eg:∀args w,(callFunc gf args).run P w=.ok (.enter gf args) w)
  (h:∀fn,F.fn fn→CallsIn F (n-1) P gf (#[.func (.yield (w.heap.size+1)) #[] #[]]++lb) ((w.alloc (.deferred (some []))).alloc (z2k fn a.tmps ps assign body w.heap.size none .ready))
    (rangePost F n P (w.heap.size+1) Q { a with defers:=[{ target:=.collected w.heap.size,args:= #[] }]++a.defers })):
  (Code.rangeFunc g ps assign body).wpIn F n P Q a w:=by
 refine wpIn_rangeFunc ?_;intro fn hfn;rw[hro];have hw:=run_enterLoop_outer (P:=P) (w:=w) fn a.tmps ps assign body;have hh:=h fn hfn;clear h;obtain⟨W1,hW1⟩:∃W1,W1=(w.alloc (.deferred (some []))).alloc (z2k fn a.tmps ps assign body w.heap.size none .ready):=⟨_,rfl⟩;replace hw:(Instr.enterLoop fn a.tmps ps assign body none).run P w=.ok (w.heap.size+1,[{ target:=.collected w.heap.size,args:= #[] }]) W1:=by rw[hW1];exact hw
 rw[←hW1]at hh;clear hW1;refine⟨w.heap.size+1,[{ target:=.collected w.heap.size,args:= #[] }],W1,{ target:=.fn (.func gf) lb,args:= #[.func (.yield (w.heap.size+1)) #[] #[]] },W1,gf,
  #[.func (.yield (w.heap.size+1)) #[] #[]]++lb,W1,hw,?_,?_,?_,h1,?_⟩
 ·simp only[resolve,hg];simp[go_sem]
 ·intro f' hf';simp[Target.leads]at hf';subst hf';exact hFg
 ·simp[invoke,go_sem,eg]
 ·exact hh
def roundEnd(l:Nat)(rec:Option Code→LoopState→Obj)(R:Ending→World→Prop):Exit→Act→World→Prop
 | .normal,_,w=>w.heap[l]? =some (rec none .busy)∧R (.returned (.bool true)) (w.putObj l (rec none .ready))
 | .ret,_,w=>w.heap[l]? =some (rec none .busy)∧R (.returned (.bool false)) (w.putObj l (rec (some .ret) .done))
 | .exit id,_,w=>w.heap[l]? =some (rec none .busy)∧R (.returned (.bool false)) (w.putObj l (rec (some (.exit id)) .done))
 |_,_,_=>False
theorem zh1{l:Nat}{fn:FuncId}{d:Nat}{args:Array Value}{W:World}{R:Ending→World→Prop}{tmps:Array Value}{ps:Array Tmp}{assign body:Code}
  {rec:Option Code→LoopState→Obj} (hrec:z2k fn tmps ps assign body d=rec) (hfn:F.fn fn) (hl:W.heap[l]? =some (rec none .ready)) (hs:args.size=ps.size) {tmps':Array Value} (ht:(ps.zip args).foldl (fun t (p,v)=>t.setIfInBounds p v) tmps=tmps')
  (h:assign.wpIn (F.inRound l) n P (Exit.then (fun a₁ w₁=>w₁.heap[l]? =some (rec none .ready)∧body.wpIn (F.inRound l) n P (roundEnd l rec R) a₁ (w₁.putObj l (rec none .busy))) (fun _ _ _=>False))
   { tmps:=tmps',defers:=[] } W):
  YieldAt F n P l args W R:=by
 subst hrec;subst ht;refine⟨_,_,_,_,run_yield hl hs,roundIn_of_wpIn hfn (wpIn_mono h ?_)⟩;rintro e a₁ w₁ hp;cases e with
 |normal=>
  obtain⟨hl1,hb⟩:=hp;refine⟨_,run_beginRound hl1 rfl,wpIn_mono hb ?_⟩;rintro e a₂ w₂ hp;cases e with
  |normal=>exact⟨_,_,run_endRound none hp.1,hp.2⟩
  |ret=>exact⟨_,_,run_endRound (some .ret) hp.1,hp.2⟩
  |exit id=>exact⟨_,_,run_endRound (some (.exit id)) hp.1,hp.2⟩
  |goto t=>exact hp.elim
  |panic c=>exact hp.elim
  |outgrown=>exact hp.elim
 |ret=>exact hp.elim
 |exit id=>exact hp.elim
 |goto t=>exact hp.elim
 |panic c=>exact hp.elim
 |outgrown=>exact hp.elim
end
end
structure YieldsN (P:Program) (l:Nat) (S:Nat→Prop) (Mx:Nat) (J:Nat→World→Prop) (K:World→Prop):Prop where
 stay:∀m W W',J m W→Below W.heap.size W W'→J m W'
 on:∀(n m:Nat) W (t:Ty) A c (d:Nat),J m W→m<Mx→d≤100→Held (fun b=>¬S b) (Typs A t.args) W→t.args.length≤c→
  YieldAt Fence.wide n P l #[.int .i64 (d:Int),tyV t A c] W fun e W'=>e=.returned (.bool true)∧J (m+1) W'∧Chg S W W'
 off:∀(n m:Nat) W (t:Ty) A c (d:Nat),J m W→m<Mx→d=101→Held (fun b=>¬S b) (Typs A t.args) W→t.args.length≤c→
  YieldAt Fence.wide n P l #[.int .i64 (d:Int),tyV t A c] W fun e W'=>e=.returned (.bool false)∧K W'∧Chg S W W'
def zzg(S:Nat→Prop)(J:Nat→World→Prop)(K:World→Prop)(t:Ty)(d m:Nat)(W:World)(e:Ending)(W':World):Prop:=
 Chg S W W'∧((t.deep (101-d)=false∧e=.returned (.bool true)∧J (m+t.count) W')∨(t.deep (101-d)=true∧e=.returned (.bool false)∧K W'))
theorem zzp{l:List Ty}{i:Nat}{x:Ty}(h:l[i]? =some x):((l.take (i+1)).map Ty.count).sum=((l.take i).map Ty.count).sum+x.count:=by
 rw[take_snoc h,List.map_append,List.sum_append];simp
theorem zso(l:List Ty)(i:Nat):((l.take i).map Ty.count).sum≤(l.map Ty.count).sum:=by
 conv=>rhs;rw[←List.take_append_drop i l,List.map_append,List.sum_append]
 omega
theorem Ty.deep_zero(t:Ty):t.deep 0=true:=by cases t;rw[Ty.deep]
theorem zvs(l yb eb N:Nat)(S:Nat→Prop)(hSN:∀b,S b→b<N)(hyb:¬S yb)(heb:¬S eb)(Mx:Nat)(J:Nat→World→Prop)(K:World→Prop)(HY:YieldsN Tryz.prog l S Mx J K):
  ∀(q:Nat)(t:Ty),t.count≤q→∀(d m:Nat)(A:Option Addr)(c:Nat)(W:World),1≤d→d≤101→J m W→m+t.count≤Mx→N≤W.heap.size→Held (fun b=>¬S b) (Typs A t.args) W→t.args.length≤c→t.args.length≤1000000→
   t.all (fun x=>decide (x.args.length≤1000000))=true→
   W.cell? ⟨yb,0,none⟩=some (.func (.yield l) #[] #[])→W.cell? ⟨eb,0,none⟩=some (.func (.func 193) #[] #[.pointer (some ⟨yb,0,none⟩),.pointer (some ⟨eb,0,none⟩)])→
   Calls Tryz.prog 193 #[tyV t A c,.int .i64 (d:Int),.pointer (some ⟨yb,0,none⟩),.pointer (some ⟨eb,0,none⟩)] W (zzg S J K t d m W):=by
 intro q
 induction q with
 |zero=>intro t h;have:=t.count_pos;omega
 |succ q ih=>
  intro t hq d m A c W hd1 hd2 hJ hm hN hA hc hl hall hy0 he0;have hcp:=t.count_pos;have t1:decide ((101:Int)<(d:Int))=false:=Qgz (by omega);have byl:=cell_lt hy0;have bel:=cell_lt he0;have hnS0:¬S W.heap.size:=fun h=>by have:=hSN _ h;omega
  have hnS:¬S (W.heap.size+1):=fun h=>by have:=hSN _ h;omega
  obtain⟨W1,hW1⟩:∃W1,W1=(W.alloc (.cells #[.int .i64 t.kind,.string t.name,.int .i64 t.lo,.int .i64 t.hi,.slice A t.args.length c] 36)).alloc (.cells #[.int .i64 (d:Int)] 3):=⟨_,rfl⟩;have hb1:Below W.heap.size W W1:=by rw[hW1];exact((Below.refl _ W).alloc (Qiz _) _).alloc (by simp) _
  by_cases h101:d=101
  ·obtain⟨fn,tm,asg,bd,hy,hR⟩:=HY.off 8 m W1 t A c d (HY.stay _ _ _ hJ hb1) (by omega) h101 (hA.keep (Keep.all hb1)) hc;subst hW1;have H101:=Qaz h101;clear h101;refine(callsIn_wide (n:=9)).1 ?_;refine callsIn_of_wp Tryz.func193 rfl trivial ?_;simp only[Tryz.ntmps193,List.size_toArray,List.length_cons,List.length_nil,Nat.reduceAdd,Nat.reduceSub,Array.replicate_succ,Array.replicate_zero,List.push_toArray,List.append_toArray,List.nil_append,List.cons_append]
   gi_wp2_with (first|(refine hR.mono ?_;rintro e W2 ⟨rfl,hK2,hc2⟩)|(refine⟨trivial,?_⟩))
   go_ret;exact⟨(Chg.of hb1).trans hc2,.inr ⟨by rw[H101.out];exact Ty.deep_zero t,rfl,hK2⟩⟩
  ·have hd100:d≤100:=by omega
   obtain⟨fn,tm,asg,bd,hy,hR⟩:=HY.on 8 m W1 t A c d (HY.stay _ _ _ hJ hb1) (by omega) hd100 (hA.keep (Keep.all hb1)) hc;have hd1c:W1.cell? ⟨W.heap.size+1,0,none⟩=some (.int .i64 (d:Int)):=by rw[hW1];exact zac (W.alloc _) _ _ _ (by simp) 0 _ rfl
   have hd4c:W1.cell? ⟨W.heap.size,4,none⟩=some (.slice A t.args.length c):=by rw[hW1];exact zbe (zac W _ _ _ rfl 4 _ rfl)
   have hs1:W1.heap.size=W.heap.size+1+1:=by rw[hW1];simp
   obtain⟨b,off,hbo⟩:∃b off,0<t.args.length→A=some ⟨b,off,none⟩:=by
    by_cases h0:0<t.args.length
    ·obtain⟨b,off,e⟩:=Slc.addrH hA h0;exact⟨b,off,fun _=>e⟩
    ·exact⟨0,0,fun h=>absurd h h0⟩
   have HCF:∀W2,J (m+1) W2→Chg S W1 W2→Calls Tryz.prog 101 #[.slice A t.args.length c,.func (.func 194) #[] #[.pointer (some ⟨eb,0,none⟩),.pointer (some ⟨W.heap.size+1,0,none⟩)]] W2
     (zlz (fun i wr=>Chg S W2 wr∧(∀j x,j<i→t.args[j]? =some x→x.deep (100-d)=false)∧J (m+1+((t.args.take i).map Ty.count).sum) wr) (fun i wr=>Chg S W2 wr∧(∃x,t.args[i]? =some x∧x.deep (100-d)=true)∧K wr) (Panics fun _ _=>False) t.args.length):=by
    intro W2 hJ2 hc2;have hc02:Chg S W W2:=(Chg.of hb1).trans hc2;have hA2:Held (fun b=>¬S b) (Typs A t.args) W2:=hA.keep (hc02.keep fun b h=>h);have hs2:=hc2.size;refine zdp A t.args.length c 194 _ (fun i=>(t.args[i]?.map fun x=>Value.int .i64 x.kind).getD undef) (fun i=>(t.args[i]?.map fun x=>Value.string x.name).getD undef) (fun i=>(t.args[i]?.map fun x=>Value.int .i64 x.lo).getD undef) (fun i=>(t.args[i]?.map fun x=>Value.int .i64 x.hi).getD undef)
     (fun i=>(W2.cell? ⟨b,off+i*5+4,none⟩).getD undef) W2 (by omega) (enters Tryz.func194 (by kernel_rfl) rfl) _ _ _ ⟨Chg.refl _ _,fun j x hj=>absurd hj (by omega),by simpa using hJ2⟩ (fun h0=>⟨b,off,hbo h0⟩) ?_ ?_
    ·rintro i wr b' off' rfl hi ⟨hcw,_⟩;have hb':=hbo (by omega);simp only[Option.some.injEq,Addr.mk.injEq,and_true]at hb';obtain⟨rfl,rfl⟩:=hb';have hx:t.args[i]? =some t.args[i]:=Qbz hi;have kw:Keep (fun b=>¬S b) W2 wr:=hcw.keep fun b h=>h;obtain⟨A5,c5,p1,p2,g0,g1,g2,g3,g4⟩:=Typs.atH hA2 hx;have hSb:=(Slc.inG hA2 (by omega) (by decide)).2;simp only[hx,Option.map_some,Option.getD_some,g4];exact⟨zah g0 kw hSb,zah g1 kw hSb,zah g2 kw hSb,zah g3 kw hSb,zah g4 kw hSb⟩
    ·rintro i wr hi ⟨hcw,hjw,hJw⟩;have hb':=hbo (by omega);subst hb';have hx:t.args[i]? =some t.args[i]:=Qbz hi;generalize t.args[i]=x at hx;have hmem:x∈t.args:=Qdz hx;have kw:Keep (fun b=>¬S b) W2 wr:=hcw.keep fun b h=>h;obtain⟨A5,c5,p1,p2,g0,g1,g2,g3,g4⟩:=Typs.atH hA2 hx;simp only[hx,Option.map_some,Option.getD_some,g4];have hsw:=hcw.size;have st:=zzp hx;have stl:=zso t.args (i+1);have hall2:x.all (fun x=>decide (x.args.length≤1000000))=true:=by
      rw[Ty.all_args]at hall;simp only[Bool.and_eq_true,List.all_eq_true]at hall;exact hall.2 x hmem
     have hxl:x.args.length≤1000000:=by
      rw[Ty.all_args]at hall2;simp only[Bool.and_eq_true,decide_eq_true_eq]at hall2;exact hall2.1
     have hcnt:=Ty.count_mem hmem;have hcargs:=t.count_args;have e0:=zah he0 (hc02.keep (G:=fun b=>¬S b) fun b h=>h) heb;have e1:=zah e0 kw heb;have d1:=zah hd1c (hc2.keep (G:=fun b=>¬S b) fun b h=>h) hnS;have d2:=zah d1 kw hnS;have y1:=zah (zah hy0 (hc02.keep (G:=fun b=>¬S b) fun b h=>h) hyb) kw hyb;have hs02:=hc02.size;obtain⟨V,hV⟩:∃V,V=wr.alloc (.cells #[.int .i64 x.kind,.string x.name,.int .i64 x.lo,.int .i64 x.hi,.slice A5 x.args.length c5] 36):=⟨_,rfl⟩;have bV:Below wr.heap.size wr V:=by rw[hV];exact(Below.refl _ wr).alloc (Qiz _) _
     have HI:=Qaz (ih x (by omega) (d+1) (m+1+((t.args.take i).map Ty.count).sum) A5 c5 V (by omega) (by omega) (HY.stay _ _ _ hJw bV) (by omega) (by have:=bV.size;omega) ((p2.keep kw).keep (Keep.all bV)) p1 hxl hall2 (zaa y1 bV) (zaa e1 bV));have ewl:=cell_lt e1;have dwl:=cell_lt d2;subst hV;show Calls _ _ #[.agg #[.int .i64 x.kind,.string x.name,.int .i64 x.lo,.int .i64 x.hi,.slice A5 x.args.length c5],.pointer (some ⟨eb,0,none⟩),.pointer (some ⟨W.heap.size+1,0,none⟩)] _ _;clear ih hA hA2 hall hall2 hJ hJ2 hJw hy hR HY;go_enter Tryz.func194,Tryz.ntmps194;go_wp2_with (fail);have HI':=HI.out
     rw[show(((d+1:Nat)):Int)=(d:Int)+1 by omega]at HI';refine HI'.mono ?_;clear HI HI';rintro e V ⟨hcv,(⟨r1,rfl,r2⟩|⟨r1,rfl,r2⟩)⟩
     ·have hcV:=hcw.trans ((Chg.of bV).trans hcv);go_wp2;go_ret;refine .inl ⟨rfl,hcV,fun j z hj hz=> ?_,?_⟩
      ·rcases Nat.lt_or_ge j i with h|h
       ·exact hjw j z h hz
       ·obtain rfl:j=i:=by omega
        rw[hx]at hz;cases hz
        rwa [show 101-(d+1)=100-d by omega]at r1
      ·rw[st];rwa [Nat.add_assoc]at r2
     ·have hcV:=hcw.trans ((Chg.of bV).trans hcv);go_wp2;go_ret;refine .inr (.inl ⟨rfl,hcV,⟨x,hx,?_⟩,r2⟩)
      rwa [show 101-(d+1)=100-d by omega]at r1
   have hdp:=Ty.deep_args (100-d) t;rw[show 100-d+1=101-d by omega]at hdp;have HDP:=Qaz hdp;have HCF1:=Qaz HCF;subst hW1;clear ih hA hall hdp HCF;refine(callsIn_wide (n:=9)).1 ?_;refine callsIn_of_wp Tryz.func193 rfl trivial ?_;simp only[Tryz.ntmps193,List.size_toArray,List.length_cons,List.length_nil,Nat.reduceAdd,Nat.reduceSub,Array.replicate_succ,Array.replicate_zero,List.push_toArray,List.append_toArray,List.nil_append,List.cons_append]
   gi_wp2_with (refine hR.mono ?_;rintro e W2 ⟨rfl,hJ2,hc2⟩;have dd4:=zah hd4c (hc2.keep (G:=fun b=>¬S b) fun b h=>h) hnS0)
   refine⟨trivial,?_⟩;refine(callsIn_wide.2 (HCF1.out W2 hJ2 hc2)).mono ?_;have hC:=(Chg.of (S:=S) hb1).trans hc2;rintro e W3 (⟨rfl,a1,a2,a3⟩|⟨i,a0,rfl,a1,⟨x,a2,a3⟩,a4⟩|⟨_,_,h⟩)
   ·have hCf:=hC.trans a1;have hdp:t.deep (101-d)=false:=by
     rw[HDP.out,List.any_eq_false];intro x hx;obtain⟨j,hj⟩:=Qez hx;rw[a2 j x (Qcz hj).1 hj];simp
    have HD:=Qaz hdp;rw[List.take_length]at a3;have HJ3:=Qaz a3;clear hdp a2 a3
    gi_wp2
    go_ret;exact⟨hCf,.inl ⟨HD.out,rfl,by have:=HJ3.out;rw[Ty.count_args];rwa [show m+(1+(t.args.map Ty.count).sum)=m+1+(t.args.map Ty.count).sum by omega]⟩⟩
   ·have hCf:=hC.trans a1;have HD:Hid (t.deep (101-d)=true):=Qaz (by rw[HDP.out];exact List.any_eq_true.2 ⟨x,Qdz a2,a3⟩);clear a2 a3
    gi_wp2
    go_ret;exact⟨hCf,.inr ⟨HD.out,rfl,a4⟩⟩
   ·exact h.elim
section
attribute [local go_sem] Oper.semAt_some
theorem zpr(l tb N:Nat)(S:Nat→Prop)(hSN:∀b,S b→b<N)(htbS:¬S tb)(Mx:Nat)(J:Nat→World→Prop)(K:World→Prop)(HY:YieldsN Tryz.prog l S Mx J K)
  (t:Ty) (m:Nat) (A:Option Addr) (c:Nat) (W:World) (hJ:J m W) (hm:m+t.count≤Mx) (hN:N≤W.heap.size) (hA:Held (fun b=>¬S b) (Typs A t.args) W) (hc:t.args.length≤c)
  (hall:t.all (fun x=>decide (x.args.length≤1000000))=true)
  (ht0:W.cell? ⟨tb,0,none⟩=some (.int .i64 t.kind)) (ht1:W.cell? ⟨tb,1,none⟩=some (.string t.name)) (ht2:W.cell? ⟨tb,2,none⟩=some (.int .i64 t.lo)) (ht3:W.cell? ⟨tb,3,none⟩=some (.int .i64 t.hi)) (ht4:W.cell? ⟨tb,4,none⟩=some (.slice A t.args.length c)):
  Calls Tryz.prog 192 #[.func (.yield l) #[] #[],.pointer (some ⟨tb,0,none⟩)] W fun e W'=>Chg S W W'∧(∃v,e=.returned v)∧((t.deep 100=false∧J (m+t.count) W')∨(t.deep 100=true∧K W')):=by
 have htl:=cell_lt ht0;have hl:t.args.length≤1000000:=by
  rw[Ty.all_args]at hall;simp only[Bool.and_eq_true,decide_eq_true_eq]at hall;exact hall.1
 have hmf:∀(fn:Fn)(first cap:Array Value)(w:World),(Instr.makeFunc fn first cap).run Tryz.prog w=.ok (.func fn first cap) w:=fun _ _ _ _=>rfl;obtain⟨V,hV⟩:∃V,V=(W.alloc (.cells #[.func (.yield l) #[] #[]] 221)).alloc (.cells #[.func (.func 193) #[] #[.pointer (some ⟨W.heap.size,0,none⟩),.pointer (some ⟨W.heap.size+1,0,none⟩)]] 222):=⟨_,rfl⟩;have bV:Below W.heap.size W V:=by rw[hV];exact((Below.refl _ W).alloc (Qiz _) _).alloc (by simp) _
 have y0:V.cell? ⟨W.heap.size,0,none⟩=some (.func (.yield l) #[] #[]):=by rw[hV];exact zbe (zac W _ _ _ rfl 0 _ rfl)
 have y1:V.cell? ⟨W.heap.size+1,0,none⟩=some (.func (.func 193) #[] #[.pointer (some ⟨W.heap.size,0,none⟩),.pointer (some ⟨W.heap.size+1,0,none⟩)]):=by rw[hV];exact zac (W.alloc _) _ _ _ (by simp) 0 _ rfl
 have HE:=Qaz (zvs l W.heap.size (W.heap.size+1) N S hSN (fun h=>by have:=hSN _ h;omega) (fun h=>by have:=hSN _ h;omega) Mx J K HY t.count t (Qiz _) 1 m A c V (by omega) (by omega) (HY.stay _ _ _ hJ bV) hm (by have:=bV.size;omega) (hA.keep (Keep.all bV)) hc hl hall y0 y1);have t0:=zaa ht0 bV;have t1:=zaa ht1 bV;have t2:=zaa ht2 bV;have t3:=zaa ht3 bV;have t4:=zaa ht4 bV;clear hJ hA HY hall y0;subst hV;go_enter Tryz.func192,Tryz.ntmps192;go_wp2_with (fail);refine HE.out.mono ?_;clear HE;rintro e V ⟨hcv,(⟨r1,rfl,r2⟩|⟨r1,rfl,r2⟩)⟩
 ·have hcf:=(Chg.of bV).trans hcv;go_wp2
  go_end0
  exact⟨hcf,⟨_,rfl⟩,.inl ⟨r1,r2⟩⟩
 ·have hcf:=(Chg.of bV).trans hcv;go_wp2
  go_end0
  exact⟨hcf,⟨_,rfl⟩,.inr ⟨r1,r2⟩⟩
theorem zr6(t:Ty)(A:Option Addr)(c:Nat)(W:World):Calls Tryz.prog 161 #[tyV t A c] W fun e W'=>
  e=.returned (.func (.func 192) #[] #[.pointer (some ⟨W.heap.size,0,none⟩)])∧W'=W.alloc (.cells #[.int .i64 t.kind,.string t.name,.int .i64 t.lo,.int .i64 t.hi,.slice A t.args.length c] 36):=by
 have hmf:∀(fn:Fn)(first cap:Array Value)(w:World),(Instr.makeFunc fn first cap).run Tryz.prog w=.ok (.func fn first cap) w:=fun _ _ _ _=>rfl;go_enter Tryz.func161,Tryz.ntmps161;go_wp2;go_ret;exact⟨rfl,rfl⟩
def zcm(t:Ty):Int:=if t.deep 100 then 6 else if 1000<t.count then 2 else 0
theorem zqc(t:Ty)(A:Option Addr)(c:Nat)(W0:World)(G:Nat→Prop)(hA:Held G (Typs A t.args) W0)(hc:t.args.length≤c)(hall:t.all (fun x=>decide (x.args.length≤1000000))=true)(hcnt:t.count≤1000000000):
  Calls Tryz.prog 112 #[tyV t A c] W0 fun e w'=>e=.returned (.int .i64 (zcm t))∧Below W0.heap.size W0 w':=by
 obtain⟨N,hN⟩:∃N,N=W0.heap.size:=⟨_,rfl⟩;refine(callsIn_wide (n:=10)).1 ?_;refine callsIn_of_wp_marks Tryz.func112 rfl trivial ?_;simp only[Tryz.ntmps112,List.size_toArray,List.length_cons,List.length_nil,Nat.reduceAdd,Nat.reduceSub,Array.replicate_succ,Array.replicate_zero,List.push_toArray,List.append_toArray,List.nil_append,List.cons_append]
 gi_wp2
 refine⟨trivial,?_⟩;refine(callsIn_wide.2 (zr6 t A c _)).mono ?_;rintro e w1 ⟨rfl,rfl⟩;rw[World.size_alloc,World.size_alloc,World.size_alloc,←hN];obtain⟨w4,hw4⟩:∃w4,w4=((((W0.alloc (.cells #[.int .i64 t.kind,.string t.name,.int .i64 t.lo,.int .i64 t.hi,.slice A t.args.length c] 36)).alloc (.cells #[.int .i64 0] 28)).alloc (.cells #[.int .i64 0] 3)).alloc (.cells #[.int .i64 t.kind,.string t.name,.int .i64 t.lo,.int .i64 t.hi,.slice A t.args.length c] 36)):=⟨_,rfl⟩;rw[←hw4];have s4:w4.heap.size=N+4:=by rw[hw4,hN];simp
 have b4:Below W0.heap.size W0 w4:=by rw[hw4];exact((((Below.refl _ W0).alloc (Qiz _) _).alloc (by simp) _).alloc (by simp;omega) _).alloc (by simp;omega) _
 have c1:w4.cell? ⟨N+1,0,none⟩=some (.int .i64 0):=by rw[hw4];exact zbe (zbe (zac (W0.alloc _) _ _ _ (by simp[hN]) 0 _ rfl))
 have c2:w4.cell? ⟨N+2,0,none⟩=some (.int .i64 0):=by rw[hw4];exact zbe (zac ((W0.alloc _).alloc _) _ _ _ (by simp[hN]) 0 _ rfl)
 have hz:∀(W:World)(u:Value)(T:Nat)(n:Nat),n=W.heap.size→(W.alloc (.cells #[u] T)).frozen? ⟨n,0,none⟩=false:=fun W u T n hn=>by subst hn;unfold World.frozen?;rw[heap_alloc_new];rfl
 have z1:w4.frozen? ⟨N+1,0,none⟩=false:=by
  rw[hw4];have q0:=zac (W0.alloc (.cells #[.int .i64 t.kind,.string t.name,.int .i64 t.lo,.int .i64 t.hi,.slice A t.args.length c] 36)) #[.int .i64 0] 28 (N+1) (by simp[hN]) 0 _ rfl;exact zb4 (zbe q0) (zb4 q0 (hz _ _ _ _ (by simp[hN])))
 have z2:w4.frozen? ⟨N+2,0,none⟩=false:=by
  rw[hw4];have q0:=zac ((W0.alloc (.cells #[.int .i64 t.kind,.string t.name,.int .i64 t.lo,.int .i64 t.hi,.slice A t.args.length c] 36)).alloc (.cells #[.int .i64 0] 28)) #[.int .i64 0] 3 (N+2) (by simp[hN]) 0 _ rfl;exact zb4 q0 (hz _ _ _ _ (by simp[hN]))
 have ct:∀j u,[Value.int .i64 t.kind,.string t.name,.int .i64 t.lo,.int .i64 t.hi,.slice A t.args.length c][j]? =some u→w4.cell? ⟨N+3,j,none⟩=some u:=fun j u hj=>by rw[hw4];exact zac _ _ _ _ (by simp[hN]) j u hj
 have hA4:Held (fun b=>b<N) (Typs A t.args) w4:=(hA.lt.keep (Keep.all b4)).mono fun b _ h=>by rw[hN];exact h.2
 have HN:=Qaz hN;clear hw4 hA hz hN
 gi_wp2
 refine ze2 rfl (by simp) rfl trivial (enters Tryz.func192 (by kernel_rfl) rfl) ?_;intro fn _;rw[s4];generalize hrec:z2k fn _ _ _ _ (N+4)=rec;have hBS:∀b,(b=N+1∨b=N+2∨b=N+4∨b=N+5)→b<N+6:=fun b h=>by omega
 have bW:Below w4.heap.size w4 ((w4.alloc (.deferred (some []))).alloc (rec none .ready)):=((Below.refl _ w4).alloc (Qiz _) _).alloc (by simp) _;have hs2:((w4.alloc (.deferred (some []))).alloc (rec none .ready)).heap.size=N+6:=by simp[s4]
 refine(callsIn_wide.2 (zpr (N+5) (N+3) (N+6) (fun b=>b=N+1∨b=N+2∨b=N+4∨b=N+5) hBS (by omega) 2000000000
  (fun m W=>W.heap[N+5]? =some (rec none .ready)∧W.heap[N+4]? =some (.deferred (some []))∧W.cell? ⟨N+2,0,none⟩=some (.int .i64 (m:Int))∧W.frozen? ⟨N+2,0,none⟩=false∧W.cell? ⟨N+1,0,none⟩=some (.int .i64 0)∧W.frozen? ⟨N+1,0,none⟩=false)
  (fun W=>W.heap[N+5]? =some (rec (some .ret) .done)∧W.heap[N+4]? =some (.deferred (some []))∧W.cell? ⟨N+1,0,none⟩=some (.int .i64 6))
  ⟨?stay,?on,?off⟩ t 0 A c _ ⟨?j1,?j2,?j3,?j4,?j5,?j6⟩ (by omega) (by omega) ?hA hc hall ?t0 ?t1 ?t2 ?t3 ?t4)).mono ?_
 case t0=>exact zaa (ct 0 _ rfl) bW
 case t1=>exact zaa (ct 1 _ rfl) bW
 case t2=>exact zaa (ct 2 _ rfl) bW
 case t3=>exact zaa (ct 3 _ rfl) bW
 case t4=>exact zaa (ct 4 _ rfl) bW
 case hA=>exact(hA4.keep (Keep.all bW)).mono fun b _ h=>by omega
 case j1=>
  have:=World.alloc_heap_new (w4.alloc (.deferred (some []))) (rec none .ready)
  rwa [World.size_alloc,s4]at this
 case j2=>
  have:=World.alloc_heap_new w4 (.deferred (some []));rw[s4]at this;exact zh7 this
 case j3=>exact zaa c2 bW
 case j4=>exact zb4 (zbe c2) (zb4 c2 z2)
 case j5=>exact zaa c1 bW
 case j6=>exact zb4 (zbe c1) (zb4 c1 z1)
 case stay=>
  rintro m W W' ⟨h1,h2,h3,h4,h5,h6⟩ hb;have bl:∀b,b<W.heap.size→W'.heap[b]? =W.heap[b]? :=hb.block;exact⟨(bl _ (Array.getElem?_eq_some_iff.1 h1).1).trans h1,(bl _ (Array.getElem?_eq_some_iff.1 h2).1).trans h2,zaa h3 hb,(World.frozen?_of_block (a:=⟨N+2,0,none⟩) (bl _ (cell_lt h3))).trans h4,zaa h5 hb,(World.frozen?_of_block (a:=⟨N+1,0,none⟩) (bl _ (cell_lt h5))).trans h6⟩
 case on=>
  rintro n m W t' A' c' d ⟨h1,h2,h3,h4,h5,h6⟩ hm hd _ _;refine zh1 hrec trivial h1 rfl (by simp;rfl) ?_;clear hrec;have t1:decide ((100:Int)<(d:Int))=false:=Qgz (by omega);have l1:=(Array.getElem?_eq_some_iff.1 h1).1
  gi_wp2
  refine⟨h1,?_⟩;obtain⟨Wb,hWb⟩:∃Wb,Wb=W.putObj (N+5) (rec none .busy):=⟨_,rfl⟩;rw[←hWb];have g1:Wb.heap[N+5]? =some (rec none .busy):=by rw[hWb];exact World.putObj_heap_same l1
  have g2:Wb.heap[N+4]? =some (.deferred (some [])):=by rw[hWb];exact(World.putObj_heap_other (by omega)).trans h2
  have k1:Wb.heap[N+1]? =W.heap[N+1]? :=by rw[hWb];exact World.putObj_heap_other (by omega)
  have k2:Wb.heap[N+2]? =W.heap[N+2]? :=by rw[hWb];exact World.putObj_heap_other (by omega)
  have g3:Wb.cell? ⟨N+2,0,none⟩=some (.int .i64 (m:Int)):=(World.cell?_of_block (a:=⟨N+2,0,none⟩) k2).trans h3;have g4:Wb.frozen? ⟨N+2,0,none⟩=false:=(World.frozen?_of_block (a:=⟨N+2,0,none⟩) k2).trans h4;have g5:Wb.cell? ⟨N+1,0,none⟩=some (.int .i64 0):=(World.cell?_of_block (a:=⟨N+1,0,none⟩) k1).trans h5;have g6:Wb.frozen? ⟨N+1,0,none⟩=false:=(World.frozen?_of_block (a:=⟨N+1,0,none⟩) k1).trans h6;have cb:Chg (fun b=>b=N+1∨b=N+2∨b=N+4∨b=N+5) W Wb:=by rw[hWb];exact Chg.putObj (S:=fun b=>b=N+1∨b=N+2∨b=N+4∨b=N+5) W (by omega) _
  clear hWb h1 h2 h3 h4 h5 h6 k1 k2 l1
  gi_wp2
  obtain⟨Wc,hWc⟩:∃Wc,Wc=Wb.setCell ⟨N+2,0,none⟩ (.int .i64 ((m:Int)+1)):=⟨_,rfl⟩;show roundEnd (N+5) rec _ .normal _ (Wb.setCell ⟨N+2,0,none⟩ (.int .i64 ((m:Int)+1)));rw[←hWc];have e1:Wc.heap[N+5]? =some (rec none .busy):=by rw[hWc];exact(Below.heap_setCell Wb ⟨N+2,0,none⟩ _ (N+5) (by show N+5≠N+2;omega)).trans g1
  have e2:Wc.heap[N+4]? =some (.deferred (some [])):=by rw[hWc];exact(Below.heap_setCell Wb ⟨N+2,0,none⟩ _ (N+4) (by show N+4≠N+2;omega)).trans g2
  have cc:Chg (fun b=>b=N+1∨b=N+2∨b=N+4∨b=N+5) W Wc:=by rw[hWc];exact cb.trans (Chg.setCell (S:=fun b=>b=N+1∨b=N+2∨b=N+4∨b=N+5) Wb (p:=⟨N+2,0,none⟩) (by show N+2=N+1∨N+2=N+2∨N+2=N+4∨N+2=N+5;omega) _)
  have l2:=(Array.getElem?_eq_some_iff.1 e1).1;have kk:Wc.heap[N+1]? =Wb.heap[N+1]? :=by rw[hWc];exact Below.heap_setCell Wb ⟨N+2,0,none⟩ _ (N+1) (by show N+1≠N+2;omega)
  have e3:Wc.cell? ⟨N+2,0,none⟩=some (.int .i64 ((m+1:Nat):Int)):=by rw[hWc];exact World.cell?_setCell_same' _ _ _ (by rw[g3];rfl)
  have e4:Wc.frozen? ⟨N+2,0,none⟩=false:=by rw[hWc,World.frozen?_setCell];exact g4
  have e5:Wc.cell? ⟨N+1,0,none⟩=some (.int .i64 0):=(World.cell?_of_block (a:=⟨N+1,0,none⟩) kk).trans g5;have e6:Wc.frozen? ⟨N+1,0,none⟩=false:=(World.frozen?_of_block (a:=⟨N+1,0,none⟩) kk).trans g6;have p1:∀b o,b≠N+5→(Wc.putObj (N+5) o).heap[b]? =Wc.heap[b]? :=fun b o h=>World.putObj_heap_other h
  exact⟨e1,rfl,⟨World.putObj_heap_same l2,(p1 _ _ (by omega)).trans e2,(World.cell?_of_block (a:=⟨N+2,0,none⟩) (p1 _ _ (by show N+2≠N+5;omega))).trans e3,(World.frozen?_of_block (a:=⟨N+2,0,none⟩) (p1 _ _ (by show N+2≠N+5;omega))).trans e4,(World.cell?_of_block (a:=⟨N+1,0,none⟩) (p1 _ _ (by show N+1≠N+5;omega))).trans e5,(World.frozen?_of_block (a:=⟨N+1,0,none⟩) (p1 _ _ (by show N+1≠N+5;omega))).trans e6⟩,cc.trans (Chg.putObj (S:=fun b=>b=N+1∨b=N+2∨b=N+4∨b=N+5) _ (by omega) _)⟩
 case off=>
  rintro n m W t' A' c' d ⟨h1,h2,h3,h4,h5,h6⟩ hm hd _ _;refine zh1 hrec trivial h1 rfl (by simp;rfl) ?_;clear hrec;have t1:decide ((100:Int)<(d:Int))=true:=Qhz (by omega);clear hd;have l1:=(Array.getElem?_eq_some_iff.1 h1).1
  gi_wp2
  refine⟨h1,?_⟩;obtain⟨Wb,hWb⟩:∃Wb,Wb=W.putObj (N+5) (rec none .busy):=⟨_,rfl⟩;rw[←hWb];have g1:Wb.heap[N+5]? =some (rec none .busy):=by rw[hWb];exact World.putObj_heap_same l1
  have g2:Wb.heap[N+4]? =some (.deferred (some [])):=by rw[hWb];exact(World.putObj_heap_other (by omega)).trans h2
  have k1:Wb.heap[N+1]? =W.heap[N+1]? :=by rw[hWb];exact World.putObj_heap_other (by omega)
  have k2:Wb.heap[N+2]? =W.heap[N+2]? :=by rw[hWb];exact World.putObj_heap_other (by omega)
  have g3:Wb.cell? ⟨N+2,0,none⟩=some (.int .i64 (m:Int)):=(World.cell?_of_block (a:=⟨N+2,0,none⟩) k2).trans h3;have g4:Wb.frozen? ⟨N+2,0,none⟩=false:=(World.frozen?_of_block (a:=⟨N+2,0,none⟩) k2).trans h4;have g5:Wb.cell? ⟨N+1,0,none⟩=some (.int .i64 0):=(World.cell?_of_block (a:=⟨N+1,0,none⟩) k1).trans h5;have g6:Wb.frozen? ⟨N+1,0,none⟩=false:=(World.frozen?_of_block (a:=⟨N+1,0,none⟩) k1).trans h6;have cb:Chg (fun b=>b=N+1∨b=N+2∨b=N+4∨b=N+5) W Wb:=by rw[hWb];exact Chg.putObj (S:=fun b=>b=N+1∨b=N+2∨b=N+4∨b=N+5) W (by omega) _
  clear hWb h1 h2 h3 h4 h5 h6 k1 k2 l1
  gi_wp2
  obtain⟨Wc,hWc⟩:∃Wc,Wc=Wb.setCell ⟨N+1,0,none⟩ (.int .i64 6):=⟨_,rfl⟩;show roundEnd (N+5) rec _ .ret _ (Wb.setCell ⟨N+1,0,none⟩ (.int .i64 6));rw[←hWc];have e1:Wc.heap[N+5]? =some (rec none .busy):=by rw[hWc];exact(Below.heap_setCell Wb ⟨N+1,0,none⟩ _ (N+5) (by show N+5≠N+1;omega)).trans g1
  have e2:Wc.heap[N+4]? =some (.deferred (some [])):=by rw[hWc];exact(Below.heap_setCell Wb ⟨N+1,0,none⟩ _ (N+4) (by show N+4≠N+1;omega)).trans g2
  have cc:Chg (fun b=>b=N+1∨b=N+2∨b=N+4∨b=N+5) W Wc:=by rw[hWc];exact cb.trans (Chg.setCell (S:=fun b=>b=N+1∨b=N+2∨b=N+4∨b=N+5) Wb (p:=⟨N+1,0,none⟩) (by show N+1=N+1∨N+1=N+2∨N+1=N+4∨N+1=N+5;omega) _)
  have l2:=(Array.getElem?_eq_some_iff.1 e1).1;have e5:Wc.cell? ⟨N+1,0,none⟩=some (.int .i64 6):=by rw[hWc];exact World.cell?_setCell_same' _ _ _ (by rw[g5];rfl)
  have p1:∀b o,b≠N+5→(Wc.putObj (N+5) o).heap[b]? =Wc.heap[b]? :=fun b o h=>World.putObj_heap_other h;exact⟨e1,rfl,⟨World.putObj_heap_same l2,(p1 _ _ (by omega)).trans e2,(World.cell?_of_block (a:=⟨N+1,0,none⟩) (p1 _ _ (by show N+1≠N+5;omega))).trans e5⟩,cc.trans (Chg.putObj (S:=fun b=>b=N+1∨b=N+2∨b=N+4∨b=N+5) _ (by omega) _)⟩
 ·rintro e W' ⟨hch,⟨v,rfl⟩,hq⟩;have hN0:=HN.out;have hbB:Below W0.heap.size W0 W':=by
   have h1:=hch.below (B:=W0.heap.size) (by rw[hs2];omega) (fun b hb=>by omega);exact(b4.trans (bW.mono (by omega))).trans h1
  have hsN:N+6≤W'.heap.size:=by have:=hch.size;omega
  have hNB:W0.heap.size≤N+1∧W0.heap.size≤N+4∧W0.heap.size≤N+5:=by omega
  clear hN0;rcases hq with(⟨hd,h1,h2,h3,h4,h5,h6⟩|⟨hd,h1,h2,h3⟩)
  ·have hend:(Instr.endLoop (N+5)).run Tryz.prog W'=.ok none (W'.putObj (N+5) (rec none .exhausted)):=by subst hrec;exact run_endLoop h1 (by simp)
   clear hrec;rw[Nat.zero_add]at h3;obtain⟨Wd,hWd⟩:∃Wd,Wd=W'.putObj (N+5) (rec none .exhausted):=⟨_,rfl⟩;rw[←hWd]at hend;have p1:∀b,b≠N+5→Wd.heap[b]? =W'.heap[b]? :=fun b h=>by rw[hWd];exact World.putObj_heap_other h
   have d2:Wd.heap[N+4]? =some (.deferred (some [])):=(p1 _ (by omega)).trans h2;have d3:Wd.cell? ⟨N+2,0,none⟩=some (.int .i64 (t.count:Int)):=(World.cell?_of_block (a:=⟨N+2,0,none⟩) (p1 _ (by show N+2≠N+5;omega))).trans h3;have d5:Wd.cell? ⟨N+1,0,none⟩=some (.int .i64 0):=(World.cell?_of_block (a:=⟨N+1,0,none⟩) (p1 _ (by show N+1≠N+5;omega))).trans h5;have d6:Wd.frozen? ⟨N+1,0,none⟩=false:=(World.frozen?_of_block (a:=⟨N+1,0,none⟩) (p1 _ (by show N+1≠N+5;omega))).trans h6;have bd:Below W0.heap.size W0 Wd:=by
    have:Chg (fun b=>b=N+5) W' Wd:=by rw[hWd];exact Chg.putObj (S:=fun b=>b=N+5) W' rfl _
    exact hbB.trans (this.below hbB.size fun b hb=>by omega)
   refine⟨none,Wd,hend,?_⟩;clear hend hWd h1 h2 h3 h4 h5 h6 hch hbB p1 ct c1 c2 z1 z2 s4 hA4 hs2 bW b4;have HD:=Qaz hd;clear hd;have fin:∀(x:Int),Below W0.heap.size W0 ((Wd.setCell ⟨N+1,0,none⟩ (.int .i64 x)).putObj (N+4) (.deferred none))∧(Wd.setCell ⟨N+1,0,none⟩ (.int .i64 x)).heap[N+4]? =some (.deferred (some []))∧((Wd.setCell ⟨N+1,0,none⟩ (.int .i64 x)).putObj (N+4) (.deferred none)).cell? ⟨N+1,0,none⟩=some (.int .i64 x):=fun x=>by
    refine⟨?_,(Below.heap_setCell Wd ⟨N+1,0,none⟩ _ (N+4) (by show N+4≠N+1;omega)).trans d2,?_⟩
    ·have q:Chg (fun b=>b=N+4) (Wd.setCell ⟨N+1,0,none⟩ (.int .i64 x)) ((Wd.setCell ⟨N+1,0,none⟩ (.int .i64 x)).putObj (N+4) (.deferred none)):=Chg.putObj (S:=fun b=>b=N+4) _ rfl _;exact(bd.setCell (p:=⟨N+1,0,none⟩) hNB.1 _).trans (q.below ((bd.setCell (p:=⟨N+1,0,none⟩) hNB.1 _).size) fun b hb=>by omega)
    ·exact(World.cell?_of_block (a:=⟨N+1,0,none⟩) (World.putObj_heap_other (by show N+1≠N+4;omega))).trans (World.cell?_setCell_same' _ _ _ (by rw[d5];rfl))
   by_cases hcn:1000<t.count
   ·have t2:decide ((1000:Int)<(t.count:Int))=true:=Qhz (by omega);have HE:Hid (zcm t=2):=Qaz (by unfold zcm;rw[HD.out,if_pos hcn];rfl);obtain⟨f1,f2,f3⟩:=fin 2
    gi_wp2
    refine⟨by simp,.inl ⟨_,_,rfl,run_takeDeferred f2,⟨.int .i64 2,?_,by rw[HE.out],f1⟩⟩⟩;simp[results,Tryz.results112,go_sem,f3]
   ·have t2:decide ((1000:Int)<(t.count:Int))=false:=Qgz (by omega);have HE:Hid (zcm t=0):=Qaz (by unfold zcm;rw[HD.out,if_neg hcn];rfl);obtain⟨f1,f2,f3⟩:=fin 0
    gi_wp2
    refine⟨by simp,.inl ⟨_,_,rfl,run_takeDeferred f2,⟨.int .i64 0,?_,by rw[HE.out],f1⟩⟩⟩;simp[results,Tryz.results112,go_sem,f3]
  ·have hend:(Instr.endLoop (N+5)).run Tryz.prog W'=.ok (some .ret) (W'.putObj (N+5) (rec (some .ret) .exhausted)):=by subst hrec;exact run_endLoop h1 (by simp)
   clear hrec;obtain⟨Wd,hWd⟩:∃Wd,Wd=W'.putObj (N+5) (rec (some .ret) .exhausted):=⟨_,rfl⟩;rw[←hWd]at hend;have p1:∀b,b≠N+5→Wd.heap[b]? =W'.heap[b]? :=fun b h=>by rw[hWd];exact World.putObj_heap_other h
   have d2:Wd.heap[N+4]? =some (.deferred (some [])):=(p1 _ (by omega)).trans h2;have d3:Wd.cell? ⟨N+1,0,none⟩=some (.int .i64 6):=(World.cell?_of_block (a:=⟨N+1,0,none⟩) (p1 _ (by show N+1≠N+5;omega))).trans h3;have bd:Below W0.heap.size W0 Wd:=by
    have:Chg (fun b=>b=N+5) W' Wd:=by rw[hWd];exact Chg.putObj (S:=fun b=>b=N+5) W' rfl _
    exact hbB.trans (this.below hbB.size fun b hb=>by omega)
   refine⟨some .ret,Wd,hend,?_⟩;clear hend hWd h1 h2 h3 hch hbB p1 ct c1 c2 z1 z2 s4 hA4 hs2 bW b4;have HE:Hid (zcm t=6):=Qaz (by unfold zcm;rw[hd];rfl);clear hd;have f3:(Wd.putObj (N+4) (.deferred none)).cell? ⟨N+1,0,none⟩=some (.int .i64 6):=(World.cell?_of_block (a:=⟨N+1,0,none⟩) (World.putObj_heap_other (by show N+1≠N+4;omega))).trans d3;have f1:Below W0.heap.size W0 (Wd.putObj (N+4) (.deferred none)):=by
    have q:Chg (fun b=>b=N+4) Wd (Wd.putObj (N+4) (.deferred none)):=Chg.putObj (S:=fun b=>b=N+4) _ rfl _;exact bd.trans (q.below bd.size fun b hb=>by omega)
   gi_wp2
   refine⟨by simp,.inl ⟨_,_,rfl,run_takeDeferred d2,⟨.int .i64 6,?_,by rw[HE.out],f1⟩⟩⟩;simp[results,Tryz.results112,go_sem,f3]
end
end Go.Proofs.YtepnmejahbiacaaGreat
