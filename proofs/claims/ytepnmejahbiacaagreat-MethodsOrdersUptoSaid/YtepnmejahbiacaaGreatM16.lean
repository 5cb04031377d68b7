/- Part 16 of the proof: Ad, Hb, Qz. -/
import Derived.Deep.AppendLies
import Derived.Deep.RegionHeld3
import Derived.Test.YtepnmejahbiacaaGreatM11
set_option linter.unusedVariables false
set_option linter.unusedSimpArgs false
set_option maxHeartbeats 64000000
set_option maxRecDepth 100000
namespace Go.Proofs.YtepnmejahbiacaaGreat
open Go.RowKit
theorem OwnStr.any{T base:Nat}{G G':Nat→Prop}{v:Value}{l:List ByteArray}{w:World}(h:Own zcz T 1 base G v l w):Own zcz T 1 base G' v l w:=by
 obtain⟨xs,a,b⟩:=h;exact⟨xs,a,b.imp fun x cs hx _ _=>hx.now⟩
theorem zk1(A:Option Addr)(c:Nat)(g:List Heir)(name:ByteArray)(w:World)(G:Nat→Prop)(h:Held G (Heirs A g) w)(hl:g.length≤1000000)(hgs:∀x∈g,x.supers.length≤1000000)(hck:za3 g=0)(i:Nat)(hi:zbi (g.map (·.name)) name=some i)(x:List ByteArray)(hx:line g i=some x):
  Calls Tryz.prog 118 #[.slice A g.length c,.string name] w fun e w'=>∃v,e=.returned (.tuple #[v,.int .i64 0])∧Own zcz 9 1 w.heap.size (fun _=>False) v x w'∧Below w.heap.size w w':=by
 have H:=h.here;obtain⟨W0,hW0⟩:∃W0,W0=w.alloc (.cells #[.int .i64 0] 28):=⟨_,rfl⟩;have b0:Below w.heap.size w W0:=by rw[hW0];exact(Below.refl _ w).alloc (Qiz _) _
 have e0:W0.cell? ⟨w.heap.size,0,none⟩=some (.int .i64 0):=by rw[hW0];exact zac w _ _ _ rfl 0 _ rfl
 have f0:W0.frozen? ⟨w.heap.size,0,none⟩=false:=by rw[hW0];unfold World.frozen?;rw[heap_alloc_new];rfl
 have hsz:W0.heap.size=w.heap.size+1:=by rw[hW0];simp
 have HOP:=Qaz (zj4 A c g name W0 ((H.keep (Keep.below b0)).now) hl hgs);have hil:i<g.length:=by
  have:=zci hi;rw[List.getElem?_map]at this;obtain⟨y,hy,_⟩:=Option.map_eq_some_iff.1 this;exact(Qcz hy).1
 have HCK:=Qaz hck;have HI:=Qaz hi;have HX:=Qaz hx;have hxl:x.length≤1000000:=by have:=zbr (zaz hck).2 hx;omega
 clear hck hi hx h
 go_enter_defers Tryz.func118,Tryz.ntmps118
 go_wp2_with (fail);rw[←hW0];refine HOP.out.mono ?_;clear HOP;rintro e W1 ⟨hb1,(⟨hne,_⟩|⟨_,hp,M1,M2,n1,n2,n3,n4,tr,(⟨i',hi',rfl⟩|⟨hno,_⟩)⟩)⟩
 ·exact absurd HCK.out hne
 rotate_left
 ·rw[HI.out]at hno;cases hno
 obtain rfl:i'=i:=by rw[HI.out]at hi';cases hi';rfl
 clear hi';have e1:=zaa e0 hb1;have f1:W1.frozen? ⟨w.heap.size,0,none⟩=false:=(World.frozen?_of_block (a:=⟨w.heap.size,0,none⟩) (hb1.block _ (cell_lt e0))).trans f0;have bw1:Below w.heap.size w W1:=b0.trans (hb1.mono b0.size);have hsz1:=hb1.size;have e1s:=cell_lt e1;obtain⟨W2,hW2⟩:∃W2,W2=W1.setCell ⟨w.heap.size,0,none⟩ (.int .i64 0):=⟨_,rfl⟩;have e2:W2.cell? ⟨w.heap.size,0,none⟩=some (.int .i64 0):=by rw[hW2];exact World.cell?_setCell_same' _ _ _ (by rw[e1];rfl)
 have f2:W2.frozen? ⟨w.heap.size,0,none⟩=false:=by rw[hW2,World.frozen?_setCell];exact f1
 have c12:Chg (fun b=>b=w.heap.size) W1 W2:=by rw[hW2];exact Chg.setCell (S:=fun b=>b=w.heap.size) W1 (p:=⟨w.heap.size,0,none⟩) rfl _
 have bw2:Below w.heap.size w W2:=bw1.trans (c12.below bw1.size (fun b e=>by omega));have hTree:TreeInv hp M1 M2 A c g (fun b=>b=w.heap.size) W1:=by
  obtain⟨es,cc,m,hbm,_⟩:=tr.ln;have hne:hp≠M2:=by
   rintro rfl;have:=tr.c0;unfold World.cell? at this;rw[show(⟨hp,0,none⟩:Addr).block=hp from rfl,hbm]at this;simp at this
  exact⟨⟨by omega,by omega,by omega,n4,hne⟩,(H.keep (Keep.below bw1)).mono fun b _ hb=>⟨by omega,by omega⟩,_,tr,fun s v hv=>by cases hv⟩
 have hT2:TreeInv hp M1 M2 A c g (fun b=>b=w.heap.size) W2:=hTree.others c12 fun b _ h=>.inl h;have HL:=Qaz (znm hp M1 M2 A c g HCK.out i' hil _ W2 (fun b hb=>by have:=cell_lt e2;rw[hb];exact this) hT2);clear hTree hT2 tr e0 f0 H hgs;go_wp2_with (fail);rw[←hW2];refine HL.out.mono ?_;clear HL;rintro e W3 ⟨hch,(⟨y,A',c',q1,rfl,q2,q3,_⟩|⟨q1,_⟩)⟩;rotate_left
 ·rw[HX.out]at q1;cases q1
 obtain rfl:y=x:=by rw[HX.out]at q1;cases q1;rfl
 have HCL:=Qaz (zc6 A' c' y _ W3 q3 (by omega));have e2s:=cell_lt e2;have hbk:=hch.block w.heap.size e2s (by omega);have e3:W3.cell? ⟨w.heap.size,0,none⟩=some (.int .i64 0):=(World.cell?_of_block (a:=⟨w.heap.size,0,none⟩) hbk).trans e2;have f3:W3.frozen? ⟨w.heap.size,0,none⟩=false:=(World.frozen?_of_block (a:=⟨w.heap.size,0,none⟩) hbk).trans f2;have bw3:Below w.heap.size w W3:=bw2.trans (hch.below (by have:=bw2.size;omega) (fun b e=>by omega));clear q1 q3 hW0 hW2;go_wp2_with (fail);refine HCL.out.mono ?_;clear HCL;rintro e W4 ⟨v,rfl,hv,hb4⟩;have e4:=zaa e3 hb4
 have f4:W4.frozen? ⟨w.heap.size,0,none⟩=false:=(World.frozen?_of_block (a:=⟨w.heap.size,0,none⟩) (hb4.block _ (cell_lt e3))).trans f3;have HV:=Qaz hv;have hbz:=bw3.size;have e3s:w.heap.size<W3.heap.size:=cell_lt e3;clear hv;go_wp2;refine leaves_cons (f:=168) (args:= #[.pointer (some ⟨w.heap.size,0,none⟩)]) (by simp) (by kernel_rfl) ?_;refine(zlg w.heap.size _).mono ?_;rintro e u' w'' ⟨rfl,rfl,rfl⟩;have e5:(W4.setCell ⟨w.heap.size,0,none⟩ (.int .i64 0)).cell? ⟨w.heap.size,0,none⟩=some (.int .i64 0):=World.cell?_setCell_same' _ _ _ (by rw[e4];rfl);refine⟨.tuple #[v,.int .i64 0],?_,v,rfl,?_,?_⟩
 ·simp[results,Tryz.results118,go_sem,e5]
 ·have h1:Own zcz 9 1 W3.heap.size (fun _=>False) v y W4:=OwnStr.any HV.out;exact(h1.setCell (p:=⟨w.heap.size,0,none⟩) (fun b hb=>hb.elim) (fun e=>by have h:=(h1.lt _ e).1;have h':W3.heap.size≤w.heap.size:=h;omega) _).lower bw3.size
 ·exact(bw3.trans (hb4.mono bw3.size)).setCell (p:=⟨w.heap.size,0,none⟩) (Qiz _) _
theorem za1{P:Program}{ops:Array Oper}{o:Oper}{a:Act}{K:Act→World→Prop}{Q:Exit→Act→World→Prop}{E:Prop}{α:Type}(R:α→List Value→World→Prop)(T sz base bytes:Nat)(G:Nat→Prop)(W:World)(hgd:o.guard=none)(s x:Operand)(t:TypeId)(z:Value)
  (ho:o.op=.call { callee:=.builtin .append,args:= #[s,x],argTypes:= #[t,t] }) (ht:P.underlying t=some (.slice T))
  (hinfo:(P.info? T).map (fun i=>(i.zero,i.size,i.bytes))=some (some z,sz,bytes)) (hz:z.cells.size=sz) (hs0:0<sz) (hb0:0<bytes)
  (v:Value) (l:List α) (hs:a.eval s=v) (hown:Own R T sz base G v l W) (ad:Addr) (c:Nat) (hx:a.eval x=.slice (some ad) 1 c)
  (y:α) (cs:List Value) (hcl:cs.length=sz) (hcs:∀j u,cs[j]? =some u→W.cell? (ad.add j)=some u) (h1:∀u∈cs,u.oneCell'=true) (hR:Held G (R y cs) W)
  (hG:∀b,G b→v.ownBlock≠some b) (hbase:base≤W.heap.size) (hlen:(l.length+1)*bytes≤140737488355328) (H:Nat) (hH:W.heap.size=H)
  (h:∀g cap w',Own R T sz base G (.slice (some ⟨g,0,none⟩) (l.length+1) cap) (l++[y]) w'→W.grownBy w' v.ownBlock→(v.ownBlock=some g∨g=H)→g<w'.heap.size→K (a.put o.dst (.slice (some ⟨g,0,none⟩) (l.length+1) cap)) w'):
  if Region.wanted o (yielded ops a.tmps)=true then Oper.wp P o a W K Q else E:=by
 obtain⟨i0,hi,hzz⟩:=Option.map_eq_some_iff.1 hinfo;simp only[Prod.mk.injEq]at hzz;obtain⟨hz0,hz1,hz2⟩:=hzz;obtain⟨xs,hrow,henc⟩:=hown;have hl1:l.length+1≤140737488355328:=Nat.le_trans (Nat.le_mul_of_pos_right _ hb0) hlen;refine step_append_lies W hgd s x t ho base T i0 z sz bytes ht hi hz0 hz1 hz2 hz hs0 v l.length xs hs hrow ad 1 c cs hx (by rw[hcl];simp) hcs h1 (by decide) (by simp only[maxLen];omega) hlen hbase H hH ?_;intro g cap w' hrow' hg hat hlt;refine h g cap w' ⟨xs++cs,by simpa using hrow',?_⟩ hg hat hlt;have k:Keep G W w':=Keep.grown hg fun b hb=>fun e=>hG b hb e.symm
 exact .snoc (henc.imp fun _ _ hx=>hx.keep k) (hR.keep k) hcl
theorem OwnCI.at2{T base:Nat}{G:Nat→Prop}{l:List CI}{w:World}{g c n:Nat}(h:Own ciR T 6 base G (.slice (some ⟨g,0,none⟩) n c) l w){i:Nat}{x:CI}(hx:l[i]? =some x):
  ∃A2 c2 A3 c3,x.supers.length≤c2∧x.cpl.length≤c3∧Held G (Strs A2 x.supers) w∧Held G (Strs A3 x.cpl) w∧
   (w.cell? ⟨g,i*6+2,none⟩=some (.slice A2 x.supers.length c2)∧w.frozen? ⟨g,i*6+2,none⟩=false)∧
   (w.cell? ⟨g,i*6+3,none⟩=some (.slice A3 x.cpl.length c3)∧w.frozen? ⟨g,i*6+3,none⟩=false):=by
 obtain⟨cs,_,hr,hc⟩:=h.get hx;obtain⟨A2,c2,A3,c3,rfl,h1,h2,h3,h4⟩:=ciR.openH hr;exact⟨A2,c2,A3,c3,h1,h2,h3,h4,hc 2 _ rfl,hc 3 _ rfl⟩
theorem OwnCI.setCpl{T base:Nat}{G:Nat→Prop}{l:List CI}{w:World}{g c n:Nat}(h:Own ciR T 6 base G (.slice (some ⟨g,0,none⟩) n c) l w){i:Nat}{x:CI}(hx:l[i]? =some x)(hG:∀b,G b→b≠g)(cp:List ByteArray)(A:Option Addr)(ca:Nat)(hca:cp.length≤ca)(hA:Held G (Strs A cp) w):
  Own ciR T 6 base G (.slice (some ⟨g,0,none⟩) n c) (l.set i { x with cpl:=cp }) (w.setCell ⟨g,i*6+3,none⟩ (.slice A cp.length ca)):=
 h.store (j:=3) rfl hx (by decide) hG fun cs _ hr=>by
  obtain⟨A2,c2,A3,c3,rfl,h1,h2,h3,h4⟩:=ciR.openH hr;exact ciR.mk (x:={ x with cpl:=cp }) h1 hca h3 hA
theorem zdg{W V0 V:World}(h:Below W.heap.size W V0)(q:Below V0.heap.size V0 V):Below W.heap.size W V:=h.trans (q.mono h.size)
def zo2(l:List CI)(x:CI)(cp:List ByteArray):List CI:=l++[{ x with cpl:=cp }]
theorem zd8(l:List CI)(x:CI)(cp:List ByteArray):(zo2 l x cp).length=l.length+1:=by unfold zo2;simp
theorem zzt(l:List CI)(x:CI)(cp:List ByteArray):(l++[x]).set l.length { x with cpl:=cp }=zo2 l x cp:=by unfold zo2;simp
theorem Own.heldAll{α:Type}{R:α→List Value→World→Prop}{T sz base:Nat}{g n c:Nat}{l:List α}{w:World}(h:Own R T sz base (fun b=>b≠g) (.slice (some ⟨g,0,none⟩) n c) l w):Held (fun b=>b<w.heap.size) (Slc R sz (some ⟨g,0,none⟩) l) w:=
 (Own.read h).2.2.mono fun b hb _=>hb
def z06(w:World)(s:List ByteArray)(A:Option Addr):Prop:=∃G,Held G (Strs A s) w∧s.length≤1000000
theorem zwj{W:World}{base g n c k:Nat}{L:List CI}{wr U1 U2:World}{y:CI}{A5 A6:Option Addr}{c5 c6:Nat}(h:Own ciR 110 6 base (fun b=>b≠g) (.slice (some ⟨g,0,none⟩) n c) L wr)(hy:L[k]? =some y)(hbq:Below U1.heap.size U1 U2)(hu2:Below wr.heap.size wr U2)(hc5:y.supers.length≤c5)(hc6:y.cpl.length≤c6)
  (h1:Held (fun b=>b≠g) (Strs A5 y.supers) U1) (h2:Held (fun b=>b≠g) (Strs A6 y.cpl) U2) (hW:Below W.heap.size W wr) (hgk:g<wr.heap.size) (hgb:W.heap.size≤g):
  Own ciR 110 6 base (fun b=>b≠g) (.slice (some ⟨g,0,none⟩) n c) L ((U2.setCell ⟨g,k*6+2,none⟩ (.slice A5 y.supers.length c5)).setCell ⟨g,k*6+3,none⟩ (.slice A6 y.cpl.length c6))∧
   Below W.heap.size W ((U2.setCell ⟨g,k*6+2,none⟩ (.slice A5 y.supers.length c5)).setCell ⟨g,k*6+3,none⟩ (.slice A6 y.cpl.length c6))∧g<((U2.setCell ⟨g,k*6+2,none⟩ (.slice A5 y.supers.length c5)).setCell ⟨g,k*6+3,none⟩ (.slice A6 y.cpl.length c6)).heap.size:=by
 have s1:=OwnCI.sup (h.all hu2) hy (fun b h=>h) A5 c5 hc5 (h1.keep (Keep.all hbq));have k1:Keep (fun b=>b≠g) U2 (U2.setCell ⟨g,k*6+2,none⟩ (.slice A5 y.supers.length c5)):=Keep.setCell U2 (p:=⟨g,k*6+2,none⟩) (fun b hb=>hb) _;have s2:=OwnCI.setCpl s1 hy (fun b h=>h) y.cpl A6 c6 hc6 (h2.keep k1);have e:L.set k { y with cpl:=y.cpl }=L:=zkp hy;rw[e]at s2;have hgz:g<U2.heap.size:=Nat.lt_of_lt_of_le hgk hu2.size;exact⟨s2,(((hW.trans (hu2.mono hW.size)).setCell (p:=⟨g,k*6+2,none⟩) hgb _).setCell (p:=⟨g,k*6+3,none⟩) hgb _),by simpa[World.setCell]using hgz⟩
theorem zwk:(Tryz.prog.info? 110).map (fun i=>(i.zero,i.size,i.bytes))=some (some (.agg #[.string ⟨#[]⟩,.string ⟨#[]⟩,.slice none 0 0,.slice none 0 0,.bool false,.bool false]),6,88):=by kernel_rfl
theorem zme(AH:Option Addr)(cH:Nat)(l:List CI)(x:CI)(A2 A3:Option Addr)(c2 c3:Nat)(W:World)(GH:Nat→Prop)(h:Held GH (CIs AH l) W)(hcH:l.length≤cH)(ol:∀x∈l,zdo x)(hl:l.length≤500)
  (G2 G3:Nat→Prop) (h2:Held G2 (Strs A2 x.supers) W) (h3:Held G3 (Strs A3 x.cpl) W) (hc2:x.supers.length≤c2) (hc3:x.cpl.length≤c3) (hsl:∀y∈l,y.supers.length≤1000000) (hsx:x.supers.length≤1000000) (hcl:∀y∈l,y.cpl.length≤1000000) (hcx:x.cpl.length≤1000000)
  (hL:zai l) (cp:List ByteArray) (hck:za3 (zav (l++[x]))=0) (hatx:zbi ((zav (l++[x])).map (·.name)) x.name=some l.length) (hln:line (zav (l++[x])) l.length=some cp) (hL2:zai (zo2 l x cp)):
  Calls Tryz.prog 75 #[.slice AH l.length cH,.agg #[.string x.name,.string x.lib,.slice A2 x.supers.length c2,.slice A3 x.cpl.length c3,.bool x.abs,.bool x.seal_]] W fun e W'=>∃A c,e=.returned (.tuple #[.slice A (zo2 l x cp).length c,.int .i64 0])∧(zo2 l x cp).length≤c∧
   Held (fun b=>b<W'.heap.size) (CIs A (zo2 l x cp)) W'∧Below W.heap.size W W':=by
 obtain⟨W1,hW1⟩:∃W1,W1=W.alloc (.cells #[.string x.name,.string x.lib,.slice A2 x.supers.length c2,.slice A3 x.cpl.length c3,.bool x.abs,.bool x.seal_] 110):=⟨_,rfl⟩;have b1:Below W.heap.size W W1:=by rw[hW1];exact(Below.refl _ W).alloc (Qiz _) _
 have xc:∀j u,[Value.string x.name,.string x.lib,.slice A2 x.supers.length c2,.slice A3 x.cpl.length c3,.bool x.abs,.bool x.seal_][j]? =some u→W1.cell? ⟨W.heap.size,j,none⟩=some u:=fun j u hj=>by rw[hW1];exact zac W _ _ _ rfl j u hj
 have HLK:=Qaz (zdh AH cH l W1 hcH GH (h.keep (Keep.all b1)) ol (by omega));have H:=h.here;go_enter Tryz.func75,Tryz.ntmps75;go_wp2_with (fail);rw[←hW1];clear hW1;refine HLK.out.mono ?_;clear HLK;rintro e V ⟨hbv,(⟨hno,_⟩|⟨_,hp,M1,_,_,rfl,_⟩)⟩
 ·exact absurd hL hno
 have bV:=b1.trans (hbv.mono b1.size);have x0:=zaa (xc 0 _ rfl) hbv;have x1:=zaa (xc 1 _ rfl) hbv;have x2:=zaa (xc 2 _ rfl) hbv;have x3:=zaa (xc 3 _ rfl) hbv;have x4:=zaa (xc 4 _ rfl) hbv;have x5:=zaa (xc 5 _ rfl) hbv;have HL:=Qaz hL;clear xc hL;go_wp2_with (fail);have HCL:=Qaz (fun U (hu:Below W.heap.size W U)=>zm3 AH cH l _ U (H.keep (Keep.below hu)) (by omega));have hszV:W.heap.size<V.heap.size:=cell_lt x0
 have HR:Hid (∀U,Below W.heap.size W U→Held (fun b=>b<W.heap.size) (ciR x [.string x.name,.string x.lib,.slice A2 x.supers.length c2,.slice A3 x.cpl.length c3,.bool x.abs,.bool x.seal_]) U):=
  Qaz (fun U hu=>ciR.mk hc2 hc3 (h2.here.keep (Keep.below hu)) (h3.here.keep (Keep.below hu)))
 have h1C:Hid (∀u∈[Value.string x.name,.string x.lib,.slice A2 x.supers.length c2,.slice A3 x.cpl.length c3,.bool x.abs,.bool x.seal_],u.oneCell'=true):=Qaz (by intro u hu;simp at hu;rcases hu with rfl|rfl|rfl|rfl|rfl|rfl<;>rfl);have bVd:Below W.heap.size W V.drew:=bV.drew
 go_region_held3 (fun w'=>Below W.heap.size W w'∧w'.cell? ⟨W.heap.size,0,none⟩=some (.string x.name)∧w'.cell? ⟨W.heap.size,1,none⟩=some (.string x.lib)∧w'.cell? ⟨W.heap.size,2,none⟩=some (.slice A2 x.supers.length c2)∧w'.cell? ⟨W.heap.size,3,none⟩=some (.slice A3 x.cpl.length c3)∧w'.cell? ⟨W.heap.size,4,none⟩=some (.bool x.abs)∧w'.cell? ⟨W.heap.size,5,none⟩=some (.bool x.seal_))
  (first
   |exact⟨bVd,x0,x1,x2,x3,x4,x5⟩
   |(go_split_ands;exact⟨zdg (by assumption) hbu,zaa (by assumption) hbu,zaa (by assumption) hbu,zaa (by assumption) hbu,zaa (by assumption) hbu,zaa (by assumption) hbu,zaa (by assumption) hbu⟩)
   |(go_split_ands;exact⟨zdg (by assumption) ((Below.refl _ _).alloc (Qiz _) _),zat (by assumption),zat (by assumption),zat (by assumption),zat (by assumption),zat (by assumption),zat (by assumption)⟩)
   |(go_split_ands;have k9:Keep (fun b=>b=W.heap.size) _ w3:=Keep.grown hgrow (fun b hb e=>by have:=(hC.lt _ e.symm).1;first|omega|(simp at this;omega)|trace_state);exact⟨Below.grown (by assumption) hgrow (Below.size (by assumption)) (fun k e=>by have:=(hC.lt k e).1;first|omega|(simp at this;omega)),zah (by assumption) k9 rfl,zah (by assumption) k9 rfl,zah (by assumption) k9 rfl,zah (by assumption) k9 rfl,zah (by assumption) k9 rfl,zah (by assumption) k9 rfl⟩))
  (first
   |((go_at_call 117;refine(HCL.out _ (by go_split_ands;assumption)).mono ?_;rintro e U ⟨v,rfl,hC,hbu⟩;have b0z:=(show W.heap.size≤_ from Below.size (by go_split_ands;assumption))))
   |(refine za1 ciR 110 6 W.heap.size 88 (fun b=>b<W.heap.size) _ (by rfl) _ _ 22 _ (by rfl) Tryz.underlying22 zwk rfl (by decide) (by decide) _ l (by rfl) ((hC.lower b0z).alloc _) ⟨U.heap.size,0,none⟩ 1 (by rfl) x [.string x.name,.string x.lib,.slice A2 x.supers.length c2,.slice A3 x.cpl.length c3,.bool x.abs,.bool x.seal_] rfl (zaq U _ _ _ rfl) h1C.out (HR.out _ (by first|(go_split_ands;assumption)|(go_split_ands;exact zdg (by assumption) ((Below.refl _ _).alloc (Qiz _) _)))) (fun b hb e=>by have:=(hC.lt b e).1;have:=b0z;omega) (by have:=b0z;have:=hbu.size;simp;omega) (by omega) _ rfl ?_;intro g cap w3 hown1 hgrow hat hlt3;have HBLK:=hgrow;have hzz:=b0z)
   |(refine za1 ciR 110 6 W.heap.size 88 (fun b=>b<W.heap.size) _ (by rfl) _ _ 22 _ (by rfl) Tryz.underlying22 zwk rfl (by decide) (by decide) _ l (by rfl) (hC.lower b0z) ⟨V.heap.size,0,none⟩ 1 (by rfl) x [.string x.name,.string x.lib,.slice A2 x.supers.length c2,.slice A3 x.cpl.length c3,.bool x.abs,.bool x.seal_] rfl (fun j u hu=>zaa (zaq V.drew _ _ _ rfl j u hu) hbu) h1C.out (HR.out _ (by first|(go_split_ands;assumption)|(go_split_ands;exact zdg (by assumption) ((Below.refl _ _).alloc (Qiz _) _)))) (fun b hb e=>by have:=(hC.lt b e).1;have:=b0z;omega) (by have:=b0z;have:=hbu.size;simp;omega) (by omega) _ rfl ?_;intro g cap w3 hown1 hgrow hat hlt3;have HBLK:=hgrow;have hzz:=b0z))
 all_goals
  have hbw:Below W.heap.size W w3:=by go_split_ands;assumption
  have y0:w3.cell? ⟨W.heap.size,0,none⟩=some (.string x.name):=by go_split_ands;assumption
  have hgb:W.heap.size≤g:=(hown1.lt g rfl).1;have hO:Own ciR 110 6 W.heap.size (fun b=>b≠g) (.slice (some ⟨g,0,none⟩) (l.length+1) cap) (l++[x]) w3:=hown1.mono (fun b _ hb=>by omega);have hlen1:(l++[x]).length=l.length+1:=by simp
  have hcap:l.length+1≤cap:=by have:=(Own.read hO).2.1;omega
  have hcp:cp.length≤1000000:=by have:=zbr (zaz hck).2 hln;rw[zba,hlen1]at this;omega
  have HHE:Hid (∀U,Below w3.heap.size w3 U→Calls Tryz.prog 108 #[.slice (some ⟨g,0,none⟩) (l.length+1) cap] U fun e w'=>∃A' c',e=.returned (.slice A' (l.length+1) c')∧Held (fun _=>True) (Heirs A' (zav (l++[x]))) w'∧Below U.heap.size U w'):=
   Qaz (fun U hu=>by
    have:=zll (some ⟨g,0,none⟩) cap (l++[x]) U ((hO.heldAll.keep (Keep.all hu)).now) (by omega);rw[hlen1]at this;exact this.mono (by rintro e w' ⟨A',c',q1,_,q2,q3⟩;exact⟨A',c',q1,q2,q3⟩))
  have HLIN:Hid (∀A' c' U,Held (fun _=>True) (Heirs A' (zav (l++[x]))) U→Calls Tryz.prog 118 #[.slice A' (l.length+1) c',.string x.name] U fun e w'=>∃v,e=.returned (.tuple #[v,.int .i64 0])∧Own zcz 9 1 U.heap.size (fun _=>False) v cp w'∧Below U.heap.size U w'):=
   Qaz (fun A' c' U hH=>by
    have:=zk1 A' c' (zav (l++[x])) x.name U _ hH (by rw[zba];omega) (fun y hy=>by
     obtain⟨z,hz,rfl⟩:=List.mem_map.1 hy;rcases List.mem_append.1 hz with q|q
     ·exact hsl z q
     ·simp at q;subst q;exact hsx) hck l.length hatx cp hln
    rw[zba,hlen1]at this;exact this)
  have hg3:g<w3.heap.size:=hlt3;have HO:=Qaz hO;clear hown1 hgrow hat HBLK hC hO;go_wp2_with (fail)
  go_region_held3 (fun w'=>Below w3.heap.size w3 w'∧w'.cell? ⟨W.heap.size,0,none⟩=some (.string x.name))
   (first
    |exact⟨(Below.refl _ w3).drew,y0⟩
    |(go_split_ands;exact⟨zdg (by assumption) hbu2,zaa (by assumption) hbu2⟩))
   (first
    |((go_at_call 108;refine(HHE.out _ (by go_split_ands;assumption)).mono ?_;rintro e U2 ⟨Ah,ch,rfl,hHe,hbu2⟩;have hU2:Below w3.heap.size w3 U2:=zdg (by go_split_ands;assumption) hbu2))
    |((go_at_call 118;refine(HLIN.out _ _ _ hHe).mono ?_;rintro e U3 ⟨vl,rfl,hvl,hbu2⟩)))
 all_goals
  have hU3:Below w3.heap.size w3 U3:=by go_split_ands;assumption
  obtain⟨Al,cl,rfl,hcl',hHl⟩:=hvl.out;have hxl:(l++[x])[l.length]? =some x:=by simp
  have hO3:=HO.out.all hU3;obtain⟨a2,z2,a3,z3,_,_,_,_,_,⟨g3,f3⟩⟩:=OwnCI.at2 hO3 hxl;have hOs:=OwnCI.setCpl hO3 hxl (fun b h=>h) cp Al cl hcl' (hHl.mono fun b _ h=>by
   rcases h with h|h
   ·exact h.elim
   ·have:=(hvl.lt b h).1;have:=hU2.size;omega)
  rw[zzt]at hOs;have bW5:=(hbw.trans (hU3.mono hbw.size)).setCell (p:=⟨g,l.length*6+3,none⟩) hgb (.slice Al cp.length cl);have hg5:g<U3.heap.size:=by have:=hU3.size;omega
  have HOS:=Qaz hOs;clear hHl hvl hO3 hOs;have bU3:Below W.heap.size W U3:=hbw.trans (hU3.mono hbw.size);have HLK2:Hid (∀U,Below W.heap.size W U→Held (fun b=>b<U.heap.size) (CIs (some ⟨g,0,none⟩) (zo2 l x cp)) U→Calls Tryz.prog 67 #[.slice (some ⟨g,0,none⟩) (l.length+1) cap] U fun e w'=>Below U.heap.size U w'∧∃hp',e=.returned (.pointer (some ⟨hp',0,none⟩))):=
   Qaz (fun U hu hH=>by
    have:=zdh (some ⟨g,0,none⟩) cap (zo2 l x cp) U (by rw[zd8];exact hcap) _ hH (fun y hy=>by
     have h0:y.supers.length≤1000000∧y.cpl.length≤1000000:=by
      rcases List.mem_append.1 hy with q|q
      ·exact⟨hsl y q,hcl y q⟩
      ·simp at q;subst q;exact⟨hsx,hcp⟩
     exact⟨by omega,by omega⟩) (by rw[zd8];omega)
    rw[zd8]at this;refine this.mono ?_;rintro e w' ⟨q,(⟨q1,_⟩|⟨_,hp',M',_,_,rfl,_⟩)⟩
    ·exact absurd hL2 q1
    ·exact⟨q,hp',rfl⟩)
  go_wp2_with (fail);clear g3 f3
  go_loopw [37] (fun i wr=>∃k:Nat,k≤l.length+1∧i=.int .i64 k∧Own ciR 110 6 W.heap.size (fun b=>b≠g) (.slice (some ⟨g,0,none⟩) (l.length+1) cap) (zo2 l x cp) wr∧Below W.heap.size W wr∧g<wr.heap.size) (fun i _=>l.length+1-(intOf i).toNat)
  case atStart=>exact⟨0,Qjz _,rfl,HOS.out,bW5,by simpa[World.setCell]using hg5⟩
  case round=>
   obtain⟨k,hk,rfl,hOk,hbk,hgk⟩:=hrel;by_cases hlt:k<l.length+1
   ·have hyk:(zo2 l x cp)[k]? =some ((zo2 l x cp)[k]'(by rw[zd8];exact hlt)):=Qbz _;have hym:((zo2 l x cp)[k]'(by rw[zd8];exact hlt))∈zo2 l x cp:=List.getElem_mem _;generalize((zo2 l x cp)[k]'(by rw[zd8];exact hlt))=y at hyk hym;have hyl:y.supers.length≤1000000∧y.cpl.length≤1000000:=by
     rcases List.mem_append.1 hym with q|q
     ·exact⟨hsl y q,hcl y q⟩
     ·simp at q;subst q;exact⟨hsx,hcp⟩
    obtain⟨A5,c5,A6,c6,r1,r2,r3,r4,⟨g5,f5⟩,⟨g6,f6⟩⟩:=OwnCI.at2 hOk hyk;have HCS:Hid (∀(s:List ByteArray)(A:Option Addr)(c:Nat)(U:World),Below wr.heap.size wr U→z06 wr s A→Calls Tryz.prog 119 #[.slice A s.length c] U fun e w'=>∃A' c',e=.returned (.slice A' s.length c')∧s.length≤c'∧Held (fun b=>U.heap.size≤b) (Strs A' s) w'∧Below U.heap.size U w'):=
     Qaz (fun s A c U hu ⟨Gs,hs,hl'⟩=>(zc6 A c s Gs U (hs.keep (Keep.all hu)) hl').mono (by
      rintro e w' ⟨v,rfl,q2,q3⟩;have q2:Own zcz 9 1 U.heap.size (fun _=>False) v s w':=OwnStr.any q2;obtain⟨A',c',rfl,q4,q5⟩:=q2.out;exact⟨A',c',rfl,q4,q5.mono (fun b _ h=>by rcases h with h|h;exact h.elim;exact(q2.lt b h).1),q3⟩))
    have is1:z06 wr y.supers A5:=⟨_,r3,hyl.1⟩;have is2:z06 wr y.cpl A6:=⟨_,r4,hyl.2⟩;have HOK:=Qaz hOk;have HYK:=Qaz hyk;have bwd:Below wr.heap.size wr wr.drew:=(Below.refl _ wr).drew;clear hOk hyk hym r3 r4;go_wp2_with (fail)
    go_region_with ((go_at_call 119;refine(HCS.out _ _ _ _ (by first|exact bwd|exact hu9) (by assumption)).mono ?_;rintro e U9 ⟨A9,c9,rfl,hc9,hv9,hbq⟩;have hu9:Below wr.heap.size wr U9:=(by first|exact zdg bwd hbq|exact zdg (by assumption) hbq);have n5:=zaa g5 hu9;have n6:=zaa g6 hu9;have m5:U9.frozen? ⟨g,k*6+2,none⟩=false:=(World.frozen?_of_block (a:=⟨g,k*6+2,none⟩) (hu9.block g hgk)).trans f5;have m6:U9.frozen? ⟨g,k*6+3,none⟩=false:=(World.frozen?_of_block (a:=⟨g,k*6+3,none⟩) (hu9.block g hgk)).trans f6;have hgu:g<U9.heap.size:=Nat.lt_of_lt_of_le hgk hu9.size;have hv9:=hv9.mono (G':=fun b=>b≠g) (fun b _ h=>by first|omega|(have h':wr.heap.size≤b:=h;omega))))
    all_goals
     obtain⟨z1,z2,z3⟩:=zwj HOK.out HYK.out hbq hu9 (by assumption) hc9 (by assumption) hv9 hbk hgk hgb;have Z1:=Qaz z1;clear z1;go_wp2;exact⟨⟨k+1,by omega,by go_num,Z1.out,z2,z3⟩,by simp[intOf];omega⟩
   ·obtain rfl:k=l.length+1:=by omega
    have HLV:=Qaz (HLK2.out wr hbk hOk.heldAll);have HH:=Qaz hOk.heldAll;clear HLK2 hOk;go_wp2_with (fail);refine HLV.out.mono ?_;clear HLV;rintro e U9 ⟨hb9,hp',rfl⟩;have hb9':=hbk.trans (hb9.mono hbk.size);have hs9:=hb9.size;go_wp2;go_ret2;exact⟨_,cap,(by rw[zd8];try rfl),by rw[zd8];exact hcap,(HH.out.all hb9).mono (fun b _ hb=>by omega),hb9'⟩
def z2j(l:List CI):Bool:=decide (l.length≤120)&&decide (11≤l.length)&&decide (l.take 11=zbm)&&((List.range l.length).all fun k=>match l[k]? with|some x=>zcb l k x|none=>true)&&
 decide (za3 (zav l)=0)&&((List.range l.length).all fun k=>match l[k]? with|some x=>decide (line (zav l) k=some x.cpl)|none=>true)
theorem zkj{l:List CI}(h:z2j l=true):zai l:=by
 unfold z2j at h;simp only[Bool.and_eq_true,decide_eq_true_eq]at h;obtain⟨⟨⟨⟨⟨h1,h2⟩,h3⟩,h4⟩,h5⟩,h6⟩:=h;refine⟨h1,h2,h3,fun k x hx=> ?_,h5,fun k x hx=> ?_⟩
 ·have:=List.all_eq_true.1 h4 k (List.mem_range.2 (Qcz hx).1);rw[hx]at this;exact this
 ·have:=List.all_eq_true.1 h6 k (List.mem_range.2 (Qcz hx).1);rw[hx]at this;exact of_decide_eq_true this
def zcq:ByteArray:=⟨#[60,111,98,106,101,99,116,62]⟩
def nA:ByteArray:=⟨#[60,97,62]⟩
def nB:ByteArray:=⟨#[60,98,62]⟩
def nC:ByteArray:=⟨#[60,99,62]⟩
def nL:ByteArray:=⟨#[108]⟩
def ciA:CI:=⟨nA,nL,[zcq],[],false,false⟩
def ciB:CI:=⟨nB,nL,[zcq],[],false,false⟩
def ciC:CI:=⟨nC,nL,[nA,nB],[],false,false⟩
def h1L:List CI:=zo2 zbm ciA [nA,zcq]
def h2L:List CI:=zo2 h1L ciB [nB,zcq]
def h3L:List CI:=zo2 h2L ciC [nC,nA,nB,zcq]
theorem look0:zai zbm:=zkj (by kernel_rfl)
theorem look1:zai h1L:=zkj (by kernel_rfl)
theorem z2u:zai h2L:=zkj (by kernel_rfl)
theorem zu1:zai h3L:=zkj (by kernel_rfl)
theorem z3m:za3 (zav (zbm++[ciA]))=0:=by kernel_rfl
theorem z3x:za3 (zav (h1L++[ciB]))=0:=by kernel_rfl
theorem z3y:za3 (zav (h2L++[ciC]))=0:=by kernel_rfl
theorem z3n:zbi ((zav (zbm++[ciA])).map (·.name)) ciA.name=some zbm.length:=by kernel_rfl
theorem z3o:zbi ((zav (h1L++[ciB])).map (·.name)) ciB.name=some h1L.length:=by kernel_rfl
theorem z3q:zbi ((zav (h2L++[ciC])).map (·.name)) ciC.name=some h2L.length:=by kernel_rfl
theorem z3r:line (zav (zbm++[ciA])) zbm.length=some [nA,zcq]:=by kernel_rfl
theorem z3p:line (zav (h1L++[ciB])) h1L.length=some [nB,zcq]:=by kernel_rfl
theorem z4b:line (zav (h2L++[ciC])) h2L.length=some [nC,nA,nB,zcq]:=by kernel_rfl
theorem zw9:(zbm.all fun y=>decide (y.supers.length≤1000000)&&decide (y.cpl.length≤1000000))=true:=by kernel_rfl
theorem zw5:(h1L.all fun y=>decide (y.supers.length≤1000000)&&decide (y.cpl.length≤1000000))=true:=by kernel_rfl
theorem zyt:(h2L.all fun y=>decide (y.supers.length≤1000000)&&decide (y.cpl.length≤1000000))=true:=by kernel_rfl
theorem z2h:(h3L.all fun y=>decide (y.supers.length≤1000000)&&decide (y.cpl.length≤1000000))=true:=by kernel_rfl
theorem zf5{l:List CI}(h:(l.all fun y=>decide (y.supers.length≤1000000)&&decide (y.cpl.length≤1000000))=true):∀y∈l,y.supers.length≤1000000∧y.cpl.length≤1000000:=fun y hy=>by
 have:=List.all_eq_true.1 h y hy
 simpa using this
theorem zn5{l:List CI}(h:(l.all fun y=>decide (y.supers.length≤1000000)&&decide (y.cpl.length≤1000000))=true):∀y∈l,zdo y:=fun y hy=>by
 have:=zf5 h y hy;exact⟨by omega,by omega⟩
theorem znu{W:World}{s:ByteArray}{n:Nat}(T:TypeId)(hn:n=W.heap.size):Held (fun _=>True) (Strs (some ⟨n,0,none⟩) [s]) (W.alloc (.cells #[.string s] T)):=
 ((Own.read (Own.single (R:=zcz) (T:=T) (base:=0) (G:=fun _=>True) (x:=s) (cs:=[.string s]) hn (Qjz _) rfl (by simp) (fun _ _=>rfl))).2.2).mono fun _ _ _=>trivial
theorem zv4{W:World}{s t:ByteArray}{n:Nat}(T:TypeId)(hn:n=W.heap.size):Held (fun _=>True) (Strs (some ⟨n,0,none⟩) [s,t]) (W.alloc (.cells #[.string s,.string t] T)):=by
 subst hn;have h2:Own zcz T 1 0 (fun _=>True) (.slice (some ⟨W.heap.size,0,none⟩) 2 2) [s,t] (W.alloc (.cells #[.string s,.string t] T)):=by
  refine⟨[.string s,.string t],⟨by simp,.inr ⟨_,2,#[.string s,.string t],rfl,Qjz _,heap_alloc_new W _,Qiz _,by simp[maxLen],by simp,by simp⟩⟩,?_⟩;have h1:=Enc.snoc (Enc.nil (R:=fun x ds=>Held (fun _=>True) (zcz x ds) (W.alloc (.cells #[.string s,.string t] T))) (sz:=1)) (x:=s) (cs:=[.string s]) (fun _ _=>rfl) rfl;exact Enc.snoc h1 (x:=t) (cs:=[.string t]) (fun _ _=>rfl) rfl
 exact((Own.read h2).2.2).mono fun _ _ _=>trivial
theorem zly(W:World):Calls Tryz.prog 36 #[] W fun e W'=>∃A c,e=.returned (.slice A h3L.length c)∧h3L.length≤c∧Held (fun b=>b<W'.heap.size) (CIs A h3L) W'∧Below W.heap.size W W':=by
 have HB:=Qaz (zn1 W);have l0:zbm.length=11:=zc5;have l1:h1L.length=12:=by unfold h1L;rw[zd8,l0]
 have l2:h2L.length=13:=by unfold h2L;rw[zd8,l1]
 have HS1:=Qaz (fun A0 c0 A' (U:World)(G:Nat→Prop)(h:Held G (CIs A0 zbm) U)(hc:zbm.length≤c0)(h2:Held (fun _=>True) (Strs A' [zcq]) U)=>zme A0 c0 zbm ciA A' none 1 0 U G h hc (zn5 zw9) (by omega) _ (fun _=>True) h2 (fun _ _=>Slc.nil _ _ _ _) (Qiz _) (Qiz _) (fun y hy=>(zf5 zw9 y hy).1) (by decide) (fun y hy=>(zf5 zw9 y hy).2) (by decide) look0 [nA,zcq] z3m z3n z3r look1)
 have HS2:=Qaz (fun A0 c0 A' (U:World)(G:Nat→Prop)(h:Held G (CIs A0 h1L) U)(hc:h1L.length≤c0)(h2:Held (fun _=>True) (Strs A' [zcq]) U)=>zme A0 c0 h1L ciB A' none 1 0 U G h hc (zn5 zw5) (by omega) _ (fun _=>True) h2 (fun _ _=>Slc.nil _ _ _ _) (Qiz _) (Qiz _) (fun y hy=>(zf5 zw5 y hy).1) (by decide) (fun y hy=>(zf5 zw5 y hy).2) (by decide) look1 [nB,zcq] z3x z3o z3p z2u)
 have HS3:=Qaz (fun A0 c0 A' (U:World)(G:Nat→Prop)(h:Held G (CIs A0 h2L) U)(hc:h2L.length≤c0)(h2:Held (fun _=>True) (Strs A' [nA,nB]) U)=>zme A0 c0 h2L ciC A' none 2 0 U G h hc (zn5 zyt) (by omega) _ (fun _=>True) h2 (fun _ _=>Slc.nil _ _ _ _) (Qiz _) (Qiz _) (fun y hy=>(zf5 zyt y hy).1) (by decide) (fun y hy=>(zf5 zyt y hy).2) (by decide) z2u [nC,nA,nB,zcq] z3y z3q z4b zu1);go_enter Tryz.func36,Tryz.ntmps36;go_wp2_with (fail);refine HB.out.mono ?_;clear HB;rintro e V ⟨v,rfl,hown,hb⟩;obtain⟨A0,c0,rfl,hc0,h0⟩:=hown.out;clear hown l0 l1 l2
 have b1:Below V.heap.size V (V.alloc (.cells #[.string zcq] 9)):=(Below.refl _ V).alloc (Qiz _) _;go_wp2_with (fail);refine(HS1.out A0 c0 (some ⟨V.heap.size,0,none⟩) (V.alloc (.cells #[.string zcq] 9)) _ (h0.keep (Keep.all b1)) hc0 (znu _ rfl)).mono ?_;clear HS1;rintro e V1 ⟨A1,c1,rfl,hc1,h1,hb1⟩;have bV1:=(hb.trans (b1.mono hb.size)).trans (hb1.mono (hb.trans (b1.mono hb.size)).size);have h1:Held (fun b=>b<V1.heap.size) (CIs A1 h1L) V1:=h1;clear h0 hb b1 hb1;have b2:Below V1.heap.size V1 (V1.alloc (.cells #[.string zcq] 9)):=(Below.refl _ V1).alloc (Qiz _) _;go_wp2_with (fail)
 refine(HS2.out A1 c1 (some ⟨V1.heap.size,0,none⟩) (V1.alloc (.cells #[.string zcq] 9)) _ (h1.keep (Keep.all b2)) hc1 (znu _ rfl)).mono ?_;clear HS2;rintro e V2 ⟨A2,c2,rfl,hc2,h2,hb2⟩;have bV2:=(bV1.trans (b2.mono bV1.size)).trans (hb2.mono (bV1.trans (b2.mono bV1.size)).size);have h2:Held (fun b=>b<V2.heap.size) (CIs A2 h2L) V2:=h2;clear h1 bV1 b2 hb2;have b3:Below V2.heap.size V2 (V2.alloc (.cells #[.string nA,.string nB] 9)):=(Below.refl _ V2).alloc (Qiz _) _;go_wp2_with (fail)
 refine(HS3.out A2 c2 (some ⟨V2.heap.size,0,none⟩) (V2.alloc (.cells #[.string nA,.string nB] 9)) _ (h2.keep (Keep.all b3)) hc2 (zv4 _ rfl)).mono ?_;clear HS3;rintro e V3 ⟨A3,c3,rfl,hc3,h3,hb3⟩;have bV3:=(bV2.trans (b3.mono bV2.size)).trans (hb3.mono (bV2.trans (b3.mono bV2.size)).size);have H3:=Qaz h3;have HC3:=Qaz hc3;clear h3 hc3;go_wp2;go_ret;exact⟨A3,c3,rfl,HC3.out,H3.out,bV3⟩
section
section
variable {P:Program}
theorem zm7{α:Type}(R:α→List Value→World→Prop)(h1R:zw1 R)(T sz base bytes:Nat)(G:Nat→Prop)(W:World)(t ty:TypeId)(z:Value)
  (ht:P.underlying t=some (.slice T))
  (hinfo:(P.info? T).map (fun i=>(i.zero,i.size,i.bytes))=some (some z,sz,bytes)) (hz:z.cells.size=sz) (hs0:0<sz) (hb0:0<bytes)
  (v:Value) (l m:List α) (hown:Own R T sz base G v l W) (A:Option Addr) (c:Nat)
  (hsrc:Held G (Slc R sz A m) W) (hG:∀b,G b→v.ownBlock≠some b) (hbase:base≤W.heap.size) (hlen:(l.length+m.length)*bytes≤140737488355328):
  ∃v' w',(Builtin.append_ #[t,t] ty #[v,.slice A m.length c]).run P W=.ok v' w'∧Own R T sz base G v' (l++m) w'∧W.grownBy w' v.ownBlock∧(v'.ownBlock=v.ownBlock∨v'.ownBlock=some W.heap.size):=by
 obtain⟨i0,hi,hzz⟩:=Option.map_eq_some_iff.1 hinfo;simp only[Prod.mk.injEq]at hzz;obtain⟨hz0,hz1,hz2⟩:=hzz;obtain⟨xs,hrow,henc⟩:=hown;by_cases hm:m=[]
 ·subst hm;rcases A with _|ad
  ·have hr:=run_append_nothing (P:=P) W base t ty T i0 sz ht hi v l.length xs hrow c;exact⟨v,W,hr,⟨xs,by simpa using hrow,by simpa using henc⟩,World.grownBy.refl W _,.inl rfl⟩
  ·obtain⟨v',w',hr,h2,h3,h4,h5⟩:=run_append_own_at (P:=P) W base t ty T i0 z sz bytes ht hi hz0 hz1 hz2 hz hs0 v l.length xs hrow ad 0 c [] (by simp) (fun j u hj=>by simp at hj) (fun u hu=>by simp at hu) (by
    have:l.length≤140737488355328:=Nat.le_trans (Nat.le_mul_of_pos_right _ hb0) (by simpa using hlen);simp only[maxLen];omega) (by simpa using hlen) hbase
   have k:Keep G W w':=Keep.grown h3 fun b hb=>fun e=>hG b hb e.symm;exact⟨v',w',hr,⟨xs,by simpa using h2,by simpa using henc.imp fun _ _ hx=>hx.keep k⟩,h3,h5⟩
 ·have hmp:0<m.length:=by cases m<;>simp_all
  obtain⟨b,off,rfl⟩:=Slc.addr hsrc.now hmp;obtain⟨ys,he,hc,ho1⟩:=Slc.cells h1R m hs0 hsrc m.length (Qiz _);rw[List.take_length]at he;obtain⟨v',w',hr,h2,h3,h4,h5⟩:=run_append_own_at (P:=P) W base t ty T i0 z sz bytes ht hi hz0 hz1 hz2 hz hs0 v l.length xs hrow ⟨b,off,none⟩ m.length c ys he.length (fun j u hj=>by rw[addr_add];exact hc j u hj) ho1 (by
   have:l.length+m.length≤140737488355328:=Nat.le_trans (Nat.le_mul_of_pos_right _ hb0) hlen;simp only[maxLen];omega) hlen hbase
  have k:Keep G W w':=Keep.grown h3 fun b hb=>fun e=>hG b hb e.symm;exact⟨v',w',hr,⟨xs++ys,by simpa using h2,(henc.imp fun _ _ hx=>hx.keep k).append (he.imp fun _ _ hx=>hx.keep k)⟩,h3,h5⟩
theorem zg2{ops:Array Oper}{o:Oper}{a:Act}{K:Act→World→Prop}{Q:Exit→Act→World→Prop}{E:Prop}{α:Type}(R:α→List Value→World→Prop)(h1R:zw1 R)(T sz base bytes:Nat)(G:Nat→Prop)(W:World)(hgd:o.guard=none)(s x:Operand)(t:TypeId)(z:Value)
  (ho:o.op=.call { callee:=.builtin .append,args:= #[s,x],argTypes:= #[t,t] }) (ht:P.underlying t=some (.slice T))
  (hinfo:(P.info? T).map (fun i=>(i.zero,i.size,i.bytes))=some (some z,sz,bytes)) (hz:z.cells.size=sz) (hs0:0<sz) (hb0:0<bytes)
  (v:Value) (l m:List α) (hs:a.eval s=v) (hown:Own R T sz base G v l W) (A:Option Addr) (c n:Nat) (hx:a.eval x=.slice A n c) (hnm:n=m.length)
  (hsrc:Held G (Slc R sz A m) W) (hG:∀b,G b→v.ownBlock≠some b) (hbase:base≤W.heap.size) (hlen:(l.length+m.length)*bytes≤140737488355328)
  (h:∀v' w',Own R T sz base G v' (l++m) w'→W.grownBy w' v.ownBlock→(v'.ownBlock=v.ownBlock∨v'.ownBlock=some W.heap.size)→K (a.put o.dst v') w'):
  if Region.wanted o (yielded ops a.tmps)=true then Oper.wp P o a W K Q else E:=by
 subst hnm;have hw:Region.wanted o (yielded ops a.tmps)=true:=by simp[Region.wanted,hgd]
 rw[if_pos hw];obtain⟨v',w',hr,h2,h3,h5⟩:=zm7 (P:=P) R h1R T sz base bytes G W t o.type z ht hinfo hz hs0 hb0 v l m hown A c hsrc hG hbase hlen;unfold Oper.wp execOp;simp only[ho,resolve,invoke,builtin,Sem.run_bind,Sem.run_pure,Result.andThen_ok,List.map_toArray,List.map_cons,List.map_nil,hs,hx,hr];exact h v' w' h2 h3 h5
end
def Cel(b:Nat)(cs:List Value)(w:World):Prop:=∀j u,cs[j]? =some u→w.cell? ⟨b,j,none⟩=some u∧w.frozen? ⟨b,j,none⟩=false
theorem Cel.new(W:World)(cs:Array Value)(T:TypeId)(b:Nat)(hb:b=W.heap.size):Cel b cs.toList (W.alloc (.cells cs T)):=by
 subst hb;exact fun j u hj=>⟨zac W _ _ _ rfl j u hj,by unfold World.frozen?;rw[heap_alloc_new];simp⟩
theorem Cel.lt{b:Nat}{cs:List Value}{w:World}(h:Cel b cs w)(hc:0<cs.length):b<w.heap.size:=cell_lt (a:=⟨b,0,none⟩) (h 0 _ (Qbz hc)).1
theorem Cel.same{b:Nat}{cs:List Value}{w w':World}(h:Cel b cs w)(e:w'.heap[b]? =w.heap[b]?):Cel b cs w':=
 fun j u hj=>⟨(World.cell?_of_block (a:=⟨b,j,none⟩) e).trans (h j u hj).1,(World.frozen?_of_block (a:=⟨b,j,none⟩) e).trans (h j u hj).2⟩
theorem Cel.keep{b:Nat}{cs:List Value}{w w':World}{G:Nat→Prop}(h:Cel b cs w)(k:Keep G w w')(hg:G b):Cel b cs w':=by
 by_cases hc:0<cs.length
 ·exact h.same (k.2 b (h.lt hc) hg)
 ·intro j u hj;have:=(Qcz hj).1;omega
theorem Cel.all{b:Nat}{cs:List Value}{w w':World}(h:Cel b cs w)(k:Below w.heap.size w w'):Cel b cs w':=h.keep (Keep.all (G:=fun _=>True) k) trivial
theorem Cel.set{b:Nat}{cs:List Value}{w:World}(h:Cel b cs w)(j:Nat)(hj:j<cs.length)(u:Value):Cel b (cs.set j u) (w.setCell ⟨b,j,none⟩ u):=by
 intro i x hi;rw[List.getElem?_set]at hi;by_cases e:j=i
 ·subst e;rw[if_pos rfl,if_pos hj]at hi;cases hi;refine⟨World.cell?_setCell_same' _ _ _ (by rw[(h j _ (Qbz hj)).1];rfl),?_⟩;rw[World.frozen?_setCell];exact(h j _ (Qbz hj)).2
 ·rw[if_neg e]at hi;refine⟨(World.cell?_setCell_other _ _ _ _ (by first|(simp;done)|(simp;exact fun q=>e q.symm))).trans (h i x hi).1,?_⟩;rw[World.frozen?_setCell];exact(h i x hi).2
theorem Cel.other{b b':Nat}{cs:List Value}{w:World}(h:Cel b cs w)(hb:b'≠b)(j:Nat)(u:Value):Cel b cs (w.setCell ⟨b',j,none⟩ u):=
 h.same (Below.heap_setCell w ⟨b',j,none⟩ u b (fun e=>hb e.symm))
theorem Cel.grown{b:Nat}{cs:List Value}{w w':World}{row:Option Nat}(h:Cel b cs w)(hg:w.grownBy w' row)(hn:row≠some b):Cel b cs w':=
 h.keep (G:=fun x=>x=b) (Keep.grown hg fun x hx e=>hn (by rw[←e,hx])) rfl
end
end Go.Proofs.YtepnmejahbiacaaGreat
