/- Part 10 of the proof: C3h, C3j. -/
import Derived.Test.YtepnmejahbiacaaGreatM09
import Derived.Test.YtepnmejahbiacaaGreatM08
set_option linter.unusedVariables false
set_option linter.unusedSimpArgs false
set_option maxHeartbeats 64000000
set_option maxRecDepth 100000
namespace Go.Proofs.YtepnmejahbiacaaGreat
open Go.RowKit
section
attribute [local go_sem] Oper.semAt_some
def zr5(T hp M1 M2:Nat)(A:Option Addr)(c:Nat)(g:List Heir)(B:Nat→Prop)(x:Heir)(w:World)(e:Ending)(w':World):Prop:=
 Chg (fun b=>b=M2) w w'∧
 ((∃xs A' c',zbq (zcn g) x.supers=some xs∧e=.returned (.slice A' (xs++[x.supers]).length c')∧(xs++[x.supers]).length≤c'∧Held (fun b=>¬B b∧b≠M2) (Lsts A' (xs++[x.supers])) w'∧TreeInv hp M1 M2 A c g B w')∨
  (zbq (zcn g) x.supers=none∧∃ch,e=.panicked ch∧z1z T ch))
theorem zl8(hp M1 M2:Nat)(A:Option Addr)(c:Nat)(g:List Heir)(hck:za3 g=0)(i:Nat)(x:Heir)(hx:g[i]? =some x)(tb ib:Nat)(B:Nat→Prop)
  (HL:∀j,j<i→∀B W,(∀b,B b→b<W.heap.size)→TreeInv hp M1 M2 A c g B W→Calls Tryz.prog 169 #[.pointer (some ⟨hp,0,none⟩),.int .i64 (j:Int)] W (zku 229 hp M1 M2 A c g B j W))
  (W0:World) (hT:TreeInv hp M1 M2 A c g B W0) (hB:∀b,B b→b<W0.heap.size)
  (htb:W0.cell? ⟨tb,0,none⟩=some (.pointer (some ⟨hp,0,none⟩))) (hib:W0.cell? ⟨ib,0,none⟩=some (.int .i64 (i:Int))) (htn:tb≠M2∧ib≠M2):
  Calls Tryz.prog 217 #[.slice none 0 0,.func (.func 218) #[] #[.pointer (some ⟨tb,0,none⟩),.pointer (some ⟨ib,0,none⟩)]] W0 (zr5 229 hp M1 M2 A c g B x W0):=by
 have hM2:M2<W0.heap.size:=by obtain⟨_,tr,_⟩:=hT.tr;exact tr.ln.lt
 refine(callsIn_wide (n:=10)).1 ?_;refine callsIn_of_wp_marks Tryz.func217 rfl trivial ?_;simp only[Tryz.ntmps217,List.size_toArray,List.length_cons,List.length_nil,Nat.reduceAdd,Nat.reduceSub,Array.replicate_succ,Array.replicate_zero,List.push_toArray,List.append_toArray,List.nil_append,List.cons_append]
 gi_wp2
 obtain⟨N,hN⟩:∃N,N=W0.heap.size:=⟨_,rfl⟩;refine ze2 rfl (by simp) rfl trivial (fun args w=>by kernel_rfl) ?_;intro fn _;rw[World.size_alloc,←hN];generalize hrec:z2k fn _ _ _ _ (N+1)=rec;have hf0:(W0.alloc (Obj.cells #[Value.slice none 0 0] 111)).frozen? ⟨N,0,none⟩=false:=by subst hN;unfold World.frozen?;rw[heap_alloc_new];rfl
 have hs2:(((W0.alloc (Obj.cells #[Value.slice none 0 0] 111)).alloc (Obj.deferred (some []))).alloc (rec none .ready)).heap.size=N+3:=by simp[hN]
 have hbW:Below W0.heap.size W0 (((W0.alloc (Obj.cells #[Value.slice none 0 0] 111)).alloc (Obj.deferred (some []))).alloc (rec none .ready)):=(((Below.refl _ W0).alloc (Qiz _) _).alloc (by simp) _).alloc (by simp;omega) _
 refine(callsIn_wide.2 (zrx hp M1 M2 A c g hck i x hx tb ib B N HL (N+2) (fun pre Bi W=>W.heap[N+2]? =some (rec none .ready)∧W.heap[N+1]? =some (.deferred (some []))∧∃v,W.cell? ⟨N,0,none⟩=some v∧W.frozen? ⟨N,0,none⟩=false∧Own lstR 108 1 N (fun b=>¬(Bi b∨B b)∧b≠M2) v pre W∧(∀b,v.ownBlock=some b→N+2<b)∧∀b,Bi b↔(b=N∨b=N+1∨b=N+2∨v.ownBlock=some b)) ?js ?yy (fun b=>b=N∨b=N+1∨b=N+2) _ ?h0 ?hT ?hN ?hN2 ?hBo ?hG ?htb ?hib ?htn)).mono ?_
 case js=>
  rintro pre Bi W W' ⟨h1,h2,v,h3,h4,h5,h6,h7⟩ hc;have k:Keep (fun b=>b≠M2) W W':=hc.keep fun _ h=>h;have bl:∀b,b<W.heap.size→b≠M2→W'.heap[b]? =W.heap[b]? :=k.2;have l0:=cell_lt h3;have l1:=(Array.getElem?_eq_some_iff.1 h1).1;have l2:=(Array.getElem?_eq_some_iff.1 h2).1;refine⟨(bl _ l1 (by omega)).trans h1,(bl _ l2 (by omega)).trans h2,v,zah h3 k (by show N≠M2;omega),(World.frozen?_of_block (a:=⟨N,0,none⟩) (bl N l0 (by omega))).trans h4,h5.keep (k.mono fun b h=>h.2) fun b hb=>bl b (h5.lt b hb).2 (by have:=h6 b hb;omega),h6,h7⟩
 case h0=>
  refine⟨?_,?_,.slice none 0 0,?_,?_,Own.nil _ _ _ _ _ _,fun b hb=>by simp[Value.ownBlock]at hb,fun b=>by simp[Value.ownBlock]⟩
  ·have:=World.alloc_heap_new ((W0.alloc (Obj.cells #[Value.slice none 0 0] 111)).alloc (Obj.deferred (some []))) (rec none .ready)
   rwa [World.size_alloc,World.size_alloc,←hN]at this
  ·have:=World.alloc_heap_new (W0.alloc (Obj.cells #[Value.slice none 0 0] 111)) (Obj.deferred (some []));rw[World.size_alloc,←hN]at this;exact(Below.heap_alloc _ _ _ (by simp[hN])).trans this
  ·exact zaa (zaa (zac W0 _ _ N hN 0 _ rfl) ((Below.refl _ _).alloc (Qiz _) _)) ((Below.refl _ _).alloc (Qiz _) _)
  ·exact(World.frozen?_of_block (a:=⟨N,0,none⟩) ((Below.heap_alloc _ _ N (by simp[hN];omega)).trans (Below.heap_alloc _ _ N (by simp[hN])))).trans hf0
 case hT=>
  refine hT.others (Chg.of hbW) fun b _ q=> ?_;rcases q with q|q
  ·exact .inr (by omega)
  ·exact .inl q
 case hN=>intro b hb;rw[hs2];omega
 case hN2=>rw[hs2];omega
 case hBo=>intro b hb;rw[hN];exact hB b hb
 case hG=>exact((hT.gs.lt.keep (Keep.all hbW)).mono fun b _ h=>⟨by rw[hN];exact h.2,h.1.2⟩)
 case htb=>exact zaa htb hbW
 case hib=>exact zaa hib hbW
 case htn=>exact⟨by rw[hN];exact cell_lt htb,by rw[hN];exact cell_lt hib,htn⟩
 case yy=>
  rintro n pre Bi y Ay cy W ⟨h1,h2,v,h3,h4,h5,h6,h7⟩ hyc hyl hpl hyh;refine zh1 hrec trivial h1 rfl (tmps':= #[Value.slice none 0 0,_,Value.pointer (some ⟨N,0,none⟩),undef,Value.slice none 0 0,undef,_,.slice Ay y.length cy,undef,undef,undef,undef,undef]) (by simp;exact⟨rfl,rfl⟩) ?_;clear hrec HL
  gi_wp2
  refine⟨h1,?_⟩;have l0:=cell_lt h3;have l1:=(Array.getElem?_eq_some_iff.1 h1).1;have hM2N:M2<N:=by omega
  have hBN:∀b,B b→b<N:=by rw[hN];exact hB
  clear hbW hs2 hf0 hB hM2 hT htb hib hN;obtain⟨Wb,hWb⟩:∃Wb,Wb=W.putObj (N+2) (rec none .busy):=⟨_,rfl⟩;rw[←hWb];have hb1:Wb.heap[N+2]? =some (rec none .busy):=by rw[hWb];exact World.putObj_heap_same l1
  have hb2:Wb.heap[N+1]? =some (.deferred (some [])):=by rw[hWb];exact(World.putObj_heap_other (by omega)).trans h2
  have hbN:Wb.heap[N]? =W.heap[N]? :=by rw[hWb];exact World.putObj_heap_other (by omega)
  have hb3:Wb.cell? ⟨N,0,none⟩=some v:=(World.cell?_of_block (a:=⟨N,0,none⟩) hbN).trans h3;have hb4:Wb.frozen? ⟨N,0,none⟩=false:=(World.frozen?_of_block (a:=⟨N,0,none⟩) hbN).trans h4;have kb:Keep (fun b=>b≠N+2) W Wb:=by rw[hWb];exact Keep.putObj W (fun b h=>h) _
  have cb:Chg Bi W Wb:=by rw[hWb];exact Chg.putObj W ((h7 _).2 (by omega)) _
  have hb5:Own lstR 108 1 N (fun b=>(¬(Bi b∨B b)∧b≠M2)∧b<Wb.heap.size) v pre Wb:=(h5.keepG (kb.mono fun b h=>by
   rcases h with h|h
   ·intro q;exact h.1 (.inl ((h7 b).2 (by omega)))
   ·have:=h6 b h;omega)).limit
  have hby:Held (fun b=>(¬(Bi b∨B b)∧b≠M2)∧b<Wb.heap.size) (Strs Ay y) Wb:=(hyh.keep (kb.mono fun b h q=>h.1 (.inl ((h7 b).2 (by omega))))).lt;have lb0:=cell_lt hb3;have lb1:=(Array.getElem?_eq_some_iff.1 hb1).1;clear h1 h2 h3 h4 h5 hyh hbN kb hWb
  gi_wp2_with (gi_at_builtin;refine zla lstR 108 1 N 24 (fun b=>(¬(Bi b∨B b)∧b≠M2)∧b<Wb.heap.size) _ rfl _ _ 111 _ rfl Tryz.underlying111 zf0 rfl (by decide) (by decide) v pre rfl (hb5.alloc _) ⟨Wb.heap.size,0,none⟩ 1 rfl y [.slice Ay y.length cy] rfl ?c1 ?c2 (lstR.mk hyc (hby.keep (Keep.alloc _ _ _))) ?c3 ?c4 ?c5 ?_;rotate_right 1;intro v' w1 hown' hgrow hat;have hN1:v.ownBlock≠some N:=(fun e=>by have:=h6 _ e;omega);have hbc:=zas hgrow (zbe hb3) hN1;have hbf:=zbc hgrow (zbe hb3) (zb4 hb3 hb4) hN1;obtain⟨A',c',rfl,q1,q2⟩:=hown'.out)
  case c2=>rfl
  case c3=>intro b _ _ _ h _ _ _;exact h
  case c4=>omega
  case c5=>first|omega|(simp;omega)
  have hlen:(pre++[y]).length=pre.length+1:=by simp
  rw[hlen]at hown' hat q1 q2;have hown2:∀b,(Value.slice A' (pre.length+1) c').ownBlock=some b→N+2<b∧b<w1.heap.size∧(Bi b∨Wb.heap.size<b):=fun b hb=>by
   refine⟨?_,(hown'.lt b hb).2,?_⟩
   ·rcases hat with h|h
    ·exact h6 b (h▸hb)
    ·rw[h]at hb;simp at hb;omega
   ·rcases hat with h|h
    ·exact .inl ((h7 b).2 (.inr (.inr (.inr (h▸hb)))))
    ·rw[h]at hb;simp at hb;exact .inr (by omega)
  have hN2:v.ownBlock≠some (N+2):=fun e=>by have:=h6 _ e;omega
  have hN3:v.ownBlock≠some (N+1):=fun e=>by have:=h6 _ e;omega
  have e2:(w1.setCell ⟨N,0,none⟩ (Value.slice A' (pre.length+1) c')).heap[N+2]? =some (rec none .busy):=(Below.heap_setCell w1 ⟨N,0,none⟩ _ (N+2) (by show N+2≠N;omega)).trans (zk0 hgrow (zh7 hb1) hN2);have e1:(w1.setCell ⟨N,0,none⟩ (Value.slice A' (pre.length+1) c')).heap[N+1]? =some (.deferred (some [])):=(Below.heap_setCell w1 ⟨N,0,none⟩ _ (N+1) (by show N+1≠N;omega)).trans (zk0 hgrow (zh7 hb2) hN3);have e0:(w1.setCell ⟨N,0,none⟩ (Value.slice A' (pre.length+1) c')).cell? ⟨N,0,none⟩=some (Value.slice A' (pre.length+1) c'):=World.cell?_setCell_same' _ _ _ (by rw[hbc];rfl)
  have ef:(w1.setCell ⟨N,0,none⟩ (Value.slice A' (pre.length+1) c')).frozen? ⟨N,0,none⟩=false:=by rw[World.frozen?_setCell];exact hbf
  have BiN:Bi N∧Bi (N+1)∧Bi (N+2):=⟨(h7 _).2 (by omega),(h7 _).2 (by omega),(h7 _).2 (by omega)⟩;have hp1:∀(X:World),X.heap[N]? =(X.putObj (N+2) (rec none .ready)).heap[N]? :=fun X=>(World.putObj_heap_other (by omega)).symm;refine⟨e2,rfl,fun b=>b=N∨b=N+1∨b=N+2∨(Value.slice A' (pre.length+1) c').ownBlock=some b,⟨World.putObj_heap_same (Array.getElem?_eq_some_iff.1 e2).1,(World.putObj_heap_other (by omega)).trans e1,_,(World.cell?_of_block (a:=⟨N,0,none⟩) (hp1 _).symm).trans e0,(World.frozen?_of_block (a:=⟨N,0,none⟩) (hp1 _).symm).trans ef,?_,fun b hb=>(hown2 b hb).1,fun b=>Iff.rfl⟩,?_,?_⟩
  ·have o1:=hown'.setCell (p:=⟨N,0,none⟩) (fun b hb e=>hb.1.1 (.inl (by rw[show b=N from e];exact BiN.1))) (fun e=>by have:=(hown2 _ e).1;simp at this;omega) (Value.slice A' (pre.length+1) c');have o2:=o1.keepG (Keep.putObj _ (l:=N+2) (fun b hb e=>by
    subst e;rcases hb with hb|hb
    ·exact hb.1.1 (.inl BiN.2.2)
    ·have:=(hown2 _ hb).1;omega) (rec none .ready))
   refine o2.mono fun b _ hb=> ?_;have n1:¬Bi b:=fun q=>hb.1.1 (.inl q);have n2:¬B b:=fun q=>hb.1.1 (.inr q);have n3:=hb.1.2;have n4:=hb.2;refine⟨⟨fun q=> ?_,n2⟩,n3⟩;rcases q with rfl|rfl|rfl|q
   ·exact n1 BiN.1
   ·exact n1 BiN.2.1
   ·exact n1 BiN.2.2
   ·rcases(hown2 b q).2.2 with h|h
    ·exact n1 h
    ·omega
  ·exact(((cb.trans (Chg.alloc _ _)).trans (Chg.grown hgrow fun b hb=>(h7 b).2 (.inr (.inr (.inr hb))))).trans (Chg.setCell _ BiN.1 _)).trans (Chg.putObj _ BiN.2.2 _)
  ·have sz:((w1.setCell ⟨N,0,none⟩ (Value.slice A' (pre.length+1) c')).putObj (N+2) (rec none .ready)).heap.size=w1.heap.size:=by simp[World.putObj,World.setCell]
   have s1:=hgrow.size;rw[World.size_alloc]at s1;have s2:=cb.size;rw[sz];rintro b (rfl|rfl|rfl|q)
   ·exact⟨by omega,.inl (.inl rfl)⟩
   ·exact⟨by omega,.inl (.inr (.inl rfl))⟩
   ·exact⟨by omega,.inl (.inr (.inr (.inl rfl)))⟩
   ·refine⟨(hown2 b q).2.1,?_⟩;rcases(hown2 b q).2.2 with h|h
    ·exact .inl ((h7 b).1 h)
    ·exact .inr (by omega)
 ·rintro e W' ⟨hch,hq⟩;have hchW:Chg (fun b=>b=M2) W0 W':=((Chg.of hbW).trans (hch.mono (S':=fun b=>b=M2∨N≤b) fun b _ h=>h)).mono fun b hb h=>by
   rcases h with h|h
   ·exact h
   ·omega
  rcases hq with⟨xs,Bi,hxs,⟨v,rfl⟩,⟨h1,h2,u,h3,h4,h5,h6,h7⟩,hTI⟩|⟨hxs,ch,rfl,hst,pre,Bi,h1,h2,h3⟩
  ·obtain⟨A',c',rfl,q1,q2⟩:=h5.out;have hend:(Instr.endLoop (N+2)).run Tryz.prog W'=.ok none (W'.putObj (N+2) (rec none .exhausted)):=by subst hrec;exact run_endLoop h1 (by simp)
   have l1:=(Array.getElem?_eq_some_iff.1 h1).1;obtain⟨Wd,hWd⟩:∃Wd,Wd=W'.putObj (N+2) (rec none .exhausted):=⟨_,rfl⟩;rw[←hWd]at hend;have d3:Wd.cell? ⟨N,0,none⟩=some (.slice A' (xs++[x.supers]).length c'):=by rw[hWd];exact(World.cell?_of_block (a:=⟨N,0,none⟩) (World.putObj_heap_other (by show N≠N+2;omega))).trans h3
   have d2:Wd.heap[N+1]? =some (.deferred (some [])):=by rw[hWd];exact(World.putObj_heap_other (by omega)).trans h2
   have cd:Chg (fun b=>b=N+2) W' Wd:=by rw[hWd];exact Chg.putObj (S:=fun b=>b=N+2) _ rfl _
   have HX:=Qaz hxs;have hM2N:M2<N:=by omega
   have hBN:∀b,B b→b<N:=by rw[hN];exact hB
   have hNW:N+1<Wd.heap.size:=(Array.getElem?_eq_some_iff.1 d2).1;have hNs:W0.heap.size≤N:=by omega
   refine⟨none,Wd,hend,?_⟩;clear hend hWd hf0 hs2 hbW hch hrec HL h1 h2 h3 h4 hT htb hib hxs hM2 hB;clear hN
   gi_wp2
   refine⟨by simp,.inl ⟨_,_,rfl,run_takeDeferred d2,⟨_,results_tmp rfl _ _ _,?_⟩⟩⟩;have kd:Keep (fun b=>b≠N+1∧b≠N+2) W' (Wd.putObj (N+1) (.deferred none)):=(cd.keep (G:=fun b=>b≠N+1∧b≠N+2) fun b h=>h.2).trans (Keep.putObj _ (fun b h=>h.1) _);have cd2:Chg (fun b=>b=N+1∨b=N+2) W' (Wd.putObj (N+1) (.deferred none)):=(cd.mono fun b _ h=>.inr h).trans (Chg.putObj (S:=fun b=>b=N+1∨b=N+2) _ (.inl rfl) _)
   refine⟨((hchW.mono (S':=fun b=>b=M2∨N≤b) fun b _ h=>.inl h).trans (cd2.mono (S':=fun b=>b=M2∨N≤b) fun b _ h=>.inr (by omega))).mono (fun b hb h=>by rcases h with h|h;exact h;omega),.inl ⟨xs,A',c',HX.out,by simp,q1,?_,?_⟩⟩
   ·refine(q2.keep (kd.mono fun b h=> ?_)).mono fun b _ h=> ?_
    ·rcases h with h|h
     ·exact⟨fun e=>h.1 (.inl ((h7 b).2 (.inr (.inl e)))),fun e=>h.1 (.inl ((h7 b).2 (.inr (.inr (.inl e)))))⟩
     ·have:=h6 b h;exact⟨by omega,by omega⟩
    ·rcases h with h|h
     ·exact⟨fun e=>h.1 (.inr e),h.2⟩
     ·have:=h6 b h;exact⟨fun e=>by have:=hBN b e;omega,by omega⟩
   ·exact(hTI.others (B':=fun b=>Bi b∨B b) (cd2.mono (S':=fun b=>Bi b∨B b) fun b _ h=>.inl ((h7 b).2 (by omega))) fun b _ h=>.inl h).fewer fun b h=>.inr h
  ·refine⟨by simp,.inl ⟨_,_,rfl,run_takeDeferred h2,?_⟩⟩;refine⟨((hchW.mono (S':=fun b=>b=M2∨N≤b) fun b _ h=>.inl h).trans (Chg.putObj (S:=fun b=>b=M2∨N≤b) _ (.inr (by omega)) _)).mono (fun b hb h=>by rcases h with h|h;exact h;omega),.inr ⟨hxs,ch,rfl,hst⟩⟩
end
theorem zpb(hp M1 M2:Nat)(A:Option Addr)(c:Nat)(g:List Heir)(hck:za3 g=0)(i:Nat)(x:Heir)(hx:g[i]? =some x)(tb ib:Nat)(B:Nat→Prop)
  (HL:∀j,j<i→∀B W,(∀b,B b→b<W.heap.size)→TreeInv hp M1 M2 A c g B W→Calls Tryz.prog 169 #[.pointer (some ⟨hp,0,none⟩),.int .i64 (j:Int)] W (zku 229 hp M1 M2 A c g B j W))
  (W0:World) (hT:TreeInv hp M1 M2 A c g B W0) (hB:∀b,B b→b<W0.heap.size)
  (htb:W0.cell? ⟨tb,0,none⟩=some (.pointer (some ⟨hp,0,none⟩))) (hib:W0.cell? ⟨ib,0,none⟩=some (.int .i64 (i:Int))) (htn:tb≠M2∧ib≠M2):
  Calls Tryz.prog 203 #[.func (.func 218) #[] #[.pointer (some ⟨tb,0,none⟩),.pointer (some ⟨ib,0,none⟩)]] W0 (zr5 229 hp M1 M2 A c g B x W0):=by
 have HA:=Qaz (zl8 hp M1 M2 A c g hck i x hx tb ib B HL W0 hT hB htb hib htn);clear hck HL hx hT hB htb hib htn;go_enter Tryz.func203,Tryz.ntmps203;go_wp2_with (go_at_call 217;refine HA.out.mono ?_;rintro e W1 ⟨hch,(⟨xs,A',c',q1,rfl,q2,q3,q4⟩|⟨q1,ch,rfl,q2⟩)⟩)
 ·go_ret;exact⟨hch,.inl ⟨xs,A',c',q1,by simp,q2,q3,q4⟩⟩
 ·exact⟨rfl,hch,.inr ⟨q1,ch,rfl,q2⟩⟩
theorem zs6(hp:Nat)(i:Int)(w:World):Calls Tryz.prog 204 #[.pointer (some ⟨hp,0,none⟩),.int .i64 i] w fun e w'=>
  e=.returned (.func (.func 218) #[] #[.pointer (some ⟨w.heap.size,0,none⟩),.pointer (some ⟨w.heap.size+1,0,none⟩)])∧Below w.heap.size w w'∧
  w'.cell? ⟨w.heap.size,0,none⟩=some (.pointer (some ⟨hp,0,none⟩))∧w'.cell? ⟨w.heap.size+1,0,none⟩=some (.int .i64 i):=by
 go_enter Tryz.func204,Tryz.ntmps204;go_wp2;go_ret;exact⟨rfl,((Below.refl _ w).alloc (Qiz _) _).alloc (by simp) _,zbe (zac w _ _ _ rfl 0 _ rfl),zac (w.alloc _) _ _ _ (by simp) 0 _ rfl⟩
theorem zun{l:List (List ByteArray)}{m:Nat}(h:∀y∈l,y.length≤m):total l≤l.length*m:=by
 induction l with
 |nil=>simp[total]
 |cons y l ih=>
  rw[total_cons,List.length_cons,Nat.add_mul,Nat.one_mul];have:=h y List.mem_cons_self;have:=ih fun z hz=>h z (List.mem_cons_of_mem _ hz);omega
theorem zty{g:List Heir}(hck:za3 g=0){i:Nat}{x:Heir}(hx:g[i]? =some x){xs:List (List ByteArray)}(h:zbq (zcn g) x.supers=some xs):
  (xs++[x.supers]).length≤9∧∀y∈xs++[x.supers],y.length≤120:=by
 obtain⟨h1,h2⟩:=zaz hck;have h3:=zd3 h2 i x hx;unfold zdu at h3;simp only[Bool.and_eq_true,decide_eq_true_eq]at h3;have h4:=h3.1.2;obtain⟨l1,l2⟩:=zdd h;refine⟨by simp;omega,fun y hy=> ?_⟩;rcases List.mem_append.1 hy with hy|hy
 ·obtain⟨k,hk⟩:=Qez hy;have hkl:k<x.supers.length:=by rw[←l1];exact(Qcz hk).1
  obtain⟨z,hz,hlz⟩:=l2 k _ (Qbz hkl);rw[hk]at hz;cases hz;obtain⟨j,_,hj⟩:=Option.bind_eq_some_iff.1 hlz;have:=zbr h2 hj;omega
 ·rw[List.mem_singleton.1 hy];omega
theorem z0g{g:List Heir}(hck:za3 g=0){i:Nat}{x:Heir}(hx:g[i]? =some x):zcn g x.name=line g i:=by
 unfold zcn;rw[zja (zg0 hx) (zer (zaz hck).2)]
 rfl
theorem znm(hp M1 M2:Nat)(A:Option Addr)(c:Nat)(g:List Heir)(hck:za3 g=0):∀i,i<g.length→∀B W,(∀b,B b→b<W.heap.size)→TreeInv hp M1 M2 A c g B W→
  Calls Tryz.prog 169 #[.pointer (some ⟨hp,0,none⟩),.int .i64 (i:Int)] W (zku 229 hp M1 M2 A c g B i W):=by
 intro i
 induction i using Nat.strongRecOn with
 |_ i ih=>
  intro hi B w hB hT;have hx:g[i]? =some g[i]:=Qbz hi;generalize g[i]=x at hx;have HL:=Qaz (fun j (hj:j<i)=>ih j hj (by omega));have HX:=Qaz hx;have HCK:=Qaz hck;have hgl:=(zaz hck).1;have HEQ:=Qaz (zpj (zaz hck).2 hx);have HOWN:=Qaz (z0g hck hx);obtain⟨b,off,rfl⟩:=Slc.addrH hT.gs (by omega);obtain⟨A2,c2,r2,R2,g1,g2⟩:=Heirs.atH hT.gs hx;obtain⟨lines,tr,mm⟩:=hT.tr;have c0:=tr.c0;have c1:=tr.c1;have cc2:=tr.c2;have hM2:=tr.ln.lt;have hlk:=zda tr.ln Tryz.underlying218 (zyo w) x.name true;clear ih hx hck;cases hm:lines x.name with
  |some v=>
   obtain⟨y,A3,c3,m1,rfl,m2,m3⟩:=mm _ _ hm;rw[hm]at hlk;have hlk1:(Instr.lookup 218 (.map (some M2)) (.string x.name) true).run Tryz.prog w=.ok (.tuple #[.slice A3 y.length c3,.bool true]) w:=hlk;clear hlk;go_enter Tryz.func169,Tryz.ntmps169;go_wp2;go_ret;exact⟨Chg.refl _ _,.inl ⟨y,A3,c3,by rw[←HOWN.out];exact m1,rfl,m2,m3,hT⟩⟩
  |none=>
   rw[hm]at hlk;have hlk1:(Instr.lookup 218 (.map (some M2)) (.string x.name) true).run Tryz.prog w=.ok (.tuple #[.slice none 0 0,.bool false]) w:=hlk;clear hlk;have HC:=Qaz (zs6 hp (i:Int) w);clear tr mm hm;go_enter Tryz.func169,Tryz.ntmps169;go_wp2_with (go_at_call 204;refine HC.out.mono ?_;rintro e W1 ⟨rfl,hb1,ht1,ht2⟩);have hT1:=hT.all hb1;have s1:=hb1.size;have HP:=Qaz (zpb hp M1 M2 _ c g HCK.out i x HX.out w.heap.size (w.heap.size+1) B HL.out W1 hT1 (fun b hb=>by have:=hB b hb;omega) ht1 ht2 ⟨by omega,by omega⟩);refine HP.out.mono ?_;clear HP
   rintro e W2 ⟨hch,(⟨xs,A',c',q1,rfl,q2,q3,q4⟩|⟨q1,ch,rfl,q2⟩)⟩;rotate_left
   ·exact⟨rfl,(Chg.of hb1).trans hch,.inr ⟨by rw[HEQ.out,q1];rfl,ch,rfl,q2⟩⟩
   obtain⟨bd1,bd2⟩:=zty HCK.out HX.out q1;have HM:Hid (line g i=(merge (xs++[x.supers])).map (x.name:: ·)):=Qaz (by rw[HEQ.out,q1];rfl);generalize xs++[x.supers]=XL at*;have bd3:total XL≤9*120:=Nat.le_trans (zun bd2) (Nat.mul_le_mul_right _ bd1);have HP:=Qaz (zqs A' c' XL _ W2 q3 (by omega) (fun y hy=>by have:=bd2 y hy;omega) (by omega));have HB2:=Qaz bd2;clear bd2 bd3;have s2:=hch.size;clear hlk1 g1 g2 c0 c1 cc2 HC ht1 ht2 R2 hT hT1;go_wp2_with (fail);refine HP.out.mono ?_;clear HP;rintro e W3 (⟨p1,rfl,hb3⟩|⟨out,v,p1,rfl,ho,hb3⟩)
   ·go_wp2_with (fail);exact⟨rfl,((Chg.of hb1).trans hch).trans (Chg.of hb3),.inr ⟨by rw[HM.out,p1];rfl,_,rfl,⟨(i:Int),rfl⟩⟩⟩
   obtain⟨A4,c4,rfl,o1,o2⟩:=ho.out;have s3:=hb3.size;have hol:out.length≤120:=by
    have h1:line g i=some (x.name::out):=by rw[HM.out,p1];rfl
    have:=zbr (zaz HCK.out).2 h1;simp at this;omega
   go_wp2_with (first
    |(at_builtin;refine zby zcz zkr 9 1 W3.heap.size 16 (fun b=>(Value.slice A4 out.length c4).ownBlock=some b) _ rfl _ _ 108 _ rfl Tryz.underlying108 info9 rfl (by decide) (by decide) (.slice (some ⟨W3.heap.size,0,none⟩) 1 1) [x.name] out rfl (Own.single rfl (Qiz _) rfl (by decide) (fun _ _=>rfl)) A4 c4 out.length rfl rfl ?src ?hG ?base ?len ?_;rotate_right 1;intro v' w5 hown hg hat;obtain⟨A5,c5,rfl,n1,n2⟩:=hown.out;have hb5:Below W3.heap.size W3 w5:=((Below.refl _ _).alloc (Qiz _) _).grown hg (by simp) (fun k e=>by simp[Value.ownBlock]at e;omega);have hT5:=(q4.all hb3).all hb5;obtain⟨ln5,tr5,mm5⟩:=hT5.tr;have cc5:=tr5.c2)
    |(at_mapUpdate;refine zcu zbn _ rfl 218 108 _ _ _ rfl Tryz.underlying218 M2 ln5 tr5.ln rfl x.name rfl (.slice A5 (out.length+1) c5) rfl ?_;intro w6 hM6 hg6))
   case src=>exact(o2.mono fun b _ h=>by rcases h with h|h;exact h.elim;exact h).keep (Keep.alloc _ _ _)
   case hG=>intro b hb e;have:=(ho.lt b hb).2;simp[Value.ownBlock]at e;omega
   case base=>simp
   case len=>simp;omega
   go_ret;have hL:line g i=some (x.name::out):=by rw[HM.out,p1];rfl
   have h6:Held (fun b=>¬B b∧b≠M2) (Strs A5 (x.name::out)) w6:=by
    refine(Held.keep n2 (Keep.grown hg6 fun b h e=> ?_)).mono fun b _ h=> ?_
    ·cases e;rcases h with h|h
     ·have:=(ho.lt _ h).1;omega
     ·have:=(hown.lt _ h).1;omega
    ·have hh:W2.heap.size≤b:=by
      rcases h with h|h
      ·exact(ho.lt _ h).1
      ·have:=(hown.lt _ h).1;omega
     exact⟨fun q=>by have:=hB b q;omega,by omega⟩
   have l0:=cell_lt tr5.c0;have n5:=hT5.nb;refine⟨((((Chg.of hb1).trans hch).trans (Chg.of hb3)).trans (Chg.of hb5)).trans (Chg.grown hg6 fun b e=>by cases e;rfl),.inl ⟨x.name::out,A5,c5,hL,rfl,n1,h6,n5,hT5.gs.keep (Keep.grown hg6 fun b hb e=>hb.2 (by cases e;rfl)),_,⟨?_,?_,?_,?_,hM6⟩,?_⟩⟩
   ·exact zas hg6 tr5.c0 (fun e=>n5.2.2.2.2 (by simpa using e.symm))
   ·exact zas hg6 tr5.c1 (fun e=>n5.2.2.2.2 (by simpa using e.symm))
   ·exact zas hg6 tr5.c2 (fun e=>n5.2.2.2.2 (by simpa using e.symm))
   ·exact tr5.at_.same (hg6.block M1 tr5.at_.lt (fun e=>n5.2.2.2.1 (by simpa using e)))
   ·intro s v hv;by_cases hs:s=x.name
    ·subst hs;simp only[if_true,Option.some.injEq]at hv;exact⟨x.name::out,A5,c5,by rw[HOWN.out];exact hL,hv.symm,n1,h6⟩
    ·simp only[if_neg hs]at hv;exact mm5.keep (Keep.grown hg6 fun b hb e=>hb.2 (by cases e;rfl)) s v hv
theorem zqu(eb:Nat)(j:Int)(w:World)(v0:Value)(hc:w.cell? ⟨eb,0,none⟩=some v0)(hf:w.frozen? ⟨eb,0,none⟩=false):
  CallsD Tryz.prog 168 #[.pointer (some ⟨eb,0,none⟩)] (.panicking [{ v:=.iface 229 (.agg #[.int .i64 j]),recovered:=false }]) w fun e u' w'=>
   e=.returned (.tuple #[])∧u'=.panicking [{ v:=.iface 229 (.agg #[.int .i64 j]),recovered:=true }]∧Chg (fun b=>b=eb) w w'∧w'.cell? ⟨eb,0,none⟩=some (.int .i64 71):=by
 have hta:∀w,(Instr.typeAssert (.iface 229 (.agg #[.int .i64 j])) 20 229 true).run Tryz.prog w=.ok (.tuple #[.agg #[.int .i64 j],.bool true]) w:=fun w=>by kernel_rfl
 have hc':∀cs T,(w.alloc (.cells cs T)).cell? ⟨eb,0,none⟩=some v0:=fun _ _=>zbe hc;have hf':∀cs T,(w.alloc (.cells cs T)).frozen? ⟨eb,0,none⟩=false:=fun _ _=>zb4 hc hf;refine callsD_of_wpS Tryz.func168 rfl fun c₀ cs hu=> ?_;apply wpS_seq;apply wpS_region;simp[wpOpsS,go_sem,recoverD,hu,Tryz.ntmps168,Exit.thenS,Array.replicate];refine wpS_of_wp ?_;go_wp2;refine⟨rfl,_,rfl,_,results_none rfl _ _ _,rfl,rfl,(Chg.alloc _ _).trans (Chg.setCell (S:=fun b=>b=eb) _ rfl _),World.cell?_setCell_same' _ _ _ (by rw[hc'];rfl)⟩
theorem zlg(eb:Nat)(w:World):
  CallsD Tryz.prog 168 #[.pointer (some ⟨eb,0,none⟩)] .returning w fun e u' w'=>e=.returned (.tuple #[])∧u'=.returning∧w'=w:=by
 refine callsD_of_wpS Tryz.func168 rfl fun c₀ cs hu=> ?_;apply wpS_seq;apply wpS_region;simp[wpOpsS,go_sem,recoverD,hu,Tryz.ntmps168,Exit.thenS,Array.replicate];refine wpS_of_wp ?_;go_wp2;refine⟨rfl,_,?_,_,results_none rfl _ _ _,rfl,rfl,rfl⟩;cases c₀
 simp_all
def zwo(hp M1 M2:Nat)(A:Option Addr)(c:Nat)(g:List Heir)(B:Nat→Prop)(i:Nat)(w:World)(e:Ending)(w':World):Prop:=
 Chg (fun b=>b=M2) w w'∧
 ((∃x A' c',line g i=some x∧e=.returned (.tuple #[.slice A' x.length c',.int .i64 0])∧x.length≤c'∧Held (fun b=>¬B b∧b≠M2) (Strs A' x) w'∧TreeInv hp M1 M2 A c g B w')∨
  (line g i=none∧e=.returned (.tuple #[.slice none 0 0,.int .i64 71])))
theorem zt1(hp M1 M2:Nat)(A:Option Addr)(c:Nat)(g:List Heir)(hck:za3 g=0)(i:Nat)(hi:i<g.length)(B:Nat→Prop)(w:World)(hB:∀b,B b→b<w.heap.size)(hT:TreeInv hp M1 M2 A c g B w):
  Calls Tryz.prog 160 #[.pointer (some ⟨hp,0,none⟩),.int .i64 (i:Int)] w (zwo hp M1 M2 A c g B i w):=by
 have hb0:Below w.heap.size w (w.alloc (.cells #[.int .i64 0] 28)):=(Below.refl _ w).alloc (Qiz _) _;have hT0:TreeInv hp M1 M2 A c g (fun b=>B b∨b=w.heap.size) _:=hT.others (Chg.of hb0) (fun b _ h=>by rcases h with h|h;exact .inl h;exact .inr (by omega));have hM2:M2<w.heap.size:=by obtain⟨_,tr,_⟩:=hT.tr;exact tr.ln.lt
 have HL:=Qaz (znm hp M1 M2 A c g hck i hi _ _ (fun b hb=>by rcases hb with hb|hb;(have:=hB b hb;simp;omega);(simp;omega)) hT0);clear hT hck
 go_enter_defers Tryz.func160,Tryz.ntmps160
 go_wp2_with (fail);refine HL.out.mono ?_;have e0:(w.alloc (.cells #[.int .i64 0] 28)).cell? ⟨w.heap.size,0,none⟩=some (.int .i64 0):=zac w _ _ _ rfl 0 _ rfl;have f0:(w.alloc (.cells #[.int .i64 0] 28)).frozen? ⟨w.heap.size,0,none⟩=false:=by unfold World.frozen?;rw[heap_alloc_new];rfl
 have hsz:(w.alloc (.cells #[.int .i64 0] 28)).heap.size=w.heap.size+1:=by simp
 rintro e W1 ⟨hch,(⟨x,A',c',q1,rfl,q2,q3,q4⟩|⟨q1,ch,rfl,q2⟩)⟩
 ·have hbk:=hch.block w.heap.size (by omega) (by omega);have e1:W1.cell? ⟨w.heap.size,0,none⟩=some (.int .i64 0):=(World.cell?_of_block (a:=⟨w.heap.size,0,none⟩) hbk).trans e0;have f1:W1.frozen? ⟨w.heap.size,0,none⟩=false:=(World.frozen?_of_block (a:=⟨w.heap.size,0,none⟩) hbk).trans f0;go_wp2;refine leaves_cons (f:=168) (args:= #[.pointer (some ⟨w.heap.size,0,none⟩)]) (by simp) (by kernel_rfl) ?_;refine(zlg w.heap.size _).mono ?_;rintro e u' w'' ⟨rfl,rfl,rfl⟩
  have e2:(W1.setCell ⟨w.heap.size,0,none⟩ (.int .i64 0)).cell? ⟨w.heap.size,0,none⟩=some (.int .i64 0):=World.cell?_setCell_same' _ _ _ (by rw[e1];rfl);have cs:=Chg.setCell (S:=fun b=>B b∨b=w.heap.size) W1 (p:=⟨w.heap.size,0,none⟩) (.inr rfl) (.int .i64 0);have cq:Chg (fun b=>b=M2) w (W1.setCell ⟨w.heap.size,0,none⟩ (.int .i64 0)):=(((Chg.of hb0).trans (hch.mono (S':=fun b=>b=M2∨b=w.heap.size) fun b _ h=>.inl h)).trans (Chg.setCell (S:=fun b=>b=M2∨b=w.heap.size) W1 (p:=⟨w.heap.size,0,none⟩) (.inr rfl) (.int .i64 0))).mono fun b hb h=>by rcases h with h|h;exact h;omega
  refine⟨.tuple #[.slice A' x.length c',.int .i64 0],?_,cq,.inl ⟨x,A',c',q1,rfl,q2,?_,?_⟩⟩
  ·simp[results,Tryz.results160,go_sem,e2]
  ·exact(q3.keep (cs.keep fun b h=>h.1)).mono fun b _ h=>⟨fun q=>h.1 (.inl q),h.2⟩
  ·exact(q4.others cs (B':=fun b=>B b∨b=w.heap.size) fun b _ h=>.inl h).fewer fun b h=>.inl h
 ·obtain⟨j,rfl⟩:=q2;have hbk:=hch.block w.heap.size (by omega) (by omega);have e1:W1.cell? ⟨w.heap.size,0,none⟩=some (.int .i64 0):=(World.cell?_of_block (a:=⟨w.heap.size,0,none⟩) hbk).trans e0;have f1:W1.frozen? ⟨w.heap.size,0,none⟩=false:=(World.frozen?_of_block (a:=⟨w.heap.size,0,none⟩) hbk).trans f0;refine leaves_cons (f:=168) (args:= #[.pointer (some ⟨w.heap.size,0,none⟩)]) (by simp) (by kernel_rfl) ?_;refine(zqu w.heap.size j _ _ e1 f1).mono ?_;rintro e u' w'' ⟨rfl,rfl,h1,h2⟩;refine⟨.tuple #[.slice none 0 0,.int .i64 71],?_,?_,.inr ⟨q1,rfl⟩⟩
  ·simp[results,Tryz.results160,go_sem,h2]
  ·exact(((Chg.of hb0).trans (hch.mono (S':=fun b=>b=M2∨b=w.heap.size) fun b _ h=>.inl h)).trans (h1.mono (S':=fun b=>b=M2∨b=w.heap.size) fun b _ h=>.inr h)).mono fun b hb h=>by rcases h with h|h;exact h;omega
def z1b(T:Nat)(g:List Heir)(w:World)(e:Ending)(w':World):Prop:=
 Below w.heap.size w w'∧
 ((za3 g≠0∧e=.returned (.tuple #[.slice none 0 0,.int .i64 0,.int .i64 (za3 g)]))∨
  (za3 g=0∧∃i,i<g.length∧(∀j,j<i→(line g j).isSome=true)∧line g i=none∧e=.returned (.tuple #[.slice none 0 0,.int .i64 (i:Int),.int .i64 71]))∨
  (za3 g=0∧∃ls v S,ls.length=g.length∧(∀(i:Nat)(x:List ByteArray),ls[i]? =some x→line g i=some x)∧e=.returned (.tuple #[v,.int .i64 0,.int .i64 0])∧Own lstR T 1 w.heap.size S v ls w'∧∀b,S b→w.heap.size≤b))
theorem OwnStr.pure{T base:Nat}{G G':Nat→Prop}{v:Value}{l:List ByteArray}{w:World}(h:Own zcz T 1 base G v l w):Own zcz T 1 base G' v l w:=by
 obtain⟨xs,h1,h2⟩:=h;exact⟨xs,h1,h2.imp fun _ _ hx=>fun _ _=>hx.now⟩
theorem zxb(A:Option Addr)(c:Nat)(g:List Heir)(w:World)(h:Heirs A g w)(hl:g.length≤1000000)(hgs:∀x∈g,x.supers.length≤1000000):
  Calls Tryz.prog 107 #[.slice A g.length c] w (z1b 108 g w):=by
 have H:=(Slc.stable zg3 h).here;have HO:=Qaz (zj4 A c g ⟨#[]⟩ w h hl hgs);clear h;go_enter Tryz.func107,Tryz.ntmps107;go_wp2_with (fail);refine HO.out.mono ?_;clear HO;rintro e W1 ⟨hb1,(⟨hne,rfl⟩|⟨hz,hp,M1,M2,n1,n2,n3,n4,tr,he⟩)⟩
 ·have hne':za3 g=2∨za3 g=70:=by
   unfold za3 at hne ⊢
   split
   ·exact .inl rfl
   ·split
    ·rename_i h1 h2;rw[if_neg h1,if_pos h2]at hne;exact absurd rfl hne
    ·exact .inr rfl
  rcases hne' with hq|hq
  ·rw[hq];go_wp2;go_ret3;exact⟨hb1,.inl ⟨hne,by rw[hq];rfl⟩⟩
  ·rw[hq];go_wp2;go_ret3;exact⟨hb1,.inl ⟨hne,by rw[hq];rfl⟩⟩
 ·have hz':=Qaz hz;have hgl:=(zaz hz).1;have hTree:TreeInv hp M1 M2 A c g (fun _=>False) W1:=by
   obtain⟨es,cc,m,hbm,_⟩:=tr.ln;have hne:hp≠M2:=by
    rintro rfl;have:=tr.c0;unfold World.cell? at this;rw[show(⟨hp,0,none⟩:Addr).block=hp from rfl,hbm]at this;simp at this
   exact⟨⟨id,id,id,n4,hne⟩,(H.keep (Keep.below hb1)).mono fun b _ hb=>⟨id,by omega⟩,_,tr,fun s v hv=>by cases hv⟩
  have he':∃(k:Int)(x:Int),(x=0∨x=3)∧e=.returned (.tuple #[.pointer (some ⟨hp,0,none⟩),.int .i64 k,.int .i64 x]):=by
   rcases he with⟨i,_,rfl⟩|⟨_,rfl⟩
   ·exact⟨_,0,.inl rfl,rfl⟩
   ·exact⟨_,3,.inr rfl,rfl⟩
  clear he hz tr;obtain⟨k0,x0,hx0,rfl⟩:=he';rcases hx0 with rfl|rfl
  all_goals go_wp2
  all_goals
   go_loopw [8,27] (fun v i wr=>∃k:Nat,k≤g.length∧i=.int .i64 k∧Below w.heap.size w wr∧TreeInv hp M1 M2 A c g (fun b=>v.ownBlock=some b) wr∧
    ∃ls S,ls.length=k∧(∀(i:Nat)(x:List ByteArray),ls[i]? =some x→line g i=some x)∧Own lstR 108 1 w.heap.size S v ls wr∧∀b,S b→w.heap.size≤b∧b<wr.heap.size∧b≠M2∧v.ownBlock≠some b) (fun _ i _=>g.length-(intOf i).toNat)
   case atStart=>exact⟨0,Qjz _,rfl,hb1,hTree.fewer (fun b h=>by simp[Value.ownBlock]at h),[],fun _=>False,rfl,(fun i x h=>by simp at h),Own.nil _ _ _ _ _ _,fun b h=>h.elim⟩
   case round=>
    clear hTree hb1;obtain⟨k,hk,rfl,hbr,hT,ls,S,rfl,l2,l3,l4⟩:=hrel;by_cases hlt:ls.length<g.length
    ·have HTR:=Qaz (zt1 hp M1 M2 A c g hz'.out ls.length hlt _ wr (fun b hb=>(l3.lt b hb).2) hT);obtain⟨Av,cv,rfl,_,_⟩:=l3.out;have l0:ls.length<g.length:=hlt;go_wp2_with (fail);refine HTR.out.mono ?_;clear HTR;rintro e W2 ⟨hch,(⟨x,A2,c2,q1,rfl,q2,q3,q4⟩|⟨q1,rfl⟩)⟩
     ·have hx:=zbr (zaz hz'.out).2 q1;have HCL:=Qaz (zc6 A2 c2 x _ W2 q3 (by omega));have s2:=hch.size;have s1:=hbr.size;have nb:=hT.nb;have hM2w:M2<wr.heap.size:=by obtain⟨_,tr,_⟩:=hT.tr;exact tr.ln.lt
      have l3':Own lstR 108 1 w.heap.size S (Value.slice Av ls.length cv) ls W2:=l3.keep (hch.keep fun b hb=>(l4 b hb).2.2.1) fun b hb=>hch.block b (l3.lt b hb).2 (fun e=>nb.2.2.1 (by rw[←e];exact hb));have bl2:Below w.heap.size w W2:=hbr.trans (hch.below s1 (fun b hb=>by omega));clear l3 hT;go_wp2_with (fail);refine HCL.out.mono ?_;clear HCL;rintro e W3 ⟨vc,rfl,hown,hb3⟩;obtain⟨Ac,cc,rfl,p1,_⟩:=hown.out;have s3:=hb3.size;have hc3:Held (fun b=>(Value.slice Ac x.length cc).ownBlock=some b) (Strs Ac x) W3:=by
       obtain⟨Ac',cc',e,_,hh⟩:=(OwnStr.pure (G':=fun _=>False) hown).out;cases e;exact hh.mono fun b _ h=>by rcases h with h|h;exact h.elim;exact h
      have l3'':=l3'.all hb3;go_wp2_with (at_builtin;refine zao lstR 108 1 w.heap.size 24 (fun b=>S b∨(Value.slice Ac x.length cc).ownBlock=some b) _ rfl _ _ 111 _ rfl Tryz.underlying111 zf0 rfl (by decide) (by decide) (Value.slice Av ls.length cv) ls rfl ?_ ⟨W3.heap.size,0,none⟩ 1 rfl x [.slice Ac x.length cc] rfl ?_ ?_ (lstR.mk p1 ((hc3.mono fun b _ h=>.inr h).keep (Keep.alloc _ _ _))) ?_ ?_ ?_ ?_;rotate_right 1;intro v' w5 hown' hgrow hat)
      ·have hlen:(ls++[x]).length=ls.length+1:=by simp
       have hown2:∀b,v'.ownBlock=some b→(Value.slice Av ls.length cv).ownBlock=some b∨W3.heap.size<b:=fun b hb=>by
        rcases hat with h|h
        ·exact .inl (h▸hb)
        ·rw[h]at hb;simp at hb;exact .inr (by omega)
       have c5:Chg (fun b=>(Value.slice Av ls.length cv).ownBlock=some b) W2 w5:=((Chg.of hb3).trans (Chg.alloc _ _)).trans (Chg.grown hgrow fun b hb=>hb);have s5:=hgrow.size;rw[World.size_alloc]at s5;refine⟨⟨ls.length+1,by omega,by go_num,bl2.trans (c5.below (by omega) fun b hb=>(l3'.lt b hb).1),q4.others c5 (fun b _ hb=>by rcases hown2 b hb with h|h;exact .inl h;exact .inr (by omega)),ls++[x],_,hlen,?_,hown',?_⟩,by simp[intOf];omega⟩
       ·intro i y hy;rcases Nat.lt_or_ge i ls.length with hi|hi
        ·rw[List.getElem?_append_left hi]at hy;exact l2 i y hy
        ·have:=(Qcz hy).1;obtain rfl:i=ls.length:=by omega
         rw[List.getElem?_append_right (Qiz _),Nat.sub_self]at hy;cases hy;exact q1
       ·intro b hb;rcases hb with hb|hb
        ·obtain⟨h1,h2,h3,h4⟩:=l4 b hb;exact⟨h1,by omega,h3,fun e=>by rcases hown2 b e with h|h;exact h4 h;omega⟩
        ·obtain⟨h1,h2⟩:=hown.lt b hb;exact⟨by omega,by omega,by omega,fun e=>by
          rcases hown2 b e with h|h
          ·have:=(l3'.lt b h).2;omega
          ·omega⟩
      ·exact(l3''.mono fun b _ h=>.inl h).alloc _
      ·exact fun j u hu=>zaq W3 _ _ _ rfl j u hu
      ·intro u hu;simp at hu;subst hu;rfl
      ·intro b hb;rcases hb with hb|hb
       ·exact(l4 b hb).2.2.2
       ·exact fun e=>by have:=(l3'.lt b e).2;have:=(hown.lt b hb).1;omega
      ·simp;omega
      ·omega
     ·go_wp2_with (fail);go_ret3;refine⟨hbr.trans (hch.below hbr.size fun b hb=>by omega),.inr (.inl ⟨hz'.out,ls.length,hlt,fun j hj=> ?_,q1,rfl⟩)⟩;rw[l2 j _ (Qbz hj)];rfl
    ·have l1:ls.length=g.length:=by omega
     go_wp2_with (fail);go_ret3;exact⟨hbr,.inr (.inr ⟨hz'.out,ls,u8,S,l1,l2,rfl,l3,fun b hb=>(l4 b hb).1⟩)⟩
end Go.Proofs.YtepnmejahbiacaaGreat
