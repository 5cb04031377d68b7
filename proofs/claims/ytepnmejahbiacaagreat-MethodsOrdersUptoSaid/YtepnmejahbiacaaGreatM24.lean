/- Part 24 of the proof: Eb. -/
import Derived.Test.YtepnmejahbiacaaGreatM22
set_option linter.unusedVariables false
set_option linter.unusedSimpArgs false
set_option maxHeartbeats 64000000
set_option maxRecDepth 100000
namespace Go.Proofs.YtepnmejahbiacaaGreat
open Go.RowKit
theorem zh8{l:List CI}{c:List ByteArray}{s t:Ty}(hk:s.kind=1∧t.kind=1):(zgs l c s t=1↔idx c s.name<idx c t.name)∧((zgs l c s t=0∨zgs l c s t=1)↔idx c s.name≤idx c t.name):=by
 unfold zgs;rw[if_pos hk];by_cases h1:idx c t.name<idx c s.name
 ·rw[if_pos h1];exact⟨⟨fun q=>by simp at q,fun q=>by omega⟩,⟨fun q=>by simp at q,fun q=>by omega⟩⟩
 ·rw[if_neg h1];by_cases h2:idx c s.name<idx c t.name
  ·rw[if_pos h2];exact⟨⟨fun _=>h2,fun _=>rfl⟩,⟨fun _=>by omega,fun _=>.inr rfl⟩⟩
  ·rw[if_neg h2];exact⟨⟨fun q=>by simp at q,fun q=>by omega⟩,⟨fun _=>by omega,fun _=>.inl rfl⟩⟩
theorem zgm{l:List CI}{c:List ByteArray}{s t:Ty}(hk:¬(s.kind=1∧t.kind=1)):(zgs l c s t=1↔za5 l s t=true∧za5 l t s=false)∧((zgs l c s t=0∨zgs l c s t=1)↔za5 l s t=true):=by
 unfold zgs;rw[if_neg hk];cases za5 l s t<;>cases za5 l t s<;>simp
theorem zzh{l:List CI}(h:zai l){v:Tag}{s t u:Ty}(hs:zbx l v s=true)(ht:zbx l v t=true)(hu:zbx l v u=true)(h1:zgs l (za9 l v) s t=1)
  (h2:zgs l (za9 l v) t u=0∨zgs l (za9 l v) t u=1) (h3:zgs l (za9 l v) u s=0∨zgs l (za9 l v) u s=1):False:=by
 have W:∀{x y:Ty},zbx l v x=true→x.kind=1→y.kind=1→za5 l x y=true→idx (za9 l v) x.name≤idx (za9 l v) y.name∧(za5 l y x=false→idx (za9 l v) x.name<idx (za9 l v) y.name):=fun hx kx ky hw=>
  ⟨(zh8 ⟨kx,ky⟩).2.1 (zk9 h hx hw).1,fun hn=>(zh8 ⟨kx,ky⟩).1.1 ((zk9 h hx hw).2 hn)⟩
 by_cases ks:s.kind=1
 ·by_cases kt:t.kind=1
  ·replace h1:=(zh8 ⟨ks,kt⟩).1.1 h1;by_cases ku:u.kind=1
   ·replace h2:=(zh8 ⟨kt,ku⟩).2.1 h2;replace h3:=(zh8 ⟨ku,ks⟩).2.1 h3;omega
   ·replace h2:=(zgm (fun q=>ku q.2)).2.1 h2;replace h3:=(zgm (fun q=>ku q.1)).2.1 h3;have:=(W ht kt ks (zch h h2 h3)).1;omega
  ·replace h1:=(zgm (fun q=>kt q.2)).1.1 h1;replace h2:=(zgm (fun q=>kt q.1)).2.1 h2;by_cases ku:u.kind=1
   ·replace h3:=(zh8 ⟨ku,ks⟩).2.1 h3;have w:=W hs ks ku (zch h h1.1 h2);cases e:za5 l u s with
    |false=>have:=w.2 e;omega
    |true=>have:=zch h h2 e;rw[h1.2]at this;cases this
   ·replace h3:=(zgm (fun q=>ku q.1)).2.1 h3;have:=zch h h2 h3;rw[h1.2]at this;cases this
 ·replace h1:=(zgm (fun q=>ks q.1)).1.1 h1;replace h3:=(zgm (fun q=>ks q.2)).2.1 h3;by_cases k:t.kind=1∧u.kind=1
  ·replace h2:=(zh8 k).2.1 h2;have w:=W hu k.2 k.1 (zch h h3 h1.1);cases e:za5 l t u with
   |false=>have:=w.2 e;omega
   |true=>have:=zch h e h3;rw[h1.2]at this;cases this
  ·replace h2:=(zgm k).2.1 h2;have:=zch h h2 h3;rw[h1.2]at this;cases this
theorem zxc{l:List CI}{ts:List Tag}(hL:zai l){a b c:Meth}(ha:zde l ts a=true)(hb:zde l ts b=true)(hc:zde l ts c=true)(la:a.pars.length=ts.length)(lb:b.pars.length=ts.length)(lc:c.pars.length=ts.length)
  (h1:zbs l ts a b=true) (h2:zbs l ts b c=true) (h3:zbs l ts c a=true):False:=by
 have A:∀{m:Meth},zde l ts m=true→zjk l ts m:=fun h=>by unfold zde at h;simpa using h
 unfold zbs at h1 h2 h3;rw[Bool.and_eq_true,List.all_eq_true,List.any_eq_true]at h1 h2 h3;obtain⟨_,j,hj,e1⟩:=h1;rw[List.mem_range]at hj;have e2:=h2.1 j (List.mem_range.2 (by omega));have e3:=h3.1 j (List.mem_range.2 (by omega));rw[decide_eq_true_eq]at e1 e2 e3;have g1:ts[j]? =some (ts[j]'(by omega)):=Qbz _;have ga:a.pars[j]? =some (a.pars[j]'(by omega)):=Qbz _;have gb:b.pars[j]? =some (b.pars[j]'(by omega)):=Qbz _;have gc:c.pars[j]? =some (c.pars[j]'(by omega)):=Qbz _;generalize(ts[j]'(by omega))=t at g1;generalize(a.pars[j]'(by omega))=p at ga;generalize(b.pars[j]'(by omega))=q at gb
 generalize(c.pars[j]'(by omega))=r at gc;unfold zct at e1 e2 e3;rw[g1,ga,gb]at e1;rw[g1,gb,gc]at e2;rw[g1,gc,ga]at e3;exact zzh hL (A ha j p t ga g1).2.2.2 (A hb j q t gb g1).2.2.2 (A hc j r t gc g1).2.2.2 e1 e2 e3
theorem zih{α:Type}{P:α→α→Bool}:∀(m:List α),m≠[]→m.Pairwise (fun a b=>P a b=true∨P b a=true)→(∀a∈m,∀b∈m,∀c∈m,P a b=true→P b c=true→P c a=true→False)→
  ∃(i:Nat)(a:α),m[i]? =some a∧∀(k:Nat)(b:α),m[k]? =some b→i=k∨P a b=true
 | [],h,_,_=>absurd rfl h
 |x::r,_,hp,hc=>by
  obtain⟨hx,hr⟩:=List.pairwise_cons.1 hp;by_cases hn:r=[]
  ·subst hn;refine⟨0,x,rfl,fun k b hb=> ?_⟩;cases k with
   |zero=>exact .inl rfl
   |succ k=>simp at hb
  obtain⟨i,a,ha,hd⟩:=zih r hn hr (fun a ha b hb c hc'=>hc a (.tail _ ha) b (.tail _ hb) c (.tail _ hc'));have ham:a∈r:=Qdz ha;rcases hx a ham with q|q
  ·refine⟨0,x,rfl,fun k b hb=> ?_⟩;cases k with
   |zero=>exact .inl rfl
   |succ k=>
    have hb':r[k]? =some b:=hb;have hbm:b∈r:=Qdz hb';rcases hd k b hb' with e|e
    ·subst e;rw[ha]at hb';cases hb';exact .inr q
    ·rcases hx b hbm with z|z
     ·exact .inr z
     ·exact(hc x (.head _) a (.tail _ ham) b (.tail _ hbm) q e z).elim
  ·refine⟨i+1,a,ha,fun k b hb=> ?_⟩;cases k with
   |zero=>
    have:x=b:=by simpa using hb
    exact .inr (this▸q)
   |succ k=>
    rcases hd k b hb with e|e
    ·exact .inl (by omega)
    ·exact .inr e
theorem zoe{α:Type}{P:α→α→Bool}{m:List α}(h0:m≠[])(hn:pick P m=none)(hc:∀a∈m,∀b∈m,∀c∈m,P a b=true→P b c=true→P c a=true→False):¬m.Pairwise (fun a b=>P a b=true∨P b a=true):=fun hp=>by
 obtain⟨i,a,ha,hd⟩:=zih m h0 hp hc;have hi:=(Qcz ha).1;have:=zrk hn i hi;rw[(zje).2 fun k hk=> ?_]at this
 ·cases this
 rcases hd k m[k] (Qbz hk)with e|e
 ·exact .inl e
 ·refine .inr ?_;unfold zmj;rw[ha,Qbz hk];exact e
theorem zpx{l:List CI}{ms:List Meth}{ts:List Tag}(hz:zaf l ms ts=0)(h0:(zcw l ts ms).2≠[]):∃a b,zqi (zbs l ts) (zcw l ts ms).2 a b:=by
 obtain⟨hL,_,_,_,h5,_⟩:=za2 hz;have hmem:∀m∈(zcw l ts ms).2,m∈ms∧zde l ts m=true:=fun m hm=>by
  have h1:=zd4 (P:=zbs l ts) (ms.filter (zde l ts)).length (ms.filter (zde l ts));exact List.mem_filter.1 (h1.mem_iff.1 (List.mem_append.2 (.inr hm)))
 have hno:=zoe (P:=zbs l ts) h0 (zld _ _ (Qiz _)) (fun a ha b hb c hc=>zxc hL (hmem a ha).2 (hmem b hb).2 (hmem c hc).2 (h5 a (hmem a ha).1) (h5 b (hmem b hb).1) (h5 c (hmem c hc).1));refine Classical.byContradiction fun hne=>hno ?_;rw[List.pairwise_iff_getElem];intro i j hi hj hij;refine Classical.byContradiction fun hq=>hne ⟨(zcw l ts ms).2[j],(zcw l ts ms).2[i],j,i,hij,Qbz hj,Qbz hi,?_,?_⟩
 ·cases e:zbs l ts (zcw l ts ms).2[j] (zcw l ts ms).2[i]with
  |false=>rfl
  |true=>exact absurd (.inr e) hq
 ·cases e:zbs l ts (zcw l ts ms).2[i] (zcw l ts ms).2[j]with
  |false=>rfl
  |true=>exact absurd (.inl e) hq
theorem zxm{l:List CI}{ms:List Meth}{ts:List Tag}(hz:zaf l ms ts=0){a b:Meth}(h:zqi (zbs l ts) (zcw l ts ms).2 a b):a.id≠b.id∧a∈(zcw l ts ms).2∧b∈(zcw l ts ms).2∧zbs l ts a b=false∧zbs l ts b a=false:=by
 obtain⟨i,k,hik,ha,hb,q1,q2⟩:=h;obtain⟨_,_,h2,_,_,_⟩:=za2 hz;have hnd:=zht h2;have hp:=zua l ts ms;have hf:((ms.filter (zde l ts)).map (·.id)).Nodup:=hnd.sublist (List.filter_sublist.map _);have h3:=(hp.map (·.id)).nodup_iff.2 hf;rw[List.map_append]at h3;have h4:=(List.nodup_append.1 h3).2.1;refine⟨fun e=> ?_,Qdz ha,Qdz hb,q1,q2⟩;have:i=k:=zds h4 (by rw[List.getElem?_map,ha];rfl) (by rw[List.getElem?_map,hb];exact congrArg some e.symm);omega
theorem zyf{l:List CI}{ms:List Meth}{ts:List Tag}:(za4 l ms ts).2=true↔zaf l ms ts=0∧(zcw l ts ms).2≠[]:=by
 unfold za4;by_cases hz:zaf l ms ts=0
 ·rw[if_pos hz];simp only[decide_eq_true_eq];exact⟨fun h=>⟨hz,fun e=>by rw[e]at h;simp at h⟩,fun h=>List.length_pos_iff.2 h.2⟩
 ·rw[if_neg hz];simp[hz]
theorem zsy{l:List CI}{ms:List Meth}{ts:List Tag}(h:zaf l ms ts≠0∨(zgd l ms ts).1=[]):zc2 l ms ts=(0,1):=by
 have e:za4 l ms ts=([],false):=by
  by_cases hz:zaf l ms ts=0
  ·have h2:=h.resolve_left (fun q=>q hz);have h3:=zut hz;rw[h2]at h3;have h4:(za4 l ms ts).1=[]:=List.length_eq_zero_iff.1 (by simpa using h3.1);have h5:=h3.2;rw[h4]at h5;exact Prod.ext h4 (by rw[h5];rfl)
  ·exact zxf hz
 unfold zc2;rw[e];rfl
theorem zvt{l:List CI}{ms:List Meth}{ts:List Tag}(hz:zaf l ms ts=0)(h:(zgd l ms ts).1≠[])(h1:(za4 l ms ts).1=[]):zc2 l ms ts=(0,2):=by
 have h3:=(zut hz).2;rw[h1]at h3;have h4:(za4 l ms ts).2=true:=by
  rw[h3,decide_eq_true_eq];exact List.length_pos_iff.2 h
 unfold zc2;rw[h1,h4];rfl
theorem ztm{l:List CI}{ms:List Meth}{ts:List Tag}{x:Int}{r:List Int}(h1:(za4 l ms ts).1=x::r):zc2 l ms ts=(x,0):=by
 unfold zc2;rw[h1]
end Go.Proofs.YtepnmejahbiacaaGreat
