/- Part 3 of the proof: Mp. -/
import Derived.Test.YtepnmejahbiacaaGreatM01
import Derived.Carry
import Derived.Maps.Own
import Derived.StillTailTactics
set_option linter.unusedVariables false
set_option linter.unusedSimpArgs false
set_option maxHeartbeats 64000000
set_option maxRecDepth 100000
namespace Go.Proofs.YtepnmejahbiacaaGreat
open Go.RowKit
section
theorem bytes_beq(a b:ByteArray):(a==b)=decide (a=b):=by
 cases a;cases b
 rename_i x y;show(x==y)=_;by_cases h:x=y
 ·subst h;simp
 ·have:¬(ByteArray.mk x=ByteArray.mk y):=fun e=>h (by injection e);rw[Qgz this,beq_eq_false_iff_ne];exact h
structure KeyKind (P:Program) (kt:TypeId) (κ:Type) [DecidableEq κ] where
 K:κ→Value
 kd:TypeDesc
 under:P.underlying kt=some kd
 same:∀a b,Instr.sameNow kd (K a) (K b)=some (decide (a=b))
 bits:∀a,Instr.sameBits 10000 (K a) (K a)=true
 check:∀e a w,(Instr.checkKey e 10000 kt (K a)).run P w=.ok () w
def KeyKind.str{P:Program}{kt:TypeId}(h:P.underlying kt=some .string):KeyKind P kt ByteArray where
 K:=.string
 kd:=.string
 under:=h
 same a b:=by simp[Instr.sameNow,bytes_beq]
 bits a:=by simp[Instr.sameBits,bytes_beq]
 check e a w:=by
  have:∀n,(Instr.checkKey e (n+1) kt (.string a)).run P w=.ok () w:=fun n=>by simp[Instr.checkKey,run_underlying h]
  exact this 9999
def KeyKind.int{P:Program}{kt:TypeId}(h:P.underlying kt=some (.int .i64)):KeyKind P kt Int where
 K:=.int .i64
 kd:=.int .i64
 under:=h
 same a b:=by
  by_cases hh:a=b
  ·subst hh;simp[Instr.sameNow]
  ·simp[Instr.sameNow,hh]
 bits a:=by simp[Instr.sameBits]
 check e a w:=by
  have:∀n,(Instr.checkKey e (n+1) kt (.int .i64 a)).run P w=.ok () w:=fun n=>by simp[Instr.checkKey,run_underlying h]
  exact this 9999
section
variable {P:Program} {kt:TypeId} {κ:Type} [DecidableEq κ]
def zh5:List (κ×Value)→κ→Option Value
 | [],_=>none
 |(k,v)::m,a=>if a=k then some v else zh5 m a
def MapF(kk:KeyKind P kt κ)(b:Nat)(f:κ→Option Value)(w:World):Prop:=
 ∃(es:Array MapEntry)(clock:Nat)(m:List (κ×Value)),w.heap[b]? =some (.map es clock)∧es.toList.map (fun e=>(e.key,e.val))=m.map (fun p=>(kk.K p.1,p.2))∧f=zh5 m
variable {kk:KeyKind P kt κ} {b:Nat} {f:κ→Option Value} {w:World}
theorem MapF.made(kk:KeyKind P kt κ)(w:World)(n:Nat)(hn:n=w.heap.size):MapF kk n (fun _=>none) (w.alloc (.map #[] 0)):=by
 subst hn;exact⟨#[],0,[],heap_alloc_new w _,rfl,rfl⟩
theorem MapF.lt(h:MapF kk b f w):b<w.heap.size:=by
 obtain⟨es,c,m,hb,_⟩:=h;exact(Array.getElem?_eq_some_iff.1 hb).1
theorem MapF.same(h:MapF kk b f w){w':World}(hb:w'.heap[b]? =w.heap[b]?):MapF kk b f w':=by
 obtain⟨es,c,m,h0,h1,h2⟩:=h;exact⟨es,c,m,hb.trans h0,h1,h2⟩
theorem MapF.keep(h:MapF kk b f w){w':World}{G:Nat→Prop}(k:Keep G w w')(hg:G b):MapF kk b f w':=h.same (k.2 b h.lt hg)
theorem zf1(kk:KeyKind P kt κ)(a:κ):∀(es:List MapEntry)(m:List (κ×Value))(i:Nat),es.map (fun e=>(e.key,e.val))=m.map (fun p=>(kk.K p.1,p.2))→
  (Instr.findNow kk.kd (kk.K a) es i=some none∧zh5 m a=none)∨
  ∃j v,Instr.findNow kk.kd (kk.K a) es i=some (some (i+j,v))∧zh5 m a=some v∧(es[j]?).map (·.key)=some (kk.K a)∧∀u,zh5 ((m.take j)++(a,u)::(m.drop (j+1)))=(fun c=>if c=a then some u else zh5 m c)∧j<m.length
 | [],[],_,_=>.inl ⟨rfl,rfl⟩
 | [],_::_,_,h=>by simp at h
 |_::_,[],_,h=>by simp at h
 |e::es,(k,v)::m,i,h=>by
  simp only[List.map_cons,List.cons.injEq,Prod.mk.injEq]at h;obtain⟨⟨hk,hv⟩,ht⟩:=h;have hs:=kk.same a k;rw[←hk]at hs;by_cases hak:a=k
  ·subst hak;refine .inr ⟨0,v,?_,by simp[zh5],by simp[hk],fun u=>⟨?_,by simp⟩⟩
   ·simp[Instr.findNow,hs,hv]
   ·funext c;by_cases hc:c=a<;>simp[zh5,hc]
  ·have hd:decide (a=k)=false:=Qgz hak;rw[hd]at hs;rcases zf1 kk a es m (i+1) ht with⟨h1,h2⟩|⟨j,v',h1,h2,h3,h4⟩
   ·exact .inl ⟨by simp[Instr.findNow,hs,h1],by simp[zh5,hak,h2]⟩
   ·refine .inr ⟨j+1,v',?_,by simp[zh5,hak,h2],by simpa using h3,fun u=>⟨?_,by have:=(h4 u).2;simp;omega⟩⟩
    ·simp only[Instr.findNow,hs];rw[h1];simp;omega
    ·funext c
     have:=congrFun (h4 u).1 c;simp only[List.take_succ_cons,List.cons_append,List.drop_succ_cons];by_cases hc:c=k
     ·subst hc;have:¬c=a:=fun e=>hak e.symm
      simp[zh5,this]
     ·simp only[zh5,hc,if_false];exact this
theorem zda(h:MapF kk b f w){t et:TypeId}(ht:P.underlying t=some (.map kt et)){z:Value}(hz:(zeroValue et).run P w=.ok z w)(a:κ)(ok:Bool):
  (Instr.lookup t (.map (some b)) (kk.K a) ok).run P w=.ok (if ok then .tuple #[(f a).getD z,.bool (f a).isSome]else(f a).getD z) w:=by
 obtain⟨es,c,m,hb,hm,rfl⟩:=h;have hc:=kk.check es.isEmpty a w;rcases zf1 kk a es.toList m 0 hm with⟨h1,h2⟩|⟨j,v,h1,h2,_⟩
 ·simp[Instr.lookup,run_underlying ht,getObj,Sem.run,hb,hc,Instr.findKey,run_underlying kk.under,h1,h2,hz]
 ·simp[Instr.lookup,run_underlying ht,getObj,Sem.run,hb,hc,Instr.findKey,run_underlying kk.under,h1,h2]
theorem zca(h:MapF kk b f w){t et:TypeId}(ht:P.underlying t=some (.map kt et))(a:κ)(u:Value):
  ∃w',(Instr.mapUpdate t (.map (some b)) (kk.K a) u).run P w=.ok () w'∧MapF kk b (fun c=>if c=a then some u else f c) w'∧w.grownBy w' (some b):=by
 obtain⟨es,c,m,hb,hm,rfl⟩:=h;have hc:=kk.check false a w;have hlt:=(Array.getElem?_eq_some_iff.1 hb).1;have hg:∀o,w.grownBy { w with heap:=w.heap.setIfInBounds b o } (some b):=fun o=>⟨rfl,rfl,rfl,by simp,fun k _ hk=>by
  have hne:b≠k:=fun e=>hk (by rw[e]);simp[Array.getElem?_setIfInBounds_ne hne]⟩
 rcases zf1 kk a es.toList m 0 hm with⟨h1,h2⟩|⟨j,v,h1,h2,h3,h4⟩
 ·refine⟨{ w with heap:=w.heap.setIfInBounds b (.map (es.push { key:=kk.K a,val:=u,born:=c }) (c+1)) },?_,⟨es.push { key:=kk.K a,val:=u,born:=c },c+1,m++[(a,u)],by simp[hlt],by simp[hm],?_⟩,hg _⟩
  ·simp[Instr.mapUpdate,run_underlying ht,getObj,setObj,Sem.run,hb,hc,Instr.findKey,run_underlying kk.under,h1]
  ·clear hm h1 hc
   funext c'
   induction m with
   |nil=>by_cases hca:c'=a<;>simp[zh5,hca]
   |cons p m ih=>
    obtain⟨k,v⟩:=p;simp only[zh5]at h2
    split at h2
    ·simp at h2
    ·rename_i hak;have:=ih h2;simp only[List.cons_append,zh5];by_cases hca:c'=k
     ·subst hca;have:¬c'=a:=fun e=>hak e.symm
      simp[this]
     ·simp only[hca,if_false];exact this
 ·have hk:((es[0+j]?).map (·.key)).getD (kk.K a)=kk.K a:=by
   rw[Nat.zero_add];rw[Array.getElem?_toList]at h3;rw[h3];rfl
  refine⟨{ w with heap:=w.heap.setIfInBounds b (.map (es.modify (0+j) fun e=>{ e with key:=kk.K a,val:=u }) c) },?_,⟨es.modify (0+j) fun e=>{ e with key:=kk.K a,val:=u },c,m.take j++(a,u)::m.drop (j+1),by simp[hlt],?_,(h4 u).1.symm⟩,hg _⟩
  ·have hb2:=kk.bits a;simp only[Instr.mapUpdate,run_underlying ht,Sem.run_bind,Result.andThen_ok,getObj,Sem.run,hb,hc,Instr.findKey,run_underlying kk.under,h1,pure,hk,Instr.keyThatStays,hb2,if_true,setObj]
  ·rw[Nat.zero_add];have hj:=(h4 u).2;have hjl:j<es.toList.length:=by
    have:=congrArg List.length hm;simp at this;simp;omega
   rw[Array.toList_modify];apply List.ext_getElem?;intro i;rw[List.getElem?_map,List.getElem?_modify,List.getElem?_map];have hmi:=congrArg (fun l=>l[i]?) hm;simp only[List.getElem?_map]at hmi;by_cases hij:j=i
   ·subst hij;rw[List.getElem?_append_right (by rw[List.length_take];omega)];rw[List.length_take,Nat.min_eq_left (by omega),Nat.sub_self];rw[Qbz hjl];simp
   ·simp only[hij,if_false,Option.map_eq_map,Option.map_id_fun',id];rw[hmi]
    congr 1
    rcases Nat.lt_or_ge i j with h|h
    ·rw[List.getElem?_append_left (by rw[List.length_take];omega),List.getElem?_take_of_lt h]
    ·rw[List.getElem?_append_right (by rw[List.length_take];omega),List.length_take,Nat.min_eq_left (by omega)];obtain⟨d,hd⟩:∃d,i-j=d+1:=⟨i-j-1,by omega⟩;rw[hd,List.getElem?_cons_succ,List.getElem?_drop]
     congr 1;omega
end
section
variable {P:Program} {kt:TypeId} {κ:Type} [DecidableEq κ] {ops:Array Oper} {rest:List Oper} {o:Oper} {a:Act} {Q:Exit→Act→World→Prop}
theorem zcu(kk:KeyKind P kt κ)(W:World)(hgd:o.guard=none)(t et:TypeId)(m k x:Operand)(ho:o.op=.mapUpdate t m k x)(ht:P.underlying t=some (.map kt et))(b:Nat)(f:κ→Option Value)(hf:MapF kk b f W)
  (hm:a.eval m=.map (some b)) (key:κ) (hk:a.eval k=kk.K key) (u:Value) (hx:a.eval x=u)
  (h:∀w',MapF kk b (fun c=>if c=key then some u else f c) w'→W.grownBy w' (some b)→wpList P ops Q rest (a.put o.dst undef) w'):wpList P ops Q (o::rest) a W:=by
 refine wpList_plain hgd fun K hK=> ?_;obtain⟨w',hr,h2,h3⟩:=zca hf ht key u;unfold Oper.wp execOp;simp only[ho,Sem.run_bind,hm,hk,hx,hr,Result.andThen_ok];exact hK _ _ (h w' h2 h3)
end
end
end Go.Proofs.YtepnmejahbiacaaGreat
