/- Part 22 of the proof: Sp, Wp, Wq, Wr, Wu, Qa. -/
import Derived.Test.YtepnmejahbiacaaGreatM21
set_option linter.unusedVariables false
set_option linter.unusedSimpArgs false
set_option maxHeartbeats 64000000
set_option maxRecDepth 100000
namespace Go.Proofs.YtepnmejahbiacaaGreat
open Go.RowKit
def zak:ByteArray:=⟨#[60,111,98,106,101,99,116,62]⟩
def zy5(l:List CI)(p:PartsT)(t:Ty):PartsT:=if t.name=zak then addC l p (zau zaw)else p.add 1 t
mutual
def addT(l:List CI):Ty→PartsT→PartsT
 | .mk k n lo hi args,p=>if k=1 then addC l p (.mk k n lo hi args)else if k=2 then p.add 0 (.mk k n lo hi args)else if k=3 then p.tru lo else if k=4 then zy5 l p (.mk k n lo hi args)else addTs l args p
def addTs(l:List CI):List Ty→PartsT→PartsT
 | [],p=>p
 |t::r,p=>addTs l r (addT l t p)
end
def zbk:PartsT:=⟨fun _=>[],false,false⟩
theorem zpf(l:List CI):∀(L:List Ty)(p:PartsT),addTs l L p=L.foldl (fun p t=>addT l t p) p
 | [],p=>by rw[addTs];rfl
 |t::r,p=>by rw[addTs,zpf l r];rfl
def Rng(t:Ty):Prop:=∃lo hi,t=zbo lo hi∧lo≤hi∧ -9223372036854775808≤lo∧hi≤9223372036854775807
structure Gap (L:List Ty):Prop where
 pair:L.Pairwise fun a b=>a.hi+1<b.lo
 rng:∀x∈L,Rng x
def num(L:List Ty)(n:Int):Prop:=∃x∈L,x.lo≤n∧n≤x.hi
theorem Rng.le{t:Ty}(h:Rng t):t.lo≤t.hi:=by obtain⟨lo,hi,rfl,h,_⟩:=h;exact h
theorem Rng.lo{t:Ty}(h:Rng t): -9223372036854775808≤t.lo:=by obtain⟨lo,hi,rfl,_,h,_⟩:=h;exact h
theorem Rng.hi{t:Ty}(h:Rng t):t.hi≤9223372036854775807:=by obtain⟨lo,hi,rfl,_,_,h⟩:=h;exact h
theorem Rng.eq{t:Ty}(h:Rng t):t=zbo t.lo t.hi:=by obtain⟨lo,hi,rfl,_⟩:=h;rfl
theorem Rng.mk{lo hi:Int}(h:lo≤hi)(h1: -9223372036854775808≤lo)(h2:hi≤9223372036854775807):Rng (zbo lo hi):=⟨lo,hi,rfl,h,h1,h2⟩
def zay(out:List Ty)(t:Ty):List Ty:=match out.getLast? with
 |some z=>if z.hi=9223372036854775807∨t.lo≤z.hi+1 then out.dropLast++[zbo z.lo (max z.hi t.hi)]else out++[zbo t.lo t.hi]
 |none=>[zbo t.lo t.hi]
def zf7(l:List Ty):List Ty:=l.foldl zay []
theorem zel(t:Ty):zay [] t=[zbo t.lo t.hi]:=rfl
theorem zco(l:List Ty)(z t:Ty):zay (l++[z]) t=if z.hi=9223372036854775807∨t.lo≤z.hi+1 then l++[zbo z.lo (max z.hi t.hi)]else l++[z]++[zbo t.lo t.hi]:=by
 unfold zay;rw[List.getLast?_concat,List.dropLast_concat]
theorem zha(A B:List Ty)(n:Int):num (A++B) n↔num A n∨num B n:=by
 unfold num;constructor
 ·rintro⟨x,hx,h⟩;exact(List.mem_append.1 hx).imp (fun q=>⟨x,q,h⟩) (fun q=>⟨x,q,h⟩)
 ·rintro(⟨x,hx,h⟩|⟨x,hx,h⟩)
  ·exact⟨x,List.mem_append.2 (.inl hx),h⟩
  ·exact⟨x,List.mem_append.2 (.inr hx),h⟩
theorem zh6(x:Ty)(n:Int):num [x] n↔x.lo≤n∧n≤x.hi:=by unfold num;simp
theorem zlq{α:Type}(l:List α):l=[]∨∃i z,l=i++[z]:=by
 rcases List.eq_nil_or_concat l with h|⟨i,z,h⟩
 ·exact .inl h
 ·exact .inr ⟨i,z,by rw[h,List.concat_eq_append]⟩
theorem zz3{out:List Ty}{t:Ty}(h:Gap out)(ht:Rng t)(hs:∀x∈out,x.lo≤t.lo):Gap (zay out t)∧(∀n,num (zay out t) n↔num out n∨num [t] n)∧∀y∈zay out t,y.lo≤t.lo:=by
 have hle:=ht.le;have hlo:=ht.lo;have hhi:=ht.hi;rcases zlq out with rfl|⟨i,z,rfl⟩
 ·rw[zel];refine⟨⟨by simp,fun x hx=> ?_⟩,fun n=> ?_,fun y hy=> ?_⟩
  ·simp at hx;subst hx;exact Rng.mk hle hlo hhi
  ·rw[zh6,zh6];unfold num;simp[zbo,Ty.lo,Ty.hi]
  ·simp at hy;subst hy;exact Int.le_refl _
 ·have hz:=h.rng z (by simp);have hzl:=hz.le;have hzlo:=hz.lo;have hzhi:=hz.hi;have hst:=hs z (by simp);have hp:=List.pairwise_append.1 h.pair;rw[zco]
  split
  ·rename_i hc;have hm1:z.hi≤max z.hi t.hi:=Int.le_max_left _ _;have hm2:t.hi≤max z.hi t.hi:=Int.le_max_right _ _;have hm3:max z.hi t.hi≤9223372036854775807:=Int.max_le.2 ⟨hzhi,hhi⟩;refine⟨⟨List.pairwise_append.2 ⟨hp.1,by simp,fun a ha b hb=> ?_⟩,fun x hx=> ?_⟩,fun n=> ?_,fun y hy=> ?_⟩
   ·simp at hb;subst hb
    exact hp.2.2 a ha z (by simp)
   ·rcases List.mem_append.1 hx with q|q
    ·exact h.rng x (List.mem_append.2 (.inl q))
    ·simp at q;subst q
     exact Rng.mk (Int.le_trans hzl hm1) hzlo hm3
   ·rw[zha,zha,zh6,zh6,zh6];show _∨(z.lo≤n∧n≤max z.hi t.hi)↔_;have:(z.lo≤n∧n≤max z.hi t.hi)↔(z.lo≤n∧n≤z.hi)∨(t.lo≤n∧n≤t.hi):=by
     constructor
     ·rintro⟨a,b⟩;by_cases q:n≤z.hi
      ·exact .inl ⟨a,q⟩
      ·refine .inr ⟨?_,?_⟩
       ·rcases hc with c|c<;>omega
       ·rcases Int.le_total z.hi t.hi with e|e
        ·rw[Int.max_eq_right e]at b;exact b
        ·rw[Int.max_eq_left e]at b;omega
     ·rintro(⟨a,b⟩|⟨a,b⟩)
      ·exact⟨a,Int.le_trans b hm1⟩
      ·exact⟨Int.le_trans hst a,Int.le_trans b hm2⟩
    rw[this,or_assoc]
   ·rcases List.mem_append.1 hy with q|q
    ·exact hs y (List.mem_append.2 (.inl q))
    ·simp at q;subst q;exact hst
  ·rename_i hc;have hc2:z.hi+1<t.lo:=by omega
   refine⟨⟨List.pairwise_append.2 ⟨h.pair,by simp,fun a ha b hb=> ?_⟩,fun x hx=> ?_⟩,fun n=> ?_,fun y hy=> ?_⟩
   ·simp only[List.mem_singleton]at hb;subst hb
    show a.hi+1<t.lo;rcases List.mem_append.1 ha with q|q
    ·have:=hp.2.2 a q z (by simp);omega
    ·simp at q;subst q;exact hc2
   ·rcases List.mem_append.1 hx with q|q
    ·exact h.rng x q
    ·simp only[List.mem_singleton]at q;subst q
     exact Rng.mk hle hlo hhi
   ·rw[zha];show num (i++[z]) n∨num [zbo t.lo t.hi] n↔_;rw[zh6 (zbo t.lo t.hi),zh6 t];exact Iff.rfl
   ·rcases List.mem_append.1 hy with q|q
    ·exact hs y q
    ·simp only[List.mem_singleton]at q;subst q;exact Int.le_refl _
theorem zuq:∀(l out:List Ty),Gap out→(∀x∈out,∀t∈l,x.lo≤t.lo)→l.Pairwise (fun a b=>a.lo≤b.lo)→(∀x∈l,Rng x)→Gap (l.foldl zay out)∧∀n,num (l.foldl zay out) n↔num out n∨num l n
 | [],out,h,_,_,_=>⟨h,fun n=>⟨.inl,fun q=>q.elim id fun ⟨x,hx,_⟩=>by cases hx⟩⟩
 |t::r,out,h,hs,hp,hr=>by
  obtain⟨h1,h2,h3⟩:=zz3 h (hr t (by simp)) fun x hx=>hs x hx t (by simp);have hp':=List.pairwise_cons.1 hp;obtain⟨k1,k2⟩:=zuq r (zay out t) h1 (fun x hx u hu=>Int.le_trans (h3 x hx) (hp'.1 u hu)) hp'.2 fun x hx=>hr x (List.mem_cons_of_mem _ hx);refine⟨k1,fun n=> ?_⟩;rw[List.foldl_cons,k2,h2,or_assoc,←zha]
  rfl
theorem ziz{l:List Ty}(hp:l.Pairwise fun a b=>a.lo≤b.lo)(hr:∀x∈l,Rng x):Gap (zf7 l)∧∀n,num (zf7 l) n↔num l n:=by
 obtain⟨h1,h2⟩:=zuq l [] ⟨.nil,fun x hx=>by cases hx⟩ (fun x hx=>by cases hx) hp hr;exact⟨h1,fun n=>(h2 n).trans ⟨fun q=>q.elim (fun ⟨x,hx,_⟩=>by cases hx) id,.inr⟩⟩
theorem zoh{α:Type}{R:α→α→Prop}:∀{l:List α},l.Pairwise R→∀x∈l,∀y∈l,x=y∨R x y∨R y x
 | [],_,x,hx,_,_=>by cases hx
 |a::r,h,x,hx,y,hy=>by
  obtain⟨h1,h2⟩:=List.pairwise_cons.1 h;rcases List.mem_cons.1 hx with ex|hx'<;>rcases List.mem_cons.1 hy with ey|hy'
  ·exact .inl (ex.trans ey.symm)
  ·exact .inr (.inl (ex▸h1 y hy'))
  ·exact .inr (.inr (ey▸h1 x hx'))
  ·exact zoh h2 x hx' y hy'
theorem Gap.inside{L:List Ty}(h:Gap L){lo hi:Int}(hle:lo≤hi)(hn:∀n,lo≤n→n≤hi→num L n):∃x∈L,x.lo≤lo∧hi≤x.hi:=by
 obtain⟨x,hx,h1,h2⟩:=hn lo (Int.le_refl _) hle;refine⟨x,hx,h1,?_⟩;by_cases q:hi≤x.hi
 ·exact q
 ·obtain⟨y,hy,h3,h4⟩:=hn (x.hi+1) (by omega) (by omega);have:=(h.rng x hx).le;rcases zoh h.pair x hx y hy with rfl|e|e<;>omega
theorem Gap.mem_iff{L M:List Ty}(h:Gap L)(k:Gap M)(e:∀n,num L n↔num M n)(x:Ty):x∈L↔x∈M:=by
 have half:∀{L M:List Ty},Gap L→Gap M→(∀n,num L n↔num M n)→x∈L→x∈M:=by
  intro L M h k e hx;have hxr:=h.rng x hx;have hle:=hxr.le;obtain⟨y,hy,h1,h2⟩:=k.inside (lo:=x.lo) (hi:=x.hi) hle fun n a b=>(e n).1 ⟨x,hx,a,b⟩;have hyr:=k.rng y hy;obtain⟨z,hz,h3,h4⟩:=h.inside (lo:=y.lo) (hi:=y.hi) hyr.le fun n a b=>(e n).2 ⟨y,hy,a,b⟩;have:x=z:=by
   rcases zoh h.pair x hx z hz with q|q|q
   ·exact q
   ·omega
   ·omega
  subst this;have e1:x.lo=y.lo:=by omega
  have e2:x.hi=y.hi:=by omega
  rw[hxr.eq,e1,e2,←hyr.eq];exact hy
 exact⟨half h k e,half k h fun n=>(e n).symm⟩
def zb3:Ty:=zbo (-9223372036854775808) 9223372036854775807
def za7(M:List Ty):Bool:=match M with| [x]=>eqL x zb3|_=>false
theorem Gap.whole{L:List Ty}(h:Gap L):za7 L=true↔zb3∈L:=by
 constructor
 ·match L,h with
  | [],_=>intro q;cases q
  | [x],h=>
   intro q;unfold za7 at q;have hx:=(h.rng x (by simp)).eq;unfold eqL at q;simp only[Bool.and_eq_true,decide_eq_true_eq]at q;have e1:x.lo= -9223372036854775808:=q.2.2.1;have e2:x.hi=9223372036854775807:=q.2.2.2;rw[e1,e2]at hx;rw[hx];exact List.mem_singleton.2 rfl
  |_::_::_,_=>intro q;cases q
 ·intro hw;have key:∀y∈L,y=zb3:=fun y hy=>by
   have h1:=(h.rng y hy).lo;have h2:=(h.rng y hy).hi;have h3:=(h.rng y hy).le;rcases zoh h.pair y hy _ hw with q|q|q
   ·exact q
   ·have e:zb3.lo= -9223372036854775808:=rfl;omega
   ·have e:zb3.hi=9223372036854775807:=rfl;omega
  match L,h,hw,key with
  | [x],_,_,key=>rw[key x (by simp)];rfl
  |x::y::r,h,_,key=>
   have hp:=(List.pairwise_cons.1 h.pair).1 y (by simp);rw[key x (by simp),key y (by simp)]at hp;have e:zb3.lo= -9223372036854775808:=rfl;have e2:zb3.hi=9223372036854775807:=rfl;omega
def zp4(l:List CI)(L:List Ty):List Ty:=L.filter fun t=> !(L.any fun u=>decide (u.name≠t.name)&&zbg l t.name u.name)
def zny(L:List Ty)(s:ByteArray):Bool:=L.any fun t=>decide (t.name=s)
def zcv(p:PartsT)(M:List Ty):List Ty:=(p.row 2++if za7 M=true then[zau zal]else[])++if p.t0=true∧p.t1=true then[zau zan]else[]
def zcg(p:PartsT):List Ty:=if p.t0=true∧p.t1=true then[]else if p.t0=true then[zbb 0]else if p.t1=true then[zbb 1]else[]
def IsPieces(l:List CI)(p:PartsT)(L:List Ty):Prop:=
 if zny (p.row 2) zak=true then L=[zau zak]
 else ∃M,Gap M∧(∀n,num M n↔num (p.row 0) n)∧∀x,x∈L↔x∈zcg p∨(x∈M∧za7 M=false)∨(x∈zp4 l (p.row 1)∧zny (zcv p M) zaw=false)∨x∈zp4 l (zcv p M)
def covers(l:List CI)(x y:Ty):Bool:=zdb y zak||(eqL x y||(if x.kind=2 then(decide (y.kind=2)&&(decide (y.lo≤x.lo)&&decide (x.hi≤y.hi)))||zdb y zal else if x.kind=3 then zdb y zan else if x.kind=4 then(decide (y.kind=4)&&zbg l x.name y.name)||zdb y zaw else decide (y.kind=1)&&zbg l x.name y.name))
def zu0(l:List CI)(Y:List Ty):Nat→Ty→Bool
 |0,_=>false
 |n+1,x=>Y.any (covers l x)||(decide (x.kind=1)&&(zdk l x.name&&(zf3 l x.name&&(zb9 l x.name).all fun s=>zu0 l Y n (zau s))))
def zc0(l:List CI)(Y:List Ty)(x:Ty):Bool:=zu0 l Y (l.length+1) x
theorem z1l{l:List CI}(h:zai l)(Y:List Ty):∀(n m:Nat)(x:Ty),zfd l x.name<n→zfd l x.name<m→zu0 l Y n x=zu0 l Y m x:=by
 intro n
 induction n with
 |zero=>intro m x hn;omega
 |succ n ih=>
  intro m x hn hm;cases m with
  |zero=>omega
  |succ m=>
   rw[zu0,zu0,zid fun s hs=>by have:=zfl h hs;exact ih m (zau s) (by show zfd l s<n;omega) (by show zfd l s<m;omega)]
def zwh(l:List CI)(Y:List Ty)(s:ByteArray):Bool:=(zb9 l s).all fun t=>zc0 l Y (zau t)
theorem zo1{l:List CI}(h:zai l)(Y:List Ty)(x:Ty):zc0 l Y x=(Y.any (covers l x)||(decide (x.kind=1)&&(zdk l x.name&&(zf3 l x.name&&zwh l Y x.name)))):=by
 unfold zc0 zwh;have:=zio l x.name;rw[z1l h Y (l.length+1) (l.length+2) x (by omega) (by omega),zu0]
 rfl
def zwf(l:List CI)(X Y:List Ty):Bool:=X.all (zc0 l Y)
theorem z0f{a:Ty}(h:a.kind=1):zuz a=a.name:=by unfold zuz;rw[h];rfl
theorem zye{a b:Ty}(h:a.kind=b.kind)(h1:a.kind≠1):zuz a=zuz b:=by
 unfold zuz;rw[←h]
 by_cases h2:a.kind=2
 ·rw[if_pos h2,if_pos h2]
 ·rw[if_neg h2,if_neg h2];by_cases h3:a.kind=3
  ·rw[if_pos h3,if_pos h3]
  ·rw[if_neg h3,if_neg h3];by_cases h4:a.kind=4
   ·rw[if_pos h4,if_pos h4]
   ·rw[if_neg h4,if_neg h4,if_neg h1,if_neg h1]
theorem zpa{l:List CI}(h:zai l){a b c:Ty}(h1:za6 l a b=true)(h2:za6 l b c=true):za6 l a c=true:=by
 unfold za6 at h1 h2 ⊢;by_cases c1:c.kind=1
 ·rw[if_pos c1]at h2 ⊢;by_cases b1:b.kind=1
  ·rw[if_pos b1]at h1;rw[z0f b1]at h2;exact zgk h h1 h2
  ·rw[if_neg b1]at h1;by_cases hab:a.kind=b.kind
   ·rw[zye hab (by rw[hab];exact b1)];exact h2
   ·rw[if_pos hab]at h1;cases h1
 ·rw[if_neg c1]at h2 ⊢;by_cases hbc:b.kind=c.kind
  ·rw[if_neg (fun q=>q hbc)]at h2;have b1:b.kind≠1:=by rw[hbc];exact c1
   rw[if_neg b1]at h1;by_cases hab:a.kind=b.kind
   ·rw[if_neg (fun q=>q hab)]at h1;rw[if_neg (fun q=>q (hab.trans hbc))];by_cases a2:a.kind=2
    ·rw[if_pos a2]at h1 ⊢;rw[if_pos (hab▸a2)]at h2;simp only[Bool.and_eq_true,decide_eq_true_eq]at h1 h2 ⊢;exact⟨by omega,by omega⟩
    ·rw[if_neg a2]at h1 ⊢;rw[if_neg (hab▸a2)]at h2;by_cases a3:a.kind=3
     ·rw[if_pos a3]at h1 ⊢;rw[if_pos (hab▸a3)]at h2;simp only[decide_eq_true_eq]at h1 h2 ⊢;omega
     ·rw[if_neg a3]at h1 ⊢;rw[if_neg (hab▸a3)]at h2;exact zgk h h1 h2
   ·rw[if_pos hab]at h1;cases h1
  ·rw[if_pos hbc]at h2;cases h2
theorem zch{l:List CI}(h:zai l){a b c:Ty}(h1:za5 l a b=true)(h2:za5 l b c=true):za5 l a c=true:=by
 unfold za5 at*;rw[List.all_eq_true]at*;intro x hx;obtain⟨y,hy,hxy⟩:=List.any_eq_true.1 (h1 x hx);obtain⟨z,hz,hyz⟩:=List.any_eq_true.1 (h2 y hy);exact List.any_eq_true.2 ⟨z,hz,zpa h hxy hyz⟩
theorem zg4{l:List CI}(h:zai l){i:Nat}{x:CI}(hx:zbm[i]? =some x):l[i]? =some x:=by
 have hb:=h.2.2.1;have hi:i<11:=by
  have:=(Qcz hx).1;rw[zc5]at this;exact this
 rw[←hb,List.getElem?_take,if_pos hi]at hx;exact hx
theorem zrz:∃x,zbm[0]? =some x∧x.name=zak∧x.cpl=[zak]∧x.seal_=false:=⟨_,rfl,rfl,rfl,rfl⟩
theorem zl5:∃x,zbm[1]? =some x∧x.name=zal∧x.cpl=[zal,zak]∧x.abs=false:=⟨_,rfl,rfl,rfl,rfl⟩
theorem zjx:∃x,zbm[2]? =some x∧x.name=zan∧x.cpl=[zan,zak]∧x.abs=false:=⟨_,rfl,rfl,rfl,rfl⟩
theorem zk5:∃x,zbm[3]? =some x∧x.name=zaw∧x.cpl=[zaw,zak]∧x.abs=false:=⟨_,rfl,rfl,rfl,rfl⟩
theorem znx{l:List CI}(h:zai l){i:Nat}{x:CI}(hx:zbm[i]? =some x)(s:ByteArray):za0 l x.name s=true↔s∈x.cpl:=by
 rw[zdw];have hf:=(zd1 h (zg4 h hx) rfl).1;constructor
 ·rintro⟨y,hy,hs⟩;rw[hf]at hy;cases hy;exact hs
 ·intro hs;exact⟨x,hf,hs⟩
theorem zwr{l:List CI}(h:zai l){i:Nat}{x:CI}(hx:zbm[i]? =some x)(ha:x.abs=false∨x.seal_=false):vdB l x.name=false:=by
 have hc:=(zd1 h (zg4 h hx) rfl).2;rw[zyk h];rcases ha with ha|ha
 ·have:zf3 l x.name=false:=by
   unfold zf3;rw[hc]
   show(l[i]?.map CI.abs).getD false=false;rw[zg4 h hx];exact ha
  rw[this];simp
 ·have:zdk l x.name=false:=by
   rw[zos h,hc];show(zhh l i&&_)=false;unfold zhh;rw[zg4 h hx];show(x.seal_&&_)=false;rw[ha];rfl
  rw[this];rfl
theorem z2r{l:List CI}(h:zai l):vdB l zaw=false:=by obtain⟨x,hx,e,_,ha⟩:=zk5;rw[←e];exact zwr h hx (.inl ha)
theorem zyu{l:List CI}(h:zai l){s:ByteArray}:za0 l zak s=true↔s=zak:=by
 obtain⟨x,hx,e,hc,_⟩:=zrz;rw[←e,znx h hx,hc,e];simp
theorem zyn{l:List CI}(h:zai l){s:ByteArray}:za0 l zaw s=true↔s=zaw∨s=zak:=by
 obtain⟨x,hx,e,hc,_⟩:=zk5;rw[←e,znx h hx,hc,e];simp
def Holds1(l:List CI)(p:PartsT)(x:Ty):Prop:=
 if x.kind=1 then(if x.name=zal then zb3∈p.row 0 else if x.name=zan then p.t0=true∧p.t1=true else vdB l x.name=true∨x∈p.row 2)
 else if x.kind=2 then x∈p.row 0 else if x.kind=3 then(x.lo=0→p.t0=true)∧(x.lo=1→p.t1=true)else if x.name=zak then zau zaw∈p.row 2 else x∈p.row 1
structure PLe (p q:PartsT):Prop where
 row:∀i x,x∈p.row i→x∈q.row i
 t0:p.t0=true→q.t0=true
 t1:p.t1=true→q.t1=true
theorem PLe.refl(p:PartsT):PLe p p:=⟨fun _ _ h=>h,id,id⟩
theorem PLe.trans{p q r:PartsT}(h:PLe p q)(k:PLe q r):PLe p r:=⟨fun i x a=>k.row i x (h.row i x a),fun a=>k.t0 (h.t0 a),fun a=>k.t1 (h.t1 a)⟩
theorem PLe.add(p:PartsT)(i:Fin 3)(y:Ty):PLe p (p.add i y):=⟨fun j x h=>by
 show x∈if j=i then p.row j++[y]else p.row j
 split
 ·exact List.mem_append.2 (.inl h)
 ·exact h,id,id⟩
theorem PLe.addC(l:List CI)(p:PartsT)(t:Ty):PLe p (addC l p t):=by
 unfold Go.Proofs.YtepnmejahbiacaaGreat.addC
 split
 ·exact PLe.add _ _ _
 ·split
  ·exact⟨fun _ _ h=>h,fun _=>rfl,fun _=>rfl⟩
  ·split
   ·exact PLe.refl p
   ·exact PLe.add _ _ _
theorem PLe.tru(p:PartsT)(n:Int):PLe p (p.tru n):=⟨fun _ _ h=>h,fun h=>by show(p.t0||_)=true;rw[h];rfl,fun h=>by show(p.t1||_)=true;rw[h];rfl⟩
mutual
theorem PLe.addT(l:List CI):∀(t:Ty)(p:PartsT),PLe p (addT l t p)
 | .mk k n lo hi args,p=>by
  rw[Go.Proofs.YtepnmejahbiacaaGreat.addT]
  split
  ·exact PLe.addC _ _ _
  ·split
   ·exact PLe.add _ _ _
   ·split
    ·exact PLe.tru _ _
    ·split
     ·unfold zy5
      split
      ·exact PLe.addC _ _ _
      ·exact PLe.add _ _ _
     ·exact PLe.addTs l args p
theorem PLe.addTs(l:List CI):∀(L:List Ty)(p:PartsT),PLe p (addTs l L p)
 | [],p=>by rw[Go.Proofs.YtepnmejahbiacaaGreat.addTs];exact PLe.refl p
 |t::r,p=>by rw[Go.Proofs.YtepnmejahbiacaaGreat.addTs];exact(PLe.addT l t p).trans (PLe.addTs l r _)
end
theorem Holds1.le{l:List CI}{p q:PartsT}{x:Ty}(h:Holds1 l p x)(k:PLe p q):Holds1 l q x:=by
 unfold Holds1 at*
 split
 ·rename_i h1;rw[if_pos h1]at h
  split
  ·rename_i h2;rw[if_pos h2]at h;exact k.row 0 _ h
  ·rename_i h2;rw[if_neg h2]at h
   split
   ·rename_i h3;rw[if_pos h3]at h;exact⟨k.t0 h.1,k.t1 h.2⟩
   ·rename_i h3;rw[if_neg h3]at h;exact h.imp id (k.row 2 _)
 ·rename_i h1;rw[if_neg h1]at h
  split
  ·rename_i h2;rw[if_pos h2]at h;exact k.row 0 _ h
  ·rename_i h2;rw[if_neg h2]at h
   split
   ·rename_i h3;rw[if_pos h3]at h;exact⟨fun a=>k.t0 (h.1 a),fun a=>k.t1 (h.2 a)⟩
   ·rename_i h3;rw[if_neg h3]at h
    split
    ·rename_i h4;rw[if_pos h4]at h;exact k.row 2 _ h
    ·rename_i h4;rw[if_neg h4]at h;exact k.row 1 _ h
theorem zzv{l:List CI}(h:zai l)(p:PartsT):addC l p (zau zaw)=p.add 2 (zau zaw):=by
 unfold addC;rw[if_neg (show ¬(zau zaw).name=zal by decide),if_neg (show ¬(zau zaw).name=zan by decide),if_neg (by rw[show(zau zaw).name=zaw from rfl,z2r h];decide)]
structure From1 (l:List CI) (S:List Ty) (p:PartsT):Prop where
 r0:∀y∈p.row 0,(y∈S∧y.kind=2)∨(y=zb3∧∃x∈S,x.kind=1∧x.name=zal)
 r1:∀y∈p.row 1,y∈S∧y.kind=4∧y.name≠zak
 r2:∀y∈p.row 2,(y∈S∧y.kind=1∧y.name≠zal∧y.name≠zan∧vdB l y.name=false)∨(y=zau zaw∧∃x∈S,x.kind=4∧x.name=zak)
 t0:p.t0=true→∃x∈S,(x.kind=3∧x.lo=0)∨(x.kind=1∧x.name=zan)
 t1:p.t1=true→∃x∈S,(x.kind=3∧x.lo=1)∨(x.kind=1∧x.name=zan)
theorem From1.mono{l:List CI}{S S':List Ty}{p:PartsT}(h:From1 l S p)(hs:∀x∈S,x∈S'):From1 l S' p:=
 ⟨fun y hy=>(h.r0 y hy).imp (fun q=>⟨hs y q.1,q.2⟩) fun ⟨e,x,hx,q⟩=>⟨e,x,hs x hx,q⟩,fun y hy=>⟨hs y (h.r1 y hy).1,(h.r1 y hy).2⟩,fun y hy=>(h.r2 y hy).imp (fun q=>⟨hs y q.1,q.2⟩) fun ⟨e,x,hx,q⟩=>⟨e,x,hs x hx,q⟩,fun q=>by obtain⟨x,hx,e⟩:=h.t0 q;exact⟨x,hs x hx,e⟩,fun q=>by obtain⟨x,hx,e⟩:=h.t1 q;exact⟨x,hs x hx,e⟩⟩
theorem zdc{p:PartsT}{i j:Fin 3}{t y:Ty}(h:y∈(p.add i t).row j):y∈p.row j∨(j=i∧y=t):=by
 have h:y∈(if j=i then p.row j++[t]else p.row j):=h
 split at h
 ·rename_i e;rcases List.mem_append.1 h with q|q
  ·exact .inl q
  ·exact .inr ⟨e,List.mem_singleton.1 q⟩
 ·exact .inl h
theorem From1.leaf{l:List CI}(hL:zai l){S:List Ty}{p:PartsT}(h:From1 l S p){t:Ty}(hk:t.kind≠5)(hf:zar l t=true):From1 l (S++[t]) (addT l t p):=by
 have h':=h.mono (S':=S++[t]) fun x hx=>List.mem_append.2 (.inl hx);have ht:t∈S++[t]:=List.mem_append.2 (.inr (List.mem_singleton.2 rfl));obtain⟨k,nm,lo,hi,args⟩:=t;have hk:¬k=5:=hk;rw[addT];by_cases k1:k=1
 ·subst k1;rw[if_pos rfl];unfold addC
  split
  ·rename_i e;exact⟨fun y hy=>(zdc hy).elim (h'.r0 y) fun q=>.inr ⟨q.2,_,ht,rfl,e⟩,fun y hy=>(zdc hy).elim (h'.r1 y) fun q=>absurd q.1 (by decide),fun y hy=>(zdc hy).elim (h'.r2 y) fun q=>absurd q.1 (by decide),h'.t0,h'.t1⟩
  ·rename_i n1
   split
   ·rename_i e;exact⟨h'.r0,h'.r1,h'.r2,fun _=>⟨_,ht,.inr ⟨rfl,e⟩⟩,fun _=>⟨_,ht,.inr ⟨rfl,e⟩⟩⟩
   ·rename_i n2
    split
    ·exact h'
    ·rename_i hv;exact⟨fun y hy=>(zdc hy).elim (h'.r0 y) fun q=>absurd q.1 (by decide),fun y hy=>(zdc hy).elim (h'.r1 y) fun q=>absurd q.1 (by decide),fun y hy=>(zdc hy).elim (h'.r2 y) fun q=>.inl (by rw[q.2];exact⟨ht,rfl,n1,n2,by simpa using hv⟩),h'.t0,h'.t1⟩
 ·rw[if_neg k1];by_cases k2:k=2
  ·subst k2;rw[if_pos rfl];exact⟨fun y hy=>(zdc hy).elim (h'.r0 y) fun q=>.inl (by rw[q.2];exact⟨ht,rfl⟩),fun y hy=>(zdc hy).elim (h'.r1 y) fun q=>absurd q.1 (by decide),fun y hy=>(zdc hy).elim (h'.r2 y) fun q=>absurd q.1 (by decide),h'.t0,h'.t1⟩
  ·rw[if_neg k2];by_cases k3:k=3
   ·subst k3;rw[if_pos rfl];refine⟨h'.r0,h'.r1,h'.r2,fun q=> ?_,fun q=> ?_⟩
    ·have q:(p.t0||decide (lo=0))=true:=q;rcases Bool.or_eq_true_iff.1 q with q|q
     ·exact h'.t0 q
     ·exact⟨_,ht,.inl ⟨rfl,of_decide_eq_true q⟩⟩
    ·have q:(p.t1||decide (lo=1))=true:=q;rcases Bool.or_eq_true_iff.1 q with q|q
     ·exact h'.t1 q
     ·exact⟨_,ht,.inl ⟨rfl,of_decide_eq_true q⟩⟩
   ·rw[if_neg k3];by_cases k4:k=4
    ·subst k4;rw[if_pos rfl];unfold zy5
     split
     ·rename_i e;rw[zzv hL];exact⟨fun y hy=>(zdc hy).elim (h'.r0 y) fun q=>absurd q.1 (by decide),fun y hy=>(zdc hy).elim (h'.r1 y) fun q=>absurd q.1 (by decide),fun y hy=>(zdc hy).elim (h'.r2 y) fun q=>.inr ⟨q.2,_,ht,rfl,e⟩,h'.t0,h'.t1⟩
     ·rename_i e;exact⟨fun y hy=>(zdc hy).elim (h'.r0 y) fun q=>absurd q.1 (by decide),fun y hy=>(zdc hy).elim (h'.r1 y) fun q=>by rw[q.2];exact⟨ht,rfl,e⟩,fun y hy=>(zdc hy).elim (h'.r2 y) fun q=>absurd q.1 (by decide),h'.t0,h'.t1⟩
    ·exfalso;unfold zar at hf;rw[if_neg (show ¬((Ty.mk k nm lo hi args).kind=1∨(Ty.mk k nm lo hi args).kind=4)from fun q=>q.elim k1 k4),if_neg (show ¬(Ty.mk k nm lo hi args).kind=2 from k2),if_neg (show ¬(Ty.mk k nm lo hi args).kind=3 from k3),if_neg (show ¬(Ty.mk k nm lo hi args).kind=5 from hk)]at hf;cases hf
mutual
theorem From1.addT{l:List CI}(hL:zai l):∀(t:Ty)(S:List Ty)(p:PartsT),From1 l S p→zam l t=true→From1 l (S++t.pieces) (addT l t p)
 | .mk k nm lo hi args,S,p,h,hf=>by
  rw[zax]at hf;obtain⟨h0,ha⟩:=Bool.and_eq_true_iff.1 hf;by_cases hk:k=5
  ·subst hk;rw[Ty.pieces,if_pos rfl,Go.Proofs.YtepnmejahbiacaaGreat.addT,if_neg (by decide),if_neg (by decide),if_neg (by decide),if_neg (by decide)];exact From1.addTs hL args S p h fun x hx=>List.all_eq_true.1 ha x hx
  ·rw[Ty.pieces,if_neg hk];exact h.leaf hL hk h0
theorem From1.addTs{l:List CI}(hL:zai l):∀(L:List Ty)(S:List Ty)(p:PartsT),From1 l S p→(∀x∈L,zam l x=true)→From1 l (S++Ty.piecesL L) (addTs l L p)
 | [],S,p,h,_=>by rw[Ty.piecesL,List.append_nil,Go.Proofs.YtepnmejahbiacaaGreat.addTs];exact h
 |t::r,S,p,h,hf=>by
  rw[Ty.piecesL,←List.append_assoc,Go.Proofs.YtepnmejahbiacaaGreat.addTs];exact From1.addTs hL r _ _ (From1.addT hL t S p h (hf t (by simp))) fun x hx=>hf x (List.mem_cons_of_mem _ hx)
end
def zo0(l:List CI)(s:ByteArray):Nat:=match l.find? fun x=>decide (x.name=s)with
 |some x=>x.cpl.length
 |none=>0
theorem zvy{l:List CI}(h:zai l){a b:ByteArray}(hb:za0 l a b=true)(hn:a≠b):zo0 l b<zo0 l a:=by
 obtain⟨x,hx,hm⟩:=zdw.1 hb;obtain⟨hxl,hxn⟩:=zkn hx;obtain⟨y,hy,e,hf,hs⟩:=ztp h hxl hm;unfold zo0;rw[hx,hf];show y.cpl.length<x.cpl.length;have hle:=hs.length_le;rcases Nat.lt_or_ge y.cpl.length x.cpl.length with q|q
 ·exact q
 ·exfalso;have he:=hs.eq_of_length (by omega);obtain⟨t,ht⟩:=zkm h hxl;obtain⟨u,hu⟩:=zkm h hy;rw[ht,hu]at he;have:=(List.cons.inj he).1;rw[hxn,e]at this;exact hn this.symm
theorem zx4{l:List CI}(h:zai l)(K:List Ty):∀(n:Nat)(s:ByteArray)(y:Ty),zo0 l y.name<n→y∈K→zbg l s y.name=true→∃z∈zp4 l K,zbg l s z.name=true:=by
 intro n
 induction n with
 |zero=>intro s y hn;omega
 |succ n ih=>
  intro s y hn hy hs;by_cases ht:y∈zp4 l K
  ·exact⟨y,ht,hs⟩
  ·have hu:(K.any fun u=>decide (u.name≠y.name)&&zbg l y.name u.name)=true:=by
    cases hq:(K.any fun u=>decide (u.name≠y.name)&&zbg l y.name u.name)with
    |true=>rfl
    |false=>exact absurd (List.mem_filter.2 ⟨hy,by rw[hq];rfl⟩) ht
   obtain⟨u,huK,hq⟩:=List.any_eq_true.1 hu;obtain⟨q1,q2⟩:=Bool.and_eq_true_iff.1 hq;have q1:u.name≠y.name:=of_decide_eq_true q1;have q3:=q2;rw[ze5 h]at q2;have hl:=zvy h q2 fun e=>q1 e.symm;refine ih s u (by omega) huK ?_;rw[ze5 h]at hs ⊢;exact zgk h hs q2
theorem zx5{l:List CI}{K:List Ty}{z:Ty}(h:z∈zp4 l K):z∈K:=(List.mem_filter.1 h).1
section
attribute [local go_sem ↓] Go.wp_at_zero Go.wp_at_succ
theorem zhx(A B:Option Addr)(c d:Nat)(l m:List ByteArray)(w:World)(hA:Strs A l w)(hB:Strs B m w)(hl:l.length≤9223372036854775807)(hm:m.length≤9223372036854775807):
  Calls Tryz.prog 128 #[.slice A l.length c,.slice B m.length d] w fun e w'=>e=.returned (.bool (decide (l=m)))∧Drw w w':=by
 by_cases hlen:l.length=m.length
 ·have t2:((l.length:Int) != (m.length:Int))=false:=bne_eq_false_iff_eq.2 (by omega);have HL:=Qaz hlen;clear hlen;go_enter Tryz.func128,Tryz.ntmps128;go_wp2
  go_loopw [5] (fun i wr=>∃k:Nat,k≤l.length∧i=.int .i64 k∧l.take k=m.take k∧Drw w wr) (fun i _=>l.length-(intOf i).toNat)
  case atStart=>exact⟨0,Qjz _,rfl,by simp,Drw.refl _⟩
  case round=>
   obtain⟨k,hk,rfl,heq,hd⟩:=hrel;obtain⟨n,rfl⟩:=hd;have HE:=Qaz heq;clear heq;by_cases hlt:k<l.length
   ·have hm':k<m.length:=by have:=HL.out;omega
    obtain⟨b,off,rfl⟩:=hA.addr (by omega);obtain⟨b',off',rfl⟩:=hB.addr (by omega);have h1:=Strs.at hA (getElem?_lt hlt);have h2:=Strs.at hB (getElem?_lt hm');by_cases hx:l[k]=m[k]
    ·have HX:=Qaz hx;rw[hx]at h1;clear hx;have HY:=Qaz (getElem?_lt hm');generalize m[k]=y at*;go_wp2
     go_quiet (fail)
     go_wp2;go_roundw
     case rel=>
      refine⟨k+1,by omega,by go_num,?_,Drw.of _ _⟩;rw[List.take_add_one,List.take_add_one,HE.out,getElem?_lt hlt,HY.out,HX.out]
     case measure=>simp[intOf];omega
    ·have hne:l≠m:=by
      intro e;subst e;exact hx rfl
     have HX:=Qaz hne;clear hne;generalize l[k]=x at*;generalize m[k]=y at*;go_wp2
     go_quiet (fail)
     go_wp2;go_ret;exact⟨zge (Qgz HX.out).symm,(Drw.of _ _).drewN _⟩
   ·obtain rfl:k=l.length:=by omega
    have:l=m:=by have h:=HE.out;rw[List.take_length]at h;rw[h];exact List.take_of_length_le (by rw[HL.out];exact Qiz _)
    have HM:=Qaz this;clear this;go_wp2;go_ret;exact⟨zge (Qhz HM.out).symm,⟨n,rfl⟩⟩
 ·have t2:((l.length:Int) != (m.length:Int))=true:=by rw[bne_iff_ne];omega
  have HL:Hid (l≠m):=Qaz (fun e=>hlen (by rw[e]));clear hlen;go_enter Tryz.func128,Tryz.ntmps128;go_wp2;go_ret;exact⟨zge (Qgz HL.out).symm,Drw.refl _⟩
theorem zxz{l:List ByteArray}{x:ByteArray}{k:Nat}(hx:l[k]? =some x)(hno:x∉l.take k):idx l x=k:=by
 unfold idx;have:l.findIdx? (fun z=>decide (z=x))=some k:=by
  rw[List.findIdx?_eq_some_iff_getElem];obtain⟨h0,e0⟩:=Qcz hx;refine⟨h0,by simp[e0],fun j hj=> ?_⟩;simp only[decide_eq_true_eq];intro e;exact hno (List.mem_iff_getElem?.2 ⟨j,by rw[List.getElem?_take,if_pos hj,Qbz (by omega),e]⟩)
 rw[this]
theorem zfn(A:Option Addr)(c:Nat)(l:List CI)(s:ByteArray)(W:World)(G:Nat→Prop)(h:Held G (CIs A l) W)(hl:l.length≤1000000):
  Calls Tryz.prog 82 #[.slice A l.length c,.string s] W fun e W'=>e=.returned (.int .i64 (idx (l.map (·.name)) s))∧W=W':=by
 have H:=Qaz h;clear h;go_enter Tryz.func82,Tryz.ntmps82;go_wp2_with (fail)
 go_loopw [5] (fun i wr=>∃k:Nat,k≤l.length∧i=.int .i64 k∧s∉(l.map (·.name)).take k∧W=wr) (fun i _=>l.length-(intOf i).toNat)
 case atStart=>exact⟨0,Qjz _,rfl,by simp,rfl⟩
 case round=>
  obtain⟨k,hk,rfl,hno,rfl⟩:=hrel;have HNO:=Qaz hno;clear hno;by_cases hlt:k<l.length
  ·obtain⟨b,off,rfl⟩:=Slc.addrH H.out (by omega);have hy:l[k]? =some l[k]:=Qbz hlt;generalize l[k]=y at hy;have HY:Hid ((l.map (·.name))[k]? =some y.name):=Qaz (by rw[List.getElem?_map,hy];rfl);obtain⟨A2,c2,A3,c3,_,_,_,_,g0,_,_,_,_,_⟩:=CIs.atH H.out hy;clear hy;by_cases hyx:y.name=s
   ·have HB:Hid (idx (l.map (·.name)) s=k):=Qaz (zxz (by rw[HY.out,hyx]) HNO.out);subst hyx;go_wp2;go_ret;exact⟨(by rw[HB.out];try rfl),rfl⟩
   ·have HN:Hid (s∉(l.map (·.name)).take (k+1)):=Qaz (by
     rw[take_snoc HY.out];intro hm;rcases List.mem_append.1 hm with q|q
     ·exact HNO.out q
     ·exact hyx (List.mem_singleton.1 q).symm)
    go_wp2;exact⟨⟨k+1,by omega,by go_num,HN.out,trivial⟩,by simp[intOf];omega⟩
  ·obtain rfl:k=l.length:=by omega
   have HB:Hid (idx (l.map (·.name)) s= -1):=Qaz (zh3 (by have:=HNO.out;rwa [List.take_of_length_le (by simp)]at this));go_wp2;go_ret;exact⟨(by rw[HB.out];try rfl),rfl⟩
theorem zsx(A:Option Addr)(c:Nat)(l:List Heir)(s:ByteArray)(W:World)(G:Nat→Prop)(h:Held G (Heirs A l) W)(hl:l.length≤1000000):
  Calls Tryz.prog 205 #[.slice A l.length c,.string s] W fun e W'=>e=.returned (.int .i64 (idx (names l) s))∧W=W':=by
 have H:=Qaz h;clear h;go_enter Tryz.func205,Tryz.ntmps205;go_wp2_with (fail)
 go_loopw [5] (fun i wr=>∃k:Nat,k≤l.length∧i=.int .i64 k∧s∉(names l).take k∧W=wr) (fun i _=>l.length-(intOf i).toNat)
 case atStart=>exact⟨0,Qjz _,rfl,by simp,rfl⟩
 case round=>
  obtain⟨k,hk,rfl,hno,rfl⟩:=hrel;have HNO:=Qaz hno;clear hno;by_cases hlt:k<l.length
  ·obtain⟨b,off,rfl⟩:=Slc.addrH H.out (by omega);have hy:l[k]? =some l[k]:=Qbz hlt;generalize l[k]=y at hy;have HY:Hid ((names l)[k]? =some y.name):=Qaz (zg0 hy);obtain⟨A2,c2,_,_,g0,_⟩:=Heirs.atH H.out hy;clear hy;by_cases hyx:y.name=s
   ·have HB:Hid (idx (names l) s=k):=Qaz (zxz (by rw[HY.out,hyx]) HNO.out);subst hyx;go_wp2;go_ret;exact⟨(by rw[HB.out];try rfl),rfl⟩
   ·have HN:Hid (s∉(names l).take (k+1)):=Qaz (by
     rw[take_snoc HY.out];intro hm;rcases List.mem_append.1 hm with q|q
     ·exact HNO.out q
     ·exact hyx (List.mem_singleton.1 q).symm)
    go_wp2;exact⟨⟨k+1,by omega,by go_num,HN.out,trivial⟩,by simp[intOf];omega⟩
  ·obtain rfl:k=l.length:=by omega
   have HB:Hid (idx (names l) s= -1):=Qaz (zh3 (by have:=HNO.out;rwa [List.take_of_length_le (by unfold names;simp)]at this));go_wp2;go_ret;exact⟨(by rw[HB.out];try rfl),rfl⟩
theorem zmy(x y:CI)(A2 A3 B2 B3:Option Addr)(c2 c3 d2 d3:Nat)(w:World)(hA2:Strs A2 x.supers w)(hA3:Strs A3 x.cpl w)(hB2:Strs B2 y.supers w)(hB3:Strs B3 y.cpl w)
  (l2:x.supers.length≤9223372036854775807) (l3:x.cpl.length≤9223372036854775807) (m2:y.supers.length≤9223372036854775807) (m3:y.cpl.length≤9223372036854775807):
  Calls Tryz.prog 170 #[.agg #[.string x.name,.string x.lib,.slice A2 x.supers.length c2,.slice A3 x.cpl.length c3,.bool x.abs,.bool x.seal_],.agg #[.string y.name,.string y.lib,.slice B2 y.supers.length d2,.slice B3 y.cpl.length d3,.bool y.abs,.bool y.seal_]] w
   fun e w'=>e=.returned (.bool (decide (x=y)))∧Below w.heap.size w w':=by
 have k2:=fun W (h:Below w.heap.size w W)=>zhx A2 B2 c2 d2 x.supers y.supers W (Slc.stable zbh hA2 W (Keep.all h)) (Slc.stable zbh hB2 W (Keep.all h)) l2 m2;have k3:=fun W (h:Below w.heap.size w W)=>zhx A3 B3 c3 d3 x.cpl y.cpl W (Slc.stable zbh hA3 W (Keep.all h)) (Slc.stable zbh hB3 W (Keep.all h)) l3 m3;clear hA2 hA3 hB2 hB3 l2 l3 m2 m3;obtain⟨xn,xl,xs,xc,xa,xe⟩:=x;obtain⟨yn,yl,ys,yc,ya,ye⟩:=y;simp only[CI.mk.injEq]at*;have hB:∀o1 o2:Obj,Below w.heap.size w ((w.alloc o1).alloc o2):=fun o1 o2=>((Below.refl _ w).alloc (Qiz _) _).alloc (by simp) _;have HK:=Qaz k2;have HK3:=Qaz k3;clear k2 k3
 by_cases h1:xn=yn
 ·by_cases h2:xl=yl
  ·by_cases h5:xa=ya
   ·by_cases h6:xe=ye
    ·by_cases h3:xs=ys
     ·by_cases h4:xc=yc
      ·subst h1 h2 h3 h4 h5 h6;have t1:(xa==xa)=true:=by simp
       have t2:(xe==xe)=true:=by simp
       go_enter Tryz.func170,Tryz.ntmps170;go_wp2_with (fail);refine(HK.out _ ?hb).mono ?_
       case hb=>exact hB _ _
       rintro e w' ⟨rfl,n,rfl⟩;go_wp2_with (fail);refine(HK3.out _ ?hb).mono ?_
       case hb=>exact(hB _ _).trans (zad _ _ _)
       rintro e w' ⟨rfl,n',rfl⟩;go_wp2;go_ret;exact⟨zge (by simp),(hB _ _).trans (by first|exact zad _ _ _|exact(zad _ _ _).trans (zad _ _ _))⟩
      ·subst h1 h2 h3 h5 h6;have t1:(xa==xa)=true:=by simp
       have t2:(xe==xe)=true:=by simp
       go_enter Tryz.func170,Tryz.ntmps170;go_wp2_with (fail);refine(HK.out _ ?hb).mono ?_
       case hb=>exact hB _ _
       rintro e w' ⟨rfl,n,rfl⟩;go_wp2_with (fail);refine(HK3.out _ ?hb).mono ?_
       case hb=>exact(hB _ _).trans (zad _ _ _)
       rintro e w' ⟨rfl,n',rfl⟩;go_wp2;go_ret;exact⟨zge (by simp[h4]),(hB _ _).trans (by first|exact zad _ _ _|exact(zad _ _ _).trans (zad _ _ _))⟩
     ·subst h1 h2 h5 h6;have t1:(xa==xa)=true:=by simp
      have t2:(xe==xe)=true:=by simp
      go_enter Tryz.func170,Tryz.ntmps170;go_wp2_with (fail);refine(HK.out _ ?hb).mono ?_
      case hb=>exact hB _ _
      rintro e w' ⟨rfl,n,rfl⟩;go_wp2;go_ret;exact⟨zge (by simp[h3]),(hB _ _).trans (zad _ _ _)⟩
    ·subst h1 h2 h5;have t1:(xa==xa)=true:=by simp
     have t2:(xe==ye)=false:=Qfz h6;have HD:Hid (({ name:=xn,lib:=xl,supers:=xs,cpl:=xc,abs:=xa,seal_:=xe }:CI)≠{ name:=xn,lib:=xl,supers:=ys,cpl:=yc,abs:=xa,seal_:=ye }):=Qaz (by simp[h6]);go_enter Tryz.func170,Tryz.ntmps170;go_wp2;go_ret;exact⟨zge (by simp[h6]),hB _ _⟩
   ·subst h1 h2;have t1:(xa==ya)=false:=Qfz h5;go_enter Tryz.func170,Tryz.ntmps170;go_wp2;go_ret;exact⟨zge (by simp[h5]),hB _ _⟩
  ·subst h1;go_enter Tryz.func170,Tryz.ntmps170;go_wp2;go_ret;exact⟨zge (by simp[h2]),hB _ _⟩
 ·go_enter Tryz.func170,Tryz.ntmps170;go_wp2;go_ret;exact⟨zge (by simp[h1]),hB _ _⟩
end
end Go.Proofs.YtepnmejahbiacaaGreat
