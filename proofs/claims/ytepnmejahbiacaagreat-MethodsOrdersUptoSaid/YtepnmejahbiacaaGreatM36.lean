/- Part 36 of the proof: Sk, Ml, Tl, To. -/
import Derived.Test.YtepnmejahbiacaaGreatM34
import Derived.Shelf.SlSortCmp.NoneTotal
import Derived.Deep.Slices
import Derived.Laws.Cover1
set_option linter.unusedVariables false
set_option linter.unusedSimpArgs false
set_option maxHeartbeats 64000000
set_option maxRecDepth 100000
namespace Go.Proofs.YtepnmejahbiacaaGreat
open Go.RowKit
section
open Go.Deep
structure Leaf where
 k:Int
 s:ByteArray
 lo:Int
 hi:Int
 A:Option Addr
 c:Nat
instance:Inhabited Leaf:=⟨⟨0,⟨#[]⟩,0,0,none,0⟩⟩
def Leaf.ty(x:Leaf):Ty:=.mk x.k x.s x.lo x.hi []
def Leaf.cs(x:Leaf):List Value:=[.int .i64 x.k,.string x.s,.int .i64 x.lo,.int .i64 x.hi,.slice x.A 0 x.c]
theorem Leaf.held(x:Leaf)(G:Nat→Prop)(w:World):Held G (typR x.ty x.cs) w:=zb1 x.k x.s x.lo x.hi x.A x.c
theorem Own.leaves{T base:Nat}{G:Nat→Prop}{g n c:Nat}{L:List Ty}{w:World}(h:Own typR T 5 base G (.slice (some ⟨g,0,none⟩) n c) L w)(hl:∀t∈L,t.args=[]):∃d:Array Leaf,d.toList.map Leaf.ty=L∧Go.Sort.HoldsK Leaf.cs 5 w g 0 d:=by
 obtain⟨Y,hY⟩:=choose_lt (α:=Leaf) (n:=L.length) (p:=fun i y=>L[i]? =some y.ty∧∀j v,y.cs[j]? =some v→w.cell? ⟨g,i*5+j,none⟩=some v∧w.frozen? ⟨g,i*5+j,none⟩=false) (fun i hi=>by
  have hx:L[i]? =some L[i]:=Qbz hi;have ha:=hl _ (List.getElem_mem hi);generalize L[i]=x at hx ha;obtain⟨cs,_,hr,hc⟩:=h.get hx;obtain⟨A,c5,rfl,_⟩:=ze0.1 hr.now;rw[ha]at hc;obtain⟨k,s,lo,hi',args⟩:=x;have ha:args=[]:=ha;subst ha;exact⟨⟨k,s,lo,hi',A,c5⟩,hx,hc⟩)
 refine⟨((List.range L.length).map Y).toArray,?_,?_⟩
 ·apply List.ext_getElem?;intro i;by_cases hi:i<L.length
  ·simp[List.getElem?_range hi,(hY i hi).1]
  ·rw[List.getElem?_eq_none (by simpa using hi),List.getElem?_eq_none (by simpa using hi)]
 ·intro t ht;have hs:((List.range L.length).map Y).toArray.size=L.length:=by simp
  have ht':t<L.length*5:=by rw[Go.Sort.size_flatK,hs]at ht;exact ht
  rw[Go.Sort.get_flatK _ _ _ _ (by rw[hs];exact ht')];have hi:t / 5<L.length:=by omega
  have e:((List.range L.length).map Y).toArray[t / 5]! =Y (t / 5):=by simp[hi]
  rw[e];have hj:t % 5<(Y (t / 5)).cs.length:=Nat.mod_lt _ (by decide);have:=(hY _ hi).2 (t % 5) _ (Qbz hj);rw[show t / 5*5+t % 5=t by omega]at this;rw[Nat.zero_add,getElem!_pos (Y (t / 5)).cs (t % 5) hj];exact this
theorem flat_get(enc:Leaf→List Value)(hk:∀x,(enc x).length=5):∀(l:List Leaf)(t:Nat),(l.flatMap enc)[t]? =(l[t / 5]?).bind fun x=>(enc x)[t % 5]?
 | [],t=>by simp
 |a::l,t=>by
  rw[List.flatMap_cons];by_cases h:t<5
  ·rw[List.getElem?_append_left (by rw[hk];exact h),Nat.div_eq_of_lt h,Nat.mod_eq_of_lt h];rfl
  ·rw[List.getElem?_append_right (by rw[hk];omega),hk,flat_get enc hk l (t-5)];have e1:t / 5=(t-5) / 5+1:=by omega
   have e2:(t-5) % 5=t % 5:=by omega
   rw[e1,e2];rfl
theorem znw(d:Array Leaf):(Go.Sort.flatK Leaf.cs 5 d).toList=d.toList.flatMap Leaf.cs:=by
 apply List.ext_getElem?;intro t;rw[flat_get Leaf.cs (fun _=>rfl)];by_cases ht:t<d.size*5
 ·have hi:t / 5<d.size:=by omega
  have h0:t<(Go.Sort.flatK Leaf.cs 5 d).toList.length:=by simpa using ht
  have e:=Go.Sort.get_flatK Leaf.cs 5 d t ht;rw[Qbz h0];rw[getElem!_pos (Go.Sort.flatK Leaf.cs 5 d) t (by simpa using ht)]at e;rw[Array.getElem_toList,e,Qbz (by simpa using hi)];have hj:t % 5<(d[t / 5]!).cs.length:=Nat.mod_lt _ (by decide);rw[getElem!_pos (d[t / 5]!).cs (t % 5) hj];rw[getElem!_pos d (t / 5) hi]at hj ⊢;simp only[Array.getElem_toList,Option.bind_some];exact(Qbz hj).symm
 ·rw[List.getElem?_eq_none (by simpa using ht),List.getElem?_eq_none (l:=d.toList) (by simp;omega)];rfl
theorem znj(G:Nat→Prop)(w:World):∀(n:Nat)(l:List Leaf),l.length=n→Enc (fun x cs=>Held G (typR x cs) w) 5 (l.map Leaf.ty) (l.flatMap Leaf.cs)
 |0,l,h=>by rw[List.length_eq_zero_iff.1 h];exact .nil
 |n+1,l,h=>by
  rcases zlq l with rfl|⟨i,z,rfl⟩
  ·cases h
  ·rw[List.map_append,List.flatMap_append];refine .snoc (znj G w n i (by simpa using h)) (x:=z.ty) (cs:=[z].flatMap Leaf.cs) ?_ rfl;show Held G (typR z.ty (z.cs++[])) w;rw[List.append_nil];exact z.held G w
theorem zxa(w:World)(g m:Nat)(d:Array Leaf)(os:Array Obj):Chg (fun b=>b=g) w (sortWorldK Leaf.cs 5 w g 0 m d os):=by
 refine⟨rfl,rfl,rfl,?_,fun b hb hn=> ?_⟩
 ·show w.heap.size≤(w.heap.modify g _++os).size;simp
 ·show(w.heap.modify g _++os)[b]? =_;rw[Array.getElem?_append_left (by simpa using hb),Array.getElem?_modify,if_neg fun e=>hn e.symm]
theorem Own.sorted{T base:Nat}{G:Nat→Prop}{g n c:Nat}{L:List Ty}{w:World}(h:Own typR T 5 base G (.slice (some ⟨g,0,none⟩) n c) L w)(d:Array Leaf)(hd:d.size=L.length)(m:Nat)(os:Array Obj):
  Own typR T 5 base G (.slice (some ⟨g,0,none⟩) n c) (d.toList.map Leaf.ty) (sortWorldK Leaf.cs 5 w g 0 m d os):=by
 obtain⟨xs,⟨hl,h2⟩,he⟩:=h;rcases h2 with⟨hv,_⟩|⟨g',cap,cur,hv,hg,hh,hn,hm,hs,ht⟩
 ·cases hv
 ·simp only[Value.slice.injEq,Option.some.injEq,Addr.mk.injEq,and_true]at hv;obtain⟨rfl,rfl,rfl⟩:=hv;have hF:(Go.Sort.flatK Leaf.cs 5 d).size=L.length*5:=by rw[Go.Sort.size_flatK,hd]
  have hfit:L.length*5≤cur.size:=by rw[hs];exact Nat.mul_le_mul_right _ hn
  refine⟨d.toList.flatMap Leaf.cs,⟨by rw[←znw,Array.length_toList,hF,List.length_map];simp[hd],.inr ⟨g,c,Go.Sort.putCells id 0 (Go.Sort.flatK Leaf.cs 5 d) cur,by simp[hd],hg,?_,by simpa[hd]using hn,hm,by simpa[Go.Sort.putCells]using hs,?_⟩⟩,znj G _ _ _ rfl⟩
  ·show(w.heap.modify g _++os)[g]? =_;have hg2:=(Array.getElem?_eq_some_iff.1 hh).1;rw[Array.getElem?_append_left (by simpa using hg2),Array.getElem?_modify,if_pos rfl,hh]
   rfl
  ·rw[←znw];apply List.ext_getElem?;intro t;simp only[List.length_map,Array.length_toList,hd,List.getElem?_take,Array.getElem?_toList,Go.Sort.putCells,Array.getElem?_mapIdx];by_cases q:t<L.length*5
   ·rw[if_pos q,Array.getElem?_eq_getElem (show t<cur.size by omega),Array.getElem?_eq_getElem (show t<(Go.Sort.flatK Leaf.cs 5 d).size by omega)];simp only[Option.map_some,Qjz,Nat.zero_add,hF,q,and_self,if_true,Nat.sub_zero];rw[getElem!_pos (Go.Sort.flatK Leaf.cs 5 d) t (by omega)];rfl
   ·rw[if_neg q,Array.getElem?_eq_none (by omega)]
theorem z2s:∀w,(isAgg 36).run Tryz.prog w=.ok true w:=Tryz.isAgg36
theorem z1o:∀w,(Go.sizeOf 36).run Tryz.prog w=.ok 5 w:=Tryz.sizeOf36
theorem znr(fid:Nat)(hfn:∀args w,(callFunc fid args).run Tryz.prog w=.ok (.enter fid args) w)(cf:Ty→Ty→Int)(hO:Go.Sort.SWO (ltOf fun x y:Leaf=>cf x.ty y.ty))
  (hcl:∀(x y:Leaf)(W:World),Calls Tryz.prog fid #[.agg x.cs.toArray,.agg y.cs.toArray] W fun e w'=>e=.returned (.int .i64 (cf x.ty y.ty))∧∃q os',w'=Go.Sort.grow (W.drewN q) os')
  {base:Nat} {G:Nat→Prop} (v:Value) (L:List Ty) (w:World) (h:Own typR 36 5 base G v L w) (hl:∀t∈L,t.args=[]) (hlen:L.length≤1000000):
  Calls Tryz.prog 180 #[v,.func (.func fid) #[] #[]] w fun e w'=>e=.returned (.tuple #[])∧∃L',L'.Perm L∧L'.Pairwise (fun a b=>¬cf b a<0)∧Own typR 36 5 base G v L' w'∧Chg (fun b=>v.ownBlock=some b) w w':=by
 have h0:=h;obtain⟨xs,⟨hxl,h2⟩,he⟩:=h0;rcases h2 with⟨hv,hL0⟩|⟨g,cap,cur,hv,hg,hh,hn,hm,hs,ht⟩
 ·subst hv;have hL:L=[]:=List.length_eq_zero_iff.1 hL0;subst hL;have hc:=AnyF.slices_SortFunc_none (P:=Tryz.prog) (ρ:=zw0) { zxu with} none 0 (.func (.func fid) #[] #[]) w;refine Calls.mono hc ?_;rintro e w' ⟨rfl,rfl⟩;exact⟨rfl,[],.refl _,.nil,h,Chg.refl _ _⟩
 ·subst hv;obtain⟨d,hdL,hH⟩:=h.leaves hl;have hds:d.size=L.length:=by rw[←hdL];simp
  have hc:=AnyQ.slices_SortFunc zxu 5 z2s z1o Leaf.cs (fun _=>rfl) (fun x u hu=>by simp[Leaf.cs]at hu;rcases hu with rfl|rfl|rfl|rfl|rfl<;>rfl) (fun x y=>cf x.ty y.ty) hO fid #[] g 0 cap d w hfn (fun m os dk _ x y=>hcl x y _) hH ((Array.getElem?_eq_some_iff.1 hh).1) (by omega);rw[hds]at hc;refine Calls.mono hc ?_;rintro e w' ⟨rfl,d',m,os,hp,hso,rfl⟩;have hsz:d'.size=L.length:=hp.1.trans hds;refine⟨rfl,d'.toList.map Leaf.ty,?_,?_,h.sorted d' hsz m os,(zxa w g m d' os).mono fun b _ e=>by subst e;rfl⟩
  ·have:=hp.2.2;rw[←hds,Array.extract_eq_self_of_le (by rw[hp.1];exact Qiz _),Array.extract_eq_self_of_le (Qiz _)]at this;rw[←hdL];exact this.map _
  ·rw[List.pairwise_map,List.pairwise_iff_getElem];intro i j hi hj hij;have q:=hso i j (Qjz _) hij (by rw[←hsz];simpa using hj);rw[getElem!_pos d' j (by simpa using hj),getElem!_pos d' i (by simpa using hi)]at q;unfold ltOf at q
   simpa using q
end
section
attribute [local go_sem ↓] Go.wp_at_zero Go.wp_at_succ
theorem zoj(x y:Leaf)(W:World):Calls Tryz.prog 181 #[.agg x.cs.toArray,.agg y.cs.toArray] W fun e w'=>e=.returned (.int .i64 (znp x.ty.lo y.ty.lo))∧∃q os',w'=Go.Sort.grow (W.drewN q) os':=by
 obtain⟨k,s,lo,hi,A,c⟩:=x;obtain⟨k',s',lo',hi',A',c'⟩:=y;show Calls Tryz.prog 181 #[.agg #[.int .i64 k,.string s,.int .i64 lo,.int .i64 hi,.slice A 0 c],.agg #[.int .i64 k',.string s',.int .i64 lo',.int .i64 hi',.slice A' 0 c']] W fun e w'=>e=.returned (.int .i64 (znp lo lo'))∧∃q os',w'=Go.Sort.grow (W.drewN q) os';have HC:=Qaz (fun W'=>ziy lo lo' W');generalize znp lo lo'=r at HC ⊢;go_enter Tryz.func181,Tryz.ntmps181;go_wp2_with (go_at_call 93;refine(HC.out _).mono ?_;rintro e w' ⟨rfl,rfl⟩);go_ret;exact⟨rfl,0,_,by rw[Go.Sort.alloc_eq_grow,Go.Sort.alloc_eq_grow,Go.Sort.grow_grow];rfl⟩
theorem ltLo(x y:Leaf):ltOf (fun x y:Leaf=>znp x.ty.lo y.ty.lo) x y=decide (x.lo<y.lo):=by
 unfold ltOf znp;show decide ((if x.lo<y.lo then(-1:Int)else if y.lo<x.lo then 1 else 0)<0)=_;by_cases h1:x.lo<y.lo
 ·simp[h1]
 ·by_cases h2:y.lo<x.lo<;>simp[h1,h2]
theorem swoLo:Go.Sort.SWO (ltOf fun x y:Leaf=>znp x.ty.lo y.ty.lo) where
 irrefl x:=by rw[ltLo];simp
 trans x y z h1 h2:=by rw[ltLo]at*;simp at*;omega
 ntrans x y z h1 h2:=by rw[ltLo]at*;simp at*;omega
theorem zyj{a b:Int}(h:¬znp b a<0):a≤b:=by
 unfold znp at h;by_cases q:b<a
 ·simp[q]at h
 ·omega
theorem OwnT.setHi{T base:Nat}{G:Nat→Prop}{L:List Ty}{w:World}{g c n:Nat}(h:Own typR T 5 base G (.slice (some ⟨g,0,none⟩) n c) L w){i:Nat}{x:Ty}(hx:L[i]? =some x)(hG:∀b,G b→b≠g)(v:Int):
  Own typR T 5 base G (.slice (some ⟨g,0,none⟩) n c) (L.set i (.mk x.kind x.name x.lo v x.args)) (w.setCell ⟨g,i*5+3,none⟩ (.int .i64 v)):=
 h.store (j:=3) rfl hx (by decide) hG fun cs _ hr=>by
  obtain⟨A,c5,rfl,h1,h2⟩:=typR.openH hr;exact typR.mk (t:=.mk x.kind x.name x.lo v x.args) h1 h2
theorem Own.anyForm{α:Type}{R:α→List Value→World→Prop}{T sz base:Nat}{G:Nat→Prop}{v:Value}{l:List α}{w:World}(h:Own R T sz base G v l w):∃A c,v=.slice A l.length c:=by
 obtain⟨xs,⟨hl,h2⟩,he⟩:=h;rcases h2 with⟨hv,h0⟩|⟨g,cap,cur,hv,_⟩
 ·exact⟨none,0,by rw[hv,h0]⟩
 ·exact⟨_,_,hv⟩
theorem OwnT.at{T base:Nat}{G:Nat→Prop}{L:List Ty}{w:World}{g c n:Nat}(h:Own typR T 5 base G (.slice (some ⟨g,0,none⟩) n c) L w){i:Nat}{x:Ty}(hx:L[i]? =some x):
  ∃A c,Held G (Typs A x.args) w∧(w.cell? ⟨g,i*5,none⟩=some (.int .i64 x.kind))∧(w.cell? ⟨g,i*5+1,none⟩=some (.string x.name))∧(w.cell? ⟨g,i*5+2,none⟩=some (.int .i64 x.lo))∧
   (w.cell? ⟨g,i*5+3,none⟩=some (.int .i64 x.hi))∧(w.cell? ⟨g,i*5+4,none⟩=some (.slice A x.args.length c))∧w.frozen? ⟨g,i*5+3,none⟩=false:=by
 obtain⟨cs,_,hr,hc⟩:=h.get hx;obtain⟨A,c5,rfl,h1,h2⟩:=typR.openH hr;exact⟨A,c5,h2,(hc 0 _ rfl).1,(hc 1 _ rfl).1,(hc 2 _ rfl).1,(hc 3 _ rfl).1,(hc 4 _ rfl).1,(hc 3 _ rfl).2⟩
theorem znk{α β:Type}(f:β→α→β)(b:β){L:List α}{k:Nat}{x:α}(h:L[k]? =some x):(L.take (k+1)).foldl f b=f ((L.take k).foldl f b) x:=by
 rw[take_snoc h,List.foldl_append];rfl
theorem zg1:∀(L out:List Ty),(L.foldl zay out).length≤out.length+L.length
 | [],out=>Qiz _
 |t::r,out=>by
  have h:=zg1 r (zay out t);have h2:(zay out t).length≤out.length+1:=by
   rcases zlq out with rfl|⟨i,z,rfl⟩
   ·rw[zel];simp
   ·rw[zco];split<;>simp
  rw[List.foldl_cons,List.length_cons];omega
theorem zg5{t:Ty}(h:Rng t):t.args=[]:=by obtain⟨_,_,rfl,_⟩:=h;rfl
theorem zoq{base:Nat}{G:Nat→Prop}(v:Value)(L:List Ty)(w:World)(h:Own typR 36 5 base G v L w)(hr:∀t∈L,Rng t)(hlen:L.length≤1000000):
  Calls Tryz.prog 141 #[v] w fun e w'=>∃v' M,e=.returned v'∧Own typR 36 5 w.heap.size (fun _=>False) v' M w'∧(Gap M∧(∀n,num M n↔num L n)∧M.length≤L.length)∧Chg (fun b=>v.ownBlock=some b) w w':=by
 have HS:=Qaz (znr 181 (enters Tryz.func181 (by kernel_rfl) rfl) (fun x y=>znp x.lo y.lo) swoLo zoj v L w h (fun t ht=>zg5 (hr t ht)) hlen);obtain⟨A,c,rfl⟩:=h.anyForm;have HR:=Qaz hr;clear h hr;go_enter Tryz.func141,Tryz.ntmps141;go_wp2_with (go_at_call 180;refine HS.out.mono ?_;rintro e V ⟨rfl,L',hp,hso,hown,hch⟩);have hl':L'.length=L.length:=hp.length_eq;have HM:Hid (Gap (zf7 L')∧(∀n,num (zf7 L') n↔num L n)∧(zf7 L').length≤L.length):=Qaz (by
  have hr':∀t∈L',Rng t:=fun t ht=>HR.out t (hp.mem_iff.1 ht);obtain⟨a,b⟩:=ziz (hso.imp fun q=>zyj (by simpa using q)) hr';exact⟨a,fun n=>(b n).trans ⟨fun ⟨x,hx,q⟩=>⟨x,hp.mem_iff.1 hx,q⟩,fun ⟨x,hx,q⟩=>⟨x,hp.mem_iff.2 hx,q⟩⟩,by have:=zg1 L' [];rw[hp.length_eq]at this;simpa[zf7]using this⟩)
 have HSO:Hid (L'.Pairwise fun a b=>a.lo≤b.lo):=Qaz (hso.imp fun q=>zyj (by simpa using q));have HR':Hid (∀t∈L',Rng t):=Qaz fun t ht=>HR.out t (hp.mem_iff.1 ht);have HLL:Hid (L'.length=L.length):=Qaz hl';rw[←hl']at hown hlen ⊢;have HOW:=Qaz hown;have HCH:=Qaz hch;clear hown hch hp hso hl' HS HR;go_wp2_with (fail)
 go_loopw [3,11] (fun v i wr=>∃k:Nat,k≤L'.length∧i=.int .i64 k∧Own typR 36 5 V.heap.size (fun _=>False) v ((L'.take k).foldl zay []) wr∧Below V.heap.size V wr) (fun _ i _=>L'.length-(intOf i).toNat)
 case atStart=>exact⟨0,Qjz _,rfl,Own.nil _ _ _ _ _ _,Below.refl _ _⟩
 case round=>
  obtain⟨k,hk,rfl,hown,hb⟩:=hrel;by_cases hlt:k<L'.length
  ·obtain⟨g,cg,hAg,_⟩:=HOW.out.form (by omega);simp only[Value.slice.injEq,true_and]at hAg;obtain⟨rfl,rfl⟩:=hAg;have hx:L'[k]? =some L'[k]:=Qbz hlt;generalize L'[k]=x at hx;obtain⟨A5,c5,_,e0,e1,e2,e3,e4,_⟩:=OwnT.at (HOW.out.all hb) hx;have hxr:=HR'.out x (Qdz hx);have bwb:Below wr.heap.size wr (wr.alloc (.cells #[.int .i64 x.kind,.string x.name,.int .i64 x.lo,.int .i64 x.hi,.slice A5 x.args.length c5] 36)):=(Below.refl _ wr).alloc (Qiz _) _;have HST:Hid ((L'.take (k+1)).foldl zay []=zay ((L'.take k).foldl zay []) x):=Qaz (znk zay [] hx);have hol:((L'.take k).foldl zay []).length≤k:=by
    have:=zg1 (L'.take k) [];rw[List.length_take]at this;simp at this;omega
   have hgp:∀y∈(L'.take k).foldl zay [],Rng y:=(ziz (HSO.out.sublist (List.take_sublist k L')) fun y hy=>HR'.out y (List.mem_of_mem_take hy)).1.rng;generalize(L'.take k).foldl zay []=ol at hown HST hol hgp;have HOL:=Qaz hol;have hbz:=hb.size;clear hol;rcases zlq ol with rfl|⟨i,z,rfl⟩
   ·obtain⟨Ao,co,rfl⟩:=hown.anyForm;simp only[List.length_nil]at*;clear hx hxr hgp;go_wp2_with (fail)
    go_quiet (fail)
    go_wp2_with (first|(go_at_call 143;refine(zfy _ _ _).mono ?_;rintro e U ⟨rfl,hbu⟩)|(at_builtin;refine Classical.byContradiction fun hneg=> ?_));apply hneg;have bU:Below V.heap.size V U:=zae (zae (zae hb bwb) (zad _ _ _)) hbu;have hownU:Own typR 36 5 V.heap.size (fun _=>False) (.slice Ao 0 co) ([]) U:=hown.all (zae (zae bwb (zad _ _ _)) hbu)
    refine zao typR 36 5 V.heap.size 64 (fun _=>False) _ rfl _ _ 34 _ rfl Tryz.underlying34 zcp rfl (by decide) (by decide) (.slice Ao 0 co) ([]) rfl (hownU.alloc _) ⟨U.heap.size,0,none⟩ 1 rfl (zbo x.lo x.hi) [.int .i64 (zbo x.lo x.hi).kind,.string (zbo x.lo x.hi).name,.int .i64 (zbo x.lo x.hi).lo,.int .i64 (zbo x.lo x.hi).hi,.slice none 0 0] rfl ?cells ?one ?held ?hG ?base ?len ?_
    case cells=>exact fun j u hu=>zaq U _ _ _ rfl j u hu
    case one=>intro u hu;simp at hu;rcases hu with rfl|rfl|rfl|rfl|rfl<;>rfl
    case held=>exact zb1 _ _ _ _ _ _
    case hG=>exact fun b hb _=>hb.elim
    case base=>have:=bU.size;simp<;>omega
    case len=>have:=HOL.out;simp at this ⊢ <;>omega
    intro v' w1 hown1 hg1 _;have hb3:Below V.heap.size V w1:=(bU.alloc bU.size _).grown hg1 (by have:=bU.size;simp;omega) fun k' e=>(hownU.lt _ e).1;have hown2:Own typR 36 5 V.heap.size (fun _=>False) v' (zay ([]) x) w1:=by rw[zel];exact hown1
    clear hown1;go_wp2;go_roundw
    case rel=>exact⟨k+1,by omega,by go_num,by rw[HST.out];exact hown2,hb3⟩
    case measure=>simp[intOf];omega
   ·obtain⟨g2,co,rfl,hg2,hg2l⟩:=hown.form (by simp);obtain⟨n,hn⟩:∃n,n=(i++[z]).length:=⟨_,rfl⟩;have hzx:(i++[z])[i.length]? =some z:=by simp
    obtain⟨A6,c6,_,z0,z1,z2,z3,z4,zf⟩:=OwnT.at (hown.all bwb) hzx;obtain⟨m,hm⟩:∃m,m=i.length:=⟨_,rfl⟩;have hnm:n=m+1:=by rw[hn,hm];simp
    have wn3:n≤1000000:=by have:=HOL.out;omega
    have wn1:IntKind.i64.wrap ((n:Int)-1)=(m:Int):=by rw[IntKind.wrap_i64];omega
    have wn0:(0:Int)≤(m:Int):=by omega
    have wm1:(m:Int)<(n:Int):=by omega
    have wn2:decide (0<n)=true:=Qhz (by omega);rw[←hm]at hzx z0 z1 z2 z3 z4 zf;have HMI:=Qaz hm;clear hm hnm;rw[←hn];have HSET:Hid ((z.hi=9223372036854775807∨x.lo≤z.hi+1)→∀W u,Below wr.heap.size wr W→u=max z.hi x.hi→Own typR 36 5 V.heap.size (fun _=>False) (.slice (some ⟨g2,0,none⟩) n co) (zay (i++[z]) x) (W.setCell ⟨g2,m*5+3,none⟩ (.int .i64 u))∧Below V.heap.size V (W.setCell ⟨g2,m*5+3,none⟩ (.int .i64 u))):=Qaz (fun hc W u hW hu=>by
     refine⟨?_,(zae hb hW).setCell (p:=⟨g2,m*5+3,none⟩) hg2 _⟩;have h1:=OwnT.setHi (hown.all hW) hzx (fun b hb=>hb.elim) u;have e:(i++[z]).set m (.mk z.kind z.name z.lo u z.args)=zay (i++[z]) x:=by
      rw[zco,if_pos hc,HMI.out,List.set_append_right _ _ (Qiz _),Nat.sub_self,hu];have hz:=(hgp z (by simp)).eq;have e1:z.kind=2:=by rw[hz];rfl
      have e2:z.name=⟨#[]⟩:=by rw[hz];rfl
      have e3:z.args=[]:=by rw[hz];rfl
      rw[e1,e2,e3];rfl
     rw[e,←hn]at h1;exact h1)
    have HN:=Qaz hn;have hgl:g2<wr.heap.size:=hg2l;have hzr:=hgp z (by simp);have zl1:=hzr.hi;have zl2:=hzr.lo;have zl3:=hzr.le;clear hgp hzr hxr hx;by_cases hmax:z.hi=9223372036854775807
    ·have t1:(z.hi==9223372036854775807)=true:=beq_iff_eq.2 hmax;have HS2:=Qaz (HSET.out (.inl hmax));clear hmax hn hzx zl1 zl2 zl3;go_wp2_with (fail)
     go_quiet (fail)
     go_wp2_with (fail)
     go_region
     all_goals
      go_wp2;refine⟨⟨k+1,by omega,by go_num,?_⟩,by simp[intOf];omega⟩;rw[HST.out];exact HS2.out _ _ (zae bwb (zad _ _ _)) rfl
    ·have t1:(z.hi==9223372036854775807)=false:=Qfz hmax;have wz:IntKind.i64.wrap (z.hi+1)=z.hi+1:=by rw[IntKind.wrap_i64];omega
     by_cases hle:x.lo≤z.hi+1
     ·have t2:decide (x.lo≤z.hi+1)=true:=Qhz hle;have HS2:=Qaz (HSET.out (.inr hle));clear hmax hle hn hzx zl1 zl2 zl3;go_wp2_with (fail)
      go_quiet (fail)
      go_wp2_with (fail)
      go_region
      all_goals
       go_wp2;refine⟨⟨k+1,by omega,by go_num,?_⟩,by simp[intOf];omega⟩;rw[HST.out];exact HS2.out _ _ (zae bwb (zad _ _ _)) rfl
     ·have t2:decide (x.lo≤z.hi+1)=false:=Qgz hle;have HNM:Hid (¬(z.hi=9223372036854775807∨x.lo≤z.hi+1)):=Qaz (fun q=>q.elim hmax hle);clear hmax hle hn hzx zl1 zl2 zl3;go_wp2_with (fail)
      go_quiet (fail)
      go_wp2_with (first|(go_at_call 143;refine(zfy _ _ _).mono ?_;rintro e U ⟨rfl,hbu⟩)|(at_builtin;refine Classical.byContradiction fun hneg=> ?_));apply hneg;have hown:Own typR 36 5 V.heap.size (fun _=>False) (.slice (some ⟨g2,0,none⟩) n co) (i++[z]) wr:=by rw[HN.out];exact hown
      have bU:Below V.heap.size V U:=zae (zae (zae hb bwb) (zad _ _ _)) hbu;have hownU:Own typR 36 5 V.heap.size (fun _=>False) (.slice (some ⟨g2,0,none⟩) n co) (i++[z]) U:=hown.all (zae (zae bwb (zad _ _ _)) hbu)
      refine zao typR 36 5 V.heap.size 64 (fun _=>False) _ rfl _ _ 34 _ rfl Tryz.underlying34 zcp rfl (by decide) (by decide) (.slice (some ⟨g2,0,none⟩) n co) (i++[z]) rfl (hownU.alloc _) ⟨U.heap.size,0,none⟩ 1 rfl (zbo x.lo x.hi) [.int .i64 (zbo x.lo x.hi).kind,.string (zbo x.lo x.hi).name,.int .i64 (zbo x.lo x.hi).lo,.int .i64 (zbo x.lo x.hi).hi,.slice none 0 0] rfl ?cells ?one ?held ?hG ?base ?len ?_
      case cells=>exact fun j u hu=>zaq U _ _ _ rfl j u hu
      case one=>intro u hu;simp at hu;rcases hu with rfl|rfl|rfl|rfl|rfl<;>rfl
      case held=>exact zb1 _ _ _ _ _ _
      case hG=>exact fun b hb _=>hb.elim
      case base=>have:=bU.size;simp<;>omega
      case len=>have:=HOL.out;simp at this ⊢ <;>omega
      intro v' w1 hown1 hg1 _;have hb3:Below V.heap.size V w1:=(bU.alloc bU.size _).grown hg1 (by have:=bU.size;simp;omega) fun k' e=>(hownU.lt _ e).1;have hown2:Own typR 36 5 V.heap.size (fun _=>False) v' (zay (i++[z]) x) w1:=by rw[zco,if_neg HNM.out];exact hown1
      clear hown1;go_wp2;go_roundw
      case rel=>exact⟨k+1,by omega,by go_num,by rw[HST.out];exact hown2,hb3⟩
      case measure=>simp[intOf];omega
  ·obtain rfl:k=L'.length:=by omega
   rw[List.take_length]at hown;have HFI:Hid (∃v' M,u3=v'∧Own typR 36 5 w.heap.size (fun _=>False) v' M wr∧(Gap M∧(∀n,num M n↔num L n)∧M.length≤L.length)∧Chg (fun b=>(Value.slice A L.length c).ownBlock=some b) w wr):=Qaz ⟨_,zf7 L',rfl,hown.lower HCH.out.size,HM.out,HCH.out.trans (Chg.of hb)⟩;clear hown;go_wp2;go_ret;obtain⟨v',M,rfl,q⟩:=HFI.out;exact⟨_,M,rfl,q⟩
end
section
open Go.Deep
attribute [local go_sem ↓] Go.wp_at_zero Go.wp_at_succ
def zfk(x:Leaf)(cs:List Value)(_:World):Prop:=cs=x.cs
theorem zxp{A:Option Addr}{d:List Leaf}{w:World}(h:Slc zfk 5 A d w):Typs A (d.map Leaf.ty) w:=fun i t hi=>by
 rw[List.getElem?_map]at hi;obtain⟨x,hx,rfl⟩:=Option.map_eq_some_iff.1 hi;obtain⟨b,off,cs,e,hl,hr,hc⟩:=h i x hx;have hr:cs=x.cs:=hr;subst hr;exact⟨b,off,x.cs,e,rfl,(x.held (fun _=>True) w).now,hc⟩
theorem zjr{A:Option Addr}{d:List Leaf}{w w':World}(h:Slc zfk 5 A d w)(hk:∀b off,A=some ⟨b,off,none⟩→∀o v,w.cell? ⟨b,o,none⟩=some v→w'.cell? ⟨b,o,none⟩=some v):Slc zfk 5 A d w':=fun i x hi=>by
 obtain⟨b,off,cs,e,hl,hr,hc⟩:=h i x hi;exact⟨b,off,cs,e,hl,hr,fun j v hv=>hk b off e _ _ (hc j v hv)⟩
theorem zb6{A:Option Addr}{d:List Leaf}{w w':World}(h:Slc zfk 5 A d w)(k:Below w.heap.size w w'):Slc zfk 5 A d w':=zjr h fun b off _ o v hv=>zaa hv k
theorem Own.leafRow{T base:Nat}{G:Nat→Prop}{v:Value}{L:List Ty}{w:World}(h:Own typR T 5 base G v L w)(hl:∀t∈L,t.args=[]):∃A c d,v=.slice A L.length c∧d.map Leaf.ty=L∧Slc zfk 5 A d w:=by
 by_cases h0:0<L.length
 ·obtain⟨g,c,rfl,_⟩:=h.form h0;obtain⟨d,e,hH⟩:=h.leaves hl;refine⟨_,_,d.toList,rfl,e,fun i x hx=> ?_⟩;have hi:=(Qcz hx).1;refine⟨g,0,x.cs,rfl,rfl,rfl,fun j u hu=> ?_⟩;have hj:j<5:=(Qcz hu).1;have:=(hH.cell (i:=i) (c:=j) (by simpa using hi) hj).1;have e1:d[i]! =x:=by
   rw[getElem!_pos d i (by simpa using hi)];have:=(Qcz hx).2
   simpa using this
  rw[e1]at this;have e2:x.cs[j]! =u:=by
   rw[getElem!_pos x.cs j hj];exact(Qcz hu).2
  rw[e2]at this;exact this
 ·have:L=[]:=List.length_eq_zero_iff.1 (by omega);subst this;obtain⟨A,c,rfl⟩:=h.anyForm;exact⟨A,c,[],rfl,rfl,Slc.nil _ _ _ _⟩
theorem zdm(fid:Nat)(cap:Array Value)(hfn:∀args w,(callFunc fid args).run Tryz.prog w=.ok (.enter fid args) w)(A:Option Addr)(c:Nat)(d:List Leaf)(p:Ty→Bool)(I:World→Prop)(w:World)(hI:I w)(hrow:∀wr,I wr→Slc zfk 5 A d wr)(hl:d.length≤1000000)
  (hask:∀x∈d,∀wr,I wr→Calls Tryz.prog fid (#[.agg #[.int .i64 x.k,.string x.s,.int .i64 x.lo,.int .i64 x.hi,.slice x.A 0 x.c]]++cap) wr fun e w'=>e=.returned (.bool (p x.ty))∧I w'):
  Calls Tryz.prog 101 #[.slice A d.length c,.func (.func fid) #[] cap] w fun e w'=>e=.returned (.bool ((d.map Leaf.ty).any p))∧I w':=by
 refine(zdp A d.length c fid cap (fun i=>.int .i64 (d.getD i default).k) (fun i=>.string (d.getD i default).s) (fun i=>.int .i64 (d.getD i default).lo) (fun i=>.int .i64 (d.getD i default).hi) (fun i=>.slice (d.getD i default).A 0 (d.getD i default).c) w (by omega) hfn (fun i wr=>I wr∧∀j x,j<i→d[j]? =some x→p x.ty=false) (fun i wr=>I wr∧∃x,d[i]? =some x∧p x.ty=true) (fun _ _=>False) ⟨hI,fun j x hj=>absurd hj (by omega)⟩ (fun h0=> ?_) ?_ ?_).mono ?_
 ·obtain⟨b,off,cs,e,_⟩:=hrow w hI 0 d[0] (Qbz h0);exact⟨b,off,e⟩
 ·rintro i wr b off rfl hi ⟨hd,_⟩;have hx:=Qbz hi;simp only[List.getD_eq_getElem?_getD,hx,Option.getD_some];obtain⟨b',off',cs,e,hl',hr,hc⟩:=hrow wr hd i _ hx;simp only[Option.some.injEq,Addr.mk.injEq,and_true]at e;obtain⟨rfl,rfl⟩:=e;have hr:cs=(d[i]).cs:=hr;subst hr;exact⟨hc 0 _ rfl,hc 1 _ rfl,hc 2 _ rfl,hc 3 _ rfl,hc 4 _ rfl⟩
 ·rintro i wr hi ⟨hd,hj⟩;have hx:=Qbz hi;simp only[List.getD_eq_getElem?_getD,hx,Option.getD_some];refine(hask d[i] (List.getElem_mem hi) wr hd).mono ?_;rintro e w' ⟨rfl,hI'⟩;cases hq:p (d[i]).ty with
  |false=>exact .inl ⟨rfl,hI',fun j x hj' hs=>by
    rcases Nat.lt_or_ge j i with h|h
    ·exact hj j x h hs
    ·obtain rfl:j=i:=by omega
     rw[hx]at hs;cases hs;exact hq⟩
  |true=>exact .inr (.inl ⟨rfl,hI',_,hx,hq⟩)
 ·rintro e w' (⟨rfl,hI',hj⟩|⟨i,hi,rfl,hI',x,hx,hq⟩|⟨_,_,h⟩)
  ·have:(d.map Leaf.ty).any p=false:=by
    rw[List.any_map,List.any_eq_false];intro x hx;obtain⟨j,hj'⟩:=Qez hx;have:=hj j x (Qcz hj').1 hj';show ¬p x.ty=true;rw[this];decide
   exact⟨by rw[this],hI'⟩
  ·have:(d.map Leaf.ty).any p=true:=by
    rw[List.any_map,List.any_eq_true];exact⟨x,Qdz hx,hq⟩
   exact⟨by rw[this],hI'⟩
  ·exact h.elim
theorem zps(k:Int)(s:ByteArray)(lo hi:Int)(A:Option Addr)(c:Nat)(W:World):Calls Tryz.prog 139 #[.agg #[.int .i64 k,.string s,.int .i64 lo,.int .i64 hi,.slice A 0 c]] W fun e w'=>e=.returned (.bool (decide (s=⟨#[60,111,98,106,101,99,116,62]⟩)))∧Below W.heap.size W w':=by
 have hb:Below W.heap.size W (W.alloc (.cells #[.int .i64 k,.string s,.int .i64 lo,.int .i64 hi,.slice A 0 c] 36)):=(Below.refl _ W).alloc (Qiz _) _;go_enter Tryz.func139,Tryz.ntmps139;go_wp2;go_ret;exact⟨rfl,hb⟩
theorem zpq(k:Int)(s:ByteArray)(lo hi:Int)(A:Option Addr)(c:Nat)(W:World):Calls Tryz.prog 146 #[.agg #[.int .i64 k,.string s,.int .i64 lo,.int .i64 hi,.slice A 0 c]] W fun e w'=>e=.returned (.bool (decide (s=⟨#[60,99,108,97,115,115,62]⟩)))∧Below W.heap.size W w':=by
 have hb:Below W.heap.size W (W.alloc (.cells #[.int .i64 k,.string s,.int .i64 lo,.int .i64 hi,.slice A 0 c] 36)):=(Below.refl _ W).alloc (Qiz _) _;go_enter Tryz.func146,Tryz.ntmps146;go_wp2;go_ret;exact⟨rfl,hb⟩
theorem zo8(hp M1:Nat)(AH:Option Addr)(cH:Nat)(l:List CI)(ol:∀x∈l,zdo x)(hb:Nat)(k k':Int)(s s':ByteArray)(lo hi lo' hi':Int)(A A':Option Addr)(c c':Nat)(W:World)(G:Nat→Prop)(H:HierAt hp M1 AH cH l l.length W)(hA:Held G (CIs AH l) W)(h0:W.cell? ⟨hb,0,none⟩=some (.pointer (some ⟨hp,0,none⟩))):
  Calls Tryz.prog 145 #[.agg #[.int .i64 k,.string s,.int .i64 lo,.int .i64 hi,.slice A 0 c],.agg #[.int .i64 k',.string s',.int .i64 lo',.int .i64 hi',.slice A' 0 c'],.pointer (some ⟨hb,0,none⟩)] W fun e w'=>e=.returned (.bool (zbg l s' s))∧Below W.heap.size W w':=by
 have b2:Below W.heap.size W ((W.alloc (.cells #[.int .i64 k,.string s,.int .i64 lo,.int .i64 hi,.slice A 0 c] 36)).alloc (.cells #[.int .i64 k',.string s',.int .i64 lo',.int .i64 hi',.slice A' 0 c'] 36)):=((Below.refl _ W).alloc (Qiz _) _).alloc (by simp) _;have HC:=Qaz (fun V (h:Below W.heap.size W V)=>zhw hp M1 AH cH l s' s V (H.keep h) G (hA.keep (Keep.all h)) ol);have hlt:hb<W.heap.size:=cell_lt h0;have hlt2:hb<W.heap.size+1:=by omega
 clear H hA;generalize zbg l s' s=r at HC ⊢;go_enter Tryz.func145,Tryz.ntmps145;go_wp2_with (go_at_call 134;refine(HC.out _ b2).mono ?_;rintro e V ⟨rfl,rfl⟩);go_ret;exact⟨rfl,b2⟩
theorem ztv(a b:UInt8)(x y:List UInt8):Op.bytesLess (a::x) (b::y)=true↔a.toNat<b.toNat∨(a.toNat=b.toNat∧Op.bytesLess x y=true):=by
 rw[Op.bytesLess,Bool.or_eq_true,Bool.and_eq_true,decide_eq_true_eq,beq_iff_eq,UInt8.lt_iff_toNat_lt,←UInt8.toNat_inj]
theorem zru:∀x:List UInt8,Op.bytesLess x x=false
 | []=>rfl
 |a::x=>by
  rw[Bool.eq_false_iff];intro h;rcases(ztv a a x x).1 h with q|q
  ·omega
  ·rw[zru x]at q;exact absurd q.2 (by decide)
theorem zus:∀x y z:List UInt8,Op.bytesLess x y=true→Op.bytesLess y z=true→Op.bytesLess x z=true
 |x,[],_,h,_=>by
  have e:Op.bytesLess x []=false:=by cases x<;>rfl
  rw[e]at h;cases h
 | [],_::_,[],_,h=>by cases h
 | [],_::_,_::_,_,_=>rfl
 |_::_,_::_,[],_,h=>by cases h
 |a::x,b::y,c::z,h1,h2=>by
  rw[ztv]at h1 h2 ⊢;rcases h1 with h1|⟨h1,h1'⟩<;>rcases h2 with h2|⟨h2,h2'⟩
  ·exact .inl (by omega)
  ·exact .inl (by omega)
  ·exact .inl (by omega)
  ·exact .inr ⟨by omega,zus x y z h1' h2'⟩
theorem zq5:∀x y z:List UInt8,Op.bytesLess x y=false→Op.bytesLess y z=false→Op.bytesLess x z=false
 | [],[],_,_,h=>h
 |_::_,_,[],_,_=>rfl
 | [],_::_,_,h,_=>by cases h
 |_::_,[],_::_,_,h=>by cases h
 |a::x,b::y,c::z,h1,h2=>by
  rw[Bool.eq_false_iff]at*;rw[Ne,ztv]at*;intro h;have e1:¬a.toNat<b.toNat:=fun q=>h1 (.inl q);have e2:¬b.toNat<c.toNat:=fun q=>h2 (.inl q);rcases h with q|⟨q,q'⟩
  ·omega
  ·have e3:a.toNat=b.toNat:=by omega
   have e4:b.toNat=c.toNat:=by omega
   have f1:Op.bytesLess x y=false:=by rw[Bool.eq_false_iff];exact fun k=>h1 (.inr ⟨e3,k⟩)
   have f2:Op.bytesLess y z=false:=by rw[Bool.eq_false_iff];exact fun k=>h2 (.inr ⟨e4,k⟩)
   rw[zq5 x y z f1 f2]at q';cases q'
def zuw(a b:ByteArray):Int:=if Op.bytesLess a.toList b.toList=true then -1 else if(a.toList==b.toList)=true then 0 else 1
theorem zsd(a:ByteArray)(w:World):Calls Tryz.prog 210 #[.string a] w fun e w'=>e=.returned (.bool false)∧w'=w:=by
 go_enter Tryz.func210,Tryz.ntmps210;go_wp2;go_ret;exact⟨by first|rfl|simp,rfl⟩
theorem znb(a b:ByteArray)(w:World):Calls Tryz.prog 186 #[.string a,.string b] w fun e w'=>e=.returned (.int .i64 (zuw a b))∧w'=w:=by
 have HN:=Qaz (fun x=>zsd x w);cases h1:Op.bytesLess a.toList b.toList with
 |true=>
  have HC:Hid (zuw a b= -1):=Qaz (by unfold zuw;rw[if_pos h1]);go_enter Tryz.func186,Tryz.ntmps186;go_wp2_with (go_at_call 210;refine(HN.out _).mono ?_;rintro e w' ⟨rfl,rfl⟩);go_ret;exact⟨by rw[HC.out];rfl,rfl⟩
 |false=>
  cases h2:a.toList==b.toList with
  |true=>
   have HC:Hid (zuw a b=0):=Qaz (by unfold zuw;rw[if_neg (by rw[h1];decide),if_pos h2]);go_enter Tryz.func186,Tryz.ntmps186;go_wp2_with (go_at_call 210;refine(HN.out _).mono ?_;rintro e w' ⟨rfl,rfl⟩);go_ret;exact⟨by rw[HC.out];rfl,rfl⟩
  |false=>
   have HC:Hid (zuw a b=1):=Qaz (by unfold zuw;rw[if_neg (by rw[h1];decide),if_neg (by rw[h2];decide)]);go_enter Tryz.func186,Tryz.ntmps186;go_wp2_with (go_at_call 210;refine(HN.out _).mono ?_;rintro e w' ⟨rfl,rfl⟩);go_ret;exact⟨by rw[HC.out];rfl,rfl⟩
theorem zvz(x y:Leaf)(W:World):Calls Tryz.prog 185 #[.agg x.cs.toArray,.agg y.cs.toArray] W fun e w'=>e=.returned (.int .i64 (zuw x.ty.name y.ty.name))∧∃q os',w'=Go.Sort.grow (W.drewN q) os':=by
 obtain⟨k,s,lo,hi,A,c⟩:=x;obtain⟨k',s',lo',hi',A',c'⟩:=y;show Calls Tryz.prog 185 #[.agg #[.int .i64 k,.string s,.int .i64 lo,.int .i64 hi,.slice A 0 c],.agg #[.int .i64 k',.string s',.int .i64 lo',.int .i64 hi',.slice A' 0 c']] W fun e w'=>e=.returned (.int .i64 (zuw s s'))∧∃q os',w'=Go.Sort.grow (W.drewN q) os';have HC:=Qaz (fun W'=>znb s s' W');generalize zuw s s'=r at HC ⊢;go_enter Tryz.func185,Tryz.ntmps185;go_wp2_with (go_at_call 186;refine(HC.out _).mono ?_;rintro e w' ⟨rfl,rfl⟩);go_ret;exact⟨rfl,0,_,by rw[Go.Sort.alloc_eq_grow,Go.Sort.alloc_eq_grow,Go.Sort.grow_grow];rfl⟩
theorem z3c(x y:Leaf):ltOf (fun x y:Leaf=>zuw x.ty.name y.ty.name) x y=Op.bytesLess x.s.toList y.s.toList:=by
 unfold ltOf zuw;show decide ((if Op.bytesLess x.s.toList y.s.toList=true then(-1:Int)else if(x.s.toList==y.s.toList)=true then 0 else 1)<0)=_;cases h1:Op.bytesLess x.s.toList y.s.toList
 ·cases h2:x.s.toList==y.s.toList<;>simp
 ·simp
theorem z3d:Go.Sort.SWO (ltOf fun x y:Leaf=>zuw x.ty.name y.ty.name) where
 irrefl x:=by rw[z3c];exact zru _
 trans x y z h1 h2:=by rw[z3c]at*;exact zus _ _ _ h1 h2
 ntrans x y z h1 h2:=by rw[z3c]at*;exact zq5 _ _ _ h1 h2
end
end Go.Proofs.YtepnmejahbiacaaGreat
