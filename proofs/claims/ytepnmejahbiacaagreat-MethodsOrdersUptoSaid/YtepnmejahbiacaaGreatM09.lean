/- Part 9 of the proof: C3d, Ch, C3g, Mi. -/
import Derived.Test.YtepnmejahbiacaaGreatM06
import Derived.Test.YtepnmejahbiacaaGreatM04
import Derived.RangeFuncNested
import Derived.RangeFuncBound
import Derived.OwnWalkIn
import Derived.TacticsInMore
import Derived.LoopNIn
import Derived.LoopIn
import Derived.Stop.RegionWithIn
set_option linter.unusedVariables false
set_option linter.unusedSimpArgs false
set_option maxHeartbeats 64000000
set_option maxRecDepth 100000
namespace Go.Proofs.YtepnmejahbiacaaGreat
open Go.RowKit
def zdy(f:Nat→Option ByteArray):Nat→ByteArray→Option Nat
 |0,_=>none
 |n+1,s=>if f n=some s then some n else zdy f n s
def zbi(ns:List ByteArray)(s:ByteArray):Option Nat:=zdy (fun i=>ns[i]?) ns.length s
theorem zi7{f f':Nat→Option ByteArray}:∀(n:Nat)(s:ByteArray),(∀i,i<n→f i=f' i)→zdy f n s=zdy f' n s
 |0,_,_=>rfl
 |n+1,s,h=>by simp only[zdy];rw[h n (by omega),zi7 n s fun i hi=>h i (by omega)]
theorem ztx(ns:List ByteArray)(x s:ByteArray):zbi (ns++[x]) s=if s=x then some ns.length else zbi ns s:=by
 unfold zbi;rw[List.length_append,List.length_singleton];simp only[zdy];have e0:(ns++[x])[ns.length]? =some x:=by rw[List.getElem?_append_right (Qiz _),Nat.sub_self];rfl
 simp only[e0,Option.some.injEq];have e:zdy (fun i=>(ns++[x])[i]?) ns.length s=zdy (fun i=>ns[i]?) ns.length s:=zi7 _ _ fun i hi=>by rw[List.getElem?_append_left hi]
 rw[e];by_cases h:s=x
 ·subst h;simp
 ·have:¬x=s:=fun e=>h e.symm;simp[h,this]
def zyq:Option Nat→Option Value:=Option.map fun i=>.int .i64 (i:Int)
def zgt(ns:List ByteArray)(s:ByteArray):Option Value:=zyq (zbi ns s)
theorem zjc(ns:List ByteArray)(x:ByteArray)(n:Nat)(hn:n=ns.length):(fun s=>if s=x then some (Value.int .i64 (n:Int))else zgt ns s)=zgt (ns++[x]):=by
 subst hn
 funext s;unfold zgt;rw[ztx]
 by_cases h:s=x<;>simp[h,zyq]
theorem zy9(w:World):(zeroValue 3).run Tryz.prog w=.ok (.int .i64 0) w:=by kernel_rfl
theorem zyo(w:World):(zeroValue 108).run Tryz.prog w=.ok (.slice none 0 0) w:=by kernel_rfl
theorem zqn(ns:List ByteArray)(s:ByteArray):(zgt ns s).getD (.int .i64 0)=.int .i64 (((zbi ns s).getD 0:Nat):Int)∧(zgt ns s).isSome=(zbi ns s).isSome:=by
 unfold zgt zyq;cases zbi ns s<;>exact⟨rfl,rfl⟩
theorem zqa{w:World}{b:Nat}{ns:List ByteArray}(h:MapF zbn b (zgt ns) w)(s:ByteArray)(ok:Bool):
  (Instr.lookup 140 (.map (some b)) (.string s) ok).run Tryz.prog w=.ok (if ok then .tuple #[.int .i64 (((zbi ns s).getD 0:Nat):Int),.bool (zbi ns s).isSome]else .int .i64 (((zbi ns s).getD 0:Nat):Int)) w:=by
 have:=zda h Tryz.underlying140 (zy9 w) s ok;rw[(zqn ns s).1,(zqn ns s).2]at this;exact this
structure TreeAt (hp M1 M2:Nat) (A:Option Addr) (c:Nat) (g:List Heir) (lines:ByteArray→Option Value) (w:World):Prop where
 c0:w.cell? ⟨hp,0,none⟩=some (.slice A g.length c)
 c1:w.cell? ⟨hp,1,none⟩=some (.map (some M1))
 c2:w.cell? ⟨hp,2,none⟩=some (.map (some M2))
 at_:MapF zbn M1 (zgt (g.map (·.name))) w
 ln:MapF zbn M2 lines w
def z0h(A:Option Addr)(c:Nat)(g:List Heir)(name:ByteArray)(w:World)(e:Ending)(w':World):Prop:=
 Below w.heap.size w w'∧((za3 g≠0∧e=.returned (.tuple #[.pointer none,.int .i64 0,.int .i64 (za3 g)]))∨
 (za3 g=0∧∃hp M1 M2,w.heap.size≤hp∧w.heap.size≤M1∧w.heap.size≤M2∧M1≠M2∧TreeAt hp M1 M2 A c g (fun _=>none) w'∧
  ((∃i,zbi (g.map (·.name)) name=some i∧e=.returned (.tuple #[.pointer (some ⟨hp,0,none⟩),.int .i64 (i:Int),.int .i64 0]))∨
   (zbi (g.map (·.name)) name=none∧e=.returned (.tuple #[.pointer (some ⟨hp,0,none⟩),.int .i64 0,.int .i64 3])))))
theorem zj4(A:Option Addr)(c:Nat)(g:List Heir)(name:ByteArray)(w:World)(h:Heirs A g w)(hl:g.length≤1000000)(hgs:∀x∈g,x.supers.length≤1000000):
  Calls Tryz.prog 159 #[.slice A g.length c,.string name] w (z0h A c g name w):=by
 have H:=Slc.stable zg3 h |>.here;have HC:=Qaz (zpm A c g w h hl hgs);have hmm:= @run_makeMap Tryz.prog;by_cases hck:za3 g=0
 ·have t1:(za3 g != 0)=false:=by rw[hck];rfl
  have HCK:=Qaz hck;go_enter Tryz.func159,Tryz.ntmps159;go_wp2_with (fail);refine HC.out.mono ?_;rintro e w1 ⟨rfl,hb1⟩;rw[HCK.out];go_wp2_with (fail);clear hmm;obtain⟨M1,hM1⟩:∃M,M=w1.heap.size:=⟨_,rfl⟩;obtain⟨M2,hM2⟩:∃M,M=w1.heap.size+1:=⟨_,rfl⟩;obtain⟨hp,hhp⟩:∃M,M=w1.heap.size+1+1:=⟨_,rfl⟩;rw[←hhp,←hM2,←hM1];have hsz:=hb1.size;have hT:TreeAt hp M1 M2 A c g (fun _=>none) w1→True:=fun _=>trivial;generalize hw2:((w1.alloc (.map #[] 0)).alloc (.map #[] 0)).alloc (.cells #[.slice A g.length c,.map (some M1),.map (some M2)] 220)=w2
  have hb2:Below w.heap.size w w2:=by rw[←hw2];exact((hb1.alloc hsz _).alloc (by simp;omega) _).alloc (by simp;omega) _
  have hd0:w2.cell? ⟨hp,0,none⟩=some (.slice A g.length c):=by rw[←hw2];exact zac _ _ _ _ (by simp;omega) 0 _ rfl
  have hd1:w2.cell? ⟨hp,1,none⟩=some (.map (some M1)):=by rw[←hw2];exact zac _ _ _ _ (by simp;omega) 1 _ rfl
  have hd2:w2.cell? ⟨hp,2,none⟩=some (.map (some M2)):=by rw[←hw2];exact zac _ _ _ _ (by simp;omega) 2 _ rfl
  have hm1:MapF zbn M1 (zgt []) w2:=by
   rw[←hw2];exact(((MapF.made zbn w1 M1 hM1).keep (Keep.alloc (fun _=>True) _ _) trivial).keep (Keep.alloc (fun _=>True) _ _) trivial)
  have hm2:MapF zbn M2 (fun _=>none) w2:=by
   rw[←hw2];exact(MapF.made zbn _ M2 (by simp;omega)).keep (Keep.alloc (fun _=>True) _ _) trivial
  have hM12:M1≠M2:=by omega
  have hMh:hp≠M1∧hp≠M2:=by omega
  have hbs:w.heap.size≤hp∧w.heap.size≤M1∧w.heap.size≤M2:=by omega
  have HMM:=Qaz (And.intro hM12 hMh);clear hw2 hM1 hM2 hhp hM12 hMh hT hb1
  go_loopw [25] (fun i wr=>∃k:Nat,k≤g.length∧i=.int .i64 k∧wr.cell? ⟨hp,0,none⟩=some (.slice A g.length c)∧wr.cell? ⟨hp,1,none⟩=some (.map (some M1))∧wr.cell? ⟨hp,2,none⟩=some (.map (some M2))∧
   MapF zbn M1 (zgt ((g.map (·.name)).take k)) wr∧MapF zbn M2 (fun _=>none) wr∧Below w.heap.size w wr) (fun i _=>g.length-(intOf i).toNat)
  case atStart=>exact⟨0,Qjz _,rfl,hd0,hd1,hd2,hm1,hm2,hb2⟩
  case round=>
   clear hd0 hd1 hd2 hm1 hm2 hb2;obtain⟨k,hk,rfl,hd0,hd1,hd2,hm1,hm2,hb⟩:=hrel;have hhpl:=cell_lt hd0;by_cases hlt:k<g.length
   ·obtain⟨b,off,rfl⟩:=h.addr (by omega);have HX:=Qaz (getElem?_lt hlt);have HTS:=Qaz (take_snoc (l:=g.map (·.name)) (k:=k) (x:=g[k].name) (by rw[List.getElem?_map,getElem?_lt hlt];rfl));generalize g[k]=x at*;obtain⟨A2,c2,r2,R2,g1,g2⟩:=Heirs.atH (H.below hb) HX.out;have hbl:=cell_lt g1;go_wp2;refine wp_region_still_tail 7 (by kernel_rfl) (by kernel_rfl) ?_;simp only[List.take_succ_cons,List.take_zero,List.drop_succ_cons,List.drop_zero];change wpStill _ _ (World.drew _) (fun a'=>wpList _ _ _ _ a' (World.drew _)) _ _
    repeat still_step
    refine wpStill_nil ?_;have hm1':MapF zbn M1 (zgt ((g.map (·.name)).take k)) (wr.alloc (.cells #[.string x.name,.slice A2 x.supers.length c2] 186)).drew:=(hm1.keep (Keep.alloc (fun _=>True) _ _) trivial).keep (Keep.drew (fun _=>True) _) trivial;have hm2':MapF zbn M2 (fun _=>none) (wr.alloc (.cells #[.string x.name,.slice A2 x.supers.length c2] 186)).drew:=(hm2.keep (Keep.alloc (fun _=>True) _ _) trivial).keep (Keep.drew (fun _=>True) _) trivial
    go_wp2_with (at_mapUpdate;refine zcu zbn _ rfl 140 3 _ _ _ rfl Tryz.underlying140 M1 (zgt ((g.map (·.name)).take k)) hm1' rfl x.name rfl (.int .i64 (k:Int)) rfl ?_);intro w3 hm3 hg3;rw[zjc _ _ k (by rw[List.length_take,List.length_map,Nat.min_eq_left (by omega)])]at hm3;have hb3:Below w.heap.size w w3:=((hb.alloc hb.size _).drew).grown hg3 (by have:=hb.size;simp;omega) fun k e=>by cases e;exact hbs.2.1
    have hg3':Keep (fun b=>b=hp) wr w3:=(((Keep.alloc (fun _=>True) wr _).trans (Keep.drew _ _)).mono (fun _ _=>trivial)).trans (Keep.grown hg3 fun b hb e=>HMM.out.2.1 (by rw[←hb];injection e));have q0:=zah hd0 hg3' rfl;have q1:=zah hd1 hg3' rfl;have q2:=zah hd2 hg3' rfl;have hm4:MapF zbn M2 (fun _=>none) w3:=hm2'.same (hg3.block M2 hm2'.lt (fun e=>HMM.out.1 (by injection e with e;exact e.symm)));clear hd0 hd1 hd2 hm1' hm2' hm1 hm2 hg3;go_wp2;go_roundw
    case rel=>
     refine⟨k+1,by omega,by go_num,q0,q1,q2,?_,hm4,hb3⟩;rw[HTS.out];exact hm3
    case measure=>simp[intOf];omega
   ·obtain rfl:k=g.length:=by omega
    rw[List.take_of_length_le (by simp)]at hm1;have hlk:=fun s ok=>zqa hm1 s ok;have hlk1:=hlk name true;simp only[if_true]at hlk1;clear hlk;have HT:Hid (TreeAt hp M1 M2 A c g (fun _=>none) wr):=Qaz ⟨hd0,hd1,hd2,hm1,hm2⟩;cases hla:zbi (g.map (·.name)) name with
    |none=>
     have HL:=Qaz hla;rw[hla]at hlk1;simp only[Option.getD_none,Option.isSome_none]at hlk1;clear hla;go_wp2;go_ret3;exact⟨hb,.inr ⟨HCK.out,hp,M1,M2,hbs.1,hbs.2.1,hbs.2.2,HMM.out.1,HT.out,.inr ⟨HL.out,rfl⟩⟩⟩
    |some i=>
     have HL:=Qaz hla;rw[hla]at hlk1;simp only[Option.getD_some,Option.isSome_some]at hlk1;clear hla;go_wp2;go_ret3;exact⟨hb,.inr ⟨HCK.out,hp,M1,M2,hbs.1,hbs.2.1,hbs.2.2,HMM.out.1,HT.out,.inl ⟨i,HL.out,rfl⟩⟩⟩
 ·have t1:(za3 g==0)=false:=Qfz hck;have t2:(za3 g != 0)=true:=by rw[bne_iff_ne];exact hck
  have HCK:=Qaz hck;clear hck;go_enter Tryz.func159,Tryz.ntmps159;go_wp2_with (go_at_call 191;refine HC.out.mono ?_;rintro e w1 ⟨rfl,hb1⟩);go_ret3;exact⟨hb1,.inl ⟨HCK.out,rfl⟩⟩
theorem zds{α:Type}{l:List α}(h:l.Nodup){i j:Nat}{x:α}(hi:l[i]? =some x)(hj:l[j]? =some x):i=j:=by
 unfold List.Nodup at h;rw[List.pairwise_iff_getElem]at h;obtain⟨h1,h1'⟩:=Qcz hi;obtain⟨h2,h2'⟩:=Qcz hj;rcases Nat.lt_trichotomy i j with hij|hij|hij
 ·exact absurd (h1'.trans h2'.symm) (h i j h1 h2 hij)
 ·exact hij
 ·exact absurd (h2'.trans h1'.symm) (h j i h2 h1 hij)
theorem zt4{α:Type}:∀(l m:List α),l.Nodup→(∀x∈l,x∈m)→l.length≤m.length
 | [],_,_,_=>Qjz _
 |a::t,m,hn,hs=>by
  obtain⟨m1,m2,rfl⟩:=List.append_of_mem (hs a List.mem_cons_self);rw[List.nodup_cons]at hn;have:=zt4 t (m1++m2) hn.2 fun x hx=>by
   have h:=hs x (List.mem_cons_of_mem _ hx);rw[List.mem_append,List.mem_cons]at h;rw[List.mem_append];rcases h with h|rfl|h
   ·exact .inl h
   ·exact absurd hx hn.1
   ·exact .inr h
  simp at this ⊢;omega
theorem z2w{s x:ByteArray}{l:List (List ByteArray)}{y:List ByteArray}(hy:y∈rm s l)(hx:x∈y):∃z∈l,x∈z:=by
 unfold rm at hy;rw[List.mem_map]at hy
 obtain⟨z,hz,rfl⟩:=hy;refine⟨z,hz,?_⟩;unfold rm1 at hx
 split at hx
 ·exact hx
 ·split at hx
  ·exact List.mem_cons_of_mem _ hx
  ·exact hx
theorem z0u{s:ByteArray}{l:List (List ByteArray)}(h:zb7 l s=true):∀y∈rm s l,s∉y:=by
 intro y hy hs;unfold rm at hy;rw[List.mem_map]at hy
 obtain⟨z,hz,rfl⟩:=hy;unfold zb7 at h;rw[List.all_eq_true]at h
 have hz':=h z hz;rw[Bool.not_eq_true',zbl]at hz';unfold rm1 at hs;cases z with
 |nil=>simp at hs
 |cons a t=>
  simp only[List.tail_cons]at hz';simp only[]at hs
  split at hs
  ·exact hz' hs
  ·rename_i hne;rcases List.mem_cons.1 hs with h|h
   ·exact hne h.symm
   ·exact hz' h
theorem zsa{l:List (List ByteArray)}:∀{out:List ByteArray},merge l=some out→(∀x∈out,∃y∈l,x∈y)∧out.Nodup:=by
 generalize hn:total l=n
 induction n using Nat.strongRecOn generalizing l with
 |_ n ih=>
  intro out h;by_cases ha:zb0 l=true
  ·cases hc:zia l l with
   |none=>rw[zfo ha hc]at h;cases h
   |some s=>
    rw[zg8 ha hc]at h;obtain⟨t,ht,hg⟩:=ziw hc;have hlt:=zdv ht;obtain⟨o,ho,rfl⟩:=Option.map_eq_some_iff.1 h;obtain⟨h1,h2⟩:=ih _ (by omega) rfl ho;refine⟨fun x hx=> ?_,?_⟩
    ·rcases List.mem_cons.1 hx with rfl|hx
     ·exact⟨_,ht,List.mem_cons_self⟩
     ·obtain⟨y,hy,hxy⟩:=h1 x hx;exact z2w hy hxy
    ·rw[List.nodup_cons];refine⟨fun hs=> ?_,h2⟩;obtain⟨y,hy,hxy⟩:=h1 s hs;exact z0u hg y hy hxy
  ·rw[zhb (by simpa using ha)]at h;cases h;exact⟨fun x hx=>by simp at hx,List.nodup_nil⟩
theorem zka{f:Nat→Option ByteArray}:∀(n:Nat)(s:ByteArray)(j:Nat),zdy f n s=some j→j<n∧f j=some s
 |0,_,_,h=>by simp[zdy]at h
 |n+1,s,j,h=>by
  simp only[zdy]at h
  split at h
  ·rename_i hf;cases h;exact⟨by omega,hf⟩
  ·have:=zka n s j h;exact⟨by omega,this.2⟩
theorem zgi{f:Nat→Option ByteArray}:∀(n:Nat)(s:ByteArray),zdy f n s=none→∀j,j<n→f j≠some s
 |0,_,_,_,h=>absurd h (by omega)
 |n+1,s,h,j,hj=>by
  simp only[zdy]at h
  split at h
  ·cases h
  ·rename_i hf;rcases Nat.lt_or_ge j n with h'|h'
   ·exact zgi n s h j h'
   ·obtain rfl:j=n:=by omega
    exact hf
theorem zci{ns:List ByteArray}{s:ByteArray}{j:Nat}(h:zbi ns s=some j):ns[j]? =some s:=(zka _ _ _ h).2
theorem zja{ns:List ByteArray}{s:ByteArray}{j:Nat}(hj:ns[j]? =some s)(hd:ns.Nodup):zbi ns s=some j:=by
 cases h:zbi ns s with
 |none=>exact absurd hj (zgi _ _ h j (Qcz hj).1)
 |some k=>
  have hk:=zci h;rw[zds hd hk hj]
def names(g:List Heir):List ByteArray:=g.map (·.name)
theorem zd3{g:List Heir}:∀{seen:List ByteArray},zbp seen g=true→∀i h,g[i]? =some h→zdu (seen++(names g).take i) h=true:=by
 induction g with
 |nil=>intro seen _ i h hi;simp at hi
 |cons a r ih=>
  intro seen hok i h hi;simp only[zbp,Bool.and_eq_true]at hok;cases i with
  |zero=>simp at hi;subst hi;simpa using hok.1
  |succ i=>
   have:=ih hok.2 i h (by simpa using hi)
   simpa[names]using this
theorem zg0{g:List Heir}{i:Nat}{h:Heir}(hi:g[i]? =some h):(names g)[i]? =some h.name:=by unfold names;rw[List.getElem?_map,hi];rfl
theorem zer{g:List Heir}(h:zbp [] g=true):(names g).Nodup:=by
 unfold List.Nodup;rw[List.pairwise_iff_getElem];intro i j hi' hj hij heq;have hjg:j<g.length:=by unfold names at hj;simpa using hj
 have hx:=zd3 h j _ (Qbz hjg);unfold zdu at hx;simp only[Bool.and_eq_true,Bool.not_eq_true',List.nil_append]at hx;have h2:=zbl.1 hx.1.1.2;have hnj:=zg0 (Qbz hjg);rw[Qbz hj]at hnj;refine h2 (Qdz (i:=i) ?_);rw[List.getElem?_take_of_lt hij,Qbz hi',heq];exact hnj
theorem ze4{g:List Heir}(h:zbp [] g=true){i:Nat}{x:Heir}(hi:g[i]? =some x){s:ByteArray}(hs:s∈x.supers):∃j,j<i∧zbi (names g) s=some j:=by
 have hx:=zd3 h i x hi;unfold zdu at hx;simp only[Bool.and_eq_true,List.nil_append]at hx;have h4:=hx.2;unfold zd7 at h4;rw[List.all_eq_true]at h4
 obtain⟨k,hk,rfl⟩:=List.getElem_of_mem hs;have h5:=h4 k (List.mem_range.2 hk);rw[Qbz hk]at h5;simp only[Bool.and_eq_true]at h5;have h6:=zb8.1 h5.1;obtain⟨j,hj,e⟩:=List.getElem_of_mem h6;rw[List.length_take]at hj;rw[List.getElem_take]at e;exact⟨j,by omega,zja (by rw[Qbz (by omega),e]) (zer h)⟩
def zbq{α:Type}(f:ByteArray→Option α):List ByteArray→Option (List α)
 | []=>some []
 |s::r=>match f s with|none=>none|some x=>(zbq f r).map (x:: ·)
def zmr(g:List Heir):Nat→Nat→Option (List ByteArray)
 |0,_=>none
 |n+1,i=>match g[i]? with
  |none=>none
  |some h=>(zbq (fun s=>(zbi (names g) s).bind (zmr g n)) h.supers).bind fun ls=>(merge (ls++[h.supers])).map (h.name:: ·)
def line(g:List Heir)(i:Nat):Option (List ByteArray):=zmr g (i+1) i
def zcn(g:List Heir)(s:ByteArray):Option (List ByteArray):=(zbi (names g) s).bind (line g)
theorem zfu{α:Type}{f f':ByteArray→Option α}:∀l,(∀s∈l,f s=f' s)→zbq f l=zbq f' l
 | [],_=>rfl
 |s::r,h=>by simp only[zbq];rw[h s List.mem_cons_self,zfu r fun t ht=>h t (List.mem_cons_of_mem _ ht)]
theorem zgq{α:Type}(f:ByteArray→Option α):∀(l:List ByteArray)(s:ByteArray),zbq f (l++[s])=(zbq f l).bind fun xs=>(f s).map fun x=>xs++[x]
 | [],s=>by simp only[List.nil_append,zbq];cases f s<;>rfl
 |t::r,s=>by
  simp only[List.cons_append,zbq];cases f t with
  |none=>rfl
  |some x=>
   simp only[];rw[zgq f r s];cases zbq f r<;>cases f s<;>rfl
theorem zfm{α:Type}{f:ByteArray→Option α}{l:List ByteArray}{k:Nat}{s:ByteArray}(hs:l[k]? =some s)(h:f s=none):zbq f l=none:=by
 induction l generalizing k with
 |nil=>simp at hs
 |cons t r ih=>
  simp only[zbq];cases k with
  |zero=>simp at hs;subst hs;rw[h]
  |succ k=>
   have:=ih (k:=k) (by simpa using hs);rw[this];cases f t<;>rfl
theorem zdd{α:Type}{f:ByteArray→Option α}:∀{l:List ByteArray}{xs:List α},zbq f l=some xs→xs.length=l.length∧∀(i:Nat)(s:ByteArray),l[i]? =some s→∃x,xs[i]? =some x∧f s=some x
 | [],xs,h=>by simp[zbq]at h;subst h;exact⟨rfl,fun i s hi=>by simp at hi⟩
 |t::r,xs,h=>by
  simp only[zbq]at h;cases hf:f t with
  |none=>rw[hf]at h;cases h
  |some x=>
   rw[hf]at h;obtain⟨ys,hys,rfl⟩:=Option.map_eq_some_iff.1 h;obtain⟨h1,h2⟩:=zdd hys;refine⟨by simp[h1],fun i s hi=> ?_⟩;cases i with
   |zero=>simp at hi;subst hi;exact⟨x,rfl,hf⟩
   |succ i=>simpa using h2 i s (by simpa using hi)
theorem z0k{g:List Heir}(h:zbp [] g=true):∀(n m i:Nat),i<n→i<m→zmr g n i=zmr g m i:=by
 intro n
 induction n with
 |zero=>intro m i hi;omega
 |succ n ih=>
  intro m i hi hm;obtain⟨m,rfl⟩:∃k,m=k+1:=⟨m-1,by omega⟩;simp only[zmr];cases hg:g[i]? with
  |none=>rfl
  |some x=>
   simp only[];rw[zfu x.supers fun s hs=>by
    obtain⟨j,hj,he⟩:=ze4 h hg hs;show(zbi (names g) s).bind (zmr g n)=(zbi (names g) s).bind (zmr g m);rw[he];exact ih m j (by omega) (by omega)]
theorem zpj{g:List Heir}(h:zbp [] g=true){i:Nat}{x:Heir}(hi:g[i]? =some x):
  line g i=(zbq (zcn g) x.supers).bind fun ls=>(merge (ls++[x.supers])).map (x.name:: ·):=by
 unfold line;simp only[zmr,hi];rw[zfu (f':=zcn g) x.supers fun s hs=>by
  obtain⟨j,hj,he⟩:=ze4 h hi hs;unfold zcn;rw[he];exact z0k h _ _ _ hj (by omega)]
theorem zii{g:List Heir}(h:zbp [] g=true):∀(i:Nat)(l:List ByteArray),line g i=some l→l.Nodup∧(∀x∈l,x∈(names g).take (i+1))∧∃x t,g[i]? =some x∧l=x.name::t∧∀y∈t,y∈(names g).take i:=by
 intro i
 induction i using Nat.strongRecOn with
 |_ i ih=>
  intro l hl;cases hg:g[i]? with
  |none=>unfold line at hl;simp only[zmr,hg]at hl;cases hl
  |some x=>
   rw[zpj h hg]at hl;obtain⟨ls,hls,hl⟩:=Option.bind_eq_some_iff.1 hl;obtain⟨t,ht,rfl⟩:=Option.map_eq_some_iff.1 hl;obtain⟨h1,h2⟩:=zdd hls;obtain⟨m1,m2⟩:=zsa ht;have hmem:∀y∈t,y∈(names g).take i:=by
    intro y hy;obtain⟨z,hz,hyz⟩:=m1 y hy;rw[List.mem_append,List.mem_singleton]at hz;rcases hz with hz|rfl
    ·obtain⟨k,hk,rfl⟩:=List.getElem_of_mem hz;have hks:k<x.supers.length:=by omega
     obtain⟨z',hz',hf⟩:=h2 k _ (Qbz hks);rw[Qbz hk]at hz';cases hz'
     obtain⟨j,hj,he⟩:=ze4 h hg (List.getElem_mem hks);unfold zcn at hf;rw[he]at hf
     have:=(ih j hj _ hf).2.1 y hyz;rw[List.mem_iff_getElem?]at this ⊢;obtain⟨q,hq⟩:=this;rw[List.getElem?_take]at hq
     split at hq
     ·exact⟨q,by rw[List.getElem?_take_of_lt (by omega)];exact hq⟩
     ·cases hq
    ·obtain⟨j,hj,he⟩:=ze4 h hg hyz;exact Qdz (i:=j) (by rw[List.getElem?_take_of_lt hj];exact zci he)
   have hnm:x.name∉(names g).take i:=by
    have hx:=zd3 h i x hg;unfold zdu at hx;simp only[Bool.and_eq_true,Bool.not_eq_true',List.nil_append]at hx;exact zbl.1 hx.1.1.2
   refine⟨List.nodup_cons.2 ⟨fun hh=>hnm (hmem _ hh),m2⟩,fun y hy=> ?_,x,t,rfl,rfl,hmem⟩;rcases List.mem_cons.1 hy with rfl|hy
   ·exact Qdz (i:=i) (by rw[List.getElem?_take_of_lt (by omega)];exact zg0 hg)
   ·have:=hmem y hy;rw[List.mem_iff_getElem?]at this ⊢;obtain⟨q,hq⟩:=this;rw[List.getElem?_take]at hq
    split at hq
    ·exact⟨q,by rw[List.getElem?_take_of_lt (by omega)];exact hq⟩
    ·cases hq
theorem zbr{g:List Heir}(h:zbp [] g=true){i:Nat}{l:List ByteArray}(hl:line g i=some l):l.length≤g.length:=by
 obtain⟨h1,h2,_⟩:=zii h i l hl;have:=zt4 l _ h1 h2;rw[List.length_take]at this;have e:(names g).length=g.length:=by unfold names;simp
 omega
theorem zaz{g:List Heir}(h:za3 g=0):g.length≤120∧zbp [] g=true:=by
 unfold za3 at h
 split at h
 ·omega
 ·split at h
  ·rename_i h1 h2;exact⟨by omega,h2⟩
  ·omega
def MemoOk(g:List Heir)(lines:ByteArray→Option Value)(G:Nat→Prop)(w:World):Prop:=
 ∀s v,lines s=some v→∃x A c,zcn g s=some x∧v=.slice A x.length c∧x.length≤c∧Held G (Strs A x) w
structure TreeInv (hp M1 M2:Nat) (A:Option Addr) (c:Nat) (g:List Heir) (B:Nat→Prop) (w:World):Prop where
 nb:¬B hp∧¬B M1∧¬B M2∧M1≠M2∧hp≠M2
 gs:Held (fun b=>¬B b∧b≠M2) (Heirs A g) w
 tr:∃lines,TreeAt hp M1 M2 A c g lines w∧MemoOk g lines (fun b=>¬B b∧b≠M2) w
theorem MemoOk.keep{g:List Heir}{lines:ByteArray→Option Value}{G:Nat→Prop}{w w':World}(h:MemoOk g lines G w)(k:Keep G w w'):MemoOk g lines G w':=fun s v hv=>by
 obtain⟨x,A,c,h1,h2,h3,h4⟩:=h s v hv;exact⟨x,A,c,h1,h2,h3,h4.keep k⟩
theorem MemoOk.mono{g:List Heir}{lines:ByteArray→Option Value}{G G':Nat→Prop}{w:World}(h:MemoOk g lines G w)(hg:∀b,b<w.heap.size→G b→G' b):MemoOk g lines G' w:=fun s v hv=>by
 obtain⟨x,A,c,h1,h2,h3,h4⟩:=h s v hv;exact⟨x,A,c,h1,h2,h3,h4.mono hg⟩
theorem TreeInv.others{hp M1 M2:Nat}{A:Option Addr}{c:Nat}{g:List Heir}{B B':Nat→Prop}{w w':World}(h:TreeInv hp M1 M2 A c g B w)(k:Chg B w w')(hb:∀b,b<w'.heap.size→B' b→B b∨w.heap.size≤b):TreeInv hp M1 M2 A c g B' w':=by
 obtain⟨⟨n1,n2,n3,n4,n5⟩,hg,lines,ht,hm⟩:=h;have hk:Keep (fun b=>¬B b∧b≠M2) w w':=k.keep fun b g=>g.1;have l0:=cell_lt ht.c0;have l1:=ht.at_.lt;have l2:=ht.ln.lt;have s0:=k.block hp l0 n1;have up:∀b,b<w'.heap.size→(¬B b∧b≠M2)∧b<w.heap.size→¬B' b∧b≠M2:=fun b hlt hh=>⟨fun q=>by rcases hb b hlt q with q|q;exact hh.1.1 q;omega,hh.1.2⟩;have no:∀b,b<w.heap.size→¬B b→¬B' b:=fun b hlt hh q=>by
  rcases hb b (Nat.lt_of_lt_of_le hlt k.size) q with q|q
  ·exact hh q
  ·omega
 refine⟨⟨no _ l0 n1,no _ l1 n2,no _ l2 n3,n4,n5⟩,(hg.lt.keep (hk.mono fun b g=>g.1)).mono up,lines,⟨?_,?_,?_,ht.at_.same (k.block M1 l1 n2),ht.ln.same (k.block M2 l2 n3)⟩,?_⟩
 ·exact(World.cell?_of_block (a:=⟨hp,0,none⟩) s0).trans ht.c0
 ·exact(World.cell?_of_block (a:=⟨hp,1,none⟩) s0).trans ht.c1
 ·exact(World.cell?_of_block (a:=⟨hp,2,none⟩) s0).trans ht.c2
 ·intro s v hv;obtain⟨x,A',c',h1,h2,h3,h4⟩:=hm s v hv;exact⟨x,A',c',h1,h2,h3,(h4.lt.keep (hk.mono fun b g=>g.1)).mono up⟩
theorem TreeInv.fewer{hp M1 M2:Nat}{A:Option Addr}{c:Nat}{g:List Heir}{B B':Nat→Prop}{w:World}(h:TreeInv hp M1 M2 A c g B w)(hb:∀b,B' b→B b):TreeInv hp M1 M2 A c g B' w:=by
 obtain⟨⟨n1,n2,n3,n4,n5⟩,hg,lines,ht,hm⟩:=h;exact⟨⟨fun q=>n1 (hb _ q),fun q=>n2 (hb _ q),fun q=>n3 (hb _ q),n4,n5⟩,hg.mono fun b _ hh=>⟨fun q=>hh.1 (hb _ q),hh.2⟩,lines,ht,hm.mono fun b _ hh=>⟨fun q=>hh.1 (hb _ q),hh.2⟩⟩
theorem TreeInv.all{hp M1 M2:Nat}{A:Option Addr}{c:Nat}{g:List Heir}{B:Nat→Prop}{w w':World}(h:TreeInv hp M1 M2 A c g B w)(k:Below w.heap.size w w'):TreeInv hp M1 M2 A c g B w':=by
 obtain⟨hn,hg,lines,ht,hm⟩:=h;have hk:∀G:Nat→Prop,Keep G w w':=fun G=>Keep.all k;exact⟨hn,hg.keep (hk _),lines,⟨zaa ht.c0 k,zaa ht.c1 k,zaa ht.c2 k,ht.at_.keep (hk (fun _=>True)) trivial,ht.ln.keep (hk (fun _=>True)) trivial⟩,hm.keep (hk _)⟩
def z1z(T:Nat)(ch:List PanicEntry):Prop:=∃j:Int,ch=[{ v:=.iface T (.agg #[.int .i64 j]),recovered:=false }]
def zku(T hp M1 M2:Nat)(A:Option Addr)(c:Nat)(g:List Heir)(B:Nat→Prop)(i:Nat)(w:World)(e:Ending)(w':World):Prop:=
 Chg (fun b=>b=M2) w w'∧
 ((∃x A' c',line g i=some x∧e=.returned (.slice A' x.length c')∧x.length≤c'∧Held (fun b=>¬B b∧b≠M2) (Strs A' x) w'∧TreeInv hp M1 M2 A c g B w')∨
  (line g i=none∧∃ch,e=.panicked ch∧z1z T ch))
def zck(l:List CI)(s:ByteArray):Option Nat:=zbi (l.map (·.name)) s
def zf3(l:List CI)(s:ByteArray):Bool:=match zck l s with
 |some i=>(l[i]?.map CI.abs).getD false
 |none=>(l[0]?.map CI.abs).getD false
def zb9(l:List CI)(s:ByteArray):List ByteArray:=(l.filter fun x=>hasS x.supers s).map (·.name)
def zhh(l:List CI)(i:Nat):Bool:=(l[i]?.map CI.seal_).getD false
def zvf(l:List CI):Nat→ByteArray→Bool
 |0,_=>false
 |n+1,s=>match zck l s with
  |none=>false
  |some i=>zhh l i&&(zb9 l s).all (zvf l n)
def zdk(l:List CI)(s:ByteArray):Bool:=zvf l l.length s
def vdN(l:List CI):Nat→ByteArray→Bool
 |0,_=>false
 |n+1,s=>zdk l s&&zf3 l s&&(zb9 l s).all (vdN l n)
def vdB(l:List CI)(s:ByteArray):Bool:=vdN l l.length s
def z09(P:Program)(l:Nat)(Bo:Nat→Prop)(M2:Nat)(J:List (List ByteArray)→(Nat→Prop)→World→Prop):Prop:=
 ∀(n:Nat) pre Bi y A c W,J pre Bi W→y.length≤c→y.length≤1000000→pre.length≤1000→Held (fun b=>¬(Bi b∨Bo b)∧b≠M2) (Strs A y) W→
  YieldAt Fence.wide n P l #[.slice A y.length c] W fun e W'=>e=.returned (.bool true)∧∃Bi',J (pre++[y]) Bi' W'∧Chg Bi W W'∧∀b,Bi' b→b<W'.heap.size∧(Bi b∨W.heap.size≤b)
def z0j(T hp M1 M2:Nat)(A:Option Addr)(c:Nat)(g:List Heir)(x:Heir)(Bo:Nat→Prop)(N:Nat)(J:List (List ByteArray)→(Nat→Prop)→World→Prop)(W0:World)(e:Ending)(W':World):Prop:=
 Chg (fun b=>b=M2∨N≤b) W0 W'∧
 ((∃xs Bi,zbq (zcn g) x.supers=some xs∧(∃v,e=.returned v)∧J (xs++[x.supers]) Bi W'∧TreeInv hp M1 M2 A c g (fun b=>Bi b∨Bo b) W')∨
  (zbq (zcn g) x.supers=none∧∃ch,e=.panicked ch∧z1z T ch∧∃pre Bi,J pre Bi W'))
theorem zrx(hp M1 M2:Nat)(A:Option Addr)(c:Nat)(g:List Heir)(hck:za3 g=0)(i:Nat)(x:Heir)(hx:g[i]? =some x)(tb ib:Nat)(Bo:Nat→Prop)(N:Nat)
  (HL:∀j,j<i→∀B W,(∀b,B b→b<W.heap.size)→TreeInv hp M1 M2 A c g B W→Calls Tryz.prog 169 #[.pointer (some ⟨hp,0,none⟩),.int .i64 (j:Int)] W (zku 229 hp M1 M2 A c g B j W))
  (l:Nat) (J:List (List ByteArray)→(Nat→Prop)→World→Prop) (hJs:∀pre Bi W W',J pre Bi W→Chg (fun b=>b=M2) W W'→J pre Bi W') (hY:z09 Tryz.prog l Bo M2 J)
  (Bi0:Nat→Prop) (W0:World) (h0:J [] Bi0 W0) (hT:TreeInv hp M1 M2 A c g (fun b=>Bi0 b∨Bo b) W0) (hN:∀b,Bi0 b→N≤b∧b<W0.heap.size) (hN2:N≤W0.heap.size) (hBo:∀b,Bo b→b<N)
  (hG:Held (fun b=>b<N∧b≠M2) (Heirs A g) W0)
  (htb:W0.cell? ⟨tb,0,none⟩=some (.pointer (some ⟨hp,0,none⟩))) (hib:W0.cell? ⟨ib,0,none⟩=some (.int .i64 (i:Int))) (htn:tb<N∧ib<N∧tb≠M2∧ib≠M2):
  Calls Tryz.prog 218 #[.func (.yield l) #[] #[],.pointer (some ⟨tb,0,none⟩),.pointer (some ⟨ib,0,none⟩)] W0 (z0j 229 hp M1 M2 A c g x Bo N J W0):=by
 have hok:=(zaz hck).2;have hi:i<g.length:=(Qcz hx).1;have HX:=Qaz hx;have HOK:=Qaz hok;have hxs:x.supers.length≤8:=by
  have:=zd3 hok i x hx;unfold zdu at this;simp only[Bool.and_eq_true,decide_eq_true_eq]at this;exact this.1.2
 have hgl:=(zaz hck).1;obtain⟨b,off,rfl⟩:=Slc.addrH hG (by omega);obtain⟨A2,c2,r2,R2,g1,g2⟩:=Heirs.atH hG hx;obtain⟨lines,tr,mm⟩:=hT.tr;have c0:=tr.c0;have hbl:=cell_lt g1;clear hx hok hck;go_enter Tryz.func218,Tryz.ntmps218;go_wp2
 go_quiet (fail)
 go_wp2;clear c0 tr mm lines
 go_loopw [15] (fun i wr=>∃k:Nat,k≤x.supers.length∧i=.int .i64 k∧∃pre Bi,J pre Bi wr∧TreeInv hp M1 M2 (some ⟨b,off,none⟩) c g (fun b=>Bi b∨Bo b) wr∧zbq (zcn g) (x.supers.take k)=some pre∧(∀b,Bi b→N≤b∧b<wr.heap.size)∧Chg (fun b=>b=M2∨N≤b) W0 wr) (fun i _=>x.supers.length-(intOf i).toNat)
 case atStart=>exact⟨0,Qjz _,rfl,[],Bi0,hJs _ _ _ _ h0 (Chg.drewN _ _),hT.all (zad _ _ _),rfl,hN,Chg.drewN _ _⟩
 case round=>
  clear h0 hT hN;obtain⟨k,hk,rfl,pre,Bi,hJ,hT,hpre,hBi,hch⟩:=hrel;have kp:Keep (fun b=>b<N∧b≠M2) W0 wr:=hch.keep fun b hb hh=>by rcases hh with hh|hh;exact hb.2 hh;omega
  have htb':=zah htb kp ⟨htn.1,htn.2.2.1⟩;have hib':=zah hib kp ⟨htn.2.1,htn.2.2.2⟩;have R3:=R2.keep kp;have g2':=zah g2 kp (Slc.inG hG (by omega) (by decide)).2;obtain⟨lines,tr,mm⟩:=hT.tr;have c0:=tr.c0;have c1:=tr.c1;have HPRE:=Qaz hpre;clear hpre;by_cases hlt:k<x.supers.length
  ·have HS:=Qaz (getElem?_lt hlt);obtain⟨j,hj,hla⟩:=ze4 HOK.out HX.out (List.getElem_mem hlt);generalize x.supers[k]=s at*;obtain⟨b2,o2,rfl⟩:=Slc.addrH R3 (by omega);have g3:=(Strs.atH R3 HS.out).now;have hlk1:(Instr.lookup 140 (.map (some M1)) (.string s) false).run Tryz.prog wr.drew=.ok (.int .i64 (j:Int)) wr.drew:=by
    have:=zqa (w:=wr.drew) (tr.at_.keep (Keep.drew (fun _=>True) _) trivial) s false;rw[show zbi (g.map (·.name)) s=some j from hla]at this;exact this
   have HLA:=Qaz hla;have HL1:=Qaz (HL j hj (fun b=>Bi b∨Bo b) wr.drew (fun b hb=>by rcases hb with hb|hb;exact(hBi b hb).2;have:=hBo b hb;have:=hch.size;show b<wr.heap.size;omega) (hT.all ((Below.refl _ wr).drew)));clear hla tr mm lines;go_wp2;refine(wpIn_wide (n:=9)).1 ?_;have HNone:line g j=none→zbq (zcn g) x.supers=none:=fun hh=>zfm HS.out (by unfold zcn;rw[HLA.out];exact hh);have HSome:∀y,line g j=some y→zbq (zcn g) (x.supers.take (k+1))=some (pre++[y]):=fun y hh=>by
    rw[take_snoc HS.out,zgq,HPRE.out];show(some pre).bind _=_;have:zcn g s=some y:=by unfold zcn;rw[HLA.out];exact hh
    rw[this];rfl
   have HN1:=Qaz HNone;have HS1:=Qaz HSome;have HpreL:=Qaz (zdd HPRE.out).1;have HLL:=Qaz (fun y hh=>zbr HOK.out (i:=j) (l:=y) hh);clear HNone HSome
   gi_region_with (first
    |(refine⟨trivial,?_⟩;gi_at_call 169;refine(callsIn_wide.2 HL1.out).mono ?_;rintro e W1 ⟨hch1,(⟨y,A3,c3,q1,rfl,q2,q3,q4⟩|⟨q1,ch,rfl,q2⟩)⟩;rotate_left;(exact⟨rfl,(hch.trans (Chg.drew _)).trans (hch1.mono fun b _ hb=>.inl hb),.inr ⟨HN1.out q1,ch,rfl,q2,pre,Bi,hJs _ _ _ _ hJ ((Chg.drew _).trans hch1)⟩⟩);obtain⟨fn,tm,asg,bd,hy,hR⟩:=hY 8 pre Bi y A3 c3 W1 (hJs _ _ _ _ hJ ((Chg.drew _).trans hch1)) q2 (by have:=HLL.out y q1;omega) (by have:=HpreL.out;rw[List.length_take]at this;omega) q3)
    |(refine hR.mono ?_;rintro e W2 ⟨rfl,Bi2,hJ2,hch2,hB2⟩))
   all_goals go_wp2
   all_goals
    have s1:=hch.size;have s2:=hch1.size;have s3:wr.drew.heap.size=wr.heap.size:=rfl;refine⟨⟨k+1,by omega,by go_num,pre++[y],Bi2,hJ2,?_,HS1.out y q1,fun b hb=>⟨?_,(hB2 b hb).1⟩,((hch.trans (Chg.drew _)).trans (hch1.mono fun b _ hb=>.inl hb)).trans (hch2.mono fun b _ hb=>.inr (hBi b hb).1)⟩,by simp[intOf];omega⟩
    ·refine q4.others (hch2.mono fun b _ hb=>.inl hb) fun b _ hb=> ?_;rcases hb with hb|hb
     ·rcases(hB2 b hb).2 with h|h
      ·exact .inl (.inl h)
      ·exact .inr h
     ·exact .inl (.inr hb)
    ·rcases(hB2 b hb).2 with h|h
     ·exact(hBi b h).1
     ·omega
  ·obtain rfl:k=x.supers.length:=by omega
   rw[List.take_length]at HPRE;have HpreL:=Qaz (zdd HPRE.out).1;have hGR:Held (fun b=>¬(Bi b∨Bo b)∧b≠M2) (Strs A2 x.supers) wr.drew:=by
    obtain⟨A3,c3,_,R4,_,g5⟩:=Heirs.atH hT.gs HX.out;rw[g2']at g5;simp only[Option.some.injEq,Value.slice.injEq,true_and]at g5;obtain⟨rfl,_⟩:=g5;exact R4.keep (Keep.drew _ _)
   have HCl:=Qaz (zc6 A2 c2 x.supers (fun b=>¬(Bi b∨Bo b)∧b≠M2) wr.drew hGR (by omega));have hbl2:b<wr.heap.size:=cell_lt g2';have HM2:=Qaz tr.ln.lt;clear tr mm lines;go_wp2;refine(wpIn_wide (n:=9)).1 ?_
   gi_region_with (first
    |(refine⟨trivial,?_⟩;gi_at_call 119;refine(callsIn_wide.2 HCl.out).mono ?_;rintro e W1 ⟨v,rfl,hown,hb1⟩;obtain⟨A3,c3,rfl,q2,q3⟩:=hown.out;have q4:Held (fun b=>¬(Bi b∨Bo b)∧b≠M2) (Strs A3 x.supers) W1:=(by
     have hs0:wr.drew.heap.size=wr.heap.size:=rfl;refine q3.mono fun b' hb' hh=>⟨fun q=> ?_,fun q=> ?_⟩
     ·rcases hh with hh|hh
      ·exact hh.1 q
      ·have h1:wr.drew.heap.size≤b':=(hown.lt b' hh).1;rcases q with q|q
       ·have:=(hBi b' q).2;omega
       ·have:=hBo b' q;have:=hch.size;omega
     ·rcases hh with hh|hh
      ·exact hh.2 q
      ·have h1:wr.drew.heap.size≤b':=(hown.lt b' hh).1;have:=HM2.out;omega);obtain⟨fn,tm,asg,bd,hy,hR⟩:=hY 8 pre Bi x.supers A3 c3 W1 (hJs _ _ _ _ hJ ((Chg.drew _).trans (Chg.of hb1))) q2 (by omega) (by have:=HpreL.out;omega) q4)
    |(refine hR.mono ?_;rintro e W2 ⟨rfl,Bi2,hJ2,hch2,hB2⟩))
   all_goals go_wp2
   all_goals
    go_end0
    have s1:=hch.size;have s2:=hb1.size;have s3:wr.drew.heap.size=wr.heap.size:=rfl;have cb1:∀B:Nat→Prop,Chg B wr W1:=fun B=>(Chg.drew _).trans (Chg.of hb1);refine⟨(hch.trans (cb1 _)).trans (hch2.mono fun b _ hb=>.inr (hBi b hb).1),.inl ⟨pre,Bi2,HPRE.out,⟨_,rfl⟩,hJ2,?_⟩⟩;refine((hT.all ((Below.refl _ wr).drew)).all hb1).others (hch2.mono fun b _ hb=>.inl hb) fun b _ hb=> ?_;rcases hb with hb|hb
    ·rcases(hB2 b hb).2 with h|h
     ·exact .inl (.inl h)
     ·exact .inr h
    ·exact .inl (.inr hb)
structure HierAt (hp M1:Nat) (A:Option Addr) (c:Nat) (l:List CI) (k:Nat) (w:World):Prop where
 c0:w.cell? ⟨hp,0,none⟩=some (.slice A l.length c)
 c1:w.cell? ⟨hp,1,none⟩=some (.map (some M1))
 at_:MapF zbn M1 (zgt ((l.take k).map (·.name))) w
 c2:w.cell? ⟨hp,2,none⟩=some (.map (some (M1+1)))
 c3:w.cell? ⟨hp,3,none⟩=some (.map (some (M1+1+1)))
 m2:∃f,MapF zbn (M1+1) f w∧∀s v,f s=some v→v=.bool (zdk l s)
 m3:∃f,MapF zbn (M1+1+1) f w∧∀s v,f s=some v→v=.bool (vdB l s)
 hpe:hp=M1+1+1+1
theorem HierAt.keep{hp M1:Nat}{A:Option Addr}{c:Nat}{l:List CI}{k:Nat}{w w':World}(h:HierAt hp M1 A c l k w)(q:Below w.heap.size w w'):HierAt hp M1 A c l k w':=
 ⟨zaa h.c0 q,zaa h.c1 q,h.at_.keep (Keep.all q (G:=fun _=>True)) trivial,zaa h.c2 q,zaa h.c3 q,h.m2.imp fun f hf=>⟨hf.1.keep (Keep.all q (G:=fun _=>True)) trivial,hf.2⟩,h.m3.imp fun f hf=>⟨hf.1.keep (Keep.all q (G:=fun _=>True)) trivial,hf.2⟩,h.hpe⟩
def zdt(l:List CI)(k:Nat)(x:CI)(s:ByteArray):Bool:=
 match zbi ((l.take k).map (·.name)) s with
 |none=>true
 |some i=>(decide (1≤i)&&decide (i≤4))||(match l[i]? with|some y=>y.seal_&& !decide (y.lib=x.lib)|none=>false)
def zhe(l:List CI)(k:Nat)(x:CI):Bool:= !(x.supers.any (zdt l k x))
theorem zjh(hp M1:Nat)(A:Option Addr)(c:Nat)(l:List CI)(k:Nat)(hk:k≤l.length)(hl:l.length≤1000000)(x:CI)(s:ByteArray)(b1 b2:Nat)(w:World)(H:HierAt hp M1 A c l k w)(G:Nat→Prop)(hA:Held G (CIs A l) w)
  (h1:w.cell? ⟨b1,0,none⟩=some (.pointer (some ⟨hp,0,none⟩))) (h2:w.cell? ⟨b2,1,none⟩=some (.string x.lib)):
  Calls Tryz.prog 158 #[.string s,.pointer (some ⟨b1,0,none⟩),.pointer (some ⟨b2,0,none⟩)] w fun e w'=>e=.returned (.bool (zdt l k x s))∧Drw w w':=by
 have hlk:=zqa H.at_ s true;have c0:=H.c0;have c1:=H.c1;clear H;cases hla:zbi ((l.take k).map (·.name)) s with
 |none=>
  rw[hla]at hlk;have hlk1:(Instr.lookup 140 (.map (some M1)) (.string s) true).run Tryz.prog w=.ok (.tuple #[.int .i64 0,.bool false]) w:=hlk;clear hlk;have HB:Hid (zdt l k x s=true):=Qaz (by unfold zdt;rw[hla]);clear hla;go_enter Tryz.func158,Tryz.ntmps158;go_wp2
  go_quiet (fail)
  go_wp2;go_ret;exact⟨by rw[HB.out];rfl,Drw.of _ _⟩
 |some i=>
  rw[hla]at hlk;have hlk1:(Instr.lookup 140 (.map (some M1)) (.string s) true).run Tryz.prog w=.ok (.tuple #[.int .i64 (i:Int),.bool true]) w:=hlk;clear hlk;have hi:i<l.length:=by
   have:=(Qcz (zci hla)).1;simp at this;omega
  have hy:l[i]? =some l[i]:=Qbz hi;generalize l[i]=y at hy;obtain⟨b,off,rfl⟩:=Slc.addrH hA (by omega);obtain⟨A2,c2,A3,c3,p1,p2,p3,p4,g0,g1,g2,g3,g4,g5⟩:=CIs.atH hA hy;have HB:Hid (zdt l k x s=((decide (1≤i)&&decide (i≤4))||(y.seal_&& !decide (y.lib=x.lib)))):=Qaz (by unfold zdt;rw[hla];simp only[hy]);clear hla hy hA;by_cases q1:1≤i
  ·have t1:decide ((1:Int)≤(i:Int))=true:=Qhz (by omega);by_cases q2:i≤4
   ·have t2:decide ((i:Int)≤4)=true:=Qhz (by omega);have HB2:Hid (zdt l k x s=true):=Qaz (by rw[HB.out];simp[q1,q2]);clear HB;go_enter Tryz.func158,Tryz.ntmps158;go_wp2
    go_quiet (fail)
    go_wp2;go_ret;exact⟨by rw[HB2.out];rfl,Drw.of _ _⟩
   ·have t2:decide ((i:Int)≤4)=false:=Qgz (by omega);cases hs:y.seal_ with
    |false=>
     rw[hs]at g5;have HB2:Hid (zdt l k x s=false):=Qaz (by rw[HB.out,hs];simp[q2]);clear HB hs;go_enter Tryz.func158,Tryz.ntmps158;go_wp2
     go_quiet (fail)
     go_wp2;go_ret;exact⟨by rw[HB2.out];rfl,Drw.of _ _⟩
    |true=>
     rw[hs]at g5;have HB2:Hid (zdt l k x s= !decide (y.lib=x.lib)):=Qaz (by rw[HB.out,hs];simp[q2]);clear HB hs;go_enter Tryz.func158,Tryz.ntmps158;go_wp2
     go_quiet (fail)
     go_wp2;go_ret;exact⟨by rw[HB2.out];rfl,Drw.of _ _⟩
  ·have t1:decide ((1:Int)≤(i:Int))=false:=Qgz (by omega);cases hs:y.seal_ with
   |false=>
    rw[hs]at g5;have HB2:Hid (zdt l k x s=false):=Qaz (by rw[HB.out,hs];simp[q1]);clear HB hs;go_enter Tryz.func158,Tryz.ntmps158;go_wp2
    go_quiet (fail)
    go_wp2;go_ret;exact⟨by rw[HB2.out];rfl,Drw.of _ _⟩
   |true=>
    rw[hs]at g5;have HB2:Hid (zdt l k x s= !decide (y.lib=x.lib)):=Qaz (by rw[HB.out,hs];simp[q1]);clear HB hs;go_enter Tryz.func158,Tryz.ntmps158;go_wp2
    go_quiet (fail)
    go_wp2;go_ret;exact⟨by rw[HB2.out];rfl,Drw.of _ _⟩
theorem zke(hp M1:Nat)(A:Option Addr)(c:Nat)(l:List CI)(k:Nat)(hk:k≤l.length)(hl:l.length≤1000000)(x:CI)(A2 A3:Option Addr)(c2 c3:Nat)(w:World)(H:HierAt hp M1 A c l k w)(G:Nat→Prop)(hA:Held G (CIs A l) w)
  (G2:Nat→Prop) (hS:Held G2 (Strs A2 x.supers) w) (hs:x.supers.length≤1000000):
  Calls Tryz.prog 106 #[.pointer (some ⟨hp,0,none⟩),.agg #[.string x.name,.string x.lib,.slice A2 x.supers.length c2,.slice A3 x.cpl.length c3,.bool x.abs,.bool x.seal_]] w fun e w'=>e=.returned (.bool (zhe l k x))∧Below w.heap.size w w':=by
 obtain⟨W1,hW1⟩:∃W1,W1=(w.alloc (.cells #[.pointer (some ⟨hp,0,none⟩)] 98)).alloc (.cells #[.string x.name,.string x.lib,.slice A2 x.supers.length c2,.slice A3 x.cpl.length c3,.bool x.abs,.bool x.seal_] 110):=⟨_,rfl⟩;have hb:Below w.heap.size w W1:=by rw[hW1];exact((Below.refl _ w).alloc (Qiz _) _).alloc (by simp) _
 have x1:W1.cell? ⟨w.heap.size,0,none⟩=some (.pointer (some ⟨hp,0,none⟩)):=by rw[hW1];exact zaa (zac w _ _ _ rfl 0 _ rfl) ((Below.refl _ _).alloc (Qiz _) _)
 have x2:W1.cell? ⟨w.heap.size+1,1,none⟩=some (.string x.lib):=by rw[hW1];exact zac (w.alloc _) _ _ _ (by simp) 1 _ rfl
 have S1:=hS.keep (Keep.all hb);have L1:=hA.keep (Keep.all hb);have H1:=H.keep hb;have HC:Hid (Calls Tryz.prog 155 #[.slice A2 x.supers.length c2,.func (.func 158) #[] #[.pointer (some ⟨w.heap.size,0,none⟩),.pointer (some ⟨w.heap.size+1,0,none⟩)]] W1
   (zlz (fun i wr=>Drw W1 wr∧∀j s,j<i→x.supers[j]? =some s→zdt l k x s=false) (fun i wr=>Drw W1 wr∧∃s,x.supers[i]? =some s∧zdt l k x s=true) (Panics fun _ _=>False) x.supers.length)):=Qaz (by
  refine zgg A2 x.supers.length c2 158 _ (fun i=>.string (x.supers.getD i ⟨#[]⟩)) W1 (by omega) (enters Tryz.func158 (by kernel_rfl) rfl) _ _ _ ⟨Drw.refl _,fun j s hj=>absurd hj (by omega)⟩ (fun h0=>Slc.addrH hS h0) ?_ ?_
  ·rintro i wr b off rfl hi ⟨hd,_⟩;have hx:=Qbz hi;have:=(Strs.atH (S1.keep (Keep.all (hd.below _))) hx).now;simp only[List.getD_eq_getElem?_getD,hx,Option.getD_some];exact this
  ·rintro i wr hi ⟨hd,hj⟩;have hx:=Qbz hi;simp only[List.getD_eq_getElem?_getD,hx,Option.getD_some];have hbd:=hd.below W1.heap.size;refine(zjh hp M1 A c l k hk hl x (x.supers[i]) w.heap.size (w.heap.size+1) wr (H1.keep hbd) G (L1.keep (Keep.all hbd)) (zaa x1 hbd) (zaa x2 hbd)).mono ?_;rintro e w' ⟨rfl,hd2⟩;have hd3:Drw W1 w':=by obtain⟨n,rfl⟩:=hd2;exact hd.drewN n
   cases hq:zdt l k x x.supers[i]with
   |false=>exact .inl ⟨rfl,hd3,fun j s hj' hs=>by
     rcases Nat.lt_or_ge j i with h|h
     ·exact hj j s h hs
     ·obtain rfl:j=i:=by omega
      rw[hx]at hs;cases hs;exact hq⟩
   |true=>exact .inr (.inl ⟨rfl,hd3,_,hx,hq⟩))
 clear H H1 hA L1 hS S1;go_enter Tryz.func106,Tryz.ntmps106;go_wp2_with (fail);rw[←hW1];refine HC.out.mono ?_;rintro e w' (⟨rfl,hd,hj⟩|⟨i,hi,rfl,hd,s,hx,hq⟩|⟨_,_,h⟩)
 ·go_wp2;go_ret;refine⟨?_,hb.trans ((hd.below _).mono hb.size)⟩;have:x.supers.any (zdt l k x)=false:=by
   rw[List.any_eq_false];intro s hs;obtain⟨j,hj'⟩:=Qez hs;rw[hj j s (Qcz hj').1 hj'];simp
  unfold zhe;rw[this];rfl
 ·go_wp2;go_ret;refine⟨?_,hb.trans ((hd.below _).mono hb.size)⟩;have:x.supers.any (zdt l k x)=true:=List.any_eq_true.2 ⟨s,Qdz hx,hq⟩;unfold zhe;rw[this];rfl
 ·exact h.elim
end Go.Proofs.YtepnmejahbiacaaGreat
