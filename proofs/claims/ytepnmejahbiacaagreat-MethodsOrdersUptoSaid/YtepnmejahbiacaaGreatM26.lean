/- Part 26 of the proof: Rd. -/
import Derived.Test.YtepnmejahbiacaaGreatRows
import Derived.Test.YtepnmejahbiacaaGreatM13
import Derived.ProofKit
import Derived.OpenShut
import Derived.Deep.Strs
set_option linter.unusedVariables false
set_option linter.unusedSimpArgs false
set_option maxHeartbeats 64000000
set_option maxRecDepth 100000
namespace Go.Proofs.YtepnmejahbiacaaGreat
open Go.RowKit
section
open Go.ChangeShapes Go.WideShapes Go.Deep
theorem zpl{H:Type}(d:DataW H):1≤Rows.uptoBulk d:=by
 cases d with
 |lit l=>cases l<;>simp[Rows.uptoBulk]
 |nil=>simp[Rows.uptoBulk]
 |ptr d=>simp[Rows.uptoBulk]
 |slice elems spare=>simp[Rows.uptoBulk]
 |agg parts=>simp[Rows.uptoBulk]
 |iface t d=>simp[Rows.uptoBulk]
 |map entries=>simp[Rows.uptoBulk]
 |held h=>simp[Rows.uptoBulk]
theorem zkt{H:Type}{k:Nat}:∀(l:List (DataW H)),(∀d∈l,k≤Rows.uptoBulk d)→k*l.length≤Rows.uptoBulkAll l
 | [],_=>by simp[Rows.uptoBulkAll]
 |d::l,h=>by
  have h1:=h d (by simp);have h2:=zkt l fun x hx=>h x (List.mem_cons_of_mem _ hx);simp only[Rows.uptoBulkAll,List.length_cons];rw[Nat.mul_add];omega
theorem zeo:Tryz.prog.cellsOf 9=1:=by kernel_rfl
theorem zn0:Tryz.prog.cellsOf 108=1:=by kernel_rfl
theorem znn:Tryz.prog.cellsOf 4=1:=by kernel_rfl
theorem zes:Tryz.prog.cellsOf 3=1:=by kernel_rfl
theorem zur:Tryz.prog.cellsOf 110=6:=by kernel_rfl
theorem zp9:Tryz.prog.cellsOf 39=3:=by kernel_rfl
theorem zyi:∃fs,Tryz.prog.underlying 110=some (.struct fs)∧(fs.map fun f=>(f.type,f.offset))= #[(9,0),(9,1),(108,2),(108,3),(4,4),(4,5)]:=by
 have h:(match Tryz.prog.underlying 110 with|some (.struct fs)=>decide ((fs.map fun f=>(f.type,f.offset))= #[(9,0),(9,1),(108,2),(108,3),(4,4),(4,5)])|_=>false)=true:=by kernel_rfl
 split at h
 ·rename_i fs e;exact⟨fs,e,of_decide_eq_true h⟩
 ·cases h
theorem zno:∃fs,Tryz.prog.underlying 39=some (.struct fs)∧(fs.map fun f=>(f.type,f.offset))= #[(3,0),(3,1),(9,2)]:=by
 have h:(match Tryz.prog.underlying 39 with|some (.struct fs)=>decide ((fs.map fun f=>(f.type,f.offset))= #[(3,0),(3,1),(9,2)])|_=>false)=true:=by kernel_rfl
 split at h
 ·rename_i fs e;exact⟨fs,e,of_decide_eq_true h⟩
 ·cases h
theorem zd2{H:Type}{enc:TypeId×Value→H}{W:World}{sp:Nat→Bool}{n:Nat}{t:TypeId}{cs:List Value}{x:DataW H×List MemPlace}{L:Array (TypeId×Nat)}
  (hs:∃fs,Tryz.prog.underlying t=some (.struct fs)∧(fs.map fun f=>(f.type,f.offset))=L) (h:DataW.trod enc Tryz.prog W 0 sp true n t cs=some x):
  ∃(xs:List (DataW H×List MemPlace))(m:Nat),x=(.agg (xs.map (·.1)),xs.flatMap (·.2))∧cs.length=Tryz.prog.cellsOf t∧xs.length=L.size∧∀(i:Nat)(T:TypeId)(o k:Nat),L[i]? =some (T,o)→Tryz.prog.cellsOf T=k→∃y,xs[i]? =some y∧DataW.trod enc Tryz.prog W 0 sp true m T ((cs.drop o).take k)=some y:=by
 obtain⟨fs,h1,rfl⟩:=hs;obtain⟨xs,m,_,h2,h3,h4,h5⟩:=DataW.trod_struct h1 h;refine⟨xs,m,h2,h3,by simpa using h4,fun i T o k hp hk=> ?_⟩;rw[Array.getElem?_map]at hp;obtain⟨f,hf,e⟩:=Option.map_eq_some_iff.1 hp;obtain⟨rfl,rfl⟩:=Prod.mk.inj e;subst hk;have hi:i<xs.length:=by rw[h4];exact(Array.getElem?_eq_some_iff.1 hf).1
 exact⟨xs[i],Qbz hi,by rw[h5 i f hf,Qbz hi]⟩
theorem zq3{H:Type}{enc:TypeId×Value→H}{W:World}{sp:Nat→Bool}{n:Nat}{cs:List Value}{x:DataW H×List MemPlace}(h:DataW.trod enc Tryz.prog W 0 sp true n 108 cs=some x):
  ∃(A:Option Addr)(l:List ByteArray)(c:Nat),cs=[.slice A l.length c]∧l.length≤c∧c≤maxLen∧Strs A l W:=by
 rcases open_strs Tryz.underlying108 Tryz.underlying9 zeo h with⟨rfl,_⟩|⟨a,len,cap,m,Sx,rfl,_,hl,hm,hmm,_,hc⟩
 ·exact⟨none,[],0,rfl,Qiz _,Qjz _,Slc.nil _ _ _ _⟩
 ·have hlm:len≤m:=by rw[hmm];split<;>omega
  refine⟨some a,(List.range len).map Sx,cap,by simp,by simpa using hl,hm,fun i x hx=> ?_⟩;have hi:i<len:=by have:=(Qcz hx).1;simpa using this
  rw[List.getElem?_map,List.getElem?_range hi]at hx;cases hx;obtain⟨h1,_⟩:=hc i (by omega);have h0:=(hc 0 (by omega)).1;obtain⟨b,off,spot⟩:=a;have hspot:spot=none:=by simpa[Addr.add]using World.cell?_spot h0
  subst hspot;refine⟨b,off,[.string (Sx i)],rfl,rfl,rfl,fun j v hv=> ?_⟩
  match j,hv with
  |0,hv=>
   cases hv;rw[add_plain]at h1
   simpa using h1
theorem z1k{H:Type}{enc:TypeId×Value→H}{W:World}{sp:Nat→Bool}{n:Nat}{cs:List Value}{x:DataW H×List MemPlace}(h:DataW.trod enc Tryz.prog W 0 sp true n 110 cs=some x):
  cs.length=6∧∃y:CI,ciR y cs W∧zdo y∧7≤Rows.uptoBulk x.1:=by
 obtain⟨xs,m,rfl,hl,hx,hf⟩:=zd2 zyi h;rw[zur]at hl;obtain⟨y0,e0,f0⟩:=hf 0 9 0 1 rfl zeo;obtain⟨y1,e1,f1⟩:=hf 1 9 1 1 rfl zeo;obtain⟨y2,e2,f2⟩:=hf 2 108 2 1 rfl zn0;obtain⟨y3,e3,f3⟩:=hf 3 108 3 1 rfl zn0;obtain⟨y4,e4,f4⟩:=hf 4 4 4 1 rfl znn;obtain⟨y5,e5,f5⟩:=hf 5 4 5 1 rfl znn
 match cs,hl with
 | [v0,v1,v2,v3,v4,v5],_=>
  obtain⟨s0,q0,_,_⟩:=DataW.trod_string Tryz.underlying9 f0;obtain⟨s1,q1,_,_⟩:=DataW.trod_string Tryz.underlying9 f1;obtain⟨A2,l2,c2,q2,r2,r2m,s2⟩:=zq3 f2;obtain⟨A3,l3,c3,q3,r3,r3m,s3⟩:=zq3 f3;obtain⟨b4,q4,_⟩:=DataW.trod_bool Tryz.underlying4 f4;obtain⟨b5,q5,_⟩:=DataW.trod_bool Tryz.underlying4 f5;simp at q0 q1 q2 q3 q4 q5;subst q0 q1 q2 q3 q4 q5;refine⟨rfl,⟨s0,s1,l2,l3,b4,b5⟩,⟨A2,c2,A3,c3,rfl,r2,r3,s2,s3⟩,⟨?_,?_⟩,?_⟩
  ·show l2.length≤_;simp only[maxLen]at r2m;omega
  ·show l3.length≤_;simp only[maxLen]at r3m;omega
  ·have:=zkt (k:=1) (xs.map (·.1)) fun d _=>zpl d;rw[List.length_map,hx]at this;simp only[Rows.uptoBulk];simp at this;omega
instance:Inhabited CI:=⟨⟨⟨#[]⟩,⟨#[]⟩,[],[],false,false⟩⟩
theorem zy4{H:Type}{enc:TypeId×Value→H}{W:World}{sp:Nat→Bool}{n:Nat}{cs:List Value}{x:DataW H×List MemPlace}(h:DataW.trod enc Tryz.prog W 0 sp true n 22 cs=some x):
  ∃(A:Option Addr)(l:List CI)(c:Nat),cs=[.slice A l.length c]∧l.length≤c∧CIs A l W∧(∀y∈l,zdo y)∧7*l.length≤Rows.uptoBulk x.1:=by
 rcases open_slice Tryz.underlying22 h with⟨rfl,rfl⟩|⟨a,len,cap,m,n',D,Pl,rfl,_,hl,hm,hmm,rfl,hx⟩
 ·exact⟨none,[],0,rfl,Qiz _,Slc.nil _ _ _ _,by simp,by simp⟩
 ·have hlm:len≤m:=by rw[hmm];split<;>omega
  rw[zur]at hx;obtain⟨Y,hY⟩:=choose_lt (α:=CI) (n:=len) (p:=fun i y=>∃cs',W.cells? 0 (a.add (i*6)) 6=some cs'∧cs'.length=6∧ciR y cs' W∧zdo y∧7≤Rows.uptoBulk (D i)) (fun i hi=>by
   obtain⟨cs',h1,h2⟩:=hx i (by omega);obtain⟨h3,y,h4,h5,h6⟩:=z1k h2;exact⟨y,cs',h1,h3,h4,h5,h6⟩)
  refine⟨some a,(List.range len).map Y,cap,by simp,by simpa using hl,fun i y hy=> ?_,fun y hy=> ?_,?_⟩
  ·have hi:i<len:=by have:=(Qcz hy).1;simpa using this
   rw[List.getElem?_map,List.getElem?_range hi]at hy;cases hy;obtain⟨cs',h1,h2,h3,_⟩:=hY i hi;obtain⟨_,_,hc⟩:=World.cells?_some h1;have hsp:a.spot=none:=by
    obtain⟨cs0,k1,k2,_⟩:=hY 0 (by omega);obtain⟨_,_,kc⟩:=World.cells?_some k1;have e:=kc 0 (by omega);rw[Qbz (by omega)]at e
    simpa[Addr.add]using World.cell?_spot e
   obtain⟨b,off,spot⟩:=a;have hsp':spot=none:=hsp;subst hsp';refine⟨b,off,cs',rfl,h2,h3,fun j v hv=> ?_⟩;have hj:j<6:=by have:=(Qcz hv).1;omega
   have e:=hc j hj;rw[add_plain,add_plain,hv]at e;exact e
  ·obtain⟨i,hi,rfl⟩:=List.mem_map.1 hy;exact(hY i (List.mem_range.1 hi)).choose_spec.2.2.2.1
  ·have:=zkt (k:=7) ((List.range len).map D) fun d hd=>by
    obtain⟨i,hi,rfl⟩:=List.mem_map.1 hd;exact(hY i (List.mem_range.1 hi)).choose_spec.2.2.2.2
   rw[List.length_map,List.length_range]at this;rw[List.length_map,List.length_range];simp only[Rows.uptoBulk];omega
theorem z0a{H:Type}{enc:TypeId×Value→H}{W:World}{sp:Nat→Bool}{n:Nat}{cs:List Value}{x:DataW H×List MemPlace}(h:DataW.trod enc Tryz.prog W 0 sp true n 39 cs=some x):
  ∃t:Tag,cs=[.int .i64 t.kind,.int .i64 t.num,.string t.name]:=by
 obtain⟨xs,m,rfl,hl,hx,hf⟩:=zd2 zno h;rw[zp9]at hl;obtain⟨y0,e0,f0⟩:=hf 0 3 0 1 rfl zes;obtain⟨y1,e1,f1⟩:=hf 1 3 1 1 rfl zes;obtain⟨y2,e2,f2⟩:=hf 2 9 2 1 rfl zeo
 match cs,hl with
 | [v0,v1,v2],_=>
  obtain⟨s0,q0,_⟩:=DataW.trod_int Tryz.underlying3 f0;obtain⟨s1,q1,_⟩:=DataW.trod_int Tryz.underlying3 f1;obtain⟨s2,q2,_,_⟩:=DataW.trod_string Tryz.underlying9 f2;simp at q0 q1 q2;subst q0 q1 q2;exact⟨⟨s0,s1,s2⟩,rfl⟩
theorem laidOut:laidOutB Tryz.prog=true:=by kernel_rfl
theorem zok{H:Type}{enc:TypeId×Value→H}{P:Program}{f:Func}{s:ChangeSpec}{apart fresh handsOn again:Bool}{W W':World}{args:Array Value}{v:Value}{ds gs:List (DataW H)}{before pa pv:List MemPlace}
  (hW:DataW.Whole enc P f.params.toList s.vars apart W args.toList ds gs before)
  (hres:∀(b:Nat)(sp:Nat→Bool)(hd:Bool),DataW.TrodAll enc P W' b sp hd f.resultTypes.toList (v.resultList f.resultTypes.size) (s.fn H (ds++gs)).results [])
  (hargs:∀sp:Nat→Bool,(∀p∈before,sp p.block=true)→DataW.TrodAll enc P W' 0 sp true f.params.toList args.toList (s.fn H (ds++gs)).args pa)
  (hvars:∀sp:Nat→Bool,(∀p∈before,sp p.block=true)→DataW.TrodVars enc P W' sp s.vars (s.fn H (ds++gs)).vars pv)
  (hps:before=pa++pv) (hb:Below W.heap.size W W')
  (hok:∀(j:Nat)(t:TypeId)(r:Value),f.resultTypes[j]? =some t→(v.resultList f.resultTypes.size)[j]? =some r→Value.okWide P W' .any 0 t r):
  s.post enc P f apart fresh handsOn again W args v W':=by
 have hlt:=hW.lt;have hold:∀p∈before,(fun b=>decide (b<W.heap.size)) p.block=true:=fun p hp=>by simpa using hlt p hp
 refine⟨ds,gs,before,[],pa,pv,hW,hres _ _ _,hargs _ hold,hvars _ hold,hb.frame _,fun _=> ?_⟩;obtain⟨_,_,_,_,_,hz,hn⟩:=hW;refine⟨hok,_,_,([]++pa)++pv,⟨[]++pa,pv,trodAll_append (hargs _ (fun _ _=>rfl)) (hres _ _ _),hvars _ (fun _ _=>rfl),rfl,?_,?_⟩,?_⟩
 ·intro b off hp;have hp':MemPlace.cell b off∈before:=by rw[hps];simpa using hp
  exact(hb.frozen (p:=⟨b,off,none⟩) (hlt _ hp')).trans (hz b off hp')
 ·intro ha;have:=hn ha;rw[hps]at this
  simpa using this
 ·intro p hp _;rw[hps]
  simpa using hp
end
end Go.Proofs.YtepnmejahbiacaaGreat
