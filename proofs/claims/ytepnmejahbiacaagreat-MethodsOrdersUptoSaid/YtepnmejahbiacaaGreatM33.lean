/- Part 33 of the proof: Rz. -/
import Derived.Test.YtepnmejahbiacaaGreatM26
import Derived.Test.YtepnmejahbiacaaGreatM14
set_option linter.unusedVariables false
set_option linter.unusedSimpArgs false
set_option maxHeartbeats 64000000
set_option maxRecDepth 100000
namespace Go.Proofs.YtepnmejahbiacaaGreat
open Go.RowKit
section
open Go.ChangeShapes Go.WideShapes Go.Deep
theorem zfr{H:Type}{d:DataW H}:∀{l:List (DataW H)},d∈l→Rows.uptoBulk d≤Rows.uptoBulkAll l
 | [],h=>by cases h
 |x::l,h=>by
  simp only[Rows.uptoBulkAll];rcases List.mem_cons.1 h with rfl|h
  ·omega
  ·have:=zfr h;omega
theorem zt8{H:Type}(D:Nat→DataW H)(g:Nat→Nat):∀L:List Nat,(∀i∈L,g i≤Rows.uptoBulk (D i))→(L.map g).sum≤Rows.uptoBulkAll (L.map D)
 | [],_=>by simp
 |i::L,h=>by
  have h1:=h i (by simp);have h2:=zt8 D g L fun j hj=>h j (List.mem_cons_of_mem _ hj);simp only[List.map_cons,List.sum_cons,Rows.uptoBulkAll];omega
theorem zx2{α:Type}(f:α→Nat):∀l:List α,(l.map fun x=>2*f x).sum=2*(l.map f).sum
 | []=>rfl
 |x::l=>by simp only[List.map_cons,List.sum_cons,zx2 f l];omega
theorem zko{H:Type}{L:List (DataW H)}{d:DataW H}(h:d∈L):2≤Rows.uptoBulk (DataW.agg L):=by
 have h1:=zfr h;have h2:=zpl d;simp only[Rows.uptoBulk];omega
theorem zkv{H:Type}{enc:TypeId×Value→H}{W:World}{sp:Nat→Bool}{n:Nat}{cs:List Value}{x:DataW H×List MemPlace}{α:Type} [Inhabited α]{R:α→List Value→World→Prop}{T TS k:Nat}
  (hu:Tryz.prog.underlying TS=some (.slice T)) (hk:Tryz.prog.cellsOf T=k) (hk0:0<k) (Q:α→DataW H→Prop)
  (hel:∀m cs d,Rows.uptoBulk d.1<Rows.uptoBulk x.1→DataW.trod enc Tryz.prog W 0 sp true m T cs=some d→cs.length=k∧2≤Rows.uptoBulk d.1∧∃y,R y cs W∧Q y d.1)
  (h:DataW.trod enc Tryz.prog W 0 sp true n TS cs=some x):
  ∃(A:Option Addr)(l:List α)(c:Nat),cs=[.slice A l.length c]∧l.length≤c∧c≤maxLen∧Slc R k A l W∧(∀y∈l,∃d,Rows.uptoBulk d≤Rows.uptoBulk x.1∧Q y d)∧2*l.length≤Rows.uptoBulk x.1∧∀f:α→Nat,(∀y d,Q y d→f y≤Rows.uptoBulk d)→(l.map f).sum+1≤Rows.uptoBulk x.1:=by
 rcases open_slice hu h with⟨rfl,rfl⟩|⟨a,len,cap,m,n',D,Pl,rfl,_,hl,hm,hmm,rfl,hx⟩
 ·exact⟨none,[],0,rfl,Qiz _,Qjz _,Slc.nil _ _ _ _,by simp,by simp,fun f _=>by simp[Rows.uptoBulk]⟩
 ·have hlm:len≤m:=by rw[hmm];split<;>omega
  rw[hk]at hx;have hbD:∀i,i<len→Rows.uptoBulk (D i)<Rows.uptoBulk (DataW.slice ((List.range len).map D) ((List.range (m-len)).map fun j=>D (len+j))):=fun i hi=>by
   have:=zfr (List.mem_map_of_mem (f:=D) (List.mem_range.2 hi));simp only[Rows.uptoBulk];omega
  obtain⟨Y,hY⟩:=choose_lt (α:=α) (n:=len) (p:=fun i y=>∃cs',W.cells? 0 (a.add (i*k)) k=some cs'∧cs'.length=k∧R y cs' W∧Q y (D i)∧2≤Rows.uptoBulk (D i)) (fun i hi=>by
   obtain⟨cs',h1,h2⟩:=hx i (by omega);obtain⟨h3,h6,y,h4,h5⟩:=hel n' cs' _ (hbD i hi) h2;exact⟨y,cs',h1,h3,h4,h5,h6⟩)
  refine⟨some a,(List.range len).map Y,cap,by simp,by simpa using hl,hm,fun i y hy=> ?_,fun y hy=> ?_,?_,fun f hf=> ?_⟩
  ·have hi:i<len:=by have:=(Qcz hy).1;simpa using this
   rw[List.getElem?_map,List.getElem?_range hi]at hy;cases hy;obtain⟨cs',h1,h2,h3,_⟩:=hY i hi;obtain⟨_,_,hc⟩:=World.cells?_some h1;have hsp:a.spot=none:=by
    obtain⟨cs0,k1,k2,_⟩:=hY 0 (by omega);obtain⟨_,_,kc⟩:=World.cells?_some k1;have e:=kc 0 (by omega);rw[Qbz (by omega)]at e
    simpa[Addr.add]using World.cell?_spot e
   obtain⟨b,off,spot⟩:=a;have hsp':spot=none:=hsp;subst hsp';refine⟨b,off,cs',rfl,h2,h3,fun j v hv=> ?_⟩;have hj:j<k:=by have:=(Qcz hv).1;omega
   have e:=hc j hj;rw[add_plain,add_plain,hv]at e;exact e
  ·obtain⟨i,hi,rfl⟩:=List.mem_map.1 hy;exact⟨D i,Nat.le_of_lt (hbD i (List.mem_range.1 hi)),(hY i (List.mem_range.1 hi)).choose_spec.2.2.2.1⟩
  ·have:=zkt (k:=2) ((List.range len).map D) fun d hd=>by
    obtain⟨i,hi,rfl⟩:=List.mem_map.1 hd;exact(hY i (List.mem_range.1 hi)).choose_spec.2.2.2.2
   rw[List.length_map,List.length_range]at this;rw[List.length_map,List.length_range];simp only[Rows.uptoBulk];omega
  ·have:=zt8 D (fun i=>f (Y i)) (List.range len) fun i hi=>hf _ _ (hY i (List.mem_range.1 hi)).choose_spec.2.2.2.1;rw[List.map_map];simp only[Rows.uptoBulk];simp only[Function.comp_def];omega
theorem zi2:Tryz.prog.cellsOf 36=5:=by kernel_rfl
theorem zvd:Tryz.prog.cellsOf 34=1:=by kernel_rfl
theorem zqg:Tryz.prog.cellsOf 76=6:=by kernel_rfl
theorem zv8:Tryz.prog.cellsOf 66=1:=by kernel_rfl
theorem zsc:Tryz.prog.cellsOf 68=8:=by kernel_rfl
theorem zva:∃fs,Tryz.prog.underlying 36=some (.struct fs)∧(fs.map fun f=>(f.type,f.offset))= #[(3,0),(9,1),(3,2),(3,3),(34,4)]:=by
 have h:(match Tryz.prog.underlying 36 with|some (.struct fs)=>decide ((fs.map fun f=>(f.type,f.offset))= #[(3,0),(9,1),(3,2),(3,3),(34,4)])|_=>false)=true:=by kernel_rfl
 split at h
 ·rename_i fs e;exact⟨fs,e,of_decide_eq_true h⟩
 ·cases h
theorem zv2:∃fs,Tryz.prog.underlying 76=some (.struct fs)∧(fs.map fun f=>(f.type,f.offset))= #[(9,0),(36,1)]:=by
 have h:(match Tryz.prog.underlying 76 with|some (.struct fs)=>decide ((fs.map fun f=>(f.type,f.offset))= #[(9,0),(36,1)])|_=>false)=true:=by kernel_rfl
 split at h
 ·rename_i fs e;exact⟨fs,e,of_decide_eq_true h⟩
 ·cases h
theorem zu5:∃fs,Tryz.prog.underlying 68=some (.struct fs)∧(fs.map fun f=>(f.type,f.offset))= #[(3,0),(9,1),(66,2),(36,3)]:=by
 have h:(match Tryz.prog.underlying 68 with|some (.struct fs)=>decide ((fs.map fun f=>(f.type,f.offset))= #[(3,0),(9,1),(66,2),(36,3)])|_=>false)=true:=by kernel_rfl
 split at h
 ·rename_i fs e;exact⟨fs,e,of_decide_eq_true h⟩
 ·cases h
instance:Inhabited Ty:=⟨.mk 0 ⟨#[]⟩ 0 0 []⟩
instance:Inhabited Par:=⟨⟨⟨#[]⟩,default⟩⟩
instance:Inhabited Meth:=⟨⟨0,⟨#[]⟩,[],default⟩⟩
instance:Inhabited Tag:=⟨⟨0,0,⟨#[]⟩⟩⟩
theorem zs7{t:Ty}(h:2*t.count≤1048576):TySmall t:=⟨Ty.all_small t 1000000 (by omega),by omega⟩
theorem zzk{H:Type}{enc:TypeId×Value→H}{W:World}{sp:Nat→Bool}{n:Nat}{cs:List Value}{x:DataW H×List MemPlace}(h:DataW.trod enc Tryz.prog W 0 sp true n 39 cs=some x):2≤Rows.uptoBulk x.1:=by
 obtain⟨xs,m,rfl,hl,hx,hf⟩:=zd2 zno h;obtain⟨y0,e0,f0⟩:=hf 0 3 0 1 rfl zes;exact zko (List.mem_map_of_mem (f:=(·.1)) (Qdz e0))
theorem zxi{H:Type}{enc:TypeId×Value→H}{W:World}{sp:Nat→Bool}{n:Nat}{cs:List Value}{x:DataW H×List MemPlace}(h:DataW.trod enc Tryz.prog W 0 sp true n 24 cs=some x):
  ∃(A:Option Addr)(l:List Tag)(c:Nat),cs=[.slice A l.length c]∧l.length≤c∧Tags A l W∧2*l.length≤Rows.uptoBulk x.1:=by
 obtain⟨A,l,c,r0,r1,_,r2,_,r3,_⟩:=zkv (R:=z0s) (k:=3) Tryz.underlying24 zp9 (by decide) (fun _ _=>True) (fun m cs d hd h=>by
  have h1:=(zzk h);obtain⟨t,rfl⟩:=z0a h;exact⟨rfl,h1,t,rfl,trivial⟩) h
 exact⟨A,l,c,r0,r1,r2,r3⟩
end
end Go.Proofs.YtepnmejahbiacaaGreat
