/- Part 47 of the proof: Rb, Rm. -/
import Derived.Test.YtepnmejahbiacaaGreatM33
import Derived.Test.YtepnmejahbiacaaGreatM38
set_option linter.unusedVariables false
set_option linter.unusedSimpArgs false
set_option maxHeartbeats 64000000
set_option maxRecDepth 100000
namespace Go.Proofs.YtepnmejahbiacaaGreat
open Go.RowKit
section
open Go.ChangeShapes Go.WideShapes Go.Deep
theorem z0p{n:Int}(h:(Lit.int .i64 n).wf=true): -9223372036854775808≤n∧n≤9223372036854775807:=by
 simp[Lit.wf,IntKind.wrap_i64]at h;have e1:IntKind.i64.min= -9223372036854775808:=rfl;have e2:IntKind.i64.max=9223372036854775807:=rfl;omega
theorem zrd{H:Type}{enc:TypeId×Value→H}{W:World}{sp:Nat→Bool}:∀(q n:Nat)(cs:List Value)(x:DataW H×List MemPlace),Rows.uptoBulk x.1≤q→DataW.trod enc Tryz.prog W 0 sp true n 36 cs=some x→
  cs.length=5∧2≤Rows.uptoBulk x.1∧∃y:Ty,typR y cs W∧2*y.count≤Rows.uptoBulk x.1∧y.all zhs=true:=by
 intro q
 induction q with
 |zero=>intro n cs x hq;have:=zpl x.1;omega
 |succ q ih=>
  intro n cs x hq h;obtain⟨xs,m,rfl,hl,hx,hf⟩:=zd2 zva h;rw[zi2]at hl;obtain⟨y0,e0,f0⟩:=hf 0 3 0 1 rfl zes;obtain⟨y1,e1,f1⟩:=hf 1 9 1 1 rfl zeo;obtain⟨y2,e2,f2⟩:=hf 2 3 2 1 rfl zes;obtain⟨y3,e3,f3⟩:=hf 3 3 3 1 rfl zes;obtain⟨y4,e4,f4⟩:=hf 4 34 4 1 rfl zvd;have hb2:=zko (List.mem_map_of_mem (f:=(·.1)) (Qdz e4));have hb4:Rows.uptoBulk y4.1≤q:=by
   have:=zfr (List.mem_map_of_mem (f:=(·.1)) (Qdz e4));simp only[Rows.uptoBulk]at hq;omega
  match cs,hl with
  | [v0,v1,v2,v3,v4],_=>
   obtain⟨s0,q0,_⟩:=DataW.trod_int Tryz.underlying3 f0;obtain⟨s1,q1,_,_⟩:=DataW.trod_string Tryz.underlying9 f1;obtain⟨s2,q2,_,w2⟩:=DataW.trod_int Tryz.underlying3 f2;obtain⟨s3,q3,_,w3⟩:=DataW.trod_int Tryz.underlying3 f3;obtain⟨A,l,c,q4,r1,_,r2,r4,_,r5⟩:=zkv (R:=typR) (k:=5) Tryz.underlying34 zi2 (by decide) (fun y d=>2*y.count≤Rows.uptoBulk d∧y.all zhs=true) (fun m cs d hd h=>by
    obtain⟨a1,a3,y,a2,a4⟩:=ih m cs d (by omega) h;exact⟨a1,a3,y,a2,a4⟩) f4
   simp at q0 q1 q2 q3 q4;subst q0 q1 q2 q3 q4;have r6:=r5 (fun y=>2*y.count) fun y d h=>h.1;rw[zx2]at r6;refine⟨rfl,hb2,.mk s0 s1 s2 s3 l,ze0.2 ⟨A,c,rfl,r1,r2⟩,?_,?_⟩
   ·have r7:=zfr (List.mem_map_of_mem (f:=(·.1)) (Qdz e4));rw[Ty.count,Ty.counts_eq];simp only[Rows.uptoBulk];omega
   ·rw[Ty.all_args];refine Bool.and_eq_true_iff.2 ⟨?_,List.all_eq_true.2 fun y hy=> ?_⟩
    ·unfold zhs;exact Bool.and_eq_true_iff.2 ⟨Qhz (z0p w2).1,Qhz (z0p w3).2⟩
    ·obtain⟨d,_,h2⟩:=r4 y hy;exact h2.2
theorem zwn{H:Type}{enc:TypeId×Value→H}{W:World}{sp:Nat→Bool}{n:Nat}{cs:List Value}{x:DataW H×List MemPlace}(h:DataW.trod enc Tryz.prog W 0 sp true n 76 cs=some x):
  cs.length=6∧2≤Rows.uptoBulk x.1∧∃y:Par,parR y cs W∧2*y.type.count≤Rows.uptoBulk x.1∧y.type.all zhs=true:=by
 obtain⟨xs,m,rfl,hl,hx,hf⟩:=zd2 zv2 h;rw[zqg]at hl;obtain⟨y0,e0,f0⟩:=hf 0 9 0 1 rfl zeo;obtain⟨y1,e1,f1⟩:=hf 1 36 1 5 rfl zi2;have hb2:=zko (List.mem_map_of_mem (f:=(·.1)) (Qdz e1))
 match cs,hl with
 | [v0,v1,v2,v3,v4,v5],_=>
  obtain⟨s0,q0,_,_⟩:=DataW.trod_string Tryz.underlying9 f0;obtain⟨a1,_,y,a2,a3,a4⟩:=zrd _ _ _ _ (Qiz _) f1;simp at q0;subst q0;refine⟨rfl,hb2,⟨s0,y⟩,⟨_,rfl,a1,a2⟩,?_,a4⟩;have r7:=zfr (List.mem_map_of_mem (f:=(·.1)) (Qdz e1));show 2*y.count≤_;simp only[Rows.uptoBulk];omega
theorem zu8{H:Type}{enc:TypeId×Value→H}{W:World}{sp:Nat→Bool}{n:Nat}{cs:List Value}{x:DataW H×List MemPlace}(h:DataW.trod enc Tryz.prog W 0 sp true n 66 cs=some x):
  ∃(A:Option Addr)(l:List Par)(c:Nat),cs=[.slice A l.length c]∧l.length≤c∧Pars A l W∧2*l.length≤Rows.uptoBulk x.1∧∀p∈l,2*p.type.count≤Rows.uptoBulk x.1∧p.type.all zhs=true:=by
 obtain⟨A,l,c,r0,r1,_,r2,r4,r3,_⟩:=zkv (R:=parR) (k:=6) Tryz.underlying66 zqg (by decide) (fun y d=>2*y.type.count≤Rows.uptoBulk d∧y.type.all zhs=true) (fun m cs d hd h=>by
  obtain⟨a1,a3,y,a2,a4⟩:=zwn h;exact⟨a1,a3,y,a2,a4⟩) h
 exact⟨A,l,c,r0,r1,r2,r3,fun y hy=>by
  obtain⟨d,h1,h2,h3⟩:=r4 y hy;exact⟨by omega,h3⟩⟩
theorem zxe{H:Type}{enc:TypeId×Value→H}{W:World}{sp:Nat→Bool}{n:Nat}{cs:List Value}{x:DataW H×List MemPlace}(h:DataW.trod enc Tryz.prog W 0 sp true n 68 cs=some x):
  cs.length=8∧2≤Rows.uptoBulk x.1∧∃y:Meth,metR y cs W∧2*y.pars.length≤Rows.uptoBulk x.1∧∀p∈y.pars,2*p.type.count≤Rows.uptoBulk x.1∧p.type.all zhs=true:=by
 obtain⟨xs,m,rfl,hl,hx,hf⟩:=zd2 zu5 h;rw[zsc]at hl;obtain⟨y0,e0,f0⟩:=hf 0 3 0 1 rfl zes;obtain⟨y1,e1,f1⟩:=hf 1 9 1 1 rfl zeo;obtain⟨y2,e2,f2⟩:=hf 2 66 2 1 rfl zv8;obtain⟨y3,e3,f3⟩:=hf 3 36 3 5 rfl zi2;have hb2:=zfr (List.mem_map_of_mem (f:=(·.1)) (Qdz e2));have hb3:=zko (List.mem_map_of_mem (f:=(·.1)) (Qdz e2))
 match cs,hl with
 | [v0,v1,v2,v3,v4,v5,v6,v7],_=>
  obtain⟨s0,q0,_⟩:=DataW.trod_int Tryz.underlying3 f0;obtain⟨s1,q1,_,_⟩:=DataW.trod_string Tryz.underlying9 f1;obtain⟨A2,l2,c2,q2,r1,r2,r3,r4⟩:=zu8 f2;obtain⟨a1,_,y,a2,_,_⟩:=zrd _ _ _ _ (Qiz _) f3;simp at q0 q1 q2;subst q0 q1 q2;refine⟨rfl,hb3,⟨s0,s1,l2,y⟩,⟨A2,c2,_,rfl,a1,r1,r2,a2⟩,?_,fun p hp=> ?_⟩
  ·show 2*l2.length≤_;simp only[Rows.uptoBulk];omega
  ·have:=(r4 p hp).1;refine⟨?_,(r4 p hp).2⟩;simp only[Rows.uptoBulk];omega
theorem zvx{H:Type}{enc:TypeId×Value→H}{W:World}{sp:Nat→Bool}{n:Nat}{cs:List Value}{x:DataW H×List MemPlace}(h:DataW.trod enc Tryz.prog W 0 sp true n 23 cs=some x):
  ∃(A:Option Addr)(l:List Meth)(c:Nat),cs=[.slice A l.length c]∧l.length≤c∧Meths A l W∧2*l.length≤Rows.uptoBulk x.1∧∀y∈l,2*y.pars.length≤Rows.uptoBulk x.1∧∀p∈y.pars,2*p.type.count≤Rows.uptoBulk x.1∧p.type.all zhs=true:=by
 obtain⟨A,l,c,r0,r1,_,r2,r4,r3,_⟩:=zkv (R:=metR) (k:=8) Tryz.underlying23 zsc (by decide) (fun y d=>2*y.pars.length≤Rows.uptoBulk d∧∀p∈y.pars,2*p.type.count≤Rows.uptoBulk d∧p.type.all zhs=true) (fun m cs d hd h=>by
  obtain⟨a1,a4,y,a2,a3⟩:=zxe h;exact⟨a1,a4,y,a2,a3⟩) h
 exact⟨A,l,c,r0,r1,r2,r3,fun y hy=>by
  obtain⟨d,h1,h2,h3⟩:=r4 y hy;exact⟨by omega,fun p hp=>⟨by have:=(h3 p hp).1;omega,(h3 p hp).2⟩⟩⟩
end
end Go.Proofs.YtepnmejahbiacaaGreat
