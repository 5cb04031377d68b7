/- For every input of bulk at most 1048576 the law MethodsOrders returns true, and its arguments read behind the call as before. Conditions: those of the given row (UptoSaid): the bulk. -/
import Derived.Test.YtepnmejahbiacaaGreatM46
import Derived.Test.YtepnmejahbiacaaGreatM47
set_option linter.unusedVariables false
set_option linter.unusedSimpArgs false
set_option maxHeartbeats 64000000
set_option maxRecDepth 100000
namespace Go.Proofs.YtepnmejahbiacaaGreat
open Go.RowKit
section
open Go.ChangeShapes Go.WideShapes Go.ChangeAt Go.WideElems
theorem zz0:ownKnob Tryz.prog.godebug=none:=by kernel_rfl
theorem zst{H:Type}{l:List (DataW H)}(hk:Rows.uptoSmall H l=true):Rows.uptoBulkAll l≤1048576:=of_decide_eq_true hk
theorem zls(H:Type)(enc:TypeId×Value→H)(W:World)(base:Nat)(args:Array Value)(ds gs:List (DataW H))(before:List MemPlace)
  (hval:∀(j:Nat) t v,Tryz.f7.params[j]? =some t→args[j]? =some v→Value.okWide Tryz.prog W .any base t v)
  (hW:DataW.Whole enc Tryz.prog Tryz.f7.params.toList Rows.methodsOrdersSpec.vars false W args.toList ds gs before) (hk:Rows.uptoSmall H (ds++gs)=true):
  Calls Tryz.prog 7 args W fun e W'=>∃v,e=.returned v∧Rows.methodsOrdersSpec.post enc Tryz.prog Tryz.f7 false true false false W args v W':=by
 have hW':=hW;have hlt:=hW.lt;obtain⟨p,q,hA0,hV,rfl,hfz,hnd⟩:=hW;have hA:DataW.TrodAll enc Tryz.prog W 0 (fun _=>true) true Tryz.f7.params.toList args.toList ds p:=hA0;rw[Tryz.params7]at hA hval;obtain⟨v0,vs0,d0,ds0,p0,q0,hargs,rfl,rfl,h0,r0⟩:=trodAll_cons hA;obtain⟨v1,vs1,d1,ds1,p1,q1,rfl,rfl,rfl,h1,r1⟩:=trodAll_cons r0;obtain⟨v2,vs2,d2,ds2,p2,q2,rfl,rfl,rfl,h2,r2⟩:=trodAll_cons r1;obtain⟨rfl,rfl,rfl⟩:=trodAll_nil r2;obtain rfl:args= #[v0,v1,v2]:=by cases args;simp_all
 obtain⟨rfl,rfl⟩:=trodVars_none hV;have hbulk:=zst hk;obtain⟨a0,n0,c0,rfl⟩:=okWide_slice Tryz.underlying22 (hval 0 22 v0 rfl rfl);obtain⟨a1,n1,c1,rfl⟩:=okWide_slice Tryz.underlying23 (hval 1 23 v1 rfl rfl);obtain⟨a2,n2,c2,rfl⟩:=okWide_slice Tryz.underlying24 (hval 2 24 v2 rfl rfl);have h0k:=h0;have h1k:=h1;have h2k:=h2;obtain⟨k0,t0⟩:=h0;obtain⟨k1,t1⟩:=h1;obtain⟨k2,t2⟩:=h2;obtain⟨A,l,c,e0,hc,hCI,hok,hbk⟩:=zy4 t0;obtain⟨AM,ms,cM,e1,hcM,hM,hbm1,hbm2⟩:=zvx t1;obtain⟨AT,ts,cT,e2,hcT,hT,hbt⟩:=zxi t2;simp[Value.cells]at e0 e1 e2;obtain⟨rfl,rfl,rfl⟩:=e0;obtain⟨rfl,rfl,rfl⟩:=e1;obtain⟨rfl,rfl,rfl⟩:=e2
 have hbk':7*l.length≤Rows.uptoBulk d0:=hbk;have hbm1':2*ms.length≤Rows.uptoBulk d1:=hbm1;have hbm2':∀y∈ms,2*y.pars.length≤Rows.uptoBulk d1∧∀p∈y.pars,2*p.type.count≤Rows.uptoBulk d1∧p.type.all zhs=true:=hbm2;have hbt':2*ts.length≤Rows.uptoBulk d2:=hbt;simp only[List.append_nil,Rows.uptoBulkAll]at hbulk;have hQ:Asks a0 c0 l a1 ms a2 ts W:=⟨⟨_,Slc.stable zd0 hCI⟩,hc,hok,by omega,⟨_,Slc.stable zti hM⟩,by omega,fun m hm p hp=>zs7 (by have:=((hbm2' m hm).2 p hp).1;omega),fun m hm=>by have:=(hbm2' m hm).1;omega,
  ⟨fun _=>True,fun w' k=>(Slc.stable (fun w x cs h=>fun w' k=>h) hT) w' k⟩,by omega⟩
 simp only[List.append_nil]at hW' hlt;refine(zrp _ _ l _ _ ms _ _ ts W hQ hcM (fun m hm p hp=>((hbm2' m hm).2 p hp).2)).mono fun e W' ⟨he,hb⟩=> ?_;subst he;have hrd22:Tryz.prog.readableRec 22=true:=by kernel_rfl
 have hrd23:Tryz.prog.readableRec 23=true:=by kernel_rfl
 have hrd25:Tryz.prog.readableRec 24=true:=by kernel_rfl
 refine⟨_,rfl,zok (pa:=p0++(p1++(p2++[]))) (pv:=[]) hW' (fun _ _ _=>(trodAll_cons_mk (shut_bool Tryz.underlying4 _) trodAll_mk0)) (fun sp hsp=> ?_) (fun _ _=>rfl) (by simp) hb (ok_one (by kernel_rfl) rfl (okWide_bool_mk Tryz.underlying4 _))⟩;have hin:∀x,x∈p0∨x∈p1∨x∈p2→x∈p0++(p1++p2):=fun x hx=>by simpa using hx
 show DataW.TrodAll enc Tryz.prog W' 0 sp true Tryz.f7.params.toList _ [d0,d1,d2] _;rw[Tryz.params7];refine trodAll_cons_mk (Trod_stays laidOut hrd22 (of_decide_eq_true (by kernel_rfl)) h0k (fun x hx=>hb.same (hlt x (hin x (.inl hx)))) (fun x hx=>hsp x (hin x (.inl hx)))) ?_;refine trodAll_cons_mk (Trod_stays laidOut hrd23 (of_decide_eq_true (by kernel_rfl)) h1k (fun x hx=>hb.same (hlt x (hin x (.inr (.inl hx))))) (fun x hx=>hsp x (hin x (.inr (.inl hx))))) ?_
 exact trodAll_cons_mk (Trod_stays laidOut hrd25 (of_decide_eq_true (by kernel_rfl)) h2k (fun x hx=>hb.same (hlt x (hin x (.inr (.inr hx))))) (fun x hx=>hsp x (hin x (.inr (.inr hx))))) trodAll_mk0
theorem zod(os:Os)(started:os.Started)(H:Type)(enc:TypeId×Value→H)(F:Stop.Interp):
  ReturnsInHanded {} Tryz.checked os 7 .any ((Rows.OpenSpec.upto Rows.methodsOrdersSpec).pre6 enc Tryz.prog Tryz.f7 Rows.methodsOrdersUptoRow.domain false) (((Rows.OpenSpec.upto Rows.methodsOrdersSpec).at F).post enc Tryz.prog Tryz.f7 false true false false):=by
 refine returnsInHanded_of_cond (C:=Tryz.checked) (s:=Rows.OpenSpec.upto Rows.methodsOrdersSpec) (k:=Rows.uptoSmall) rfl zz0 started (by kernel_rfl) Tryz.func7
  (OpenSpec.witness (enc:=enc) (C:=Tryz.checked) (s:=Rows.OpenSpec.upto Rows.methodsOrdersSpec) (k:=Rows.uptoSmall) rfl false ⟨#[],#[.slice none 0 0,.slice none 0 0,.slice none 0 0],[]⟩ 8 (by kernel_rfl) (by kernel_rfl) (by kernel_rfl)
   (x:=([.nil,.nil,.nil],[],[])) (by kernel_rfl) rfl (by kernel_rfl)) ?_
 intro W base args ds gs before hval hW _ hk _;exact zls H enc W base args ds gs before hval hW hk
theorem orders_holds:Rows.MethodsOrdersUptoSaid:=
 OpenClaim.holds_of_cond 7 Tryz.f7 rfl rfl rfl rfl rfl rfl rfl ⟨rfl,rfl,rfl,rfl,rfl⟩ rfl rfl rfl rfl rfl (by kernel_rfl) Tryz.func7 (by kernel_rfl)
  (of_decide_eq_true (by kernel_rfl)) (by unfold Func.isWrapper;first|(rw[if_pos (by decide+kernel)];kernel_rfl)|(rw[if_neg (by decide+kernel)];exact⟨rfl,rfl⟩))
  (fun os started H enc _ F=>zod os started H enc F)
#print axioms orders_holds
end
end Go.Proofs.YtepnmejahbiacaaGreat
