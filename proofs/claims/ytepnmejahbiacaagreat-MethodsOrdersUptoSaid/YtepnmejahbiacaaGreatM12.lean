/- Part 12 of the proof: Fm, Va, Ht. -/
import Derived.Test.YtepnmejahbiacaaGreatM11
set_option linter.unusedVariables false
set_option linter.unusedSimpArgs false
set_option maxHeartbeats 64000000
set_option maxRecDepth 100000
namespace Go.Proofs.YtepnmejahbiacaaGreat
open Go.RowKit
def zar(l:List CI)(t:Ty):Bool:=
 if t.kind=1∨t.kind=4 then hasB l t.name&&decide (t.lo=0)&&decide (t.hi=0)&&decide (t.args.length=0)
 else if t.kind=2 then decide (t.lo≤t.hi)&&decide (t.name=⟨#[]⟩)&&decide (t.args.length=0)
 else if t.kind=3 then(decide (t.lo=0)||decide (t.lo=1))&&decide (t.hi=0)&&decide (t.name=⟨#[]⟩)&&decide (t.args.length=0)
 else if t.kind=5 then decide (t.args.length≤16)&&decide (t.name=⟨#[]⟩)&&decide (t.lo=0)&&decide (t.hi=0)
 else false
def zam(l:List CI)(t:Ty):Bool:=t.all (zar l)
theorem zax(l:List CI)(t:Ty):zam l t=(zar l t&&t.args.all (zam l)):=Ty.all_args _ t
theorem zqq(hp M1:Nat)(AH:Option Addr)(cH:Nat)(l:List CI):∀(q:Nat)(t:Ty),t.count≤q→∀(A:Option Addr)(c:Nat)(W:World)(G:Nat→Prop),HierAt hp M1 AH cH l l.length W→Held G (Typs A t.args) W→
  t.args.length≤c→t.all (fun x=>decide (x.args.length≤1000000))=true→
  Calls Tryz.prog 113 #[tyV t A c,.func (.func 114) #[.pointer (some ⟨hp,0,none⟩)] #[]] W fun e W'=>e=.returned (.bool (zam l t))∧Below W.heap.size W W':=by
 intro q
 induction q with
 |zero=>intro t h;have:=t.count_pos;omega
 |succ q ih=>
  intro t hq A c W G H hA hc hall;have hl:t.args.length≤1000000:=by
   rw[Ty.all_args]at hall;simp only[Bool.and_eq_true,decide_eq_true_eq]at hall;exact hall.1
  have HH:=Qaz (fun V (h:Below W.heap.size W V)=>zqb hp M1 AH cH l t.name V (H.keep h));obtain⟨W1,hW1⟩:∃W1,W1=(W.alloc (.cells #[.int .i64 t.kind,.string t.name,.int .i64 t.lo,.int .i64 t.hi,.slice A t.args.length c] 36)).alloc (.cells #[.func (.func 114) #[.pointer (some ⟨hp,0,none⟩)] #[]] 152):=⟨_,rfl⟩;have b1:Below W.heap.size W W1:=by rw[hW1];exact((Below.refl _ W).alloc (Qiz _) _).alloc (by simp) _
  have f1:W1.cell? ⟨W.heap.size+1,0,none⟩=some (.func (.func 114) #[.pointer (some ⟨hp,0,none⟩)] #[]):=by rw[hW1];exact zac (W.alloc _) _ _ _ (by simp) 0 _ rfl
  obtain⟨b,off,hbo⟩:∃b off,0<t.args.length→A=some ⟨b,off,none⟩:=by
   by_cases h0:0<t.args.length
   ·obtain⟨b,off,e⟩:=Slc.addrH hA h0;exact⟨b,off,fun _=>e⟩
   ·exact⟨0,0,fun h=>absurd h h0⟩
  have hA1:=hA.keep (Keep.all (G:=G) b1);have H1:=H.keep b1;have HCF:Hid (Calls Tryz.prog 101 #[.slice A t.args.length c,.func (.func 162) #[] #[.pointer (some ⟨W.heap.size+1,0,none⟩)]] W1
    (zlz (fun i wr=>Below W1.heap.size W1 wr∧∀j x,j<i→t.args[j]? =some x→zam l x=true) (fun i wr=>Below W1.heap.size W1 wr∧∃x,t.args[i]? =some x∧zam l x=false) (Panics fun _ _=>False) t.args.length)):=Qaz (by
   refine zdp A t.args.length c 162 _ (fun i=>(t.args[i]?.map fun x=>Value.int .i64 x.kind).getD undef) (fun i=>(t.args[i]?.map fun x=>Value.string x.name).getD undef) (fun i=>(t.args[i]?.map fun x=>Value.int .i64 x.lo).getD undef) (fun i=>(t.args[i]?.map fun x=>Value.int .i64 x.hi).getD undef)
    (fun i=>(W1.cell? ⟨b,off+i*5+4,none⟩).getD undef) W1 (by omega) (enters Tryz.func162 (by kernel_rfl) rfl) _ _ _ ⟨Below.refl _ _,fun j x hj=>absurd hj (by omega)⟩ (fun h0=>⟨b,off,hbo h0⟩) ?_ ?_
   ·rintro i wr b' off' rfl hi ⟨hcw,_⟩;have hb':=hbo (by omega);simp only[Option.some.injEq,Addr.mk.injEq,and_true]at hb';obtain⟨rfl,rfl⟩:=hb';have hx:t.args[i]? =some t.args[i]:=Qbz hi;obtain⟨A5,c5,p1,p2,g0,g1,g2,g3,g4⟩:=Typs.atH hA1 hx;simp only[hx,Option.map_some,Option.getD_some,g4];exact⟨zaa g0 hcw,zaa g1 hcw,zaa g2 hcw,zaa g3 hcw,zaa g4 hcw⟩
   ·rintro i wr hi ⟨hcw,hjw⟩;have hb':=hbo (by omega);subst hb';have hx:t.args[i]? =some t.args[i]:=Qbz hi;generalize t.args[i]=x at hx;have hmem:x∈t.args:=Qdz hx;obtain⟨A5,c5,p1,p2,g0,g1,g2,g3,g4⟩:=Typs.atH hA1 hx;simp only[hx,Option.map_some,Option.getD_some,g4];have hall2:x.all (fun x=>decide (x.args.length≤1000000))=true:=by
     rw[Ty.all_args]at hall;simp only[Bool.and_eq_true,List.all_eq_true]at hall;exact hall.2 x hmem
    have hcnt:=Ty.count_mem hmem;have f2:=zaa f1 hcw;have f2l:=cell_lt f2;obtain⟨V,hV⟩:∃V,V=wr.alloc (.cells #[.int .i64 x.kind,.string x.name,.int .i64 x.lo,.int .i64 x.hi,.slice A5 x.args.length c5] 36):=⟨_,rfl⟩;have bV:Below wr.heap.size wr V:=by rw[hV];exact(Below.refl _ wr).alloc (Qiz _) _
    have HI:=Qaz (ih x (by omega) A5 c5 V G ((H1.keep hcw).keep bV) ((p2.keep (Keep.all hcw)).keep (Keep.all bV)) p1 hall2);have hcV:Below W1.heap.size W1 V:=hcw.trans (bV.mono hcw.size);subst hV;show Calls _ _ #[.agg #[.int .i64 x.kind,.string x.name,.int .i64 x.lo,.int .i64 x.hi,.slice A5 x.args.length c5],.pointer (some ⟨W.heap.size+1,0,none⟩)] _ _;clear ih hA hA1 H H1 hall hall2;go_enter Tryz.func162,Tryz.ntmps162;go_wp2_with (fail);refine HI.out.mono ?_;clear HI;rintro e V ⟨rfl,hbV⟩;have hcf:=hcV.trans (hbV.mono hcV.size);cases hfx:zam l x with
    |false=>
     have HFX:=Qaz hfx;clear hfx;go_wp2;go_ret;exact .inr (.inl ⟨rfl,hcf,x,hx,HFX.out⟩)
    |true=>
     have HFX:=Qaz hfx;clear hfx;go_wp2;go_ret;refine .inl ⟨rfl,hcf,fun j z hj hz=> ?_⟩;rcases Nat.lt_or_ge j i with h|h
     ·exact hjw j z h hz
     ·obtain rfl:j=i:=by omega
      rw[hx]at hz;cases hz;exact HFX.out)
  clear ih hA hA1 H H1 hall f1;subst hW1;by_cases k1:t.kind=1
  ·have s1:(t.kind==1)=true:=beq_iff_eq.2 k1;have HK:=Qaz k1;clear k1;cases hh:hasB l t.name with
   |false=>
    have H_has:=Qaz hh;rw[hh]at HH;clear hh;have HF:Hid (zam l t=false):=Qaz (by rw[zax,show zar l t=false from by unfold zar;simp[HK.out,H_has.out]];rfl);clear HCF;go_enter Tryz.func113,Tryz.ntmps113;go_wp2_with (go_at_call 114;refine(HH.out _ (((Below.refl _ W).alloc (Qiz _) _).alloc (by simp) _)).mono ?_;rintro e w1 ⟨rfl,rfl⟩);go_ret;exact⟨by rw[HF.out];rfl,((Below.refl _ W).alloc (Qiz _) _).alloc (by simp) _⟩
   |true=>
    have H_has:=Qaz hh;rw[hh]at HH;clear hh;by_cases q_lo0:t.lo=0;rotate_left
    ·have u_lo0:(t.lo==0)=false:=Qfz q_lo0;have H_lo0:=Qaz q_lo0;clear q_lo0;have HF:Hid (zam l t=false):=Qaz (by rw[zax,show zar l t=false from by unfold zar;simp[HK.out,H_has.out,H_lo0.out]];rfl);clear HCF;go_enter Tryz.func113,Tryz.ntmps113;go_wp2_with (go_at_call 114;refine(HH.out _ (((Below.refl _ W).alloc (Qiz _) _).alloc (by simp) _)).mono ?_;rintro e w1 ⟨rfl,rfl⟩);go_ret;exact⟨by rw[HF.out];rfl,((Below.refl _ W).alloc (Qiz _) _).alloc (by simp) _⟩
    have u_lo0:(t.lo==0)=true:=beq_iff_eq.2 q_lo0;have H_lo0:=Qaz q_lo0;clear q_lo0;by_cases q_hi0:t.hi=0;rotate_left
    ·have u_hi0:(t.hi==0)=false:=Qfz q_hi0;have H_hi0:=Qaz q_hi0;clear q_hi0;have HF:Hid (zam l t=false):=Qaz (by rw[zax,show zar l t=false from by unfold zar;simp[HK.out,H_has.out,H_lo0.out,H_hi0.out]];rfl);clear HCF;go_enter Tryz.func113,Tryz.ntmps113;go_wp2_with (go_at_call 114;refine(HH.out _ (((Below.refl _ W).alloc (Qiz _) _).alloc (by simp) _)).mono ?_;rintro e w1 ⟨rfl,rfl⟩);go_ret;exact⟨by rw[HF.out];rfl,((Below.refl _ W).alloc (Qiz _) _).alloc (by simp) _⟩
    have u_hi0:(t.hi==0)=true:=beq_iff_eq.2 q_hi0;have H_hi0:=Qaz q_hi0;clear q_hi0;by_cases q_n0:t.args.length=0;rotate_left
    ·have u_n0:((t.args.length:Int)==0)=false:=Qfz (by omega);have H_n0:=Qaz q_n0;clear q_n0;have HF:Hid (zam l t=false):=Qaz (by rw[zax,show zar l t=false from by unfold zar;simp[HK.out,H_has.out,H_lo0.out,H_hi0.out,H_n0.out]];rfl);clear HCF;go_enter Tryz.func113,Tryz.ntmps113;go_wp2_with (go_at_call 114;refine(HH.out _ (((Below.refl _ W).alloc (Qiz _) _).alloc (by simp) _)).mono ?_;rintro e w1 ⟨rfl,rfl⟩);go_ret;exact⟨by rw[HF.out];rfl,((Below.refl _ W).alloc (Qiz _) _).alloc (by simp) _⟩
    have u_n0:((t.args.length:Int)==0)=true:=beq_iff_eq.2 (by omega);have H_n0:=Qaz q_n0;clear q_n0;have HF:Hid (zam l t=t.args.all (zam l)):=Qaz (by rw[zax,show zar l t=true from by unfold zar;simp[HK.out,H_has.out,H_lo0.out,H_hi0.out,H_n0.out]];rfl);go_enter Tryz.func113,Tryz.ntmps113;go_wp2_with (go_at_call 114;refine(HH.out _ (((Below.refl _ W).alloc (Qiz _) _).alloc (by simp) _)).mono ?_;rintro e w1 ⟨rfl,rfl⟩);refine HCF.out.mono ?_;rintro e w' (⟨rfl,h1,h2⟩|⟨i,h0,rfl,h1,x,h2,h3⟩|⟨_,_,h⟩)
    ·have HA:Hid (t.args.all (zam l)=true):=Qaz (by
      rw[List.all_eq_true];intro x hx;obtain⟨j,hj⟩:=Qez hx;exact h2 j x (Qcz hj).1 hj)
     clear h2;have hbb:=b1.trans (h1.mono b1.size);go_wp2;go_ret;exact⟨by rw[HF.out,HA.out];rfl,hbb⟩
    ·have HA:Hid (t.args.all (zam l)=false):=Qaz (by
      rw[List.all_eq_false];exact⟨x,Qdz h2,by rw[h3];simp⟩)
     clear h2 h3;have hbb:=b1.trans (h1.mono b1.size);go_wp2;go_ret;exact⟨by rw[HF.out,HA.out];rfl,hbb⟩
    ·exact h.elim
  by_cases k4:t.kind=4
  ·clear k1;have s4:(t.kind==4)=true:=beq_iff_eq.2 k4;have HK:=Qaz k4;clear k4;have s1:(t.kind==1)=false:=Qfz (by rw[HK.out];decide);cases hh:hasB l t.name with
   |false=>
    have H_has:=Qaz hh;rw[hh]at HH;clear hh;have HF:Hid (zam l t=false):=Qaz (by rw[zax,show zar l t=false from by unfold zar;simp[HK.out,H_has.out]];rfl);clear HCF;go_enter Tryz.func113,Tryz.ntmps113;go_wp2_with (go_at_call 114;refine(HH.out _ (((Below.refl _ W).alloc (Qiz _) _).alloc (by simp) _)).mono ?_;rintro e w1 ⟨rfl,rfl⟩);go_ret;exact⟨by rw[HF.out];rfl,((Below.refl _ W).alloc (Qiz _) _).alloc (by simp) _⟩
   |true=>
    have H_has:=Qaz hh;rw[hh]at HH;clear hh;by_cases q_lo0:t.lo=0;rotate_left
    ·have u_lo0:(t.lo==0)=false:=Qfz q_lo0;have H_lo0:=Qaz q_lo0;clear q_lo0;have HF:Hid (zam l t=false):=Qaz (by rw[zax,show zar l t=false from by unfold zar;simp[HK.out,H_has.out,H_lo0.out]];rfl);clear HCF;go_enter Tryz.func113,Tryz.ntmps113;go_wp2_with (go_at_call 114;refine(HH.out _ (((Below.refl _ W).alloc (Qiz _) _).alloc (by simp) _)).mono ?_;rintro e w1 ⟨rfl,rfl⟩);go_ret;exact⟨by rw[HF.out];rfl,((Below.refl _ W).alloc (Qiz _) _).alloc (by simp) _⟩
    have u_lo0:(t.lo==0)=true:=beq_iff_eq.2 q_lo0;have H_lo0:=Qaz q_lo0;clear q_lo0;by_cases q_hi0:t.hi=0;rotate_left
    ·have u_hi0:(t.hi==0)=false:=Qfz q_hi0;have H_hi0:=Qaz q_hi0;clear q_hi0;have HF:Hid (zam l t=false):=Qaz (by rw[zax,show zar l t=false from by unfold zar;simp[HK.out,H_has.out,H_lo0.out,H_hi0.out]];rfl);clear HCF;go_enter Tryz.func113,Tryz.ntmps113;go_wp2_with (go_at_call 114;refine(HH.out _ (((Below.refl _ W).alloc (Qiz _) _).alloc (by simp) _)).mono ?_;rintro e w1 ⟨rfl,rfl⟩);go_ret;exact⟨by rw[HF.out];rfl,((Below.refl _ W).alloc (Qiz _) _).alloc (by simp) _⟩
    have u_hi0:(t.hi==0)=true:=beq_iff_eq.2 q_hi0;have H_hi0:=Qaz q_hi0;clear q_hi0;by_cases q_n0:t.args.length=0;rotate_left
    ·have u_n0:((t.args.length:Int)==0)=false:=Qfz (by omega);have H_n0:=Qaz q_n0;clear q_n0;have HF:Hid (zam l t=false):=Qaz (by rw[zax,show zar l t=false from by unfold zar;simp[HK.out,H_has.out,H_lo0.out,H_hi0.out,H_n0.out]];rfl);clear HCF;go_enter Tryz.func113,Tryz.ntmps113;go_wp2_with (go_at_call 114;refine(HH.out _ (((Below.refl _ W).alloc (Qiz _) _).alloc (by simp) _)).mono ?_;rintro e w1 ⟨rfl,rfl⟩);go_ret;exact⟨by rw[HF.out];rfl,((Below.refl _ W).alloc (Qiz _) _).alloc (by simp) _⟩
    have u_n0:((t.args.length:Int)==0)=true:=beq_iff_eq.2 (by omega);have H_n0:=Qaz q_n0;clear q_n0;have HF:Hid (zam l t=t.args.all (zam l)):=Qaz (by rw[zax,show zar l t=true from by unfold zar;simp[HK.out,H_has.out,H_lo0.out,H_hi0.out,H_n0.out]];rfl);go_enter Tryz.func113,Tryz.ntmps113;go_wp2_with (go_at_call 114;refine(HH.out _ (((Below.refl _ W).alloc (Qiz _) _).alloc (by simp) _)).mono ?_;rintro e w1 ⟨rfl,rfl⟩);refine HCF.out.mono ?_;rintro e w' (⟨rfl,h1,h2⟩|⟨i,h0,rfl,h1,x,h2,h3⟩|⟨_,_,h⟩)
    ·have HA:Hid (t.args.all (zam l)=true):=Qaz (by
      rw[List.all_eq_true];intro x hx;obtain⟨j,hj⟩:=Qez hx;exact h2 j x (Qcz hj).1 hj)
     clear h2;have hbb:=b1.trans (h1.mono b1.size);go_wp2;go_ret;exact⟨by rw[HF.out,HA.out];rfl,hbb⟩
    ·have HA:Hid (t.args.all (zam l)=false):=Qaz (by
      rw[List.all_eq_false];exact⟨x,Qdz h2,by rw[h3];simp⟩)
     clear h2 h3;have hbb:=b1.trans (h1.mono b1.size);go_wp2;go_ret;exact⟨by rw[HF.out,HA.out];rfl,hbb⟩
    ·exact h.elim
  by_cases k2:t.kind=2
  ·clear k1 k4;have s2:(t.kind==2)=true:=beq_iff_eq.2 k2;have HK:=Qaz k2;clear k2;have s1:(t.kind==1)=false:=Qfz (by rw[HK.out];decide);have s4:(t.kind==4)=false:=Qfz (by rw[HK.out];decide);by_cases q_le:t.lo≤t.hi;rotate_left
   ·have u_le:decide (t.lo≤t.hi)=false:=Qgz q_le;have H_le:=Qaz q_le;clear q_le;have HF:Hid (zam l t=false):=Qaz (by rw[zax,show zar l t=false from by unfold zar;simp[HK.out,H_le.out]];rfl);clear HCF;go_enter Tryz.func113,Tryz.ntmps113;go_wp2_with (fail);go_ret;exact⟨by rw[HF.out];rfl,((Below.refl _ W).alloc (Qiz _) _).alloc (by simp) _⟩
   have u_le:decide (t.lo≤t.hi)=true:=Qhz q_le;have H_le:=Qaz q_le;clear q_le;by_cases q_nm:t.name=⟨#[]⟩;rotate_left
   ·have u_nm:decide (t.name=⟨#[]⟩)=false:=Qgz q_nm;have H_nm:=Qaz q_nm;clear q_nm;have HF:Hid (zam l t=false):=Qaz (by rw[zax,show zar l t=false from by unfold zar;simp[HK.out,H_le.out,H_nm.out]];rfl);clear HCF;go_enter Tryz.func113,Tryz.ntmps113;go_wp2_with (fail);go_ret;exact⟨by rw[HF.out];rfl,((Below.refl _ W).alloc (Qiz _) _).alloc (by simp) _⟩
   have u_nm:decide (t.name=⟨#[]⟩)=true:=Qhz q_nm;have H_nm:=Qaz q_nm;clear q_nm;by_cases q_n0:t.args.length=0;rotate_left
   ·have u_n0:((t.args.length:Int)==0)=false:=Qfz (by omega);have H_n0:=Qaz q_n0;clear q_n0;have HF:Hid (zam l t=false):=Qaz (by rw[zax,show zar l t=false from by unfold zar;simp[HK.out,H_le.out,H_nm.out,H_n0.out]];rfl);clear HCF;go_enter Tryz.func113,Tryz.ntmps113;go_wp2_with (fail);go_ret;exact⟨by rw[HF.out];rfl,((Below.refl _ W).alloc (Qiz _) _).alloc (by simp) _⟩
   have u_n0:((t.args.length:Int)==0)=true:=beq_iff_eq.2 (by omega);have H_n0:=Qaz q_n0;clear q_n0;have HF:Hid (zam l t=t.args.all (zam l)):=Qaz (by rw[zax,show zar l t=true from by unfold zar;simp[HK.out,H_le.out,H_nm.out,H_n0.out]];rfl);go_enter Tryz.func113,Tryz.ntmps113;go_wp2_with (fail);refine HCF.out.mono ?_;rintro e w' (⟨rfl,h1,h2⟩|⟨i,h0,rfl,h1,x,h2,h3⟩|⟨_,_,h⟩)
   ·have HA:Hid (t.args.all (zam l)=true):=Qaz (by
     rw[List.all_eq_true];intro x hx;obtain⟨j,hj⟩:=Qez hx;exact h2 j x (Qcz hj).1 hj)
    clear h2;have hbb:=b1.trans (h1.mono b1.size);go_wp2;go_ret;exact⟨by rw[HF.out,HA.out];rfl,hbb⟩
   ·have HA:Hid (t.args.all (zam l)=false):=Qaz (by
     rw[List.all_eq_false];exact⟨x,Qdz h2,by rw[h3];simp⟩)
    clear h2 h3;have hbb:=b1.trans (h1.mono b1.size);go_wp2;go_ret;exact⟨by rw[HF.out,HA.out];rfl,hbb⟩
   ·exact h.elim
  by_cases k3:t.kind=3
  ·clear k1 k4 k2;have s3:(t.kind==3)=true:=beq_iff_eq.2 k3;have HK:=Qaz k3;clear k3;have s1:(t.kind==1)=false:=Qfz (by rw[HK.out];decide);have s4:(t.kind==4)=false:=Qfz (by rw[HK.out];decide);have s2:(t.kind==2)=false:=Qfz (by rw[HK.out];decide);by_cases q_lo0:t.lo=0
   ·have u_lo0:(t.lo==0)=true:=beq_iff_eq.2 q_lo0;have H_lo0:=Qaz q_lo0;clear q_lo0;by_cases q_hi0:t.hi=0;rotate_left
    ·have u_hi0:(t.hi==0)=false:=Qfz q_hi0;have H_hi0:=Qaz q_hi0;clear q_hi0;have HF:Hid (zam l t=false):=Qaz (by rw[zax,show zar l t=false from by unfold zar;simp[HK.out,H_lo0.out,H_hi0.out]];rfl);clear HCF;go_enter Tryz.func113,Tryz.ntmps113;go_wp2_with (fail);go_ret;exact⟨by rw[HF.out];rfl,((Below.refl _ W).alloc (Qiz _) _).alloc (by simp) _⟩
    have u_hi0:(t.hi==0)=true:=beq_iff_eq.2 q_hi0;have H_hi0:=Qaz q_hi0;clear q_hi0;by_cases q_nm:t.name=⟨#[]⟩;rotate_left
    ·have u_nm:decide (t.name=⟨#[]⟩)=false:=Qgz q_nm;have H_nm:=Qaz q_nm;clear q_nm;have HF:Hid (zam l t=false):=Qaz (by rw[zax,show zar l t=false from by unfold zar;simp[HK.out,H_lo0.out,H_hi0.out,H_nm.out]];rfl);clear HCF;go_enter Tryz.func113,Tryz.ntmps113;go_wp2_with (fail);go_ret;exact⟨by rw[HF.out];rfl,((Below.refl _ W).alloc (Qiz _) _).alloc (by simp) _⟩
    have u_nm:decide (t.name=⟨#[]⟩)=true:=Qhz q_nm;have H_nm:=Qaz q_nm;clear q_nm;by_cases q_n0:t.args.length=0;rotate_left
    ·have u_n0:((t.args.length:Int)==0)=false:=Qfz (by omega);have H_n0:=Qaz q_n0;clear q_n0;have HF:Hid (zam l t=false):=Qaz (by rw[zax,show zar l t=false from by unfold zar;simp[HK.out,H_lo0.out,H_hi0.out,H_nm.out,H_n0.out]];rfl);clear HCF;go_enter Tryz.func113,Tryz.ntmps113;go_wp2_with (fail);go_ret;exact⟨by rw[HF.out];rfl,((Below.refl _ W).alloc (Qiz _) _).alloc (by simp) _⟩
    have u_n0:((t.args.length:Int)==0)=true:=beq_iff_eq.2 (by omega);have H_n0:=Qaz q_n0;clear q_n0;have HF:Hid (zam l t=t.args.all (zam l)):=Qaz (by rw[zax,show zar l t=true from by unfold zar;simp[HK.out,H_lo0.out,H_hi0.out,H_nm.out,H_n0.out]];rfl);go_enter Tryz.func113,Tryz.ntmps113;go_wp2_with (fail);refine HCF.out.mono ?_;rintro e w' (⟨rfl,h1,h2⟩|⟨i,h0,rfl,h1,x,h2,h3⟩|⟨_,_,h⟩)
    ·have HA:Hid (t.args.all (zam l)=true):=Qaz (by
      rw[List.all_eq_true];intro x hx;obtain⟨j,hj⟩:=Qez hx;exact h2 j x (Qcz hj).1 hj)
     clear h2;have hbb:=b1.trans (h1.mono b1.size);go_wp2;go_ret;exact⟨by rw[HF.out,HA.out];rfl,hbb⟩
    ·have HA:Hid (t.args.all (zam l)=false):=Qaz (by
      rw[List.all_eq_false];exact⟨x,Qdz h2,by rw[h3];simp⟩)
     clear h2 h3;have hbb:=b1.trans (h1.mono b1.size);go_wp2;go_ret;exact⟨by rw[HF.out,HA.out];rfl,hbb⟩
    ·exact h.elim
   have u_lo0:(t.lo==0)=false:=Qfz q_lo0;have H_lo0:=Qaz q_lo0;clear q_lo0;by_cases q_lo1:t.lo=1
   ·have u_lo1:(t.lo==1)=true:=beq_iff_eq.2 q_lo1;have H_lo1:=Qaz q_lo1;clear q_lo1 u_lo0 H_lo0;have u_lo0:(t.lo==0)=false:=by rw[H_lo1.out];rfl
    have H_lo0:Hid (¬t.lo=0):=Qaz (by rw[H_lo1.out];decide);by_cases q_hi0:t.hi=0;rotate_left
    ·have u_hi0:(t.hi==0)=false:=Qfz q_hi0;have H_hi0:=Qaz q_hi0;clear q_hi0;have HF:Hid (zam l t=false):=Qaz (by rw[zax,show zar l t=false from by unfold zar;simp[HK.out,H_lo1.out,H_hi0.out]];rfl);clear HCF;go_enter Tryz.func113,Tryz.ntmps113;go_wp2_with (fail);go_ret;exact⟨by rw[HF.out];rfl,((Below.refl _ W).alloc (Qiz _) _).alloc (by simp) _⟩
    have u_hi0:(t.hi==0)=true:=beq_iff_eq.2 q_hi0;have H_hi0:=Qaz q_hi0;clear q_hi0;by_cases q_nm:t.name=⟨#[]⟩;rotate_left
    ·have u_nm:decide (t.name=⟨#[]⟩)=false:=Qgz q_nm;have H_nm:=Qaz q_nm;clear q_nm;have HF:Hid (zam l t=false):=Qaz (by rw[zax,show zar l t=false from by unfold zar;simp[HK.out,H_lo1.out,H_hi0.out,H_nm.out]];rfl);clear HCF;go_enter Tryz.func113,Tryz.ntmps113;go_wp2_with (fail);go_ret;exact⟨by rw[HF.out];rfl,((Below.refl _ W).alloc (Qiz _) _).alloc (by simp) _⟩
    have u_nm:decide (t.name=⟨#[]⟩)=true:=Qhz q_nm;have H_nm:=Qaz q_nm;clear q_nm;by_cases q_n0:t.args.length=0;rotate_left
    ·have u_n0:((t.args.length:Int)==0)=false:=Qfz (by omega);have H_n0:=Qaz q_n0;clear q_n0;have HF:Hid (zam l t=false):=Qaz (by rw[zax,show zar l t=false from by unfold zar;simp[HK.out,H_lo1.out,H_hi0.out,H_nm.out,H_n0.out]];rfl);clear HCF;go_enter Tryz.func113,Tryz.ntmps113;go_wp2_with (fail);go_ret;exact⟨by rw[HF.out];rfl,((Below.refl _ W).alloc (Qiz _) _).alloc (by simp) _⟩
    have u_n0:((t.args.length:Int)==0)=true:=beq_iff_eq.2 (by omega);have H_n0:=Qaz q_n0;clear q_n0;have HF:Hid (zam l t=t.args.all (zam l)):=Qaz (by rw[zax,show zar l t=true from by unfold zar;simp[HK.out,H_lo1.out,H_hi0.out,H_nm.out,H_n0.out]];rfl);go_enter Tryz.func113,Tryz.ntmps113;go_wp2_with (fail);refine HCF.out.mono ?_;rintro e w' (⟨rfl,h1,h2⟩|⟨i,h0,rfl,h1,x,h2,h3⟩|⟨_,_,h⟩)
    ·have HA:Hid (t.args.all (zam l)=true):=Qaz (by
      rw[List.all_eq_true];intro x hx;obtain⟨j,hj⟩:=Qez hx;exact h2 j x (Qcz hj).1 hj)
     clear h2;have hbb:=b1.trans (h1.mono b1.size);go_wp2;go_ret;exact⟨by rw[HF.out,HA.out];rfl,hbb⟩
    ·have HA:Hid (t.args.all (zam l)=false):=Qaz (by
      rw[List.all_eq_false];exact⟨x,Qdz h2,by rw[h3];simp⟩)
     clear h2 h3;have hbb:=b1.trans (h1.mono b1.size);go_wp2;go_ret;exact⟨by rw[HF.out,HA.out];rfl,hbb⟩
    ·exact h.elim
   have u_lo1:(t.lo==1)=false:=Qfz q_lo1;have H_lo1:=Qaz q_lo1;clear q_lo1;have HF:Hid (zam l t=false):=Qaz (by rw[zax,show zar l t=false from by unfold zar;simp[HK.out,H_lo0.out,H_lo1.out]];rfl);clear HCF;go_enter Tryz.func113,Tryz.ntmps113;go_wp2_with (fail);go_ret;exact⟨by rw[HF.out];rfl,((Below.refl _ W).alloc (Qiz _) _).alloc (by simp) _⟩
  by_cases k5:t.kind=5
  ·clear k1 k4 k2 k3;have s5:(t.kind==5)=true:=beq_iff_eq.2 k5;have HK:=Qaz k5;clear k5;have s1:(t.kind==1)=false:=Qfz (by rw[HK.out];decide);have s4:(t.kind==4)=false:=Qfz (by rw[HK.out];decide);have s2:(t.kind==2)=false:=Qfz (by rw[HK.out];decide);have s3:(t.kind==3)=false:=Qfz (by rw[HK.out];decide);by_cases q_n16:t.args.length≤16;rotate_left
   ·have u_n16:decide ((t.args.length:Int)≤16)=false:=Qgz (by omega);have H_n16:=Qaz q_n16;clear q_n16;have HF:Hid (zam l t=false):=Qaz (by rw[zax,show zar l t=false from by unfold zar;simp[HK.out,H_n16.out]];rfl);clear HCF;go_enter Tryz.func113,Tryz.ntmps113;go_wp2_with (fail);go_ret;exact⟨by rw[HF.out];rfl,((Below.refl _ W).alloc (Qiz _) _).alloc (by simp) _⟩
   have u_n16:decide ((t.args.length:Int)≤16)=true:=Qhz (by omega);have H_n16:=Qaz q_n16;clear q_n16;by_cases q_nm:t.name=⟨#[]⟩;rotate_left
   ·have u_nm:decide (t.name=⟨#[]⟩)=false:=Qgz q_nm;have H_nm:=Qaz q_nm;clear q_nm;have HF:Hid (zam l t=false):=Qaz (by rw[zax,show zar l t=false from by unfold zar;simp[HK.out,H_n16.out,H_nm.out]];rfl);clear HCF;go_enter Tryz.func113,Tryz.ntmps113;go_wp2_with (fail);go_ret;exact⟨by rw[HF.out];rfl,((Below.refl _ W).alloc (Qiz _) _).alloc (by simp) _⟩
   have u_nm:decide (t.name=⟨#[]⟩)=true:=Qhz q_nm;have H_nm:=Qaz q_nm;clear q_nm;by_cases q_lo0:t.lo=0;rotate_left
   ·have u_lo0:(t.lo==0)=false:=Qfz q_lo0;have H_lo0:=Qaz q_lo0;clear q_lo0;have HF:Hid (zam l t=false):=Qaz (by rw[zax,show zar l t=false from by unfold zar;simp[HK.out,H_n16.out,H_nm.out,H_lo0.out]];rfl);clear HCF;go_enter Tryz.func113,Tryz.ntmps113;go_wp2_with (fail);go_ret;exact⟨by rw[HF.out];rfl,((Below.refl _ W).alloc (Qiz _) _).alloc (by simp) _⟩
   have u_lo0:(t.lo==0)=true:=beq_iff_eq.2 q_lo0;have H_lo0:=Qaz q_lo0;clear q_lo0;by_cases q_hi0:t.hi=0;rotate_left
   ·have u_hi0:(t.hi==0)=false:=Qfz q_hi0;have H_hi0:=Qaz q_hi0;clear q_hi0;have HF:Hid (zam l t=false):=Qaz (by rw[zax,show zar l t=false from by unfold zar;simp[HK.out,H_n16.out,H_nm.out,H_lo0.out,H_hi0.out]];rfl);clear HCF;go_enter Tryz.func113,Tryz.ntmps113;go_wp2_with (fail);go_ret;exact⟨by rw[HF.out];rfl,((Below.refl _ W).alloc (Qiz _) _).alloc (by simp) _⟩
   have u_hi0:(t.hi==0)=true:=beq_iff_eq.2 q_hi0;have H_hi0:=Qaz q_hi0;clear q_hi0;have HF:Hid (zam l t=t.args.all (zam l)):=Qaz (by rw[zax,show zar l t=true from by unfold zar;simp[HK.out,H_n16.out,H_nm.out,H_lo0.out,H_hi0.out]];rfl);go_enter Tryz.func113,Tryz.ntmps113;go_wp2_with (fail);refine HCF.out.mono ?_;rintro e w' (⟨rfl,h1,h2⟩|⟨i,h0,rfl,h1,x,h2,h3⟩|⟨_,_,h⟩)
   ·have HA:Hid (t.args.all (zam l)=true):=Qaz (by
     rw[List.all_eq_true];intro x hx;obtain⟨j,hj⟩:=Qez hx;exact h2 j x (Qcz hj).1 hj)
    clear h2;have hbb:=b1.trans (h1.mono b1.size);go_wp2;go_ret;exact⟨by rw[HF.out,HA.out];rfl,hbb⟩
   ·have HA:Hid (t.args.all (zam l)=false):=Qaz (by
     rw[List.all_eq_false];exact⟨x,Qdz h2,by rw[h3];simp⟩)
    clear h2 h3;have hbb:=b1.trans (h1.mono b1.size);go_wp2;go_ret;exact⟨by rw[HF.out,HA.out];rfl,hbb⟩
   ·exact h.elim
  have s1:(t.kind==1)=false:=Qfz k1;have K1:=Qaz k1;have s4:(t.kind==4)=false:=Qfz k4;have K4:=Qaz k4;have s2:(t.kind==2)=false:=Qfz k2;have K2:=Qaz k2;have s3:(t.kind==3)=false:=Qfz k3;have K3:=Qaz k3;have s5:(t.kind==5)=false:=Qfz k5;have K5:=Qaz k5;clear k1 k4 k2 k3 k5;have HF:Hid (zam l t=false):=Qaz (by rw[zax,show zar l t=false from by unfold zar;simp[K1.out,K2.out,K3.out,K4.out,K5.out]];rfl);clear HCF;go_enter Tryz.func113,Tryz.ntmps113;go_wp2_with (fail);go_ret;exact⟨by rw[HF.out];rfl,((Below.refl _ W).alloc (Qiz _) _).alloc (by simp) _⟩
structure TySmall (t:Ty):Prop where
 all:t.all (fun x=>decide (x.args.length≤1000000))=true
 count:t.count≤1000000000
def zaj(l:List CI)(t:Ty):Int:=if zcm t=0 then(if zam l t then 0 else 81)else zcm t
theorem zqr(t:Ty):zcm t=0∨zcm t=2∨zcm t=6:=by
 unfold zcm
 split
 ·exact .inr (.inr rfl)
 ·split
  ·exact .inr (.inl rfl)
  ·exact .inl rfl
theorem zfp(hp M1:Nat)(AH:Option Addr)(cH:Nat)(l:List CI)(t:Ty)(A:Option Addr)(c:Nat)(W:World)(G:Nat→Prop)(H:HierAt hp M1 AH cH l l.length W)(hA:Held G (Typs A t.args) W)
  (hc:t.args.length≤c) (hs:TySmall t):
  Calls Tryz.prog 68 #[.pointer (some ⟨hp,0,none⟩),tyV t A c] W fun e W'=>e=.returned (.int .i64 (zaj l t))∧Below W.heap.size W W':=by
 have hmf:∀(fn:Fn)(first cap:Array Value)(w:World),(Instr.makeFunc fn first cap).run Tryz.prog w=.ok (.func fn first cap) w:=fun _ _ _ _=>rfl;obtain⟨W1,hW1⟩:∃W1,W1=W.alloc (.cells #[.int .i64 t.kind,.string t.name,.int .i64 t.lo,.int .i64 t.hi,.slice A t.args.length c] 36):=⟨_,rfl⟩;have b1:Below W.heap.size W W1:=by rw[hW1];exact(Below.refl _ W).alloc (Qiz _) _
 have x0:∀j u,[Value.int .i64 t.kind,.string t.name,.int .i64 t.lo,.int .i64 t.hi,.slice A t.args.length c][j]? =some u→W1.cell? ⟨W.heap.size,j,none⟩=some u:=fun j u hj=>by rw[hW1];exact zac W _ _ _ rfl j u hj
 have HLm:=Qaz (zqc t A c W1 G (hA.keep (Keep.all b1)) hc hs.all hs.count);have HF:=Qaz (fun V (h:Below W.heap.size W V)=>zqq hp M1 AH cH l t.count t (Qiz _) A c V G (H.keep h) (hA.keep (Keep.all h)) hc hs.all);clear H hA;go_enter Tryz.func68,Tryz.ntmps68;go_wp2_with (fail);rw[←hW1];refine HLm.out.mono ?_;clear HLm;rintro e W2 ⟨rfl,hb2⟩;have b2:=b1.trans (hb2.mono b1.size);have c0:=zaa (x0 0 _ rfl) hb2;have c1:=zaa (x0 1 _ rfl) hb2;have c2:=zaa (x0 2 _ rfl) hb2;have c3:=zaa (x0 3 _ rfl) hb2;have c4:=zaa (x0 4 _ rfl) hb2;clear x0;rcases zqr t with hq|hq|hq
 ·have HQ:=Qaz hq;rw[hq];clear hq;go_wp2_with (fail);refine(HF.out W2 b2).mono ?_;clear HF;rintro e W3 ⟨rfl,hb3⟩;have b3:=b2.trans (hb3.mono b2.size);cases hf:zam l t with
  |false=>
   have HV:Hid (zaj l t=81):=Qaz (by unfold zaj;rw[HQ.out,hf];rfl);clear hf;go_wp2;go_ret;exact⟨by rw[HV.out];rfl,b3⟩
  |true=>
   have HV:Hid (zaj l t=0):=Qaz (by unfold zaj;rw[HQ.out,hf];rfl);clear hf;go_wp2;go_ret;exact⟨by rw[HV.out];rfl,b3⟩
 ·have HV:Hid (zaj l t=2):=Qaz (by unfold zaj;rw[hq];rfl);rw[hq];clear hq HF;go_wp2;go_ret;exact⟨by rw[HV.out];rfl,b2⟩
 ·have HV:Hid (zaj l t=6):=Qaz (by unfold zaj;rw[hq];rfl);rw[hq];clear hq HF;go_wp2;go_ret;exact⟨by rw[HV.out];rfl,b2⟩
theorem zs3(AH:Option Addr)(cH:Nat)(l:List CI)(t:Ty)(A:Option Addr)(c:Nat)(W:World)(hcH:l.length≤cH)(GH:Nat→Prop)(h:Held GH (CIs AH l) W)(ol:∀x∈l,zdo x)(hl:l.length≤1000000)(G:Nat→Prop)(hA:Held G (Typs A t.args) W)
  (hc:t.args.length≤c) (hs:TySmall t):
  Calls Tryz.prog 25 #[.slice AH l.length cH,tyV t A c] W fun e W'=>Below W.heap.size W W'∧((¬zai l∧e=.returned (.int .i64 80))∨(zai l∧e=.returned (.int .i64 (zaj l t)))):=by
 obtain⟨W1,hW1⟩:∃W1,W1=W.alloc (.cells #[.int .i64 t.kind,.string t.name,.int .i64 t.lo,.int .i64 t.hi,.slice A t.args.length c] 36):=⟨_,rfl⟩;have b1:Below W.heap.size W W1:=by rw[hW1];exact(Below.refl _ W).alloc (Qiz _) _
 have x0:∀j u,[Value.int .i64 t.kind,.string t.name,.int .i64 t.lo,.int .i64 t.hi,.slice A t.args.length c][j]? =some u→W1.cell? ⟨W.heap.size,j,none⟩=some u:=fun j u hj=>by rw[hW1];exact zac W _ _ _ rfl j u hj
 have HL:=Qaz (zdh AH cH l W1 hcH GH (h.keep (Keep.all b1)) ol hl);go_enter Tryz.func25,Tryz.ntmps25;go_wp2_with (fail);rw[←hW1];refine HL.out.mono ?_;clear HL;rintro e W2 ⟨hb2,(⟨h1,rfl⟩|⟨h1,hp,M1,_,_,rfl,H⟩)⟩
 ·have b2:=b1.trans (hb2.mono b1.size);have H1:=Qaz h1;clear h1;go_wp2;go_ret;exact⟨b2,.inl ⟨H1.out,rfl⟩⟩
 ·have b2:=b1.trans (hb2.mono b1.size);have c0:=zaa (x0 0 _ rfl) hb2;have c1:=zaa (x0 1 _ rfl) hb2;have c2:=zaa (x0 2 _ rfl) hb2;have c3:=zaa (x0 3 _ rfl) hb2;have c4:=zaa (x0 4 _ rfl) hb2;have HV:=Qaz (zfp hp M1 AH cH l t A c W2 G H (hA.keep (Keep.all b2)) hc hs);have H1:=Qaz h1;clear h1 H h hA x0;go_wp2_with (fail);refine HV.out.mono ?_;clear HV;rintro e W3 ⟨rfl,hb3⟩;have b3:=b2.trans (hb3.mono b2.size);go_wp2;go_ret;exact⟨b3,.inr ⟨H1.out,rfl⟩⟩
def zal:ByteArray:=⟨#[60,105,110,116,101,103,101,114,62]⟩
def zan:ByteArray:=⟨#[60,98,111,111,108,101,97,110,62]⟩
def zaw:ByteArray:=⟨#[60,99,108,97,115,115,62]⟩
def zdn:ByteArray:=⟨#[60,102,117,110,99,116,105,111,110,62]⟩
def zbd(t:Tag):ByteArray:=if t.kind=1 then zal else if t.kind=2 then zan else if t.kind=3 then zaw else if t.kind=4 then zdn else t.name
def zbg(l:List CI)(a b:ByteArray):Bool:=match zck l a with
 |none=>false
 |some i=>match l[i]? with|some x=>hasS x.cpl b|none=>false
def zpy(t:Tag):Prop:=t.kind=1∨t.kind=2∨t.kind=3∨t.kind=4∨t.kind=5
theorem zij(t:Tag)(h:zpy t)(w:World):Calls Tryz.prog 135 #[tagV t] w fun e w'=>e=.returned (.string (zbd t))∧Below w.heap.size w w':=by
 have hix1:∀w,(Instr.index 206 (.agg #[.string ⟨#[]⟩,.string ⟨#[60,105,110,116,101,103,101,114,62]⟩,.string ⟨#[60,98,111,111,108,101,97,110,62]⟩,.string ⟨#[60,99,108,97,115,115,62]⟩,.string ⟨#[60,102,117,110,99,116,105,111,110,62]⟩]) (.int .i64 1)).run Tryz.prog w=.ok (.string zal) w:=fun w=>by kernel_rfl
 have hix2:∀w,(Instr.index 206 (.agg #[.string ⟨#[]⟩,.string ⟨#[60,105,110,116,101,103,101,114,62]⟩,.string ⟨#[60,98,111,111,108,101,97,110,62]⟩,.string ⟨#[60,99,108,97,115,115,62]⟩,.string ⟨#[60,102,117,110,99,116,105,111,110,62]⟩]) (.int .i64 2)).run Tryz.prog w=.ok (.string zan) w:=fun w=>by kernel_rfl
 have hix3:∀w,(Instr.index 206 (.agg #[.string ⟨#[]⟩,.string ⟨#[60,105,110,116,101,103,101,114,62]⟩,.string ⟨#[60,98,111,111,108,101,97,110,62]⟩,.string ⟨#[60,99,108,97,115,115,62]⟩,.string ⟨#[60,102,117,110,99,116,105,111,110,62]⟩]) (.int .i64 3)).run Tryz.prog w=.ok (.string zaw) w:=fun w=>by kernel_rfl
 have hix4:∀w,(Instr.index 206 (.agg #[.string ⟨#[]⟩,.string ⟨#[60,105,110,116,101,103,101,114,62]⟩,.string ⟨#[60,98,111,111,108,101,97,110,62]⟩,.string ⟨#[60,99,108,97,115,115,62]⟩,.string ⟨#[60,102,117,110,99,116,105,111,110,62]⟩]) (.int .i64 4)).run Tryz.prog w=.ok (.string zdn) w:=fun w=>by kernel_rfl
 obtain⟨kd,nm,s⟩:=t;rcases h with h|h|h|h|h<;>simp only at h<;>subst h
 all_goals
  go_enter Tryz.func135,Tryz.ntmps135;go_wp2;go_ret;exact⟨by rfl,(Below.refl _ w).alloc (Qiz _) _⟩
theorem zhw(hp M1:Nat)(A:Option Addr)(c:Nat)(l:List CI)(a b:ByteArray)(w:World)(H:HierAt hp M1 A c l l.length w)(G:Nat→Prop)(hA:Held G (CIs A l) w)(ol:∀x∈l,zdo x):
  Calls Tryz.prog 134 #[.pointer (some ⟨hp,0,none⟩),.string a,.string b] w fun e w'=>e=.returned (.bool (zbg l a b))∧w'=w:=by
 have hlk:=H.look a true;simp only[if_true]at hlk;have c0:=H.c0;have c1:=H.c1;clear H;cases hq:zck l a with
 |none=>
  have HB:Hid (zbg l a b=false):=Qaz (by unfold zbg;rw[hq]);have hh:hasB l a=false:=by unfold hasB;rw[hq];rfl
  rw[hh,hq]at hlk;clear hq hh;go_enter Tryz.func134,Tryz.ntmps134;go_wp2;go_ret;exact⟨by rw[HB.out];rfl,rfl⟩
 |some i=>
  obtain⟨x,hx,_⟩:=zdq hq;have HB:Hid (zbg l a b=hasS x.cpl b):=Qaz (by unfold zbg;rw[hq];simp only[hx]);have hh:hasB l a=true:=by unfold hasB;rw[hq];rfl
  rw[hh,hq]at hlk;simp only[Option.getD_some]at hlk;have hi:=(Qcz hx).1;obtain⟨bb,off,rfl⟩:=Slc.addrH hA (by omega);obtain⟨A2,c2,A3,c3,p1,p2,p3,p4,g0,g1,g2,g3,g4,g5⟩:=CIs.atH hA hx;have HC:=Qaz (zcl A3 c3 x.cpl b w p4.now (ol x (Qdz hx)).2);clear hq hh hA hx;go_enter Tryz.func134,Tryz.ntmps134;go_wp2_with (fail);refine HC.out.mono ?_;rintro e w' ⟨rfl,rfl⟩;go_wp2;go_ret;exact⟨by rw[HB.out];rfl,rfl⟩
def zbx(l:List CI)(t:Tag):Ty→Bool
 | .mk k n lo hi args=>if k=1 then zbg l (zbd t) n
  else if k=2 then decide (t.kind=1)&&decide (lo≤t.num)&&decide (t.num≤hi)
  else if k=3 then decide (t.kind=2)&&decide (t.num=lo)
  else if k=4 then decide (t.kind=3)&&zbg l t.name n
  else hasTFs l t args
where hasTFs (l:List CI) (t:Tag):List Ty→Bool
 | []=>false
 |x::r=>zbx l t x||hasTFs l t r
theorem zp6(l:List CI)(t:Tag):∀r,zbx.hasTFs l t r=r.any (zbx l t)
 | []=>by simp[zbx.hasTFs]
 |x::r=>by rw[zbx.hasTFs,zp6 l t r];simp
theorem zf6(l:List CI)(t:Tag)(x:Ty):zbx l t x=if x.kind=1 then zbg l (zbd t) x.name
  else if x.kind=2 then decide (t.kind=1)&&decide (x.lo≤t.num)&&decide (t.num≤x.hi)
  else if x.kind=3 then decide (t.kind=2)&&decide (t.num=x.lo)
  else if x.kind=4 then decide (t.kind=3)&&zbg l t.name x.name
  else x.args.any (zbx l t):=by cases x;rw[zbx,zp6];rfl
theorem zpu(hp M1:Nat)(AH:Option Addr)(cH:Nat)(l:List CI)(ol:∀x∈l,zdo x)(v:Tag)(hv:zpy v):∀(q:Nat)(t:Ty),t.count≤q→∀(A:Option Addr)(c:Nat)(W:World)(G GH:Nat→Prop),HierAt hp M1 AH cH l l.length W→Held GH (CIs AH l) W→Held G (Typs A t.args) W→
  t.args.length≤c→t.all (fun x=>decide (x.args.length≤1000000))=true→
  Calls Tryz.prog 89 #[.pointer (some ⟨hp,0,none⟩),tagV v,tyV t A c] W fun e W'=>e=.returned (.bool (zbx l v t))∧Below W.heap.size W W':=by
 intro q
 induction q with
 |zero=>intro t h;have:=t.count_pos;omega
 |succ q ih=>
  intro t hq A c W G GH H hH hA hc hall;have hl:t.args.length≤1000000:=by
   rw[Ty.all_args]at hall;simp only[Bool.and_eq_true,decide_eq_true_eq]at hall;exact hall.1
  have HBL:=Qaz (fun a b V (h:Below W.heap.size W V)=>zhw hp M1 AH cH l a b V (H.keep h) GH (hH.keep (Keep.all h)) ol);have HCO:=Qaz (fun V=>zij v hv V);by_cases k1:t.kind=1
  ·have s1:(t.kind==1)=true:=beq_iff_eq.2 k1;have HF:Hid (zbx l v t=zbg l (zbd v) t.name):=Qaz (by rw[zf6,if_pos k1]);clear ih H hH hA hall k1;have b1:Below W.heap.size W (((W.alloc (.cells #[.pointer (some ⟨hp,0,none⟩)] 98)).alloc (.cells #[.int .i64 v.kind,.int .i64 v.num,.string v.name] 39)).alloc (.cells #[.int .i64 t.kind,.string t.name,.int .i64 t.lo,.int .i64 t.hi,.slice A t.args.length c] 36)):=(((Below.refl _ W).alloc (Qiz _) _).alloc (by simp) _).alloc (by simp;omega) _
   have c5:World.cell? (World.drew (((W.alloc (.cells #[.pointer (some ⟨hp,0,none⟩)] 98)).alloc (.cells #[.int .i64 v.kind,.int .i64 v.num,.string v.name] 39)).alloc (.cells #[.int .i64 t.kind,.string t.name,.int .i64 t.lo,.int .i64 t.hi,.slice A t.args.length c] 36))) ⟨W.heap.size+1+1,1,none⟩=some (.string t.name):=zac ((W.alloc _).alloc _) _ _ _ (by simp) 1 _ rfl
   have c0h:World.cell? (World.drew (((W.alloc (.cells #[.pointer (some ⟨hp,0,none⟩)] 98)).alloc (.cells #[.int .i64 v.kind,.int .i64 v.num,.string v.name] 39)).alloc (.cells #[.int .i64 t.kind,.string t.name,.int .i64 t.lo,.int .i64 t.hi,.slice A t.args.length c] 36))) ⟨W.heap.size,0,none⟩=some (.pointer (some ⟨hp,0,none⟩)):=zbe (zbe (zac W _ _ _ rfl 0 _ rfl));go_enter Tryz.func89,Tryz.ntmps89;go_wp2;refine(wpIn_wide (n:=9)).1 ?_
   gi_region_with (first
    |(refine⟨trivial,?_⟩;gi_at_call 135;refine(callsIn_wide.2 (HCO.out _)).mono ?_;rintro e V ⟨rfl,hbv⟩;have bV:=(b1.drew).trans (hbv.mono (b1.drew).size);have d5:V.cell? ⟨W.heap.size+1+1,1,none⟩=some (.string t.name):=zaa c5 hbv;have d0:V.cell? ⟨W.heap.size,0,none⟩=some (.pointer (some ⟨hp,0,none⟩)):=zaa c0h hbv)
    |(refine⟨trivial,?_⟩;gi_at_call 134;refine(callsIn_wide.2 (HBL.out _ _ V bV)).mono ?_;rintro e V2 ⟨rfl,rfl⟩))
   all_goals go_wp2
   all_goals
    go_ret;exact⟨by rw[HF.out];rfl,bV⟩
  have s1:(t.kind==1)=false:=Qfz k1;have K1:=Qaz k1;clear k1;by_cases k2:t.kind=2
  ·have s2:(t.kind==2)=true:=beq_iff_eq.2 k2;have HF:Hid (zbx l v t=(decide (v.kind=1)&&decide (t.lo≤v.num)&&decide (v.num≤t.hi))):=Qaz (by rw[zf6,if_neg K1.out,if_pos k2]);clear ih H hH hA hall k2;by_cases a1:v.kind=1
   ·have u1:(v.kind==1)=true:=beq_iff_eq.2 a1;by_cases a2:t.lo≤v.num
    ·have u2:decide (t.lo≤v.num)=true:=Qhz a2;have HF2:Hid (zbx l v t=decide (v.num≤t.hi)):=Qaz (by rw[HF.out,Qhz a1,Qhz a2];rfl);clear HF a1 a2;go_enter Tryz.func89,Tryz.ntmps89;go_wp2;go_ret;exact⟨by rw[HF2.out];rfl,(((Below.refl _ W).alloc (Qiz _) _).alloc (by simp) _).alloc (by simp;omega) _⟩
    ·have u2:decide (t.lo≤v.num)=false:=Qgz a2;have HF2:Hid (zbx l v t=false):=Qaz (by rw[HF.out,Qgz a2];simp);clear HF a1 a2;go_enter Tryz.func89,Tryz.ntmps89;go_wp2;go_ret;exact⟨by rw[HF2.out];rfl,(((Below.refl _ W).alloc (Qiz _) _).alloc (by simp) _).alloc (by simp;omega) _⟩
   ·have u1:(v.kind==1)=false:=Qfz a1;have HF2:Hid (zbx l v t=false):=Qaz (by rw[HF.out,Qgz a1];rfl);clear HF a1;go_enter Tryz.func89,Tryz.ntmps89;go_wp2;go_ret;exact⟨by rw[HF2.out];rfl,(((Below.refl _ W).alloc (Qiz _) _).alloc (by simp) _).alloc (by simp;omega) _⟩
  have s2:(t.kind==2)=false:=Qfz k2;have K2:=Qaz k2;clear k2;by_cases k3:t.kind=3
  ·have s3:(t.kind==3)=true:=beq_iff_eq.2 k3;have HF:Hid (zbx l v t=(decide (v.kind=2)&&decide (v.num=t.lo))):=Qaz (by rw[zf6,if_neg K1.out,if_neg K2.out,if_pos k3]);clear ih H hH hA hall k3;by_cases a1:v.kind=2
   ·have u1:(v.kind==2)=true:=beq_iff_eq.2 a1;by_cases a2:v.num=t.lo
    ·have u2:(v.num==t.lo)=true:=beq_iff_eq.2 a2;have HF2:Hid (zbx l v t=true):=Qaz (by rw[HF.out,Qhz a1,Qhz a2];rfl);clear HF a1 a2;go_enter Tryz.func89,Tryz.ntmps89;go_wp2;go_ret;exact⟨by rw[HF2.out];rfl,(((Below.refl _ W).alloc (Qiz _) _).alloc (by simp) _).alloc (by simp;omega) _⟩
    ·have u2:(v.num==t.lo)=false:=Qfz a2;have HF2:Hid (zbx l v t=false):=Qaz (by rw[HF.out,Qgz a2];simp);clear HF a1 a2;go_enter Tryz.func89,Tryz.ntmps89;go_wp2;go_ret;exact⟨by rw[HF2.out];rfl,(((Below.refl _ W).alloc (Qiz _) _).alloc (by simp) _).alloc (by simp;omega) _⟩
   ·have u1:(v.kind==2)=false:=Qfz a1;have HF2:Hid (zbx l v t=false):=Qaz (by rw[HF.out,Qgz a1];rfl);clear HF a1;go_enter Tryz.func89,Tryz.ntmps89;go_wp2;go_ret;exact⟨by rw[HF2.out];rfl,(((Below.refl _ W).alloc (Qiz _) _).alloc (by simp) _).alloc (by simp;omega) _⟩
  have s3:(t.kind==3)=false:=Qfz k3;have K3:=Qaz k3;clear k3;by_cases k4:t.kind=4
  ·have s4:(t.kind==4)=true:=beq_iff_eq.2 k4;have HF:Hid (zbx l v t=(decide (v.kind=3)&&zbg l v.name t.name)):=Qaz (by rw[zf6,if_neg K1.out,if_neg K2.out,if_neg K3.out,if_pos k4]);clear ih H hH hA hall k4;by_cases a1:v.kind=3
   ·have u1:(v.kind==3)=true:=beq_iff_eq.2 a1;have HF2:Hid (zbx l v t=zbg l v.name t.name):=Qaz (by rw[HF.out,Qhz a1];rfl);clear HF a1;go_enter Tryz.func89,Tryz.ntmps89;go_wp2_with (go_at_call 134;refine(HBL.out _ _ _ ((((Below.refl _ W).alloc (Qiz _) _).alloc (by simp) _).alloc (by simp;omega) _)).mono ?_;rintro e V2 ⟨rfl,rfl⟩);go_ret;exact⟨by rw[HF2.out];rfl,(((Below.refl _ W).alloc (Qiz _) _).alloc (by simp) _).alloc (by simp;omega) _⟩
   ·have u1:(v.kind==3)=false:=Qfz a1;have HF2:Hid (zbx l v t=false):=Qaz (by rw[HF.out,Qgz a1];rfl);clear HF a1;go_enter Tryz.func89,Tryz.ntmps89;go_wp2;go_ret;exact⟨by rw[HF2.out];rfl,(((Below.refl _ W).alloc (Qiz _) _).alloc (by simp) _).alloc (by simp;omega) _⟩
  have s4:(t.kind==4)=false:=Qfz k4;have HF:Hid (zbx l v t=t.args.any (zbx l v)):=Qaz (by rw[zf6,if_neg K1.out,if_neg K2.out,if_neg K3.out,if_neg k4]);clear k4;obtain⟨W1,hW1⟩:∃W1,W1=((W.alloc (.cells #[.pointer (some ⟨hp,0,none⟩)] 98)).alloc (.cells #[.int .i64 v.kind,.int .i64 v.num,.string v.name] 39)).alloc (.cells #[.int .i64 t.kind,.string t.name,.int .i64 t.lo,.int .i64 t.hi,.slice A t.args.length c] 36):=⟨_,rfl⟩;have b1:Below W.heap.size W W1:=by rw[hW1];exact(((Below.refl _ W).alloc (Qiz _) _).alloc (by simp) _).alloc (by simp;omega) _
  have x0:W1.cell? ⟨W.heap.size,0,none⟩=some (.pointer (some ⟨hp,0,none⟩)):=by rw[hW1];exact zbe (zbe (zac W _ _ _ rfl 0 _ rfl))
  have x1:∀j u,[Value.int .i64 v.kind,.int .i64 v.num,.string v.name][j]? =some u→W1.cell? ⟨W.heap.size+1,j,none⟩=some u:=fun j u hj=>by rw[hW1];exact zbe (zac (W.alloc _) _ _ _ (by simp) j u hj)
  obtain⟨b,off,hbo⟩:∃b off,0<t.args.length→A=some ⟨b,off,none⟩:=by
   by_cases h0:0<t.args.length
   ·obtain⟨b,off,e⟩:=Slc.addrH hA h0;exact⟨b,off,fun _=>e⟩
   ·exact⟨0,0,fun h=>absurd h h0⟩
  have hA1:=hA.keep (Keep.all (G:=G) b1);have H1:=H.keep b1;have HCF:Hid (Calls Tryz.prog 101 #[.slice A t.args.length c,.func (.func 136) #[] #[.pointer (some ⟨W.heap.size,0,none⟩),.pointer (some ⟨W.heap.size+1,0,none⟩)]] W1
    (zlz (fun i wr=>Below W1.heap.size W1 wr∧∀j x,j<i→t.args[j]? =some x→zbx l v x=false) (fun i wr=>Below W1.heap.size W1 wr∧∃x,t.args[i]? =some x∧zbx l v x=true) (Panics fun _ _=>False) t.args.length)):=Qaz (by
   refine zdp A t.args.length c 136 _ (fun i=>(t.args[i]?.map fun x=>Value.int .i64 x.kind).getD undef) (fun i=>(t.args[i]?.map fun x=>Value.string x.name).getD undef) (fun i=>(t.args[i]?.map fun x=>Value.int .i64 x.lo).getD undef) (fun i=>(t.args[i]?.map fun x=>Value.int .i64 x.hi).getD undef)
    (fun i=>(W1.cell? ⟨b,off+i*5+4,none⟩).getD undef) W1 (by omega) (enters Tryz.func136 (by kernel_rfl) rfl) _ _ _ ⟨Below.refl _ _,fun j x hj=>absurd hj (by omega)⟩ (fun h0=>⟨b,off,hbo h0⟩) ?_ ?_
   ·rintro i wr b' off' rfl hi ⟨hcw,_⟩;have hb':=hbo (by omega);simp only[Option.some.injEq,Addr.mk.injEq,and_true]at hb';obtain⟨rfl,rfl⟩:=hb';have hx:t.args[i]? =some t.args[i]:=Qbz hi;obtain⟨A5,c5,p1,p2,g0,g1,g2,g3,g4⟩:=Typs.atH hA1 hx;simp only[hx,Option.map_some,Option.getD_some,g4];exact⟨zaa g0 hcw,zaa g1 hcw,zaa g2 hcw,zaa g3 hcw,zaa g4 hcw⟩
   ·rintro i wr hi ⟨hcw,hjw⟩;have hb':=hbo (by omega);subst hb';have hx:t.args[i]? =some t.args[i]:=Qbz hi;generalize t.args[i]=x at hx;have hmem:x∈t.args:=Qdz hx;obtain⟨A5,c5,p1,p2,g0,g1,g2,g3,g4⟩:=Typs.atH hA1 hx;simp only[hx,Option.map_some,Option.getD_some,g4];have hall2:x.all (fun x=>decide (x.args.length≤1000000))=true:=by
     rw[Ty.all_args]at hall;simp only[Bool.and_eq_true,List.all_eq_true]at hall;exact hall.2 x hmem
    have hcnt:=Ty.count_mem hmem;have y0:=zaa x0 hcw;have y1:=zaa (x1 0 _ rfl) hcw;have y2:=zaa (x1 1 _ rfl) hcw;have y3:=zaa (x1 2 _ rfl) hcw;have yl0:=cell_lt y0;have yl1:=cell_lt y1;obtain⟨V,hV⟩:∃V,V=wr.alloc (.cells #[.int .i64 x.kind,.string x.name,.int .i64 x.lo,.int .i64 x.hi,.slice A5 x.args.length c5] 36):=⟨_,rfl⟩;have bV:Below wr.heap.size wr V:=by rw[hV];exact(Below.refl _ wr).alloc (Qiz _) _
    have hcV:Below W1.heap.size W1 V:=hcw.trans (bV.mono hcw.size);have HI:=Qaz (ih x (by omega) A5 c5 V G GH (H1.keep hcV) ((hH.keep (Keep.all b1)).keep (Keep.all hcV)) (p2.keep (Keep.all hcV)) p1 hall2);subst hV;show Calls _ _ #[.agg #[.int .i64 x.kind,.string x.name,.int .i64 x.lo,.int .i64 x.hi,.slice A5 x.args.length c5],.pointer (some ⟨W.heap.size,0,none⟩),.pointer (some ⟨W.heap.size+1,0,none⟩)] _ _;clear ih hA hA1 H H1 hH hall hall2 x1 HBL HCO;go_enter Tryz.func136,Tryz.ntmps136;go_wp2_with (fail);refine HI.out.mono ?_;clear HI;rintro e V ⟨rfl,hbV⟩
    have hcf:=hcV.trans (hbV.mono hcV.size);cases hfx:zbx l v x with
    |true=>
     have HFX:=Qaz hfx;clear hfx;go_wp2;go_ret;exact .inr (.inl ⟨rfl,hcf,x,hx,HFX.out⟩)
    |false=>
     have HFX:=Qaz hfx;clear hfx;go_wp2;go_ret;refine .inl ⟨rfl,hcf,fun j z hj hz=> ?_⟩;rcases Nat.lt_or_ge j i with h|h
     ·exact hjw j z h hz
     ·obtain rfl:j=i:=by omega
      rw[hx]at hz;cases hz;exact HFX.out)
  clear ih hA hA1 H H1 hH hall x0 x1 HBL HCO;subst hW1;go_enter Tryz.func89,Tryz.ntmps89;go_wp2_with (fail);refine HCF.out.mono ?_;rintro e w' (⟨rfl,h1,h2⟩|⟨i,h0,rfl,h1,x,h2,h3⟩|⟨_,_,h⟩)
  ·have HA:Hid (t.args.any (zbx l v)=false):=Qaz (by
    rw[List.any_eq_false];intro x hx;obtain⟨j,hj⟩:=Qez hx;rw[h2 j x (Qcz hj).1 hj];simp)
   clear h2;have hbb:=b1.trans (h1.mono b1.size);go_wp2;go_ret;exact⟨by rw[HF.out,HA.out];rfl,hbb⟩
  ·have HA:Hid (t.args.any (zbx l v)=true):=Qaz (List.any_eq_true.2 ⟨x,Qdz h2,h3⟩);clear h2 h3;have hbb:=b1.trans (h1.mono b1.size);go_wp2;go_ret;exact⟨by rw[HF.out,HA.out];rfl,hbb⟩
  ·exact h.elim
end Go.Proofs.YtepnmejahbiacaaGreat
