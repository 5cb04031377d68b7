/- Part 15 of the proof: Qk. -/
import Derived.Test.YtepnmejahbiacaaGreatM14
set_option linter.unusedVariables false
set_option linter.unusedSimpArgs false
set_option maxHeartbeats 64000000
set_option maxRecDepth 100000
namespace Go.Proofs.YtepnmejahbiacaaGreat
open Go.RowKit
def Ty.deepN:Nat→Ty→Nat
 |0,_=>1
 |m+1,t=>1+t.args.foldl (fun n x=>max n (Ty.deepN m x)) 0
def zwg(m:Nat)(l:List Ty):Nat:=l.foldl (fun n x=>max n (Ty.deepN m x)) 0
theorem zwl(m:Nat)(l:List Ty)(x:Ty):zwg m (l++[x])=max (zwg m l) (Ty.deepN m x):=by unfold zwg;rw[List.foldl_append];rfl
theorem zol(m:Nat):∀(l:List Ty)(n k:Nat),k<l.foldl (fun n x=>max n (Ty.deepN m x)) n↔k<n∨∃x∈l,k<Ty.deepN m x:=by
 intro l
 induction l with
 |nil=>intro n k;simp
 |cons y l ih=>
  intro n k;rw[List.foldl_cons,ih];constructor
  ·rintro(h|⟨x,hx,h⟩)
   ·rcases Nat.lt_or_ge k n with q|q
    ·exact .inl q
    ·exact .inr ⟨y,List.mem_cons_self,by omega⟩
   ·exact .inr ⟨x,List.mem_cons_of_mem _ hx,h⟩
  ·rintro(h|⟨x,hx,h⟩)
   ·exact .inl (by omega)
   ·rcases List.mem_cons.1 hx with rfl|hx
    ·exact .inl (by omega)
    ·exact .inr ⟨x,hx,h⟩
theorem zwm:∀(m:Nat)(t:Ty),m<Ty.deepN m t↔t.deep m=true:=by
 intro m
 induction m with
 |zero=>intro t;rw[Ty.deep_zero];simp[Ty.deepN]
 |succ m ih=>
  intro t;rw[Ty.deep_args,List.any_eq_true,Ty.deepN];have:m+1<1+t.args.foldl (fun n x=>max n (Ty.deepN m x)) 0↔m<t.args.foldl (fun n x=>max n (Ty.deepN m x)) 0:=by omega
  rw[this,zol];constructor
  ·rintro(h|⟨x,hx,h⟩)
   ·omega
   ·exact⟨x,hx,(ih x).1 h⟩
  ·rintro⟨x,hx,h⟩;exact .inr ⟨x,hx,(ih x).2 h⟩
theorem zuj:∀(m:Nat)(t:Ty),Ty.deepN m t≤m+1:=by
 intro m
 induction m with
 |zero=>intro t;simp[Ty.deepN]
 |succ m ih=>
  intro t;rw[Ty.deepN];have:¬m+1<t.args.foldl (fun n x=>max n (Ty.deepN m x)) 0:=by
   rw[zol];rintro(h|⟨x,hx,h⟩)
   ·omega
   ·have:=ih x;omega
  omega
theorem zwq(m:Nat)(l:List Ty):zwg m l≤m+1:=by
 have:¬m+1<zwg m l:=by
  unfold zwg;rw[zol];rintro(h|⟨x,hx,h⟩)
  ·omega
  ·have:=zuj m x;omega
 omega
theorem zq6{t x:Ty}{p:Ty→Bool}(h:t.all p=true)(hx:x∈t.args):x.all p=true:=by
 rw[Ty.all_args,Bool.and_eq_true]at h;exact List.all_eq_true.1 h.2 x hx
theorem zkz{t:Ty}(h:t.all (fun x=>decide (x.args.length≤1000000))=true):t.args.length≤1000000:=by
 rw[Ty.all_args,Bool.and_eq_true]at h;exact of_decide_eq_true h.1
theorem ztd:∀(m:Nat)(t:Ty)(A:Option Addr)(c:Nat)(W:World)(G:Nat→Prop),m≤1000→t.all (fun x=>decide (x.args.length≤1000000))=true→Held G (Typs A t.args) W→
  Calls Tryz.prog 129 #[tyV t A c,.int .i64 (m:Int)] W fun e W'=>e=.returned (.int .i64 ((Ty.deepN m t:Nat):Int))∧Below W.heap.size W W':=by
 intro m
 induction m with
 |zero=>
  intro t A c W G _ hall hT;obtain⟨W1,hW1⟩:∃W1,W1=W.alloc (.cells #[.int .i64 t.kind,.string t.name,.int .i64 t.lo,.int .i64 t.hi,.slice A t.args.length c] 36):=⟨_,rfl⟩;have b1:Below W.heap.size W W1:=by rw[hW1];exact(Below.refl _ W).alloc (Qiz _) _
  have c4:W1.cell? ⟨W.heap.size,4,none⟩=some (.slice A t.args.length c):=by rw[hW1];exact zac W _ _ _ rfl 4 _ rfl
  have HR:Hid (Ty.deepN 0 t=1):=Qaz rfl;go_enter Tryz.func129,Tryz.ntmps129;go_wp2_with (fail);rw[←hW1];clear hW1
  go_loopw [5,6] (fun n i wr=>n=.int .i64 0∧i=.int .i64 0∧wr=W1) (fun _ i _=>0)
  case atStart=>exact⟨rfl,rfl,rfl⟩
  case round=>
   obtain⟨rfl,rfl,rfl⟩:=hrel;by_cases h0:0<t.args.length
   ·go_wp2;go_ret;exact⟨(by rw[HR.out];try rfl),b1⟩
   ·go_wp2;go_ret;exact⟨(by rw[HR.out];try rfl),b1⟩
 |succ m ih=>
  intro t A c W G hm hall hT;have HIH:=Qaz ih;clear ih;obtain⟨W1,hW1⟩:∃W1,W1=W.alloc (.cells #[.int .i64 t.kind,.string t.name,.int .i64 t.lo,.int .i64 t.hi,.slice A t.args.length c] 36):=⟨_,rfl⟩;have b1:Below W.heap.size W W1:=by rw[hW1];exact(Below.refl _ W).alloc (Qiz _) _
  have C4:Hid (W1.cell? ⟨W.heap.size,4,none⟩=some (.slice A t.args.length c)):=Qaz (by rw[hW1];exact zac W _ _ _ rfl 4 _ rfl);have hlen:=zkz hall;have HA:=Qaz hall;have HT:=Qaz hT;have t0:(0:Int)<(m:Int)+1:=by omega
  clear hT hall;go_enter Tryz.func129,Tryz.ntmps129;go_wp2_with (fail);rw[←hW1];clear hW1
  go_loopw [5,6] (fun n i wr=>∃k:Nat,k≤t.args.length∧n=.int .i64 ((zwg m (t.args.take k):Nat):Int)∧i=.int .i64 k∧Below W1.heap.size W1 wr) (fun _ i _=>t.args.length-(intOf i).toNat)
  case atStart=>exact⟨0,Qjz _,rfl,rfl,Below.refl _ _⟩
  case round=>
   obtain⟨k,hk,rfl,rfl,hb⟩:=hrel;have q1:=zab b1 hb;have c4:=zaa C4.out hb;by_cases hlt:k<t.args.length
   ·obtain⟨b,off,rfl⟩:=Slc.addrH HT.out (by omega);have hx:t.args[k]? =some t.args[k]:=Qbz hlt;generalize t.args[k]=x at hx;obtain⟨A3,c3',r1,r2,g0,g1,g2,g3,g4⟩:=Typs.atH (HT.out.all q1) hx;have HST:=Qaz (HIH.out x A3 c3' wr _ (by omega) (zq6 HA.out (Qdz hx)) r2);have HS:Hid (zwg m (t.args.take (k+1))=max (zwg m (t.args.take k)) (Ty.deepN m x)):=Qaz (by rw[take_snoc hx,zwl]);have h1:=zwq m (t.args.take k);have h2:=zuj m x;generalize zwg m (t.args.take k)=u at HS h1;generalize Ty.deepN m x=v at HS h2 HST;have w1:(0:Int)≤(k:Int):=by omega
    have w2:(k:Int)<(t.args.length:Int):=by omega
    clear hx r1 r2;have hmx:Hid (((max u v:Nat):Int)=max (u:Int) (v:Int)):=Qaz (by omega);go_wp2_with (fail);refine HST.out.mono ?_;clear HST;rintro e V ⟨rfl,hbV⟩;go_wp2
    all_goals exact⟨⟨k+1,by omega,by rw[HS.out];omega,by omega,zab hb hbV⟩,by simp[intOf];omega⟩
   ·obtain rfl:k=t.args.length:=by omega
    have HR:Hid (Ty.deepN (m+1) t=1+zwg m t.args):=Qaz rfl;rw[List.take_length];have h1:=zwq m t.args;generalize zwg m t.args=u at HR h1;go_wp2;go_ret;exact⟨(by rw[HR.out,show(((1+u:Nat)):Int)=(u:Int)+1 by omega];try rfl),q1⟩
theorem zsv(l:List Ty)(k:Nat):((l.take k).map Ty.count).sum≤(l.map Ty.count).sum:=by
 induction l generalizing k with
 |nil=>simp
 |cons x l ih=>cases k with
  |zero=>simp
  |succ k=>simp only[List.take_succ_cons,List.map_cons,List.sum_cons];have:=ih k;omega
theorem zro:∀(q:Nat)(t:Ty),t.count≤q→∀(m:Nat)(A:Option Addr)(c:Nat)(W:World)(G:Nat→Prop),m≤1000→t.all (fun x=>decide (x.args.length≤1000000))=true→Held G (Typs A t.args) W→
  Calls Tryz.prog 130 #[tyV t A c,.int .i64 (m:Int)] W fun e W'=>e=.returned (.int .i64 ((min t.count (m+1):Nat):Int))∧Below W.heap.size W W':=by
 intro q
 induction q with
 |zero=>intro t hq;have:=t.count_pos;omega
 |succ q ih=>
  intro t hq m A c W G hm hall hT;have HIH:=Qaz ih;clear ih;have HQ:=Qaz hq;clear hq;obtain⟨W1,hW1⟩:∃W1,W1=W.alloc (.cells #[.int .i64 t.kind,.string t.name,.int .i64 t.lo,.int .i64 t.hi,.slice A t.args.length c] 36):=⟨_,rfl⟩;have b1:Below W.heap.size W W1:=by rw[hW1];exact(Below.refl _ W).alloc (Qiz _) _
  have C4:Hid (W1.cell? ⟨W.heap.size,4,none⟩=some (.slice A t.args.length c)):=Qaz (by rw[hW1];exact zac W _ _ _ rfl 4 _ rfl);have hlen:=zkz hall;have HA:=Qaz hall;have HT:=Qaz hT;have HCA:=Qaz (Ty.count_args t);clear hT hall;go_enter Tryz.func130,Tryz.ntmps130;go_wp2_with (fail);rw[←hW1];clear hW1
  go_loopw [5,6] (fun n i wr=>∃(k u:Nat),k≤t.args.length∧u=min (1+((t.args.take k).map Ty.count).sum) (m+1)∧n=.int .i64 (u:Int)∧i=.int .i64 k∧Below W1.heap.size W1 wr) (fun _ i _=>t.args.length-(intOf i).toNat)
  case atStart=>exact⟨0,1,Qjz _,by simp,rfl,rfl,Below.refl _ _⟩
  case round=>
   obtain⟨k,u,hk,hu,rfl,rfl,hb⟩:=hrel;have HU:=Qaz hu;have hu1:u≤m+1:=by omega
   have hu0:0≤(u:Int):=by omega
   clear hu;have q1:=zab b1 hb;have c4:=zaa C4.out hb;by_cases hlt:k<t.args.length
   ·by_cases hum:u≤m
    ·obtain⟨b,off,rfl⟩:=Slc.addrH HT.out (by omega);have hx:t.args[k]? =some t.args[k]:=Qbz hlt;generalize t.args[k]=x at hx;obtain⟨A3,c3',r1,r2,g0,g1,g2,g3,g4⟩:=Typs.atH (HT.out.all q1) hx;have hxm:x∈t.args:=Qdz hx;have hcx:x.count≤q:=by have:=Ty.count_mem hxm;have:=HQ.out;omega
     have HST:=Qaz (HIH.out x hcx (m-u) A3 c3' wr _ (by omega) (zq6 HA.out hxm) r2);have hsub:((m-u:Nat):Int)=(m:Int)-(u:Int):=by omega
     rw[hsub]at HST;have HS:Hid (((t.args.take (k+1)).map Ty.count).sum=((t.args.take k).map Ty.count).sum+x.count):=Qaz (by rw[take_snoc hx];simp);have t1:decide ((u:Int)≤(m:Int))=true:=Qhz (by omega);have w1:(0:Int)≤(k:Int):=by omega
     have w2:(k:Int)<(t.args.length:Int):=by omega
     have hv:min x.count (m-u+1)≤m-u+1:=Nat.min_le_right _ _;have HV:Hid (u+min x.count (m-u+1)=min (1+((t.args.take (k+1)).map Ty.count).sum) (m+1)):=Qaz (by have:=HS.out;have:=HU.out;omega);generalize min x.count (m-u+1)=v at HST hv HV;have HN:=Qaz (And.intro hum hv);have hv2:v≤1001:=by omega
     have hu2:u≤1000:=by omega
     clear hx hcx hxm r1 r2 hsub hv hu1 t1;go_wp2_with (fail);refine HST.out.mono ?_;clear HST;rintro e V ⟨rfl,hbV⟩;go_wp2;exact⟨⟨k+1,u+v,by omega,HV.out,by go_num,by go_num,zab hb hbV⟩,by simp[intOf];omega⟩
    ·have t1:decide ((u:Int)≤(m:Int))=false:=Qgz (by omega);have HR:Hid (min t.count (m+1)=u):=Qaz (by
      have h1:=HU.out;have h2:=HCA.out;have h3:=zsv t.args k;omega)
     clear hu1 t1;go_wp2;go_ret;exact⟨(by rw[HR.out];try rfl),q1⟩
   ·obtain rfl:k=t.args.length:=by omega
    have HR:Hid (min t.count (m+1)=u):=Qaz (by
     have h1:=HU.out;rw[List.take_length]at h1;have h2:=HCA.out;omega)
    go_wp2;go_ret;exact⟨(by rw[HR.out];try rfl),q1⟩
theorem zrh(t:Ty)(A:Option Addr)(c:Nat)(W:World)(G:Nat→Prop)(hA:Held G (Typs A t.args) W)(hs:t.all (fun x=>decide (x.args.length≤1000000))=true):
  Calls Tryz.prog 80 #[tyV t A c] W fun e W'=>e=.returned (.int .i64 (zcm t))∧Below W.heap.size W W':=by
 obtain⟨W1,hW1⟩:∃W1,W1=W.alloc (.cells #[.int .i64 t.kind,.string t.name,.int .i64 t.lo,.int .i64 t.hi,.slice A t.args.length c] 36):=⟨_,rfl⟩;have b1:Below W.heap.size W W1:=by rw[hW1];exact(Below.refl _ W).alloc (Qiz _) _
 have xt:∀j u,[Value.int .i64 t.kind,.string t.name,.int .i64 t.lo,.int .i64 t.hi,.slice A t.args.length c][j]? =some u→W1.cell? ⟨W.heap.size,j,none⟩=some u:=fun j u hj=>by rw[hW1];exact zac W _ _ _ rfl j u hj
 have XT:=Qaz xt;have HD:=Qaz (ztd 100 t A c W1 G (by omega) hs (hA.keep (Keep.all b1)));have HC:=Qaz (fun V (hv:Below W1.heap.size W1 V)=>zro t.count t (Qiz _) 1000 A c V G (by omega) hs ((hA.keep (Keep.all b1)).keep (Keep.all hv)));have HDI:=Qaz (zwm 100 t);have c0:=xt 0 _ rfl;have c1:=xt 1 _ rfl;have c2:=xt 2 _ rfl;have c3:=xt 3 _ rfl;have c4:=xt 4 _ rfl;generalize Ty.deepN 100 t=dn at HD HDI;clear xt;go_enter Tryz.func80,Tryz.ntmps80;go_wp2_with (fail);rw[←hW1];clear hW1;refine HD.out.mono ?_;clear HD;rintro e V ⟨rfl,hb⟩;have q1:=zab b1 hb;clear c0 c1 c2 c3 c4;by_cases hd:100<dn
 ·have t1:decide ((100:Int)<(dn:Int))=true:=Qhz (by omega);have HE:Hid (zcm t=6):=Qaz (by unfold zcm;rw[if_pos (HDI.out.1 hd)]);go_wp2;go_ret;exact⟨(by rw[HE.out];try rfl),q1⟩
 ·have t1:decide ((100:Int)<(dn:Int))=false:=Qgz (by omega);have hnd:¬t.deep 100=true:=fun h=>hd (HDI.out.2 h);have HND:=Qaz hnd;clear hd hnd;have HC2:=Qaz (HC.out V hb);have d0:=zaa (XT.out 0 _ rfl) hb;have d1:=zaa (XT.out 1 _ rfl) hb;have d2:=zaa (XT.out 2 _ rfl) hb;have d3:=zaa (XT.out 3 _ rfl) hb;have d4:=zaa (XT.out 4 _ rfl) hb;have HMI:Hid (1000<min t.count (1000+1)↔1000<t.count):=Qaz (by omega);generalize min t.count (1000+1)=mc at HC2 HMI;go_wp2_with (fail);refine HC2.out.mono ?_;clear HC2 HC;rintro e V2 ⟨rfl,hb2⟩;have q2:=zab q1 hb2;by_cases hc:1000<mc
  ·have t2:decide ((1000:Int)<(mc:Int))=true:=Qhz (by omega);have HE:Hid (zcm t=2):=Qaz (by unfold zcm;rw[if_neg HND.out,if_pos (HMI.out.1 hc)]);go_wp2;go_ret;exact⟨(by rw[HE.out];try rfl),q2⟩
  ·have t2:decide ((1000:Int)<(mc:Int))=false:=Qgz (by omega);have HE:Hid (zcm t=0):=Qaz (by unfold zcm;rw[if_neg HND.out,if_neg (fun h=>hc (HMI.out.2 h))]);go_wp2;go_ret;exact⟨(by rw[HE.out];try rfl),q2⟩
end Go.Proofs.YtepnmejahbiacaaGreat
