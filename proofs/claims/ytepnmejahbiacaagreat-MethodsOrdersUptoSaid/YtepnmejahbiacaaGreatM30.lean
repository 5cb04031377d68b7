/- Part 30 of the proof: Qo, Qp, Qq, Qr, Qs, Qt. -/
import Derived.Test.YtepnmejahbiacaaGreatM29
set_option linter.unusedVariables false
set_option linter.unusedSimpArgs false
set_option maxHeartbeats 64000000
set_option maxRecDepth 100000
namespace Go.Proofs.YtepnmejahbiacaaGreat
open Go.RowKit
theorem zqz(AH:Option Addr)(cH:Nat)(l:List CI)(t:Ty)(A:Option Addr)(c:Nat)(W:World)(G GH:Nat→Prop)(hH:Held GH (CIs AH l) W)(hc:l.length≤cH)(ol:∀x∈l,zdo x)(hl:l.length≤1000000)(hs:t.all (fun x=>decide (x.args.length≤1000000))=true)(hA:Held G (Typs A t.args) W):
  Calls Tryz.prog 56 #[.slice AH l.length cH,tyV t A c] W fun e W'=>Below W.heap.size W W'∧((¬zai l∧e=.returned (.int .i64 80))∨(zai l∧e=.returned (.int .i64 (zaj l t)))):=by
 obtain⟨W1,hW1⟩:∃W1,W1=W.alloc (.cells #[.int .i64 t.kind,.string t.name,.int .i64 t.lo,.int .i64 t.hi,.slice A t.args.length c] 36):=⟨_,rfl⟩;have b1:Below W.heap.size W W1:=by rw[hW1];exact(Below.refl _ W).alloc (Qiz _) _
 have xt:∀j u,[Value.int .i64 t.kind,.string t.name,.int .i64 t.lo,.int .i64 t.hi,.slice A t.args.length c][j]? =some u→W1.cell? ⟨W.heap.size,j,none⟩=some u:=fun j u hj=>by rw[hW1];exact zac W _ _ _ rfl j u hj
 have XT:=Qaz xt;have HR:=Qaz (zgv AH cH l W1 GH (hH.keep (Keep.all b1)) hc ol hl);have HSH:=Qaz (fun V (hv:Below W1.heap.size W1 V)=>zf2 AH cH l hl t A c V G GH ((hH.keep (Keep.all b1)).keep (Keep.all hv)) hs ((hA.keep (Keep.all b1)).keep (Keep.all hv)));clear xt hH ol hs hA;by_cases hL:zai l
 ·rw[zg7 hL]at HR;have HL:=Qaz hL;clear hL;go_enter Tryz.func56,Tryz.ntmps56;go_wp2_with (fail);rw[←hW1];clear hW1;refine HR.out.mono ?_;rintro e V ⟨rfl,hb⟩;have q1:=zab b1 hb;have HT2:=Qaz (HSH.out V hb);have d0:=zaa (XT.out 0 _ rfl) hb;have d1:=zaa (XT.out 1 _ rfl) hb;have d2:=zaa (XT.out 2 _ rfl) hb;have d3:=zaa (XT.out 3 _ rfl) hb;have d4:=zaa (XT.out 4 _ rfl) hb;clear HSH XT HR;obtain⟨ve,hve⟩:∃ve,zaj l t=ve:=⟨_,rfl⟩;rw[hve]at HT2;have HVE:=Qaz hve;clear hve;go_wp2_with (fail);refine HT2.out.mono ?_;clear HT2;rintro e V2 ⟨rfl,hb2⟩;have q2:=zab q1 hb2;go_wp2;go_ret
  exact⟨q2,.inr ⟨HL.out,by rw[HVE.out];try rfl⟩⟩
 ·rw[zcj hL]at HR;have HL:=Qaz hL;clear hL HSH;go_enter Tryz.func56,Tryz.ntmps56;go_wp2_with (fail);rw[←hW1];clear hW1;refine HR.out.mono ?_;rintro e V ⟨rfl,hb⟩;have q1:=zab b1 hb;go_wp2;go_ret;exact⟨q1,.inl ⟨HL.out,by try rfl⟩⟩
section
attribute [local go_sem ↓] Go.wp_at_zero Go.wp_at_succ
theorem zte(AH:Option Addr)(cH:Nat)(l:List CI)(hl:l.length≤1000000)(hcp:∀x∈l,x.cpl.length≤1000000)(hL:zai l)(v:Tag):∀(q:Nat)(t:Ty),t.count≤q→∀(A:Option Addr)(c:Nat)(W:World)(G GH:Nat→Prop),Held GH (CIs AH l) W→t.all (fun x=>decide (x.args.length≤1000000))=true→Held G (Typs A t.args) W→
  Calls Tryz.prog 77 #[.slice AH l.length cH,tagV v,tyV t A c] W fun e W'=>e=.returned (.bool (zbx l v t))∧Below W.heap.size W W':=by
 intro q
 induction q with
 |zero=>intro t hq;have:=t.count_pos;omega
 |succ q ih=>
  intro t hq A c W G GH hH hall hT;have HIH:Hid (∀(x:Ty),x∈t.args→∀(A:Option Addr)(c:Nat)(V:World),Below W.heap.size W V→(∃G,Held G (Typs A x.args) V)→Calls Tryz.prog 77 #[.slice AH l.length cH,tagV v,tyV x A c] V fun e W'=>e=.returned (.bool (zbx l v x))∧Below V.heap.size V W'):=
   Qaz (fun x hx A c V hv ⟨G,hG⟩=>ih x (by have:=Ty.count_mem hx;omega) A c V G GH (hH.keep (Keep.all hv)) (zq6 hall hx) hG)
  have hlen:=zkz hall;have HT:=Qaz hT;have HUN:Hid (∀V a b,Below W.heap.size W V→Calls Tryz.prog 121 #[.slice AH l.length cH,.string a,.string b] V fun e V'=>e=.returned (.bool (zbg l a b))∧Below V.heap.size V V'):=Qaz (fun V a b hv=>by
   refine(zgw AH cH l a b V GH (hH.keep (Keep.all hv)) hl hcp).mono ?_;rintro e V' ⟨rfl,rfl⟩;exact⟨by rw[ze5 hL],Below.refl _ _⟩)
  have HTC:=Qaz (fun V=>zgo v V);obtain⟨r,hr⟩:∃r,zbx l v t=r:=⟨_,rfl⟩;rw[hr];have HF:Hid (zbx l v t=r):=Qaz hr;rw[zf6]at HF;clear hr ih hq hH hall hT hcp hL;obtain⟨W1,hW1⟩:∃W1,W1=(W.alloc (.cells #[.int .i64 v.kind,.int .i64 v.num,.string v.name] 39)).alloc (.cells #[.int .i64 t.kind,.string t.name,.int .i64 t.lo,.int .i64 t.hi,.slice A t.args.length c] 36):=⟨_,rfl⟩;have b1:Below W.heap.size W W1:=by rw[hW1];exact((Below.refl _ W).alloc (Qiz _) _).alloc (by simp) _
  have xv:∀j u,[Value.int .i64 v.kind,.int .i64 v.num,.string v.name][j]? =some u→W1.cell? ⟨W.heap.size,j,none⟩=some u:=fun j u hj=>by rw[hW1];exact zat (zac W _ _ _ rfl j u hj)
  have xt:∀j u,[Value.int .i64 t.kind,.string t.name,.int .i64 t.lo,.int .i64 t.hi,.slice A t.args.length c][j]? =some u→W1.cell? ⟨W.heap.size+1,j,none⟩=some u:=fun j u hj=>by rw[hW1];exact zac (W.alloc _) _ _ _ (by simp) j u hj
  have v0:=xv 0 _ rfl;have v1:=xv 1 _ rfl;have v2:=xv 2 _ rfl;have t0:=xt 0 _ rfl;have t1:=xt 1 _ rfl;have t2:=xt 2 _ rfl;have t3:=xt 3 _ rfl;have t4:=xt 4 _ rfl;clear xv xt;by_cases k1:t.kind=1
  ·have HFB:Hid (r=zbg l (zbd v) t.name):=Qaz (by rw[←HF.out,if_pos k1]);have e1:(t.kind==1)=true:=beq_iff_eq.2 k1;clear k1;have HTC1:=Qaz (HTC.out W1.drew);go_enter Tryz.func77,Tryz.ntmps77;go_wp2_with (fail);rw[←hW1];clear hW1
   go_region_held3 (fun w'=>Below W1.heap.size W1 w'∧w'.cell? ⟨W.heap.size,0,none⟩=some (.int .i64 v.kind)∧w'.cell? ⟨W.heap.size,1,none⟩=some (.int .i64 v.num)∧w'.cell? ⟨W.heap.size,2,none⟩=some (.string v.name)∧w'.cell? ⟨W.heap.size+1,1,none⟩=some (.string t.name))
    (first|exact⟨(Below.refl _ W1).drew,v0,v1,v2,t1⟩|(go_split_ands;exact⟨zab (by assumption) hbu,zaa (by assumption) hbu,zaa (by assumption) hbu,zaa (by assumption) hbu,zaa (by assumption) hbu⟩))
    (first
     |((go_at_call 96;refine(HTC.out _).mono ?_;rintro e U ⟨rfl,hbu⟩))
     |((go_at_call 121;refine(HUN.out _ _ _ (zab b1 (by go_split_ands;assumption))).mono ?_;rintro e U2 ⟨rfl,hbu⟩)))
   all_goals
    have qe:Below W1.heap.size W1 U2:=by go_split_ands;assumption
    have qf:=zab b1 qe;clear HTC HTC1 HUN;go_wp2;go_ret;exact⟨(by rw[HFB.out];try rfl),qf⟩
  have e1:(t.kind==1)=false:=Qfz k1;by_cases k2:t.kind=2
  ·have HFB0:Hid (r=(decide (v.kind=1)&&decide (t.lo≤v.num)&&decide (v.num≤t.hi))):=Qaz (by rw[←HF.out,if_neg k1,if_pos k2]);have e2:(t.kind==2)=true:=beq_iff_eq.2 k2;clear k1 k2;by_cases h1:v.kind=1;rotate_left
   ·have HFB:Hid (r=false):=Qaz (by rw[HFB0.out,Qgz h1];rfl);have x1:(v.kind==1)=false:=Qfz h1;clear h1;go_enter Tryz.func77,Tryz.ntmps77;go_wp2;go_ret;exact⟨by rw[HFB.out];try rfl,by rw[←hW1];exact b1⟩
   have x1:(v.kind==1)=true:=beq_iff_eq.2 h1;by_cases h2:t.lo≤v.num;rotate_left
   ·have HFB:Hid (r=false):=Qaz (by rw[HFB0.out,Qgz h2];simp);clear h1;go_enter Tryz.func77,Tryz.ntmps77;go_wp2;go_ret;exact⟨by rw[HFB.out];try rfl,by rw[←hW1];exact b1⟩
   by_cases h3:v.num≤t.hi
   ·have HFB:Hid (r=true):=Qaz (by rw[HFB0.out,Qhz h1,Qhz h2,Qhz h3];rfl);clear h1;go_enter Tryz.func77,Tryz.ntmps77;go_wp2;go_ret;exact⟨by rw[HFB.out];try rfl,by rw[←hW1];exact b1⟩
   ·have HFB:Hid (r=false):=Qaz (by rw[HFB0.out,Qgz h3];simp);clear h1;go_enter Tryz.func77,Tryz.ntmps77;go_wp2;go_ret;exact⟨by rw[HFB.out];try rfl,by rw[←hW1];exact b1⟩
  have e2:(t.kind==2)=false:=Qfz k2;by_cases k3:t.kind=3
  ·have HFB0:Hid (r=(decide (v.kind=2)&&decide (v.num=t.lo))):=Qaz (by rw[←HF.out,if_neg k1,if_neg k2,if_pos k3]);have e3:(t.kind==3)=true:=beq_iff_eq.2 k3;clear k1 k2 k3;by_cases h1:v.kind=2;rotate_left
   ·have HFB:Hid (r=false):=Qaz (by rw[HFB0.out,Qgz h1];rfl);have x1:(v.kind==2)=false:=Qfz h1;clear h1;go_enter Tryz.func77,Tryz.ntmps77;go_wp2;go_ret;exact⟨by rw[HFB.out];try rfl,by rw[←hW1];exact b1⟩
   have x1:(v.kind==2)=true:=beq_iff_eq.2 h1;by_cases h2:v.num=t.lo
   ·have HFB:Hid (r=true):=Qaz (by rw[HFB0.out,Qhz h1,Qhz h2];rfl);have x2:(v.num==t.lo)=true:=beq_iff_eq.2 h2;clear h1 h2;go_enter Tryz.func77,Tryz.ntmps77;go_wp2;go_ret;exact⟨by rw[HFB.out];try rfl,by rw[←hW1];exact b1⟩
   ·have HFB:Hid (r=false):=Qaz (by rw[HFB0.out,Qgz h2];simp);have x2:(v.num==t.lo)=false:=Qfz h2;clear h1 h2;go_enter Tryz.func77,Tryz.ntmps77;go_wp2;go_ret;exact⟨by rw[HFB.out];try rfl,by rw[←hW1];exact b1⟩
  have e3:(t.kind==3)=false:=Qfz k3;by_cases k4:t.kind=4
  ·have HFB0:Hid (r=(decide (v.kind=3)&&zbg l v.name t.name)):=Qaz (by rw[←HF.out,if_neg k1,if_neg k2,if_neg k3,if_pos k4]);have e4:(t.kind==4)=true:=beq_iff_eq.2 k4;clear k1 k2 k3 k4;by_cases h1:v.kind=3;rotate_left
   ·have HFB:Hid (r=false):=Qaz (by rw[HFB0.out,Qgz h1];rfl);have x1:(v.kind==3)=false:=Qfz h1;clear h1;go_enter Tryz.func77,Tryz.ntmps77;go_wp2;go_ret;exact⟨by rw[HFB.out];try rfl,by rw[←hW1];exact b1⟩
   have x1:(v.kind==3)=true:=beq_iff_eq.2 h1;have HFB:Hid (r=zbg l v.name t.name):=Qaz (by rw[HFB0.out,Qhz h1];rfl);have HU2:=Qaz (HUN.out W1 v.name t.name b1);clear h1;go_enter Tryz.func77,Tryz.ntmps77;go_wp2_with (fail);rw[←hW1];clear hW1;refine HU2.out.mono ?_;rintro e V ⟨rfl,hb⟩;have qf:=zab b1 hb;go_wp2;go_ret;exact⟨by rw[HFB.out];try rfl,qf⟩
  have e4:(t.kind==4)=false:=Qfz k4;have HFB:Hid (r=t.args.any (zbx l v)):=Qaz (by rw[←HF.out,if_neg k1,if_neg k2,if_neg k3,if_neg k4]);clear k1 k2 k3 k4 HF HUN HTC;have V0:=Qaz (And.intro v0 (And.intro v1 (And.intro v2 t4)));go_enter Tryz.func77,Tryz.ntmps77;go_wp2_with (fail);rw[←hW1];clear hW1 v0 v1 v2 t0 t1 t2 t3 t4 e1 e2 e3 e4
  go_loopw [7] (fun i wr=>∃k:Nat,k≤t.args.length∧i=.int .i64 k∧(t.args.take k).any (zbx l v)=false∧Below W1.heap.size W1 wr) (fun i _=>t.args.length-(intOf i).toNat)
  case atStart=>exact⟨0,Qjz _,rfl,rfl,Below.refl _ _⟩
  case round=>
   obtain⟨k,hk,rfl,hno,hb⟩:=hrel;have HNO:=Qaz hno;clear hno;have q1:=zab b1 hb;have v0:=zaa V0.out.1 hb;have v1:=zaa V0.out.2.1 hb;have v2:=zaa V0.out.2.2.1 hb;have t4:=zaa V0.out.2.2.2 hb;by_cases hlt:k<t.args.length
   ·obtain⟨b,off,rfl⟩:=Slc.addrH HT.out (by omega);have hx:t.args[k]? =some t.args[k]:=Qbz hlt;generalize t.args[k]=x at hx;have HX:=Qaz hx;obtain⟨A3,c3',r1,r2,g0,g1,g2,g3,g4⟩:=Typs.atH (HT.out.all q1) hx;have HST:=Qaz (fun V (hv:Below wr.heap.size wr V)=>HIH.out x (Qdz hx) A3 c3' V (zab q1 hv) ⟨_,r2.keep (Keep.all hv)⟩);have w1:(0:Int)≤(k:Int):=by omega
    have w2:(k:Int)<(t.args.length:Int):=by omega
    have HK:=Qaz hlt;clear hx r1 r2;have HHX:Hid (∀y,zbx l v x=y→zbx l v x=y):=Qaz (fun _ h=>h);obtain⟨fx,hfx⟩:∃fx,zbx l v x=fx:=⟨_,rfl⟩;have HFX:=Qaz hfx;rw[hfx]at HST;clear hfx HHX;go_wp2_with (fail)
    go_region_held3 (fun w'=>Below wr.heap.size wr w'∧w'.cell? ⟨W.heap.size,0,none⟩=some (.int .i64 v.kind)∧w'.cell? ⟨W.heap.size,1,none⟩=some (.int .i64 v.num)∧w'.cell? ⟨W.heap.size,2,none⟩=some (.string v.name)∧w'.cell? ⟨W.heap.size+1,4,none⟩=some (.slice (some ⟨b,off,none⟩) t.args.length c)∧
      w'.cell? ⟨b,off+k*5,none⟩=some (.int .i64 x.kind)∧w'.cell? ⟨b,off+k*5+1,none⟩=some (.string x.name)∧w'.cell? ⟨b,off+k*5+2,none⟩=some (.int .i64 x.lo)∧w'.cell? ⟨b,off+k*5+3,none⟩=some (.int .i64 x.hi)∧w'.cell? ⟨b,off+k*5+4,none⟩=some (.slice A3 x.args.length c3'))
     (first|exact⟨(Below.refl _ wr).drew,v0,v1,v2,t4,g0,g1,g2,g3,g4⟩|(go_split_ands;exact⟨zab (by assumption) hbu,zaa (by assumption) hbu,zaa (by assumption) hbu,zaa (by assumption) hbu,zaa (by assumption) hbu,zaa (by assumption) hbu,zaa (by assumption) hbu,zaa (by assumption) hbu,zaa (by assumption) hbu,zaa (by assumption) hbu⟩))
     ((go_at_call 77;refine(HST.out _ (by go_split_ands;assumption)).mono ?_;rintro e U ⟨rfl,hbu⟩))
    have hb5:Below wr.heap.size wr U:=by go_split_ands;assumption
    have hb6:=zab hb hb5;go_split_ands;clear HST;cases fx with
    |true=>
     have HR:Hid (r=true):=Qaz (by rw[HFB.out];exact List.any_eq_true.2 ⟨x,Qdz HX.out,HFX.out⟩);have qf:=zab b1 hb6;go_wp2;go_ret;exact⟨by rw[HR.out];try rfl,qf⟩
    |false=>
     have HN2:Hid ((t.args.take (k+1)).any (zbx l v)=false):=Qaz (by rw[take_snoc HX.out,List.any_append,HNO.out];simp[HFX.out]);go_wp2;go_roundw
     case rel=>exact⟨k+1,by have:=HK.out;omega,by go_num,HN2.out,hb6⟩
     case measure=>have:=HK.out;simp[intOf];omega
   ·obtain rfl:k=t.args.length:=by omega
    have HR:Hid (r=false):=Qaz (by rw[HFB.out];have:=HNO.out;rwa [List.take_length]at this);go_wp2;go_ret;exact⟨by rw[HR.out];try rfl,q1⟩
end
theorem zgn{l:List CI}(h:zai l):∀x∈l,x.cpl.length≤1000000:=by
 intro x hx;obtain⟨j,hj⟩:=Qez hx;have h1:=zbr (zaz h.2.2.2.2.1).2 (h.2.2.2.2.2 j x hj);rw[zba]at h1;have:=h.1;omega
section
attribute [local go_sem ↓] Go.wp_at_zero Go.wp_at_succ
theorem ztj{l:List CI}(hcp:∀x∈l,x.cpl.length≤1000000)(a:ByteArray):(((l.find? fun x=>decide (x.name=a)).map CI.cpl).getD []).length≤1000000:=by
 cases hf:l.find? (fun x=>decide (x.name=a))with
 |none=>simp
 |some x=>exact hcp x (List.mem_of_find?_eq_some hf)
theorem zrv(l:List CI)(a b:ByteArray):za0 l a b=hasS (((l.find? fun x=>decide (x.name=a)).map CI.cpl).getD []) b:=by
 unfold za0;cases hf:l.find? (fun x=>decide (x.name=a))with
 |none=>rfl
 |some x=>rfl
theorem zor(A:Option Addr)(c:Nat)(l:List CI)(a b:ByteArray)(W:World)(G:Nat→Prop)(h:Held G (CIs A l) W)(hl:l.length≤1000000)(hcp:∀x∈l,x.cpl.length≤1000000):
  Calls Tryz.prog 132 #[.slice A l.length c,.string a,.string b] W fun e W'=>e=.returned (.bool (za0 l a b))∧W=W':=by
 have HC:=Qaz (znt A c l a W G h hl);have hs:=ztj hcp a;have HB:Hid (za0 l a b=hasS (((l.find? fun x=>decide (x.name=a)).map CI.cpl).getD []) b):=Qaz (zrv l a b);generalize(((l.find? fun x=>decide (x.name=a)).map CI.cpl).getD [])=z at HC hs HB;have HG:=Qaz (zf9 (l:=z) (x:=b));have HS:=Qaz hs;clear h hcp hs;go_enter Tryz.func132,Tryz.ntmps132;go_wp2_with (fail);refine HC.out.mono ?_;clear HC;rintro e V ⟨rfl,A',c',rfl,h1,h2⟩;have HI:=Qaz (zbv A' c' z b V h2.now HS.out);clear h1 h2;generalize hasS z b=r at HB HG;generalize idx z b=ix at HI HG;go_wp2_with (fail);refine HI.out.mono ?_
 rintro e V2 ⟨rfl,rfl⟩;have t2:=HG.out;go_wp2;go_ret;exact⟨(by rw[HB.out,←HG.out];try rfl),rfl⟩
theorem z2g:(Tryz.prog.info? 36).map (fun i=>(i.zero,i.size,i.bytes))=some (some (.agg #[.int .i64 0,.string ⟨#[]⟩,.int .i64 0,.int .i64 0,.slice none 0 0]),5,64):=by kernel_rfl
theorem Chg.trans2{S T:Nat→Prop}{a b c:World}(h:Chg S a b)(k:Chg T b c)(hs:∀x,T x→S x∨a.heap.size≤x):Chg S a c:=
 ⟨k.os.trans h.os,k.tape.trans h.tape,k.output.trans h.output,Nat.le_trans h.size k.size,fun x hx hn=>(k.block x (Nat.lt_of_lt_of_le hx h.size) fun q=>by rcases hs x q with r|r;exact hn r;omega).trans (h.block x hx hn)⟩
def zr0(a:Ty):Prop:=a.kind=1∨a.kind=2∨a.kind=3∨a.kind=4
theorem zsm(a:Ty)(A:Option Addr)(c:Nat)(w:World)(hk:zr0 a):Calls Tryz.prog 133 #[tyV a A c] w fun e w'=>e=.returned (.string (zuz a))∧Below w.heap.size w w':=by
 have b1:∀o:Obj,Below w.heap.size w (w.alloc o):=fun o=>(Below.refl _ w).alloc (Qiz _) _;obtain⟨kd,nm,lo,hi,ars⟩:=a;have hk':kd=1∨kd=2∨kd=3∨kd=4:=hk;clear hk;rcases hk' with rfl|rfl|rfl|rfl
 all_goals
  go_enter Tryz.func133,Tryz.ntmps133;go_wp2;go_ret;exact⟨rfl,b1 _⟩
theorem zo3(A:Option Addr)(c:Nat)(l:List CI)(a b:Ty)(Aa Ab:Option Addr)(ca cb:Nat)(W:World)(G:Nat→Prop)(h:Held G (CIs A l) W)(hl:l.length≤1000000)(hcp:∀x∈l,x.cpl.length≤1000000)(hka:zr0 a):
  Calls Tryz.prog 88 #[.slice A l.length c,tyV a Aa ca,tyV b Ab cb] W fun e W'=>e=.returned (.bool (za6 l a b))∧Below W.heap.size W W':=by
 have HUN:Hid (∀V p q,Below W.heap.size W V→Calls Tryz.prog 132 #[.slice A l.length c,.string p,.string q] V fun e V'=>e=.returned (.bool (za0 l p q))∧Below V.heap.size V V'):=Qaz (fun V p q hv=>by
  refine(zor A c l p q V G (h.keep (Keep.all hv)) hl hcp).mono ?_;rintro e V' ⟨rfl,rfl⟩;exact⟨rfl,Below.refl _ _⟩)
 have HTO:=Qaz (fun V=>zsm a Aa ca V hka);obtain⟨r,hr⟩:∃r,za6 l a b=r:=⟨_,rfl⟩;rw[hr];have HF:Hid (za6 l a b=r):=Qaz hr;unfold za6 at HF;have HK:=Qaz hka;clear hr h hcp hka;obtain⟨W1,hW1⟩:∃W1,W1=(W.alloc (.cells #[.int .i64 a.kind,.string a.name,.int .i64 a.lo,.int .i64 a.hi,.slice Aa a.args.length ca] 36)).alloc (.cells #[.int .i64 b.kind,.string b.name,.int .i64 b.lo,.int .i64 b.hi,.slice Ab b.args.length cb] 36):=⟨_,rfl⟩;have b1:Below W.heap.size W W1:=by rw[hW1];exact((Below.refl _ W).alloc (Qiz _) _).alloc (by simp) _
 have xa:∀j u,[Value.int .i64 a.kind,.string a.name,.int .i64 a.lo,.int .i64 a.hi,.slice Aa a.args.length ca][j]? =some u→W1.cell? ⟨W.heap.size,j,none⟩=some u:=fun j u hj=>by rw[hW1];exact zat (zac W _ _ _ rfl j u hj)
 have xb:∀j u,[Value.int .i64 b.kind,.string b.name,.int .i64 b.lo,.int .i64 b.hi,.slice Ab b.args.length cb][j]? =some u→W1.cell? ⟨W.heap.size+1,j,none⟩=some u:=fun j u hj=>by rw[hW1];exact zac (W.alloc _) _ _ _ (by simp) j u hj
 have a0:=xa 0 _ rfl;have a1:=xa 1 _ rfl;have a2:=xa 2 _ rfl;have a3:=xa 3 _ rfl;have a4:=xa 4 _ rfl;have c0:=xb 0 _ rfl;have c1:=xb 1 _ rfl;have c2:=xb 2 _ rfl;have c3:=xb 3 _ rfl;clear xa xb;by_cases k1:b.kind=1
 ·have HFB:Hid (r=za0 l (zuz a) b.name):=Qaz (by rw[←HF.out,if_pos k1]);have e1:(b.kind==1)=true:=beq_iff_eq.2 k1;clear k1;go_enter Tryz.func88,Tryz.ntmps88;go_wp2_with (fail);rw[←hW1];clear hW1
  go_region_held3 (fun w'=>Below W1.heap.size W1 w'∧w'.cell? ⟨W.heap.size,0,none⟩=some (.int .i64 a.kind)∧w'.cell? ⟨W.heap.size,1,none⟩=some (.string a.name)∧w'.cell? ⟨W.heap.size,2,none⟩=some (.int .i64 a.lo)∧w'.cell? ⟨W.heap.size,3,none⟩=some (.int .i64 a.hi)∧w'.cell? ⟨W.heap.size,4,none⟩=some (.slice Aa a.args.length ca)∧w'.cell? ⟨W.heap.size+1,1,none⟩=some (.string b.name))
   (first|exact⟨(Below.refl _ W1).drew,a0,a1,a2,a3,a4,c1⟩|(go_split_ands;exact⟨zab (by assumption) hbu,zaa (by assumption) hbu,zaa (by assumption) hbu,zaa (by assumption) hbu,zaa (by assumption) hbu,zaa (by assumption) hbu,zaa (by assumption) hbu⟩))
   (first
    |((go_at_call 133;refine(HTO.out _).mono ?_;rintro e U ⟨rfl,hbu⟩))
    |((go_at_call 132;refine(HUN.out _ _ _ (zab b1 (by go_split_ands;assumption))).mono ?_;rintro e U2 ⟨rfl,hbu⟩)))
  all_goals
   have qe:Below W1.heap.size W1 U2:=by go_split_ands;assumption
   have qf:=zab b1 qe;clear HTO HUN;go_wp2;go_ret;exact⟨(by rw[HFB.out];try rfl),qf⟩
 have e1:(b.kind==1)=false:=Qfz k1;by_cases hk2:a.kind=b.kind;rotate_left
 ·have HD:Hid (r=false):=Qaz (by rw[←HF.out,if_neg k1,if_pos hk2]);have t2:(a.kind != b.kind)=true:=by rw[bne_iff_ne];exact hk2
  clear k1 hk2;go_enter Tryz.func88,Tryz.ntmps88;go_wp2;go_ret;exact⟨(by rw[HD.out];try rfl),by rw[←hW1];exact b1⟩
 have t2:(a.kind != b.kind)=false:=bne_eq_false_iff_eq.2 hk2;by_cases k4:a.kind=4
 ·have HD:Hid (r=za0 l a.name b.name):=Qaz (by
   rw[←HF.out,if_neg k1,if_neg (fun h=>h hk2),if_neg (by omega),if_neg (by omega)])
  have e4:(a.kind==4)=true:=beq_iff_eq.2 k4;have HU2:=Qaz (HUN.out W1 a.name b.name b1);clear k1 hk2 k4;go_enter Tryz.func88,Tryz.ntmps88;go_wp2_with (fail);rw[←hW1];clear hW1;refine HU2.out.mono ?_;rintro e V ⟨rfl,hb⟩;have qf:=zab b1 hb;go_wp2;go_ret;exact⟨by rw[HD.out];try rfl,qf⟩
 have e4:(a.kind==4)=false:=Qfz k4;by_cases k3:a.kind=3
 ·have HD:Hid (r=(a.lo==b.lo)):=Qaz (by
   rw[←HF.out,if_neg k1,if_neg (fun h=>h hk2),if_neg (by omega),if_pos k3];by_cases e:a.lo=b.lo
   ·rw[Qhz e,beq_iff_eq.2 e]
   ·rw[Qgz e,Qfz e])
  have e3:(a.kind==3)=true:=beq_iff_eq.2 k3;clear k1 hk2 k4 k3;go_enter Tryz.func88,Tryz.ntmps88;go_wp2;go_ret;exact⟨(by rw[HD.out];try rfl),by rw[←hW1];exact b1⟩
 have e3:(a.kind==3)=false:=Qfz k3;have k2:a.kind=2:=by rcases HK.out with h|h|h|h<;>first|exact h|omega
 have HD:Hid (r=(decide (b.lo≤a.lo)&&decide (a.hi≤b.hi))):=Qaz (by
   rw[←HF.out,if_neg k1,if_neg (fun h=>h hk2),if_pos k2])
 clear k1 hk2 k4 k3 k2;by_cases q1:b.lo≤a.lo
 ·by_cases q2:a.hi≤b.hi
  ·have HE:Hid (r=true):=Qaz (by rw[HD.out,Qhz q1,Qhz q2];rfl);have d1:decide (b.lo≤a.lo)=true:=Qhz q1;have d2:decide (a.hi≤b.hi)=true:=Qhz q2;clear q1 q2;go_enter Tryz.func88,Tryz.ntmps88;go_wp2;go_ret;exact⟨(by rw[HE.out];try rfl),by rw[←hW1];exact b1⟩
  ·have HE:Hid (r=false):=Qaz (by rw[HD.out,Qgz q2];simp);have d1:decide (b.lo≤a.lo)=true:=Qhz q1;have d2:decide (a.hi≤b.hi)=false:=Qgz q2;clear q1 q2;go_enter Tryz.func88,Tryz.ntmps88;go_wp2;go_ret;exact⟨(by rw[HE.out];try rfl),by rw[←hW1];exact b1⟩
 ·have HE:Hid (r=false):=Qaz (by rw[HD.out,Qgz q1];rfl);have d1:decide (b.lo≤a.lo)=false:=Qgz q1;clear q1;go_enter Tryz.func88,Tryz.ntmps88;go_wp2;go_ret;exact⟨(by rw[HE.out];try rfl),by rw[←hW1];exact b1⟩
theorem Ty.flat_len:∀(n:Nat)(l:List Ty),Ty.counts l≤n→(l.flatMap Ty.pieces).length≤Ty.counts l
 |n,[],_=>by simp
 |0,t::r,h=>by rw[Ty.counts]at h;have:=t.count_pos;omega
 |n+1,t::r,h=>by
  rw[Ty.counts]at h ⊢;have hp:=t.count_pos;have h1:=Ty.flat_len n r (by omega);have h2:t.pieces.length≤t.count:=by
   by_cases hk:t.kind=5
   ·rw[Ty.pieces_union hk];have e:t.count=1+Ty.counts t.args:=by rw[Ty.count_args,Ty.counts_eq]
    by_cases hr:Ty.counts r=0
    ·have:=Ty.flat_len n t.args (by omega);omega
    ·have:=Ty.flat_len n t.args (by omega);omega
   ·rw[Ty.pieces_leaf hk];simp;omega
  rw[List.flatMap_cons,List.length_append];omega
theorem Ty.pieces_len(t:Ty):t.pieces.length≤t.count:=by
 have:=Ty.flat_len (Ty.counts [t]) [t] (Qiz _)
 simpa[Ty.counts]using this
theorem Ty.take_len{t x:Ty}{k:Nat}(h:t.args[k]? =some x):((t.args.take k).flatMap Ty.pieces).length+x.count≤t.count:=by
 have h1:=Ty.flat_len _ (t.args.take k) (Qiz _);have h2:t.count=1+(t.args.map Ty.count).sum:=Ty.count_args t;have h3:(t.args.map Ty.count).sum=((t.args.take (k+1)).map Ty.count).sum+((t.args.drop (k+1)).map Ty.count).sum:=by
  rw[←List.sum_append,←List.map_append,List.take_append_drop]
 rw[take_snoc h,List.map_append,List.sum_append]at h3;rw[Ty.counts_eq]at h1;simp only[List.map_cons,List.map_nil,List.sum_cons,List.sum_nil,Nat.add_zero]at h3;omega
theorem zhn(N:Nat):∀(q:Nat)(t:Ty),t.count≤q→∀(A:Option Addr)(c:Nat)(W:World)(l:List Ty)(v:Value),N≤W.heap.size→Own typR 36 5 N (· <N) v l W→t.args.length≤c→Held (· <N) (Typs A t.args) W→t.all (fun x=>decide (x.args.length≤1000000))=true→l.length+t.count≤1000000000→
   Calls Tryz.prog 87 #[v,tyV t A c] W fun e W'=>∃v',e=.returned v'∧Own typR 36 5 N (· <N) v' (l++t.pieces) W'∧Chg (fun b=>v.ownBlock=some b) W W'∧(v'.ownBlock=v.ownBlock∨∀b,v'.ownBlock=some b→W.heap.size≤b):=by
 intro q
 induction q with
 |zero=>intro t hq;have:=t.count_pos;omega
 |succ q ih=>
  intro t hq A c W l v hN hO hc hT hall hlen;have HIH:=Qaz ih;clear ih;have HALL:=Qaz hall;have HQ:=Qaz hq;have HLEN:=Qaz hlen;have HC:=Qaz hc;clear hall hq hlen hc;obtain⟨W1,hW1⟩:∃W1,W1=W.alloc (.cells #[.int .i64 t.kind,.string t.name,.int .i64 t.lo,.int .i64 t.hi,.slice A t.args.length c] 36):=⟨_,rfl⟩;have b1:Below W.heap.size W W1:=by rw[hW1];exact(Below.refl _ W).alloc (Qiz _) _
  have hs1:W1.heap.size=W.heap.size+1:=by rw[hW1];simp
  have xt:∀j u,[Value.int .i64 t.kind,.string t.name,.int .i64 t.lo,.int .i64 t.hi,.slice A t.args.length c][j]? =some u→W1.cell? ⟨W.heap.size,j,none⟩=some u:=fun j u hj=>by rw[hW1];exact zac W _ _ _ rfl j u hj
  have XT:=Qaz xt;have c0:=xt 0 _ rfl;have c1:=xt 1 _ rfl;have c2:=xt 2 _ rfl;have c3:=xt 3 _ rfl;have c4:=xt 4 _ rfl;clear xt;have HO:=Qaz hO;have HO1:=Qaz (hO.all b1);have HT:=Qaz hT;have HT1:=Qaz (hT.keep (Keep.all b1));clear hO hT;go_enter Tryz.func87,Tryz.ntmps87;by_cases hk:t.kind=5
  ·have t1:(t.kind != 5)=false:=bne_eq_false_iff_eq.2 hk;have HP:=Qaz (Ty.pieces_union hk);have hlen:t.args.length≤1000000:=zkz HALL.out;clear hk;go_wp2_with (fail);rw[←hW1];clear hW1 c0 c1 c2 c3 c4
   go_loopw [0,5] (fun u i wr=>∃k:Nat,k≤t.args.length∧i=.int .i64 k∧Own typR 36 5 N (· <N) u (l++(t.args.take k).flatMap Ty.pieces) wr∧Chg (fun b=>v.ownBlock=some b) W1 wr∧(u.ownBlock=v.ownBlock∨∀b,u.ownBlock=some b→W1.heap.size≤b)) (fun _ i _=>t.args.length-(intOf i).toNat)
   case atStart=>exact⟨0,Qjz _,rfl,by simpa using HO1.out,Chg.refl _ _,.inl rfl⟩
   case round=>
    obtain⟨k,hk,rfl,ho,hch,hob⟩:=hrel;have HO2:=Qaz ho;have HCH:=Qaz hch;have HOB:=Qaz hob;have c4:wr.cell? ⟨W.heap.size,4,none⟩=some (.slice A t.args.length c):=zah (XT.out 4 _ rfl) (HCH.out.keep (G:=(· =W.heap.size)) (fun b hb e=>by have:=(HO.out.lt _ e).2;omega)) rfl;clear ho hch hob;by_cases hlt:k<t.args.length
    ·obtain⟨b,off,rfl⟩:=Slc.addrH HT.out (by omega);have hx:t.args[k]? =some t.args[k]:=Qbz hlt;generalize t.args[k]=x at hx;have HX:=Qaz hx;have bN:Below N W1 wr:=HCH.out.below (by omega) (fun b e=>(HO.out.lt _ e).1);have kN:Keep (· <N) W1 wr:=Keep.below bN;obtain⟨A3,c3',r1,r2,g0,g1,g2,g3,g4⟩:=Typs.atH (HT1.out.keep kN) hx;have hxm:x∈t.args:=Qdz hx;have hax:=zq6 HALL.out hxm;have hcx:x.count≤q:=by have:=Ty.count_mem hxm;have:=HQ.out;omega
     have HST:=Qaz (fun(hlx:(l++(t.args.take k).flatMap Ty.pieces).length+x.count≤1000000000)=>HIH.out x hcx A3 c3' wr _ _ (by have:=HCH.out.size;omega) HO2.out r1 r2 hax hlx);have HLX:Hid ((l++(t.args.take k).flatMap Ty.pieces).length+x.count≤1000000000):=Qaz (by
      have h1:=Ty.take_len hx;have h2:=HLEN.out;rw[List.length_append];omega)
     clear hx r1 r2 kN bN hax hcx hxm;go_wp2_with (fail);refine(HST.out HLX.out).mono ?_;clear HST;rintro e V ⟨u2,rfl,hou,hcv,hvb⟩;have HOU:=Qaz hou;have HCV:=Qaz hcv;have HVB:=Qaz hvb;clear hou hcv hvb;go_wp2;go_roundw
     case rel=>
      refine⟨k+1,by omega,by go_num,?_,?_,?_⟩
      ·rw[take_snoc HX.out,List.flatMap_append,←List.append_assoc];have:=HOU.out
       simpa using this
      ·refine HCH.out.trans2 HCV.out ?_;intro b e;rcases HOB.out with h|h
       ·exact .inl (by rw[←h];exact e)
       ·exact .inr (h b e)
      ·rcases HVB.out with h|h
       ·rw[h];exact HOB.out
       ·exact .inr fun b e=>by have:=h b e;have:=HCH.out.size;omega
     case measure=>simp[intOf];omega
    ·obtain rfl:k=t.args.length:=by omega
     go_wp2;go_ret;refine⟨_,rfl,?_,(Chg.of b1).trans HCH.out,HOB.out.imp id fun h b e=>by have:=h b e;omega⟩;rw[HP.out];have:=HO2.out
     rwa [List.take_length]at this
  ·have t1:(t.kind != 5)=true:=by rw[bne_iff_ne];exact hk
   have HP:=Qaz (Ty.pieces_leaf hk);clear hk;have hNs:=hN;go_wp2_with (at_builtin;refine Classical.byContradiction fun hneg=> ?_);apply hneg;rw[←hW1];refine zao typR 36 5 N 64 (· <N) _ rfl _ _ 34 _ rfl Tryz.underlying34 z2g rfl (by decide) (by decide) v l rfl (HO1.out.alloc _) ⟨W.heap.size+1,0,none⟩ 1 rfl t [.int .i64 t.kind,.string t.name,.int .i64 t.lo,.int .i64 t.hi,.slice A t.args.length c] rfl ?cells ?one ((typR.mk HC.out HT1.out).keep (Keep.alloc _ _ _)) ?hG ?base ?len ?_
   case cells=>exact fun j u hu=>zaq W1 _ _ _ hs1.symm j u hu
   case one=>intro u hu;simp at hu;rcases hu with rfl|rfl|rfl|rfl|rfl<;>rfl
   case hG=>exact fun b hb e=>by have:=(HO1.out.lt _ e).1;omega
   case base=>simp;omega
   case len=>have:=HLEN.out;omega
   intro v' w1 hown1 hg1 hob;have HOF:=Qaz hown1;have HCF:Hid (Chg (fun b=>v.ownBlock=some b) W w1):=Qaz (((Chg.of b1).trans (Chg.alloc _ _)).trans (Chg.grown hg1 fun b e=>e));have HBF:Hid (v'.ownBlock=v.ownBlock∨∀b,v'.ownBlock=some b→W.heap.size≤b):=Qaz (hob.imp id fun h b e=>by rw[h]at e;cases e;simp;omega);clear hown1 hg1 hob;go_wp2;go_ret;exact⟨_,rfl,by rw[HP.out];exact HOF.out,HCF.out,HBF.out⟩
mutual
theorem Ty.leaf_mem{p:Ty→Bool}:∀t:Ty,t.all p=true→∀x∈t.pieces,p x=true∧x.kind≠5
 | .mk a b c d args,e,x,hx=>by
  rw[Ty.all,Bool.and_eq_true]at e;by_cases h5:a=5
  ·rw[Ty.pieces,if_pos h5]at hx;exact Ty.leaf_memL args e.2 x hx
  ·rw[Ty.pieces,if_neg h5,List.mem_singleton]at hx;subst hx;exact⟨e.1,h5⟩
theorem Ty.leaf_memL{p:Ty→Bool}:∀l:List Ty,Ty.alls p l=true→∀x∈Ty.piecesL l,p x=true∧x.kind≠5
 | [],_,x,hx=>by simp[Ty.piecesL]at hx
 |t::r,e,x,hx=>by
  rw[Ty.alls,Bool.and_eq_true]at e;rw[Ty.piecesL,List.mem_append]at hx;rcases hx with h|h
  ·exact Ty.leaf_mem t e.1 x h
  ·exact Ty.leaf_memL r e.2 x h
end
theorem zz4{l:List CI}{t:Ty}(h:zam l t=true):∀x∈t.pieces,zr0 x:=by
 intro x hx;obtain⟨h1,h2⟩:=Ty.leaf_mem t h x hx;unfold zar at h1;unfold zr0;by_cases k1:x.kind=1∨x.kind=4
 ·rcases k1 with k|k
  ·exact .inl k
  ·exact .inr (.inr (.inr k))
 ·rw[if_neg k1]at h1;by_cases k2:x.kind=2
  ·exact .inr (.inl k2)
  ·rw[if_neg k2]at h1;by_cases k3:x.kind=3
   ·exact .inr (.inr (.inl k3))
   ·rw[if_neg k3,if_neg h2]at h1;cases h1
theorem zhp{l:List CI}{t:Ty}(h:zaj l t=0):∀x∈t.pieces,zr0 x:=by
 refine zz4 (l:=l) ?_;unfold zaj at h
 split at h
 ·split at h
  ·assumption
  ·cases h
 ·contradiction
theorem zhi(AH:Option Addr)(cH:Nat)(l:List CI)(hcp:∀x∈l,x.cpl.length≤1000000)(s t:Ty)(As At:Option Addr)(cs ct:Nat)(W:World)(hi:HiIn W AH cH l)(hs:TyIn W s As cs)(ht:TyIn W t At ct)(hks:∀x∈s.pieces,zr0 x):
  Calls Tryz.prog 52 #[.slice AH l.length cH,tyV s As cs,tyV t At ct] W fun e W'=>e=.returned (.bool (za5 l s t))∧Below W.heap.size W W':=by
 obtain⟨W1,hW1⟩:∃W1,W1=(W.alloc (.cells #[.int .i64 s.kind,.string s.name,.int .i64 s.lo,.int .i64 s.hi,.slice As s.args.length cs] 36)).alloc (.cells #[.int .i64 t.kind,.string t.name,.int .i64 t.lo,.int .i64 t.hi,.slice At t.args.length ct] 36):=⟨_,rfl⟩;have b1:Below W.heap.size W W1:=by rw[hW1];exact((Below.refl _ W).alloc (Qiz _) _).alloc (by simp) _
 have xs:∀j u,[Value.int .i64 s.kind,.string s.name,.int .i64 s.lo,.int .i64 s.hi,.slice As s.args.length cs][j]? =some u→W1.cell? ⟨W.heap.size,j,none⟩=some u:=fun j u hj=>by rw[hW1];exact zat (zac W _ _ _ rfl j u hj)
 have xt:∀j u,[Value.int .i64 t.kind,.string t.name,.int .i64 t.lo,.int .i64 t.hi,.slice At t.args.length ct][j]? =some u→W1.cell? ⟨W.heap.size+1,j,none⟩=some u:=fun j u hj=>by rw[hW1];exact zac (W.alloc _) _ _ _ (by simp) j u hj
 have s0:=xs 0 _ rfl;have s1:=xs 1 _ rfl;have s2:=xs 2 _ rfl;have s3:=xs 3 _ rfl;have s4:=xs 4 _ rfl;have XT:=Qaz xt;have HI:=Qaz hi;have HPS:Hid (Calls Tryz.prog 87 #[.slice none 0 0,tyV s As cs] W1 fun e V=>∃A c,e=.returned (.slice A s.pieces.length c)∧s.pieces.length≤c∧(∃G,Held G (Typs A s.pieces) V)∧Below W1.heap.size W1 V):=Qaz (by
  obtain⟨G,h2⟩:=hs.h2;refine(zhn W.heap.size s.count s (Qiz _) As cs W1 [] (.slice none 0 0) b1.size (Own.nil _ _ _ _ _ _) hs.h1 (h2.here.keep (Keep.below b1)) hs.hs.1 (by simpa using hs.hs.2)).mono ?_;rintro e V ⟨v,rfl,ho,hc,_⟩;obtain⟨A,c,rfl,h3,h4⟩:=ho.out;exact⟨A,c,rfl,h3,⟨_,h4⟩,hc.below (Qiz _) (fun b e=>by cases e)⟩)
 have HPT:Hid (∀V0,Below W.heap.size W V0→Calls Tryz.prog 87 #[.slice none 0 0,tyV t At ct] V0 fun e V=>∃A c,e=.returned (.slice A t.pieces.length c)∧t.pieces.length≤c∧(∃G,Held G (Typs A t.pieces) V)∧Below V0.heap.size V0 V):=Qaz (fun V0 hv=>by
  obtain⟨G,h2⟩:=ht.h2;refine(zhn W.heap.size t.count t (Qiz _) At ct V0 [] (.slice none 0 0) hv.size (Own.nil _ _ _ _ _ _) ht.h1 (h2.here.keep (Keep.below hv)) ht.hs.1 (by simpa using ht.hs.2)).mono ?_;rintro e V ⟨v,rfl,ho,hc,_⟩;obtain⟨A,c,rfl,h3,h4⟩:=ho.out;exact⟨A,c,rfl,h3,⟨_,h4⟩,hc.below (Qiz _) (fun b e=>by cases e)⟩)
 have HPC:Hid (∀V x y Ax Ay cx cy,x∈s.pieces→Below W.heap.size W V→Calls Tryz.prog 88 #[.slice AH l.length cH,tyV x Ax cx,tyV y Ay cy] V fun e V'=>e=.returned (.bool (za6 l x y))∧Below V.heap.size V V'):=Qaz (fun V x y Ax Ay cx cy hx hv=>by
  obtain⟨G,h⟩:=(HI.out.keep hv).h;exact zo3 AH cH l x y Ax Ay cx cy V G h HI.out.hl hcp (hks x hx))
 have hls:s.pieces.length≤1000000000:=Nat.le_trans (Ty.pieces_len s) (hs.hs.2);have hlt:t.pieces.length≤1000000000:=Nat.le_trans (Ty.pieces_len t) (ht.hs.2);obtain⟨r,hr⟩:∃r,za5 l s t=r:=⟨_,rfl⟩;rw[hr];have HR:Hid (za5 l s t=r):=Qaz hr;unfold za5 at HR;clear hr hi hs ht hcp hks xs xt;go_enter Tryz.func52,Tryz.ntmps52;generalize s.pieces=P at HPS HPC HR hls;generalize t.pieces=T at HPT HR hlt;have HLS:=Qaz hls;have HLT:=Qaz hlt;clear hls hlt;go_wp2_with (fail);rw[←hW1];clear hW1;refine HPS.out.mono ?_;clear HPS;rintro e V1 ⟨AP,cP,rfl,hcP,⟨GP,hP⟩,hb1⟩;have q1:=zab b1 hb1;have HP1:=Qaz hP
 clear hP s0 s1 s2 s3 s4;have t0:=zaa (XT.out 0 _ rfl) hb1;have t1:=zaa (XT.out 1 _ rfl) hb1;have t2:=zaa (XT.out 2 _ rfl) hb1;have t3:=zaa (XT.out 3 _ rfl) hb1;have t4:=zaa (XT.out 4 _ rfl) hb1;go_wp2_with (fail);refine(HPT.out V1 q1).mono ?_;clear HPT t0 t1 t2 t3 t4;rintro e V2 ⟨AT,cT,rfl,hcT,⟨GT,hT⟩,hb2⟩;have q2:=zab q1 hb2;have HP:=Qaz (HP1.out.keep (Keep.all hb2));have HT:=Qaz hT;clear hT HP1;go_wp2_with (fail)
 go_loopw [9] (fun i wr=>∃k:Nat,k≤P.length∧i=.int .i64 k∧((P.take k).all fun a=>T.any fun b=>za6 l a b)=true∧Below V2.heap.size V2 wr) (fun i _=>P.length-(intOf i).toNat)
 case atStart=>exact⟨0,Qjz _,rfl,by simp,Below.refl _ _⟩
 case round=>
  obtain⟨k,hk,rfl,hall,hb⟩:=hrel;have HALL:=Qaz hall;clear hall;have qr:=zab q2 hb;by_cases hlt:k<P.length;rotate_left
  ·obtain rfl:k=P.length:=by omega
   have HE:Hid (r=true):=Qaz (by rw[←HR.out];have:=HALL.out;rwa [List.take_length]at this);go_wp2;go_ret;exact⟨by rw[HE.out];try rfl,qr⟩
  obtain⟨b,off,rfl⟩:=Slc.addrH HP.out (by omega);have hx:P[k]? =some P[k]:=Qbz hlt;generalize P[k]=x at hx;have hk9:k≤1000000000:=by have:=HLS.out;omega
  have HX:=Qaz hx;clear hx;go_wp2_with (fail)
  go_loopw [10,11] (fun v i w2=>∃j:Nat,j≤T.length∧i=.int .i64 j∧v=.bool ((T.take j).any fun b=>za6 l x b)∧Below wr.heap.size wr w2) (fun _ i _=>T.length-(intOf i).toNat)
  case atStart=>exact⟨0,Qjz _,rfl,by simp,Below.refl _ _⟩
  case round=>
   obtain⟨j,hj,rfl,rfl,hbi⟩:=hrel;have hb2i:=zab hb hbi;have qi:=zab qr hbi;cases hany:((T.take j).any fun b=>za6 l x b)with
   |true=>
    have HA:Hid ((T.any fun b=>za6 l x b)=true):=Qaz (by
     obtain⟨y,hy,hy2⟩:=List.any_eq_true.1 hany;exact List.any_eq_true.2 ⟨y,List.mem_of_mem_take hy,hy2⟩)
    have HN:Hid (((P.take (k+1)).all fun a=>T.any fun b=>za6 l a b)=true):=Qaz (by
     rw[take_snoc HX.out,List.all_append,HALL.out];simp only[List.all_cons,List.all_nil,Bool.and_true,Bool.true_and];exact HA.out)
    clear hany;have HLK:=Qaz hlt;by_cases hjl:j<T.length
    ·have d1:decide ((j:Int)<(T.length:Int))=true:=Qhz (by omega);go_wp2;go_roundw
     case rel=>exact⟨k+1,by have:=HLK.out;omega,by go_num,HN.out,hb2i⟩
     case measure=>have:=HLK.out;simp[intOf];omega
    ·have d1:decide ((j:Int)<(T.length:Int))=false:=Qgz (by omega);go_wp2;go_roundw
     case rel=>exact⟨k+1,by have:=HLK.out;omega,by go_num,HN.out,hb2i⟩
     case measure=>have:=HLK.out;simp[intOf];omega
   |false=>
   by_cases hjl:j<T.length;rotate_left
   ·obtain rfl:j=T.length:=by omega
    have HE:Hid (r=false):=Qaz (by
     rw[←HR.out];refine List.all_eq_false.2 ⟨x,Qdz HX.out,?_⟩;rw[List.take_length]at hany;rw[hany];simp)
    clear hany;go_wp2;go_ret;exact⟨by rw[HE.out];try rfl,qi⟩
   have HANY:=Qaz hany;clear hany;obtain⟨b',off',rfl⟩:=Slc.addrH HT.out (by omega);have hy:T[j]? =some T[j]:=Qbz hjl;generalize T[j]=y at hy;have hj9:j≤1000000000:=by have:=HLT.out;omega
   have HY:=Qaz hy;obtain⟨A3,c3,_,_,g0,g1,g2,g3,g4⟩:=Typs.atH (HP.out.keep (Keep.all hb2i)) HX.out;obtain⟨A4,c4,_,_,f0,f1,f2,f3,f4⟩:=Typs.atH (HT.out.keep (Keep.all hb2i)) HY.out;have HPC2:=Qaz (fun V (hv:Below wr.heap.size wr V)=>HPC.out V x y A3 A4 c3 c4 (Qdz HX.out) (zab qi hv));clear hy;have HN2:Hid (∀z,za6 l x y=z→((T.take (j+1)).any fun b=>za6 l x b)=z):=Qaz (fun z hz=>by
    rw[take_snoc HY.out,List.any_append,HANY.out];simpa using hz)
   obtain⟨z,hz⟩:∃z,za6 l x y=z:=⟨_,rfl⟩;have HN3:=Qaz (HN2.out z hz);rw[hz]at HPC2;clear HN2 hz;have w1:(0:Int)≤(k:Int):=by omega
   have wr':(k:Int)<(P.length:Int):=by omega
   have w3:(0:Int)≤(j:Int):=by omega
   have w4:(j:Int)<(T.length:Int):=by omega
   have HJL:=Qaz hjl;go_wp2_with (fail)
   go_region_held3 (fun w'=>Below wr.heap.size wr w'∧
     w'.cell? ⟨b,off+k*5,none⟩=some (.int .i64 x.kind)∧w'.cell? ⟨b,off+k*5+1,none⟩=some (.string x.name)∧w'.cell? ⟨b,off+k*5+2,none⟩=some (.int .i64 x.lo)∧w'.cell? ⟨b,off+k*5+3,none⟩=some (.int .i64 x.hi)∧w'.cell? ⟨b,off+k*5+4,none⟩=some (.slice A3 x.args.length c3)∧
     w'.cell? ⟨b',off'+j*5,none⟩=some (.int .i64 y.kind)∧w'.cell? ⟨b',off'+j*5+1,none⟩=some (.string y.name)∧w'.cell? ⟨b',off'+j*5+2,none⟩=some (.int .i64 y.lo)∧w'.cell? ⟨b',off'+j*5+3,none⟩=some (.int .i64 y.hi)∧w'.cell? ⟨b',off'+j*5+4,none⟩=some (.slice A4 y.args.length c4))
    (first|exact⟨(Below.refl _ wr).drew,g0,g1,g2,g3,g4,f0,f1,f2,f3,f4⟩|(go_split_ands;exact⟨zab (by assumption) hbu,zaa (by assumption) hbu,zaa (by assumption) hbu,zaa (by assumption) hbu,zaa (by assumption) hbu,zaa (by assumption) hbu,zaa (by assumption) hbu,zaa (by assumption) hbu,zaa (by assumption) hbu,zaa (by assumption) hbu,zaa (by assumption) hbu⟩))
    ((go_at_call 88;refine(HPC2.out _ (by go_split_ands;assumption)).mono ?_;rintro e U ⟨rfl,hbu⟩))
   have hb5:Below wr.heap.size wr U:=by go_split_ands;assumption
   have hb6:=zab hbi hb5;clear HPC2;go_wp2;go_roundw
   case rel=>exact⟨j+1,by have:=HJL.out;omega,by go_num,by rw[HN3.out],hb6⟩
   case measure=>have:=HJL.out;simp[intOf];omega
end
def zjy(c:Int):Int:=if c=0 then 2 else if c=1 then 1 else if c=2 then -1 else 0
theorem zki(AH:Option Addr)(cH:Nat)(l:List CI)(hL:zai l)(s t:Ty)(As At:Option Addr)(cs ct:Nat)(v:Tag)(W:World)(hi:HiIn W AH cH l)(hs:TyIn W s As cs)(ht:TyIn W t At ct)(hks:∀x∈s.pieces,zr0 x)(hkt:∀x∈t.pieces,zr0 x):
  Calls Tryz.prog 59 #[.slice AH l.length cH,tyV s As cs,tyV t At ct,tagV v] W fun e W'=>e=.returned (.int .i64 (zjy (zgs l (za9 l v) s t)))∧Below W.heap.size W W':=by
 obtain⟨W1,hW1⟩:∃W1,W1=((W.alloc (.cells #[.int .i64 s.kind,.string s.name,.int .i64 s.lo,.int .i64 s.hi,.slice As s.args.length cs] 36)).alloc (.cells #[.int .i64 t.kind,.string t.name,.int .i64 t.lo,.int .i64 t.hi,.slice At t.args.length ct] 36)).alloc (.cells #[.int .i64 v.kind,.int .i64 v.num,.string v.name] 39):=⟨_,rfl⟩;have b1:Below W.heap.size W W1:=by rw[hW1];exact(((Below.refl _ W).alloc (Qiz _) _).alloc (by simp) _).alloc (by simp;omega) _
 have xs:∀j u,[Value.int .i64 s.kind,.string s.name,.int .i64 s.lo,.int .i64 s.hi,.slice As s.args.length cs][j]? =some u→W1.cell? ⟨W.heap.size,j,none⟩=some u:=fun j u hj=>by rw[hW1];exact zat (zat (zac W _ _ _ rfl j u hj))
 have xt:∀j u,[Value.int .i64 t.kind,.string t.name,.int .i64 t.lo,.int .i64 t.hi,.slice At t.args.length ct][j]? =some u→W1.cell? ⟨W.heap.size+1,j,none⟩=some u:=fun j u hj=>by rw[hW1];exact zat (zac (W.alloc _) _ _ _ (by simp) j u hj)
 have xv:∀j u,[Value.int .i64 v.kind,.int .i64 v.num,.string v.name][j]? =some u→W1.cell? ⟨W.heap.size+2,j,none⟩=some u:=fun j u hj=>by rw[hW1];exact zac ((W.alloc _).alloc _) _ _ _ (by simp) j u hj
 have XS:=Qaz xs;have XT:=Qaz xt;have XV:=Qaz xv;have HI:=Qaz hi;have HCP:=Qaz (zgn hL);have HLK:=Qaz hL;have HIA:Hid (∀V,Below W.heap.size W V→Calls Tryz.prog 52 #[.slice AH l.length cH,tyV s As cs,tyV t At ct] V fun e V'=>e=.returned (.bool (za5 l s t))∧Below V.heap.size V V'):=Qaz (fun V q=>zhi AH cH l (zgn hL) s t As At cs ct V (hi.keep q) (hs.keep q) (ht.keep q) hks)
 have HIB:Hid (∀V,Below W.heap.size W V→Calls Tryz.prog 52 #[.slice AH l.length cH,tyV t At ct,tyV s As cs] V fun e V'=>e=.returned (.bool (za5 l t s))∧Below V.heap.size V V'):=Qaz (fun V q=>zhi AH cH l (zgn hL) t s At As ct cs V (hi.keep q) (ht.keep q) (hs.keep q) hkt);have s0:=xs 0 _ rfl;have s1:=xs 1 _ rfl;have t0:=xt 0 _ rfl;have t1:=xt 1 _ rfl;have v0:=xv 0 _ rfl;have v1:=xv 1 _ rfl;have v2:=xv 2 _ rfl;clear xs xt xv hi hs ht hks hkt hL;obtain⟨r,hr⟩:∃r,zjy (zgs l (za9 l v) s t)=r:=⟨_,rfl⟩;rw[hr];have HF:Hid (zjy (zgs l (za9 l v) s t)=r):=Qaz hr;unfold zgs at HF;clear hr
 by_cases hk:s.kind=1∧t.kind=1
 ·have k1:(s.kind==1)=true:=beq_iff_eq.2 hk.1;have k2:(t.kind==1)=true:=beq_iff_eq.2 hk.2;have HFA:Hid (zjy (if idx (za9 l v) t.name<idx (za9 l v) s.name then 2 else if idx (za9 l v) s.name<idx (za9 l v) t.name then 1 else 0)=r):=Qaz (by rw[←HF.out,if_pos hk]);have HSC:Hid ((za9 l v).length≤1000000):=Qaz (zeq HLK.out v);clear hk HF;go_enter Tryz.func59,Tryz.ntmps59;go_wp2_with (fail);rw[←hW1];clear hW1;refine(zgo v W1).mono ?_;rintro e V ⟨rfl,hb⟩;have q1:=zab b1 hb;obtain⟨G,h⟩:=(HI.out.keep q1).h
  have HC:Hid (Calls Tryz.prog 95 #[.slice AH l.length cH,.string (zbd v)] V fun e w'=>w'=V∧∃A' c',e=.returned (.slice A' (za9 l v).length c')∧(za9 l v).length≤c'∧Held G (Strs A' (za9 l v)) V):=Qaz (znt AH cH l (zbd v) V G h HI.out.hl);generalize za9 l v=z at HC HFA HSC;clear h s0 s1 t0 t1 v0 v1 v2;go_wp2_with (fail);refine HC.out.mono ?_;clear HC;rintro e V2 ⟨rfl,A',c',rfl,h1,h2⟩;have HX:=Qaz (fun y=>zbv A' c' z y V2 h2.now HSC.out);clear h1 h2;have s1:=zaa (XS.out 1 _ rfl) hb;have t1:=zaa (XT.out 1 _ rfl) hb;have HXS:=Qaz (HX.out s.name);have HXT:=Qaz (HX.out t.name);clear HX
  generalize idx z s.name=is at HXS HFA;generalize idx z t.name=it at HXT HFA;go_wp2_with (fail);refine HXS.out.mono ?_;clear HXS;rintro e V3 ⟨rfl,rfl⟩;go_wp2_with (fail);refine HXT.out.mono ?_;clear HXT;rintro e V3 ⟨rfl,rfl⟩;by_cases e1:is=it
  ·have HE:Hid (r=2):=Qaz (by rw[←HFA.out,if_neg (by omega),if_neg (by omega)];rfl);have d1:(is==it)=true:=beq_iff_eq.2 e1;clear e1;go_wp2;go_ret;exact⟨(by rw[HE.out];try rfl),q1⟩
  ·have d1:(is==it)=false:=Qfz e1;by_cases e2:is<it
   ·have HE:Hid (r=1):=Qaz (by rw[←HFA.out,if_neg (by omega),if_pos e2];rfl);have d2:decide (is<it)=true:=Qhz e2;clear e1 e2;go_wp2;go_ret;exact⟨(by rw[HE.out];try rfl),q1⟩
   ·have HE:Hid (r= -1):=Qaz (by rw[←HFA.out,if_pos (by omega)];rfl);have d2:decide (is<it)=false:=Qgz e2;clear e1 e2;go_wp2;go_ret;exact⟨(by rw[HE.out];try rfl),q1⟩
 ·have HFA:Hid (zjy (if za5 l s t then(if za5 l t s then 0 else 1)else(if za5 l t s then 2 else 3))=r):=Qaz (by rw[←HF.out,if_neg hk]);clear HF;have HA:=Qaz (HIA.out W1 b1);generalize za5 l s t=a at HIA HA HFA;generalize za5 l t s=b at HIB HFA;have s2:=XS.out 2 _ rfl;have s3:=XS.out 3 _ rfl;have s4:=XS.out 4 _ rfl;have t2:=XT.out 2 _ rfl;have t3:=XT.out 3 _ rfl;have t4:=XT.out 4 _ rfl;have tail:∀V,Below W1.heap.size W1 V→V.cell? ⟨W.heap.size,0,none⟩=some (.int .i64 s.kind):=fun V hv=>zaa s0 hv;by_cases k1:s.kind=1
  ·have d1:(s.kind==1)=true:=beq_iff_eq.2 k1;have d2:(t.kind==1)=false:=Qfz fun h=>hk ⟨k1,h⟩;clear k1 hk tail;go_enter Tryz.func59,Tryz.ntmps59;go_wp2_with (fail);rw[←hW1];clear hW1;refine HA.out.mono ?_;clear HA HIA;rintro e V ⟨rfl,hb⟩;have q1:=zab b1 hb;have HB:=Qaz (HIB.out V q1);have s0:=zaa s0 hb;have s1:=zaa s1 hb;have s2:=zaa s2 hb;have s3:=zaa s3 hb;have s4:=zaa s4 hb;have t0:=zaa t0 hb;have t1:=zaa t1 hb;have t2:=zaa t2 hb;have t3:=zaa t3 hb;have t4:=zaa t4 hb;clear HIB;go_wp2_with (fail);refine HB.out.mono ?_;clear HB;rintro e V2 ⟨rfl,hb2⟩;have q2:=zab q1 hb2;cases a<;>cases b
   all_goals
    go_wp2;go_ret;exact⟨(by rw[←HFA.out];try rfl),q2⟩
  ·have d1:(s.kind==1)=false:=Qfz k1;clear k1 hk tail;go_enter Tryz.func59,Tryz.ntmps59;go_wp2_with (fail);rw[←hW1];clear hW1;refine HA.out.mono ?_;clear HA HIA;rintro e V ⟨rfl,hb⟩;have q1:=zab b1 hb;have HB:=Qaz (HIB.out V q1);have s0:=zaa s0 hb;have s1:=zaa s1 hb;have s2:=zaa s2 hb;have s3:=zaa s3 hb;have s4:=zaa s4 hb;have t0:=zaa t0 hb;have t1:=zaa t1 hb;have t2:=zaa t2 hb;have t3:=zaa t3 hb;have t4:=zaa t4 hb;clear HIB;go_wp2_with (fail);refine HB.out.mono ?_;clear HB;rintro e V2 ⟨rfl,hb2⟩;have q2:=zab q1 hb2;cases a<;>cases b
   all_goals
    go_wp2;go_ret;exact⟨(by rw[←HFA.out];try rfl),q2⟩
end Go.Proofs.YtepnmejahbiacaaGreat
