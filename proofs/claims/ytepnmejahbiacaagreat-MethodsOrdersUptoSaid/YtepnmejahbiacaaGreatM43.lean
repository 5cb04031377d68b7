/- Part 43 of the proof: Yn, Yd. -/
import Derived.Test.YtepnmejahbiacaaGreatM42
set_option linter.unusedVariables false
set_option linter.unusedSimpArgs false
set_option maxHeartbeats 64000000
set_option maxRecDepth 100000
namespace Go.Proofs.YtepnmejahbiacaaGreat
open Go.RowKit
section
attribute [local go_sem ↓] Go.wp_at_zero Go.wp_at_succ
theorem zqx{l:List CI}{t:Ty}(h:zar l t=true):((t.kind=1∨t.kind=2∨t.kind=3∨t.kind=4)∧t.args=[])∨t.kind=5:=by
 unfold zar at h;by_cases k1:t.kind=1∨t.kind=4
 ·rw[if_pos k1]at h;have h3:=(Bool.and_eq_true_iff.1 h).2;exact .inl ⟨by omega,List.length_eq_zero_iff.1 (of_decide_eq_true h3)⟩
 ·rw[if_neg k1]at h;by_cases k2:t.kind=2
  ·rw[if_pos k2]at h;have h3:=(Bool.and_eq_true_iff.1 h).2;exact .inl ⟨.inr (.inl k2),List.length_eq_zero_iff.1 (of_decide_eq_true h3)⟩
  ·rw[if_neg k2]at h;by_cases k3:t.kind=3
   ·rw[if_pos k3]at h;have h3:=(Bool.and_eq_true_iff.1 h).2;exact .inl ⟨.inr (.inr (.inl k3)),List.length_eq_zero_iff.1 (of_decide_eq_true h3)⟩
   ·rw[if_neg k3]at h;by_cases k5:t.kind=5
    ·exact .inr k5
    ·rw[if_neg k5]at h;cases h
theorem zmv(pb:Nat)(l:List CI):∀(q:Nat)(t:Ty),t.count≤q→zam l t=true→∀(A:Option Addr)(c:Nat)(p:Pcs)(vi vs vc:Value)(w:World),PcsAt pb p vi vs vc w→Held (fun b=>b<pb) (Typs A t.args) w→p.tot+t.count≤1000000→
  Calls Tryz.prog 195 #[.pointer (some ⟨pb,0,none⟩),tyV t A c] w fun e w'=>e=.returned (.tuple #[])∧∃vi' vs' vc',PcsAt pb (zc3 t p) vi' vs' vc' w'∧PMv pb vi vs vc w vi' vs' vc' w':=by
 intro q
 induction q with
 |zero=>
  intro t hc;exfalso;cases t;rw[Ty.count]at hc;omega
 |succ q ih=>
  intro t hc hf A c p vi vs vc w h hT htot;have hff:=hf;rw[zax]at hff;obtain⟨hf0,hfa⟩:=Bool.and_eq_true_iff.1 hff;have htot1:p.tot≤1000000:=by omega
  rcases zqx hf0 with⟨hk,ha⟩|hk
  ·rcases hk with hk|hk|hk|hk
   ·by_cases h1:t.name=zal
    ·exact zm2 pb t A c p vi vs vc w h hk h1 ha htot1
    ·by_cases h2:t.name=zan
     ·exact zmk pb t A c p vi vs vc w h hk h2
     ·exact zpo pb t A c p vi vs vc w h hk h1 h2 ha htot1
   ·exact zoz pb t A c p vi vs vc w h hk ha htot1
   ·exact zms pb t A c p vi vs vc w h hk
   ·by_cases h1:t.name=zak
    ·exact zna pb t A c p vi vs vc w h hk h1 ha htot1
    ·exact zoo pb t A c p vi vs vc w h hk h1 ha htot1
  ·have hlt:=h.lt;rw[zey,if_neg (by rw[hk];decide),if_neg (by rw[hk];decide),if_neg (by rw[hk];decide),if_neg (by rw[hk];decide),if_pos hk];have e2:(t.kind==2)=false:=Qfz (by rw[hk];decide);have e3:(t.kind==3)=false:=Qfz (by rw[hk];decide);have e4:(t.kind==4)=false:=Qfz (by rw[hk];decide);have e1:(t.kind==1)=false:=Qfz (by rw[hk];decide);have e5:(t.kind==5)=true:=beq_iff_eq.2 hk;have hcn:t.count=1+Ty.counts t.args:=by cases t;rw[Ty.count];rfl
   have han:t.args.length≤1000000:=by
    have:∀L:List Ty,L.length≤Ty.counts L:=by
     intro L
     induction L with
     |nil=>simp[Ty.counts]
     |cons x r ih2=>
      rw[Ty.counts,List.length_cons];have:1≤x.count:=by cases x;rw[Ty.count];omega
      omega
    have:=this t.args;omega
   obtain⟨W1,hW1⟩:∃W1,W1=(w.alloc (.cells #[.int .i64 t.kind,.string t.name,.int .i64 t.lo,.int .i64 t.hi,.slice A t.args.length c] 36)):=⟨_,rfl⟩;have b1:Below w.heap.size w W1:=by rw[hW1];exact(Below.refl _ w).alloc (Qiz _) _
   have x4:W1.cell? ⟨w.heap.size,4,none⟩=some (.slice A t.args.length c):=by rw[hW1];exact zac w _ _ _ rfl 4 _ rfl
   have hP1:=h.all b1;have HTK:Hid (∀vi' vs' vc' V,PMv pb vi vs vc W1 vi' vs' vc' V→Held (fun b=>b<pb) (Typs A t.args) V∧V.cell? ⟨w.heap.size,4,none⟩=some (.slice A t.args.length c)):=Qaz (fun vi' vs' vc' V k=>⟨(hT.keep (Keep.all b1)).keep (PMv.keep h b1.size k fun b hb=>.inl hb),zah x4 (PMv.keep (G:=fun b=>b=w.heap.size) h b1.size k fun b hb=>.inr (by omega)) rfl⟩)
   have HI:Hid (∀(k:Nat)(x:Ty),t.args[k]? =some x→∀A2 c2 vi' vs' vc' V,PcsAt pb (zdr (t.args.take k) p) vi' vs' vc' V→Held (fun b=>b<pb) (Typs A2 x.args) V→Calls Tryz.prog 195 #[.pointer (some ⟨pb,0,none⟩),tyV x A2 c2] V fun e w'=>e=.returned (.tuple #[])∧∃v1 v2 v3,PcsAt pb (zdr (t.args.take (k+1)) p) v1 v2 v3 w'∧PMv pb vi' vs' vc' V v1 v2 v3 w'):=Qaz (fun k x hx A2 c2 vi' vs' vc' V hp hh=>by
    have h1:=zle hx;have h2:=zl6 (t.args.take k) p;have:=ih x (by omega) (List.all_eq_true.1 hfa x (Qdz hx)) A2 c2 _ vi' vs' vc' V hp hh (by omega);rw[take_snoc hx,zth];exact this)
   have HP1:=Qaz hP1;have HB1:=Qaz b1;clear hP1 hff hf0 hfa hf hk hT ih htot htot1 hc hcn h b1;go_enter Tryz.func195,Tryz.ntmps195;go_wp2_with (fail);rw[←hW1];clear hW1
   go_loopw [4] (fun i wr=>∃(k:Nat)(vi' vs' vc':Value),k≤t.args.length∧i=.int .i64 k∧PcsAt pb (zdr (t.args.take k) p) vi' vs' vc' wr∧PMv pb vi vs vc W1 vi' vs' vc' wr) (fun i _=>t.args.length-(intOf i).toNat)
   case atStart=>exact⟨0,_,_,_,Qjz _,rfl,by rw[List.take_zero,zdr];exact HP1.out,PMv.refl _ _ _ _ _⟩
   case round=>
    clear x4;obtain⟨k,vi',vs',vc',hk,rfl,hp,hm⟩:=hrel;obtain⟨hh,x4⟩:=HTK.out _ _ _ _ hm;have HP:=Qaz hp;have HM:=Qaz hm;by_cases hlt2:k<t.args.length
    ·have hx:t.args[k]? =some t.args[k]:=Qbz hlt2;generalize t.args[k]=x at hx;obtain⟨b,off,rfl⟩:=Slc.addrH hh (by omega);obtain⟨A2,c2,_,hh2,g0,g1,g2,g3,g4⟩:=Typs.atH hh hx;have HC:=Qaz (HI.out k x hx A2 c2 vi' vs' vc' wr hp hh2);clear hh hx hh2 hp hm;go_wp2_with (go_at_call 195;refine HC.out.mono ?_;rintro e V ⟨rfl,v1,v2,v3,hp2,hm2⟩);exact⟨⟨k+1,v1,v2,v3,by omega,by go_num,hp2,HM.out.trans hm2⟩,by simp[intOf];omega⟩
    ·obtain rfl:k=t.args.length:=by omega
     have HF:Hid (PcsAt pb (zdr t.args p) vi' vs' vc' wr∧PMv pb vi vs vc w vi' vs' vc' wr):=Qaz ⟨by have:=HP.out;rw[List.take_length]at this;exact this,PMv.pre HB1.out HM.out⟩;clear hh hp hm;go_wp2;refine bodyPost_end (v:=.tuple #[]) (by simp[results,Tryz.results195]) rfl ?_;exact⟨rfl,_,_,_,HF.out⟩
def zej(x:Bool)(cs:List Value)(_:World):Prop:=cs=[.bool x]
theorem zzb:(Tryz.prog.info? 4).map (fun i=>(i.zero,i.size,i.bytes))=some (some (.bool false),1,1):=by kernel_rfl
theorem zx1(n:Nat):(madeCells #[Value.bool false] n).toList=(List.replicate n false).map Value.bool:=by
 unfold madeCells;apply List.ext_getElem?;intro j;simp only[Array.toList_map,Array.toList_range,List.getElem?_map,List.map_replicate,List.getElem?_replicate];by_cases hj:j<n
 ·rw[List.getElem?_range hj,if_pos hj];simp[Nat.mod_one]
 ·rw[List.getElem?_eq_none (by simpa using hj),if_neg hj];rfl
theorem zzl(G:Nat→Prop)(w:World):∀l:List Bool,Enc (fun x cs=>Held G (zej x cs) w) 1 l (l.map Value.bool):=by
 intro l;rw[←List.reverse_reverse l]
 induction l.reverse with
 |nil=>exact Enc.nil
 |cons x l ih=>
  rw[List.reverse_cons,List.map_append];exact Enc.snoc ih (fun _ _=>rfl) rfl
theorem zh0(w:World)(n:Nat)(hn:n≤1000000):Own zej 4 1 w.heap.size (fun _=>False) (.slice (some ⟨w.heap.size,0,none⟩) n n) (List.replicate n false) (w.alloc (.cells (madeCells #[Value.bool false] (n*1)) 4)):=by
 have:=Own.ofEnc (n:=w.heap.size) 4 rfl (zzl (fun _=>False) w (List.replicate n false)) (by simpa using hn);rw[←zx1]at this
 simpa using this
theorem zq0(n:Nat)(hn:n≤1000000)(w:World):(Instr.makeSlice 195 (.int .i64 (n:Int)) (.int .i64 (n:Int))).run Tryz.prog w=.ok (.slice (some ⟨w.heap.size,0,none⟩) n n) (w.alloc (.cells (madeCells #[Value.bool false] (n*1)) 4)):=by
 obtain⟨i0,hi,hz⟩:=Option.map_eq_some_iff.1 zzb;simp only[Prod.mk.injEq]at hz;obtain⟨z0,z1,z2⟩:=hz;have:=run_make (P:=Tryz.prog) w 195 4 i0 (.bool false) Tryz.underlying195 hi z0 .i64 .i64 (n:Int) (n:Int) (by omega) (Int.le_refl _) (by rw[z2];omega) (by omega);rw[z1]at this
 simpa[Value.cells]using this
theorem OwnB.at{T base:Nat}{G:Nat→Prop}{L:List Bool}{w:World}{g c n:Nat}(h:Own zej T 1 base G (.slice (some ⟨g,0,none⟩) n c) L w){i:Nat}{x:Bool}(hx:L[i]? =some x):w.cell? ⟨g,i,none⟩=some (.bool x)∧w.frozen? ⟨g,i,none⟩=false:=by
 obtain⟨cs,_,hr,hc⟩:=h.get hx;have e:cs=[.bool x]:=hr.now;subst e;have:=hc 0 _ rfl
 simpa using this
theorem OwnB.set{T base:Nat}{L:List Bool}{w:World}{g c n:Nat}(h:Own zej T 1 base (fun _=>False) (.slice (some ⟨g,0,none⟩) n c) L w){i:Nat}{x:Bool}(hx:L[i]? =some x)(y:Bool):Own zej T 1 base (fun _=>False) (.slice (some ⟨g,0,none⟩) n c) (L.set i y) (w.setCell ⟨g,i,none⟩ (.bool y)):=by
 have:=h.store (x':=y) (u:=.bool y) (j:=0) rfl hx (by decide) (fun _ hb=>hb.elim) fun cs _ hr=>by
  have e:cs=[.bool x]:=hr.now;subst e;exact fun _ _=>rfl
 simpa using this
def Tells(l:List CI)(f:ByteArray→Bool)(m:Nat)(L:List Bool):Prop:=L.length=l.length∧∀j x,m≤j→l[j]? =some x→L[j]? =some (f x.name)
theorem Tells.set{l:List CI}{f:ByteArray→Bool}{q:Nat}{x:CI}{L:List Bool}(h:Tells l f (q+1) L)(hx:l[q]? =some x){b:Bool}(hb:b=f x.name):Tells l f q (L.set q b):=by
 refine⟨by rw[List.length_set];exact h.1,fun j y hj hy=> ?_⟩;have hq:=(Qcz hx).1;rw[List.getElem?_set];by_cases e:q=j
 ·subst e;rw[hx]at hy;cases hy
  rw[if_pos rfl,if_pos (by rw[h.1];exact hq),hb]
 ·rw[if_neg e];exact h.2 j y (by omega) hy
def zek(l:List CI)(s:ByteArray)(f:ByteArray→Bool)(q j:Nat):Bool:=((l.drop (q+1)).take j).all fun z=> !hasS z.supers s||f z.name
theorem zjg(l:List CI)(s:ByteArray)(f:ByteArray→Bool)(q:Nat):zek l s f q 0=true:=by unfold zek;simp
theorem zju{l:List CI}(s:ByteArray)(f:ByteArray→Bool){q j:Nat}{z:CI}(hz:l[q+1+j]? =some z):zek l s f q (j+1)=(zek l s f q j&&(!hasS z.supers s||f z.name)):=by
 unfold zek;rw[take_snoc (x:=z) (by rw[List.getElem?_drop];exact hz),List.all_append];simp
theorem zkx{l:List CI}(s:ByteArray)(f:ByteArray→Bool){q j:Nat}(hj:l.length≤q+1+j):zek l s f q j=(l.drop (q+1)).all fun z=> !hasS z.supers s||f z.name:=by
 unfold zek;rw[List.take_of_length_le (by rw[List.length_drop];omega)]
theorem zj5(A:Option Addr)(c:Nat)(l:List CI)(W:World)(G:Nat→Prop)(h:Held G (CIs A l) W)(hl:l.length≤1000000)(hsp:∀x∈l,x.supers.length≤1000000)(hL:zai l):
  Calls Tryz.prog 199 #[.slice A l.length c] W fun e W'=>∃g1 g2 bc bv,e=.returned (.tuple #[.slice (some ⟨g1,0,none⟩) l.length l.length,.slice (some ⟨g2,0,none⟩) l.length l.length])∧Tells l (zdk l) 0 bc∧Tells l (vdB l) 0 bv∧
   Own zej 4 1 W.heap.size (fun _=>False) (.slice (some ⟨g1,0,none⟩) l.length l.length) bc W'∧Own zej 4 1 W.heap.size (fun _=>False) (.slice (some ⟨g2,0,none⟩) l.length l.length) bv W'∧Below W.heap.size W W':=by
 have H:=Qaz h;have HSP:=Qaz hsp;have hmk:=zq0 l.length hl;clear h hsp;go_enter Tryz.func199,Tryz.ntmps199;go_wp2_with (fail);clear hmk;have h1:=(zh0 W l.length hl);have h2:=(zh0 (W.alloc (.cells (madeCells #[Value.bool false] (l.length*1)) 4)) l.length hl).lower (base':=W.heap.size) (by simp);have e1:l.length*1=l.length:=Nat.mul_one _;rw[e1]at h1 h2;have hs1:(W.alloc (.cells (madeCells #[Value.bool false] l.length) 4)).heap.size=W.heap.size+1:=by simp
 rw[hs1]at h2;have h3:=h1.alloc (.cells (madeCells #[Value.bool false] l.length) 4);obtain⟨W1,hW1⟩:∃W1,W1=(W.alloc (.cells (madeCells #[Value.bool false] l.length) 4)).alloc (.cells (madeCells #[Value.bool false] l.length) 4):=⟨_,rfl⟩;have b1:Below W.heap.size W W1:=by rw[hW1];exact((Below.refl _ W).alloc (Qiz _) _).alloc (by simp) _
 rw[←hW1]at h2 h3;rw[←hW1];clear hW1 h1 hs1 e1
 go_loopw [6] (fun i wr=>∃(m:Nat)(bc bv:List Bool),m≤l.length∧i=.int .i64 ((m:Int)-1)∧Tells l (zdk l) m bc∧Tells l (vdB l) m bv∧Own zej 4 1 W.heap.size (fun _=>False) (.slice (some ⟨W.heap.size,0,none⟩) l.length l.length) bc wr∧Own zej 4 1 W.heap.size (fun _=>False) (.slice (some ⟨W.heap.size+1,0,none⟩) l.length l.length) bv wr∧Below W.heap.size W wr) (fun i _=>(intOf i+1).toNat)
 case atStart=>
  exact⟨l.length,_,_,Qiz _,rfl,⟨by simp,fun j x hj hx=>absurd (Qcz hx).1 (by omega)⟩,⟨by simp,fun j x hj hx=>absurd (Qcz hx).1 (by omega)⟩,h3,h2,b1⟩
 case round=>
  clear h2 h3 b1;obtain⟨m,bc,bv,hm,rfl,tc,tv,oc,ov,hb⟩:=hrel;by_cases hz:m=0
  ·subst hz;have TC:=Qaz tc;have TV:=Qaz tv;have OC:=Qaz oc;have OV:=Qaz ov;clear tc tv oc ov;rw[show(((0:Nat):Int)-1)= -1 from rfl];go_wp2;go_ret2;exact⟨_,_,bc,bv,rfl,TC.out,TV.out,OC.out,OV.out,hb⟩
  obtain⟨q,rfl⟩:∃q,m=q+1:=⟨m-1,by omega⟩;rw[show(((q+1:Nat):Int)-1)=(q:Int) by omega];have hql:q<l.length:=by omega
  have hx:l[q]? =some l[q]:=Qbz hql;generalize l[q]=x at hx;obtain⟨b,off,rfl⟩:=Slc.addrH H.out (by omega);have hbl:b<W.heap.size:=(Slc.inG H.out (by omega) (by decide)).1;have n1:¬b=W.heap.size:=by omega
  have n2:¬b=W.heap.size+1:=by omega
  obtain⟨A2,c2,A3,c3,_,_,S2,_,g0,_,g2,_,g4,g5⟩:=CIs.atH (H.out.keep (Keep.all hb)) hx;obtain⟨z1,hz1⟩:∃z,bc[q]? =some z:=⟨bc[q]'(by rw[tc.1];exact hql),Qbz _⟩;obtain⟨z2,hz2⟩:∃z,bv[q]? =some z:=⟨bv[q]'(by rw[tv.1];exact hql),Qbz _⟩;obtain⟨k1,f1⟩:=OwnB.at oc hz1;obtain⟨k2,f2⟩:=OwnB.at ov hz2;have o1:=(OwnB.set oc hz1 x.seal_).setCell (p:=⟨W.heap.size+1,q,none⟩) (fun _ h=>h.elim) (fun e=>by simp[Value.ownBlock]at e) (.bool x.abs);have o2:=OwnB.set (ov.setCell (p:=⟨W.heap.size,q,none⟩) (fun _ h=>h.elim) (fun e=>by simp[Value.ownBlock]at e) (.bool x.seal_)) hz2 x.abs
  have b2:Below W.heap.size W ((wr.setCell ⟨W.heap.size,q,none⟩ (.bool x.seal_)).setCell ⟨W.heap.size+1,q,none⟩ (.bool x.abs)):=(hb.setCell (p:=⟨W.heap.size,q,none⟩) (Qiz _) _).setCell (p:=⟨W.heap.size+1,q,none⟩) (Nat.le_succ _) _;have O1:=Qaz o1;have O2:=Qaz o2;have B2:=Qaz b2;have TC:=Qaz tc;have TV:=Qaz tv;have HX:=Qaz hx;clear o1 o2 b2 oc ov tc tv hz1 hz2 hx S2;go_wp2_with (fail);obtain⟨W2,hW2⟩:∃W2,W2=(wr.setCell ⟨W.heap.size,q,none⟩ (.bool x.seal_)).setCell ⟨W.heap.size+1,q,none⟩ (.bool x.abs):=⟨_,rfl⟩;rw[←hW2]at O1 O2 B2;rw[←hW2];clear hW2 g0 g2 g4 g5 k1 f1 k2 f2 hb
  have CLO:=Qaz (zzc hL HX.out);have VD:=Qaz (z00 hL HX.out)
  go_loopw [7] (fun i wr=>∃k:Nat,q+1≤k∧k≤l.length∧i=.int .i64 (k:Int)∧Own zej 4 1 W.heap.size (fun _=>False) (.slice (some ⟨W.heap.size,0,none⟩) l.length l.length) (bc.set q (x.seal_&&zek l x.name (zdk l) q (k-(q+1)))) wr∧
   Own zej 4 1 W.heap.size (fun _=>False) (.slice (some ⟨W.heap.size+1,0,none⟩) l.length l.length) (bv.set q (x.abs&&zek l x.name (vdB l) q (k-(q+1)))) wr∧Below W.heap.size W wr) (fun i _=>l.length-(intOf i).toNat)
  case atStart=>
   refine⟨q+1,Qiz _,hm,by go_num,?_,?_,B2.out⟩
   ·rw[Nat.sub_self,zjg,Bool.and_true];exact O1.out
   ·rw[Nat.sub_self,zjg,Bool.and_true];exact O2.out
  case round=>
   clear O1 O2 B2;obtain⟨k,hk1,hk2,rfl,oc,ov,hb⟩:=hrel;have hcq:∀c:Bool,(bc.set q c)[q]? =some c:=fun c=>by rw[List.getElem?_set_self (by rw[TC.out.1];exact hql)]
   have hvq:∀c:Bool,(bv.set q c)[q]? =some c:=fun c=>by rw[List.getElem?_set_self (by rw[TV.out.1];exact hql)]
   obtain⟨k1,f1⟩:=OwnB.at oc (hcq _);obtain⟨k2,f2⟩:=OwnB.at ov (hvq _);by_cases hlt:k<l.length
   ·have hy:l[k]? =some l[k]:=Qbz hlt;generalize l[k]=y at hy;obtain⟨A4,c4,_,_,_,_,S4,_,_,_,y2,_⟩:=CIs.atH (H.out.keep (Keep.all hb)) hy;obtain⟨_,_,_,_,_,_,_,_,g0,_⟩:=CIs.atH (H.out.keep (Keep.all hb)) HX.out;have hne:q≠k:=by omega
    have hck:∀c:Bool,(bc.set q c)[k]? =some (zdk l y.name):=fun c=>by rw[List.getElem?_set_ne hne];exact TC.out.2 k y (by omega) hy
    have hvk:∀c:Bool,(bv.set q c)[k]? =some (vdB l y.name):=fun c=>by rw[List.getElem?_set_ne hne];exact TV.out.2 k y (by omega) hy
    obtain⟨k3,_⟩:=OwnB.at oc (hck _);obtain⟨k4,_⟩:=OwnB.at ov (hvk _);have hyk:l[q+1+(k-(q+1))]? =some y:=by rw[show q+1+(k-(q+1))=k by omega];exact hy
    have hc1:=zju x.name (zdk l) hyk;have hv1:=zju x.name (vdB l) hyk;rw[show k-(q+1)+1=k+1-(q+1) by omega]at hc1 hv1;have HC1:Hid ((x.seal_&&zek l x.name (zdk l) q (k+1-(q+1)))=((x.seal_&&zek l x.name (zdk l) q (k-(q+1)))&&(!hasS y.supers x.name||zdk l y.name))):=Qaz (by rw[hc1,Bool.and_assoc]);have HV1:Hid ((x.abs&&zek l x.name (vdB l) q (k+1-(q+1)))=((x.abs&&zek l x.name (vdB l) q (k-(q+1)))&&(!hasS y.supers x.name||vdB l y.name))):=Qaz (by rw[hv1,Bool.and_assoc]);clear hc1 hv1
    have HI:Hid (∀V,Below wr.heap.size wr V→Calls Tryz.prog 97 #[.slice A4 y.supers.length c4,.string x.name] V fun e V'=>e=.returned (.int .i64 (idx y.supers x.name))∧V=V'):=Qaz (fun V hv=>zbv A4 c4 y.supers x.name V (S4.keep (Keep.all hv)).now (HSP.out y (Qdz hy)));have HG:=Qaz (zf9 (l:=y.supers) (x:=x.name));have hbd:Below wr.heap.size wr wr.drew:=(Below.refl _ wr).drew;have hb3:=zab hb hbd;have OC:=Qaz oc.drew;have OV:=Qaz ov.drew;clear hy hyk hck hvk S4 oc ov;generalize hasS y.supers x.name=r at HC1 HV1 HG;generalize idx y.supers x.name=ix at HI HG;generalize zdk l y.name=cz at HC1 k3
    generalize vdB l y.name=vz at HV1 k4;generalize(x.seal_&&zek l x.name (zdk l) q (k-(q+1)))=v1 at HC1 OC k1;generalize(x.abs&&zek l x.name (vdB l) q (k-(q+1)))=v2 at HV1 OV k2;have NEW:Hid (∀c d,Own zej 4 1 W.heap.size (fun _=>False) (.slice (some ⟨W.heap.size,0,none⟩) l.length l.length) (bc.set q c) ((wr.drew.setCell ⟨W.heap.size,q,none⟩ (.bool c)).setCell ⟨W.heap.size+1,q,none⟩ (.bool d))∧
     Own zej 4 1 W.heap.size (fun _=>False) (.slice (some ⟨W.heap.size+1,0,none⟩) l.length l.length) (bv.set q d) ((wr.drew.setCell ⟨W.heap.size,q,none⟩ (.bool c)).setCell ⟨W.heap.size+1,q,none⟩ (.bool d))∧Below W.heap.size W ((wr.drew.setCell ⟨W.heap.size,q,none⟩ (.bool c)).setCell ⟨W.heap.size+1,q,none⟩ (.bool d))):=Qaz (fun c d=>by
     have o1:=(OwnB.set OC.out (hcq _) c).setCell (p:=⟨W.heap.size+1,q,none⟩) (fun _ h=>h.elim) (fun e=>by simp[Value.ownBlock]at e) (.bool d);have o2:=OwnB.set (OV.out.setCell (p:=⟨W.heap.size,q,none⟩) (fun _ h=>h.elim) (fun e=>by simp[Value.ownBlock]at e) (.bool c)) (hvq _) d;rw[List.set_set]at o1 o2;exact⟨o1,o2,(hb3.setCell (p:=⟨W.heap.size,q,none⟩) (Qiz _) _).setCell (p:=⟨W.heap.size+1,q,none⟩) (Nat.le_succ _) _⟩)
    clear hcq hvq;have t2:=HG.out;cases r with
    |false=>
     have E1:Hid ((x.seal_&&zek l x.name (zdk l) q (k+1-(q+1)))=v1):=Qaz (by rw[HC1.out];simp);have E2:Hid ((x.abs&&zek l x.name (vdB l) q (k+1-(q+1)))=v2):=Qaz (by rw[HV1.out];simp);clear HC1 HV1 NEW;go_wp2_with (fail)
     go_region_with (go_at_call 97;refine(HI.out _ hbd).mono ?_;rintro e V ⟨rfl,rfl⟩)
     all_goals
      go_wp2_with (fail);exact⟨⟨k+1,by omega,by omega,by go_num,by rw[E1.out];exact OC.out,by rw[E2.out];exact OV.out,hb3⟩,by simp[intOf];omega⟩
    |true=>
     cases v1<;>cases v2
     all_goals
      go_wp2_with (fail)
      go_region_with (go_at_call 97;refine(HI.out _ hbd).mono ?_;rintro e V ⟨rfl,rfl⟩)
     all_goals
      have E1:=HC1.out;have E2:=HV1.out;simp only[Bool.true_and,Bool.false_and,Bool.not_true,Bool.false_or]at E1 E2;have E1:=Qaz E1;have E2:=Qaz E2;go_wp2_with (fail);exact⟨⟨k+1,by omega,by omega,by go_num,by rw[E1.out];exact(NEW.out _ _).1,by rw[E2.out];exact(NEW.out _ _).2.1,(NEW.out _ _).2.2⟩,by simp[intOf];omega⟩
   ·obtain rfl:k=l.length:=by omega
    have E1:Hid ((x.seal_&&zek l x.name (zdk l) q (l.length-(q+1)))=zdk l x.name):=Qaz (by rw[zkx _ _ (by omega),CLO.out]);have hv:vdB l x.name=((x.abs&&zek l x.name (vdB l) q (l.length-(q+1)))&&zdk l x.name):=by rw[zkx _ _ (by omega),VD.out]
    rw[E1.out]at k1 oc;have HV2:=Qaz hv;clear hv E1 CLO VD;generalize(x.abs&&zek l x.name (vdB l) q (l.length-(q+1)))=v2 at HV2 ov k2;have TC2:=Qaz (Tells.set TC.out HX.out (b:=zdk l x.name) rfl);have TV2:=Qaz (Tells.set TV.out HX.out (b:=v2&&zdk l x.name) HV2.out.symm);generalize zdk l x.name=cx at k1 oc HV2 TC2 TV2;have NEW:Hid (Own zej 4 1 W.heap.size (fun _=>False) (.slice (some ⟨W.heap.size,0,none⟩) l.length l.length) (bc.set q cx) (wr.setCell ⟨W.heap.size+1,q,none⟩ (.bool (v2&&cx)))∧
     Own zej 4 1 W.heap.size (fun _=>False) (.slice (some ⟨W.heap.size+1,0,none⟩) l.length l.length) (bv.set q (v2&&cx)) (wr.setCell ⟨W.heap.size+1,q,none⟩ (.bool (v2&&cx)))∧Below W.heap.size W (wr.setCell ⟨W.heap.size+1,q,none⟩ (.bool (v2&&cx)))):=Qaz (by
     have o2:=OwnB.set ov (hvq _) (v2&&cx);rw[List.set_set]at o2;exact⟨oc.setCell (p:=⟨W.heap.size+1,q,none⟩) (fun _ h=>h.elim) (fun e=>by simp[Value.ownBlock]at e) _,o2,hb.setCell (p:=⟨W.heap.size+1,q,none⟩) (Nat.le_succ _) _⟩)
    clear hcq hvq oc ov HV2;cases v2
    all_goals
     simp only[Bool.true_and,Bool.false_and]at NEW TV2;go_wp2_with (fail);go_roundw
     case rel=>
      exact⟨q,_,_,by omega,by go_num,TC2.out,TV2.out,NEW.out.1,NEW.out.2.1,NEW.out.2.2⟩
     case measure=>simp[intOf]<;>omega
end
end Go.Proofs.YtepnmejahbiacaaGreat
