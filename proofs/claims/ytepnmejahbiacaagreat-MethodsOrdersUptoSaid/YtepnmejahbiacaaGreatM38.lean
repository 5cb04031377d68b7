/- Part 38 of the proof: Dv, Dw, Dx, Gc, Gd, Ph, Pk, Ww, Wc, Yb. -/
import Derived.Test.YtepnmejahbiacaaGreatM37
import Derived.Shelf.Spec.SlicesGrow
import Derived.Deep.DeepCutAuto
import Derived.Deep.CutBlock
set_option linter.unusedVariables false
set_option linter.unusedSimpArgs false
set_option maxHeartbeats 64000000
set_option maxRecDepth 100000
namespace Go.Proofs.YtepnmejahbiacaaGreat
open Go.RowKit
section
open Go.Deep
attribute [local go_sem ↓] Go.wp_at_zero Go.wp_at_succ
def ztr(M1 mb:Nat)(b:Nat):Prop:=zce M1 b∨b=mb
structure Cov1 (hp M1:Nat) (AH:Option Addr) (cH:Nat) (l:List CI) (mb:Nat) (Y:List Ty) (w w':World):Prop where
 H:HierAt hp M1 AH cH l l.length w'
 m:∃f,MapF zbn mb f w'∧∀s v,f s=some v→v=.bool (zwh l Y s)
 ch:Chg (ztr M1 mb) w w'
section
variable {hp M1:Nat} {AH:Option Addr} {cH:Nat} {l:List CI} {mb:Nat} {Y:List Ty} {w w' w2:World}
theorem Cov1.trans(h:Cov1 hp M1 AH cH l mb Y w w')(k:Cov1 hp M1 AH cH l mb Y w' w2):Cov1 hp M1 AH cH l mb Y w w2:=⟨k.H,k.m,h.ch.trans k.ch⟩
theorem Cov1.step(h:Cov1 hp M1 AH cH l mb Y w w')(k:Below w'.heap.size w' w2):Cov1 hp M1 AH cH l mb Y w w2:=
 ⟨h.H.keep k,h.m.imp fun f q=>⟨q.1.keep (Keep.all k (G:=fun _=>True)) trivial,q.2⟩,h.ch.trans (Chg.of k)⟩
theorem Cov1.refl(h:Cov1 hp M1 AH cH l mb Y w w'):Cov1 hp M1 AH cH l mb Y w' w':=⟨h.H,h.m,Chg.refl _ _⟩
theorem Cov1.asked{B:Nat→Prop}(h:Cov1 hp M1 AH cH l mb Y w w')(k:Asked1 hp M1 AH cH l B w' w2)(hB:∀b,B b→zce M1 b)(hm:¬zce M1 mb):Cov1 hp M1 AH cH l mb Y w w2:=
 ⟨k.H,h.m.imp fun f q=>⟨q.1.keep (k.ch.keep (G:=fun b=>b=mb) fun b e s=>hm (by rw[←(show b=mb from e)];exact hB b s)) rfl,q.2⟩,h.ch.trans (k.ch.mono fun b _ s=>.inl (hB b s))⟩
theorem Cov1.cellB(h:Cov1 hp M1 AH cH l mb Y w w'){b o:Nat}{v:Value}(hc:w.cell? ⟨b,o,none⟩=some v)(hb:¬ztr M1 mb b):w'.cell? ⟨b,o,none⟩=some v:=
 zah hc (h.ch.keep (G:=fun x=>x=b) fun x e s=>hb (by rw[←(show x=b from e)];exact s)) rfl
theorem Cov1.low(h:Cov1 hp M1 AH cH l mb Y w w')(hm:M1≤mb){R:World→Prop}(hA:Held (fun b=>b<M1) R w):Held (fun b=>b<M1) R w':=
 hA.keep (h.ch.keep fun b hb s=>by
  have hb:b<M1:=hb;rcases s with s|s
  ·simp only[zce]at s;omega
  ·omega)
end
theorem ztt(hp M1:Nat)(AH:Option Addr)(cH:Nat)(l:List CI)(mb:Nat)(A:Option Addr)(n c:Nat)(Y:List Ty)(b0 b2 b3:Nat)(s:ByteArray)(w:World)
  (h0:w.cell? ⟨b0,0,none⟩=some (.pointer (some ⟨hp,0,none⟩))) (h2:w.cell? ⟨b2,0,none⟩=some (.slice A n c)) (h3:w.cell? ⟨b3,0,none⟩=some (.map (some mb)))
  (ih:∀V,Below w.heap.size w V→Calls Tryz.prog 103 #[.pointer (some ⟨hp,0,none⟩),zgf (zau s) none 0,.slice A n c,.map (some mb)] V fun e w'=>e=.returned (.bool (zc0 l Y (zau s)))∧Cov1 hp M1 AH cH l mb Y w w'):
  Calls Tryz.prog 157 #[.string s,.pointer (some ⟨b0,0,none⟩),.pointer (some ⟨b2,0,none⟩),.pointer (some ⟨b3,0,none⟩)] w fun e w'=>e=.returned (.bool (!zc0 l Y (zau s)))∧Cov1 hp M1 AH cH l mb Y w w':=by
 have HI:=Qaz ih;have HX:Hid (∀V,Below w.heap.size w V→V.cell? ⟨b0,0,none⟩=some (.pointer (some ⟨hp,0,none⟩))∧V.cell? ⟨b2,0,none⟩=some (.slice A n c)∧V.cell? ⟨b3,0,none⟩=some (.map (some mb))):=Qaz (fun V h=>⟨zaa h0 h,zaa h2 h,zaa h3 h⟩);have hd:Below w.heap.size w w.drew:=(Below.refl _ w).drew;clear ih;generalize zc0 l Y (zau s)=v at HI;go_enter Tryz.func157,Tryz.ntmps157;go_wp2_with (fail)
 go_region_with (first
  |(go_at_call 140;refine(zeb _ _).mono ?_;rintro e V ⟨rfl,hbv⟩;have hV:Below w.heap.size w V:=zae hd hbv;obtain⟨u0,u2,u3⟩:=HX.out V hV)
  |(go_at_call 103;refine(HI.out _ hV).mono ?_;rintro e U ⟨rfl,hq⟩))
 all_goals
  have HQ:=Qaz hq;clear hq;cases v
  all_goals
   go_wp2;go_ret;exact⟨rfl,HQ.out⟩
end
section
open Go.Deep
attribute [local go_sem ↓] Go.wp_at_zero Go.wp_at_succ
theorem zv6(hp M1:Nat)(AH:Option Addr)(cH:Nat)(l:List CI)(hL:zai l)(ol:∀x∈l,zdo x)(mb:Nat)(A:Option Addr)(n c:Nat)(Y:List Ty)(b0 b1 b2 b3:Nat)(s:ByteArray)(w:World)(hW:Cov1 hp M1 AH cH l mb Y w w)(hA:Held (fun b=>b<M1) (CIs AH l) w)(hmM:M1+1+1<mb)
  (h0:w.cell? ⟨b0,0,none⟩=some (.pointer (some ⟨hp,0,none⟩))) (h1:w.cell? ⟨b1,1,none⟩=some (.string s)) (h2:w.cell? ⟨b2,0,none⟩=some (.slice A n c)) (h3:w.cell? ⟨b3,0,none⟩=some (.map (some mb)))
  (n0:¬ztr M1 mb b0) (n2:¬ztr M1 mb b2) (n3:¬ztr M1 mb b3)
  (ih:∀t∈zb9 l s,∀V,Cov1 hp M1 AH cH l mb Y w V→Calls Tryz.prog 103 #[.pointer (some ⟨hp,0,none⟩),zgf (zau t) none 0,.slice A n c,.map (some mb)] V fun e w'=>e=.returned (.bool (zc0 l Y (zau t)))∧Cov1 hp M1 AH cH l mb Y V w'):
  Calls Tryz.prog 154 #[.pointer (some ⟨b0,0,none⟩),.pointer (some ⟨b1,0,none⟩),.pointer (some ⟨b2,0,none⟩),.pointer (some ⟨b3,0,none⟩)] w fun e w'=>e=.returned (.bool (zwh l Y s))∧Cov1 hp M1 AH cH l mb Y w w':=by
 have hmf:∀(fn:Fn)(first cap:Array Value)(w:World),(Instr.makeFunc fn first cap).run Tryz.prog w=.ok (.func fn first cap) w:=fun _ _ _ _=>rfl;have h120:=hL.1;have HIH:=Qaz ih;have HW:=Qaz hW;have HSB:=Qaz (zjs hp M1 AH cH l s w hW.H.c0 _ hA ol (by omega));have HMB:Hid (mb<w.heap.size):=Qaz (by obtain⟨f,hf,_⟩:=hW.m;exact hf.lt);have HMM:=Qaz hmM;have HLS:Hid ((zb9 l s).length≤1000000):=Qaz (by
  unfold zb9;rw[List.length_map]
  have:=List.length_filter_le (fun x=>hasS x.supers s) l;omega)
 have HB:Hid (zwh l Y s=(zb9 l s).all fun t=>zc0 l Y (zau t)):=Qaz rfl;have g0:=h0;have g2:=h2;have g3:=h3;have l0:b0<w.heap.size:=cell_lt h0;have HC0:=Qaz (And.intro h0 (And.intro h2 h3));clear ih hA hW hmM g0 g2 g3;go_enter Tryz.func154,Tryz.ntmps154;go_wp2_with (fail);refine HSB.out.mono ?_;clear HSB;rintro e X ⟨v,rfl,hown,hbx⟩;obtain⟨A5,c5,rfl,_,k5⟩:=hown.out;have HLT:Hid (∀q,(Value.slice A5 (zb9 l s).length c5).ownBlock=some q→w.heap.size≤q):=Qaz (fun q e=>(hown.lt q e).1);have HX:Hid (Cov1 hp M1 AH cH l mb Y w X):=Qaz (HW.out.step hbx)
 have HCF:Hid (Calls Tryz.prog 155 #[.slice A5 (zb9 l s).length c5,.func (.func 157) #[] #[.pointer (some ⟨b0,0,none⟩),.pointer (some ⟨b2,0,none⟩),.pointer (some ⟨b3,0,none⟩)]] X fun e w'=>e=.returned (.bool (!(zb9 l s).all fun t=>zc0 l Y (zau t)))∧Cov1 hp M1 AH cH l mb Y X w'):=Qaz (by
  refine zgp 157 _ (enters Tryz.func157 (by kernel_rfl) rfl) A5 c5 (zb9 l s) (fun t=>zc0 l Y (zau t)) (fun wr=>Cov1 hp M1 AH cH l mb Y X wr) X HX.out.refl (fun wr hr=> ?_) HLS.out (fun t ht wr hr=> ?_)
  ·refine(k5.keep (hr.ch.keep fun b hb q=> ?_)).now;rcases hb with hb|hb
   ·exact hb.elim
   ·have:=HLT.out b hb;have:=HMB.out;have:=HMM.out
    rcases q with q|q
    ·simp only[zce]at q;omega
    ·omega
  ·have hwr:=HX.out.trans hr;refine(ztt hp M1 AH cH l mb A n c Y b0 b2 b3 t wr (hwr.cellB HC0.out.1 n0) (hwr.cellB HC0.out.2.1 n2) (hwr.cellB HC0.out.2.2 n3) (fun V hV=> ?_)).mono ?_
   ·refine(HIH.out t ht V (hwr.step hV)).mono ?_;rintro e w' ⟨rfl,hq⟩;exact⟨rfl,(hwr.refl.step hV).trans hq⟩
   ·rintro e w' ⟨rfl,hq⟩;exact⟨rfl,hr.trans hq⟩)
 clear hown k5;go_wp2_with (fail);refine HCF.out.mono ?_;clear HCF;rintro e Z ⟨rfl,hZ⟩;have HZ:=Qaz (HX.out.trans hZ);clear hZ;generalize((zb9 l s).all fun t=>zc0 l Y (zau t))=al at HB;cases al
 all_goals
  go_wp2;go_ret;exact⟨by rw[HB.out];try rfl,HZ.out⟩
theorem zik{M1 mb:Nat}{A:Option Addr}{d:List Leaf}{w w':World}(h:Slc zfk 5 A d w)(hA:∀b off,A=some ⟨b,off,none⟩→¬ztr M1 mb b)(k:Chg (ztr M1 mb) w w'):Slc zfk 5 A d w':=
 zjr h fun b off e o v hv=>zah hv (k.keep (G:=fun x=>x=b) fun x q s=>hA b off e (by rw[←(show x=b from q)];exact s)) rfl
theorem zoi(hp M1:Nat)(AH:Option Addr)(cH:Nat)(l:List CI)(hL:zai l)(ol:∀x∈l,zdo x)(mb:Nat)(hmh:hp<mb)(A:Option Addr)(c:Nat)(d:List Leaf)(hd6:d.length≤1000000)(hAb:∀b off,A=some ⟨b,off,none⟩→¬ztr M1 mb b):
  ∀(q:Nat)(x:Ty),zfd l x.name<q→∀(A':Option Addr)(c':Nat)(w:World),Cov1 hp M1 AH cH l mb (d.map Leaf.ty) w w→Held (fun b=>b<M1) (CIs AH l) w→Slc zfk 5 A d w→
  Calls Tryz.prog 103 #[.pointer (some ⟨hp,0,none⟩),zgf x A' c',.slice A d.length c,.map (some mb)] w fun e w'=>e=.returned (.bool (zc0 l (d.map Leaf.ty) x))∧Cov1 hp M1 AH cH l mb (d.map Leaf.ty) w w':=by
 intro q
 induction q with
 |zero=>intro x h;omega
 |succ q ih=>
  intro x hrk A' c' w hW hA hd;have hmf:∀(fn:Fn)(first cap:Array Value)(w:World),(Instr.makeFunc fn first cap).run Tryz.prog w=.ok (.func fn first cap) w:=fun _ _ _ _=>rfl;have hpe:=hW.H.hpe;have hmw:mb<w.heap.size:=by obtain⟨f,hf,_⟩:=hW.m;exact hf.lt
  obtain⟨W1,hW1⟩:∃W1,W1=(((w.alloc (.cells #[.pointer (some ⟨hp,0,none⟩)] 98)).alloc (.cells #[.int .i64 x.kind,.string x.name,.int .i64 x.lo,.int .i64 x.hi,.slice A' 0 c'] 36)).alloc (.cells #[.slice A d.length c] 34)).alloc (.cells #[.map (some mb)] 134):=⟨_,rfl⟩;have b1:Below w.heap.size w W1:=by rw[hW1];exact((((Below.refl _ w).alloc (Qiz _) _).alloc (by simp) _).alloc (by simp;omega) _).alloc (by simp;omega) _
  have x0:W1.cell? ⟨w.heap.size,0,none⟩=some (.pointer (some ⟨hp,0,none⟩)):=by rw[hW1];exact zat (zat (zat (zac w _ _ _ rfl 0 _ rfl)))
  have hx1:Cel (w.heap.size+1) [.int .i64 x.kind,.string x.name,.int .i64 x.lo,.int .i64 x.hi,.slice A' 0 c'] W1:=by
   rw[hW1];exact((Cel.new (w.alloc _) _ _ _ (by simp)).all ((Below.refl _ _).alloc (Qiz _) _)).all ((Below.refl _ _).alloc (Qiz _) _)
  have x2:W1.cell? ⟨w.heap.size+2,0,none⟩=some (.slice A d.length c):=by rw[hW1];exact zat (zac ((w.alloc _).alloc _) _ _ _ (by simp) 0 _ rfl)
  have x3:W1.cell? ⟨w.heap.size+3,0,none⟩=some (.map (some mb)):=by rw[hW1];exact zac (((w.alloc _).alloc _).alloc _) _ _ _ (by simp) 0 _ rfl
  have HW1:Hid (Cov1 hp M1 AH cH l mb (d.map Leaf.ty) w W1):=Qaz (hW.step b1);have hnb:∀j,¬ztr M1 mb (w.heap.size+j):=fun j s=>by
   rcases s with s|s
   ·simp only[zce]at s;omega
   ·omega
  have HNB:=Qaz hnb;have HA:=Qaz hA;have HD:=Qaz hd;have HPE:=Qaz hpe;have HCV:=Qaz (zo1 hL (d.map Leaf.ty) x);have HRK:=Qaz hrk;have HIH:=Qaz ih;have h120:=hL.1;have h11:=hL.2.1;have HMH:=Qaz hmh;have hmm:M1≤mb:=by omega
  have HCF:Hid (Calls Tryz.prog 101 #[.slice A d.length c,.func (.func 150) #[] #[.pointer (some ⟨w.heap.size+1,0,none⟩),.pointer (some ⟨w.heap.size,0,none⟩)]] W1 fun e w'=>e=.returned (.bool ((d.map Leaf.ty).any (covers l x)))∧Below W1.heap.size W1 w'):=Qaz (by
   refine zdm 150 _ (enters Tryz.func150 (by kernel_rfl) rfl) A c d (covers l x) (fun V=>Below W1.heap.size W1 V) W1 (Below.refl _ _) (fun wr hI=>zb6 (zb6 hd b1) hI) hd6 (fun y _ wr hI=> ?_);have bw:=zae b1 hI;refine(zrt hp M1 AH cH l ol w.heap.size (w.heap.size+1) x y.ty y.A A' y.c c' wr _ (hW.H.keep bw) (hA.keep (Keep.all bw)) (zaa x0 hI) (hx1.all hI)).mono ?_;rintro e w' ⟨rfl,hb'⟩;exact⟨rfl,zae hI hb'⟩)
  obtain⟨x10,_⟩:=hx1 0 _ rfl;obtain⟨x11,_⟩:=hx1 1 _ rfl;have HC:=Qaz (And.intro x0 (And.intro x10 (And.intro x11 (And.intro x2 x3))));clear hW hA hd hx1 hnb hpe ih hrk hmw b1 hmh;generalize(d.map Leaf.ty).any (covers l x)=an at HCF HCV;cases an with
  |true=>
   have HR:Hid (zc0 l (d.map Leaf.ty) x=true):=Qaz (by rw[HCV.out];rfl);go_enter Tryz.func103,Tryz.ntmps103;go_wp2_with (fail);rw[←hW1];clear hW1;refine HCF.out.mono ?_;rintro e V ⟨rfl,hbv⟩;have HF:=Qaz (HW1.out.step hbv);clear hbv;go_wp2;go_ret;exact⟨by rw[HR.out];try rfl,HF.out⟩
  |false=>
   go_enter Tryz.func103,Tryz.ntmps103;go_wp2_with (fail);rw[←hW1];clear hW1;refine HCF.out.mono ?_;clear HCF;rintro e V ⟨rfl,hbv⟩;have HV:=Qaz (HW1.out.step hbv);have v0:=zaa x0 hbv;have v10:=zaa x10 hbv;have v11:=zaa x11 hbv;have HC2:=Qaz (And.intro v0 (And.intro v11 (And.intro (zaa x2 hbv) (zaa x3 hbv))));clear hbv x0 x10 x11 x2 x3;by_cases hk:x.kind=1;rotate_left
   ·have HR:Hid (zc0 l (d.map Leaf.ty) x=false):=Qaz (by rw[HCV.out,Qgz hk];rfl);have t1:(x.kind != 1)=true:=bne_iff_ne.2 hk;clear hk;go_wp2;go_ret;exact⟨by rw[HR.out];try rfl,HV.out⟩
   have t1:(x.kind != 1)=false:=bne_eq_false_iff_eq.2 hk;have HCV2:Hid (zc0 l (d.map Leaf.ty) x=(zdk l x.name&&(zf3 l x.name&&zwh l (d.map Leaf.ty) x.name))):=Qaz (by rw[HCV.out,Qhz hk];rfl);clear hk HCV;have HCL:=Qaz (zj2 hp M1 AH cH l hL ol x.name V HV.out.H (HV.out.low hmm HA.out));generalize zdk l x.name=cl at HCL HCV2;go_wp2_with (fail);refine HCL.out.mono ?_;clear HCL;rintro e V2 ⟨rfl,hq2⟩;have hm2:¬zce M1 mb:=fun m=>by simp only[zce]at m;have:=HPE.out;have:=HMH.out;omega
   have HV2:=Qaz (HV.out.asked hq2 (fun b e=>.inl e) hm2);have HQ2:Hid (Cov1 hp M1 AH cH l mb (d.map Leaf.ty) V V2):=Qaz (HV.out.refl.asked hq2 (fun b e=>.inl e) hm2);have u0:=HQ2.out.cellB v0 (HNB.out 0);have u11:=HQ2.out.cellB v11 (HNB.out 1);have HC3:=Qaz (And.intro u0 (And.intro u11 (And.intro (HQ2.out.cellB HC2.out.2.2.1 (HNB.out 2)) (HQ2.out.cellB HC2.out.2.2.2 (HNB.out 3)))));clear hq2 hm2 v0 v10 v11 HC2 HQ2;cases cl with
   |false=>
    have HR:Hid (zc0 l (d.map Leaf.ty) x=false):=Qaz (by rw[HCV2.out];rfl);go_wp2;go_ret;exact⟨by rw[HR.out];try rfl,HV2.out⟩
   |true=>
   have HAB:=Qaz (zff hp M1 AH cH l x.name V2 HV2.out.H _ (HV2.out.low hmm HA.out) (by omega));generalize zf3 l x.name=ab at HAB HCV2;go_wp2_with (fail);refine HAB.out.mono ?_;clear HAB;rintro e U ⟨rfl,hdr⟩;have bU:=hdr.below V2.heap.size;have HU:=Qaz (HV2.out.step bU);have z0:=zaa u0 bU;have z11:=zaa u11 bU;have z2:=zaa HC3.out.2.2.1 bU;have z3:=zaa HC3.out.2.2.2 bU;have HC4:=Qaz (And.intro z0 (And.intro z11 (And.intro z2 z3)));clear hdr bU u0 u11 HC3;cases ab with
   |false=>
    have HR:Hid (zc0 l (d.map Leaf.ty) x=false):=Qaz (by rw[HCV2.out];rfl);go_wp2;go_ret;exact⟨by rw[HR.out];try rfl,HU.out⟩
   |true=>
   have HR:Hid (zc0 l (d.map Leaf.ty) x=zwh l (d.map Leaf.ty) x.name):=Qaz (by rw[HCV2.out];rfl);obtain⟨f,hf,hok⟩:=HU.out.m;have HRM:Hid (Calls Tryz.prog 153 #[.map (some mb),.string x.name,.func (.func 154) #[] #[.pointer (some ⟨w.heap.size,0,none⟩),.pointer (some ⟨w.heap.size+1,0,none⟩),.pointer (some ⟨w.heap.size+2,0,none⟩),.pointer (some ⟨w.heap.size+3,0,none⟩)]] U fun e w'=>e=.returned (.bool (zwh l (d.map Leaf.ty) x.name))∧Cov1 hp M1 AH cH l mb (d.map Leaf.ty) w w'):=Qaz (by
    have hcl:=zv6 hp M1 AH cH l hL ol mb A d.length c (d.map Leaf.ty) w.heap.size (w.heap.size+1) (w.heap.size+2) (w.heap.size+3) x.name U HU.out.refl (HU.out.low hmm HA.out) (by have:=HPE.out;have:=HMH.out;omega) HC4.out.1 HC4.out.2.1 HC4.out.2.2.1 HC4.out.2.2.2 (HNB.out 0) (HNB.out 2) (HNB.out 3) (fun t ht V hV=>by
     have hVw:=HU.out.trans hV;have hrk:=zfl hL ht;have:=HRK.out;exact HIH.out (zau t) (by show zfd l t<q;omega) none 0 V hVw.refl (hVw.low hmm HA.out) (zik HD.out hAb hVw.ch))
    refine(zec 154 _ (enters Tryz.func154 (by kernel_rfl) rfl) mb x.name _ f U hf (fun u hu=>hok _ _ hu) (fun f' w1=>HierAt hp M1 AH cH l l.length w1∧(∀s v,f' s=some v→v=.bool (zwh l (d.map Leaf.ty) s))∧Chg (ztr M1 mb) U w1) (fun _=>hcl.mono ?_)).mono ?_
    ·rintro e w' ⟨rfl,hq⟩;obtain⟨f',hf',hok'⟩:=hq.m;exact⟨rfl,f',hf',hq.H,hok',hq.ch⟩
    ·rintro e w' ⟨rfl,hw'⟩;rcases hw' with rfl|⟨f',w1,⟨r1,r2,r3⟩,hm',hg⟩
     ·exact⟨rfl,HU.out⟩
     ·have hcg:Chg (fun b=>b=mb) w1 w':=Chg.grown hg fun b e=>by cases e;rfl
      refine⟨rfl,r1.chg hcg (fun b e=> ?_),⟨_,hm',fun s v hv=> ?_⟩,(HU.out.ch.trans r3).trans (hcg.mono fun b _ e=>.inr e)⟩
      ·have:=HPE.out;have:=HMH.out
       subst e;exact⟨by omega,by omega,fun m=>by simp only[zce]at m;omega⟩
      ·by_cases q:s=x.name
       ·subst q;simp at hv;exact hv.symm
       ·simp[q]at hv;exact r2 s v hv)
   clear hf hok;go_wp2_with (fail);refine HRM.out.mono ?_;clear HRM;rintro e Z ⟨rfl,hZ⟩;have HZ:=Qaz hZ;clear hZ;go_wp2;go_ret;exact⟨by rw[HR.out];try rfl,HZ.out⟩
def zxl:Go.Shelf.Ren:=⟨fun |4=>183|n=>n,fun |0=>0|3=>3|4=>4|9=>9|20=>20|22=>34|25=>36|n=>n,fun n=>n⟩
theorem zxn:Lays8.n4 Tryz.prog zxl where
 mixed:=by kernel_rfl
 f4:=⟨ "slices.Grow[[]skerry/api.Type,skerry/api.Type]",by decide,Tryz.func183.trans (congrArg some (by kernel_rfl))⟩
 t0:=Tryz.underlying0
 a0:=Tryz.isAgg0
 z0:=Tryz.sizeOf0
 v0:=Tryz.zeroValue0
 t3:=Tryz.underlying3
 a3:=Tryz.isAgg3
 z3:=Tryz.sizeOf3
 v3:=Tryz.zeroValue3
 t4:=Tryz.underlying4
 a4:=Tryz.isAgg4
 z4:=Tryz.sizeOf4
 v4:=Tryz.zeroValue4
 t9:=Tryz.underlying9
 a9:=Tryz.isAgg9
 z9:=Tryz.sizeOf9
 v9:=Tryz.zeroValue9
 t20:=Tryz.underlying20
 a20:=Tryz.isAgg20
 z20:=Tryz.sizeOf20
 v20:=Tryz.zeroValue20
 t22:=Tryz.underlying34
 a22:=Tryz.isAgg34
 z22:=Tryz.sizeOf34
 v22:=Tryz.zeroValue34
theorem z2x:∃i,Tryz.prog.info? 36=some i∧i.zero=some (.agg #[.int .i64 0,.string ⟨#[]⟩,.int .i64 0,.int .i64 0,.slice none 0 0])∧i.size=5∧i.bytes=64:=by
 obtain⟨i0,hi,hzz⟩:=Option.map_eq_some_iff.1 zcp;simp only[Prod.mk.injEq]at hzz;exact⟨i0,hi,hzz.1,hzz.2.1,hzz.2.2⟩
theorem zo9(n:Nat)(hn:n≤10000000)(w:World):Calls Tryz.prog 183 #[.slice none 0 0,.int .i64 n] w fun e w'=>∃v,e=.returned v∧(∀G,Own typR 36 5 w.heap.size G v [] w')∧Below w.heap.size w w':=by
 by_cases h0:n=0
 ·subst h0;refine Calls.mono (Any8.slices_Grow_room zxn none 0 0 0 w (Qiz _) (by decide) (by decide) (Qiz _)) ?_;rintro e w' ⟨rfl,rfl⟩;exact⟨_,rfl,fun G=>Own.nil _ _ _ _ _ _,Below.refl _ _⟩
 ·obtain⟨i0,hi,hz,hs,hb⟩:=z2x;refine Calls.mono (Any8.slices_Grow_grow zxn i0 _ hi hz (by rw[hs];decide) none 0 0 n [] w (Qiz _) (by omega) (by rw[hb];omega) (by omega) (by simp) (fun _=>rfl) (fun a e=>by cases e)) ?_;rintro e w' ⟨rfl,rfl⟩;rw[Nat.zero_add,Nat.sub_zero];obtain⟨cap,hcap⟩:∃cap,cap=grownCap w n 0 (zxl.t 25):=⟨_,rfl⟩;have h1:n≤cap:=by rw[hcap];exact grownCap_ge w n 0 _
  have h2:cap≤maxLen:=by rw[hcap];exact grownCap_le_maxLen w n 0 _ (by simp only[maxLen];omega)
  rw[←hcap];refine⟨_,rfl,fun G=>⟨[],⟨rfl,.inr ⟨w.heap.size,cap,_,rfl,Qiz _,heap_alloc_new w.drew _,Qjz _,h2,?_,rfl⟩⟩,.nil⟩,(Below.refl _ w).drew.alloc (by simp) _⟩;simp only[Array.size_append,size_zeroCells];show 0+n*5+(cap-n)*5=cap*5;rw[Nat.sub_mul];have:=Nat.mul_le_mul_right 5 h1;omega
theorem zwe{A:Option Addr}{d:List Leaf}{w:World}(h:Slc zfk 5 A d w):Held (fun b=>b<w.heap.size) (Typs A (d.map Leaf.ty)) w:=fun w' k=>
 zxp (zjr h fun b off _ o v hv=>zah hv k (cell_lt hv))
theorem Own.free{T base:Nat}{G G':Nat→Prop}{v:Value}{L:List Ty}{w:World}(h:Own typR T 5 base G v L w)(hl:∀t∈L,t.args=[]):Own typR T 5 base G' v L w:=by
 obtain⟨xs,h1,h2⟩:=h;refine⟨xs,h1,?_⟩;clear h1
 induction h2 with
 |nil=>exact .nil
 | @snoc l xs x cs _ hx hc ih=>
  refine .snoc (ih fun t ht=>hl t (List.mem_append.2 (.inl ht))) ?_ hc;have ha:=hl x (List.mem_append.2 (.inr (List.mem_singleton.2 rfl)));obtain⟨A,c,rfl,_⟩:=ze0.1 hx.now;obtain⟨k,s,lo,hi,args⟩:=x;have ha:args=[]:=ha;subst ha;exact zb1 k s lo hi A c
abbrev Rw:=Option Addr×Nat×List Leaf
def zee(rs:List Rw):Nat:=(rs.map fun r=>r.2.2.length).sum
def zf8(rs:List Rw):List Ty:=rs.flatMap fun r=>r.2.2.map Leaf.ty
theorem zln{rs:List Rw}{k:Nat}{r:Rw}(h:rs[k]? =some r):zee (rs.take (k+1))=zee (rs.take k)+r.2.2.length:=by
 unfold zee;rw[take_snoc h,List.map_append,List.sum_append];simp
theorem zwx(rs:List Rw)(k:Nat):zee (rs.take k)≤zee rs:=by
 unfold zee
 conv=>rhs;rw[←List.take_append_drop k rs]
 rw[List.map_append,List.sum_append];omega
theorem zs5{rs:List Rw}{k:Nat}{r:Rw}(h:rs[k]? =some r):zf8 (rs.take (k+1))=zf8 (rs.take k)++r.2.2.map Leaf.ty:=by
 unfold zf8;rw[take_snoc h,List.flatMap_append];simp
theorem znq(rs:List Rw):(zf8 rs).length=zee rs:=by
 unfold zf8 zee;rw[List.length_flatMap]
 congr 1
 apply List.map_congr_left;intro r _;simp
theorem zmg(rs:List Rw):∀t∈zf8 rs,t.args=[]:=fun t ht=>by
 obtain⟨r,_,h⟩:=List.mem_flatMap.1 ht;obtain⟨x,_,rfl⟩:=List.mem_map.1 h
 rfl
theorem zq2(ab cc:Nat)(rs:List Rw)(w:World)(hcell:∀i r,rs[i]? =some r→w.cell? ⟨ab,i,none⟩=some (.slice r.1 r.2.2.length r.2.1))(hrow:∀r∈rs,Slc zfk 5 r.1 r.2.2 w)(hlen:rs.length≤100)(hsum:zee rs≤1000000):
  Calls Tryz.prog 147 #[.slice (some ⟨ab,0,none⟩) rs.length cc] w fun e w'=>∃v,e=.returned v∧Own typR 36 5 w.heap.size (fun _=>False) v (zf8 rs) w'∧Below w.heap.size w w':=by
 have HC:=Qaz hcell;have HR:Hid (∀r∈rs,Held (fun b=>b<w.heap.size) (Typs r.1 (r.2.2.map Leaf.ty)) w):=Qaz (fun r hr=>zwe (hrow r hr));have HS:=Qaz hsum;have HG:=Qaz (fun n(hn:n≤10000000)=>zo9 n hn w);have HLE:=Qaz (fun k=>zwx rs k);clear hcell hrow hsum;go_enter Tryz.func147,Tryz.ntmps147;go_wp2_with (fail)
 go_loopw [3,11] (fun s i wr=>∃k:Nat,k≤rs.length∧s=.int .i64 (zee (rs.take k):Nat)∧i=.int .i64 k∧w=wr) (fun _ i _=>rs.length-(intOf i).toNat)
 case atStart=>exact⟨0,Qjz _,rfl,rfl,rfl⟩
 case round=>
  obtain⟨k,hk,rfl,rfl,rfl⟩:=hrel;by_cases hlt:k<rs.length
  ·have hx:rs[k]? =some rs[k]:=Qbz hlt;generalize rs[k]=r at hx;have c0:=HC.out k r hx;have HN:=Qaz (zln hx);have hb1:zee (rs.take k)+r.2.2.length≤1000000:=by rw[←HN.out];have:=HLE.out (k+1);have:=HS.out;omega
   generalize zee (rs.take k)=sk at HN hb1;generalize r.2.2.length=rl at HN hb1 c0;clear hx;go_wp2;go_roundw
   case rel=>exact⟨k+1,by omega,by rw[HN.out];go_num,by go_num,by first|rfl|trivial⟩
   case measure=>simp[intOf];omega
  ·obtain rfl:k=rs.length:=by omega
   rw[List.take_length];have HGN:=Qaz (HG.out (zee rs) (by have:=HS.out;omega));have hs0:zee rs≤1000000:=HS.out;generalize zee rs=sn at HGN hs0;go_wp2_with (go_at_call 183;refine HGN.out.mono ?_;rintro e V ⟨v,rfl,hown0,hbV⟩);have HO0:=Qaz (hown0 fun b=>b<w.heap.size);clear hown0
   go_loopw [6,27] (fun v i w2=>∃k:Nat,k≤rs.length∧i=.int .i64 k∧Own typR 36 5 w.heap.size (fun b=>b<w.heap.size) v (zf8 (rs.take k)) w2∧Below w.heap.size w w2) (fun _ i _=>rs.length-(intOf i).toNat)
   case atStart=>exact⟨0,Qjz _,rfl,HO0.out,hbV⟩
   case round=>
    obtain⟨k,hk2,rfl,hown,hbw⟩:=hrel;by_cases hlt2:k<rs.length
    ·have hx:rs[k]? =some rs[k]:=Qbz hlt2;generalize rs[k]=r at hx;have c0:=zaa (HC.out k r hx) hbw;have HST:Hid (zf8 (rs.take (k+1))=zf8 (rs.take k)++r.2.2.map Leaf.ty):=Qaz (zs5 hx);have hbz:=hbw.size;have HSR:=Qaz ((HR.out r (Qdz hx)).keep (Keep.all hbw));have HLN:Hid (((zf8 (rs.take k)).length+(r.2.2.map Leaf.ty).length)*64≤140737488355328):=Qaz (by
      rw[znq,List.length_map,←zln hx];have h1:=HLE.out (k+1);have h2:=HS.out;omega)
     clear hx;generalize zf8 (rs.take k)=fl at hown HST HLN;go_wp2_with (at_builtin;refine Classical.byContradiction fun hneg=> ?_);apply hneg;refine zby typR zpw 36 5 w.heap.size 64 (fun b=>b<w.heap.size) _ rfl _ _ 34 _ rfl Tryz.underlying34 zcp rfl (by decide) (by decide) u6 fl (r.2.2.map Leaf.ty) rfl hown r.1 r.2.1 r.2.2.length rfl (by simp) HSR.out (fun b hb e=>by have:=(hown.lt b e).1;omega) hbw.size HLN.out ?_;intro v' w3 hown1 hg1 _;have hb3:Below w.heap.size w w3:=hbw.grown hg1 hbw.size fun k' e=>(hown.lt _ e).1;clear hown;go_wp2;go_roundw
     case rel=>exact⟨k+1,by omega,by go_num,by rw[HST.out];exact hown1,hb3⟩
     case measure=>simp[intOf];omega
    ·obtain rfl:k=rs.length:=by omega
     rw[List.take_length]at hown;have HF:=Qaz (And.intro (Own.free (G':=fun _=>False) hown (zmg rs)) hbw);clear hown hbw;go_wp2;go_ret;exact⟨_,rfl,HF.out.1,HF.out.2⟩
end
section
open Go.Deep
def PartsT.setRow(p:PartsT)(i:Fin 3)(M:List Ty):PartsT:=⟨fun j=>if j=i then M else p.row j,p.t0,p.t1⟩
def PRows.set(r:PRows)(i:Fin 3)(A:Option Addr)(c:Nat):PRows:=⟨fun j=>if j=i then A else r.a j,fun j=>if j=i then c else r.c j⟩
theorem ztl(hp:Nat)(p:PartsT)(r:PRows)(i:Fin 3)(M:List Ty)(A:Option Addr)(c:Nat):(zb2 hp p r).set (1+i.val) (.slice A M.length c)=zb2 hp (p.setRow i M) (r.set i A c):=by
 match i with
 |0=>simp[zb2,PRows.v,PartsT.setRow,PRows.set]
 |1=>simp[zb2,PRows.v,PartsT.setRow,PRows.set]
 |2=>simp[zb2,PRows.v,PartsT.setRow,PRows.set]
theorem PartsAt.setRow(S:Nat→Prop){pb hp:Nat}{p:PartsT}{r:PRows}{W V:World}(h:PartsAt pb hp p r W)(i:Fin 3)(o:Nat)(ho:1+i.val=o)(hch:Chg (fun b=>(r.v p i).ownBlock=some b) W V){M:List Ty}{A:Option Addr}{c:Nat}(hown:Own typR 36 5 W.heap.size (fun _=>False) (.slice A M.length c) M V):
  PartsAt pb hp (p.setRow i M) (r.set i A c) (V.setCell ⟨pb,o,none⟩ (.slice A M.length c))∧PMove S pb r W (r.set i A c) (V.setCell ⟨pb,o,none⟩ (.slice A M.length c)):=by
 subst ho;have hlt:=h.lt;have hnew:∀x,A=some x→W.heap.size≤x.block:=fun x hx=>(hown.lt x.block (by rw[hx];rfl)).1;have hsep:∀j x,j≠i→r.a j=some x→(r.v p i).ownBlock≠some x.block:=fun j x hj hx e=>by
  cases e2:r.a i with
  |none=>unfold PRows.v at e;rw[e2]at e;simp[Value.ownBlock]at e
  |some z=>
   have hz:z.block=x.block:=by unfold PRows.v at e;rw[e2]at e;simpa[Value.ownBlock]using e
   exact h.sep _ _ _ _ hj hx e2 hz.symm
 refine⟨⟨?_,fun j=> ?_,fun a b x y hab hx hy=> ?_⟩,?_,fun b hb=> ?_⟩
 ·rw[←ztl];refine Cel.set ?_ _ (by simp[zb2];omega) _;exact h.cel.keep (hch.keep (G:=fun b=>b=pb) fun b hb e=>by subst hb;have:=(h.ownLt (PRows.ownOf e)).1;omega) rfl
 ·by_cases hj:j=i
  ·subst hj;have:(r.set j A c).v (p.setRow j M) j=.slice A M.length c:=by simp[PRows.v,PartsT.setRow,PRows.set]
   rw[this];have e2:(p.setRow j M).row j=M:=by simp[PartsT.setRow]
   rw[e2];exact(hown.setCell (p:=⟨pb,1+j.val,none⟩) (fun _ hb=>hb.elim) (fun e=>by have:=(hown.lt _ e).1;have:W.heap.size≤pb:=this;omega) _).lower (by omega)
  ·have:(r.set i A c).v (p.setRow i M) j=r.v p j:=by simp[PRows.v,PartsT.setRow,PRows.set,hj]
   rw[this];have e2:(p.setRow i M).row j=p.row j:=by simp[PartsT.setRow,hj]
   rw[e2];have o1:=(h.row j).keep (w':=V) ⟨hch.size,fun b _ hb=>hb.elim⟩ fun q hq=>hch.block q ((h.row j).lt q hq).2 (by
    cases e2:r.a j with
    |none=>unfold PRows.v at hq;rw[e2]at hq;simp[Value.ownBlock]at hq
    |some z=>
     have hz:z.block=q:=by unfold PRows.v at hq;rw[e2]at hq;simpa[Value.ownBlock]using hq
     rw[←hz];exact hsep j z hj e2)
   exact o1.setCell (p:=⟨pb,1+i.val,none⟩) (fun _ hb=>hb.elim) (fun e=>by have:=((h.row j).lt _ e).1;have:pb+1≤pb:=this;omega) _
 ·by_cases ha:a=i<;>by_cases hb:b=i
  ·exact absurd (ha.trans hb.symm) hab
  ·simp[PRows.set,ha,hb]at hx hy;have h1:=hnew x hx;have h2:=(h.ownLt ⟨b,y,hy,rfl⟩).2;omega
  ·simp[PRows.set,ha,hb]at hx hy;have h1:=hnew y hy;have h2:=(h.ownLt ⟨a,x,hx,rfl⟩).2;omega
  ·simp[PRows.set,ha,hb]at hx hy;exact h.sep a b x y hab hx hy
 ·exact(hch.mono fun b _ e=>.inr (.inr (PRows.ownOf e))).trans (Chg.setCell (S:=fun b=>S b∨b=pb∨r.own b) V (p:=⟨pb,1+i.val,none⟩) (.inr (.inl rfl)) _)
 ·obtain⟨j,x,hx,rfl⟩:=hb;by_cases hj:j=i
  ·simp[PRows.set,hj]at hx;exact .inr (hnew x hx)
  ·simp[PRows.set,hj]at hx;exact .inl ⟨j,x,hx,rfl⟩
structure PcAt (hp M1:Nat) (AH:Option Addr) (cH:Nat) (l:List CI) (pb:Nat) (w:World) (p:PartsT) (V:World):Prop where
 ex:∃r,PartsAt pb hp p r V∧∀b,r.own b→w.heap.size≤b
 H:HierAt hp M1 AH cH l l.length V
 ch:Chg (zce M1) w V
end
section
open Go.Deep
attribute [local go_sem ↓] Go.wp_at_zero Go.wp_at_succ
def zhs(x:Ty):Bool:=decide (-9223372036854775808≤x.lo)&&decide (x.hi≤9223372036854775807)
structure POk (p:PartsT):Prop where
 r0:∀t∈p.row 0,Rng t
 r1:∀t∈p.row 1,t.args=[]
 r2:∀t∈p.row 2,t.args=[]
theorem POk.add0{p:PartsT}(h:POk p){t:Ty}(ht:Rng t):POk (p.add 0 t):=
 ⟨fun x hx=>by
  have hx:x∈p.row 0++[t]:=hx;rcases List.mem_append.1 hx with q|q
  ·exact h.r0 x q
  ·simp only[List.mem_singleton]at q;rw[q];exact ht,h.r1,h.r2⟩
theorem POk.add1{p:PartsT}(h:POk p){t:Ty}(ht:t.args=[]):POk (p.add 1 t):=
 ⟨h.r0,fun x hx=>by
  have hx:x∈p.row 1++[t]:=hx;rcases List.mem_append.1 hx with q|q
  ·exact h.r1 x q
  ·simp only[List.mem_singleton]at q;rw[q];exact ht,h.r2⟩
theorem POk.add2{p:PartsT}(h:POk p){t:Ty}(ht:t.args=[]):POk (p.add 2 t):=
 ⟨h.r0,h.r1,fun x hx=>by
  have hx:x∈p.row 2++[t]:=hx;rcases List.mem_append.1 hx with q|q
  ·exact h.r2 x q
  ·simp only[List.mem_singleton]at q;rw[q];exact ht⟩
theorem POk.addC{l:List CI}{p:PartsT}(h:POk p){t:Ty}(ht:t.args=[]):POk (addC l p t):=by
 unfold Go.Proofs.YtepnmejahbiacaaGreat.addC
 split
 ·exact h.add0 (Rng.mk (by decide) (by decide) (by decide))
 ·split
  ·exact⟨h.r0,h.r1,h.r2⟩
  ·split
   ·exact h
   ·exact h.add2 ht
mutual
theorem POk.addT(l:List CI):∀(t:Ty)(p:PartsT),POk p→zam l t=true→t.all zhs=true→POk (addT l t p)
 | .mk k n lo hi args,p,h,hf,hb=>by
  rw[zax]at hf;rw[Ty.all_args]at hb;obtain⟨hf,hfa⟩:=Bool.and_eq_true_iff.1 hf;obtain⟨hb,hba⟩:=Bool.and_eq_true_iff.1 hb;unfold zar at hf;simp only[Ty.kind,Ty.name,Ty.lo,Ty.hi,Ty.args]at hf hfa hba;rw[Go.Proofs.YtepnmejahbiacaaGreat.addT]
  split
  ·rename_i hk;subst hk;simp at hf;exact h.addC (show(Ty.mk 1 n lo hi args).args=[]from hf.2)
  ·rename_i k1
   split
   ·rename_i hk;subst hk;simp at hf;obtain⟨⟨h1,h2⟩,rfl⟩:=hf;unfold zhs at hb;obtain⟨h3,h4⟩:=Bool.and_eq_true_iff.1 hb;have h2:n=⟨#[]⟩:=by first|exact h2|exact of_decide_eq_true h2
    subst h2;exact h.add0 ⟨lo,hi,rfl,by first|exact h1|exact of_decide_eq_true h1,of_decide_eq_true h3,of_decide_eq_true h4⟩
   ·rename_i k2
    split
    ·exact⟨h.r0,h.r1,h.r2⟩
    ·rename_i k3
     split
     ·rename_i hk;subst hk;simp at hf;unfold zy5
      split
      ·exact h.addC rfl
      ·exact h.add1 (show(Ty.mk 4 n lo hi args).args=[]from hf.2)
     ·exact POk.addTs l args p h (fun x hx=>List.all_eq_true.1 hfa x hx) (fun x hx=>List.all_eq_true.1 hba x hx)
theorem POk.addTs(l:List CI):∀(L:List Ty)(p:PartsT),POk p→(∀x∈L,zam l x=true)→(∀x∈L,x.all zhs=true)→POk (addTs l L p)
 | [],p,h,_,_=>by rw[Go.Proofs.YtepnmejahbiacaaGreat.addTs];exact h
 |t::r,p,h,hf,hb=>by
  rw[Go.Proofs.YtepnmejahbiacaaGreat.addTs];exact POk.addTs l r _ (POk.addT l t p h (hf t (by simp)) (hb t (by simp))) (fun x hx=>hf x (List.mem_cons_of_mem _ hx)) (fun x hx=>hb x (List.mem_cons_of_mem _ hx))
end
theorem PcAt.via{hp M1:Nat}{AH:Option Addr}{cH:Nat}{l:List CI}{pb:Nat}{w V V':World}{p p':PartsT}(h:PcAt hp M1 AH cH l pb w p V)(hpb:hp<pb)(hw:w.heap.size≤pb){r r':PRows}(h1:PartsAt pb hp p r V)(h2:∀b,r.own b→w.heap.size≤b)(k:PartsAt pb hp p' r' V'∧PMove (fun _=>False) pb r V r' V'):PcAt hp M1 AH cH l pb w p' V':=by
 obtain⟨k1,k2⟩:=k;refine⟨⟨r',k1,fun b hb=> ?_⟩,h.H.pmove h1 hpb k2,h.ch.trans3 k2.chg fun b hb=> ?_⟩
 ·rcases k2.own b hb with q|q
  ·exact h2 b q
  ·exact Nat.le_trans h.ch.size q
 ·rcases hb with hb|rfl|hb
  ·exact hb.elim
  ·exact .inr hw
  ·exact .inr (h2 b hb)
theorem PcAt.all{hp M1:Nat}{AH:Option Addr}{cH:Nat}{l:List CI}{pb:Nat}{w V V':World}{p:PartsT}(h:PcAt hp M1 AH cH l pb w p V)(b:Below V.heap.size V V'):PcAt hp M1 AH cH l pb w p V':=
 ⟨h.ex.imp fun r q=>⟨q.1.all b,q.2⟩,h.H.keep b,h.ch.trans (Chg.of b)⟩
end
section
theorem From1.none(l:List CI):From1 l [] zbk:=⟨fun y hy=>(by cases hy),fun y hy=>(by cases hy),fun y hy=>(by cases hy),fun q=>(by cases q),fun q=>(by cases q)⟩
theorem z03{l:List CI}(h:zai l){Y:List Ty}{x:Ty}(hc:∃z∈Y,covers l x z=true):zc0 l Y x=true:=by
 rw[zo1 h,List.any_eq_true.2 hc];rfl
structure Side (l:List CI) (b:Ty) (p:PartsT) (M:List Ty) (Lb:List Ty):Prop where
 hL:zai l
 fr:From1 l b.pieces p
 hold:∀z∈b.pieces,Holds1 l p z
 nob:zny (p.row 2) zak=false
 gap:Gap M
 num:∀n,num M n↔num (p.row 0) n
 mem:∀x,x∈Lb↔x∈zcg p∨(x∈M∧za7 M=false)∨(x∈zp4 l (p.row 1)∧zny (zcv p M) zaw=false)∨x∈zp4 l (zcv p M)
namespace Side
variable {l:List CI} {b:Ty} {p:PartsT} {M Lb:List Ty}
theorem row2_not(S:Side l b p M Lb):∀y∈p.row 2,y.name≠zak:=fun y hy e=>by
 have:=S.nob;unfold zny at this;rw[List.any_eq_false]at this;exact this y hy (Qhz e)
theorem memK{p:PartsT}{M:List Ty}{y:Ty}:y∈zcv p M↔y∈p.row 2∨(y=zau zal∧za7 M=true)∨(y=zau zan∧p.t0=true∧p.t1=true):=by
 unfold zcv;rw[List.mem_append,List.mem_append,or_assoc];have e1:(y∈if za7 M=true then[zau zal]else[])↔(y=zau zal∧za7 M=true):=by cases za7 M<;>simp
 have e2:(y∈if p.t0=true∧p.t1=true then[zau zan]else[])↔(y=zau zan∧p.t0=true∧p.t1=true):=by
  cases p.t0<;>cases p.t1<;>simp
 rw[e1,e2]
theorem kindK(S:Side l b p M Lb):∀y∈zcv p M,y.kind=1∧y.name≠zak:=fun y hy=>by
 rcases memK.1 hy with q|⟨q,_⟩|⟨q,_⟩
 ·refine⟨?_,S.row2_not y q⟩;rcases S.fr.r2 y q with r|⟨r,_⟩
  ·exact r.2.1
  ·rw[r];rfl
 ·rw[q];exact⟨rfl,show zal≠zak by decide⟩
 ·rw[q];exact⟨rfl,show zan≠zak by decide⟩
theorem up(S:Side l b p M Lb){s:ByteArray}{y:Ty}(hy:y∈zcv p M)(hs:zbg l s y.name=true):∃z∈Lb,z.kind=1∧z.name≠zak∧zbg l s z.name=true:=by
 obtain⟨z,hz,hb⟩:=zx4 S.hL (zcv p M) _ s y (Nat.lt_succ_self _) hy hs;exact⟨z,(S.mem z).2 (.inr (.inr (.inr hz))),(S.kindK z (zx5 hz)).1,(S.kindK z (zx5 hz)).2,hb⟩
theorem whole(S:Side l b p M Lb)(h:zb3∈p.row 0):za7 M=true:=by
 rw[S.gap.whole];obtain⟨y,hy,h1,h2⟩:=S.gap.inside (lo:= -9223372036854775808) (hi:=9223372036854775807) (by decide) fun n a c=>(S.num n).2 ⟨zb3,h,a,c⟩;have hr:=S.gap.rng y hy;have e1:y.lo= -9223372036854775808:=by have:=hr.lo;omega
 have e2:y.hi=9223372036854775807:=by have:=hr.hi;omega
 have:=hr.eq;rw[e1,e2]at this;have e3:y=zb3:=this;rw[←e3];exact hy
end Side
end
theorem zug(x:Ty):eqL x x=true:=by
 unfold eqL;rw[Qhz rfl,Qhz rfl,Qhz rfl,Qhz rfl];rfl
structure Pcs where
 no:Bool
 yes:Bool
 ints:List Ty
 subs:List ByteArray
 classes:List ByteArray
def zdz:Pcs:=⟨false,false,[],[],[]⟩
def zpv(p:Pcs)(s:ByteArray):Pcs:=if s=zal then{ p with ints:=p.ints++[zb3] }else if s=zan then{ p with no:=true,yes:=true }else{ p with classes:=p.classes++[s] }
def zv9(p:Pcs)(s:ByteArray):Pcs:=if s=zak then{ p with classes:=p.classes++[zaw] }else{ p with subs:=p.subs++[s] }
mutual
def zc3:Ty→Pcs→Pcs
 | .mk k n lo hi args,p=>if k=2 then{ p with ints:=p.ints++[.mk k n lo hi args] }else if k=3 then{ p with no:=p.no||decide (lo=0),yes:=p.yes||decide (lo=1) }else if k=4 then zv9 p n else if k=1 then zpv p n else if k=5 then zdr args p else p
def zdr:List Ty→Pcs→Pcs
 | [],p=>p
 |t::r,p=>zdr r (zc3 t p)
end
theorem zlk:∀(L:List Ty)(p:Pcs),zdr L p=L.foldl (fun p t=>zc3 t p) p
 | [],p=>by rw[zdr];rfl
 |t::r,p=>by rw[zdr,zlk r];rfl
theorem zth(L:List Ty)(t:Ty)(p:Pcs):zdr (L++[t]) p=zc3 t (zdr L p):=by
 rw[zlk,zlk,List.foldl_append];rfl
def zi6(s:ByteArray):Ty:=.mk 4 s 0 0 []
structure PcRel (l:List CI) (p:PartsT) (c:Pcs):Prop where
 ints:p.row 0=c.ints
 no:p.t0=c.no
 yes:p.t1=c.yes
 subs:p.row 1=c.subs.map zi6
 cls:p.row 2=(c.classes.filter fun s=> !vdB l s).map zau
 noI:∀s∈c.classes,s≠zal∧s≠zan
 hasC:∀s∈c.classes,hasB l s=true
 hasS:∀s∈c.subs,hasB l s=true∧s≠zak
theorem PcRel.none(l:List CI):PcRel l zbk zdz:=⟨rfl,rfl,rfl,rfl,rfl,fun _ h=>(by cases h),fun _ h=>(by cases h),fun _ h=>(by cases h)⟩
theorem zpi(p:PartsT)(i:Fin 3)(y:Ty):(p.add i y).row i=p.row i++[y]:=by unfold PartsT.add;simp
theorem zdf(p:PartsT){i j:Fin 3}(h:j≠i)(y:Ty):(p.add i y).row j=p.row j:=by unfold PartsT.add;simp[h]
theorem PcRel.addC{l:List CI}{p:PartsT}{c:Pcs}(h:PcRel l p c){s:ByteArray}(hs:hasB l s=true):PcRel l (addC l p (zau s)) (zpv c s):=by
 unfold Go.Proofs.YtepnmejahbiacaaGreat.addC zpv;show PcRel l (if s=zal then _ else if s=zan then _ else if vdB l s=true then _ else _) _
 split
 ·exact⟨by rw[zpi,h.ints];rfl,h.no,h.yes,by rw[zdf _ (by decide)];exact h.subs,by rw[zdf _ (by decide)];exact h.cls,h.noI,h.hasC,h.hasS⟩
 ·rename_i n1
  split
  ·exact⟨h.ints,rfl,rfl,h.subs,h.cls,h.noI,h.hasC,h.hasS⟩
  ·rename_i n2;have hn:∀t∈c.classes++[s],t≠zal∧t≠zan:=fun t ht=>by
    rcases List.mem_append.1 ht with q|q
    ·exact h.noI t q
    ·rw[List.mem_singleton.1 q];exact⟨n1,n2⟩
   have hh:∀t∈c.classes++[s],hasB l t=true:=fun t ht=>by
    rcases List.mem_append.1 ht with q|q
    ·exact h.hasC t q
    ·rw[List.mem_singleton.1 q];exact hs
   split
   ·rename_i hv;exact⟨h.ints,h.no,h.yes,h.subs,by
     show p.row 2=((c.classes++[s]).filter fun s=> !vdB l s).map zau;rw[h.cls,List.filter_append];have:[s].filter (fun s=> !vdB l s)=[]:=by simp[hv]
     rw[this,List.append_nil],hn,hh,h.hasS⟩
   ·rename_i hv;exact⟨by rw[zdf _ (by decide)];exact h.ints,h.no,h.yes,by rw[zdf _ (by decide)];exact h.subs,by
     show(p.add 2 (zau s)).row 2=((c.classes++[s]).filter fun s=> !vdB l s).map zau;rw[zpi,h.cls,List.filter_append];have:[s].filter (fun s=> !vdB l s)=[s]:=by simp[hv]
     rw[this,List.map_append];rfl,hn,hh,h.hasS⟩
mutual
theorem PcRel.coll{l:List CI}(hL:zai l):∀(t:Ty)(p:PartsT)(c:Pcs),zam l t=true→PcRel l p c→PcRel l (addT l t p) (zc3 t c)
 | .mk k n lo hi args,p,c,hf,h=>by
  rw[zax]at hf;obtain⟨hf,hfa⟩:=Bool.and_eq_true_iff.1 hf;unfold zar at hf;simp only[Ty.kind,Ty.name,Ty.lo,Ty.hi,Ty.args]at hf hfa;rw[addT,zc3];by_cases k1:k=1
  ·subst k1;simp at hf;obtain⟨⟨⟨hb,q1⟩,q2⟩,q3⟩:=hf;have e1:lo=0:=by first|exact q1|exact of_decide_eq_true q1
   have e2:hi=0:=by first|exact q2|exact of_decide_eq_true q2
   have e3:args=[]:=by first|exact q3|exact of_decide_eq_true q3
   clear q1 q2 q3;subst e1;subst e2;subst e3
   rw[if_pos rfl,if_neg (by decide),if_neg (by decide),if_neg (by decide),if_pos rfl];exact h.addC hb
  ·rw[if_neg k1];by_cases k2:k=2
   ·subst k2;simp at hf;rw[if_pos rfl,if_pos rfl];exact⟨by rw[zpi,h.ints],h.no,h.yes,by rw[zdf _ (by decide)];exact h.subs,by rw[zdf _ (by decide)];exact h.cls,h.noI,h.hasC,h.hasS⟩
   ·rw[if_neg k2,if_neg k2];by_cases k3:k=3
    ·subst k3;rw[if_pos rfl,if_pos rfl];exact⟨h.ints,by show(p.t0||_)=(c.no||_);rw[h.no],by show(p.t1||_)=(c.yes||_);rw[h.yes],h.subs,h.cls,h.noI,h.hasC,h.hasS⟩
    ·rw[if_neg k3,if_neg k3];by_cases k4:k=4
     ·subst k4;simp at hf;obtain⟨⟨⟨hb,q1⟩,q2⟩,q3⟩:=hf;have e1:lo=0:=by first|exact q1|exact of_decide_eq_true q1
      have e2:hi=0:=by first|exact q2|exact of_decide_eq_true q2
      have e3:args=[]:=by first|exact q3|exact of_decide_eq_true q3
      clear q1 q2 q3;subst e1;subst e2;subst e3
      rw[if_pos rfl,if_pos rfl];unfold zy5 zv9;show PcRel l (if n=zak then _ else _) _
      split
      ·have hc:hasB l zaw=true:=by
        obtain⟨x,hx,e,_⟩:=zk5;have:=(zd1 hL (zg4 hL hx) rfl).2;unfold hasB;rw[←e,this];rfl
       have:=h.addC hc;unfold zpv at this;rw[if_neg (by decide),if_neg (by decide)]at this;exact this
      ·rename_i e;exact⟨by rw[zdf _ (by decide)];exact h.ints,h.no,h.yes,by
        show(p.add 1 _).row 1=(c.subs++[n]).map zi6;rw[zpi,h.subs,List.map_append];rfl,by rw[zdf _ (by decide)];exact h.cls,h.noI,h.hasC,fun s hs=>by
        rcases List.mem_append.1 hs with q|q
        ·exact h.hasS s q
        ·rw[List.mem_singleton.1 q];exact⟨hb,e⟩⟩
     ·rw[if_neg k4,if_neg k4,if_neg k1];by_cases k5:k=5
      ·rw[if_pos k5];exact PcRel.colls hL args p c (List.all_eq_true.1 hfa) h
      ·exfalso;simp[k1,k2,k3,k4,k5]at hf
theorem PcRel.colls{l:List CI}(hL:zai l):∀(L:List Ty)(p:PartsT)(c:Pcs),(∀x∈L,zam l x=true)→PcRel l p c→PcRel l (addTs l L p) (zdr L c)
 | [],p,c,_,h=>by rw[addTs,zdr];exact h
 |t::r,p,c,hf,h=>by
  rw[addTs,zdr];exact PcRel.colls hL r _ _ (fun x hx=>hf x (List.mem_cons_of_mem _ hx)) (PcRel.coll hL t p c (hf t (List.mem_cons_self ..)) h)
end
def zfa(l:List CI)(m:List ByteArray)(s:ByteArray):Prop:=s∈m∧∀u∈m,u≠s→za0 l s u=false
def ze6(l:List CI)(c:Pcs)(M:List Ty):List ByteArray:=(((c.classes++if za7 M=true then[zal]else[])++if c.no=true∧c.yes=true then[zan]else[])).filter fun s=> !vdB l s
def PcsFin(l:List CI)(c r:Pcs):Prop:=
 ∃M,Gap M∧(∀n,num M n↔num c.ints n)∧
  ((zfa l (ze6 l c M) zak∧r=⟨false,false,[],[],[zak]⟩)∨
   (¬zfa l (ze6 l c M) zak∧r.no=(c.no&& !c.yes)∧r.yes=(c.yes&& !c.no)∧r.ints=(if za7 M=true then[]else M)∧(∀s,s∈r.classes↔zfa l (ze6 l c M) s)∧∀s,s∈r.subs↔(zfa l c.subs s∧¬zfa l (ze6 l c M) zaw)))
def zbj(r:Pcs):List Ty:=((((if r.no=true then[zbb 0]else[])++if r.yes=true then[zbb 1]else[])++r.ints)++r.subs.map zi6)++r.classes.map zau
theorem z2q{l:List CI}(h:zai l):vdB l zal=false:=by obtain⟨x,hx,e,_,ha⟩:=zl5;rw[←e];exact zwr h hx (.inl ha)
theorem z0t{l:List CI}(h:zai l):vdB l zan=false:=by obtain⟨x,hx,e,_,ha⟩:=zjx;rw[←e];exact zwr h hx (.inl ha)
theorem zen{l:List CI}(h:zai l){c:Pcs}{M:List Ty}{s:ByteArray}:s∈ze6 l c M↔(s∈c.classes∧vdB l s=false)∨(s=zal∧za7 M=true)∨(s=zan∧c.no=true∧c.yes=true):=by
 unfold ze6;rw[List.mem_filter,List.mem_append,List.mem_append];constructor
 ·rintro⟨(q|q)|q,hv⟩
  ·exact .inl ⟨q,by simpa using hv⟩
  ·split at q
   ·rename_i e;exact .inr (.inl ⟨List.mem_singleton.1 q,e⟩)
   ·cases q
  ·split at q
   ·rename_i e;exact .inr (.inr ⟨List.mem_singleton.1 q,e⟩)
   ·cases q
 ·rintro(⟨q,hv⟩|⟨rfl,e⟩|⟨rfl,e⟩)
  ·exact⟨.inl (.inl q),by rw[hv];rfl⟩
  ·exact⟨.inl (.inr (by rw[if_pos e];exact List.mem_singleton.2 rfl)),by rw[z2q h];rfl⟩
  ·exact⟨.inr (by rw[if_pos e];exact List.mem_singleton.2 rfl),by rw[z0t h];rfl⟩
theorem zyb{l:List CI}(h:zai l){m:List ByteArray}:zfa l m zak↔zak∈m:=
 ⟨fun q=>q.1,fun q=>⟨q,fun u _ hn=>by
  cases hb:za0 l zak u with
  |false=>rfl
  |true=>exact absurd ((zyu h).1 hb) hn⟩⟩
theorem z0w{l:List CI}(h:zai l){m:List ByteArray}(ho:zak∉m):zfa l m zaw↔zaw∈m:=
 ⟨fun q=>q.1,fun q=>⟨q,fun u hu hn=>by
  cases hb:za0 l zaw u with
  |false=>rfl
  |true=>exact((zyn h).1 hb).elim (fun e=>absurd e hn) (fun e=>absurd (e▸hu) ho)⟩⟩
theorem zjj{l:List CI}(h:zai l){p:PartsT}{c:Pcs}(R:PcRel l p c){M:List Ty}{x:Ty}:x∈zcv p M↔∃s,s∈ze6 l c M∧x=zau s:=by
 rw[Side.memK,R.cls,R.no,R.yes];constructor
 ·rintro(q|⟨rfl,e⟩|⟨rfl,e⟩)
  ·obtain⟨s,hs,rfl⟩:=List.mem_map.1 q;obtain⟨h1,h2⟩:=List.mem_filter.1 hs;exact⟨s,(zen h).2 (.inl ⟨h1,by simpa using h2⟩),rfl⟩
  ·exact⟨_,(zen h).2 (.inr (.inl ⟨rfl,e⟩)),rfl⟩
  ·exact⟨_,(zen h).2 (.inr (.inr ⟨rfl,e⟩)),rfl⟩
 ·rintro⟨s,hs,rfl⟩;rcases(zen h).1 hs with⟨q,hv⟩|⟨rfl,e⟩|⟨rfl,e⟩
  ·exact .inl (List.mem_map.2 ⟨s,List.mem_filter.2 ⟨q,by rw[hv];rfl⟩,rfl⟩)
  ·exact .inr (.inl ⟨rfl,e⟩)
  ·exact .inr (.inr ⟨rfl,e⟩)
theorem zux{l:List CI}(h:zai l){f:ByteArray→Ty}(hf:∀s,(f s).name=s){L:List Ty}{m:List ByteArray}(hm:∀x,x∈L↔∃s,s∈m∧x=f s){x:Ty}:x∈zp4 l L↔∃s,zfa l m s∧x=f s:=by
 unfold zp4;rw[List.mem_filter];constructor
 ·rintro⟨hx,hn⟩;obtain⟨s,hs,rfl⟩:=(hm x).1 hx;refine⟨s,⟨hs,fun u hu hne=> ?_⟩,rfl⟩;cases hb:za0 l s u with
  |false=>rfl
  |true=>
   exfalso;have:(L.any fun u=>decide (u.name≠(f s).name)&&zbg l (f s).name u.name)=true:=List.any_eq_true.2 ⟨f u,(hm _).2 ⟨u,hu,rfl⟩,by rw[hf,hf,ze5 h,hb,Qhz hne];rfl⟩;rw[this]at hn;cases hn
 ·rintro⟨s,⟨hs,hn⟩,rfl⟩;refine⟨(hm _).2 ⟨s,hs,rfl⟩,?_⟩;rw[Bool.not_eq_true'];rw[List.any_eq_false];intro y hy q;obtain⟨u,hu,rfl⟩:=(hm y).1 hy;obtain⟨q1,q2⟩:=Bool.and_eq_true_iff.1 q;rw[hf,hf]at q1;rw[hf,hf,ze5 h,hn u hu (of_decide_eq_true q1)]at q2;cases q2
theorem zkb{l:List CI}(h:zai l){p:PartsT}{c r:Pcs}(R:PcRel l p c)(F:PcsFin l c r):IsPieces l p (zbj r):=by
 obtain⟨M,hg,hn,F⟩:=F;have ho:zny (p.row 2) zak=true↔zak∈ze6 l c M:=by
  unfold zny;rw[List.any_eq_true,zen h,R.cls];constructor
  ·rintro⟨x,hx,e⟩;obtain⟨s,hs,rfl⟩:=List.mem_map.1 hx;obtain⟨h1,h2⟩:=List.mem_filter.1 hs;have e:s=zak:=of_decide_eq_true e;subst e;exact .inl ⟨h1,by simpa using h2⟩
  ·rintro(⟨q,hv⟩|⟨e,_⟩|⟨e,_⟩)
   ·exact⟨zau zak,List.mem_map.2 ⟨_,List.mem_filter.2 ⟨q,by rw[hv];rfl⟩,rfl⟩,Qhz rfl⟩
   ·exact absurd e (by decide)
   ·exact absurd e (by decide)
 unfold IsPieces;rw[←zyb h]at ho;rcases F with⟨q,rfl⟩|⟨q,f1,f2,f3,f4,f5⟩
 ·rw[if_pos (ho.2 q)];rfl
 ·rw[if_neg (fun e=>q (ho.1 e))];refine⟨M,hg,fun n=>by rw[hn,R.ints],fun x=> ?_⟩;have hq:zak∉ze6 l c M:=fun e=>q ((zyb h).2 e);have hc:zny (zcv p M) zaw=false↔¬zfa l (ze6 l c M) zaw:=by
   rw[z0w h hq,←Bool.not_eq_true];refine not_congr ?_;unfold zny;rw[List.any_eq_true];constructor
   ·rintro⟨y,hy,e⟩;obtain⟨s,hs,rfl⟩:=(zjj h R).1 hy;have e:s=zaw:=of_decide_eq_true e;exact e▸hs
   ·intro e;exact⟨zau zaw,(zjj h R).2 ⟨_,e,rfl⟩,Qhz rfl⟩
  rw[hc,zux h (f:=zau) (fun _=>rfl) (fun x=>zjj h R),zux h (f:=zi6) (m:=c.subs) (fun _=>rfl) (fun x=>by rw[R.subs,List.mem_map];exact⟨fun ⟨s,a,b⟩=>⟨s,a,b.symm⟩,fun ⟨s,a,b⟩=>⟨s,a,b.symm⟩⟩)];unfold zbj zcg;rw[List.mem_append,List.mem_append,List.mem_append,List.mem_map,List.mem_map,f1,f2,f3,R.no,R.yes];have e1:(x∈(if(c.no&& !c.yes)=true then[zbb 0]else[])++if(c.yes&& !c.no)=true then[zbb 1]else[])↔x∈if c.no=true∧c.yes=true then[]else if c.no=true then[zbb 0]else if c.yes=true then[zbb 1]else[]:=by
   cases c.no<;>cases c.yes<;>simp
  have e2:(x∈if za7 M=true then[]else M)↔x∈M∧za7 M=false:=by
   cases za7 M<;>simp
  have e3:(∃a,a∈r.subs∧zi6 a=x)↔(∃s,zfa l c.subs s∧x=zi6 s)∧¬zfa l (ze6 l c M) zaw:=by
   constructor
   ·rintro⟨a,ha,rfl⟩;obtain⟨h1,h2⟩:=(f5 a).1 ha;exact⟨⟨a,h1,rfl⟩,h2⟩
   ·rintro⟨⟨a,ha,rfl⟩,h2⟩;exact⟨a,(f5 a).2 ⟨ha,h2⟩,rfl⟩
  have e4:(∃a,a∈r.classes∧zau a=x)↔∃s,zfa l (ze6 l c M) s∧x=zau s:=
   ⟨fun ⟨a,ha,e⟩=>⟨a,(f4 a).1 ha,e.symm⟩,fun ⟨a,ha,e⟩=>⟨a,(f4 a).2 ha,e.symm⟩⟩
  rw[e1,e2,e3,e4,or_assoc,or_assoc]
end Go.Proofs.YtepnmejahbiacaaGreat
