/- Part 11 of the proof: Lk, Tg. -/
import Derived.Test.YtepnmejahbiacaaGreatM10
set_option linter.unusedVariables false
set_option linter.unusedSimpArgs false
set_option maxHeartbeats 64000000
set_option maxRecDepth 100000
namespace Go.Proofs.YtepnmejahbiacaaGreat
open Go.RowKit
theorem zba(l:List CI):(zav l).length=l.length:=by simp[zav]
theorem zfw{l:List CI}{i:Nat}{x:CI}(h:l[i]? =some x):(zav l)[i]? =some x.heir:=by unfold zav;rw[List.getElem?_map,h];rfl
theorem zc5:zbm.length=11:=zev 4
def zcb(l:List CI)(k:Nat)(x:CI):Bool:=
 !(zbi ((l.take k).map (·.name)) x.name).isSome&& !decide (x.name=⟨#[]⟩)&&decide (x.name.size≤100)&&
  (decide (k<11)||(!decide (x.supers.length=0)&&decide (x.supers.length≤8)&&zhe l k x))
def zil(l:List CI):Prop:=∀(k:Nat)(x:CI),l[k]? =some x→zcb l k x=true
def z07(l:List CI):Prop:=za3 (zav l)=0∧∀(k:Nat)(x:CI),l[k]? =some x→line (zav l) k=some x.cpl
theorem zqh{l:List CI}(hb:l.take 11=zbm)(hok:zil l):∀x∈l,x.supers.length≤8:=by
 intro x hx;obtain⟨j,hj⟩:=Qez hx;rcases Nat.lt_or_ge j 11 with h|h
 ·have h1:(l.take 11)[j]? =some x:=by rw[List.getElem?_take,if_pos h];exact hj
  rw[hb]at h1;have:zbm.all (fun y=>decide (y.supers.length≤1))=true:=by decide
  have:=of_decide_eq_true (List.all_eq_true.1 this x (Qdz h1));omega
 ·have h2:=hok j x hj;unfold zcb at h2;rw[Qgz (show ¬j<11 by omega)]at h2;simp only[Bool.false_or,Bool.and_eq_true,decide_eq_true_eq]at h2;exact h2.2.1.2
def zai(l:List CI):Prop:=l.length≤120∧11≤l.length∧l.take 11=zbm∧zil l∧z07 l
def zzs(A:Option Addr)(c:Nat)(l:List CI)(w:World)(e:Ending)(w':World):Prop:=
 Below w.heap.size w w'∧((¬zai l∧e=.returned (.pointer none))∨(zai l∧∃hp M1,w.heap.size≤hp∧w.heap.size≤M1∧e=.returned (.pointer (some ⟨hp,0,none⟩))∧HierAt hp M1 A c l l.length w'))
theorem zdh(A:Option Addr)(c:Nat)(l:List CI)(w:World)(hc:l.length≤c)(G:Nat→Prop)(h:Held G (CIs A l) w)(ol:∀x∈l,zdo x)(hl:l.length≤1000000):
  Calls Tryz.prog 67 #[.slice A l.length c] w (zzs A c l w):=by
 have HB:=Qaz (zn1 w);have hmm:= @run_makeMap Tryz.prog;by_cases q1:120<l.length
 ·have t1:decide ((120:Int)<(l.length:Int))=true:=Qhz (by omega);go_enter Tryz.func67,Tryz.ntmps67;go_wp2_with (fail);refine HB.out.mono ?_;rintro e w1 ⟨v,rfl,hown,hb1⟩;obtain⟨A',c',rfl,_,_⟩:=hown.out;rw[zc5];go_wp2;go_ret;exact⟨hb1,.inl ⟨fun hh=>absurd hh.1 (by omega),rfl⟩⟩
 have t1:decide ((120:Int)<(l.length:Int))=false:=Qgz (by omega);by_cases q2:l.length<11
 ·have t2:decide ((l.length:Int)<11)=true:=Qhz (by omega);go_enter Tryz.func67,Tryz.ntmps67;go_wp2_with (fail);refine HB.out.mono ?_;rintro e w1 ⟨v,rfl,hown,hb1⟩;obtain⟨A',c',rfl,_,_⟩:=hown.out;rw[zc5];go_wp2;go_ret;exact⟨hb1,.inl ⟨fun hh=>absurd hh.2.1 (by omega),rfl⟩⟩
 have t2:decide ((l.length:Int)<11)=false:=Qgz (by omega);go_enter Tryz.func67,Tryz.ntmps67;go_wp2_with (fail);refine HB.out.mono ?_;clear HB;rintro e w1 ⟨v,rfl,hown,hb1⟩;obtain⟨A',c',rfl,hc',hS⟩:=hown.out;have h1:=h.keep (Keep.all hb1);have HE:=zmi A A' c c' (l.take 11) zbm w1 (Slc.take h1.now 11) hS.now (by simp;omega) (by rw[zc5];decide) (fun x hx=>ol x (List.mem_of_mem_take hx)) (by
  have:zbm.all (fun y=>decide (y.supers.length≤1)&&decide (y.cpl.length≤6))=true:=by decide
  intro x hx;have:=List.all_eq_true.1 this x hx;simp only[Bool.and_eq_true,decide_eq_true_eq]at this;exact⟨by omega,by omega⟩)
 rw[List.length_take,Nat.min_eq_left (by omega),zc5]at HE;rw[zc5];obtain⟨b,off,rfl⟩:=Slc.addrH h (by omega);have HEQ:=Qaz HE;clear HE;go_wp2_with (fail);refine HEQ.out.mono ?_;clear HEQ;rintro e w2 ⟨rfl,hb2⟩;have hb0:Below w.heap.size w w2:=hb1.trans (hb2.mono hb1.size);by_cases q3:l.take 11=zbm;rotate_left
 ·rw[Qgz q3];have Q3:=Qaz q3;clear q3;go_wp2;go_ret;exact⟨hb0,.inl ⟨fun hh=>Q3.out hh.2.2.1,rfl⟩⟩
 rw[Qhz q3];have Q3:=Qaz q3;have h2:=h.keep (Keep.all hb0);clear q3 h1 hS hown hb1 hb2 h2;go_wp2_with (fail);clear hmm;obtain⟨M1,hM1⟩:∃M,M=w2.heap.size:=⟨_,rfl⟩;obtain⟨hp,hhp⟩:∃M,M=w2.heap.size+1+1+1:=⟨_,rfl⟩;rw[←hhp,←hM1];have hsz:=hb0.size;generalize hw3:(((w2.alloc (.map #[] 0)).alloc (.map #[] 0)).alloc (.map #[] 0)).alloc (.cells #[.slice (some ⟨b,off,none⟩) l.length c,.map (some M1),.map (some (M1+1)),.map (some (M1+1+1))] 142)=w3;have hb3:Below w2.heap.size w2 w3:=by rw[←hw3];exact((((Below.refl _ w2).alloc (Qiz _) _).alloc (by simp) _).alloc (by simp;omega) _).alloc (by simp;omega) _
 have H0:HierAt hp M1 (some ⟨b,off,none⟩) c l 0 w3:=by
  rw[←hw3];refine⟨zac _ _ _ _ (by simp;omega) 0 _ rfl,zac _ _ _ _ (by simp;omega) 1 _ rfl,?_,zac _ _ _ _ (by simp;omega) 2 _ rfl,zac _ _ _ _ (by simp;omega) 3 _ rfl,?_,?_,by omega⟩
  ·exact((((MapF.made zbn w2 M1 hM1).keep (Keep.alloc (fun _=>True) _ _) trivial).keep (Keep.alloc (fun _=>True) _ _) trivial).keep (Keep.alloc (fun _=>True) _ _) trivial)
  ·exact⟨_,(((MapF.made zbn (w2.alloc (.map #[] 0)) (M1+1) (by simp;omega)).keep (Keep.alloc (fun _=>True) _ _) trivial).keep (Keep.alloc (fun _=>True) _ _) trivial),fun s v h=>by cases h⟩
  ·exact⟨_,((MapF.made zbn ((w2.alloc (.map #[] 0)).alloc (.map #[] 0)) (M1+1+1) (by simp;omega)).keep (Keep.alloc (fun _=>True) _ _) trivial),fun s v h=>by cases h⟩
 have hb4:Below w.heap.size w w3:=hb0.trans (hb3.mono hsz);have hne:hp≠M1:=by omega
 have hbs:w.heap.size≤hp∧w.heap.size≤M1:=by omega
 have HNE:=Qaz hne;clear hw3 hb3 hM1 hhp hne hsz hb0
 go_loopw [40] (fun i wr=>∃k:Nat,k≤l.length∧i=.int .i64 k∧HierAt hp M1 (some ⟨b,off,none⟩) c l k wr∧(∀(j:Nat)(x:CI),j<k→l[j]? =some x→zcb l j x=true)∧Below w.heap.size w wr) (fun i _=>l.length-(intOf i).toNat)
 case atStart=>exact⟨0,Qjz _,rfl,H0,fun j x h=>absurd h (by omega),hb4⟩
 case round=>
  clear H0 hb4;obtain⟨k,hk,rfl,H,hok,hb⟩:=hrel;have HOK:=Qaz hok;clear hok;have h3:=h.keep (Keep.all hb);by_cases hlt:k<l.length
  ·have hx:l[k]? =some l[k]:=Qbz hlt;generalize l[k]=x at hx;have HX:=Qaz hx;obtain⟨A2,c2,A3,c3,p1,p2,p3,p4,g0,g1,g2,g3,g4,g5⟩:=CIs.atH h3 hx;clear hx;have c0:=H.c0;have c1:=H.c1;obtain⟨W1,hW1⟩:∃W1,W1=wr.alloc (.cells #[.string x.name,.string x.lib,.slice A2 x.supers.length c2,.slice A3 x.cpl.length c3,.bool x.abs,.bool x.seal_] 110):=⟨_,rfl⟩;have hbW:Below wr.heap.size wr W1:=by rw[hW1];exact(Below.refl _ wr).alloc (Qiz _) _
   have H1:=H.keep hbW;have hlk:∀n,(Instr.lookup 140 (.map (some M1)) (.string x.name) true).run Tryz.prog (W1.drewN n)=.ok (.tuple #[.int .i64 (((zbi ((l.take k).map (·.name)) x.name).getD 0:Nat):Int),.bool (zbi ((l.take k).map (·.name)) x.name).isSome]) (W1.drewN n):=fun n=>zqa ((H1.keep (zad _ n _)).at_) x.name true;subst hW1;have hhpl:=cell_lt c0;have hbl:=cell_lt g0;have HNO:Hid (zcb l k x=false→¬zai l):=Qaz (fun hf hh=>by rw[hh.2.2.2.1 k x HX.out]at hf;cases hf);cases hla:(zbi ((l.take k).map (·.name)) x.name).isSome with
   |true=>
    rw[hla]at hlk;have HC:Hid (zcb l k x=false):=Qaz (by unfold zcb;rw[hla];rfl);clear hla;go_wp2_with (fail)
    go_quiet (fail)
    go_wp2_with (fail);go_ret;exact⟨(hb.alloc hb.size _).trans (zad _ _ _),.inl ⟨HNO.out HC.out,rfl⟩⟩
   |false=>
    rw[hla]at hlk;have HL:=Qaz hla;clear hla;by_cases n1:x.name=⟨#[]⟩
    ·have HC:Hid (zcb l k x=false):=Qaz (by unfold zcb;rw[Qhz n1];simp);have t3:decide (x.name=⟨#[]⟩)=true:=Qhz n1;clear n1;go_wp2_with (fail)
     go_quiet (fail)
     go_wp2_with (fail);go_ret;exact⟨(hb.alloc hb.size _).trans (zad _ _ _),.inl ⟨HNO.out HC.out,rfl⟩⟩
    ·have t3:decide (x.name=⟨#[]⟩)=false:=Qgz n1;have N1:=Qaz n1;clear n1;by_cases n2:100<x.name.size
     ·have HC:Hid (zcb l k x=false):=Qaz (by unfold zcb;rw[show decide (x.name.size≤100)=false from Qgz (by omega)];simp);have t4:decide ((100:Int)<(x.name.size:Int))=true:=Qhz (by omega);go_wp2_with (fail)
      go_quiet (fail)
      go_wp2_with (fail);go_ret;exact⟨(hb.alloc hb.size _).trans (zad _ _ _),.inl ⟨HNO.out HC.out,rfl⟩⟩
     ·have t4:decide ((100:Int)<(x.name.size:Int))=false:=Qgz (by omega);have HLL:Hid (zcb l k x=(decide (k<11)||(!decide (x.supers.length=0)&&decide (x.supers.length≤8)&&zhe l k x))):=Qaz (by unfold zcb;rw[HL.out,Qgz N1.out,Qhz (show x.name.size≤100 by omega)];rfl);by_cases n3:k<11
      ·have t5:decide ((11:Int)≤(k:Int))=false:=Qgz (by omega);have HCT:Hid (zcb l k x=true):=Qaz (by rw[HLL.out,Qhz n3];rfl);go_wp2_with (fail)
       go_quiet (fail)
       go_wp2_with (fail);obtain⟨V,hV⟩:∃V,V=(wr.alloc (.cells #[.string x.name,.string x.lib,.slice A2 x.supers.length c2,.slice A3 x.cpl.length c3,.bool x.abs,.bool x.seal_] 110)).drewN nq:=⟨_,rfl⟩;rw[←hV];have HV:HierAt hp M1 (some ⟨b,off,none⟩) c l k V:=by rw[hV];exact H1.keep (zad _ _ _)
       have vb:V.cell? ⟨wr.heap.size,0,none⟩=some (.string x.name):=by rw[hV];exact zac wr _ _ _ rfl 0 _ rfl
       have hbV:Below w.heap.size w V:=by rw[hV];exact(hb.alloc hb.size _).trans (zad _ _ _)
       clear hV;have HVM:MapF zbn M1 (zgt ((l.take k).map (·.name))) V.drew:=(HV.at_).keep (Keep.drew (fun _=>True) _) trivial;have v0:=HV.c0;have v1:=HV.c1;have HVC:=Qaz HV;have vh:=cell_lt v0;clear H H1 HV hlk c0 c1 g0 g1 g2 g3 g4 g5;refine wp_region_still_tail 7 (by kernel_rfl) (by kernel_rfl) ?_;simp only[List.take_succ_cons,List.take_zero,List.drop_succ_cons,List.drop_zero];change wpStill _ _ (World.drew _) (fun a'=>wpList _ _ _ _ a' (World.drew _)) _ _
       repeat still_step
       refine wpStill_nil ?_;go_wp2_with (at_mapUpdate;refine zcu zbn _ rfl 140 3 _ _ _ rfl Tryz.underlying140 M1 (zgt ((l.take k).map (·.name))) HVM rfl x.name rfl (.int .i64 (k:Int)) rfl ?_);intro w5 hm5 hg5;rw[zjc _ _ k (by simp;omega),←List.map_take]at hm5;have hb5:Below w.heap.size w w5:=(hbV.drew).grown hg5 (by have:=hbV.size;exact this) fun k e=>by cases e;exact hbs.2
       have kg:Keep (fun b=>b≠M1) V w5:=((Keep.drew (fun _=>True) V).mono (fun _ _=>trivial)).trans (Keep.grown hg5 fun b hb e=>hb (by injection e));have H5:HierAt hp M1 (some ⟨b,off,none⟩) c l (k+1) w5:=by
        refine⟨zah v0 kg HNE.out,zah v1 kg HNE.out,?_,zah HVC.out.c2 kg HNE.out,zah HVC.out.c3 kg HNE.out,HVC.out.m2.imp fun f hf=>⟨hf.1.keep kg (by show M1+1≠M1;omega),hf.2⟩,HVC.out.m3.imp fun f hf=>⟨hf.1.keep kg (by show M1+1+1≠M1;omega),hf.2⟩,HVC.out.hpe⟩;have e:(l.take (k+1)).map (·.name)=(l.take k).map (·.name)++[x.name]:=by rw[take_snoc HX.out,List.map_append];rfl
        rw[e];exact hm5
       clear v0 v1 HVM hg5 hm5;go_wp2_with (fail);go_roundw
       case rel=>
        refine⟨k+1,by omega,by go_num,H5,fun j y hj hy=> ?_,hb5⟩;rcases Nat.lt_or_ge j k with h|h
        ·exact HOK.out j y h hy
        ·obtain rfl:j=k:=by omega
         rw[HX.out]at hy;cases hy;exact HCT.out
       case measure=>simp[intOf];omega
      ·have t5:decide ((11:Int)≤(k:Int))=true:=Qhz (by omega);by_cases n4:x.supers.length=0
       ·have t6:((x.supers.length:Int)==0)=true:=beq_iff_eq.2 (by omega);have HC:Hid (zcb l k x=false):=Qaz (by rw[HLL.out,Qgz n3,Qhz n4];rfl);clear n4;go_wp2_with (fail)
        go_quiet (fail)
        go_wp2_with (fail);go_ret;exact⟨(hb.alloc hb.size _).trans (zad _ _ _),.inl ⟨HNO.out HC.out,rfl⟩⟩
       have t6:((x.supers.length:Int)==0)=false:=Qfz (by omega);by_cases n5:8<x.supers.length
       ·have t7:decide ((8:Int)<(x.supers.length:Int))=true:=Qhz (by omega);have HC:Hid (zcb l k x=false):=Qaz (by rw[HLL.out,Qgz n3,Qgz (show ¬x.supers.length≤8 by omega)];simp);go_wp2_with (fail)
        go_quiet (fail)
        go_wp2_with (fail);go_ret;exact⟨(hb.alloc hb.size _).trans (zad _ _ _),.inl ⟨HNO.out HC.out,rfl⟩⟩
       have t7:decide ((8:Int)<(x.supers.length:Int))=false:=Qgz (by omega);have HMI:Hid (zcb l k x=zhe l k x):=Qaz (by rw[HLL.out,Qgz n3,Qgz n4,Qhz (show x.supers.length≤8 by omega)];rfl);have hp3:=p3;have hh3:=h3;have HMY:=Qaz (fun W (hbw:Below wr.heap.size wr W)=>zke hp M1 (some ⟨b,off,none⟩) c l k hk (by omega) x A2 A3 c2 c3 W (H.keep hbw) G (h3.keep (Keep.all hbw)) G (p3.keep (Keep.all hbw)) (by omega));go_wp2_with (fail)
       go_quiet (fail)
       go_wp2_with (fail);have bq:Below wr.heap.size wr ((wr.alloc (.cells #[.string x.name,.string x.lib,.slice A2 x.supers.length c2,.slice A3 x.cpl.length c3,.bool x.abs,.bool x.seal_] 110)).drewN nq):=((Below.refl _ wr).alloc (Qiz _) _).trans (zad _ _ _);refine(HMY.out _ bq).mono ?_;have vb0:((wr.alloc (.cells #[.string x.name,.string x.lib,.slice A2 x.supers.length c2,.slice A3 x.cpl.length c3,.bool x.abs,.bool x.seal_] 110)).drewN nq).cell? ⟨wr.heap.size,0,none⟩=some (.string x.name):=zac wr _ _ _ rfl 0 _ rfl;rintro e V ⟨rfl,hbv⟩
       have HV:HierAt hp M1 (some ⟨b,off,none⟩) c l k V:=(H.keep bq).keep hbv;have vb:=zaa vb0 hbv;have hbV:Below w.heap.size w V:=hb.trans ((bq.trans (hbv.mono bq.size)).mono hb.size);clear HMY bq vb0;cases hmi:zhe l k x with
       |false=>
        have HC:Hid (zcb l k x=false):=Qaz (by rw[HMI.out,hmi]);clear hmi;go_wp2_with (fail);go_ret;exact⟨hbV,.inl ⟨HNO.out HC.out,rfl⟩⟩
       |true=>
        have HCT:Hid (zcb l k x=true):=Qaz (by rw[HMI.out,hmi]);clear hmi;go_wp2_with (fail);have HVM:MapF zbn M1 (zgt ((l.take k).map (·.name))) V.drew:=(HV.at_).keep (Keep.drew (fun _=>True) _) trivial;have v0:=HV.c0;have v1:=HV.c1;have HVC:=Qaz HV;have vh:=cell_lt v0;clear H H1 HV hlk c0 c1 g0 g1 g2 g3 g4 g5;refine wp_region_still_tail 7 (by kernel_rfl) (by kernel_rfl) ?_;simp only[List.take_succ_cons,List.take_zero,List.drop_succ_cons,List.drop_zero];change wpStill _ _ (World.drew _) (fun a'=>wpList _ _ _ _ a' (World.drew _)) _ _
        repeat still_step
        refine wpStill_nil ?_;go_wp2_with (at_mapUpdate;refine zcu zbn _ rfl 140 3 _ _ _ rfl Tryz.underlying140 M1 (zgt ((l.take k).map (·.name))) HVM rfl x.name rfl (.int .i64 (k:Int)) rfl ?_);intro w5 hm5 hg5;rw[zjc _ _ k (by simp;omega),←List.map_take]at hm5;have hb5:Below w.heap.size w w5:=(hbV.drew).grown hg5 (by have:=hbV.size;exact this) fun k e=>by cases e;exact hbs.2
        have kg:Keep (fun b=>b≠M1) V w5:=((Keep.drew (fun _=>True) V).mono (fun _ _=>trivial)).trans (Keep.grown hg5 fun b hb e=>hb (by injection e));have H5:HierAt hp M1 (some ⟨b,off,none⟩) c l (k+1) w5:=by
         refine⟨zah v0 kg HNE.out,zah v1 kg HNE.out,?_,zah HVC.out.c2 kg HNE.out,zah HVC.out.c3 kg HNE.out,HVC.out.m2.imp fun f hf=>⟨hf.1.keep kg (by show M1+1≠M1;omega),hf.2⟩,HVC.out.m3.imp fun f hf=>⟨hf.1.keep kg (by show M1+1+1≠M1;omega),hf.2⟩,HVC.out.hpe⟩;have e:(l.take (k+1)).map (·.name)=(l.take k).map (·.name)++[x.name]:=by rw[take_snoc HX.out,List.map_append];rfl
         rw[e];exact hm5
        clear v0 v1 HVM hg5 hm5;go_wp2_with (fail);go_roundw
        case rel=>
         refine⟨k+1,by omega,by go_num,H5,fun j y hj hy=> ?_,hb5⟩;rcases Nat.lt_or_ge j k with h|h
         ·exact HOK.out j y h hy
         ·obtain rfl:j=k:=by omega
          rw[HX.out]at hy;cases hy;exact HCT.out
        case measure=>simp[intOf];omega
  ·have hkl:k=l.length:=by omega
   subst hkl;have HCO:Hid (zil l):=Qaz (fun j x hx=>HOK.out j x (Qcz hx).1 hx);have HSM:=Qaz (zqh Q3.out HCO.out);have HH:=Qaz (zll (some ⟨b,off,none⟩) c l wr h3.now (by omega));clear HOK;go_wp2_with (fail);refine HH.out.mono ?_;clear HH;rintro e V1 ⟨Ah,ch,rfl,_,hhe,hv1⟩;have HA:=zxb Ah ch (zav l) V1 hhe.now (by rw[zba];omega) (fun x hx=>by
    obtain⟨y,hy,rfl⟩:=List.mem_map.1 hx;have:=HSM.out y hy;show y.supers.length≤1000000;omega)
   rw[zba]at HA;have HA1:=Qaz HA;clear HA hhe;go_wp2_with (fail);refine HA1.out.mono ?_;clear HA1;rintro e V2 ⟨hv2,(⟨a1,rfl⟩|⟨a1,i,a2,a3,a4,rfl⟩|⟨a1,ls,v,S,a2,a3,rfl,a4,a5⟩)⟩
   all_goals have hbV:Below w.heap.size w V2:=hb.trans ((hv1.trans (hv2.mono hv1.size)).mono hb.size)
   ·have t8:(za3 (zav l)==0)=false:=Qfz a1;have t9:(za3 (zav l) != 0)=true:=by rw[bne_iff_ne];exact a1
    have A1:=Qaz a1;clear a1;go_wp2_with (fail);go_ret;exact⟨hbV,.inl ⟨fun hh=>A1.out hh.2.2.2.2.1,rfl⟩⟩
   ·have hi:i<l.length:=by rw[←zba];exact a2
    have A4:Hid (¬zai l):=Qaz (fun hh=>by
     have:=hh.2.2.2.2.2 i _ (Qbz hi);rw[a4]at this;cases this)
    clear a1 a2 a3 a4;go_wp2_with (fail);go_ret;exact⟨hbV,.inl ⟨A4.out,rfl⟩⟩
   ·obtain⟨Al,cl,rfl,_,hS⟩:=a4.out;have A2:=Qaz a2;have A3:=Qaz a3;have A1:=Qaz a1;have h4:=h.keep (Keep.all hbV);have HE:=Qaz (zmu (some ⟨b,off,none⟩) Al c cl l ls V2 h4.now hS.now (by omega) (by rw[a2,zba];omega) ol (fun y hy=>by
     obtain⟨j,hj⟩:=Qez hy;have:=zbr (zaz a1).2 (a3 j y hj);have:=(zaz a1).1;omega))
    clear a1 a2 a3 a4 hS h4;go_wp2_with (fail);refine HE.out.mono ?_;clear HE;rintro e V3 ⟨rfl,hv3⟩;have hbV3:Below w.heap.size w V3:=hbV.trans (hv3.mono hbV.size);have H3:HierAt hp M1 (some ⟨b,off,none⟩) c l l.length V3:=((H.keep hv1).keep hv2).keep hv3;have HEQ:Hid (l.map CI.cpl=ls↔∀(k:Nat)(x:CI),l[k]? =some x→line (zav l) k=some x.cpl):=Qaz (by
     constructor
     ·rintro rfl k x hx;exact A3.out k x.cpl (by rw[List.getElem?_map,hx];rfl)
     ·intro hh;apply List.ext_getElem?;intro k;rw[List.getElem?_map];cases hk:l[k]? with
      |none=>
       have:=List.getElem?_eq_none_iff.1 hk;rw[List.getElem?_eq_none (by rw[A2.out,zba];exact this)];rfl
      |some x=>
       have h1:=hh k x hk;have hkl:=(Qcz hk).1;have h2:ls[k]? =some (ls[k]'(by rw[A2.out,zba];exact hkl)):=Qbz _;have h3:=A3.out k _ h2;rw[h1]at h3;rw[h2];simp only[Option.map_some];exact congrArg some (Option.some.inj h3))
    by_cases hq:l.map CI.cpl=ls
    ·rw[Qhz hq];have HOK:Hid (zai l):=Qaz ⟨by omega,by omega,Q3.out,HCO.out,A1.out,HEQ.out.1 hq⟩;clear hq;go_wp2_with (fail);go_ret;exact⟨hbV3,.inr ⟨HOK.out,hp,M1,hbs.1,hbs.2,rfl,H3⟩⟩
    ·rw[Qgz hq];have HNK:Hid (¬zai l):=Qaz (fun hh=>hq (HEQ.out.2 hh.2.2.2.2.2));clear hq;go_wp2_with (fail);go_ret;exact⟨hbV3,.inl ⟨HNK.out,rfl⟩⟩
structure Tag where
 kind:Int
 num:Int
 name:ByteArray
 deriving DecidableEq
abbrev tagV(t:Tag):Value:=.agg #[.int .i64 t.kind,.int .i64 t.num,.string t.name]
def hasB(l:List CI)(s:ByteArray):Bool:=(zck l s).isSome
theorem zdq{l:List CI}{s:ByteArray}{i:Nat}(h:zck l s=some i):∃x,l[i]? =some x∧x.name=s:=by
 have:=zci h;rw[List.getElem?_map]at this;obtain⟨x,hx,e⟩:=Option.map_eq_some_iff.1 this;exact⟨x,hx,e⟩
theorem zuf(l:List CI)(s:ByteArray):zf3 l s=(l[(zck l s).getD 0]?.map CI.abs).getD false:=by
 unfold zf3;cases zck l s<;>rfl
def zbt(l:List CI)(t:Tag):Bool:=
 if t.kind=1 then decide (t.name=⟨#[]⟩)
 else if t.kind=2 then decide (t.name=⟨#[]⟩)&&(decide (t.num=0)||decide (t.num=1))
 else if t.kind=3 then decide (t.num=0)&&hasB l t.name
 else if t.kind=4 then decide (t.num=0)&&decide (t.name=⟨#[]⟩)
 else if t.kind=5 then decide (t.num=0)&&hasB l t.name&&decide (4<(zck l t.name).getD 0)&& !zf3 l t.name
 else false
def zga(l:List CI)(t:Tag):Int:=if zbt l t then 0 else 82
theorem HierAt.look{hp M1:Nat}{A:Option Addr}{c:Nat}{l:List CI}{w:World}(H:HierAt hp M1 A c l l.length w)(s:ByteArray)(ok:Bool):
  (Instr.lookup 140 (.map (some M1)) (.string s) ok).run Tryz.prog w=.ok (if ok then .tuple #[.int .i64 (((zck l s).getD 0:Nat):Int),.bool (hasB l s)]else .int .i64 (((zck l s).getD 0:Nat):Int)) w:=by
 have:=zqa H.at_ s ok;rw[List.take_length]at this;exact this
theorem zkw(A:Option Addr)(c:Nat)(l:List CI)(w:World)(hc:l.length≤c)(G:Nat→Prop)(h:Held G (CIs A l) w)(ol:∀x∈l,zdo x)(hl:l.length≤1000000):
  Calls Tryz.prog 44 #[.slice A l.length c] w fun e w'=>Below w.heap.size w w'∧((zai l∧e=.returned (.int .i64 0))∨(¬zai l∧e=.returned (.int .i64 80))):=by
 have HL:=Qaz (zdh A c l w hc G h ol hl);clear h ol;go_enter Tryz.func44,Tryz.ntmps44;go_wp2_with (fail);refine HL.out.mono ?_;clear HL;rintro e w1 ⟨hb,(⟨h1,rfl⟩|⟨h1,hp,M1,_,_,rfl,_⟩)⟩
 ·have H1:=Qaz h1;clear h1;go_wp2;go_ret;exact⟨hb,.inr ⟨H1.out,rfl⟩⟩
 ·have H1:=Qaz h1;clear h1;go_wp2;go_ret;exact⟨hb,.inl ⟨H1.out,rfl⟩⟩
theorem zqb(hp M1:Nat)(A:Option Addr)(c:Nat)(l:List CI)(s:ByteArray)(w:World)(H:HierAt hp M1 A c l l.length w):
  Calls Tryz.prog 114 #[.pointer (some ⟨hp,0,none⟩),.string s] w fun e w'=>e=.returned (.bool (hasB l s))∧w'=w:=by
 have hlk:=H.look s true;simp only[if_true]at hlk;have c0:=H.c0;have c1:=H.c1;clear H;go_enter Tryz.func114,Tryz.ntmps114;go_wp2;go_ret;exact⟨rfl,rfl⟩
theorem zff(hp M1:Nat)(A:Option Addr)(c:Nat)(l:List CI)(s:ByteArray)(w:World)(H:HierAt hp M1 A c l l.length w)(G:Nat→Prop)(hA:Held G (CIs A l) w)(hl:0<l.length):
  Calls Tryz.prog 122 #[.pointer (some ⟨hp,0,none⟩),.string s] w fun e w'=>e=.returned (.bool (zf3 l s))∧Drw w w':=by
 have hlk:∀n,(Instr.lookup 140 (.map (some M1)) (.string s) false).run Tryz.prog (w.drewN n)=.ok (.int .i64 (((zck l s).getD 0:Nat):Int)) (w.drewN n):=fun n=>(H.keep (zad _ n _)).look s false;have c0:=H.c0;have c1:=H.c1;have hi:(zck l s).getD 0<l.length:=by
  cases hq:zck l s with
  |none=>exact hl
  |some i=>obtain⟨x,hx,_⟩:=zdq hq;exact(Qcz hx).1
 have hx:l[(zck l s).getD 0]? =some (l[(zck l s).getD 0]'hi):=Qbz hi;have HA:Hid (zf3 l s=(l[(zck l s).getD 0]'hi).abs):=Qaz (by rw[zuf,hx];rfl);obtain⟨b,off,rfl⟩:=Slc.addrH hA hl;obtain⟨A2,c2,A3,c3,p1,p2,p3,p4,g0,g1,g2,g3,g4,g5⟩:=CIs.atH hA hx;generalize(l[(zck l s).getD 0]'hi)=x at*;generalize(zck l s).getD 0=i at*;clear H hA hx;go_enter Tryz.func122,Tryz.ntmps122;go_wp2
 go_quiet (fail)
 go_wp2;go_ret;exact⟨by rw[HA.out];rfl,Drw.of _ _⟩
theorem zhy(hp M1:Nat)(A:Option Addr)(c:Nat)(l:List CI)(t:Tag)(w:World)(H:HierAt hp M1 A c l l.length w)(G:Nat→Prop)(hA:Held G (CIs A l) w)(hl:0<l.length):
  Calls Tryz.prog 78 #[.pointer (some ⟨hp,0,none⟩),tagV t] w fun e w'=>e=.returned (.bool (zbt l t))∧Below w.heap.size w w':=by
 obtain⟨kd,nm,s⟩:=t;have HH:=Qaz (fun W (h:Below w.heap.size w W)=>zqb hp M1 A c l s W (H.keep h));by_cases k1:kd=1
 ·subst k1;clear H hA;go_enter Tryz.func78,Tryz.ntmps78;go_wp2;go_ret;exact⟨rfl,(Below.refl _ w).alloc (Qiz _) _⟩
 have t1:(kd==1)=false:=Qfz k1;have HA:=Qaz (fun W (h:Below w.heap.size w W)=>zff hp M1 A c l s W (H.keep h) G (hA.keep (Keep.all h)) hl);by_cases k2:kd=2
 ·subst k2;clear H hA;by_cases n0:nm=0
  ·subst n0;go_enter Tryz.func78,Tryz.ntmps78;go_wp2
   all_goals (go_ret;exact⟨by simp_all [zbt],(Below.refl _ w).alloc (Qiz _) _⟩)
  ·have t3:(nm==0)=false:=Qfz n0;go_enter Tryz.func78,Tryz.ntmps78;go_wp2
   all_goals (go_ret;exact⟨by simp_all [zbt];try rfl,(Below.refl _ w).alloc (Qiz _) _⟩)
 have t2:(kd==2)=false:=Qfz k2;by_cases k3:kd=3
 ·subst k3;clear H hA;by_cases n0:nm=0
  ·subst n0;go_enter Tryz.func78,Tryz.ntmps78;go_wp2_with (go_at_call 114;refine(HH.out _ ((Below.refl _ w).alloc (Qiz _) _)).mono ?_;rintro e w' ⟨rfl,rfl⟩);go_ret;exact⟨by simp[zbt],(Below.refl _ w).alloc (Qiz _) _⟩
  ·have t3:(nm==0)=false:=Qfz n0;go_enter Tryz.func78,Tryz.ntmps78;go_wp2;go_ret;exact⟨by simp[zbt,n0],(Below.refl _ w).alloc (Qiz _) _⟩
 have t4:(kd==3)=false:=Qfz k3;by_cases k4:kd=4
 ·subst k4;clear H hA;by_cases n0:nm=0
  ·subst n0;go_enter Tryz.func78,Tryz.ntmps78;go_wp2
   all_goals (go_ret;exact⟨by simp_all [zbt],(Below.refl _ w).alloc (Qiz _) _⟩)
  ·have t3:(nm==0)=false:=Qfz n0;go_enter Tryz.func78,Tryz.ntmps78;go_wp2
   all_goals (go_ret;exact⟨by simp_all [zbt],(Below.refl _ w).alloc (Qiz _) _⟩)
 have t5:(kd==4)=false:=Qfz k4;by_cases k5:kd=5
 ·subst k5;have hlk:∀n,(Instr.lookup 140 (.map (some M1)) (.string s) false).run Tryz.prog ((w.alloc (.cells #[.int .i64 5,.int .i64 nm,.string s] 39)).drewN n)=.ok (.int .i64 (((zck l s).getD 0:Nat):Int)) ((w.alloc (.cells #[.int .i64 5,.int .i64 nm,.string s] 39)).drewN n):=fun n=>(H.keep (((Below.refl _ w).alloc (Qiz _) _).trans (zad _ n _))).look s false;have c0:=H.c0;have c1:=H.c1;have hhp:=cell_lt c0;have HH2:=Qaz (fun n=>HH.out ((w.alloc (.cells #[.int .i64 5,.int .i64 nm,.string s] 39)).drewN n) (((Below.refl _ w).alloc (Qiz _) _).trans (zad _ n _)))
  have HA2:=Qaz (fun n=>HA.out ((w.alloc (.cells #[.int .i64 5,.int .i64 nm,.string s] 39)).drewN n) (((Below.refl _ w).alloc (Qiz _) _).trans (zad _ n _)));clear HH HA H hA;by_cases n0:nm=0
  ·subst n0;cases hb:hasB l s with
   |false=>
    have HB:=Qaz hb;rw[hb]at HH2;clear hb;go_enter Tryz.func78,Tryz.ntmps78;go_wp2
    go_quiet ((go_at_call 114;exact(HH2.out _).mono fun _ _ ⟨a,b⟩=>⟨a,_,b⟩))
    go_wp2;go_ret;exact⟨by simp[zbt,HB.out],((Below.refl _ w).alloc (Qiz _) _).trans (zad _ _ _)⟩
   |true=>
    have HB:=Qaz hb;rw[hb]at HH2;clear hb;obtain⟨i,hi⟩:∃i,i=(zck l s).getD 0:=⟨_,rfl⟩;rw[←hi]at hlk;have HI:=Qaz hi;clear hi;by_cases q:4<i
    ·have t7:decide ((4:Int)<(i:Int))=true:=Qhz (by omega);cases ha:zf3 l s with
     |false=>
      have HAB:=Qaz ha;rw[ha]at HA2;clear ha;go_enter Tryz.func78,Tryz.ntmps78;go_wp2
      go_quiet ((first|(go_at_call 114;exact(HH2.out _).mono fun _ _ ⟨a,b⟩=>⟨a,_,b⟩)|(go_at_call 122;exact(HA2.out _).mono fun _ _ ⟨a,b⟩=>⟨a,by obtain⟨n,rfl⟩:=b;exact⟨_,World.drewN_drewN _ _ _⟩⟩)))
      go_wp2;go_ret;exact⟨by simp[zbt,HB.out,HAB.out,←HI.out,q],((Below.refl _ w).alloc (Qiz _) _).trans (zad _ _ _)⟩
     |true=>
      have HAB:=Qaz ha;rw[ha]at HA2;clear ha;go_enter Tryz.func78,Tryz.ntmps78;go_wp2
      go_quiet ((first|(go_at_call 114;exact(HH2.out _).mono fun _ _ ⟨a,b⟩=>⟨a,_,b⟩)|(go_at_call 122;exact(HA2.out _).mono fun _ _ ⟨a,b⟩=>⟨a,by obtain⟨n,rfl⟩:=b;exact⟨_,World.drewN_drewN _ _ _⟩⟩)))
      go_wp2;go_ret;exact⟨by simp[zbt,HB.out,HAB.out,←HI.out,q],((Below.refl _ w).alloc (Qiz _) _).trans (zad _ _ _)⟩
    ·have t7:decide ((4:Int)<(i:Int))=false:=Qgz (by omega);go_enter Tryz.func78,Tryz.ntmps78;go_wp2
     go_quiet ((go_at_call 114;exact(HH2.out _).mono fun _ _ ⟨a,b⟩=>⟨a,_,b⟩))
     go_wp2;go_ret;exact⟨by simp[zbt,HB.out,←HI.out,q],((Below.refl _ w).alloc (Qiz _) _).trans (zad _ _ _)⟩
  ·have t3:(nm==0)=false:=Qfz n0;go_enter Tryz.func78,Tryz.ntmps78;go_wp2
   go_quiet (fail)
   go_wp2;go_ret;exact⟨by simp[zbt,n0],((Below.refl _ w).alloc (Qiz _) _).trans (zad _ _ _)⟩
 have t6:(kd==5)=false:=Qfz k5;clear H hA;go_enter Tryz.func78,Tryz.ntmps78;go_wp2;go_ret;exact⟨by simp[zbt,k1,k2,k3,k4,k5],(Below.refl _ w).alloc (Qiz _) _⟩
theorem zmw(A:Option Addr)(c:Nat)(l:List CI)(t:Tag)(w:World)(hc:l.length≤c)(G:Nat→Prop)(h:Held G (CIs A l) w)(ol:∀x∈l,zdo x)(hl:l.length≤1000000):
  Calls Tryz.prog 46 #[.slice A l.length c,tagV t] w fun e w'=>Below w.heap.size w w'∧((¬zai l∧e=.returned (.int .i64 80))∨(zai l∧e=.returned (.int .i64 (zga l t)))):=by
 have HL:=Qaz (fun W (hb:Below w.heap.size w W)=>zdh A c l W hc G (h.keep (Keep.all hb)) ol hl);obtain⟨kd,nm,s⟩:=t;have bt:Below w.heap.size w (w.alloc (.cells #[.int .i64 kd,.int .i64 nm,.string s] 39)):=(Below.refl _ w).alloc (Qiz _) _;go_enter Tryz.func46,Tryz.ntmps46;go_wp2_with (fail);have b0:(w.alloc (.cells #[.int .i64 kd,.int .i64 nm,.string s] 39)).cell? ⟨w.heap.size,0,none⟩=some (.int .i64 kd):=zac w _ _ _ rfl 0 _ rfl;have b1:(w.alloc (.cells #[.int .i64 kd,.int .i64 nm,.string s] 39)).cell? ⟨w.heap.size,1,none⟩=some (.int .i64 nm):=zac w _ _ _ rfl 1 _ rfl
 have b2:(w.alloc (.cells #[.int .i64 kd,.int .i64 nm,.string s] 39)).cell? ⟨w.heap.size,2,none⟩=some (.string s):=zac w _ _ _ rfl 2 _ rfl;refine(HL.out _ bt).mono ?_;clear HL;rintro e w1 ⟨hb,(⟨h1,rfl⟩|⟨h1,hp,M1,_,_,rfl,H⟩)⟩
 ·have H1:=Qaz h1;clear h1;have hb':=bt.trans (hb.mono bt.size);go_wp2;go_ret;exact⟨hb',.inl ⟨H1.out,rfl⟩⟩
 ·have hb':=bt.trans (hb.mono bt.size);have d0:=zaa b0 hb;have d1:=zaa b1 hb;have d2:=zaa b2 hb;have HT:=Qaz (zhy hp M1 A c l ⟨kd,nm,s⟩ w1 H G (h.keep (Keep.all hb')) (by have:=h1.2.1;omega));have H1:=Qaz h1;clear h1 H h;go_wp2_with (fail);refine HT.out.mono ?_;clear HT;rintro e w2 ⟨rfl,hb2⟩;have hb3:=hb'.trans (hb2.mono hb'.size);cases hq:zbt l ⟨kd,nm,s⟩with
  |false=>
   have HQ:=Qaz hq;clear hq;go_wp2;go_ret;exact⟨hb3,.inr ⟨H1.out,by unfold zga;rw[HQ.out];rfl⟩⟩
  |true=>
   have HQ:=Qaz hq;clear hq;go_wp2;go_ret;exact⟨hb3,.inr ⟨H1.out,by unfold zga;rw[HQ.out];rfl⟩⟩
end Go.Proofs.YtepnmejahbiacaaGreat
