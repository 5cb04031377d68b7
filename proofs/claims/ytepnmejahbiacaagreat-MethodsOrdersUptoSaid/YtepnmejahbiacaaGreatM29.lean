/- Part 29 of the proof: Qi, Qj, Ql, Qm, Qn. -/
import Derived.Test.YtepnmejahbiacaaGreatM28
import Derived.Test.YtepnmejahbiacaaGreatM15
set_option linter.unusedVariables false
set_option linter.unusedSimpArgs false
set_option maxHeartbeats 64000000
set_option maxRecDepth 100000
namespace Go.Proofs.YtepnmejahbiacaaGreat
open Go.RowKit
def zpt(l:List CI)(k:Nat):Prop:=11≤l.length∧l.take 11=zbm∧∀(j:Nat)(x:CI),11≤j→j<k→l[j]? =some x→crB l j x=true
theorem ztb{l:List CI}(hb:l.take 11=zbm){j:Nat}{x:CI}(hj:j<11)(hx:l[j]? =some x):zbm[j]? =some x:=by
 rw[←hb,List.getElem?_take,if_pos hj];exact hx
theorem zk4{l:List CI}{k:Nat}{x:CI}(h:crB l k x=true):x.name≠⟨#[]⟩∧x.name.size≤100∧x.name∉zet l k∧1≤x.supers.length∧x.supers.length≤8∧zbz x.supers=true∧∀s∈x.supers,zea l k x s=false:=by
 unfold crB zgz at h;simp only[Bool.and_eq_true,Bool.not_eq_true',decide_eq_true_eq,decide_eq_false_iff_not]at h;obtain⟨⟨⟨⟨⟨⟨h1,h2⟩,h3⟩,h4⟩,h5⟩,h6⟩,h7⟩:=h;exact⟨h1,h2,zbl.1 h3,h4,h5,h6,fun s hs=>by
  have:=List.any_eq_false.1 h7 s hs
  simpa using this⟩
theorem z0d{l:List CI}{n:Nat}(h:zpt l n):∀k,k≤n→(zet l k).Nodup:=by
 intro k
 induction k with
 |zero=>intro _;exact List.nodup_nil
 |succ k ih=>
  intro hk;have hi:=ih (by omega);by_cases hkl:k<l.length
  ·have hx:l[k]? =some l[k]:=Qbz hkl;have e:zet l (k+1)=zet l k++[l[k].name]:=by unfold zet;rw[take_snoc hx,List.map_append];rfl
   rw[e];refine List.nodup_append.2 ⟨hi,by simp,?_⟩;intro a ha b hb;rw[List.mem_singleton.1 hb];rintro rfl;by_cases h11:k<11
   ·have h1:=ztb h.2.1 h11 hx;have h2:zet l k=zet zbm k:=by
     unfold zet;rw[←h.2.1,List.take_take,Nat.min_eq_left (by omega)]
    rw[h2]at ha;have hd:((zbm.map (·.name)).take 11).Nodup:=by
     have:zbz ((zbm.map (·.name)).take 11)=true:=by kernel_rfl
     exact zho this
    have hd2:(zbm.map (·.name)).Nodup:=by rwa [List.take_of_length_le (by simp[zc5])]at hd
    have h3:(zbm.map (·.name))[k]? =some l[k].name:=by rw[List.getElem?_map,h1];rfl
    unfold zet at ha;rw[List.map_take]at ha;obtain⟨i,hi'⟩:=Qez ha;rw[List.getElem?_take]at hi'
    split at hi'
    ·have:=zds hd2 hi' h3;omega
    ·cases hi'
   ·exact(zk4 (h.2.2 k _ (by omega) (by omega) hx)).2.2.1 ha
  ·have e:zet l (k+1)=zet l k:=by unfold zet;rw[List.take_of_length_le (by omega),List.take_of_length_le (by omega)]
   rw[e];exact hi
theorem zjo{ns:List ByteArray}(hd:ns.Nodup)(s:ByteArray):(zbi ns s=none∧idx ns s= -1)∨∃j:Nat,zbi ns s=some j∧idx ns s=j∧ns[j]? =some s:=by
 cases h:zbi ns s with
 |none=>
  left;refine⟨rfl,zh3 fun hm=> ?_⟩;obtain⟨j,hj⟩:=Qez hm;rw[zja hj hd]at h;cases h
 |some j=>
  right;have:=zci h;exact⟨j,rfl,zft hd this,this⟩
theorem bad_eq{l:List CI}{k:Nat}{x:CI}{s:ByteArray}(hd:(zet l k).Nodup):zdt l k x s=zea l k x s:=by
 unfold zdt zea;show(match zbi (zet l k) s with|none=>true|some i=>_)=_;rcases zjo hd s with⟨h1,h2⟩|⟨j,h1,h2,h3⟩
 ·rw[h1,h2];rfl
 ·rw[h1,h2];have e1:decide ((j:Int)<0)=false:=Qgz (by omega);have e2:decide ((1:Int)≤(j:Int))=decide (1≤j):=decide_eq_decide.2 (by omega);have e3:decide ((j:Int)≤4)=decide (j≤4):=decide_eq_decide.2 (by omega);rw[e1,e2,e3,Int.toNat_natCast];rfl
theorem zzw{l:List CI}{k:Nat}{x:CI}{s:ByteArray}(h:zea l k x s=false):s∈zet l k:=by
 apply Classical.byContradiction;intro hn;unfold zea at h;rw[zh3 hn]at h;simp at h
theorem zwd{g:List Heir}:∀{seen:List ByteArray},(∀i h,g[i]? =some h→zdu (seen++(names g).take i) h=true)→zbp seen g=true:=by
 induction g with
 |nil=>intro seen _;rfl
 |cons a r ih=>
  intro seen h;simp only[zbp,Bool.and_eq_true];refine⟨by simpa using h 0 a rfl,ih fun i x hx=> ?_⟩;have:=h (i+1) x (by simpa using hx)
  simpa[names]using this
theorem zjm(l:List CI)(k:Nat):(names (zav l)).take k=zet l k:=by rw[ziq,←List.map_take];rfl
theorem zxy{l:List CI}(hb:l.take 11=zbm){k:Nat}(hk:k≤11):zet l k=zet zbm k:=by
 unfold zet;rw[←hb,List.take_take,Nat.min_eq_left hk]
theorem zuk{l:List CI}{k:Nat}{x:CI}(hd:(zet l (k+1)).Nodup)(hx:l[k]? =some x):x.name∉zet l k:=by
 have e:zet l (k+1)=zet l k++[x.name]:=by unfold zet;rw[take_snoc hx,List.map_append];rfl
 rw[e]at hd;intro hm;exact(List.nodup_append.1 hd).2.2 _ hm _ (List.mem_singleton.2 rfl) rfl
theorem zvi:zbp [] (zav zbm)=true:=(zaz look0.2.2.2.2.1).2
theorem zv3:zbm.all (fun y=> !decide (y.name=⟨#[]⟩)&&decide (y.name.size≤100))=true:=by kernel_rfl
theorem zlc{l:List CI}(h11:11≤l.length)(hb:l.take 11=zbm):zpt l l.length↔zil l∧zbp [] (zav l)=true:=by
 constructor
 ·intro h;have hnd:=z0d h;refine⟨fun k x hx=> ?_,zwd fun k y hy=> ?_⟩
  ·have hkl:=(Qcz hx).1;have hns:=zuk (hnd (k+1) (by omega)) hx;have hla:zbi (zet l k) x.name=none:=by
    rcases zjo (hnd k (by omega)) x.name with⟨q,_⟩|⟨j,_,_,q⟩
    ·exact q
    ·exact(hns (Qdz q)).elim
   unfold zcb;show(!(zbi (zet l k) x.name).isSome&&_&&_&&_)=true;rw[hla];by_cases h1:k<11
   ·have hp:=List.all_eq_true.1 zv3 x (Qdz (ztb hb h1 hx));simp only[Bool.and_eq_true]at hp;rw[hp.1,hp.2,Qhz h1];rfl
   ·obtain⟨c1,c2,c3,c4,c5,c6,c7⟩:=zk4 (h.2.2 k x (by omega) hkl hx);have hm:zhe l k x=true:=by
     unfold zhe;have:x.supers.any (zdt l k x)=false:=by
      rw[List.any_eq_false];intro s hs;rw[bad_eq (hnd k (by omega)),c7 s hs];simp
     rw[this];rfl
    rw[hm,Qgz c1,Qhz c2,Qgz (show ¬x.supers.length=0 by omega),Qhz c5];simp
  ·rw[List.nil_append,zjm];unfold zav at hy;rw[List.getElem?_map]at hy;obtain⟨x,hx,rfl⟩:=Option.map_eq_some_iff.1 hy;have hkl:=(Qcz hx).1;by_cases h1:k<11
   ·have:=zd3 zvi k x.heir (zfw (ztb hb h1 hx));rw[List.nil_append,zjm]at this;rw[zxy hb (by omega)];exact this
   ·obtain⟨c1,c2,c3,c4,c5,c6,c7⟩:=zk4 (h.2.2 k x (by omega) hkl hx);unfold zdu;have hs:zd7 (zet l k) x.heir.supers=true:=zif fun i s hi hs=>by
     refine⟨zb8.2 (zzw (c7 s (Qdz hs))),zbl.2 fun hm=> ?_⟩;obtain⟨i2,hi2⟩:=Qez hm;rw[List.getElem?_take]at hi2
     split at hi2
     ·have:=zds (zho c6) hi2 hs;omega
     ·cases hi2
    rw[hs];have h2:hasS (zet l k) x.heir.name=false:=zbl.2 c3;rw[h2,Qgz (show ¬x.heir.name=⟨#[]⟩from c1),Qhz (show x.heir.supers.length≤8 from c5)];rfl
 ·rintro⟨hc,hh⟩;have hnd:∀k,(zet l k).Nodup:=fun k=>by
   rw[←zjm];exact(zer hh).sublist (List.take_sublist _ _)
  refine⟨h11,hb,fun k x hk hkl hx=> ?_⟩;have h1:=hc k x hx;unfold zcb at h1;rw[Qgz (show ¬k<11 by omega)]at h1;simp only[Bool.false_or,Bool.and_eq_true,Bool.not_eq_true',decide_eq_true_eq,decide_eq_false_iff_not]at h1;obtain⟨⟨⟨_,h3⟩,h4⟩,⟨h5,h6⟩,h7⟩:=h1;have hns:=zuk (hnd (k+1)) hx;have hdi:=zl0 (zjw hh (zfw hx)).2;unfold crB zgz;have ha:x.supers.any (zea l k x)=false:=by
   rw[List.any_eq_false];intro s hs;unfold zhe at h7;simp only[Bool.not_eq_true']at h7;have:=List.any_eq_false.1 h7 s hs;rw[bad_eq (hnd k)]at this;exact this
  have h8:hasS (zet l k) x.name=false:=zbl.2 hns;have h9:zbz x.supers=true:=hdi;rw[ha,h8,h9,Qgz h3,Qhz h4,Qhz (show 1≤x.supers.length by omega),Qhz h6];rfl
theorem zza{l:List CI}(h120:l.length≤120)(h11:11≤l.length)(hb:l.take 11=zbm):zai l↔zpt l l.length∧∀(k:Nat)(x:CI),l[k]? =some x→line (zav l) k=some x.cpl:=by
 rw[zlc h11 hb];constructor
 ·intro h;exact⟨⟨h.2.2.2.1,(zaz h.2.2.2.2.1).2⟩,h.2.2.2.2.2⟩
 ·rintro⟨⟨h1,h2⟩,h3⟩;exact⟨h120,h11,hb,h1,by unfold za3;rw[zba,if_neg (by omega),if_pos h2],h3⟩
theorem z0m{W U V:World}{n:Nat}(q:Drw (W.drewN n) V):∃m,V=W.drewN m:=by
 obtain⟨b,rfl⟩:=q;exact⟨n+b,World.drewN_drewN _ _ _⟩
theorem z0o{W V:World}{q a:Nat}(h:Drw (W.drewN (q+a)) V):∃n,V=W.drewN (q+n):=by
 obtain⟨b,rfl⟩:=h;exact⟨a+b,by rw[World.drewN_drewN,Nat.add_assoc]⟩
open Classical in
noncomputable def zjd (l:List CI):Bool:=decide (zai l)
theorem zg7{l:List CI}(h:zai l):zjd l=true:=by unfold zjd;simp[h]
theorem zcj{l:List CI}(h:¬zai l):zjd l=false:=by unfold zjd;simp[h]
theorem zgv(A:Option Addr)(c:Nat)(l:List CI)(W:World)(G:Nat→Prop)(hH:Held G (CIs A l) W)(hc:l.length≤c)(ol:∀x∈l,zdo x)(hl:l.length≤1000000):
  Calls Tryz.prog 79 #[.slice A l.length c] W fun e w'=>e=.returned (.bool (zjd l))∧Below W.heap.size W w':=by
 have H:=Qaz hH;have HOL:=Qaz ol;clear hH ol;go_enter Tryz.func79,Tryz.ntmps79;go_wp2_with (fail);refine(zsj _).mono ?_;rintro e V1 ⟨A0,c0,rfl,hc0,hB,hb1⟩;have HB0:=Qaz hB;clear hB;by_cases h120:(120:Int)<(l.length:Int)
 ·have HR:Hid (zjd l=false):=Qaz (zcj fun h=>by have:=h.1;omega);go_wp2;go_ret;exact⟨(by rw[HR.out];try rfl),hb1⟩
 by_cases h11:(l.length:Int)<11
 ·have HR:Hid (zjd l=false):=Qaz (zcj fun h=>by have:=h.2.1;omega);go_wp2;go_ret;exact⟨(by rw[HR.out];try rfl),hb1⟩
 have h11c:11≤c:=by omega
 obtain⟨b,off,rfl⟩:=Slc.addrH H.out (by omega);have hlt:(l.take 11).length=11:=by rw[List.length_take];omega
 have HSH:Hid (Calls Tryz.prog 124 #[.slice (some ⟨b,off,none⟩) 11 c,.slice A0 11 c0] V1 fun e w'=>e=.returned (.bool (decide (l.take 11=zbm)))∧Below V1.heap.size V1 w'):=Qaz (by
  have:=zne (some ⟨b,off,none⟩) A0 c c0 (l.take 11) zbm V1 (((H.out.keep (Keep.all hb1)).imp fun _ _ q=>Slc.take q 11).now) HB0.out.now (by rw[hlt];omega) (by rw[zc5];omega) (fun x hx=>HOL.out x (List.mem_of_mem_take hx)) (fun x hx=>by
   have:zbm.all (fun x=>decide (x.supers.length≤100)&&decide (x.cpl.length≤100))=true:=by kernel_rfl
   have:=List.all_eq_true.1 this x hx;simp only[Bool.and_eq_true,decide_eq_true_eq]at this;exact⟨by omega,by omega⟩)
  rw[hlt,zc5]at this;exact this)
 clear hlt;by_cases hbase:l.take 11=zbm;rotate_left
 ·have HR:Hid (zjd l=false):=Qaz (zcj fun h=>hbase h.2.2.1);rw[Qgz hbase]at HSH;clear hbase;go_wp2_with (fail);refine HSH.out.mono ?_;rintro e V2 ⟨rfl,hb2⟩;have q2:=zab hb1 hb2;go_wp2;go_ret;exact⟨(by rw[HR.out];try rfl),q2⟩
 rw[Qhz hbase]at HSH;have HBA:=Qaz hbase;have HIF:=Qaz (zza (l:=l) (by omega) (by omega) hbase);have HCI:=Qaz (zlc (l:=l) (by omega) hbase);clear hbase;go_wp2_with (fail);refine HSH.out.mono ?_;clear HSH;rintro e V2 ⟨rfl,hb2⟩;have q2:=zab hb1 hb2;go_wp2_with (fail)
 go_loopw [4] (fun i wr=>∃k:Nat,11≤k∧k≤l.length∧i=.int .i64 k∧(∀(j:Nat)(x:CI),11≤j→j<k→l[j]? =some x→crB l j x=true)∧Below W.heap.size W wr) (fun i _=>l.length-(intOf i).toNat)
 case atStart=>exact⟨11,Qiz _,by omega,rfl,fun j x h1 h2=>by omega,q2⟩
 case round=>
  obtain⟨k,hk11,hk,rfl,hall,hb⟩:=hrel;have HALL:=Qaz hall;clear hall;by_cases hkl:k<l.length
  ·have hx:l[k]? =some l[k]:=Qbz hkl;generalize l[k]=x at hx;have HX:=Qaz hx;have HC:=Qaz (zkh (some ⟨b,off,none⟩) c l k x wr G (H.out.keep (Keep.all hb)) hc (by omega) hx);clear hx;cases hcr:crB l k x with
   |false=>
    have HR:Hid (zjd l=false):=Qaz (zcj fun h=>by
     have:=(HIF.out.1 h).1.2.2 k x hk11 hkl HX.out;rw[hcr]at this;cases this)
    rw[hcr]at HC;clear hcr;go_wp2_with (fail);refine HC.out.mono ?_;rintro e V ⟨rfl,hbv⟩;have qv:=zab hb hbv;go_wp2;go_ret;exact⟨(by rw[HR.out];try rfl),qv⟩
   |true=>
    have HA2:Hid (∀(j:Nat)(y:CI),11≤j→j<k+1→l[j]? =some y→crB l j y=true):=Qaz (fun j y h1 h2 h3=>by
     rcases Nat.lt_or_ge j k with p|p
     ·exact HALL.out j y h1 p h3
     ·obtain rfl:j=k:=by omega
      rw[HX.out]at h3;cases h3;exact hcr)
    rw[hcr]at HC;clear hcr;go_wp2_with (fail);refine HC.out.mono ?_;rintro e V ⟨rfl,hbv⟩;have qv:=zab hb hbv;go_wp2;exact⟨⟨k+1,by omega,by omega,by go_num,HA2.out,qv⟩,by simp[intOf];omega⟩
  ·obtain rfl:k=l.length:=by omega
   have hrt:zpt l l.length:=⟨by omega,HBA.out,HALL.out⟩;have HRT:=Qaz hrt;have hho:=(HCI.out.1 hrt).2;have HHE:=Qaz (zsf (some ⟨b,off,none⟩) c l wr G (H.out.keep (Keep.all hb)) (by omega));have HLI:Hid (∀A' c' U,(∃G,Held G (Heirs A' (zav l)) U)→Calls Tryz.prog 126 #[.slice A' l.length c',.int .i64 ((l.length:Int)-1)] U fun e w'=>Below U.heap.size U w'∧∃v,e=.returned v∧RowsAt U.heap.size v (zgc (zav l) l.length) w'):=Qaz (fun A' c' U ⟨G,hG⟩=>by
    have:=zov A' c' (zav l) l.length U G hG hho (by rw[zba];omega) (by rw[zba];omega);rw[zba]at this;exact this)
   have HLP:Hid (∀(k:Nat) z,line (zav l) k=some z→0<z.length∧z.length≤120):=Qaz (fun k z h=>⟨zup hho h,by have:=zbr hho h;rw[zba]at this;omega⟩);clear hrt hho HCI HALL;go_wp2_with (fail);refine HHE.out.mono ?_;clear HHE;rintro e V3 ⟨A',c',rfl,hc',hHe,hb3⟩;have q3:=zab hb hb3;have HL2:=Qaz (HLI.out A' c' V3 ⟨_,hHe⟩);clear HLI hHe;go_wp2_with (fail);refine HL2.out.mono ?_;clear HL2;rintro e V4 ⟨hb4,v,rfl,Gr,hown,_⟩;obtain⟨AL,cl,rfl,hcl,hHL⟩:=hown.out;rw[zew]at hcl ⊢;have q4:=zab q3 hb4;have HRO:=Qaz hHL.here;clear hown hHL;go_wp2_with (fail)
   go_loopw [6] (fun i wr=>∃k:Nat,k≤l.length∧i=.int .i64 k∧(∀(j:Nat)(x:CI),j<k→l[j]? =some x→line (zav l) j=some x.cpl)∧Drw V4 wr) (fun i _=>l.length-(intOf i).toNat)
   case atStart=>exact⟨0,Qjz _,rfl,fun j x h=>absurd h (Nat.not_lt_zero _),Drw.refl _⟩
   case round=>
    obtain⟨k,hk,rfl,hall,hdr⟩:=hrel;obtain⟨q,rfl⟩:=hdr;have HALL:=Qaz hall;clear hall;by_cases hkl:k<l.length
    ·have hx:l[k]? =some l[k]:=Qbz hkl;generalize l[k]=x at hx;have HX:=Qaz hx;obtain⟨A2,c2,A3,c3,_,p3,_,S3,_,_,_,g3,_,_⟩:=CIs.atH (H.out.keep (Keep.all q4)) hx;obtain⟨bl,ol',rfl⟩:=Slc.addrH HRO.out (by rw[zew];omega);obtain⟨A5,c5,r1,r2,g5⟩:=Lsts.atH HRO.out (zri (g:=zav l) hkl);have hox:=HOL.out x (Qdz hx);have HS3:=Qaz (And.intro S3 r2);have w1:(0:Int)≤(k:Int):=by omega
     have w2:(k:Int)<(l.length:Int):=by omega
     clear hx S3 r2;cases hln:line (zav l) k with
     |none=>
      have e0:zd9 (zav l) k=[]:=by unfold zd9;rw[hln];rfl
      have HR:Hid (zjd l=false):=Qaz (zcj fun h=>by
       have:=(HIF.out.1 h).2 k x HX.out;rw[hln]at this;cases this)
      rw[e0]at g5;clear hln e0 HS3 hox;go_wp2_with (fail)
      go_quiet (fail)
      go_wp2;go_ret;exact⟨(by rw[HR.out];try rfl),q4.trans (Drw.below (by first|exact Drw.of _ _|exact(Drw.of _ _).drewN _) _)⟩
     |some z=>
      have e0:zd9 (zav l) k=z:=by unfold zd9;rw[hln];rfl
      obtain⟨z1,z2⟩:=HLP.out k z hln;rw[e0]at g5 HS3;have t3:((z.length:Int)==0)=false:=Qfz (by omega);have HSA:Hid (∀U,Drw V4 U→Calls Tryz.prog 128 #[.slice A5 z.length c5,.slice A3 x.cpl.length c3] U fun e w'=>e=.returned (.bool (decide (z=x.cpl)))∧Drw U w'):=Qaz (fun U hu=>by
       obtain⟨m,rfl⟩:=hu;exact zhx A5 A3 c5 c3 z x.cpl (V4.drewN m) ((HS3.out.2.keep (Keep.drewN _ _ _)).now) ((HS3.out.1.keep (Keep.drewN _ _ _)).now) (by omega) hox.2)
      have HLN:=Qaz hln;clear hln e0 hox HS3;by_cases hzc:z=x.cpl
      ·have HA2:Hid (∀(j:Nat)(y:CI),j<k+1→l[j]? =some y→line (zav l) j=some y.cpl):=Qaz (fun j y h2 h3=>by
        rcases Nat.lt_or_ge j k with p|p
        ·exact HALL.out j y p h3
        ·obtain rfl:j=k:=by omega
         rw[HX.out]at h3;cases h3;rw[HLN.out,hzc])
       rw[Qhz hzc]at HSA;clear hzc;go_wp2_with (fail)
       go_quiet ((go_at_call 128;exact(HSA.out _ (by first|exact Drw.of _ _|exact(Drw.of _ _).drewN _)).mono fun _ _ ⟨a,b⟩=>⟨a,by first|exact z0o b|exact z0m b⟩))
       go_wp2;go_roundw
       case rel=>exact⟨k+1,by omega,by go_num,HA2.out,Drw.of _ _⟩
       case measure=>simp[intOf];omega
      ·have HR:Hid (zjd l=false):=Qaz (zcj fun h=>by
        have:=(HIF.out.1 h).2 k x HX.out;rw[HLN.out]at this;exact hzc (Option.some.inj this))
       rw[Qgz hzc]at HSA;clear hzc;go_wp2_with (fail)
       go_quiet ((go_at_call 128;exact(HSA.out _ (by first|exact Drw.of _ _|exact(Drw.of _ _).drewN _)).mono fun _ _ ⟨a,b⟩=>⟨a,by first|exact z0o b|exact z0m b⟩))
       go_wp2;go_ret;exact⟨(by rw[HR.out];try rfl),q4.trans (Drw.below (by first|exact Drw.of _ _|exact(Drw.of _ _).drewN _) _)⟩
    ·obtain rfl:k=l.length:=by omega
     have HR:Hid (zjd l=true):=Qaz (zg7 (HIF.out.2 ⟨HRT.out,fun j x hx=>HALL.out j x (Qcz hx).1 hx⟩));go_wp2;go_ret;exact⟨(by rw[HR.out];try rfl),q4.trans (Drw.below (Drw.of _ _) _)⟩
theorem zj6(A:Option Addr)(c:Nat)(l:List CI)(W:World)(G:Nat→Prop)(hH:Held G (CIs A l) W)(hc:l.length≤c)(ol:∀x∈l,zdo x)(hl:l.length≤1000000):
  Calls Tryz.prog 47 #[.slice A l.length c] W fun e w'=>Below W.heap.size W w'∧((zai l∧e=.returned (.int .i64 0))∨(¬zai l∧e=.returned (.int .i64 80))):=by
 have HR:=Qaz (zgv A c l W G hH hc ol hl);clear hH ol;by_cases h:zai l
 ·rw[zg7 h]at HR;have HL:=Qaz h;clear h;go_enter Tryz.func47,Tryz.ntmps47;go_wp2_with (fail);refine HR.out.mono ?_;rintro e V ⟨rfl,hb⟩;go_wp2;go_ret;exact⟨hb,.inl ⟨HL.out,rfl⟩⟩
 ·rw[zcj h]at HR;have HL:=Qaz h;clear h;go_enter Tryz.func47,Tryz.ntmps47;go_wp2_with (fail);refine HR.out.mono ?_;rintro e V ⟨rfl,hb⟩;go_wp2;go_ret;exact⟨hb,.inr ⟨HL.out,rfl⟩⟩
theorem zn4(l:List CI)(a:ByteArray):(l.find? (fun x=>decide (x.name=a))=none∧idx (l.map (·.name)) a= -1)∨∃(j:Nat)(x:CI),l[j]? =some x∧l.find? (fun x=>decide (x.name=a))=some x∧idx (l.map (·.name)) a=j:=by
 cases hf:l.find? (fun x=>decide (x.name=a))with
 |none=>
  left;refine⟨rfl,zh3 fun hm=> ?_⟩;obtain⟨x,hx,e⟩:=List.mem_map.1 hm;have:=List.find?_eq_none.1 hf x hx;simp[e]at this
 |some x=>
  right;obtain⟨h1,j,hj,e,h2⟩:=List.find?_eq_some_iff_getElem.1 hf;refine⟨j,x,List.getElem?_eq_some_iff.2 ⟨hj,e⟩,rfl,zxz ?_ ?_⟩
  ·rw[List.getElem?_map,Qbz hj,e]
   simpa using h1
  ·intro hm;obtain⟨i,hi⟩:=Qez hm;rw[List.getElem?_take]at hi
   split at hi
   ·rename_i hij;have:=h2 i hij;rw[List.getElem?_map,Qbz (by omega)]at hi;simp at this hi;exact this hi
   ·cases hi
theorem zkl(l:List CI)(s:ByteArray):decide (0≤idx (l.map (·.name)) s)=hasB l s:=by
 rw[zf9];unfold hasB zck;cases h:zbi (l.map (·.name)) s with
 |none=>
  refine zbl.2 fun hm=> ?_;obtain⟨j,hj⟩:=Qez hm;exact zgi _ _ h j (Qcz hj).1 hj
 |some j=>exact zb8.2 (Qdz (zci h))
theorem zgw(A:Option Addr)(c:Nat)(l:List CI)(a b:ByteArray)(W:World)(G:Nat→Prop)(h:Held G (CIs A l) W)(hl:l.length≤1000000)(hcp:∀x∈l,x.cpl.length≤1000000):
  Calls Tryz.prog 121 #[.slice A l.length c,.string a,.string b] W fun e W'=>e=.returned (.bool (za0 l a b))∧W=W':=by
 have HC:=Qaz (zfn A c l a W G h hl);rcases zn4 l a with⟨h1,h2⟩|⟨j,x,hx,h1,h2⟩
 ·have HE:Hid (za0 l a b=false):=Qaz (by unfold za0;rw[h1]);rw[h2]at HC;clear h1 h2 h;go_enter Tryz.func121,Tryz.ntmps121;go_wp2_with (fail);refine HC.out.mono ?_;rintro e V ⟨rfl,rfl⟩;go_wp2;go_ret;exact⟨(by rw[HE.out];try rfl),rfl⟩
 ·have HE:Hid (za0 l a b=hasS x.cpl b):=Qaz (by unfold za0;rw[h1]);rw[h2]at HC;have hjl:=(Qcz hx).1;obtain⟨bb,off,rfl⟩:=Slc.addrH h (by omega);obtain⟨A2,c2,A3,c3,p2,p3,S2,S3,_,_,_,g3,_,_⟩:=CIs.atH h hx;have HI:=Qaz (zbv A3 c3 x.cpl b W S3.now (hcp x (Qdz hx)));have HG:=Qaz (zf9 (l:=x.cpl) (x:=b));have t1:decide ((0:Int)≤(j:Int))=true:=Qhz (by omega);have w1:(0:Int)≤(j:Int):=by omega
  have w2:(j:Int)<(l.length:Int):=by omega
  clear h1 h2 hx h S2 S3;generalize hasS x.cpl b=r at HE HG;generalize idx x.cpl b=ix at HI HG;go_enter Tryz.func121,Tryz.ntmps121;go_wp2_with (fail);refine HC.out.mono ?_;rintro e V ⟨rfl,rfl⟩;go_wp2_with (fail);refine HI.out.mono ?_;rintro e V ⟨rfl,rfl⟩;have t2:=HG.out;go_wp2;go_ret;exact⟨(by rw[HE.out,←HG.out];try rfl),rfl⟩
theorem zgo(t:Tag)(w:World):Calls Tryz.prog 96 #[tagV t] w fun e w'=>e=.returned (.string (zbd t))∧Below w.heap.size w w':=by
 obtain⟨kd,nm,s⟩:=t;have b1:∀o:Obj,Below w.heap.size w (w.alloc o):=fun o=>(Below.refl _ w).alloc (Qiz _) _;by_cases k1:kd=1
 ·subst k1;go_enter Tryz.func96,Tryz.ntmps96;go_wp2;go_ret;exact⟨rfl,b1 _⟩
 by_cases k2:kd=2
 ·subst k2;go_enter Tryz.func96,Tryz.ntmps96;go_wp2;go_ret;exact⟨rfl,b1 _⟩
 by_cases k3:kd=3
 ·subst k3;go_enter Tryz.func96,Tryz.ntmps96;go_wp2;go_ret;exact⟨rfl,b1 _⟩
 by_cases k4:kd=4
 ·subst k4;go_enter Tryz.func96,Tryz.ntmps96;go_wp2;go_ret;exact⟨rfl,b1 _⟩
 have HE:Hid (zbd ⟨kd,nm,s⟩=s):=Qaz (by unfold zbd;simp[k1,k2,k3,k4]);have t1:(kd==1)=false:=Qfz k1;have t2:(kd==2)=false:=Qfz k2;have t3:(kd==3)=false:=Qfz k3;have t4:(kd==4)=false:=Qfz k4;clear k1 k2 k3 k4;go_enter Tryz.func96,Tryz.ntmps96;go_wp2;go_ret;exact⟨(by rw[HE.out];try rfl),b1 _⟩
theorem zog(AH:Option Addr)(cH:Nat)(l:List CI)(hl:l.length≤1000000):∀(q:Nat)(t:Ty),t.count≤q→∀(A:Option Addr)(c:Nat)(W:World)(G GH:Nat→Prop),Held GH (CIs AH l) W→t.all (fun x=>decide (x.args.length≤1000000))=true→Held G (Typs A t.args) W→
  Calls Tryz.prog 81 #[.slice AH l.length cH,tyV t A c] W fun e W'=>e=.returned (.bool (zam l t))∧Below W.heap.size W W':=by
 intro q
 induction q with
 |zero=>intro t hq;have:=t.count_pos;omega
 |succ q ih=>
  intro t hq A c W G GH hH hall hT;have HIH:Hid (∀(x:Ty),x∈t.args→∀(A:Option Addr)(c:Nat)(V:World),Below W.heap.size W V→(∃G,Held G (Typs A x.args) V)→Calls Tryz.prog 81 #[.slice AH l.length cH,tyV x A c] V fun e W'=>e=.returned (.bool (zam l x))∧Below V.heap.size V W'):=
   Qaz (fun x hx A c V hv ⟨G,hG⟩=>ih x (by have:=Ty.count_mem hx;omega) A c V G GH (hH.keep (Keep.all hv)) (zq6 hall hx) hG)
  have hlen:=zkz hall;have HT:=Qaz hT;have b1:∀o:Obj,Below W.heap.size W (W.alloc o):=fun o=>(Below.refl _ W).alloc (Qiz _) _;have HAT:Hid (∀o,Calls Tryz.prog 82 #[.slice AH l.length cH,.string t.name] (W.alloc o) fun e w'=>e=.returned (.int .i64 (idx (l.map (·.name)) t.name))∧W.alloc o=w'):=Qaz (fun o=>zfn AH cH l t.name (W.alloc o) GH (hH.keep (Keep.all (b1 o))) hl);have HHB:=Qaz (zkl l t.name);obtain⟨r,hr⟩:∃r,zam l t=r:=⟨_,rfl⟩;rw[hr];have HF:Hid (r=(zar l t&&t.args.all (zam l))):=Qaz (by rw[←hr,zax])
  have HZ:Hid (t.args.length=0→t.args.all (zam l)=true):=Qaz (fun h=>by rw[List.length_eq_zero_iff.1 h];rfl);have HB1:=Qaz b1;unfold zar at HF;clear hr ih hq hH hall hT b1;show Calls Tryz.prog 81 #[.slice AH l.length cH,.agg #[.int .i64 t.kind,.string t.name,.int .i64 t.lo,.int .i64 t.hi,.slice A t.args.length c]] W _;obtain⟨xs,has⟩:∃xs,t.args=xs:=⟨_,rfl⟩;rw[has]at HF HZ HT hlen HIH ⊢;generalize t.kind=kd at HF ⊢;generalize t.name=nm at HF HAT HHB ⊢;generalize t.lo=lo at HF ⊢;generalize t.hi=hi at HF ⊢;clear has;obtain⟨n,hn⟩:∃n,xs.length=n:=⟨_,rfl⟩;rw[hn]at HF HZ hlen ⊢;have HN:=Qaz hn
  clear hn;generalize hasB l nm=hb at HF HHB;generalize idx (l.map (·.name)) nm=ix at HAT HHB;have t9:=HHB.out;by_cases k1:kd=1∨kd=4
  ·by_cases h2:lo=0
   ·subst h2;by_cases h3:hi=0
    ·subst h3;by_cases h0:n=0
     ·subst h0;have HFB:Hid (r=decide (0≤ix)):=Qaz (by rw[HF.out,HZ.out rfl,if_pos k1,HHB.out];simp);rcases k1 with rfl|rfl
      all_goals
       go_enter Tryz.func81,Tryz.ntmps81;go_wp2_with (fail);refine(HAT.out _).mono ?_;rintro e V ⟨rfl,rfl⟩;go_wp2;go_ret;exact⟨by rw[HFB.out,HHB.out];try rfl,HB1.out _⟩
     ·have HFB:Hid (r=false):=Qaz (by rw[HF.out,if_pos k1,Qgz h0];simp);have t0:((n:Int)==0)=false:=Qfz (by omega);rcases k1 with rfl|rfl
      all_goals
       go_enter Tryz.func81,Tryz.ntmps81;go_wp2;go_ret;exact⟨by rw[HFB.out];first|done|rfl|(simp[*];done)|(simp[*];omega)|(simp[*];exact HN0.out)|(simp[*];have:=H2.out;omega),HB1.out _⟩
    ·have HFB:Hid (r=false):=Qaz (by rw[HF.out,if_pos k1,Qgz h3];simp);have t0:(hi==0)=false:=Qfz h3;clear h3;rcases k1 with rfl|rfl
     all_goals
      go_enter Tryz.func81,Tryz.ntmps81;go_wp2;go_ret;exact⟨by rw[HFB.out];first|done|rfl|(simp[*];done)|(simp[*];omega)|(simp[*];exact HN0.out)|(simp[*];have:=H2.out;omega),HB1.out _⟩
   ·have HFB:Hid (r=false):=Qaz (by rw[HF.out,if_pos k1,Qgz h2];simp);have t0:(lo==0)=false:=Qfz h2;clear h2;rcases k1 with rfl|rfl
    all_goals
     go_enter Tryz.func81,Tryz.ntmps81;go_wp2;go_ret;exact⟨by rw[HFB.out];first|done|rfl|(simp[*];done)|(simp[*];omega)|(simp[*];exact HN0.out)|(simp[*];have:=H2.out;omega),HB1.out _⟩
  rw[if_neg k1]at HF;have e1:(kd==1)=false:=Qfz fun h=>k1 (.inl h);have e4:(kd==4)=false:=Qfz fun h=>k1 (.inr h);by_cases k2:kd=2
  ·rw[if_pos k2]at HF;subst k2;clear k1 e1 e4;by_cases h1:nm=⟨#[]⟩;rotate_left
   ·have HFB:Hid (r=false):=Qaz (by rw[HF.out,Qgz h1];simp);go_enter Tryz.func81,Tryz.ntmps81;go_wp2
    all_goals
     go_ret;exact⟨by rw[HFB.out];first|done|rfl|(simp[*];done)|(simp[*];omega)|(simp[*];exact HN0.out)|(simp[*];have:=H2.out;omega),HB1.out _⟩
   subst h1;by_cases h2:lo≤hi;rotate_left
   ·have HFB:Hid (r=false):=Qaz (by rw[HF.out,Qgz h2];simp);have H2:=Qaz h2;go_enter Tryz.func81,Tryz.ntmps81;go_wp2
    all_goals
     go_ret;exact⟨by rw[HFB.out];first|done|rfl|(simp[*];done)|(simp[*];omega)|(simp[*];exact HN0.out)|(simp[*];have:=H2.out;omega),HB1.out _⟩
   have t1:decide (lo≤hi)=true:=Qhz h2;by_cases h0:n=0
   ·subst h0;have HFB:Hid (r=true):=Qaz (by rw[HF.out,HZ.out rfl,t1];rfl);go_enter Tryz.func81,Tryz.ntmps81;go_wp2
    all_goals
     go_ret;exact⟨by rw[HFB.out];first|done|rfl|(simp[*];done)|(simp[*];omega)|(simp[*];exact HN0.out)|(simp[*];have:=H2.out;omega),HB1.out _⟩
   ·have HN0:=Qaz h0;have HFB:Hid (r=false):=Qaz (by rw[HF.out,Qgz h0];simp);have t0:((n:Int)==0)=false:=Qfz (by omega);go_enter Tryz.func81,Tryz.ntmps81;go_wp2
    all_goals
     go_ret;exact⟨by rw[HFB.out];first|done|rfl|(simp[*];done)|(simp[*];omega)|(simp[*];exact HN0.out)|(simp[*];have:=H2.out;omega),HB1.out _⟩
  rw[if_neg k2]at HF;have e2:(kd==2)=false:=Qfz k2;by_cases k3:kd=3
  ·rw[if_pos k3]at HF;subst k3;clear k1 e1 e4 k2 e2;by_cases h1:nm=⟨#[]⟩;rotate_left
   ·have HFB:Hid (r=false):=Qaz (by rw[HF.out,Qgz h1];simp);go_enter Tryz.func81,Tryz.ntmps81;go_wp2
    all_goals
     go_ret;exact⟨by rw[HFB.out];first|done|rfl|(simp[*];done)|(simp[*];omega)|(simp[*];exact HN0.out)|(simp[*];have:=H2.out;omega),HB1.out _⟩
   subst h1;by_cases h3:hi=0;rotate_left
   ·have HFB:Hid (r=false):=Qaz (by rw[HF.out,Qgz h3];simp);have t0:(hi==0)=false:=Qfz h3;clear h3;go_enter Tryz.func81,Tryz.ntmps81;go_wp2
    all_goals
     go_ret;exact⟨by rw[HFB.out];first|done|rfl|(simp[*];done)|(simp[*];omega)|(simp[*];exact HN0.out)|(simp[*];have:=H2.out;omega),HB1.out _⟩
   subst h3;by_cases h2:lo=0∨lo=1;rotate_left
   ·have hn0:¬lo=0:=fun h=>h2 (.inl h);have hn1:¬lo=1:=fun h=>h2 (.inr h);have HFB:Hid (r=false):=Qaz (by rw[HF.out,Qgz hn0,Qgz hn1];simp);have t0:(lo==0)=false:=Qfz hn0;have t1:(lo==1)=false:=Qfz hn1;clear h2 hn0 hn1;go_enter Tryz.func81,Tryz.ntmps81;go_wp2
    all_goals
     go_ret;exact⟨by rw[HFB.out];first|done|rfl|(simp[*];done)|(simp[*];omega)|(simp[*];exact HN0.out)|(simp[*];have:=H2.out;omega),HB1.out _⟩
   by_cases h0:n=0
   ·subst h0;have HFB:Hid (r=true):=Qaz (by rw[HF.out,HZ.out rfl];rcases h2 with rfl|rfl<;>rfl);rcases h2 with rfl|rfl
    all_goals
     go_enter Tryz.func81,Tryz.ntmps81;go_wp2
     all_goals
      go_ret;exact⟨by rw[HFB.out];first|done|rfl|(simp[*];done)|(simp[*];omega)|(simp[*];exact HN0.out)|(simp[*];have:=H2.out;omega),HB1.out _⟩
   ·have HN0:=Qaz h0;have HFB:Hid (r=false):=Qaz (by rw[HF.out,Qgz h0];simp);have t0:((n:Int)==0)=false:=Qfz (by omega);rcases h2 with rfl|rfl
    all_goals
     go_enter Tryz.func81,Tryz.ntmps81;go_wp2
     all_goals
      go_ret;exact⟨by rw[HFB.out];first|done|rfl|(simp[*];done)|(simp[*];omega)|(simp[*];exact HN0.out)|(simp[*];have:=H2.out;omega),HB1.out _⟩
  rw[if_neg k3]at HF;have e3:(kd==3)=false:=Qfz k3;by_cases k5:kd=5;rotate_left
  ·have HFB:Hid (r=false):=Qaz (by rw[HF.out,if_neg k5];rfl);have e5:(kd==5)=false:=Qfz k5;clear k1 k2 k3 k5;go_enter Tryz.func81,Tryz.ntmps81;go_wp2
   all_goals
    go_ret;exact⟨by rw[HFB.out];first|done|rfl|(simp[*];done)|(simp[*];omega)|(simp[*];exact HN0.out)|(simp[*];have:=H2.out;omega),HB1.out _⟩
  rw[if_pos k5]at HF;subst k5;clear k1 e1 e4 k2 e2 k3 e3 HAT HHB t9;by_cases h1:nm=⟨#[]⟩;rotate_left
  ·have HFB:Hid (r=false):=Qaz (by rw[HF.out,Qgz h1];simp);go_enter Tryz.func81,Tryz.ntmps81;go_wp2_with (fail)
   all_goals
    go_loopw [6,7] (fun v i wr=>v=.bool false∧i=.int .i64 0∧wr.cell? ⟨W.heap.size,4,none⟩=some (.slice A n c)∧Below W.heap.size W wr) (fun _ _ _=>0)
    case atStart=>exact⟨by first|rfl|(simp[*];done)|(simp[*];omega)|(simp[*];exact HN0.out)|(simp[*];have:=H2.out;omega),rfl,zac W _ _ _ rfl 4 _ rfl,HB1.out _⟩
    case round=>
     obtain⟨rfl,rfl,c4,hb⟩:=hrel;by_cases hn0:0<n
     ·go_wp2;go_ret;exact⟨by rw[HFB.out];first|done|rfl|(simp[*];done)|(simp[*];omega)|(simp[*];exact HN0.out)|(simp[*];have:=H2.out;omega),hb⟩
     ·first
      |(exfalso;omega)
      |(go_wp2;go_ret;exact⟨by rw[HFB.out];first|done|rfl|(simp[*];done)|(simp[*];omega)|(simp[*];exact HN0.out)|(simp[*];have:=H2.out;omega),hb⟩)
  subst h1;by_cases h2:lo=0;rotate_left
  ·have HFB:Hid (r=false):=Qaz (by rw[HF.out,Qgz h2];simp);have t0:(lo==0)=false:=Qfz h2;clear h2;go_enter Tryz.func81,Tryz.ntmps81;go_wp2_with (fail)
   all_goals
    go_loopw [6,7] (fun v i wr=>v=.bool false∧i=.int .i64 0∧wr.cell? ⟨W.heap.size,4,none⟩=some (.slice A n c)∧Below W.heap.size W wr) (fun _ _ _=>0)
    case atStart=>exact⟨by first|rfl|(simp[*];done)|(simp[*];omega)|(simp[*];exact HN0.out)|(simp[*];have:=H2.out;omega),rfl,zac W _ _ _ rfl 4 _ rfl,HB1.out _⟩
    case round=>
     obtain⟨rfl,rfl,c4,hb⟩:=hrel;by_cases hn0:0<n
     ·go_wp2;go_ret;exact⟨by rw[HFB.out];first|done|rfl|(simp[*];done)|(simp[*];omega)|(simp[*];exact HN0.out)|(simp[*];have:=H2.out;omega),hb⟩
     ·first
      |(exfalso;omega)
      |(go_wp2;go_ret;exact⟨by rw[HFB.out];first|done|rfl|(simp[*];done)|(simp[*];omega)|(simp[*];exact HN0.out)|(simp[*];have:=H2.out;omega),hb⟩)
  subst h2;by_cases h3:hi=0;rotate_left
  ·have HFB:Hid (r=false):=Qaz (by rw[HF.out,Qgz h3];simp);have t0:(hi==0)=false:=Qfz h3;clear h3;go_enter Tryz.func81,Tryz.ntmps81;go_wp2_with (fail)
   all_goals
    go_loopw [6,7] (fun v i wr=>v=.bool false∧i=.int .i64 0∧wr.cell? ⟨W.heap.size,4,none⟩=some (.slice A n c)∧Below W.heap.size W wr) (fun _ _ _=>0)
    case atStart=>exact⟨by first|rfl|(simp[*];done)|(simp[*];omega)|(simp[*];exact HN0.out)|(simp[*];have:=H2.out;omega),rfl,zac W _ _ _ rfl 4 _ rfl,HB1.out _⟩
    case round=>
     obtain⟨rfl,rfl,c4,hb⟩:=hrel;by_cases hn0:0<n
     ·go_wp2;go_ret;exact⟨by rw[HFB.out];first|done|rfl|(simp[*];done)|(simp[*];omega)|(simp[*];exact HN0.out)|(simp[*];have:=H2.out;omega),hb⟩
     ·first
      |(exfalso;omega)
      |(go_wp2;go_ret;exact⟨by rw[HFB.out];first|done|rfl|(simp[*];done)|(simp[*];omega)|(simp[*];exact HN0.out)|(simp[*];have:=H2.out;omega),hb⟩)
  subst h3;by_cases h4:n≤16;rotate_left
  ·have HFB:Hid (r=false):=Qaz (by rw[HF.out,Qgz h4];simp);have t5:¬(n:Int)≤16:=by omega
   go_enter Tryz.func81,Tryz.ntmps81;go_wp2_with (fail)
   all_goals
    go_loopw [6,7] (fun v i wr=>v=.bool false∧i=.int .i64 0∧wr.cell? ⟨W.heap.size,4,none⟩=some (.slice A n c)∧Below W.heap.size W wr) (fun _ _ _=>0)
    case atStart=>exact⟨by first|rfl|(simp[*];done)|(simp[*];omega)|(simp[*];exact HN0.out)|(simp[*];have:=H2.out;omega),rfl,zac W _ _ _ rfl 4 _ rfl,HB1.out _⟩
    case round=>
     obtain⟨rfl,rfl,c4,hb⟩:=hrel;by_cases hn0:0<n
     ·go_wp2;go_ret;exact⟨by rw[HFB.out];first|done|rfl|(simp[*];done)|(simp[*];omega)|(simp[*];exact HN0.out)|(simp[*];have:=H2.out;omega),hb⟩
     ·first
      |(exfalso;omega)
      |(go_wp2;go_ret;exact⟨by rw[HFB.out];first|done|rfl|(simp[*];done)|(simp[*];omega)|(simp[*];exact HN0.out)|(simp[*];have:=H2.out;omega),hb⟩)
  have t5:(n:Int)≤16:=by omega
  have HFB:Hid (r=xs.all (zam l)):=Qaz (by rw[HF.out,Qhz h4];simp);go_enter Tryz.func81,Tryz.ntmps81;go_wp2_with (fail)
  go_loopw [6,7] (fun v i wr=>∃(k:Nat)(u:Bool),k≤n∧v=.bool u∧i=.int .i64 k∧u=(xs.take k).all (zam l)∧wr.cell? ⟨W.heap.size,4,none⟩=some (.slice A n c)∧Below W.heap.size W wr) (fun _ i _=>n-(intOf i).toNat)
  case atStart=>exact⟨0,true,Qjz _,rfl,rfl,rfl,zac W _ _ _ rfl 4 _ rfl,HB1.out _⟩
  case round=>
   obtain⟨k,u,hk,rfl,rfl,hu,c4,hb⟩:=hrel;have HU:=Qaz hu;have C4:=Qaz c4;clear hu;cases u with
   |false=>
    have HR:Hid (r=false):=Qaz (by
     rw[HFB.out];have h:=HU.out;cases hx:xs.all (zam l)with
     |false=>rfl
     |true=>
      rw[List.all_eq_true]at hx;have:(xs.take k).all (zam l)=true:=List.all_eq_true.2 fun x hx2=>hx x (List.mem_of_mem_take hx2);rw[this]at h;cases h)
    by_cases hkn:k<n
    ·go_wp2;go_ret;exact⟨by rw[HR.out];first|done|rfl|(simp[*];done)|(simp[*];omega)|(simp[*];exact HN0.out)|(simp[*];have:=H2.out;omega),hb⟩
    ·go_wp2;go_ret;exact⟨by rw[HR.out];first|done|rfl|(simp[*];done)|(simp[*];omega)|(simp[*];exact HN0.out)|(simp[*];have:=H2.out;omega),hb⟩
   |true=>
    by_cases hkn:k<n
    ·have hkx:k<xs.length:=by rw[HN.out];exact hkn
     obtain⟨b,off,rfl⟩:=Slc.addrH HT.out (by omega);have hx:xs[k]? =some xs[k]:=Qbz hkx;generalize xs[k]=x at hx;obtain⟨A3,c3',r1,r2,g0,g1,g2,g3,g4⟩:=Typs.atH (HT.out.all hb) hx;have HST:=Qaz (HIH.out x (Qdz hx) A3 c3' wr hb ⟨_,r2⟩);have HS:Hid ((xs.take (k+1)).all (zam l)=zam l x):=Qaz (by
      rw[take_snoc hx,List.all_append,←HU.out];simp)
     have w1:(0:Int)≤(k:Int):=by omega
     have w2:(k:Int)<(n:Int):=by omega
     generalize zam l x=fx at HST HS;have HKN:=Qaz hkn;clear hx r1 r2 hkx;go_wp2_with (fail);refine HST.out.mono ?_;clear HST;rintro e V ⟨rfl,hbV⟩;have c4V:=zaa C4.out hbV;go_wp2;exact⟨⟨k+1,fx,by have:=HKN.out;omega,rfl,by go_num,HS.out.symm,c4V,zab hb hbV⟩,by have:=HKN.out;simp[intOf];omega⟩
    ·obtain rfl:k=n:=by omega
     have HR:Hid (r=true):=Qaz (by
      rw[HFB.out];have h:=HU.out;rw[List.take_of_length_le (by rw[HN.out];exact Qiz _)]at h;exact h.symm)
     go_wp2;go_ret;exact⟨by rw[HR.out];first|done|rfl|(simp[*];done)|(simp[*];omega)|(simp[*];exact HN0.out)|(simp[*];have:=H2.out;omega),hb⟩
theorem zf2(AH:Option Addr)(cH:Nat)(l:List CI)(hl:l.length≤1000000)(t:Ty)(A:Option Addr)(c:Nat)(W:World)(G GH:Nat→Prop)(hH:Held GH (CIs AH l) W)(hs:t.all (fun x=>decide (x.args.length≤1000000))=true)(hA:Held G (Typs A t.args) W):
  Calls Tryz.prog 49 #[.slice AH l.length cH,tyV t A c] W fun e W'=>e=.returned (.int .i64 (zaj l t))∧Below W.heap.size W W':=by
 obtain⟨W1,hW1⟩:∃W1,W1=W.alloc (.cells #[.int .i64 t.kind,.string t.name,.int .i64 t.lo,.int .i64 t.hi,.slice A t.args.length c] 36):=⟨_,rfl⟩;have b1:Below W.heap.size W W1:=by rw[hW1];exact(Below.refl _ W).alloc (Qiz _) _
 have xt:∀j u,[Value.int .i64 t.kind,.string t.name,.int .i64 t.lo,.int .i64 t.hi,.slice A t.args.length c][j]? =some u→W1.cell? ⟨W.heap.size,j,none⟩=some u:=fun j u hj=>by rw[hW1];exact zac W _ _ _ rfl j u hj
 have XT:=Qaz xt;have HS:=Qaz (zrh t A c W1 G (hA.keep (Keep.all b1)) hs);have HFO:=Qaz (fun V (hv:Below W1.heap.size W1 V)=>zog AH cH l hl t.count t (Qiz _) A c V G GH ((hH.keep (Keep.all b1)).keep (Keep.all hv)) hs ((hA.keep (Keep.all b1)).keep (Keep.all hv)));have HVE:Hid (zaj l t=if zcm t=0 then(if zam l t then 0 else 81)else zcm t):=Qaz rfl;have c0:=xt 0 _ rfl;have c1:=xt 1 _ rfl;have c2:=xt 2 _ rfl;have c3:=xt 3 _ rfl;have c4:=xt 4 _ rfl;clear xt hH hA hs;generalize zam l t=fb at HFO HVE;generalize zcm t=le at HS HVE;go_enter Tryz.func49,Tryz.ntmps49;go_wp2_with (fail);rw[←hW1];clear hW1
 refine HS.out.mono ?_;clear HS;rintro e V ⟨rfl,hb⟩;have q1:=zab b1 hb;clear c0 c1 c2 c3 c4;by_cases hle:le=0
 ·subst hle;have HF2:=Qaz (HFO.out V hb);have d0:=zaa (XT.out 0 _ rfl) hb;have d1:=zaa (XT.out 1 _ rfl) hb;have d2:=zaa (XT.out 2 _ rfl) hb;have d3:=zaa (XT.out 3 _ rfl) hb;have d4:=zaa (XT.out 4 _ rfl) hb;clear HFO XT;go_wp2_with (fail);refine HF2.out.mono ?_;clear HF2;rintro e V2 ⟨rfl,hb2⟩;have q2:=zab q1 hb2;cases fb with
  |true=>
   go_wp2;go_ret;exact⟨(by rw[HVE.out];try rfl),q2⟩
  |false=>
   go_wp2;go_ret;exact⟨(by rw[HVE.out];try rfl),q2⟩
 ·have t1:(le==0)=false:=Qfz hle;have HR:Hid (zaj l t=le):=Qaz (by rw[HVE.out,if_neg hle]);clear hle;go_wp2;go_ret;exact⟨(by rw[HR.out];try rfl),q1⟩
theorem zph(AH:Option Addr)(cH:Nat)(l:List CI)(hl:l.length≤1000000)(t:Tag)(W:World)(GH:Nat→Prop)(hH:Held GH (CIs AH l) W)(hL:zai l):
  Calls Tryz.prog 50 #[.slice AH l.length cH,tagV t] W fun e W'=>e=.returned (.bool (zbt l t))∧Below W.heap.size W W':=by
 obtain⟨kd,nm,s⟩:=t;have b1:∀o:Obj,Below W.heap.size W (W.alloc o):=fun o=>(Below.refl _ W).alloc (Qiz _) _;have HB1:=Qaz b1;have HAT:Hid (∀o,Calls Tryz.prog 82 #[.slice AH l.length cH,.string s] (W.alloc o) fun e w'=>e=.returned (.int .i64 (idx (l.map (·.name)) s))∧W.alloc o=w'):=Qaz (fun o=>zfn AH cH l s (W.alloc o) GH (hH.keep (Keep.all (b1 o))) hl);have HHB:=Qaz (zkl l s);obtain⟨r,hr⟩:∃r,zbt l ⟨kd,nm,s⟩=r:=⟨_,rfl⟩;rw[hr];have HT:=Qaz hr;unfold zbt at HT;simp only at HT;clear hr b1;have t9:=HHB.out;by_cases k1:kd=1
 ·rw[if_pos k1]at HT;subst k1;by_cases hs:s=⟨#[]⟩
  ·have HFB:Hid (r=true):=Qaz (by rw[←HT.out,Qhz hs]);subst hs;go_enter Tryz.func50,Tryz.ntmps50;go_wp2
   all_goals
    go_ret;exact⟨by rw[HFB.out];first|done|rfl|(simp[*];done)|(simp[*];omega),HB1.out _⟩
  ·have HFB:Hid (r=false):=Qaz (by rw[←HT.out,Qgz hs]);go_enter Tryz.func50,Tryz.ntmps50;go_wp2
   all_goals
    go_ret;exact⟨by rw[HFB.out];first|done|rfl|(simp[*];done)|(simp[*];omega),HB1.out _⟩
 rw[if_neg k1]at HT;have e1:(kd==1)=false:=Qfz k1;by_cases k2:kd=2
 ·rw[if_pos k2]at HT;subst k2;clear k1 e1;by_cases hs:s=⟨#[]⟩;rotate_left
  ·have HFB:Hid (r=false):=Qaz (by rw[←HT.out,Qgz hs];rfl);go_enter Tryz.func50,Tryz.ntmps50;go_wp2
   all_goals
    go_ret;exact⟨by rw[HFB.out];first|done|rfl|(simp[*];done)|(simp[*];omega),HB1.out _⟩
  by_cases h2:nm=0∨nm=1
  ·have HFB:Hid (r=true):=Qaz (by rw[←HT.out,Qhz hs];rcases h2 with rfl|rfl<;>rfl);subst hs;rcases h2 with rfl|rfl
   all_goals
    go_enter Tryz.func50,Tryz.ntmps50;go_wp2
    all_goals
     go_ret;exact⟨by rw[HFB.out];first|done|rfl|(simp[*];done)|(simp[*];omega),HB1.out _⟩
  ·have hn0:¬nm=0:=fun h=>h2 (.inl h);have hn1:¬nm=1:=fun h=>h2 (.inr h);have HFB:Hid (r=false):=Qaz (by rw[←HT.out,Qgz hn0,Qgz hn1];simp);have t0:(nm==0)=false:=Qfz hn0;have t1:(nm==1)=false:=Qfz hn1;subst hs;clear h2 hn0 hn1;go_enter Tryz.func50,Tryz.ntmps50;go_wp2
   all_goals
    go_ret;exact⟨by rw[HFB.out];first|done|rfl|(simp[*];done)|(simp[*];omega),HB1.out _⟩
 rw[if_neg k2]at HT;have e2:(kd==2)=false:=Qfz k2;by_cases k3:kd=3
 ·rw[if_pos k3]at HT;subst k3;clear k1 e1 k2 e2;by_cases h0:nm=0
  ·subst h0;have HFB:Hid (r=decide (0≤idx (l.map (·.name)) s)):=Qaz (by rw[←HT.out,HHB.out];rfl);generalize idx (l.map (·.name)) s=ix at HAT HFB t9 HHB;clear t9;go_enter Tryz.func50,Tryz.ntmps50;go_wp2_with (fail);refine(HAT.out _).mono ?_;rintro e V ⟨rfl,rfl⟩;go_wp2;go_ret;exact⟨by rw[HFB.out];try rfl,HB1.out _⟩
  ·have HFB:Hid (r=false):=Qaz (by rw[←HT.out,Qgz h0];rfl);have t0:(nm==0)=false:=Qfz h0;clear h0;go_enter Tryz.func50,Tryz.ntmps50;go_wp2
   all_goals
    go_ret;exact⟨by rw[HFB.out];first|done|rfl|(simp[*];done)|(simp[*];omega),HB1.out _⟩
 rw[if_neg k3]at HT;have e3:(kd==3)=false:=Qfz k3;by_cases k4:kd=4
 ·rw[if_pos k4]at HT;subst k4;clear k1 e1 k2 e2 k3 e3;by_cases h0:nm=0;rotate_left
  ·have HFB:Hid (r=false):=Qaz (by rw[←HT.out,Qgz h0];rfl);have t0:(nm==0)=false:=Qfz h0;clear h0;go_enter Tryz.func50,Tryz.ntmps50;go_wp2
   all_goals
    go_ret;exact⟨by rw[HFB.out];first|done|rfl|(simp[*];done)|(simp[*];omega),HB1.out _⟩
  by_cases hs:s=⟨#[]⟩
  ·have HFB:Hid (r=true):=Qaz (by rw[←HT.out,Qhz h0,Qhz hs];rfl);subst hs h0;go_enter Tryz.func50,Tryz.ntmps50;go_wp2
   all_goals
    go_ret;exact⟨by rw[HFB.out];first|done|rfl|(simp[*];done)|(simp[*];omega),HB1.out _⟩
  ·have HFB:Hid (r=false):=Qaz (by rw[←HT.out,Qgz hs];simp);subst h0;go_enter Tryz.func50,Tryz.ntmps50;go_wp2
   all_goals
    go_ret;exact⟨by rw[HFB.out];first|done|rfl|(simp[*];done)|(simp[*];omega),HB1.out _⟩
 rw[if_neg k4]at HT;have e4:(kd==4)=false:=Qfz k4;by_cases k5:kd=5;rotate_left
 ·have HFB:Hid (r=false):=Qaz (by rw[←HT.out,if_neg k5]);have e5:(kd==5)=false:=Qfz k5;clear k1 k2 k3 k4 k5;go_enter Tryz.func50,Tryz.ntmps50;go_wp2
  all_goals
   go_ret;exact⟨by rw[HFB.out];first|done|rfl|(simp[*];done)|(simp[*];omega),HB1.out _⟩
 rw[if_pos k5]at HT;subst k5;clear k1 e1 k2 e2 k3 e3 k4 e4 t9;have hnd:=zpp hL;rcases zjo hnd s with⟨h1,h2⟩|⟨j,h1,h2,h3⟩
 ·have HFB:Hid (r=false):=Qaz (by
   rw[←HT.out];have:hasB l s=false:=by unfold hasB zck;rw[h1];rfl
   rw[this];simp)
  rw[h2]at HAT;clear h1 h2;go_enter Tryz.func50,Tryz.ntmps50;go_wp2_with (fail);refine(HAT.out _).mono ?_;rintro e V ⟨rfl,rfl⟩;go_wp2
  all_goals
   go_ret;exact⟨by rw[HFB.out];first|done|rfl|(simp[*];done)|(simp[*];omega),HB1.out _⟩
 ·rw[h2]at HAT;rw[List.getElem?_map]at h3;obtain⟨x,hx,e⟩:=Option.map_eq_some_iff.1 h3;have HFB:Hid (r=(decide (nm=0)&&decide (4<j)&& !x.abs)):=Qaz (by
   rw[←HT.out];have q1:zck l s=some j:=h1;have q2:hasB l s=true:=by unfold hasB;rw[q1];rfl
   have q3:zf3 l s=x.abs:=by rw[zuf,q1];simp[hx]
   rw[q1,q2,q3];simp)
  have hjl:=(Qcz hx).1;obtain⟨bb,off,rfl⟩:=Slc.addrH hH (by omega);have g4:∀o,(W.alloc o).cell? ⟨bb,off+j*6+4,none⟩=some (.bool x.abs):=fun o=>by
   obtain⟨_,_,_,_,_,_,_,_,_,_,_,_,g4,_⟩:=CIs.atH hH hx;exact zat g4
  have w1:(0:Int)≤(j:Int):=by omega
  have w2:(j:Int)<(l.length:Int):=by omega
  have HG4:=Qaz g4;clear h1 h2 h3 hx e hH g4;have g4:=HG4.out;by_cases h0:nm=0;rotate_left
  ·have HFC:Hid (r=false):=Qaz (by rw[HFB.out,Qgz h0];rfl);have t0:(nm==0)=false:=Qfz h0;clear h0 hL;go_enter Tryz.func50,Tryz.ntmps50;go_wp2_with (fail);refine(HAT.out _).mono ?_;rintro e V ⟨rfl,rfl⟩;go_wp2
   all_goals
    go_ret;exact⟨by rw[HFC.out];first|done|rfl|(simp[*];done)|(simp[*];omega),HB1.out _⟩
  by_cases h5:4<j;rotate_left
  ·have HFC:Hid (r=false):=Qaz (by rw[HFB.out,Qgz h5];simp);have t5:decide ((5:Int)≤(j:Int))=false:=Qgz (by omega);subst h0;clear hL;go_enter Tryz.func50,Tryz.ntmps50;go_wp2_with (fail);refine(HAT.out _).mono ?_;rintro e V ⟨rfl,rfl⟩;go_wp2
   all_goals
    go_ret;exact⟨by rw[HFC.out];first|done|rfl|(simp[*];done)|(simp[*];omega),HB1.out _⟩
  have t5:decide ((5:Int)≤(j:Int))=true:=Qhz (by omega);cases hab:x.abs with
  |true=>
   have HFC:Hid (r=false):=Qaz (by rw[HFB.out,hab];simp);simp only[hab]at g4;subst h0;clear hL hab HG4;go_enter Tryz.func50,Tryz.ntmps50;go_wp2_with (fail);refine(HAT.out _).mono ?_;rintro e V ⟨rfl,rfl⟩;go_wp2
   all_goals
    go_ret;exact⟨by rw[HFC.out];first|done|rfl|(simp[*];done)|(simp[*];omega),HB1.out _⟩
  |false=>
   have HFC:Hid (r=true):=Qaz (by rw[HFB.out,hab,Qhz h5,Qhz h0];rfl);simp only[hab]at g4;subst h0;clear hL hab HG4;go_enter Tryz.func50,Tryz.ntmps50;go_wp2_with (fail);refine(HAT.out _).mono ?_;rintro e V ⟨rfl,rfl⟩;go_wp2
   all_goals
    go_ret;exact⟨by rw[HFC.out];first|done|rfl|(simp[*];done)|(simp[*];omega),HB1.out _⟩
end Go.Proofs.YtepnmejahbiacaaGreat
