/- Part 40 of the proof: Pl, Ub, Uc, Ud. -/
import Derived.Test.YtepnmejahbiacaaGreatM39
set_option linter.unusedVariables false
set_option linter.unusedSimpArgs false
set_option maxHeartbeats 64000000
set_option maxRecDepth 100000
namespace Go.Proofs.YtepnmejahbiacaaGreat
open Go.RowKit
section
open Go.Deep
attribute [local go_sem ↓] Go.wp_at_zero Go.wp_at_succ
theorem zi9(hp M1:Nat)(AH:Option Addr)(cH:Nat)(l:List CI)(hL:zai l)(ol:∀x∈l,zdo x)(t:Ty)(At:Option Addr)(ct:Nat)(w:World)(H:HierAt hp M1 AH cH l l.length w)(hA:Held (fun b=>b<M1) (CIs AH l) w)(hT:Held (fun b=>b<M1) (Typs At t.args) w)(hct:t.args.length≤ct)(hform:zam l t=true)(hbd:t.all zhs=true)(hsm:t.count≤1000):
  Calls Tryz.prog 100 #[.pointer (some ⟨hp,0,none⟩),tyV t At ct] w fun e w'=>∃v L,e=.returned v∧IsPieces l (addT l t zbk) L∧(∀x∈L,x.args=[])∧L.length≤4000∧Own typR 36 5 w.heap.size (fun _=>False) v L w'∧Asked1 hp M1 AH cH l (zce M1) w w':=by
 have hmf:∀(fn:Fn)(first cap:Array Value)(w:World),(Instr.makeFunc fn first cap).run Tryz.prog w=.ok (.func fn first cap) w:=fun _ _ _ _=>rfl;have hpe:=H.hpe;have hhw:hp<w.heap.size:=cell_lt H.c0;obtain⟨W1,hW1⟩:∃W1,W1=((w.alloc (.cells #[.pointer (some ⟨hp,0,none⟩)] 98)).alloc (.cells #[.int .i64 t.kind,.string t.name,.int .i64 t.lo,.int .i64 t.hi,.slice At t.args.length ct] 36)):=⟨_,rfl⟩
 obtain⟨W2,hW2⟩:∃W2,W2=(W1.alloc (.cells #[.pointer (some ⟨hp,0,none⟩),.slice none 0 0,.slice none 0 0,.slice none 0 0,.bool false,.bool false] 170)).alloc (.cells #[.int .i64 t.kind,.string t.name,.int .i64 t.lo,.int .i64 t.hi,.slice At t.args.length ct] 36):=⟨_,rfl⟩;have b1:Below w.heap.size w W1:=by rw[hW1];exact((Below.refl _ w).alloc (Qiz _) _).alloc (by simp) _
 have s1:W1.heap.size=w.heap.size+2:=by rw[hW1];simp
 have b12:Below W1.heap.size W1 W2:=by rw[hW2];exact((Below.refl _ W1).alloc (Qiz _) _).alloc (by simp) _
 have b2:Below w.heap.size w W2:=zae b1 b12;have s2:W2.heap.size=w.heap.size+4:=by rw[hW2];simp[s1]
 obtain⟨pb,hpb⟩:∃pb,w.heap.size+1+1=pb:=⟨_,rfl⟩;have x0:W1.cell? ⟨w.heap.size,0,none⟩=some (.pointer (some ⟨hp,0,none⟩)):=by rw[hW1];exact zat (zac w _ _ _ rfl 0 _ rfl)
 have hx1:Cel (w.heap.size+1) [.int .i64 t.kind,.string t.name,.int .i64 t.lo,.int .i64 t.hi,.slice At t.args.length ct] W1:=by rw[hW1];exact Cel.new (w.alloc _) _ _ _ (by simp)
 have hpbc:Cel pb (zb2 hp zbk ⟨fun _=>none,fun _=>0⟩) W2:=by
  have e:pb=W1.heap.size:=by omega
  rw[hW2,e];exact(Cel.new W1 _ _ _ rfl).all ((Below.refl _ _).alloc (Qiz _) _)
 have hel:Cel (pb+1) [.int .i64 t.kind,.string t.name,.int .i64 t.lo,.int .i64 t.hi,.slice At t.args.length ct] W2:=by
  rw[hW2];have e:pb=W1.heap.size:=by omega
  rw[e];exact Cel.new (W1.alloc _) _ _ _ (by simp)
 have hpa:PartsAt pb hp zbk ⟨fun _=>none,fun _=>0⟩ W2:=⟨hpbc,fun i=>Own.nil _ _ _ _ _ _,fun i j x y _ hx=>by cases hx⟩;have hfr:Held (Free M1 pb ⟨fun _=>none,fun _=>0⟩ W2) (Typs (some ⟨pb+1,0,none⟩) [t]) W2:=by
  intro w' k;have hT2:Held (fun b=>b<M1) (Typs At t.args) w':=(hT.keep (Keep.all b2)).keep (k.mono fun b hb=>Free.below hpa hpe (by omega) hb);intro i x hx;have hi:i=0:=by
   have:=(Qcz hx).1
   simpa using this
  subst hi;simp at hx;subst hx;refine⟨pb+1,0,[.int .i64 t.kind,.string t.name,.int .i64 t.lo,.int .i64 t.hi,.slice At t.args.length ct],rfl,rfl,(typR.mk hct hT2).now,fun j v hv=> ?_⟩;simp only[Nat.zero_mul,Nat.zero_add];exact zah (hel j v hv).1 k ⟨fun m=>by simp only[zce]at m;omega,by show pb+1≠pb;omega,fun o=>(by obtain⟨i,x,hx,_⟩:=o;cases hx),by show pb+1<W2.heap.size;omega⟩
 have hpp:hp<pb:=by omega
 have hwp:W1.heap.size≤pb:=by omega
 have HU:=Qaz (zm1 hp M1 AH cH l hL ol pb hpp (t.count+1) [t] (by rw[Ty.counts,Ty.counts];omega) (fun x hx=>by simp only[List.mem_singleton]at hx;rw[hx];exact hform) 0 ⟨#[]⟩ 0 0 (some ⟨pb+1,0,none⟩) 1 zbk ⟨fun _=>none,fun _=>0⟩ W2 hpa (H.keep b2) (hA.keep (Keep.all b2)) hfr (fun i=>by rw[Ty.counts,Ty.counts];show 0+_≤_;omega));have HP1:Hid (∀V,Added hp M1 AH cH l pb ⟨fun _=>none,fun _=>0⟩ W2 (addTs l [t] zbk) V→PcAt hp M1 AH cH l pb W1 (addT l t zbk) V):=Qaz (fun V ⟨r',h1,h2,h3⟩=>by
  refine⟨⟨r',by rw[addTs,addTs]at h1;exact h1,fun b hb=> ?_⟩,h3,(Chg.of b12).trans3 h2.chg fun b hb=> ?_⟩
  ·rcases h2.own b hb with q|q
   ·obtain⟨i,x,hx,_⟩:=q;cases hx
   ·omega
  ·rcases hb with hb|rfl|hb
   ·exact .inl hb
   ·exact .inr (by omega)
   ·obtain⟨i,x,hx,_⟩:=hb;cases hx)
 have HOK:Hid (POk (addT l t zbk)):=Qaz (POk.addT l t zbk ⟨fun x hx=>(by cases hx),fun x hx=>(by cases hx),fun x hx=>(by cases hx)⟩ hform hbd);have HLN:Hid (∀i,((addT l t zbk).row i).length≤1000):=Qaz (fun i=>by have:=zt9 l t zbk i;have e:(zbk.row i).length=0:=rfl;omega);obtain⟨x10,_⟩:=hx1 0 _ rfl;obtain⟨x11,_⟩:=hx1 1 _ rfl;obtain⟨x12,_⟩:=hx1 2 _ rfl;obtain⟨x13,_⟩:=hx1 3 _ rfl;obtain⟨x14,_⟩:=hx1 4 _ rfl;have HA:=Qaz hA;have HPE:=Qaz hpe;have HB1:=Qaz b1
 have HX0:Hid (∀V,Chg (zce M1) W1 V→V.cell? ⟨w.heap.size,0,none⟩=some (.pointer (some ⟨hp,0,none⟩))):=Qaz (fun V k=>zah x0 (k.keep (G:=fun b=>b=w.heap.size) fun b e m=>by simp only[zce]at m;have e:b=w.heap.size:=e;omega) rfl);have HPB:=Qaz hpb;clear hpb hpa hfr hel hpbc hx1 hT hct hform hbd hA H b1 b2 b12 hpe;generalize addT l t zbk=P at HP1 HOK HLN;go_enter Tryz.func100,Tryz.ntmps100;go_wp2_with (fail);rw[←hW1];clear hW1;subst hW2;rw[HPB.out];refine HU.out.mono ?_;rintro e V ⟨rfl,hadd⟩;have HV:=Qaz (HP1.out V hadd);clear hadd HU HP1 s1 s2 x10 x11 x12 x13 x14 x0 hhw
 obtain⟨r1,hp1,ho1⟩:=HV.out.ex;obtain⟨A2,c2,d2,e2,m2,k2⟩:=(hp1.row 2).leafRow HOK.out.r2;have e3:(P.row 2).length=d2.length:=by rw[←m2,List.length_map]
 have q1:V.cell? ⟨pb,3,none⟩=some (.slice A2 d2.length c2):=by
  have:=(hp1.cel 3 _ rfl).1;have e2':r1.v P 2=.slice A2 (P.row 2).length c2:=e2;rw[e2',e3]at this;exact this
 have HC1:Hid (Calls Tryz.prog 101 #[.slice A2 d2.length c2,.func (.func 139) #[] #[]] V fun e w'=>e=.returned (.bool (zny (P.row 2) zak))∧Below V.heap.size V w'):=Qaz (by
  have:=zdm 139 #[] (enters Tryz.func139 (by kernel_rfl) rfl) A2 c2 d2 (fun t=>decide (t.name=zak)) (fun X=>Below V.heap.size V X) V (Below.refl _ _) (fun wr hI=>zb6 k2 hI) (by have:=HLN.out 2;omega) (fun x _ wr hI=>(zps x.k x.s x.lo x.hi x.A x.c wr).mono fun e w' ⟨h1,h2⟩=>⟨h1,zae hI h2⟩);rw[m2]at this;exact this)
 have HHW:Hid (w.heap.size≤V.heap.size):=Qaz (Nat.le_trans HB1.out.size HV.out.ch.size);clear hp1 ho1 e2 e3 m2 k2;cases hob:zny (P.row 2) zak with
 |true=>
  rw[hob]at HC1;have HIP:Hid (IsPieces l P [zau zak]):=Qaz (by unfold IsPieces;rw[if_pos hob]);clear hob;go_wp2_with (go_at_call 101;refine HC1.out.mono ?_;rintro e V2 ⟨rfl,hb2⟩);go_wp2_with (go_at_call 140;refine(zeb _ _).mono ?_;rintro e V3 ⟨rfl,hb3⟩);have hb23:=zae hb2 hb3;have hsz:w.heap.size≤V3.heap.size:=Nat.le_trans HHW.out hb23.size
  have HFI:Hid (∃v L,Value.slice (some ⟨V3.heap.size,0,none⟩) 1 1=v∧IsPieces l P L∧(∀x∈L,x.args=[])∧L.length≤4000∧Own typR 36 5 w.heap.size (fun _=>False) v L (V3.alloc (.cells #[.int .i64 (zau zak).kind,.string (zau zak).name,.int .i64 (zau zak).lo,.int .i64 (zau zak).hi,.slice none 0 0] 36))∧Asked1 hp M1 AH cH l (zce M1) w (V3.alloc (.cells #[.int .i64 (zau zak).kind,.string (zau zak).name,.int .i64 (zau zak).lo,.int .i64 (zau zak).hi,.slice none 0 0] 36))):=Qaz ⟨_,[zau zak],rfl,HIP.out,(fun x hx=>by simp only[List.mem_singleton]at hx;rw[hx];rfl),by simp,Own.single (R:=typR) (w:=V3) (n:=V3.heap.size) rfl hsz (x:=zau zak) (cs:=[.int .i64 (zau zak).kind,.string (zau zak).name,.int .i64 (zau zak).lo,.int .i64 (zau zak).hi,.slice none 0 0]) rfl (by decide) (zb1 _ _ _ _ _ _),⟨(HV.out.H.keep hb23).keep ((Below.refl _ _).alloc (Qiz _) _),(((Chg.of HB1.out).trans HV.out.ch).trans (Chg.of hb23)).trans (Chg.of ((Below.refl _ _).alloc (Qiz _) _))⟩⟩
  go_ret;obtain⟨v,L,rfl,q⟩:=HFI.out;exact⟨_,L,rfl,q⟩
 |false=>
  rw[hob]at HC1;have HOB:=Qaz hob;clear hob;go_wp2_with (go_at_call 101;refine HC1.out.mono ?_;rintro e V2 ⟨rfl,hb2⟩;obtain⟨r2,hp2,ho2⟩:=(HV.out.all hb2).ex;have q2:V2.cell? ⟨pb,1,none⟩=some (r2.v P 0):=(hp2.cel 1 _ rfl).1);refine(zoq (r2.v P 0) (P.row 0) V2 (hp2.row 0) HOK.out.r0 (by have:=HLN.out 0;omega)).mono ?_;rintro e V3 ⟨v3,M,rfl,hown3,hgap,hch3⟩;obtain⟨A3,c3,rfl⟩:=hown3.anyForm;have HGP:=Qaz hgap;have S3:=hp2.setRow (fun _=>False) 0 1 rfl hch3 hown3
  have HV3:Hid (PcAt hp M1 AH cH l pb W1 (P.setRow 0 M) (V3.setCell ⟨pb,1,none⟩ (.slice A3 M.length c3))):=Qaz ((HV.out.all hb2).via hpp hwp hp2 ho2 S3);obtain⟨u1,f1⟩:=(hp2.cel.keep (hch3.keep (G:=fun b=>b=pb) fun b hb e=>by have hb:b=pb:=hb;subst hb;have:=(hp2.ownLt (PRows.ownOf e)).1;omega) rfl) 1 _ rfl;have HM6:Hid (M.length≤1000):=Qaz (by have h1:=hgap.2.2;have h2:=HLN.out 0;omega)
  have HQ4:Hid ((V3.setCell ⟨pb,1,none⟩ (.slice A3 M.length c3)).cell? ⟨pb,1,none⟩=some (.slice A3 M.length c3)∧Own typR 36 5 (pb+1) (fun _=>False) (.slice A3 M.length c3) M (V3.setCell ⟨pb,1,none⟩ (.slice A3 M.length c3))):=Qaz ⟨(S3.1.cel 1 _ rfl).1,S3.1.row 0⟩;clear hown3 hgap S3 hch3 hp2 ho2 q2 hb2 q1 HC1
  go_upto_region 6 with fail
  clear u1 f1;generalize V3.setCell ⟨pb,1,none⟩ (.slice A3 M.length c3)=V4 at HV3 HQ4 ⊢
  go_cut [46] (fun s46 wx=>s46=.bool (za7 M)∧PcAt hp M1 AH cH l pb W1 (P.setRow 0 M) wx)
  case first=>
   exact zyp hp M1 AH cH l pb W1 P M A3 c3 V4 (Qaz HGP.out.1) HV3 HQ4 _ _ _ _ _ _ _ _ _ _ _ _ _ _ _ _ _ _ _ _ _ _ _ _ _ _ _ _ _ _ _ _ _ _ _ _ _ _ _ _ _ _ _ _ _ _ _ _ _ _ _ _ _ _ _ _ _ _ _ _ _ _ _ _ _ _ _ _ _ _ _ _ _ _ _ _ _ _ _ _ _ _ _ _ _ _ _ _ _ _ _ _ _ _ _ _ _ _ _ _ _ _ _ _ _ _ _ _ _ _ _ _ _ _ _ _ _ _ _ _ _ _ _ _ _ _ _ _ _ _ _ _ _ _ _ _ (by assumption) (by assumption)
  case rest=>
   obtain⟨rfl,hpc⟩:=hcut;have HPC:=Qaz hpc;clear hpc HV3 HQ4
   go_upto_if 46 with fail
   go_cut [] (fun wx=>PcAt hp M1 AH cH l pb W1 (stepW P M) wx)
   case first=>
    exact zvo hp M1 AH cH l pb W1 P M wc hpp hwp HLN HPC _ _ _ _ _ _ _ _ _ _ _ _ _ _ _ _ _ _ _ _ _ _ _ _ _ _ _ _ _ _ _ _ _ _ _ _ _ _ _ _ _ _ _ _ _ _ _ _ _ _ _ _ _ _ _ _ _ _ _ _ _ _ _ _ _ _ _ _ _ _ _ _ _ _ _ _ _ _ _ _ _ _ _ _ _ _ _ _ _ _ _ _ _ _ _ _ _ _ _ _ _ _ _ _ _ _ _ _ _ _ _ _ _ _ _ _ _ _ _ _ _ _ _ _ _ _ _ _ _ _ _ _ _ _ (by assumption) (by assumption)
   case rest=>
    have HPW:=Qaz hcut;have ht0:(stepW P M).t0=P.t0:=by unfold stepW;split<;>rfl
    have ht1:(stepW P M).t1=P.t1:=by unfold stepW;split<;>rfl
    have HL2:Hid (((stepW P M).row 2).length≤1001):=Qaz (by
     have h:=HLN.out 2;unfold stepW
     split
     ·have h1:=zlv ((P.setRow 0 M).setRow 0 []) 2 2 (zau zal);have e:((P.setRow 0 M).setRow 0 []).row 2=P.row 2:=rfl;rw[e]at h1;omega
     ·have e:(P.setRow 0 M).row 2=P.row 2:=rfl;rw[e];omega)
    clear hcut;generalize hP2:stepW P M=P2 at HPW ht0 ht1 HL2;have HP2:=Qaz hP2;clear hP2
    go_upto_block 0 with fail
    go_cut [6] (fun s6 wx=>PcAt hp M1 AH cH l pb W1 (zhd P P2) wx∧Own typR 36 5 (pb+1) (fun _=>False) s6 (zcg P) wx)
    case first=>
     exact zw8 hp M1 AH cH l pb W1 P P2 wc hpp hwp ht0 ht1 HL2 HPW _ _ _ _ _ _ _ _ _ _ _ _ _ _ _ _ _ _ _ _ _ _ _ _ _ _ _ _ _ _ _ _ _ _ _ _ _ _ _ _ _ _ _ _ _ _ _ _ _ _ _ _ _ _ _ _ _ _ _ _ _ _ _ _ _ _ _ _ _ _ _ _ _ _ _ _ _ _ _ _ _ _ _ _ _ _ _ _ _ _ _ _ _ _ _ _ _ _ _ _ _ _ _ _ _ _ _ _ _ _ _ _ _ _ _ _ _ _ _ _ _ _ _ _ _ _ _ _ _ _ _ _ _ _ (by assumption) (by assumption)
    case rest=>
     obtain⟨Wd,hWd⟩:∃X,X=wc:=⟨_,rfl⟩;subst hWd;obtain⟨hpc3,hout3⟩:=hcut;have HPC3:=Qaz hpc3;have HOU3:=Qaz hout3;clear hpc3 hout3 HPW ht0 ht1;have HK2:Hid ((zhd P P2).row 2=zcv P M∧(zhd P P2).row 1=P.row 1∧(zhd P P2).row 0=(if za7 M=true then[]else M)):=Qaz (by
      have e:=HP2.out;unfold stepW at e;unfold zhd zcv;by_cases hw:za7 M=true
      ·rw[if_pos hw]at e;subst e;rw[if_pos hw,if_pos hw]
       split
       ·exact⟨rfl,rfl,rfl⟩
       ·exact⟨(List.append_nil _).symm,rfl,rfl⟩
      ·rw[if_neg hw]at e;subst e;rw[if_neg hw,if_neg hw]
       split
       ·exact⟨by rw[List.append_nil];rfl,rfl,rfl⟩
       ·exact⟨by rw[List.append_nil,List.append_nil];rfl,rfl,rfl⟩)
     have HLF:Hid (∀x∈zcv P M,x.args=[]):=Qaz (fun x hx=>by
      unfold zcv at hx;rcases List.mem_append.1 hx with q|q
      ·rcases List.mem_append.1 q with q|q
       ·exact HOK.out.r2 x q
       ·split at q
        ·simp only[List.mem_singleton]at q;rw[q];rfl
        ·cases q
      ·split at q
       ·simp only[List.mem_singleton]at q;rw[q];rfl
       ·cases q)
     have HLK:Hid ((zcv P M).length≤1002):=Qaz (by
      have h:=HLN.out 2;unfold zcv;rw[List.length_append,List.length_append];have h1:(if za7 M=true then[zau zal]else[]).length≤1:=by split<;>simp
      have h2:(if P.t0=true∧P.t1=true then[zau zan]else[]).length≤1:=by split<;>simp
      omega)
     generalize zhd P P2=P3 at HPC3 HK2;obtain⟨r7,hp7,ho7⟩:=HPC3.out.ex;obtain⟨A7,c7,d7,e7,m7,k7⟩:=(hp7.row 2).leafRow (by rw[HK2.out.1];exact HLF.out);have l7:(P3.row 2).length=d7.length:=by rw[←m7,List.length_map]
     have q7:Wd.cell? ⟨pb,3,none⟩=some (.slice A7 d7.length c7):=by
      have:=(hp7.cel 3 _ rfl).1;have e7':r7.v P3 2=.slice A7 (P3.row 2).length c7:=e7;rw[e7',l7]at this;exact this
     have HC3:Hid (Calls Tryz.prog 101 #[.slice A7 d7.length c7,.func (.func 146) #[] #[]] Wd fun e w'=>e=.returned (.bool (zny (P3.row 2) zaw))∧Below Wd.heap.size Wd w'):=Qaz (by
      have:=zdm 146 #[] (enters Tryz.func146 (by kernel_rfl) rfl) A7 c7 d7 (fun t=>decide (t.name=zaw)) (fun X=>Below Wd.heap.size Wd X) Wd (Below.refl _ _) (fun wr hI=>zb6 k7 hI) (by have h1:=HLK.out;rw[←HK2.out.1]at h1;omega) (fun x _ wr hI=>(zpq x.k x.s x.lo x.hi x.A x.c wr).mono fun e w' ⟨h1,h2⟩=>⟨h1,zae hI h2⟩);rw[m7]at this;exact this)
     obtain⟨q2,f2⟩:=hp7.cel 2 _ rfl;have hltp:pb<Wd.heap.size:=hp7.lt;have HP7:=Qaz (And.intro hp7 ho7);clear e7 m7 k7 l7 hp7 ho7
     go_upto_region 17 with fail
     go_cut [110] (fun s110 wx=>s110=.bool (zny (P3.row 2) zaw)∧Below Wd.heap.size Wd wx)
     case first=>
      go_wp2_with (go_at_call 101;refine HC3.out.mono ?_;rintro e V2 ⟨rfl,hb2⟩)
      go_meet
      exact⟨rfl,hb2⟩
     case rest=>
     obtain⟨rfl,hb8⟩:=hcut;have HB8:=Qaz hb8;have q8:=zaa q2 hb8;have HP8:Hid (PartsAt pb hp P3 r7 wc):=Qaz (HP7.out.1.all hb8);obtain⟨q8,f8⟩:=HP8.out.cel 2 _ rfl;clear hb8 q2 f2 q7 HC3
     go_upto_if 110 with fail
     go_cut [] (fun wx=>PcAt hp M1 AH cH l pb W1 (stepM P3) wx∧Own typR 36 5 (pb+1) (fun _=>False) u6 (zcg P) wx)
     case first=>
      cases hnc:zny (P3.row 2) zaw with
      |false=>
       have HSM:Hid (stepM P3=P3):=Qaz (by unfold stepM;rw[if_neg (by rw[hnc];decide)]);clear hnc;go_wp2_with fail
       go_meet
       exact⟨by rw[HSM.out];exact HPC3.out.all HB8.out,HOU3.out.all HB8.out⟩
      |true=>
       have HSM:Hid (stepM P3=P3.setRow 1 []):=Qaz (by unfold stepM;rw[if_pos hnc]);clear hnc;have S8:=HP8.out.setRow (fun _=>False) 1 2 rfl (Chg.refl _ _) (M:=[]) (A:=none) (c:=0) (Own.nil _ _ _ _ _ _)
       have HF8:Hid (PcAt hp M1 AH cH l pb W1 (stepM P3) (wc.setCell ⟨pb,2,none⟩ (.slice none 0 0))∧Own typR 36 5 (pb+1) (fun _=>False) u6 (zcg P) (wc.setCell ⟨pb,2,none⟩ (.slice none 0 0))):=Qaz ⟨by rw[HSM.out];exact(HPC3.out.all HB8.out).via hpp hwp HP8.out HP7.out.2 S8,(HOU3.out.all HB8.out).setCell (p:=⟨pb,2,none⟩) (fun _ hb=>hb.elim) (fun e=>by have:=(HOU3.out.lt _ e).1;have:pb+1≤pb:=this;omega) _⟩;clear S8;go_wp2_with fail
       go_meet
       exact HF8.out
     case rest=>
     obtain⟨We,hWe⟩:∃X,X=wc:=⟨_,rfl⟩;subst hWe;have HPCF:=Qaz hcut.1;have HOUF:=Qaz hcut.2;clear hcut q8 f8 HOU3 HPC3;have HPF:Hid ((stepM P3).row 0=P3.row 0∧(stepM P3).row 2=P3.row 2∧(stepM P3).row 1=(if zny (P3.row 2) zaw=true then[]else P3.row 1)):=Qaz (by
      unfold stepM
      split
      ·exact⟨rfl,rfl,rfl⟩
      ·exact⟨rfl,rfl,rfl⟩)
     generalize stepM P3=PF at HPCF HPF;obtain⟨rF,hpF,hoF⟩:=HPCF.out.ex;have LI:(PF.row 0).length≤1000:=by rw[HPF.out.1,HK2.out.2.2];have:=HM6.out;split<;>simp<;>omega
     have LM:(PF.row 1).length≤1000:=by rw[HPF.out.2.2,HK2.out.2.1];have:=HLN.out 1;split<;>simp<;>omega
     have LK:(PF.row 2).length≤1002:=by rw[HPF.out.2.1,HK2.out.1];exact HLK.out
     have LT:(zcg P).length≤1:=by unfold zcg;split;simp;split;simp;split<;>simp
     have hgap:Gap M:=HGP.out.1;obtain⟨Ai,ci,di,ei,mi,ki⟩:=(hpF.row 0).leafRow (by
      rw[HPF.out.1,HK2.out.2.2];intro x hx
      split at hx
      ·cases hx
      ·exact zg5 (hgap.rng x hx))
     obtain⟨Am,cm,dm,em,mm,km⟩:=(hpF.row 1).leafRow (by
      rw[HPF.out.2.2,HK2.out.2.1];intro x hx
      split at hx
      ·cases hx
      ·exact HOK.out.r1 x hx)
     obtain⟨Ak,ck,dk,ek,mk,kk⟩:=(hpF.row 2).leafRow (by rw[HPF.out.2.1,HK2.out.1];exact HLF.out);obtain⟨Ao,co,dO,eo,mo,ko⟩:=HOUF.out.leafRow (by
      intro x hx;unfold zcg at hx
      split at hx
      ·cases hx
      ·split at hx
       ·simp only[List.mem_singleton]at hx;rw[hx];rfl
       ·split at hx
        ·simp only[List.mem_singleton]at hx;rw[hx];rfl
        ·cases hx)
     have li:(PF.row 0).length=di.length:=by rw[←mi,List.length_map]
     have lm:(PF.row 1).length=dm.length:=by rw[←mm,List.length_map]
     have lk:(PF.row 2).length=dk.length:=by rw[←mk,List.length_map]
     have lo:(zcg P).length=dO.length:=by rw[←mo,List.length_map]
     have i1:We.cell? ⟨pb,1,none⟩=some (.slice Ai di.length ci):=by
      have:=(hpF.cel 1 _ rfl).1;have e:rF.v PF 0=.slice Ai (PF.row 0).length ci:=ei;rw[e,li]at this;exact this
     have i2:We.cell? ⟨pb,2,none⟩=some (.slice Am dm.length cm):=by
      have:=(hpF.cel 2 _ rfl).1;have e:rF.v PF 1=.slice Am (PF.row 1).length cm:=em;rw[e,lm]at this;exact this
     have i3:We.cell? ⟨pb,3,none⟩=some (.slice Ak dk.length ck):=by
      have:=(hpF.cel 3 _ rfl).1;have e:rF.v PF 2=.slice Ak (PF.row 2).length ck:=ek;rw[e,lk]at this;exact this
     rw[lo]at eo;subst eo;have hAe:Held (fun b=>b<M1) (CIs AH l) We:=(HA.out.keep (Keep.all HB1.out)).keep (HPCF.out.ch.keep fun b hb m=>by have hb:b<M1:=hb;simp only[zce]at m;omega);have hbx:=HX0.out We HPCF.out.ch
     have HTP:∀(A:Option Addr)(c:Nat)(d:List Leaf),Slc zfk 5 A d We→d.length≤1002→∀X,Below We.heap.size We X→Calls Tryz.prog 148 #[.slice A d.length c,.func (.func 145) #[] #[.pointer (some ⟨w.heap.size,0,none⟩)]] X fun e X'=>∃A' c' d',e=.returned (.slice A' d'.length c')∧((∀x,x∈d'.map Leaf.ty↔x∈zp4 l (d.map Leaf.ty))∧d'.length≤d.length)∧Slc zfk 5 A' d' X'∧Below X.heap.size X X':=fun A c d hd hl X hX=>by
      refine(zyv hp M1 AH cH l ol w.heap.size A c d X _ (HPCF.out.H.keep hX) (hAe.keep (Keep.all hX)) (zaa hbx hX) (zb6 hd hX) (by omega)).mono ?_;rintro e X' ⟨v',L',rfl,hm,hown,hb⟩;obtain⟨A',c',d',e',m',k'⟩:=hown.leafRow (fun x hx=>by
       have h1:=(hm.1 x).1 hx;obtain⟨y,_,rfl⟩:=List.mem_map.1 (List.mem_filter.1 h1).1
       rfl)
      subst m';rw[List.length_map]at e' hm;exact⟨A',c',d',by rw[e'],hm,k',hb⟩
     have HT1:=Qaz (HTP Am cm dm km (by omega));have HT2:=Qaz (HTP Ak ck dk kk (by omega));have HCC:Hid (∀X,Below We.heap.size We X→∀(A1:Option Addr)(c1:Nat)(d1:List Leaf)(A2:Option Addr)(c2:Nat)(d2:List Leaf),((∀x,x∈d1.map Leaf.ty↔x∈zp4 l (dm.map Leaf.ty))∧d1.length≤dm.length)→((∀x,x∈d2.map Leaf.ty↔x∈zp4 l (dk.map Leaf.ty))∧d2.length≤dk.length)→Slc zfk 5 A1 d1 X→Slc zfk 5 A2 d2 X→
       Calls Tryz.prog 147 #[.slice (some ⟨X.heap.size,0,none⟩) 4 4] (X.alloc (.cells #[.slice Ao dO.length co,.slice Ai di.length ci,.slice A1 d1.length c1,.slice A2 d2.length c2] 34)) fun e X'=>∃v L,e=.returned v∧IsPieces l P L∧(∀x∈L,x.args=[])∧L.length≤4000∧Own typR 36 5 w.heap.size (fun _=>False) v L X'∧Asked1 hp M1 AH cH l (zce M1) w X'∧Below We.heap.size We X'):=Qaz (fun X hX A1 c1 d1 A2 c2 d2 hm1 hm2 hk1 hk2=>by
      have bX:Below X.heap.size X (X.alloc (.cells #[.slice Ao dO.length co,.slice Ai di.length ci,.slice A1 d1.length c1,.slice A2 d2.length c2] 34)):=(Below.refl _ X).alloc (Qiz _) _;have bX2:=zae hX bX;have hls:zee [((Ao,co,dO):Rw),(Ai,ci,di),(A1,c1,d1),(A2,c2,d2)]=dO.length+(di.length+(d1.length+(d2.length+0))):=rfl;have hle:=hm1.2;have hle2:=hm2.2;refine(zq2 X.heap.size 4 [((Ao,co,dO):Rw),(Ai,ci,di),(A1,c1,d1),(A2,c2,d2)] _ (fun i r hr=> ?_) (fun r hr=> ?_) (by simp) (by rw[hls];omega)).mono ?_
      ·match i,hr with
       |0,hr=>cases hr;exact zac X _ _ _ rfl 0 _ rfl
       |1,hr=>cases hr;exact zac X _ _ _ rfl 1 _ rfl
       |2,hr=>cases hr;exact zac X _ _ _ rfl 2 _ rfl
       |3,hr=>cases hr;exact zac X _ _ _ rfl 3 _ rfl
      ·simp only[List.mem_cons,List.mem_nil_iff,or_false]at hr;rcases hr with rfl|rfl|rfl|rfl
       ·exact zb6 ko bX2
       ·exact zb6 ki bX2
       ·exact zb6 hk1 bX
       ·exact zb6 hk2 bX
      ·rintro e X' ⟨v,rfl,hown,hb⟩;have hfull:=zae bX2 hb;refine⟨v,_,rfl,?_,zmg _,by rw[znq,hls];omega,hown.lower ?_,⟨HPCF.out.H.keep hfull,((Chg.of HB1.out).trans HPCF.out.ch).trans (Chg.of hfull)⟩,hfull⟩
       ·unfold IsPieces;rw[if_neg (by rw[HOB.out];decide)];refine⟨M,HGP.out.1,HGP.out.2.1,fun x=> ?_⟩;show x∈dO.map Leaf.ty++(di.map Leaf.ty++(d1.map Leaf.ty++(d2.map Leaf.ty++[])))↔_;rw[List.append_nil,List.mem_append,List.mem_append,List.mem_append,hm1.1,hm2.1,mo,mi,mm,mk,HPF.out.1,HPF.out.2.1,HPF.out.2.2,HK2.out.1,HK2.out.2.1,HK2.out.2.2];have e1:(x∈if za7 M=true then[]else M)↔(x∈M∧za7 M=false):=by
         cases hw:za7 M<;>simp
        have e2:(x∈zp4 l (if zny (zcv P M) zaw=true then[]else P.row 1))↔(x∈zp4 l (P.row 1)∧zny (zcv P M) zaw=false):=by
         cases hw:zny (zcv P M) zaw<;>simp[zp4]
        rw[e1,e2]
       ·have h1:=HB1.out.size;have h2:=HPCF.out.ch.size;have h3:=bX2.size;omega)
     clear hpF hoF LI LM LK LT hgap ei mi ki em mm km ek mk kk mo ko li lm lk lo hAe hbx HTP
     go_upto_region 19 with fail
     have bd:Below We.heap.size We We.drew:=(Below.refl _ We).drew;have HI3:=Qaz (And.intro i1 (And.intro i2 i3));have HXX:Hid (∀X,Below We.heap.size We X→X.cell? ⟨pb,1,none⟩=some (.slice Ai di.length ci)∧X.cell? ⟨pb,2,none⟩=some (.slice Am dm.length cm)∧X.cell? ⟨pb,3,none⟩=some (.slice Ak dk.length ck)):=Qaz (fun X h=>⟨zaa i1 h,zaa i2 h,zaa i3 h⟩)
     go_region_held3 (fun X=>(X.cell? ⟨pb,1,none⟩=some (.slice Ai di.length ci)∧X.cell? ⟨pb,2,none⟩=some (.slice Am dm.length cm)∧X.cell? ⟨pb,3,none⟩=some (.slice Ak dk.length ck)))
      (first|exact⟨i1,i2,i3⟩|exact⟨j1,j2,j3⟩|exact HXX.out _ hX9|exact HXX.out _ (by first|exact hX1.alloc hX1.size _|exact hX2.alloc hX2.size _))
      ((first
       |(go_at_call 148;refine(HT2.out _ hX1).mono ?_;rintro e X2 ⟨A2,c2,d2,rfl,hm2,hk2,hb2⟩;have hX2:Below We.heap.size We X2:=zae hX1 hb2;obtain⟨j1,j2,j3⟩:=HXX.out X2 hX2)
       |(go_at_call 148;refine(HT1.out _ bd).mono ?_;rintro e X1 ⟨A1,c1,d1,rfl,hm1,hk1,hb1⟩;have hX1:Below We.heap.size We X1:=zae bd hb1;obtain⟨j1,j2,j3⟩:=HXX.out X1 hX1)
       |(go_at_call 147;refine(HCC.out X2 hX2 A1 c1 d1 A2 c2 d2 hm1 hm2 (zb6 hk1 hb2) hk2).mono ?_;rintro e X9 ⟨v,L,rfl,p1,p2,p3,p4,p5,hX9⟩)))
     all_goals
      go_wp2;go_ret;exact⟨_,L,rfl,p1,p2,p3,p4,p5⟩
theorem zvl(hp M1:Nat)(AH:Option Addr)(cH:Nat)(l:List CI)(mb:Nat)(A:Option Addr)(n c:Nat)(Y:List Ty)(b1 b2 b3:Nat)(x:Ty)(Ax:Option Addr)(cx:Nat)(w:World)
  (h1:w.cell? ⟨b1,0,none⟩=some (.pointer (some ⟨hp,0,none⟩))) (h2:w.cell? ⟨b2,0,none⟩=some (.slice A n c)) (h3:w.cell? ⟨b3,0,none⟩=some (.map (some mb)))
  (ih:∀V,Below w.heap.size w V→Calls Tryz.prog 103 #[.pointer (some ⟨hp,0,none⟩),zgf x Ax cx,.slice A n c,.map (some mb)] V fun e w'=>e=.returned (.bool (zc0 l Y x))∧Cov1 hp M1 AH cH l mb Y w w'):
  Calls Tryz.prog 102 #[zgf x Ax cx,.pointer (some ⟨b1,0,none⟩),.pointer (some ⟨b2,0,none⟩),.pointer (some ⟨b3,0,none⟩)] w fun e w'=>e=.returned (.bool (!zc0 l Y x))∧Cov1 hp M1 AH cH l mb Y w w':=by
 have bw:Below w.heap.size w (w.alloc (.cells #[.int .i64 x.kind,.string x.name,.int .i64 x.lo,.int .i64 x.hi,.slice Ax 0 cx] 36)):=(Below.refl _ w).alloc (Qiz _) _;have HI:=Qaz (ih _ bw);have l1:b1<w.heap.size:=cell_lt h1;have l2:b2<w.heap.size:=cell_lt h2;have l3:b3<w.heap.size:=cell_lt h3;clear ih bw;generalize zc0 l Y x=v at HI;go_enter Tryz.func102,Tryz.ntmps102;go_wp2_with (go_at_call 103;refine HI.out.mono ?_;rintro e U ⟨rfl,hq⟩);have HQ:=Qaz hq;clear hq;cases v
 all_goals
  go_wp2;go_ret;exact⟨rfl,HQ.out⟩
theorem zx0(hp M1:Nat)(AH:Option Addr)(cH:Nat)(l:List CI)(hL:zai l)(ol:∀x∈l,zdo x)(a b:Ty)(Aa Ab:Option Addr)(ca cb:Nat)(w:World)(H:HierAt hp M1 AH cH l l.length w)(hA:Held (fun b=>b<M1) (CIs AH l) w)
  (hTa:Held (fun b=>b<M1) (Typs Aa a.args) w) (hca:a.args.length≤ca) (hfa:zam l a=true) (hba:a.all zhs=true) (hsa:a.count≤1000) (hTb:Held (fun b=>b<M1) (Typs Ab b.args) w) (hcb:b.args.length≤cb) (hfb:zam l b=true) (hbb:b.all zhs=true) (hsb:b.count≤1000):
  Calls Tryz.prog 66 #[.pointer (some ⟨hp,0,none⟩),tyV a Aa ca,tyV b Ab cb] w fun e w'=>∃La Lb,IsPieces l (addT l a zbk) La∧IsPieces l (addT l b zbk) Lb∧e=.returned (.bool (zwf l La Lb))∧Asked1 hp M1 AH cH l (zce M1) w w':=by
 have hmf:∀(fn:Fn)(first cap:Array Value)(w:World),(Instr.makeFunc fn first cap).run Tryz.prog w=.ok (.func fn first cap) w:=fun _ _ _ _=>rfl;have hpe:=H.hpe;have hhw:hp<w.heap.size:=cell_lt H.c0;obtain⟨W1,hW1⟩:∃W1,W1=((w.alloc (.cells #[.pointer (some ⟨hp,0,none⟩)] 98)).alloc (.cells #[.int .i64 a.kind,.string a.name,.int .i64 a.lo,.int .i64 a.hi,.slice Aa a.args.length ca] 36)).alloc (.cells #[.int .i64 b.kind,.string b.name,.int .i64 b.lo,.int .i64 b.hi,.slice Ab b.args.length cb] 36):=⟨_,rfl⟩
 have b1:Below w.heap.size w W1:=by rw[hW1];exact(((Below.refl _ w).alloc (Qiz _) _).alloc (by simp) _).alloc (by simp;omega) _
 have s1:W1.heap.size=w.heap.size+3:=by rw[hW1];simp
 have x0:W1.cell? ⟨w.heap.size,0,none⟩=some (.pointer (some ⟨hp,0,none⟩)):=by rw[hW1];exact zat (zat (zac w _ _ _ rfl 0 _ rfl))
 have ha1:Cel (w.heap.size+1) [.int .i64 a.kind,.string a.name,.int .i64 a.lo,.int .i64 a.hi,.slice Aa a.args.length ca] W1:=by
  rw[hW1];exact(Cel.new (w.alloc _) _ _ _ (by simp)).all ((Below.refl _ _).alloc (Qiz _) _)
 have hb1:Cel (w.heap.size+2) [.int .i64 b.kind,.string b.name,.int .i64 b.lo,.int .i64 b.hi,.slice Ab b.args.length cb] W1:=by
  rw[hW1];exact Cel.new ((w.alloc _).alloc _) _ _ _ (by simp)
 have low:∀{R:World→Prop}{V:World},Chg (zce M1) W1 V→Held (fun b=>b<M1) R w→Held (fun b=>b<M1) R V:=fun k h=>(h.keep (Keep.all b1)).keep (k.keep fun b hb m=>by have hb:b<M1:=hb;simp only[zce]at m;omega);have celK:∀{V:World},Chg (zce M1) W1 V→∀j o v,W1.cell? ⟨w.heap.size+j,o,none⟩=some v→V.cell? ⟨w.heap.size+j,o,none⟩=some v:=fun k j o v h=>zah h (k.keep (G:=fun b=>b=w.heap.size+j) fun b e m=>by simp only[zce]at m;have e:b=w.heap.size+j:=e;omega) rfl;have HPB:=Qaz (zi9 hp M1 AH cH l hL ol b Ab cb W1 (H.keep b1) (hA.keep (Keep.all b1)) (hTb.keep (Keep.all b1)) hcb hfb hbb hsb)
 have HPA:Hid (∀V,HierAt hp M1 AH cH l l.length V→Chg (zce M1) W1 V→Calls Tryz.prog 100 #[.pointer (some ⟨hp,0,none⟩),tyV a Aa ca] V fun e w'=>∃v L,e=.returned v∧IsPieces l (addT l a zbk) L∧(∀x∈L,x.args=[])∧L.length≤4000∧Own typR 36 5 V.heap.size (fun _=>False) v L w'∧Asked1 hp M1 AH cH l (zce M1) V w'):=Qaz (fun V hH k=>zi9 hp M1 AH cH l hL ol a Aa ca V hH (low k hA) (low k hTa) hca hfa hba hsa);have HLO:Hid (∀V,Chg (zce M1) W1 V→Held (fun b=>b<M1) (CIs AH l) V):=Qaz (fun V k=>low k hA)
 have HCK:Hid (∀V,Chg (zce M1) W1 V→V.cell? ⟨w.heap.size,0,none⟩=some (.pointer (some ⟨hp,0,none⟩))∧(V.cell? ⟨w.heap.size+1,0,none⟩=some (.int .i64 a.kind)∧V.cell? ⟨w.heap.size+1,1,none⟩=some (.string a.name)∧V.cell? ⟨w.heap.size+1,2,none⟩=some (.int .i64 a.lo)∧V.cell? ⟨w.heap.size+1,3,none⟩=some (.int .i64 a.hi)∧V.cell? ⟨w.heap.size+1,4,none⟩=some (.slice Aa a.args.length ca))):=Qaz (fun V k=>⟨celK k 0 _ _ x0,celK k 1 _ _ (ha1 0 _ rfl).1,celK k 1 _ _ (ha1 1 _ rfl).1,celK k 1 _ _ (ha1 2 _ rfl).1,celK k 1 _ _ (ha1 3 _ rfl).1,celK k 1 _ _ (ha1 4 _ rfl).1⟩);obtain⟨y0,_⟩:=hb1 0 _ rfl
 obtain⟨y1,_⟩:=hb1 1 _ rfl;obtain⟨y2,_⟩:=hb1 2 _ rfl;obtain⟨y3,_⟩:=hb1 3 _ rfl;obtain⟨y4,_⟩:=hb1 4 _ rfl;have HB1:=Qaz b1;have HPE:=Qaz hpe;have HHW:=Qaz hhw;have HS1:=Qaz s1;clear H hA hTa hTb hca hcb hfa hfb hba hbb hsa hsb ha1 hb1 low celK hpe hhw b1 s1;go_enter Tryz.func66,Tryz.ntmps66;go_wp2_with (fail);rw[←hW1];clear hW1;go_wp2_with (fail);refine HPB.out.mono ?_;clear HPB;rintro e V1 ⟨v1,Lb,rfl,hib,hlb,hnb,hob,hq1⟩;obtain⟨A1,c1,d1,e1,m1,k1⟩:=hob.leafRow hlb;subst m1;rw[List.length_map]at e1 hnb
 have HBL:Hid (∀b off,A1=some ⟨b,off,none⟩→W1.heap.size≤b∧b<V1.heap.size):=Qaz (fun b off q=>hob.lt b (by rw[e1,q];rfl));subst e1;obtain⟨V2,hV2⟩:∃V2,V2=V1.alloc (.cells #[.slice A1 d1.length c1] 34):=⟨_,rfl⟩;have b12:Below V1.heap.size V1 V2:=by rw[hV2];exact(Below.refl _ V1).alloc (Qiz _) _
 have s2:V2.heap.size=V1.heap.size+1:=by rw[hV2];simp
 obtain⟨mb,hmb⟩:∃mb,mb=V2.heap.size:=⟨_,rfl⟩;obtain⟨V3,hV3⟩:∃V3,V3=V2.alloc (.map #[] 0):=⟨_,rfl⟩;have hmk:(Instr.makeMap 134 none).run Tryz.prog V2=.ok (.map (some mb)) V3:=by rw[hmb,hV3];rfl
 have b23:Below V2.heap.size V2 V3:=by rw[hV3];exact(Below.refl _ V2).alloc (Qiz _) _
 have hM0:MapF zbn mb (fun _=>none) V3:=by rw[hmb,hV3];exact MapF.made zbn V2 _ rfl
 have s3:V3.heap.size=V1.heap.size+2:=by rw[hV3];simp[s2]
 obtain⟨V4,hV4⟩:∃V4,V4=V3.alloc (.cells #[.map (some mb)] 134):=⟨_,rfl⟩;have b34:Below V3.heap.size V3 V4:=by rw[hV4];exact(Below.refl _ V3).alloc (Qiz _) _
 have b14:Below V1.heap.size V1 V4:=zae (zae b12 b23) b34;have s4:V4.heap.size=V1.heap.size+3:=by rw[hV4];simp[s3]
 have u1:V4.cell? ⟨V1.heap.size,0,none⟩=some (.slice A1 d1.length c1):=zaa (by rw[hV2];exact zac V1 _ _ _ rfl 0 _ rfl) (zae b23 b34);have u2:V4.cell? ⟨V1.heap.size+2,0,none⟩=some (.map (some mb)):=by rw[hV4,←s3];exact zac V3 _ _ _ rfl 0 _ rfl
 have hch4:Chg (zce M1) W1 V4:=hq1.ch.trans (Chg.of b14);have HH4:=Qaz (hq1.H.keep b14);have HCH4:=Qaz hch4;have HM4:Hid (MapF zbn mb (fun _=>none) V4):=Qaz (hM0.keep (Keep.all b34 (G:=fun _=>True)) trivial);obtain⟨z0,z10,z11,z12,z13,z14⟩:=HCK.out V4 hch4;have HP4:=Qaz (HPA.out V4 HH4.out hch4);have HMB:Hid (mb=V1.heap.size+1):=Qaz (by omega);have HV1:Hid (w.heap.size+3≤V1.heap.size):=Qaz (by have:=hq1.ch.size;have:=HS1.out;omega);have HU:Hid (V4.cell? ⟨V1.heap.size,0,none⟩=some (.slice A1 d1.length c1)∧V4.cell? ⟨V1.heap.size+2,0,none⟩=some (.map (some mb))):=Qaz ⟨u1,u2⟩
 have HK4:Hid (Slc zfk 5 A1 d1 V4):=Qaz (zb6 k1 b14);have HS4:=Qaz s4;have HIB:=Qaz hib;clear hob hlb hq1 k1 hM0 b12 b23 b34 b14 s4 u1 u2 hch4 HPA hib y0 y1 y2 y3 y4;have hV4':=hV4.symm;have hV2':=hV2.symm;clear hV2 hV3 hV4 hmb s2;go_wp2_with (fail);refine HP4.out.mono ?_;clear HP4;rintro e V5 ⟨v5,La,rfl,hia,hla,hna,hoa,hq5⟩;obtain⟨A5,c5,d5,e5,m5,k5⟩:=hoa.leafRow hla;subst m5;rw[List.length_map]at e5 hna;have hmbV:mb<V4.heap.size:=by have:=HMB.out;have:=HS4.out;omega
 have HA5:Hid (∀b off,A5=some ⟨b,off,none⟩→¬ztr M1 mb b):=Qaz (fun b off q m=>by
  have h1:=(hoa.lt b (by rw[e5,q];rfl)).1;have:=HHW.out;have:=HPE.out;have:=HV1.out;have:=HS4.out
  rcases m with m|m
  ·simp only[zce]at m;omega
  ·omega)
 subst e5;have hn:∀j,j<3→j≠1→¬ztr M1 mb (V1.heap.size+j):=fun j hj hj1 m=>by
  have:=HHW.out;have:=HPE.out;have:=HV1.out;have:=HMB.out
  rcases m with m|m
  ·simp only[zce]at m;omega
  ·omega
 have hn0:¬ztr M1 mb w.heap.size:=fun m=>by
  have:=HHW.out;have:=HPE.out;have:=HV1.out;have:=HMB.out
  rcases m with m|m
  ·simp only[zce]at m;omega
  ·omega
 have nm:∀{b:Nat},¬ztr M1 mb b→¬zce M1 b:=fun h m=>h (.inl m);have cK:∀{b o:Nat}{v:Value},¬zce M1 b→V4.cell? ⟨b,o,none⟩=some v→V5.cell? ⟨b,o,none⟩=some v:=fun{b o v} h q=>zah q (hq5.ch.keep (G:=fun x=>x=b) fun x e m=>h (by have e:x=b:=e;rw[←e];exact m)) rfl;have a0:=cK (nm hn0) z0;have a1:=cK (b:=V1.heap.size) (nm (hn 0 (by decide) (by decide))) HU.out.1;have a2:=cK (nm (hn 2 (by decide) (by decide))) HU.out.2;have hmm:M1≤mb:=by have:=HHW.out;have:=HPE.out;have:=HV1.out;have:=HMB.out;omega
 have hmh:hp<mb:=by have:=HHW.out;have:=HV1.out;have:=HMB.out;omega
 have HC5:Cov1 hp M1 AH cH l mb (d1.map Leaf.ty) V5 V5:=⟨hq5.H,⟨fun _=>none,HM4.out.keep (hq5.ch.keep (G:=fun x=>x=mb) fun x e m=>by
  have:=HHW.out;have:=HPE.out;have:=HV1.out;have:=HMB.out
  have e:x=mb:=e;simp only[zce]at m;omega) rfl,fun s v h=>by cases h⟩,Chg.refl _ _⟩
 have hA5:=HLO.out V5 (HCH4.out.trans hq5.ch);have hAb:∀b off,A1=some ⟨b,off,none⟩→¬ztr M1 mb b:=fun b off q m=>by
  have h1:=HBL.out b off q;have:=HHW.out;have:=HPE.out;have:=HS1.out;have:=HMB.out
  rcases m with m|m
  ·simp only[zce]at m;omega
  ·omega
 have hk5:Slc zfk 5 A1 d1 V5:=zik HK4.out hAb (hq5.ch.mono fun b _ m=>.inl m);have HCF:Hid (Calls Tryz.prog 101 #[.slice A5 d5.length c5,.func (.func 102) #[] #[.pointer (some ⟨w.heap.size,0,none⟩),.pointer (some ⟨V1.heap.size,0,none⟩),.pointer (some ⟨V1.heap.size+2,0,none⟩)]] V5 fun e w'=>e=.returned (.bool ((d5.map Leaf.ty).any fun x=> !zc0 l (d1.map Leaf.ty) x))∧Cov1 hp M1 AH cH l mb (d1.map Leaf.ty) V5 w'):=Qaz (by
  refine zdm 102 _ (enters Tryz.func102 (by kernel_rfl) rfl) A5 c5 d5 (fun x=> !zc0 l (d1.map Leaf.ty) x) (fun X=>Cov1 hp M1 AH cH l mb (d1.map Leaf.ty) V5 X) V5 HC5 (fun wr hI=>zik k5 HA5.out hI.ch) (by omega) (fun x _ wr hI=> ?_);refine(zvl hp M1 AH cH l mb A1 d1.length c1 (d1.map Leaf.ty) w.heap.size V1.heap.size (V1.heap.size+2) x.ty x.A x.c wr (hI.cellB a0 hn0) (hI.cellB a1 (hn 0 (by decide) (by decide))) (hI.cellB a2 (hn 2 (by decide) (by decide))) (fun V hV=> ?_)).mono ?_
  ·have hIV:=hI.step hV;refine(zoi hp M1 AH cH l hL ol mb hmh A1 c1 d1 (by omega) hAb _ x.ty (Nat.lt_succ_self _) x.A x.c V hIV.refl (hIV.low hmm hA5) (zik hk5 hAb hIV.ch)).mono ?_;rintro e w' ⟨rfl,hq⟩;exact⟨rfl,(hI.refl.step hV).trans hq⟩
  ·rintro e w' ⟨rfl,hq⟩;exact⟨rfl,hI.trans hq⟩)
 have HFA:Hid (∀X,Cov1 hp M1 AH cH l mb (d1.map Leaf.ty) V5 X→Asked1 hp M1 AH cH l (zce M1) w X):=Qaz (fun X h=>⟨h.H,(((Chg.of HB1.out).trans (HCH4.out.trans hq5.ch)).trans3 h.ch fun b m=>by
  have:=HMB.out;have:=HV1.out
  rcases m with m|m
  ·exact .inl m
  ·exact .inr (by omega))⟩)
 have HIA:=Qaz hia;have HSB:Hid (zwf l (d5.map Leaf.ty) (d1.map Leaf.ty)= !((d5.map Leaf.ty).any fun x=> !zc0 l (d1.map Leaf.ty) x)):=Qaz (by
  unfold zwf;rw[List.not_any_eq_all_not];simp)
 clear hia hla hna hoa hq5 k5 hmbV hn hn0 nm cK hmm hmh HC5 hA5 hAb hk5 z0 z10 z11 z12 z13 z14 hV4' hV2';generalize((d5.map Leaf.ty).any fun x=> !zc0 l (d1.map Leaf.ty) x)=an at HCF HSB;go_wp2_with (fail);refine HCF.out.mono ?_;clear HCF;rintro e X ⟨rfl,hX⟩;have HX:=Qaz (HFA.out X hX);clear hX;cases an
 all_goals
  go_wp2;go_ret;exact⟨_,_,HIA.out,HIB.out,by rw[HSB.out];try rfl,HX.out⟩
def zi0(l:List CI)(a b:Ty):Prop:=zai l∧zaj l a=0∧zaj l b=0
def zjb(A:Option Addr)(c:Nat)(l:List CI)(a b:Ty)(w:World)(e:Ending)(w':World):Prop:=
 Below w.heap.size w w'∧((¬zi0 l a b∧e=.returned (.pointer none))∨(zi0 l a b∧∃hp M1,w.heap.size≤hp∧w.heap.size≤M1∧e=.returned (.pointer (some ⟨hp,0,none⟩))∧HierAt hp M1 A c l l.length w'))
theorem zvb(A:Option Addr)(c:Nat)(l:List CI)(a b:Ty)(Aa Ab:Option Addr)(ca cb:Nat)(w:World)(hc:l.length≤c)(GH:Nat→Prop)(h:Held GH (CIs A l) w)(ol:∀x∈l,zdo x)(hl:l.length≤1000000)(G:Nat→Prop)(hTa:Held G (Typs Aa a.args) w)(hca:a.args.length≤ca)(hsa:TySmall a)(hTb:Held G (Typs Ab b.args) w)(hcb:b.args.length≤cb)(hsb:TySmall b):
  Calls Tryz.prog 65 #[.slice A l.length c,tyV a Aa ca,tyV b Ab cb] w (zjb A c l a b w):=by
 obtain⟨W1,hW1⟩:∃W1,W1=(w.alloc (.cells #[.int .i64 a.kind,.string a.name,.int .i64 a.lo,.int .i64 a.hi,.slice Aa a.args.length ca] 36)).alloc (.cells #[.int .i64 b.kind,.string b.name,.int .i64 b.lo,.int .i64 b.hi,.slice Ab b.args.length cb] 36):=⟨_,rfl⟩;have b1:Below w.heap.size w W1:=by rw[hW1];exact((Below.refl _ w).alloc (Qiz _) _).alloc (by simp) _
 have ha1:Cel w.heap.size [.int .i64 a.kind,.string a.name,.int .i64 a.lo,.int .i64 a.hi,.slice Aa a.args.length ca] W1:=by rw[hW1];exact(Cel.new w _ _ _ rfl).all ((Below.refl _ _).alloc (Qiz _) _)
 have hb1:Cel (w.heap.size+1) [.int .i64 b.kind,.string b.name,.int .i64 b.lo,.int .i64 b.hi,.slice Ab b.args.length cb] W1:=by rw[hW1];exact Cel.new (w.alloc _) _ _ _ (by simp)
 have HL:=Qaz (zdh A c l W1 hc GH (h.keep (Keep.all b1)) ol hl);go_enter Tryz.func65,Tryz.ntmps65;go_wp2_with (fail);rw[←hW1];clear hW1;refine HL.out.mono ?_;clear HL;rintro e W2 ⟨hb2,(⟨h1,rfl⟩|⟨h1,hp,M1,g1,g2,rfl,H⟩)⟩
 ·have HF:Hid (zjb A c l a b w (.returned (.pointer none)) W2):=Qaz ⟨zae b1 hb2,.inl ⟨fun q=>h1 q.1,rfl⟩⟩;clear h1 hb2 b1;go_wp2;go_ret;exact HF.out
 have b2:=zae b1 hb2;have hs1:=b1.size;have HP:Hid (w.heap.size≤hp∧w.heap.size≤M1):=Qaz ⟨by omega,by omega⟩;have hha:=ha1.all hb2;have hhb:=hb1.all hb2;obtain⟨x0,_⟩:=hha 0 _ rfl;obtain⟨x1,_⟩:=hha 1 _ rfl;obtain⟨x2,_⟩:=hha 2 _ rfl;obtain⟨x3,_⟩:=hha 3 _ rfl;obtain⟨x4,_⟩:=hha 4 _ rfl;have H1:=Qaz h1;have HVA:=Qaz (zfp hp M1 A c l a Aa ca W2 G H (hTa.keep (Keep.all b2)) hca hsa);have HVB:=Qaz (fun V (hV:Below W2.heap.size W2 V)=>zfp hp M1 A c l b Ab cb V G (H.keep hV) (hTb.keep (Keep.all (zae b2 hV))) hcb hsb);have HHB:=Qaz hhb;have HB2:=Qaz b2;have HHH:=Qaz H
 clear h1 ha1 hb1 hha hhb g1 g2 H h hTa hTb b1 b2 hb2 hs1;go_wp2_with (fail);refine HVA.out.mono ?_;clear HVA;rintro e W3 ⟨rfl,hb3⟩;have hh3:=HHB.out.all hb3;obtain⟨y0,_⟩:=hh3 0 _ rfl;obtain⟨y1,_⟩:=hh3 1 _ rfl;obtain⟨y2,_⟩:=hh3 2 _ rfl;obtain⟨y3,_⟩:=hh3 3 _ rfl;obtain⟨y4,_⟩:=hh3 4 _ rfl;have HB3:=Qaz (zae HB2.out hb3);have HH3:=Qaz (HHH.out.keep hb3);have HVB3:=Qaz (HVB.out W3 hb3);clear hh3 hb3 HVB x0 x1 x2 x3 x4;by_cases hz:zaj l a=0;rotate_left
 ·have u1:(zaj l a != 0)=true:=bne_iff_ne.2 hz;have HF:Hid (zjb A c l a b w (.returned (.pointer none)) W3):=Qaz ⟨HB3.out,.inl ⟨fun q=>hz q.2.1,rfl⟩⟩;clear hz;go_wp2;go_ret;exact HF.out
 have u1:(zaj l a != 0)=false:=bne_eq_false_iff_eq.2 hz;have HZ:=Qaz hz;clear hz;go_wp2_with (fail);refine HVB3.out.mono ?_;clear HVB3;rintro e W4 ⟨rfl,hb4⟩;have HB4:=Qaz (zae HB3.out hb4);have HH4:=Qaz (HH3.out.keep hb4);clear hb4 y0 y1 y2 y3 y4;by_cases hz:zaj l b=0
 ·have u2:(zaj l b != 0)=false:=bne_eq_false_iff_eq.2 hz;have HF:Hid (zjb A c l a b w (.returned (.pointer (some ⟨hp,0,none⟩))) W4):=Qaz ⟨HB4.out,.inr ⟨⟨H1.out,HZ.out,hz⟩,hp,M1,HP.out.1,HP.out.2,rfl,HH4.out⟩⟩;clear hz;go_wp2;go_ret;exact HF.out
 ·have u2:(zaj l b != 0)=true:=bne_iff_ne.2 hz;have HF:Hid (zjb A c l a b w (.returned (.pointer none)) W4):=Qaz ⟨HB4.out,.inl ⟨fun q=>hz q.2.2,rfl⟩⟩;clear hz;go_wp2;go_ret;exact HF.out
theorem zb5{l:List CI}{t:Ty}(h:zaj l t=0):zam l t=true∧t.count≤1000:=by
 unfold zaj at h;by_cases h0:zcm t=0
 ·rw[if_pos h0]at h;refine⟨?_,?_⟩
  ·by_cases hf:zam l t=true
   ·exact hf
   ·rw[if_neg hf]at h;exact absurd h (by decide)
  ·unfold zcm at h0;by_cases hd:t.deep 100=true
   ·rw[if_pos hd]at h0;exact absurd h0 (by decide)
   ·rw[if_neg hd]at h0;by_cases hcn:1000<t.count
    ·rw[if_pos hcn]at h0;exact absurd h0 (by decide)
    ·omega
 ·rw[if_neg h0]at h;exact absurd h h0
def ze9(l:List CI)(a b:Ty)(r:Bool):Prop:=(¬zi0 l a b∧r=false)∨(zi0 l a b∧∃La Lb,IsPieces l (addT l a zbk) La∧IsPieces l (addT l b zbk) Lb∧r=zwf l La Lb)
theorem zxt(A:Option Addr)(c:Nat)(l:List CI)(a b:Ty)(Aa Ab:Option Addr)(ca cb:Nat)(w:World)(hc:l.length≤c)(GH:Nat→Prop)(h:Held GH (CIs A l) w)(ol:∀x∈l,zdo x)(hl:l.length≤1000000)(G:Nat→Prop)(hTa:Held G (Typs Aa a.args) w)(hca:a.args.length≤ca)(hsa:TySmall a)(hba:a.all zhs=true)(hTb:Held G (Typs Ab b.args) w)(hcb:b.args.length≤cb)(hsb:TySmall b)(hbb:b.all zhs=true):
  Calls Tryz.prog 24 #[.slice A l.length c,tyV a Aa ca,tyV b Ab cb] w fun e w'=>∃r,e=.returned (.bool r)∧ze9 l a b r∧Below w.heap.size w w':=by
 obtain⟨W1,hW1⟩:∃W1,W1=(w.alloc (.cells #[.int .i64 a.kind,.string a.name,.int .i64 a.lo,.int .i64 a.hi,.slice Aa a.args.length ca] 36)).alloc (.cells #[.int .i64 b.kind,.string b.name,.int .i64 b.lo,.int .i64 b.hi,.slice Ab b.args.length cb] 36):=⟨_,rfl⟩;have b1:Below w.heap.size w W1:=by rw[hW1];exact((Below.refl _ w).alloc (Qiz _) _).alloc (by simp) _
 have ha1:Cel w.heap.size [.int .i64 a.kind,.string a.name,.int .i64 a.lo,.int .i64 a.hi,.slice Aa a.args.length ca] W1:=by rw[hW1];exact(Cel.new w _ _ _ rfl).all ((Below.refl _ _).alloc (Qiz _) _)
 have hb1:Cel (w.heap.size+1) [.int .i64 b.kind,.string b.name,.int .i64 b.lo,.int .i64 b.hi,.slice Ab b.args.length cb] W1:=by rw[hW1];exact Cel.new (w.alloc _) _ _ _ (by simp)
 have HBO:=Qaz (zvb A c l a b Aa Ab ca cb W1 hc GH (h.keep (Keep.all b1)) ol hl G (hTa.keep (Keep.all b1)) hca hsa (hTb.keep (Keep.all b1)) hcb hsb);have HHA:=Qaz ha1;have HHB:=Qaz hb1;have HB1:=Qaz b1;have HH:=Qaz h;have HTA:=Qaz hTa;have HTB:=Qaz hTb;clear ha1 hb1 b1 h hTa hTb;go_enter Tryz.func24,Tryz.ntmps24;go_wp2_with (fail);rw[←hW1];obtain⟨x0,_⟩:=HHA.out 0 _ rfl;obtain⟨x1,_⟩:=HHA.out 1 _ rfl;obtain⟨x2,_⟩:=HHA.out 2 _ rfl;obtain⟨x3,_⟩:=HHA.out 3 _ rfl;obtain⟨x4,_⟩:=HHA.out 4 _ rfl;clear hW1;refine HBO.out.mono ?_;clear HBO;rintro e W2 ⟨hb2,(⟨h1,rfl⟩|⟨h1,hp,M1,g1,g2,rfl,H⟩)⟩
 ·have HF:Hid (ze9 l a b false∧Below w.heap.size w W2):=Qaz ⟨.inl ⟨h1,rfl⟩,zae HB1.out hb2⟩;clear h1 hb2;go_wp2;go_ret;exact⟨_,rfl,HF.out.1,HF.out.2⟩
 have b2:=zae HB1.out hb2;have hs1:=HB1.out.size;obtain⟨v1,v2⟩:=zb5 h1.2.1;obtain⟨v3,v4⟩:=zb5 h1.2.2;have lowR:∀{G:Nat→Prop}{R:World→Prop},Held G R w→Held (fun b=>b<M1) R W2:=fun q=>(q.mono (G':=fun b=>b<M1) fun b hb _=>by omega).keep (Keep.all b2);have HSB:=Qaz (zx0 hp M1 A c l h1.1 ol a b Aa Ab ca cb W2 H (lowR HH.out) (lowR HTA.out) hca v1 hba v2 (lowR HTB.out) hcb v3 hbb v4)
 have HFI:Hid (∀La Lb X,IsPieces l (addT l a zbk) La→IsPieces l (addT l b zbk) Lb→Asked1 hp M1 A c l (zce M1) W2 X→ze9 l a b (zwf l La Lb)∧Below w.heap.size w X):=Qaz (fun La Lb X p q k=>⟨.inr ⟨h1,La,Lb,p,q,rfl⟩,b2.trans (k.ch.belowN (fun b m=>by simp only[zce]at m;omega) b2.size)⟩);obtain⟨y0,_⟩:=(HHA.out.all hb2) 0 _ rfl;obtain⟨y1,_⟩:=(HHA.out.all hb2) 1 _ rfl;obtain⟨y2,_⟩:=(HHA.out.all hb2) 2 _ rfl;obtain⟨y3,_⟩:=(HHA.out.all hb2) 3 _ rfl;obtain⟨y4,_⟩:=(HHA.out.all hb2) 4 _ rfl;obtain⟨z0,_⟩:=(HHB.out.all hb2) 0 _ rfl;obtain⟨z1,_⟩:=(HHB.out.all hb2) 1 _ rfl
 obtain⟨z2,_⟩:=(HHB.out.all hb2) 2 _ rfl;obtain⟨z3,_⟩:=(HHB.out.all hb2) 3 _ rfl;obtain⟨z4,_⟩:=(HHB.out.all hb2) 4 _ rfl;clear h1 v1 v2 v3 v4 lowR g1 g2 H b2 hs1 hb2 x0 x1 x2 x3 x4;go_wp2_with (fail);refine HSB.out.mono ?_;clear HSB;rintro e X ⟨La,Lb,p,q,rfl,k⟩;have HR:=Qaz (HFI.out La Lb X p q k);clear p q k;generalize zwf l La Lb=r at HR;go_wp2;go_ret;exact⟨_,rfl,HR.out.1,HR.out.2⟩
end
end Go.Proofs.YtepnmejahbiacaaGreat
