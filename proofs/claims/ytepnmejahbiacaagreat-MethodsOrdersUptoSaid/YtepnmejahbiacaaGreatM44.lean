/- Part 44 of the proof: Yo, Yq. -/
import Derived.Test.YtepnmejahbiacaaGreatM43
set_option linter.unusedVariables false
set_option linter.unusedSimpArgs false
set_option maxHeartbeats 64000000
set_option maxRecDepth 100000
namespace Go.Proofs.YtepnmejahbiacaaGreat
open Go.RowKit
section
open Go.Deep
attribute [local go_sem ↓] Go.wp_at_zero Go.wp_at_succ
theorem zxd{x:Ty}(h:Rng x):za7 [x]=(decide (x.lo= -9223372036854775808)&&decide (x.hi=9223372036854775807)):=by
 obtain⟨lo,hi,rfl,_⟩:=h
 rfl
def pc1(p:Pcs)(M:List Ty):Pcs:={ p with ints:=M }
def pc2(p:Pcs)(M:List Ty):Pcs:=if za7 M=true then{ p with ints:=[],classes:=p.classes++[zal] }else pc1 p M
def pc3(p:Pcs)(M:List Ty):Pcs:=if p.no=true∧p.yes=true then{ pc2 p M with no:=false,yes:=false,classes:=(pc2 p M).classes++[zan] }else pc2 p M
theorem zh4(p:Pcs)(M:List Ty):(pc3 p M).classes=(p.classes++if za7 M=true then[zal]else[])++if p.no=true∧p.yes=true then[zan]else[]:=by
 unfold pc3 pc2 pc1;by_cases h1:za7 M=true<;>by_cases h2:p.no=true∧p.yes=true<;>simp[h1,h2]
theorem zuu(p:Pcs)(M:List Ty):(pc3 p M).ints=if za7 M=true then[]else M:=by
 unfold pc3 pc2 pc1;by_cases h1:za7 M=true<;>by_cases h2:p.no=true∧p.yes=true<;>simp[h1,h2]
theorem zt6(p:Pcs)(M:List Ty):(pc3 p M).subs=p.subs:=by
 unfold pc3 pc2 pc1;by_cases h1:za7 M=true<;>by_cases h2:p.no=true∧p.yes=true<;>simp[h1,h2]
theorem zi5(p:Pcs)(M:List Ty):(pc2 p M).no=p.no∧(pc2 p M).yes=p.yes:=by
 unfold pc2 pc1;by_cases h1:za7 M=true<;>simp[h1]
theorem z2i(p:Pcs)(M:List Ty):(pc3 p M).no=(p.no&& !p.yes):=by
 unfold pc3;have:=(zi5 p M).1;cases h1:p.no<;>cases h2:p.yes<;>simp[this,h1]
theorem z1c(p:Pcs)(M:List Ty):(pc3 p M).yes=(p.yes&& !p.no):=by
 unfold pc3;have:=(zi5 p M).2;cases h1:p.no<;>cases h2:p.yes<;>simp[this,h2]
theorem zit{l:List CI}(hL:zai l){i:Nat}{s:ByteArray}{cp:List ByteArray}{f:CI→Prop}(h:∃x,zbm[i]? =some x∧x.name=s∧x.cpl=cp∧f x):hasB l s=true:=by
 obtain⟨x,hx,e,_⟩:=h;unfold hasB;rw[←e,(zd1 hL (zg4 hL hx) rfl).2];rfl
theorem zl9{l:List CI}{m m':List ByteArray}(h:∀s,s∈m↔s∈m')(s:ByteArray):zfa l m s↔zfa l m' s:=by
 unfold zfa;rw[h];exact and_congr_right fun _=>forall_congr' fun u=>by rw[h]
theorem z19{l:List CI}{P:Pcs}{M:List Ty}{S T S2 T2:List ByteArray}(hg:Gap M)(hn:∀n,num M n↔num P.ints n)(hS:∀s,s∈S↔s∈(pc3 P M).classes)(hT:∀s,s∈T↔zfa l (S.filter fun s=> !vdB l s) s)(hS2:∀s,s∈S2↔s∈P.subs)(hT2:∀s,s∈T2↔zfa l S2 s):
  (zak∈T→PcsFin l P ⟨false,false,[],[],[zak]⟩)∧(zak∉T→PcsFin l P ⟨(pc3 P M).no,(pc3 P M).yes,(pc3 P M).ints,if hasS T zaw=true then[]else T2,T⟩):=by
 have hk:∀s,s∈T↔zfa l (ze6 l P M) s:=fun s=>by
  rw[hT];refine zl9 (fun u=> ?_) s;unfold ze6;rw[List.mem_filter,List.mem_filter,hS,zh4]
 refine⟨fun h=>⟨M,hg,hn,.inl ⟨(hk _).1 h,rfl⟩⟩,fun h=>⟨M,hg,hn,.inr ⟨fun q=>h ((hk _).2 q),z2i P M,z1c P M,zuu P M,hk,fun s=> ?_⟩⟩⟩;show s∈(if hasS T zaw=true then[]else T2)↔_;rw[←hk]
 split
 ·rename_i hc;exact⟨fun q=>(by cases q),fun q=>absurd (zb8.1 hc) q.2⟩
 ·rename_i hc;rw[hT2];exact⟨fun q=>⟨(zl9 hS2 s).1 q,fun e=>hc (zb8.2 e)⟩,fun q=>(zl9 hS2 s).2 q.1⟩
structure PcSt (w:World) (pb:Nat) (p:Pcs) (V:World):Prop where
 ex:∃vi vs vc,PcsAt pb p vi vs vc V
 bel:Below w.heap.size w V
theorem PcSt.all{w:World}{pb:Nat}{p:Pcs}{V V':World}(h:PcSt w pb p V)(k:Below V.heap.size V V'):PcSt w pb p V':=⟨h.ex.imp fun _ h=>h.imp fun _ h=>h.imp fun _ h=>h.all k,zab h.bel k⟩
theorem PcSt.of{w:World}{pb:Nat}{p:Pcs}{V V':World}{vi vs vc vi' vs' vc':Value}{p':Pcs}(hpb:w.heap.size≤pb)(hb:Below w.heap.size w V)(h:PcsAt pb p vi vs vc V)(h':PcsAt pb p' vi' vs' vc' V')(k:PMv pb vi vs vc V vi' vs' vc' V'):PcSt w pb p' V':=⟨⟨_,_,_,h'⟩,hb.trans ((k.below h).mono hpb)⟩
def PcS(w W3:World)(pb:Nat)(p:Pcs)(V:World):Prop:=PcSt w pb p V∧Below pb W3 V
theorem PcS.all{w W3:World}{pb:Nat}{p:Pcs}{V V':World}(h:PcS w W3 pb p V)(k:Below V.heap.size V V'):PcS w W3 pb p V':=⟨h.1.all k,by
 obtain⟨_,_,_,hp⟩:=h.1.ex;exact h.2.trans (k.mono (Nat.le_of_lt hp.lt))⟩
theorem PcS.of{w W3:World}{pb:Nat}{p p':Pcs}{V V':World}{vi vs vc vi' vs' vc':Value}(hpb:w.heap.size≤pb)(h:PcS w W3 pb p V)(hp:PcsAt pb p vi vs vc V)(h':PcsAt pb p' vi' vs' vc' V')(k:PMv pb vi vs vc V vi' vs' vc' V'):PcS w W3 pb p' V':=⟨PcSt.of hpb h.1.bel hp h' k,h.2.trans (k.below hp)⟩
theorem zix(A:Option Addr)(c:Nat)(l:List CI)(t:Ty)(At:Option Addr)(ct:Nat)(w:World)(GH:Nat→Prop)(hA:Held GH (CIs A l) w)(hl:l.length≤1000000)(hcp:∀x∈l,x.cpl.length≤1000000)(hsp:∀x∈l,x.supers.length≤1000000)(hL:zai l)(G:Nat→Prop)(hT:Held G (Typs At t.args) w)(hform:zam l t=true)(hbd:t.all zhs=true)(hsm:t.count≤1000):
  Calls Tryz.prog 163 #[.slice A l.length c,tyV t At ct] w fun e w'=>∃r vi vs vc,e=.returned (.agg #[.bool r.no,.bool r.yes,vi,vs,vc])∧PcsFin l (zc3 t zdz) r∧(r.ints.length≤3000∧r.subs.length≤3000∧r.classes.length≤3000)∧Own typR 36 5 w.heap.size (fun _=>False) vi r.ints w'∧Own zcz 9 1 w.heap.size (fun _=>False) vs r.subs w'∧Own zcz 9 1 w.heap.size (fun _=>False) vc r.classes w'∧Below w.heap.size w w':=by
 obtain⟨W2,hW2⟩:∃W2,W2=(w.alloc (.cells #[.int .i64 t.kind,.string t.name,.int .i64 t.lo,.int .i64 t.hi,.slice At t.args.length ct] 36)).alloc (.cells #[.bool false,.bool false,.slice none 0 0,.slice none 0 0,.slice none 0 0] 191):=⟨_,rfl⟩;have b2:Below w.heap.size w W2:=by rw[hW2];exact((Below.refl _ w).alloc (Qiz _) _).alloc (by simp) _
 have s2:W2.heap.size=w.heap.size+1+1:=by rw[hW2];simp
 obtain⟨W3,hW3⟩:∃W3,W3=W2.alloc (.cells #[.bool false,.bool false,.slice none 0 0,.slice none 0 0,.slice none 0 0] 191):=⟨_,rfl⟩;have b3:Below w.heap.size w W3:=by rw[hW3];exact b2.alloc b2.size _
 obtain⟨pb,hpb⟩:∃pb,w.heap.size+1+1=pb:=⟨_,rfl⟩;have hP0:PcsAt pb zdz (.slice none 0 0) (.slice none 0 0) (.slice none 0 0) W3:=by rw[hW3];exact PcsAt.new W2 _ pb (by omega)
 have hres:∀j u,[Value.bool false,.bool false,.slice none 0 0,.slice none 0 0,.slice none 0 0][j]? =some u→W3.cell? ⟨w.heap.size+1,j,none⟩=some u∧W3.frozen? ⟨w.heap.size+1,j,none⟩=false:=fun j u hj=>by
  have hc:Cel (w.heap.size+1) [.bool false,.bool false,.slice none 0 0,.slice none 0 0,.slice none 0 0] W3:=by
   rw[hW3,hW2];exact(Cel.new (w.alloc (.cells #[.int .i64 t.kind,.string t.name,.int .i64 t.lo,.int .i64 t.hi,.slice At t.args.length ct] 36)) #[.bool false,.bool false,.slice none 0 0,.slice none 0 0,.slice none 0 0] _ (w.heap.size+1) (by simp)).all ((Below.refl _ _).alloc (Qiz _) _)
  exact hc j u hj
 have hT3:Held (fun b=>b<pb) (Typs At t.args) W3:=(hT.here.keep (Keep.all b3)).mono fun b _ hb=>by have:b<w.heap.size:=hb;omega
 have HC:=Qaz (zmv pb l t.count t (Qiz _) hform At ct zdz _ _ _ W3 hP0 hT3 (by show 0+0+0+_≤_;omega));have hct:=zuv t zdz;have hc0:zdz.tot=0:=rfl;have HTOT:Hid ((zc3 t zdz).tot≤1000):=Qaz (by omega);have HINT:Hid (∀x∈(zc3 t zdz).ints,Rng x):=Qaz (by
  rw[←(PcRel.coll hL t zbk zdz hform (PcRel.none l)).ints];exact(POk.addT l t zbk ⟨fun x hx=>(by cases hx),fun x hx=>(by cases hx),fun x hx=>(by cases hx)⟩ hform hbd).r0)
 have hwp:w.heap.size≤pb:=by omega
 have HH:Hid (∀V,Below w.heap.size w V→Held GH (CIs A l) V):=Qaz (fun V hv=>hA.keep (Keep.all hv));have HRES:Hid (∀V,Below pb W3 V→∀j u,[Value.bool false,.bool false,.slice none 0 0,.slice none 0 0,.slice none 0 0][j]? =some u→V.cell? ⟨w.heap.size+1,j,none⟩=some u∧V.frozen? ⟨w.heap.size+1,j,none⟩=false):=Qaz (fun V hv j u hj=>by
  have e:=hv.block (w.heap.size+1) (by omega);exact⟨(World.cell?_of_block e).trans (hres j u hj).1,(World.frozen?_of_block e).trans (hres j u hj).2⟩)
 have HP0:=Qaz hP0;have HB3:=Qaz b3;have HPB:=Qaz hpb;have HFM:=Qaz hform;clear hA hT hT3 hform hbd hct hc0 hres hP0 hsm b2 b3 s2 hpb;have HHB:Hid (∀s∈(zc3 t zdz).classes,hasB l s=true):=Qaz (PcRel.coll hL t zbk zdz HFM.out (PcRel.none l)).hasC;generalize zc3 t zdz=P at HC HTOT HINT HHB ⊢;go_enter Tryz.func163,Tryz.ntmps163;go_wp2_with (fail);rw[←hW2,←hW3,HPB.out];clear hW2 hW3;refine HC.out.mono ?_;rintro e V ⟨rfl,vi,vs,vc,hp1,hm1⟩;have HV:Hid (PcSt w pb P V∧Below pb W3 V):=Qaz ⟨⟨⟨_,_,_,hp1⟩,HB3.out.trans ((hm1.below HP0.out).mono hwp)⟩,hm1.below HP0.out⟩;obtain⟨Ai,ci,hvi⟩:=hp1.oi.anyForm
 subst hvi;have q2:=(hp1.cel 2 _ rfl).1;have HJ:=Qaz (zoc Ai ci P.ints V (Own.read hp1.oi).2.2 HINT.out (by have:=HTOT.out;unfold Pcs.tot at this;omega));clear HC HP0 HB3;have HP1:=Qaz hp1;have HLT:Hid (pb+1≤V.heap.size):=Qaz hp1.lt;clear hp1 hm1;go_wp2_with (go_at_call 196;refine HJ.out.mono ?_;rintro e V2 ⟨v2,M,rfl,hown2,hgap,hb2⟩;obtain⟨A3,c3,hv2⟩:=hown2.anyForm;subst hv2;obtain⟨u1,f1⟩:=(HP1.out.all hb2).cel 2 _ rfl);have HGP:=Qaz hgap
 have hset:=HP1.out.set_ints (L:=M) (v2:=.slice A3 M.length c3) ((Chg.of (S:=fun _=>False) hb2).mono fun _ _ q=>q.elim) (fun b e=>.inr (hown2.lt b e).1) (hown2.lower HLT.out);have HV4:Hid (PcS w W3 pb (pc1 P M) (V2.setCell ⟨pb,2,none⟩ (.slice A3 M.length c3))):=Qaz (PcS.of hwp HV.out HP1.out hset.1 hset.2);have HQ4:Hid ((V2.setCell ⟨pb,2,none⟩ (.slice A3 M.length c3)).cell? ⟨pb,2,none⟩=some (.slice A3 M.length c3)∧Own typR 36 5 (pb+1) (fun _=>False) (.slice A3 M.length c3) M (V2.setCell ⟨pb,2,none⟩ (.slice A3 M.length c3))):=Qaz ⟨(hset.1.cel 2 _ rfl).1,hset.1.oi⟩
 clear hset hown2 hgap hb2 HV HP1 q2 HJ
 go_upto_region 4 with fail
 clear u1 f1;generalize V2.setCell ⟨pb,2,none⟩ (.slice A3 M.length c3)=V4 at HV4 HQ4 ⊢
 go_cut [39] (fun s39 wx=>s39=.bool (za7 M)∧PcS w W3 pb (pc1 P M) wx)
 case first=>
  have g1:=HQ4.out.1;have HDN:Hid (∀n,PcS w W3 pb (pc1 P M) (V4.drewN n)):=Qaz (fun n=>HV4.out.all (zad _ _ _));by_cases hl1:M.length=1
  ·obtain⟨x,rfl⟩:=List.length_eq_one_iff.1 hl1;obtain⟨g3,c3',e3,_⟩:=HQ4.out.2.form (by simp);simp only[Value.slice.injEq,true_and]at e3;obtain⟨rfl,rfl⟩:=e3;obtain⟨A6,c6,_,y0,y1,y2,y3,y4,_⟩:=OwnT.at HQ4.out.2 (i:=0) (x:=x) rfl;have HWB:Hid (za7 [x]=(decide (x.lo= -9223372036854775808)&&decide (x.hi=9223372036854775807))):=Qaz (zxd (HGP.out.1.rng x (by simp)));simp only[List.length_nil,List.length_cons,Nat.zero_mul,Nat.zero_add]at y0 y1 y2 y3 y4 g1;clear hl1;by_cases h1:x.lo= -9223372036854775808
   ·have d1:(x.lo== -9223372036854775808)=true:=beq_iff_eq.2 h1;by_cases h2:x.hi=9223372036854775807
    ·have d2:(x.hi==9223372036854775807)=true:=beq_iff_eq.2 h2;have HW2:Hid (za7 [x]=true):=Qaz (by rw[HWB.out,Qhz h1,Qhz h2];rfl);clear h1 h2
     go_quiet ((first|(go_at_call 197;exact(ze1 _).mono fun _ _ ⟨a,b⟩=>⟨a,_,b.symm⟩)|(go_at_call 198;exact(zfx _).mono fun _ _ ⟨a,b⟩=>⟨a,_,b.symm⟩)))
     go_wp2_with fail
     go_meet
     exact⟨by rw[HW2.out],HDN.out _⟩
    ·have d2:(x.hi==9223372036854775807)=false:=Qfz h2;have HW2:Hid (za7 [x]=false):=Qaz (by rw[HWB.out,Qgz h2];simp);clear h1 h2
     go_quiet ((first|(go_at_call 197;exact(ze1 _).mono fun _ _ ⟨a,b⟩=>⟨a,_,b.symm⟩)|(go_at_call 198;exact(zfx _).mono fun _ _ ⟨a,b⟩=>⟨a,_,b.symm⟩)))
     go_wp2_with fail
     go_meet
     exact⟨by rw[HW2.out],HDN.out _⟩
   ·have d1:(x.lo== -9223372036854775808)=false:=Qfz h1;have HW2:Hid (za7 [x]=false):=Qaz (by rw[HWB.out,Qgz h1];simp);clear h1
    go_quiet ((first|(go_at_call 197;exact(ze1 _).mono fun _ _ ⟨a,b⟩=>⟨a,_,b.symm⟩)|(go_at_call 198;exact(zfx _).mono fun _ _ ⟨a,b⟩=>⟨a,_,b.symm⟩)))
    go_wp2_with fail
    go_meet
    exact⟨by rw[HW2.out],HDN.out _⟩
  ·have t1:((M.length:Int)==1)=false:=Qfz (by omega);have HWB:Hid (za7 M=false):=Qaz (by
    match M,hl1 with
    | [],_=>rfl
    | [_],h=>exact absurd rfl h
    |_::_::_,_=>rfl)
   clear hl1
   go_quiet (fail)
   go_wp2_with fail
   go_meet
   exact⟨by rw[HWB.out],HDN.out _⟩
 case rest=>
 obtain⟨rfl,hpc⟩:=hcut;obtain⟨V5,hV5⟩:∃X,X=wc:=⟨_,rfl⟩;subst hV5;have HPC:=Qaz hpc;clear hpc HV4 HQ4
 go_upto_if 39 with fail
 go_cut [] (fun wx=>PcS w W3 pb (pc2 P M) wx)
 case first=>
  cases hw:za7 M with
  |false=>
   have HE:Hid (pc2 P M=pc1 P M):=Qaz (by unfold pc2;rw[if_neg (by rw[hw];decide)]);clear hw;go_wp2_with fail
   go_meet
   rw[HE.out];exact HPC.out
  |true=>
   have HE:Hid (pc2 P M={ P with ints:=[],classes:=P.classes++[zal] }):=Qaz (by unfold pc2;rw[if_pos hw]);clear hw;obtain⟨vi,vs,vc,hp⟩:=HPC.out.1.ex;obtain⟨q2,f2⟩:=hp.cel 2 _ rfl;have S5:=hp.set_ints (L:=[]) (v2:=.slice none 0 0) (Chg.refl _ _) (fun b e=>by simp[Value.ownBlock]at e) (Own.nil _ _ _ _ _ _);have HPS6:=Qaz (PcS.of hwp HPC.out hp S5.1 S5.2);have hp6:=S5.1;have HLC:Hid (P.classes.length≤1000000):=Qaz (by have:=HTOT.out;unfold Pcs.tot at this;omega);clear S5 hp
   go_upto_region 6 with fail
   clear q2 f2;generalize V5.setCell ⟨pb,2,none⟩ (.slice none 0 0)=V6 at HPS6 hp6 ⊢;obtain⟨Ac,cc,hvc⟩:=hp6.oc.anyForm;subst hvc;have HP6:=Qaz hp6;have hl6:({ pc1 P M with ints:=[] }).classes.length≤1000000:=HLC.out;obtain⟨q4,f4⟩:=hp6.cel 4 _ rfl;have hlt6:=hp6.lt;go_wp2_with (at_builtin;refine Classical.byContradiction fun hneg=> ?_);apply hneg
   refine zao zcz 9 1 (pb+1) 16 (fun _=>False) _ rfl _ _ 108 _ rfl Tryz.underlying108 info9 rfl (by decide) (by decide) (.slice Ac ({ pc1 P M with ints:=[] }).classes.length cc) ({ pc1 P M with ints:=[] }).classes rfl (HP6.out.oc.alloc _) ⟨V6.heap.size,0,none⟩ 1 rfl zal [.string zal] rfl ?cells ?one ?held ?hG ?base ?len ?_
   case cells=>exact fun j u hu=>zaq V6 _ _ _ rfl j u hu
   case one=>intro u hu;simp at hu;rw[hu];rfl
   case held=>exact fun _ _=>rfl
   case hG=>exact fun b hb _=>hb.elim
   case base=>first|omega|(simp;omega)
   case len=>first|omega|(simp;omega)
   intro v' w1 hown1 hg1 hat1;obtain⟨Av,cv,hv'⟩:=hown1.anyForm;subst hv';have HPA:=HP6.out.all ((Below.refl _ V6).alloc (Qiz _) (.cells #[.string zal] 9));have hnn:∀b,b=pb→(Value.slice Ac ({ pc1 P M with ints:=[] }).classes.length cc).ownBlock≠some b:=fun b hb e=>by
    have:=HP6.out.oc.lt b e;omega
   have u4:=zas hg1 (HPA.cel 4 _ rfl).1 (hnn _ rfl);have g4:=zbc hg1 (HPA.cel 4 _ rfl).1 (HPA.cel 4 _ rfl).2 (hnn _ rfl);have F:=PcsAt.set_classes HPA (L:=({ pc1 P M with ints:=[] }).classes++[zal]) ((Chg.grown (S:=fun b=>(Value.slice Ac ({ pc1 P M with ints:=[] }).classes.length cc).ownBlock=some b) hg1 fun b hb=>hb).mono fun b _ q=>.inl q) (fun b e=>by
    rcases hat1 with q|q
    ·exact .inl (q▸e)
    ·rw[e]at q;cases q;exact .inr (Qiz _)) hown1
   have F2:=PcS.of hwp (HPS6.out.all ((Below.refl _ V6).alloc (Qiz _) (.cells #[.string zal] 9))) HPA F.1 F.2;simp only[List.length_append,List.length_cons,List.length_nil,Nat.zero_add]at F2;have F3:=Qaz F2;clear hown1 hg1 hat1 F F2 hneg HPA hnn q4 f4 hp6;go_wp2_with fail
   go_meet
   rw[HE.out];exact F3.out
 case rest=>
 have HPC2:=Qaz hcut;obtain⟨V7,hV7⟩:∃X,X=wc:=⟨_,rfl⟩;subst hV7;clear hcut HPC
 go_upto_region 7 with fail
 go_cut [51] (fun s51 wx=>s51=.bool (P.no&&P.yes)∧wx=V7)
 case first=>
  obtain⟨vi,vs,vc,hp⟩:=HPC2.out.1.ex;obtain⟨q0,_⟩:=hp.cel 0 _ rfl;obtain⟨q1,_⟩:=hp.cel 1 _ rfl;rw[(zi5 P M).1]at q0;rw[(zi5 P M).2]at q1;clear hp;cases h0:P.no<;>cases h1:P.yes
  all_goals
   rw[h0]at q0;rw[h1]at q1;have H0:=Qaz h0;have H1:=Qaz h1;clear h0 h1;go_wp2_with fail
   go_meet
   exact⟨by rw[H0.out,H1.out];rfl,rfl⟩
 case rest=>
 obtain⟨rfl,hwc⟩:=hcut;subst hwc
 go_upto_if 51 with fail
 go_cut [] (fun wx=>PcS w W3 pb (pc3 P M) wx)
 case first=>
  cases hw:(P.no&&P.yes)with
  |false=>
   have HE:Hid (pc3 P M=pc2 P M):=Qaz (by
    unfold pc3;rw[if_neg (fun q=>by rw[q.1,q.2]at hw;cases hw)])
   clear hw;go_wp2_with fail
   go_meet
   rw[HE.out];exact HPC2.out
  |true=>
   have HE:Hid (pc3 P M={ pc2 P M with no:=false,yes:=false,classes:=(pc2 P M).classes++[zan] }):=Qaz (by
    unfold pc3;rw[if_pos (Bool.and_eq_true_iff.1 hw)])
   clear hw;obtain⟨vi,vs,vc,hp⟩:=HPC2.out.1.ex;obtain⟨q0,f0⟩:=hp.cel 0 _ rfl;obtain⟨q1,f1⟩:=hp.cel 1 _ rfl;have hp6:=(hp.bool0 false).bool1 false;have HPS6:=Qaz (PcS.of hwp HPC2.out hp hp6 ((PMv.set0 pb vi vs vc _ 0 (.bool false)).trans (PMv.set0 pb vi vs vc _ 1 (.bool false))));have HLC:Hid ((pc2 P M).classes.length≤1000000):=Qaz (by
    have:=HTOT.out;unfold Pcs.tot at this;unfold pc2 pc1
    split
    ·show(P.classes++[zal]).length≤_;simp;omega
    ·show P.classes.length≤_;omega)
   clear hp;generalize pc2 P M=P2 at hp6 HPS6 HE HLC q0 q1 HPC2
   go_upto_region 10 with fail
   clear q0 f0 q1 f1;generalize(wc.setCell ⟨pb,0,none⟩ (.bool false)).setCell ⟨pb,1,none⟩ (.bool false)=V6 at HPS6 hp6 ⊢;obtain⟨Ac,cc,hvc⟩:=hp6.oc.anyForm;subst hvc;have HP6:=Qaz hp6;have hl6:({ P2 with no:=false,yes:=false }).classes.length≤1000000:=HLC.out;obtain⟨q4,f4⟩:=hp6.cel 4 _ rfl;have hlt6:=hp6.lt;go_wp2_with (at_builtin;refine Classical.byContradiction fun hneg=> ?_);apply hneg
   refine zao zcz 9 1 (pb+1) 16 (fun _=>False) _ rfl _ _ 108 _ rfl Tryz.underlying108 info9 rfl (by decide) (by decide) (.slice Ac ({ P2 with no:=false,yes:=false }).classes.length cc) ({ P2 with no:=false,yes:=false }).classes rfl (HP6.out.oc.alloc _) ⟨V6.heap.size,0,none⟩ 1 rfl zan [.string zan] rfl ?cells ?one ?held ?hG ?base ?len ?_
   case cells=>exact fun j u hu=>zaq V6 _ _ _ rfl j u hu
   case one=>intro u hu;simp at hu;rw[hu];rfl
   case held=>exact fun _ _=>rfl
   case hG=>exact fun b hb _=>hb.elim
   case base=>first|omega|(simp;omega)
   case len=>first|omega|(simp;omega)
   intro v' w1 hown1 hg1 hat1;obtain⟨Av,cv,hv'⟩:=hown1.anyForm;subst hv';have HPA:=HP6.out.all ((Below.refl _ V6).alloc (Qiz _) (.cells #[.string zan] 9));have hnn:∀b,b=pb→(Value.slice Ac ({ P2 with no:=false,yes:=false }).classes.length cc).ownBlock≠some b:=fun b hb e=>by
    have:=HP6.out.oc.lt b e;omega
   have u4:=zas hg1 (HPA.cel 4 _ rfl).1 (hnn _ rfl);have g4:=zbc hg1 (HPA.cel 4 _ rfl).1 (HPA.cel 4 _ rfl).2 (hnn _ rfl);have F:=PcsAt.set_classes HPA (L:=({ P2 with no:=false,yes:=false }).classes++[zan]) ((Chg.grown (S:=fun b=>(Value.slice Ac ({ P2 with no:=false,yes:=false }).classes.length cc).ownBlock=some b) hg1 fun b hb=>hb).mono fun b _ q=>.inl q) (fun b e=>by
    rcases hat1 with q|q
    ·exact .inl (q▸e)
    ·rw[e]at q;cases q;exact .inr (Qiz _)) hown1
   have F2:=PcS.of hwp (HPS6.out.all ((Below.refl _ V6).alloc (Qiz _) (.cells #[.string zan] 9))) HPA F.1 F.2;simp only[List.length_append,List.length_cons,List.length_nil,Nat.zero_add]at F2;have F3:=Qaz F2;clear hown1 hg1 hat1 F F2 hneg HPA hnn q4 f4 hp6;go_wp2_with fail
   go_meet
   rw[HE.out];exact F3.out
 case rest=>
 have HPC3:=Qaz hcut;obtain⟨V8,hV8⟩:∃X,X=wc:=⟨_,rfl⟩;subst hV8;clear hcut HPC2;have HFO:=Qaz (fun(S T S2 T2:List ByteArray)=>z19 (l:=l) (P:=P) (M:=M) (S:=S) (T:=T) (S2:=S2) (T2:=T2) HGP.out.1 HGP.out.2.1);have HB3:Hid (∀s∈(pc3 P M).classes,hasB l s=true):=Qaz (fun s hs=>by
  rw[zh4]at hs;rcases List.mem_append.1 hs with q|q
  ·rcases List.mem_append.1 q with q|q
   ·exact HHB.out s q
   ·split at q
    ·rw[List.mem_singleton.1 q];exact zit hL zl5
    ·cases q
  ·split at q
   ·rw[List.mem_singleton.1 q];exact zit hL zjx
   ·cases q)
 have HL3:Hid ((pc3 P M).ints.length≤1000∧(pc3 P M).subs.length≤1000∧(pc3 P M).classes.length≤1002):=Qaz (by
  have h1:=HTOT.out;have h2:=HGP.out.2.2;unfold Pcs.tot at h1;rw[zuu,zt6,zh4];refine⟨?_,by omega,?_⟩
  ·split
   ·simp
   ·omega
  ·rw[List.length_append,List.length_append];have e1:(if za7 M=true then[zal]else[]).length≤1:=by split<;>simp
   have e2:(if P.no=true∧P.yes=true then[zan]else[]).length≤1:=by split<;>simp
   omega)
 have HSB:Hid ((pc3 P M).subs=P.subs):=Qaz (zt6 P M);generalize pc3 P M=P3 at HPC3 HFO HB3 HL3 HSB;have HMA:=Qaz (zj5 A c l V8 GH (HH.out V8 HPC3.out.1.bel) hl hsp hL);go_wp2_with (go_at_call 199;refine HMA.out.mono ?_;rintro e V9 ⟨g1,g2,bc,bv,rfl,tc,tv,oc,ov,hb9⟩;obtain⟨vi,vs,vc,hp9⟩:=(HPC3.out.all hb9).1.ex;obtain⟨Ac,cc,hvc⟩:=hp9.oc.anyForm;subst hvc;have q4:=(hp9.cel 4 _ rfl).1);have HPS9:=Qaz (HPC3.out.all hb9);have HOV:=Qaz ov;have HTV:=Qaz tv;refine(ziu Ac cc P3.classes V9 (Own.read hp9.oc).2.2 (by have:=HL3.out;omega)).mono ?_;clear tc tv oc ov HMA hb9 HPC3 q4
 rintro e V10 ⟨v10,S,rfl,hS,own10,hb10⟩;obtain⟨A10,c10,hv10⟩:=own10.anyForm;subst hv10;have HSS:=Qaz hS;have HO10:=Qaz own10;have HOV10:=Qaz (HOV.out.all hb10);have HPS10:=Qaz (HPS9.out.all hb10);have hsl:S.length≤1002:=by have h1:=hS.2.2;have h2:=HL3.out;omega
 clear hS own10 hb10 HOV HPS9 hp9;go_wp2_with (fail)
 go_loopw [8,10] (fun v i wr=>∃k:Nat,k≤S.length∧i=.int .i64 k∧Own zcz 9 1 V10.heap.size (fun _=>False) v ((S.take k).filter fun s=> !vdB l s) wr∧Below V10.heap.size V10 wr) (fun _ i _=>S.length-(intOf i).toNat)
 case atStart=>exact⟨0,Qjz _,rfl,by simp;exact Own.nil _ _ _ _ _ _,Below.refl _ _⟩
 case round=>
  obtain⟨k,hk,rfl,hown,hb⟩:=hrel;by_cases hlt:k<S.length
  ·obtain⟨gS,cS,hAS,_⟩:=HO10.out.form (by omega);simp only[Value.slice.injEq,true_and]at hAS;obtain⟨rfl,rfl⟩:=hAS;have hx:S[k]? =some S[k]:=Qbz hlt;generalize S[k]=s at hx;obtain⟨g0,_⟩:=OwnS.at (HO10.out.all hb) hx;have hhas:hasB l s=true:=HB3.out s ((HSS.out.2.1 s).1 (Qdz hx));have HST:Hid ((S.take (k+1)).filter (fun s=> !vdB l s)=(S.take k).filter (fun s=> !vdB l s)++if vdB l s=true then[]else[s]):=Qaz (by
    rw[take_snoc hx,List.filter_append];cases h:vdB l s<;>simp[h])
   have hbW:Below w.heap.size w wr:=zab HPS10.out.1.bel hb;have HA8:=zfn A c l s wr GH (HH.out wr hbW) hl;rcases zn4 l s with⟨h1,h2⟩|⟨j,x,hj,h1,h2⟩
   ·exfalso;rw[←zkl,h2]at hhas;cases hhas
   rw[h2]at HA8;have hxn:x.name=s:=by have:=List.find?_some h1;simpa using this
   obtain⟨k1,_⟩:=OwnB.at (HOV10.out.all hb) (HTV.out.2 j x (Qjz _) hj);rw[hxn]at k1;have hjl:=(Qcz hj).1;have wj0:(0:Int)≤(j:Int):=by omega
   have wj1:(j:Int)<(l.length:Int):=by omega
   have hfl:((S.take k).filter fun s=> !vdB l s).length≤k:=Nat.le_trans (List.length_filter_le _ _) (by rw[List.length_take];omega);generalize((S.take k).filter fun s=> !vdB l s)=fl at hown HST hfl;have HA:=Qaz HA8;have HW:=Qaz hown;obtain⟨A1,c1,hA1⟩:=hown.anyForm;subst hA1;clear hx hhas h1 h2 hj hxn HA8 hown;generalize vdB l s=vd at HST k1;cases vd with
   |true=>
    have HE:Hid ((S.take (k+1)).filter (fun s=> !vdB l s)=fl):=Qaz (by rw[HST.out];simp);clear HST;go_wp2_with (go_at_call 82;refine HA.out.mono ?_;rintro e V ⟨rfl,rfl⟩);exact⟨⟨k+1,by omega,by go_num,by rw[HE.out];exact HW.out,hb⟩,by simp[intOf];omega⟩
   |false=>
    have HE:Hid ((S.take (k+1)).filter (fun s=> !vdB l s)=fl++[s]):=Qaz (by rw[HST.out];simp);clear HST;go_wp2_with (first|(go_at_call 82;refine HA.out.mono ?_;rintro e V ⟨rfl,rfl⟩)|(at_builtin;refine Classical.byContradiction fun hneg=> ?_));apply hneg;refine zao zcz 9 1 V10.heap.size 16 (fun _=>False) _ rfl _ _ 108 _ rfl Tryz.underlying108 info9 rfl (by decide) (by decide) (.slice A1 fl.length c1) fl rfl (HW.out.alloc _) ⟨wr.heap.size,0,none⟩ 1 rfl s [.string s] rfl ?cells ?one ?held ?hG ?base ?len ?_
    case cells=>exact fun j u hu=>zaq wr _ _ _ rfl j u hu
    case one=>intro u hu;simp at hu;rw[hu];rfl
    case held=>exact fun _ _=>rfl
    case hG=>exact fun b hb _=>hb.elim
    case base=>have:=hb.size;first|omega|(simp;omega)
    case len=>first|omega|(simp;omega)
    intro v' w1 hown1 hg1 _;have hb3:Below V10.heap.size V10 w1:=(hb.alloc hb.size _).grown hg1 (by have:=hb.size;simp;omega) fun k' e=>(HW.out.lt _ e).1;have HW3:=Qaz hown1;clear hneg hown1 hg1;go_wp2_with (fail);exact⟨⟨k+1,by omega,by go_num,by rw[HE.out];exact HW3.out,hb3⟩,by simp[intOf];omega⟩
  ·obtain rfl:k=S.length:=by omega
   rw[List.take_length]at hown;have hbW:Below w.heap.size w wr:=zab HPS10.out.1.bel hb;have HPS11:=Qaz (HPS10.out.all hb);obtain⟨A1,c1,hA1⟩:=hown.anyForm;subst hA1;have hfl:(S.filter fun s=> !vdB l s).length≤1002:=Nat.le_trans (List.length_filter_le _ _) hsl;have HT:=Qaz (zmb A c l A1 c1 (S.filter fun s=> !vdB l s) wr GH (HH.out wr hbW) hl hcp _ (Own.read hown).2.2 (by omega) (HSS.out.1.filter _));have HFF:=Qaz (HFO.out S);generalize(S.filter fun s=> !vdB l s)=F at HT hfl HFF;clear hown hb;obtain⟨vi,vs,vc,hpw⟩:=HPS11.out.1.ex;obtain⟨As,cs,hvs⟩:=hpw.os.anyForm;subst hvs;have HPW:=Qaz hpw
   have hltw:=hpw.lt;clear hpw;go_wp2_with (go_at_call 201;refine HT.out.mono ?_;rintro e V11 ⟨v11,T,rfl,hT,own11,hb11⟩;obtain⟨A11,c11,hv11⟩:=own11.anyForm;subst hv11;obtain⟨u4,f4⟩:=(HPW.out.all hb11).cel 4 _ rfl;obtain⟨u3,f3⟩:=(HPW.out.all hb11).cel 3 _ rfl);have HTT:=Qaz hT;have hset:=HPW.out.set_classes (L:=T) (v2:=.slice A11 T.length c11) ((Chg.of (S:=fun _=>False) hb11).mono fun _ _ q=>q.elim) (fun b e=>.inr (own11.lt b e).1) (own11.lower hltw);have HPS12:=Qaz (PcS.of hwp HPS11.out HPW.out hset.1 hset.2);have HP12:=Qaz hset.1;have htl:T.length≤1002:=Nat.le_trans hT.2 hfl
   clear hset own11 hb11 hT u4 f4 u3 f3 HT HPW HPS11 hltw;generalize V11.setCell ⟨pb,4,none⟩ (.slice A11 T.length c11)=V12 at HPS12 HP12 ⊢;have hl3:=HL3.out;refine(ziu As cs P3.subs V12 (Own.read HP12.out.os).2.2 (by omega)).mono ?_;rintro e V13 ⟨v13,S2,rfl,hS2,own13,hb13⟩;obtain⟨A13,c13,hv13⟩:=own13.anyForm;subst hv13;have HPS13:=Qaz (HPS12.out.all hb13);have HP13:=Qaz (HP12.out.all hb13);have hs2l:S2.length≤1000:=by have:=hS2.2.2;omega
   have HSS2:=Qaz hS2;have HT2:=Qaz (zmb A c l A13 c13 S2 V13 GH (HH.out V13 HPS13.out.1.bel) hl hcp _ (Own.read own13).2.2 (by omega) hS2.1);have hltw:=HP13.out.lt;clear own13 hb13 hS2 HP12 HPS12;go_wp2_with (go_at_call 201;refine HT2.out.mono ?_;rintro e V14 ⟨v14,T2,rfl,hT2,own14,hb14⟩;obtain⟨A14,c14,hv14⟩:=own14.anyForm;subst hv14;obtain⟨u4,f4⟩:=(HP13.out.all hb14).cel 4 _ rfl;obtain⟨u3,f3⟩:=(HP13.out.all hb14).cel 3 _ rfl);have HTT2:=Qaz hT2
   have hset:=HP13.out.set_subs (L:=T2) (v2:=.slice A14 T2.length c14) ((Chg.of (S:=fun _=>False) hb14).mono fun _ _ q=>q.elim) (fun b e=>.inr (own14.lt b e).1) (own14.lower hltw);have HPS15:=Qaz (PcS.of hwp HPS13.out HP13.out hset.1 hset.2);have HP15:=Qaz hset.1;have ht2l:T2.length≤1000:=Nat.le_trans hT2.2 hs2l;clear hset own14 hb14 hT2 u4 f4 u3 f3 HT2 HP13 HPS13 hltw;generalize V14.setCell ⟨pb,3,none⟩ (.slice A14 T2.length c14)=V15 at HPS15 HP15 ⊢;have HFIN:=Qaz (HFF.out T S2 T2 HSS.out.2.1 HTT.out.1 (fun s=>(HSS2.out.2.1 s).trans (by rw[HSB.out])) HTT2.out.1);clear HFF HFO HSS HSS2 HTT HTT2
   have HG1:=Qaz (zf9 (l:=T) (x:=zaw));have HG2:=Qaz (zf9 (l:=T) (x:=zak));have HI1:Hid (Calls Tryz.prog 97 #[.slice A11 T.length c11,.string ⟨#[60,99,108,97,115,115,62]⟩] V15 fun e w'=>e=.returned (.int .i64 (idx T zaw))∧V15=w'):=Qaz (zbv A11 c11 T zaw V15 (OwnS.strs HP15.out.oc) (by omega));have HI2:Hid (∀V,Strs A11 T V→Calls Tryz.prog 97 #[.slice A11 T.length c11,.string ⟨#[60,111,98,106,101,99,116,62]⟩] V fun e w'=>e=.returned (.int .i64 (idx T zak))∧V=w'):=Qaz (fun V hV=>zbv A11 c11 T zak V hV (by omega))
   have HFA:Hid (hasS T zak=true→PcsFin l P ⟨false,false,[],[],[zak]⟩):=Qaz (fun q=>HFIN.out.1 (zb8.1 q));have HFB:Hid (hasS T zak=false→PcsFin l P ⟨P3.no,P3.yes,P3.ints,if hasS T zaw=true then[]else T2,T⟩):=Qaz (fun q=>HFIN.out.2 (zbl.1 q));clear HFIN;generalize hasS T zaw=rc at HG1 HFB;generalize idx T zaw=ic at HG1 HI1;generalize hasS T zak=ro at HG2 HFA HFB;generalize idx T zak=io at HG2 HI2;refine HI1.out.mono ?_;rintro e Vx ⟨rfl,rfl⟩;have t1:=HG1.out
   go_upto_if 103 with fail
   go_cut [] (fun wx=>∃vs2,PcsAt pb { { P3 with classes:=T }with subs:=if rc=true then[]else T2 } vi vs2 (.slice A11 T.length c11) wx∧PcS w W3 pb { { P3 with classes:=T }with subs:=if rc=true then[]else T2 } wx)
   case first=>
    cases rc with
    |true=>
     obtain⟨u3,f3⟩:=HP15.out.cel 3 _ rfl;have S:=HP15.out.set_subs (L:=[]) (v2:=.slice none 0 0) (Chg.refl _ _) (fun b e=>by simp[Value.ownBlock]at e) (Own.nil _ _ _ _ _ _);have HS:=Qaz (And.intro S.1 (PcS.of hwp HPS15.out HP15.out S.1 S.2));clear S;go_wp2_with fail
     go_meet
     exact⟨_,HS.out⟩
    |false=>
     go_wp2_with fail
     go_meet
     exact⟨_,HP15.out,HPS15.out⟩
   case rest=>
   obtain⟨vs2,hp16,hps16⟩:=hcut;obtain⟨V16,hV16⟩:∃X,X=wc:=⟨_,rfl⟩;subst hV16;have HP16:=Qaz hp16;have HPS16:=Qaz hps16;have HR:=Qaz (HRES.out V16 hps16.2);obtain⟨u4,_⟩:=hp16.cel 4 _ rfl;clear hp16 hps16 HP15 HPS15 HI1 HG1 t1;go_wp2_with (fail);refine(HI2.out V16 (OwnS.strs HP16.out.oc)).mono ?_;rintro e Vx ⟨rfl,rfl⟩;have t2:=HG2.out;obtain⟨r0,h0⟩:=HR.out 0 _ rfl;obtain⟨r1,h1⟩:=HR.out 1 _ rfl;obtain⟨r2,h2⟩:=HR.out 2 _ rfl;obtain⟨r3,h3⟩:=HR.out 3 _ rfl;obtain⟨r4,h4⟩:=HR.out 4 _ rfl;have hltV:=HP16.out.lt;have hltR:w.heap.size+1<V16.heap.size:=cell_lt r0;cases ro with
   |true=>
    have HF:=Qaz (HFA.out rfl);clear HFA HFB u4;have hc:Cel (w.heap.size+1) [.bool false,.bool false,.slice none 0 0,.slice none 0 0,.slice none 0 0] V16:=fun j u hj=>HR.out j u hj;have hc5:=(((((hc.set 0 (by simp) (.bool false)).set 1 (by simp) (.bool false)).set 2 (by simp) (.slice none 0 0)).set 3 (by simp) (.slice none 0 0)).set 4 (by simp) (.slice (some ⟨V16.heap.size,0,none⟩) 1 1)).all ((Below.refl _ _).alloc (Qiz _) (.cells #[.string zak] 9))
    have hb5:=zsg (((((HPS16.out.1.bel.setCell (p:=⟨w.heap.size+1,0,none⟩) (Nat.le_succ _) (.bool false)).setCell (p:=⟨w.heap.size+1,1,none⟩) (Nat.le_succ _) (.bool false)).setCell (p:=⟨w.heap.size+1,2,none⟩) (Nat.le_succ _) (.slice none 0 0)).setCell (p:=⟨w.heap.size+1,3,none⟩) (Nat.le_succ _) (.slice none 0 0)).setCell (p:=⟨w.heap.size+1,4,none⟩) (Nat.le_succ _) (.slice (some ⟨V16.heap.size,0,none⟩) 1 1)) (.cells #[.string zak] 9)
    have ho5:Own zcz 9 1 w.heap.size (fun _=>False) (.slice (some ⟨V16.heap.size,0,none⟩) 1 1) [zak] ((((((V16.setCell ⟨w.heap.size+1,0,none⟩ (.bool false)).setCell ⟨w.heap.size+1,1,none⟩ (.bool false)).setCell ⟨w.heap.size+1,2,none⟩ (.slice none 0 0)).setCell ⟨w.heap.size+1,3,none⟩ (.slice none 0 0)).setCell ⟨w.heap.size+1,4,none⟩ (.slice (some ⟨V16.heap.size,0,none⟩) 1 1)).alloc (.cells #[.string zak] 9)):=
     Own.single (R:=zcz) (n:=V16.heap.size) (by simp[World.setCell]) (by omega) (x:=zak) (cs:=[.string zak]) rfl (by decide) (fun _ _=>rfl)
    have HC5:=Qaz hc5;have HB5:=Qaz hb5;have HO5:=Qaz ho5;clear hc hc5 hb5 ho5;go_wp2;obtain⟨Wf,hWf⟩:∃Wf,Wf=((((((V16.setCell ⟨w.heap.size+1,0,none⟩ (.bool false)).setCell ⟨w.heap.size+1,1,none⟩ (.bool false)).setCell ⟨w.heap.size+1,2,none⟩ (.slice none 0 0)).setCell ⟨w.heap.size+1,3,none⟩ (.slice none 0 0)).setCell ⟨w.heap.size+1,4,none⟩ (.slice (some ⟨V16.heap.size,0,none⟩) 1 1)).alloc (.cells #[.string zak] 9)):=⟨_,rfl⟩;have hc5:=HC5.out;have hb5:=HB5.out;have ho5:=HO5.out;clear HC5 HB5 HO5;rw[←hWf]at hc5 hb5 ho5
    first|rw[←hWf]|(rw[show(⟨#[60,111,98,106,101,99,116,62]⟩:ByteArray)=zak from rfl,←hWf])
    clear hWf;have z0:=(hc5 0 _ rfl).1;have z1:=(hc5 1 _ rfl).1;have z2:=(hc5 2 _ rfl).1;have z3:=(hc5 3 _ rfl).1;have z4:=(hc5 4 _ rfl).1;refine bodyPost_ret (v:=.agg #[.bool false,.bool false,.slice none 0 0,.slice none 0 0,.slice (some ⟨V16.heap.size,0,none⟩) 1 1]) (by simp[results,Tryz.results163,go_sem,z0,z1,z2,z3,z4]) rfl ?_;exact⟨⟨false,false,[],[],[zak]⟩,_,_,_,rfl,HF.out,⟨by simp,by simp,by simp⟩,Own.nil _ _ _ _ _ _,Own.nil _ _ _ _ _ _,ho5,hb5⟩
   |false=>
    have HF:=Qaz (HFB.out rfl);clear HFA HFB;obtain⟨Ai2,ci2,hvi⟩:=HP16.out.oi.anyForm;obtain⟨As2,cs2,hvs⟩:=HP16.out.os.anyForm;subst hvi hvs;have HLN:Hid (P3.ints.length≤3000∧(if rc=true then[]else T2).length≤3000∧T.length≤3000):=Qaz ⟨by have:=HL3.out;omega,by split;simp;omega,by omega⟩;obtain⟨s0,_⟩:=HP16.out.cel 0 _ rfl;obtain⟨s1,_⟩:=HP16.out.cel 1 _ rfl;obtain⟨s2,_⟩:=HP16.out.cel 2 _ rfl;obtain⟨s3,_⟩:=HP16.out.cel 3 _ rfl;clear HL3
    have KEEP:∀{α:Type}{R:α→List Value→World→Prop}{T0 sz:Nat}{v:Value}{L:List α}{V:World},Own R T0 sz (pb+1) (fun _=>False) v L V→∀j u,Own R T0 sz (pb+1) (fun _=>False) v L (V.setCell ⟨w.heap.size+1,j,none⟩ u):=fun h j u=>h.setCell (p:=⟨w.heap.size+1,j,none⟩) (fun _ hb=>hb.elim) (fun e=>by have h1:=(h.lt _ e).1;have h2:pb+1≤w.heap.size+1:=h1;have:=HPB.out;omega) u;have hc:Cel (w.heap.size+1) [.bool false,.bool false,.slice none 0 0,.slice none 0 0,.slice none 0 0] V16:=fun j u hj=>HR.out j u hj;generalize hcl:(if rc=true then[]else T2)=T3 at*
    have hc5:=(((((hc.set 0 (by simp) (.bool P3.no)).set 1 (by simp) (.bool P3.yes)).set 2 (by simp) (.slice Ai2 P3.ints.length ci2)).set 3 (by simp) (.slice As2 T3.length cs2)).set 4 (by simp) (.slice A11 T.length c11))
    have hb5:=(((((HPS16.out.1.bel.setCell (p:=⟨w.heap.size+1,0,none⟩) (Nat.le_succ _) (.bool P3.no)).setCell (p:=⟨w.heap.size+1,1,none⟩) (Nat.le_succ _) (.bool P3.yes)).setCell (p:=⟨w.heap.size+1,2,none⟩) (Nat.le_succ _) (.slice Ai2 P3.ints.length ci2)).setCell (p:=⟨w.heap.size+1,3,none⟩) (Nat.le_succ _) (.slice As2 T3.length cs2)).setCell (p:=⟨w.heap.size+1,4,none⟩) (Nat.le_succ _) (.slice A11 T.length c11))
    have k1:=((KEEP (KEEP (KEEP (KEEP (KEEP HP16.out.oi 0 (.bool P3.no)) 1 (.bool P3.yes)) 2 (.slice Ai2 P3.ints.length ci2)) 3 (.slice As2 T3.length cs2)) 4 (.slice A11 T.length c11))).lower (base':=w.heap.size) (by omega);have k2:=((KEEP (KEEP (KEEP (KEEP (KEEP HP16.out.os 0 (.bool P3.no)) 1 (.bool P3.yes)) 2 (.slice Ai2 P3.ints.length ci2)) 3 (.slice As2 T3.length cs2)) 4 (.slice A11 T.length c11))).lower (base':=w.heap.size) (by omega)
    have k3:=((KEEP (KEEP (KEEP (KEEP (KEEP HP16.out.oc 0 (.bool P3.no)) 1 (.bool P3.yes)) 2 (.slice Ai2 P3.ints.length ci2)) 3 (.slice As2 T3.length cs2)) 4 (.slice A11 T.length c11))).lower (base':=w.heap.size) (by omega);have HC5:=Qaz hc5;have HB5:=Qaz hb5;have K1:=Qaz k1;have K2:=Qaz k2;have K3:=Qaz k3;have HCL:=Qaz hcl;clear hc hc5 hb5 k1 k2 k3 KEEP hcl;go_wp2
    obtain⟨Wf,hWf⟩:∃Wf,Wf=(((((V16.setCell ⟨w.heap.size+1,0,none⟩ (.bool P3.no)).setCell ⟨w.heap.size+1,1,none⟩ (.bool P3.yes)).setCell ⟨w.heap.size+1,2,none⟩ (.slice Ai2 P3.ints.length ci2)).setCell ⟨w.heap.size+1,3,none⟩ (.slice As2 T3.length cs2)).setCell ⟨w.heap.size+1,4,none⟩ (.slice A11 T.length c11)):=⟨_,rfl⟩;have hc5:=HC5.out;have hb5:=HB5.out;have k1:=K1.out;have k2:=K2.out;have k3:=K3.out;clear HC5 HB5 K1 K2 K3;rw[←hWf]at hc5 hb5 k1 k2 k3;rw[←hWf];clear hWf;have z0:=(hc5 0 _ rfl).1;have z1:=(hc5 1 _ rfl).1;have z2:=(hc5 2 _ rfl).1;have z3:=(hc5 3 _ rfl).1;have z4:=(hc5 4 _ rfl).1
    refine bodyPost_ret (v:=.agg #[.bool P3.no,.bool P3.yes,.slice Ai2 P3.ints.length ci2,.slice As2 T3.length cs2,.slice A11 T.length c11]) (by simp[results,Tryz.results163,go_sem,z0,z1,z2,z3,z4]) rfl ?_;exact⟨⟨P3.no,P3.yes,P3.ints,T3,T⟩,_,_,_,rfl,by first|exact HF.out|(rw[←HCL.out];exact HF.out),by first|exact HLN.out|(rw[←HCL.out];exact HLN.out),k1,k2,k3,hb5⟩
theorem zn8(pb:Nat)(AC:Option Addr)(cC:Nat)(y:Pcs)(A:Option Addr)(c:Nat)(l:List CI)(W:World)(GH:Nat→Prop)(h:Held GH (CIs A l) W)(hl:l.length≤1000000)(hcp:∀x∈l,x.cpl.length≤1000000)(hsp:∀x∈l,x.supers.length≤1000000)(hL:zai l)
  (h4:W.cell? ⟨pb,4,none⟩=some (.slice AC y.classes.length cC)) (hS:Strs AC y.classes W) (hSH:Held (fun b=>b<W.heap.size) (Strs AC y.classes) W) (hlc:y.classes.length≤1000000) (hy:PcsOk l y) (ho:zak∉y.classes):
  Calls Tryz.prog 167 #[.pointer (some ⟨pb,0,none⟩),.slice A l.length c] W fun e W'=>∃g out,e=.returned (.slice (some ⟨g,0,none⟩) l.length l.length)∧Tells l (fun s=>zc0 l (zbj y) (zau s)) 0 out∧Own zej 4 1 W.heap.size (fun _=>False) (.slice (some ⟨g,0,none⟩) l.length l.length) out W'∧Below W.heap.size W W':=by
 have H:=Qaz h;have HSP:=Qaz hsp;have HMA:=Qaz (zj5 A c l W GH h hl hsp hL);have HSO:Hid (∀s V,Below W.heap.size W V→Calls Tryz.prog 166 #[.slice A l.length c,.string s,.slice AC y.classes.length cC] V fun e W'=>e=.returned (.bool (y.classes.any (za0 l s)))∧V=W'):=Qaz (fun s V hV=>zlu A c l s AC cC y.classes V GH (h.keep (Keep.all hV)) hl hcp (hSH.keep (Keep.all hV)).now hlc);have H4:Hid (∀V,Below W.heap.size W V→V.cell? ⟨pb,4,none⟩=some (.slice AC y.classes.length cC)):=Qaz (fun V hV=>zaa h4 hV)
 have HCV:Hid (∀(i:Nat)(x:CI),l[i]? =some x→zc0 l (zbj y) (zau x.name)=(y.classes.any (za0 l x.name)||(zdk l x.name&&(x.abs&&(l.drop (i+1)).all fun z=> !hasS z.supers x.name||zc0 l (zbj y) (zau z.name))))):=Qaz (fun i x hx=>by
  rw[z0y hL hy ho (by unfold hasB;rw[(zd1 hL hx rfl).2];rfl),z0q hL hx,zxs hL hx])
 have hmk:=zq0 l.length hl;clear h hsp hcp h4 hS hSH;go_enter Tryz.func167,Tryz.ntmps167;go_wp2_with (go_at_call 199;refine HMA.out.mono ?_;rintro e V ⟨g1,g2,bc,bv,rfl,tc,tv,oc,ov,hbV⟩);clear hmk HMA tv ov;have h1:=(zh0 V l.length hl).lower hbV.size;have e1:l.length*1=l.length:=Nat.mul_one _;rw[e1]at h1;have hg1:g1<V.heap.size:=(oc.lt g1 (by simp[Value.ownBlock])).2;have oc1:=oc.alloc (.cells (madeCells #[Value.bool false] l.length) 4);obtain⟨g,hg⟩:∃g,V.heap.size=g:=⟨_,rfl⟩;obtain⟨W1,hW1⟩:∃W1,W1=V.alloc (.cells (madeCells #[Value.bool false] l.length) 4):=⟨_,rfl⟩
 have b1:Below W.heap.size W W1:=by rw[hW1];exact hbV.alloc hbV.size _
 have hgW:W.heap.size≤g:=by rw[←hg];exact hbV.size
 rw[←hW1]at oc1 h1;rw[hg]at h1 hg1;have hgg:g1≠g:=by omega
 rw[←hW1,hg];clear hW1 hg e1 oc hbV;have TC:=Qaz tc;clear tc
 go_loopw [8] (fun i wr=>∃(m:Nat)(out:List Bool),m≤l.length∧i=.int .i64 ((m:Int)-1)∧Tells l (fun s=>zc0 l (zbj y) (zau s)) m out∧Own zej 4 1 W.heap.size (fun _=>False) (.slice (some ⟨g,0,none⟩) l.length l.length) out wr∧Own zej 4 1 W.heap.size (fun _=>False) (.slice (some ⟨g1,0,none⟩) l.length l.length) bc wr∧Below W.heap.size W wr) (fun i _=>(intOf i+1).toNat)
 case atStart=>
  exact⟨l.length,_,Qiz _,rfl,⟨by simp,fun j x hj hx=>absurd (Qcz hx).1 (by omega)⟩,h1,oc1,b1⟩
 case round=>
  clear h1 oc1 b1;obtain⟨m,out,hm,rfl,tw,oo,oc,hb⟩:=hrel;by_cases hz:m=0
  ·subst hz;have TO:=Qaz tw;have OO:=Qaz oo;clear tw oo oc;rw[show(((0:Nat):Int)-1)= -1 from rfl];go_wp2;go_ret;exact⟨_,out,rfl,TO.out,OO.out,hb⟩
  obtain⟨q,rfl⟩:∃q,m=q+1:=⟨m-1,by omega⟩;rw[show(((q+1:Nat):Int)-1)=(q:Int) by omega];have hql:q<l.length:=by omega
  have hx:l[q]? =some l[q]:=Qbz hql;generalize l[q]=x at hx;obtain⟨b,off,rfl⟩:=Slc.addrH H.out (by omega);have hbl:b<W.heap.size:=(Slc.inG H.out (by omega) (by decide)).1;have n1:¬b=g:=by omega
  have hbd:Below W.heap.size W wr.drew:=zab hb (Below.refl _ wr).drew;obtain⟨_,_,_,_,_,_,_,_,g0,_,_,_,g4,_⟩:=CIs.atH (H.out.keep (Keep.all hbd)) hx;obtain⟨z1,hz1⟩:∃z,out[q]? =some z:=⟨out[q]'(by rw[tw.1];exact hql),Qbz _⟩;obtain⟨k1,f1⟩:=OwnB.at oo.drew hz1;have hc0:bc[q]? =some (zdk l x.name):=TC.out.2 q x (Qjz _) hx;have r4:=H4.out _ hbd;have HX:=Qaz hx;have HS:=Qaz (HSO.out x.name _ hbd);have HC:=Qaz (HCV.out q x hx);have TO:=Qaz tw;have o1:=fun v=>OwnB.set oo.drew hz1 v
  have c1:=fun(v:Bool)=>oc.drew.setCell (p:=⟨g,q,none⟩) (fun _ h=>h.elim) (fun e=>by simp[Value.ownBlock]at e;exact hgg e) (.bool v);have bq:=fun(v:Bool)=>hbd.setCell (p:=⟨g,q,none⟩) hgW (.bool v);have O1:=Qaz o1;have C1:=Qaz c1;have B1:=Qaz bq;clear o1 c1 bq oo oc tw hz1 hx;generalize y.classes.any (za0 l x.name)=b0 at HS HC
  go_upto_region 6 with fail
  go_cut [] (fun wx=>Own zej 4 1 W.heap.size (fun _=>False) (.slice (some ⟨g,0,none⟩) l.length l.length) (out.set q b0) wx∧Own zej 4 1 W.heap.size (fun _=>False) (.slice (some ⟨g1,0,none⟩) l.length l.length) bc wx∧Below W.heap.size W wx)
  case first=>
   go_region_with (go_at_call 166;refine HS.out.mono ?_;rintro e V2 ⟨rfl,rfl⟩)
   all_goals
    go_wp2_with fail
    go_meet
    exact⟨O1.out b0,C1.out b0,B1.out b0⟩
  case rest=>
  obtain⟨oo,oc,hb2⟩:=hcut;obtain⟨W2,hW2⟩:∃X,X=wc:=⟨_,rfl⟩;subst hW2;clear O1 C1 B1 HS k1 f1 g0 g4 r4 hbd hb hz;have hlo:out.length=l.length:=TO.out.1;have hoq:∀v:Bool,(out.set q v)[q]? =some v:=fun v=>by rw[List.getElem?_set_self (by rw[hlo];exact hql)]
  obtain⟨k1,f1⟩:=OwnB.at oo (hoq b0);obtain⟨k2,_⟩:=OwnB.at oc hc0;obtain⟨_,_,_,_,_,_,_,_,g0,_,_,_,g4,_⟩:=CIs.atH (H.out.keep (Keep.all hb2)) HX.out;have TS:Hid (∀v,v=zc0 l (zbj y) (zau x.name)→Tells l (fun s=>zc0 l (zbj y) (zau s)) q (out.set q v)):=Qaz (fun v hv=>Tells.set TO.out HX.out hv);have OO:=Qaz oo;have OC:=Qaz oc;clear oo oc;generalize zc0 l (zbj y) (zau x.name)=cv at HC TS;generalize zdk l x.name=cx at hc0 HC k2;generalize x.abs=xa at HC g4;cases b0 with
  |true=>
   have E:Hid (true=cv):=Qaz (by rw[HC.out];simp);clear HC hc0 hoq;go_wp2_with (fail);go_roundw
   case rel=>exact⟨q,_,by omega,by go_num,TS.out _ E.out,OO.out,OC.out,hb2⟩
   case measure=>simp[intOf]<;>omega
  |false=>
  cases cx with
  |false=>
   have E:Hid (false=cv):=Qaz (by rw[HC.out];simp);clear HC hc0 hoq;go_wp2_with (fail);go_roundw
   case rel=>exact⟨q,_,by omega,by go_num,TS.out _ E.out,OO.out,OC.out,hb2⟩
   case measure=>simp[intOf]<;>omega
  |true=>
  cases xa with
  |false=>
   have E:Hid (false=cv):=Qaz (by rw[HC.out];simp);clear HC hc0 hoq;go_wp2_with (fail);go_roundw
   case rel=>exact⟨q,_,by omega,by go_num,TS.out _ E.out,OO.out,OC.out,hb2⟩
   case measure=>simp[intOf]<;>omega
  |true=>
  have E:Hid (cv=(l.drop (q+1)).all fun z=> !hasS z.supers x.name||zc0 l (zbj y) (zau z.name)):=Qaz (by rw[HC.out];simp);have o3:=OwnB.set OO.out (hoq false) true;rw[List.set_set]at o3;have c3:=OC.out.setCell (p:=⟨g,q,none⟩) (fun _ h=>h.elim) (fun e=>by simp[Value.ownBlock]at e;exact hgg e) (.bool true);have b3:=hb2.setCell (p:=⟨g,q,none⟩) hgW (.bool true);have O3:=Qaz o3;have C3:=Qaz c3;have B3:=Qaz b3;clear HC o3 c3 b3 OO OC hc0 hoq;go_wp2_with (fail);obtain⟨W3,hW3⟩:∃W3,W3=W2.setCell ⟨g,q,none⟩ (.bool true):=⟨_,rfl⟩;rw[←hW3]at O3 C3 B3;rw[←hW3];clear hW3 k1 f1 k2 g0 g4 hb2
  go_loopw [9] (fun i wi=>∃k:Nat,q+1≤k∧k≤l.length∧i=.int .i64 (k:Int)∧Own zej 4 1 W.heap.size (fun _=>False) (.slice (some ⟨g,0,none⟩) l.length l.length) (out.set q (zek l x.name (fun s=>zc0 l (zbj y) (zau s)) q (k-(q+1)))) wi∧
   Own zej 4 1 W.heap.size (fun _=>False) (.slice (some ⟨g1,0,none⟩) l.length l.length) bc wi∧Below W.heap.size W wi) (fun i _=>l.length-(intOf i).toNat)
  case atStart=>
   refine⟨q+1,Qiz _,hm,by go_num,?_,C3.out,B3.out⟩;rw[Nat.sub_self,zjg];exact O3.out
  case round=>
   clear O3 C3 B3;obtain⟨k,hk1,hk2,rfl,oo,oc,hb⟩:=hrel;have hoq:∀v:Bool,(out.set q v)[q]? =some v:=fun v=>by rw[List.getElem?_set_self (by rw[hlo];exact hql)]
   obtain⟨k1,f1⟩:=OwnB.at oo (hoq _);by_cases hlt:k<l.length
   ·have hz:l[k]? =some l[k]:=Qbz hlt;generalize l[k]=z at hz;obtain⟨A4,c4,_,_,_,_,S4,_,_,_,y2,_⟩:=CIs.atH (H.out.keep (Keep.all hb)) hz;obtain⟨_,_,_,_,_,_,_,_,g0,_⟩:=CIs.atH (H.out.keep (Keep.all hb)) HX.out;have hne:q≠k:=by omega
    obtain⟨k3,_⟩:=OwnB.at (i:=k) (x:=zc0 l (zbj y) (zau z.name)) oo (by rw[List.getElem?_set_ne hne];exact TO.out.2 k z (by omega) hz);have hyk:l[q+1+(k-(q+1))]? =some z:=by rw[show q+1+(k-(q+1))=k by omega];exact hz
    have hc1:=zju x.name (fun s=>zc0 l (zbj y) (zau s)) hyk;rw[show k-(q+1)+1=k+1-(q+1) by omega]at hc1;have HC1:=Qaz hc1;have HI:Hid (∀V,Drw wr V→Calls Tryz.prog 97 #[.slice A4 z.supers.length c4,.string x.name] V fun e V'=>e=.returned (.int .i64 (idx z.supers x.name))∧V=V'):=Qaz (fun V ⟨n,hV⟩=>zbv A4 c4 z.supers x.name V (S4.keep (Keep.all (by rw[hV];exact zad _ _ _))).now (HSP.out z (Qdz hz)));have HG:=Qaz (zf9 (l:=z.supers) (x:=x.name));have OO:=Qaz oo;have OC:=Qaz oc;have HBN:Hid (∀n,Below W.heap.size W (wr.drewN n)):=Qaz (fun n=>hb.trans (zad _ _ _));clear hz hyk S4 oo oc hc1
    generalize hasS z.supers x.name=r at HC1 HG;generalize idx z.supers x.name=ix at HI HG;generalize zc0 l (zbj y) (zau z.name)=cz at HC1 k3;generalize zek l x.name (fun s=>zc0 l (zbj y) (zau s)) q (k-(q+1))=v1 at HC1 OO k1;have NEW:Hid (∀n v,Own zej 4 1 W.heap.size (fun _=>False) (.slice (some ⟨g,0,none⟩) l.length l.length) (out.set q v) ((wr.drewN n).setCell ⟨g,q,none⟩ (.bool v))∧Own zej 4 1 W.heap.size (fun _=>False) (.slice (some ⟨g1,0,none⟩) l.length l.length) bc ((wr.drewN n).setCell ⟨g,q,none⟩ (.bool v))∧Below W.heap.size W ((wr.drewN n).setCell ⟨g,q,none⟩ (.bool v))):=Qaz (fun n v=>by
     have o1:=OwnB.set (OO.out.drewN n) (hoq _) v;rw[List.set_set]at o1;exact⟨o1,(OC.out.drewN n).setCell (p:=⟨g,q,none⟩) (fun _ h=>h.elim) (fun e=>by simp[Value.ownBlock]at e;exact hgg e) (.bool v),(HBN.out n).setCell (p:=⟨g,q,none⟩) hgW _⟩)
    clear hoq;have t2:=HG.out;cases r with
    |false=>
     have E1:Hid (zek l x.name (fun s=>zc0 l (zbj y) (zau s)) q (k+1-(q+1))=v1):=Qaz (by rw[HC1.out];simp);clear HC1 NEW;go_wp2_with (fail)
     go_quiet ((go_at_call 97;exact(HI.out _ (by first|exact Drw.of _ _|exact(Drw.of _ _).drewN _)).mono fun _ _ ⟨a,b⟩=>⟨a,_,b.symm⟩))
     go_wp2_with (fail);exact⟨⟨k+1,by omega,by omega,by go_num,by rw[E1.out];exact OO.out.drewN _,OC.out.drewN _,HBN.out _⟩,by simp[intOf];omega⟩
    |true=>
     cases v1
     all_goals
      go_wp2_with (fail)
      go_quiet ((go_at_call 97;exact(HI.out _ (by first|exact Drw.of _ _|exact(Drw.of _ _).drewN _)).mono fun _ _ ⟨a,b⟩=>⟨a,_,b.symm⟩))
      have k1':(wr.drewN nq).cell? ⟨g,q,none⟩=_:=k1;have f1':(wr.drewN nq).frozen? ⟨g,q,none⟩=_:=f1;have k3':(wr.drewN nq).cell? ⟨g,k,none⟩=_:=k3;have E1:=HC1.out;simp only[Bool.true_and,Bool.false_and,Bool.not_true,Bool.false_or]at E1;have E1:=Qaz E1;go_wp2_with (fail);exact⟨⟨k+1,by omega,by omega,by go_num,by rw[E1.out];exact(NEW.out _ _).1,(NEW.out _ _).2.1,(NEW.out _ _).2.2⟩,by simp[intOf];omega⟩
   ·obtain rfl:k=l.length:=by omega
    have E1:Hid (zek l x.name (fun s=>zc0 l (zbj y) (zau s)) q (l.length-(q+1))=cv):=Qaz (by rw[zkx _ _ (by omega),E.out]);rw[E1.out]at oo;have OO:=Qaz oo;have OC:=Qaz oc;clear oo oc hoq k1 f1;go_wp2_with (fail);go_roundw
    case rel=>exact⟨q,_,by omega,by go_num,TS.out _ rfl,OO.out,OC.out,hb⟩
    case measure=>simp[intOf]<;>omega
end
end Go.Proofs.YtepnmejahbiacaaGreat
