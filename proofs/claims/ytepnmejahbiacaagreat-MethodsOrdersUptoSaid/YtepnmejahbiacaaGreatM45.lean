/- Part 45 of the proof: Yr, Ys, Yt, Ea. -/
import Derived.Test.YtepnmejahbiacaaGreatM44
import Derived.Test.YtepnmejahbiacaaGreatM40
import Derived.Test.YtepnmejahbiacaaGreatM31
set_option linter.unusedVariables false
set_option linter.unusedSimpArgs false
set_option maxHeartbeats 64000000
set_option maxRecDepth 100000
namespace Go.Proofs.YtepnmejahbiacaaGreat
open Go.RowKit
section
open Go.Deep
attribute [local go_sem ↓] Go.wp_at_zero Go.wp_at_succ
theorem zis{α:Type}{p:α→Bool}{L:List α}{k:Nat}{y:α}(hy:L[k]? =some y)(h0:(L.take k).all p=true)(h1:p y=true):(L.take (k+1)).all p=true:=by
 rw[take_snoc hy,List.all_append,h0];simp[h1]
theorem zsr{α:Type}{p:α→Bool}{L:List α}{k:Nat}{y:α}(hy:L[k]? =some y)(h1:p y=false):L.all p=false:=List.all_eq_false.2 ⟨y,Qdz hy,by rw[h1];decide⟩
structure PcIn (l:List CI) (g:Nat) (r:Pcs) (Ai As Ac:Option Addr) (ci cs cc:Nat) (V:World):Prop where
 cel:Cel g [.bool r.no,.bool r.yes,.slice Ai r.ints.length ci,.slice As r.subs.length cs,.slice Ac r.classes.length cc] V
 ti:Held (fun b=>b<V.heap.size) (Typs Ai r.ints) V
 ts:Held (fun b=>b<V.heap.size) (Strs As r.subs) V
 tc:Held (fun b=>b<V.heap.size) (Strs Ac r.classes) V
 len:r.ints.length≤3000∧r.subs.length≤3000∧r.classes.length≤3000
theorem PcIn.all{l:List CI}{g:Nat}{r:Pcs}{Ai As Ac:Option Addr}{ci cs cc:Nat}{V V':World}(h:PcIn l g r Ai As Ac ci cs cc V)(k:Below V.heap.size V V'):PcIn l g r Ai As Ac ci cs cc V':=
 ⟨h.cel.all k,(h.ti.keep (Keep.all k)).mono fun b _ hb=>Nat.lt_of_lt_of_le hb k.size,(h.ts.keep (Keep.all k)).mono fun b _ hb=>Nat.lt_of_lt_of_le hb k.size,(h.tc.keep (Keep.all k)).mono fun b _ hb=>Nat.lt_of_lt_of_le hb k.size,h.len⟩
theorem PcIn.mk'{l:List CI}{r:Pcs}{Ai As Ac:Option Addr}{ci cs cc:Nat}{V:World}(T:TypeId){B:Nat}(g:Nat)(hg:g=V.heap.size)(h1:Own typR 36 5 B (fun _=>False) (.slice Ai r.ints.length ci) r.ints V)(h2:Own zcz 9 1 B (fun _=>False) (.slice As r.subs.length cs) r.subs V)(h3:Own zcz 9 1 B (fun _=>False) (.slice Ac r.classes.length cc) r.classes V)(hl:r.ints.length≤3000∧r.subs.length≤3000∧r.classes.length≤3000):
  PcIn l g r Ai As Ac ci cs cc (V.alloc (.cells #[.bool r.no,.bool r.yes,.slice Ai r.ints.length ci,.slice As r.subs.length cs,.slice Ac r.classes.length cc] T)):=by
 have k:Below V.heap.size V (V.alloc (.cells #[.bool r.no,.bool r.yes,.slice Ai r.ints.length ci,.slice As r.subs.length cs,.slice Ac r.classes.length cc] T)):=(Below.refl _ V).alloc (Qiz _) _;exact⟨Cel.new V _ T g hg,((Own.read h1).2.2.here.keep (Keep.all k)).mono fun b _ hb=>Nat.lt_of_lt_of_le hb k.size,((Own.read h2).2.2.here.keep (Keep.all k)).mono fun b _ hb=>Nat.lt_of_lt_of_le hb k.size,((Own.read h3).2.2.here.keep (Keep.all k)).mono fun b _ hb=>Nat.lt_of_lt_of_le hb k.size,hl⟩
theorem z1h{l:List CI}(hL:zai l){p:PartsT}{c r:Pcs}(R:PcRel l p c)(F:PcsFin l c r):∀s∈r.classes,hasB l s=true:=by
 obtain⟨M,_,_,⟨q,rfl⟩|⟨q,f1,f2,f3,f4,f5⟩⟩:=F
 ·intro s hs;rw[List.mem_singleton.1 hs];exact zit hL zrz
 ·intro s hs;rcases(zen hL).1 ((f4 s).1 hs).1 with⟨h,_⟩|⟨rfl,_⟩|⟨rfl,_⟩
  ·exact R.hasC s h
  ·exact zit hL zl5
  ·exact zit hL zjx
theorem zn9(A:Option Addr)(c:Nat)(l:List CI)(a b:Ty)(Aa Ab:Option Addr)(ca cb:Nat)(w:World)(GH:Nat→Prop)(hA:Held GH (CIs A l) w)(hl:l.length≤1000000)(hcp:∀x∈l,x.cpl.length≤1000000)(hsp:∀x∈l,x.supers.length≤1000000)(hL:zai l)
  (G:Nat→Prop) (hTa:Held G (Typs Aa a.args) w) (hfa:zam l a=true) (hba:a.all zhs=true) (hsa:a.count≤1000) (G':Nat→Prop) (hTb:Held G' (Typs Ab b.args) w) (hfb:zam l b=true) (hbb:b.all zhs=true) (hsb:b.count≤1000):
  Calls Tryz.prog 116 #[.slice A l.length c,tyV a Aa ca,tyV b Ab cb] w fun e w'=>∃x y,PcsFin l (zc3 a zdz) x∧PcsFin l (zc3 b zdz) y∧e=.returned (.bool (zef l x y))∧Below w.heap.size w w':=by
 obtain⟨W1,hW1⟩:∃W1,W1=(w.alloc (.cells #[.int .i64 a.kind,.string a.name,.int .i64 a.lo,.int .i64 a.hi,.slice Aa a.args.length ca] 36)).alloc (.cells #[.int .i64 b.kind,.string b.name,.int .i64 b.lo,.int .i64 b.hi,.slice Ab b.args.length cb] 36):=⟨_,rfl⟩;have b1:Below w.heap.size w W1:=by rw[hW1];exact((Below.refl _ w).alloc (Qiz _) _).alloc (by simp) _
 have xb:∀j u,[Value.int .i64 b.kind,.string b.name,.int .i64 b.lo,.int .i64 b.hi,.slice Ab b.args.length cb][j]? =some u→W1.cell? ⟨w.heap.size+1,j,none⟩=some u:=fun j u hj=>by rw[hW1];exact zac (w.alloc _) _ _ _ (by simp) j u hj
 have HXB:=Qaz xb;have HH:Hid (∀V,Below w.heap.size w V→Held GH (CIs A l) V):=Qaz (fun V hv=>hA.keep (Keep.all hv));have HPA:=Qaz (zix A c l a Aa ca W1 GH (hA.keep (Keep.all b1)) hl hcp hsp hL G (hTa.keep (Keep.all b1)) hfa hba hsa);have HPB:=Qaz (fun V (hv:Below w.heap.size w V)=>zix A c l b Ab cb V GH (HH.out V hv) hl hcp hsp hL G' (hTb.keep (Keep.all hv)) hfb hbb hsb);have HB1:=Qaz b1;have HPRa:Hid (∀x,PcsFin l (zc3 a zdz) x→PcsOk l x):=Qaz (fun x hx=>hx.ok (PcRel.coll hL a zbk zdz hfa (PcRel.none l)))
 have HPRb:Hid (∀x,PcsFin l (zc3 b zdz) x→PcsOk l x):=Qaz (fun x hx=>hx.ok (PcRel.coll hL b zbk zdz hfb (PcRel.none l)));have HHC:Hid (∀x,PcsFin l (zc3 a zdz) x→∀s∈x.classes,hasB l s=true):=Qaz (fun x hx s hs=>z1h hL (PcRel.coll hL a zbk zdz hfa (PcRel.none l)) hx s hs);generalize zc3 a zdz=Pa at HPA HPRa HHC ⊢;generalize zc3 b zdz=Pb at HPB HPRb ⊢;clear hA hTa hTb hfa hfb hba hbb hsa hsb b1 xb;go_enter Tryz.func116,Tryz.ntmps116;go_wp2_with (fail);rw[←hW1];clear hW1;refine HPA.out.mono ?_;rintro e V ⟨x,vi,vs,vc,rfl,hfx,hlx,o1,o2,o3,hb1⟩;obtain⟨Ai,ci,hvi⟩:=o1.anyForm
 obtain⟨As,cs,hvs⟩:=o2.anyForm;obtain⟨Ac,cc,hvc⟩:=o3.anyForm;subst hvi hvs hvc;have HPX:=Qaz (PcIn.mk' (l:=l) 191 V.heap.size rfl o1 o2 o3 hlx);have hbwV:=zab HB1.out hb1;have y0:=zaa (HXB.out 0 _ rfl) hb1;have y1:=zaa (HXB.out 1 _ rfl) hb1;have y2:=zaa (HXB.out 2 _ rfl) hb1;have y3:=zaa (HXB.out 3 _ rfl) hb1;have y4:=zaa (HXB.out 4 _ rfl) hb1;have hly0:w.heap.size+1<V.heap.size:=cell_lt y0;have HFX:=Qaz hfx;clear o1 o2 o3 hlx hb1 hfx HPA;go_wp2_with (fail)
 obtain⟨V1,hV1⟩:∃V1,V1=V.alloc (.cells #[.bool x.no,.bool x.yes,.slice Ai x.ints.length ci,.slice As x.subs.length cs,.slice Ac x.classes.length cc] 191):=⟨_,rfl⟩;have bV1:Below w.heap.size w V1:=by rw[hV1];exact hbwV.alloc hbwV.size _
 rw[←hV1]at HPX;rw[←hV1];clear hV1 y0 y1 y2 y3 y4 hbwV hly0;obtain⟨g1,hg1⟩:∃g1,V.heap.size=g1:=⟨_,rfl⟩;rw[hg1]at HPX ⊢;clear hg1;refine(HPB.out V1 bV1).mono ?_;rintro e V2 ⟨y,vi2,vs2,vc2,rfl,hfy,hly,o1,o2,o3,hb2⟩;obtain⟨Bi,di,hvi⟩:=o1.anyForm;obtain⟨Bs,ds,hvs⟩:=o2.anyForm;obtain⟨Bc,dc,hvc⟩:=o3.anyForm;subst hvi hvs hvc;have HPY:=Qaz (PcIn.mk' (l:=l) 191 V2.heap.size rfl o1 o2 o3 hly);have HFY:=Qaz hfy;have HBV1:=Qaz bV1;have HB2:=Qaz hb2;have hfr:Held (fun b=>b<V1.heap.size) (fun V=>True) V1:=fun _ _=>trivial;clear o1 o2 o3 hly hfy HPB hfr bV1 hb2;go_wp2_with (fail)
 obtain⟨V3,hV3⟩:∃V3,V3=V2.alloc (.cells #[.bool y.no,.bool y.yes,.slice Bi y.ints.length di,.slice Bs y.subs.length ds,.slice Bc y.classes.length dc] 191):=⟨_,rfl⟩;have b23:Below V2.heap.size V2 V3:=by rw[hV3];exact(Below.refl _ V2).alloc (Qiz _) _
 have hbw:Below w.heap.size w V3:=zab (zab HBV1.out HB2.out) b23;have HIX:Hid (∀V',Below V3.heap.size V3 V'→PcIn l g1 x Ai As Ac ci cs cc V'):=Qaz (fun V' hv=>((HPX.out.all HB2.out).all b23).all hv);rw[←hV3]at HPY;rw[←hV3];obtain⟨g2,hg2⟩:∃g2,V2.heap.size=g2:=⟨_,rfl⟩;rw[hg2]at HPY ⊢;have HIY:Hid (∀V',Below V3.heap.size V3 V'→PcIn l g2 y Bi Bs Bc di ds dc V'):=Qaz (fun V' hv=>HPY.out.all hv)
 have HHAS:Hid (∀s V',Below V3.heap.size V3 V'→Calls Tryz.prog 164 #[.pointer (some ⟨g2,0,none⟩),.string s] V' fun e w'=>e=.returned (.bool (hasS y.classes s))∧V'=w'):=Qaz (fun s V' hv=>ztu g2 Bc dc y.classes s V' ((HIY.out V' hv).cel 4 _ rfl).1 (HIY.out V' hv).tc.now (by have:=(HIY.out V' hv).len;omega));have HBW:=Qaz hbw;have b0:Below V3.heap.size V3 V3:=Below.refl _ _;clear hV3 b23 hbw HPX HPY HB2 HBV1 hg2;have HOB:=Qaz (HHAS.out zak V3 b0);cases ho:hasS y.classes zak with
 |true=>
  rw[ho]at HOB;have HU:Hid (zef l x y=true):=Qaz (by unfold zef;rw[ho];rfl);clear ho;refine HOB.out.mono ?_;rintro e Vx ⟨rfl,rfl⟩;go_wp2;go_ret;exact⟨x,y,HFX.out,HFY.out,(by rw[HU.out];try rfl),HBW.out⟩
 |false=>
 rw[ho]at HOB;have HNO:Hid (zak∉y.classes):=Qaz (zbl.1 ho);have HU:Hid (zef l x y=(!zj8 x y&&(x.ints.all (zkc y)&&(x.subs.all (znf l y)&&x.classes.all fun s=>zc0 l (zbj y) (zau s))))):=Qaz (by unfold zef;rw[ho];rfl);clear ho;refine HOB.out.mono ?_;rintro e Vx ⟨rfl,rfl⟩;have HBN:=Qaz (HHAS.out zan V3 b0);clear HOB;go_wp2_with (fail);refine HBN.out.mono ?_;rintro e Vx ⟨rfl,rfl⟩;clear HBN
 go_upto_region 6 with fail
 go_cut [45] (fun s45 wx=>s45=.bool (zj8 x y)∧wx=V3)
 case first=>
  have HBR:Hid (zj8 x y=((x.no&&(!hasS y.classes zan&& !y.no))||(x.yes&&(!hasS y.classes zan&& !y.yes)))):=Qaz rfl;obtain⟨p0,_⟩:=(HIX.out V3 b0).cel 0 _ rfl;obtain⟨p1,_⟩:=(HIX.out V3 b0).cel 1 _ rfl;obtain⟨q0,_⟩:=(HIY.out V3 b0).cel 0 _ rfl;obtain⟨q1,_⟩:=(HIY.out V3 b0).cel 1 _ rfl;generalize zj8 x y=br at*;generalize x.no=xn at HBR p0;generalize x.yes=xy at HBR p1;generalize y.no=yn at HBR q0;generalize y.yes=yy at HBR q1;generalize hasS y.classes zan=bn at*;clear HU;cases xn<;>cases xy<;>cases bn
  all_goals
   cases yn<;>cases yy
   all_goals
    go_wp2_with fail
    go_meet
    exact⟨by rw[HBR.out];rfl,rfl⟩
 case rest=>
 obtain⟨rfl,hwc⟩:=hcut;subst hwc
 go_upto_if 45 with fail
 cases hbr:zj8 x y with
 |true=>
  have HUF:Hid (zef l x y=false):=Qaz (by rw[HU.out,hbr];rfl);clear hbr;go_wp2;go_ret;exact⟨x,y,HFX.out,HFY.out,(by rw[HUF.out];try rfl),HBW.out⟩
 |false=>
 have HU2:Hid (zef l x y=(x.ints.all (zkc y)&&(x.subs.all (znf l y)&&x.classes.all fun s=>zc0 l (zbj y) (zau s)))):=Qaz (by rw[HU.out,hbr];rfl);clear hbr HU;go_wp2_with (fail)
 go_loopw [10] (fun i wr=>∃k:Nat,k≤x.ints.length∧i=.int .i64 k∧(x.ints.take k).all (zkc y)=true∧Below wc.heap.size wc wr) (fun i _=>x.ints.length-(intOf i).toNat)
 case atStart=>exact⟨0,Qjz _,rfl,by simp,b0⟩
 case round=>
  obtain⟨k,hk,rfl,hal,hb⟩:=hrel;have HAL:=Qaz hal;have hix:=HIX.out _ hb;have hlx:=hix.len;obtain⟨e2,_⟩:=hix.cel 2 _ rfl;clear hal;by_cases hlt:k<x.ints.length
  ·obtain⟨b,off,rfl⟩:=Slc.addrH hix.ti (by omega);have hx:x.ints[k]? =some x.ints[k]:=Qbz hlt;generalize x.ints[k]=s at hx;have HX:=Qaz hx;cases hi:hasS y.classes zal with
   |true=>
    have HHQ:Hid (∀V,Drw wr V→Calls Tryz.prog 164 #[.pointer (some ⟨g2,0,none⟩),.string ⟨#[60,105,110,116,101,103,101,114,62]⟩] V fun e w'=>e=.returned (.bool true)∧V=w'):=Qaz (fun V ⟨n,hV⟩=>by
     have:=HHAS.out zal V (by rw[hV];exact zab hb (zad _ _ _));rw[hi]at this;exact this)
    have HN:=Qaz (zis (p:=zkc y) hx HAL.out (by unfold zkc;rw[hi];rfl));have HBN:Hid (∀n,Below wc.heap.size wc (wr.drewN n)):=Qaz (fun n=>hb.trans (zad _ _ _));clear hi hx hix;go_wp2_with (fail)
    go_quiet ((go_at_call 164;exact(HHQ.out _ (by first|exact Drw.of _ _|exact(Drw.of _ _).drewN _)).mono fun _ _ ⟨a,b⟩=>⟨a,_,b.symm⟩))
    go_wp2_with (fail);exact⟨⟨k+1,by omega,by go_num,HN.out,HBN.out _⟩,by simp[intOf];omega⟩
   |false=>
    have HHQ:Hid (∀V,Below wr.heap.size wr V→Calls Tryz.prog 164 #[.pointer (some ⟨g2,0,none⟩),.string ⟨#[60,105,110,116,101,103,101,114,62]⟩] V fun e w'=>e=.returned (.bool false)∧Below V.heap.size V w'):=Qaz (fun V hV=>by
     have:=HHAS.out zal V (zab hb hV);rw[hi]at this;exact this.mono fun e w' ⟨q1,q2⟩=>⟨q1,q2▸Below.refl _ _⟩)
    have HIR:Hid (zkc y s=zpn s y.ints):=Qaz (by unfold zkc;rw[hi];rfl);have hCE:∀V,Below wr.heap.size wr V→V.cell? ⟨g1,2,none⟩=some (.slice (some ⟨b,off,none⟩) x.ints.length ci)∧V.cell? ⟨g2,2,none⟩=some (.slice Bi y.ints.length di):=fun V hV=>⟨zaa e2 hV,((HIY.out V (zab hb hV)).cel 2 _ rfl).1⟩;obtain⟨A5,c5,_,_,z0,z1,z2,z3,z4⟩:=Typs.atH hix.ti hx
    have HWI:Hid (∀V,Below wr.heap.size wr V→Calls Tryz.prog 165 #[tyV s A5 c5,.slice Bi y.ints.length di] V fun e W'=>e=.returned (.bool (zpn s y.ints))∧Below V.heap.size V W'):=Qaz (fun V hV=>zpc s A5 c5 Bi di y.ints V _ (HIY.out V (zab hb hV)).ti (by have:=(HIY.out V (zab hb hV)).len;omega));have HCE:=Qaz hCE;have HBS:=Qaz (fun V (hV:Below wr.heap.size wr V)=>zab hb hV);obtain⟨_,e3⟩:=hCE wr (Below.refl _ _);clear hi hx hix hCE;generalize zpn s y.ints=ir at HIR HWI;cases ir with
    |true=>
     have HN:=Qaz (zis (p:=zkc y) HX.out HAL.out HIR.out);go_wp2_with (fail)
     go_region_held3 (fun w'=>Below wr.heap.size wr w'∧w'.cell? ⟨g1,2,none⟩=some (.slice (some ⟨b,off,none⟩) x.ints.length ci)∧w'.cell? ⟨g2,2,none⟩=some (.slice Bi y.ints.length di)∧w'.cell? ⟨b,off+k*5,none⟩=some (.int .i64 s.kind)∧w'.cell? ⟨b,off+k*5+1,none⟩=some (.string s.name)∧w'.cell? ⟨b,off+k*5+2,none⟩=some (.int .i64 s.lo)∧w'.cell? ⟨b,off+k*5+3,none⟩=some (.int .i64 s.hi)∧w'.cell? ⟨b,off+k*5+4,none⟩=some (.slice A5 s.args.length c5))
      (first
       |exact⟨(Below.refl _ wr).drew,e2,e3,z0,z1,z2,z3,z4⟩
       |(go_split_ands;assumption)
       |(go_split_ands;exact⟨zab (by assumption) hbu,zaa (by assumption) hbu,zaa (by assumption) hbu,zaa (by assumption) hbu,zaa (by assumption) hbu,zaa (by assumption) hbu,zaa (by assumption) hbu,zaa (by assumption) hbu⟩))
      (first
       |((go_at_call 164;refine(HHQ.out _ (by go_split_ands;assumption)).mono ?_;rintro e U ⟨rfl,hbu⟩))
       |((go_at_call 165;refine(HWI.out _ (by go_split_ands;assumption)).mono ?_;rintro e U ⟨rfl,hbu⟩)))
     all_goals
      go_split_ands;go_wp2_with (fail);exact⟨⟨k+1,by omega,by go_num,HN.out,HBS.out _ (by assumption)⟩,by simp[intOf];omega⟩
    |false=>
     have HUF:Hid (zef l x y=false):=Qaz (by rw[HU2.out,zsr HX.out HIR.out];rfl);go_wp2_with (fail)
     go_region_held3 (fun w'=>Below wr.heap.size wr w'∧w'.cell? ⟨g1,2,none⟩=some (.slice (some ⟨b,off,none⟩) x.ints.length ci)∧w'.cell? ⟨g2,2,none⟩=some (.slice Bi y.ints.length di)∧w'.cell? ⟨b,off+k*5,none⟩=some (.int .i64 s.kind)∧w'.cell? ⟨b,off+k*5+1,none⟩=some (.string s.name)∧w'.cell? ⟨b,off+k*5+2,none⟩=some (.int .i64 s.lo)∧w'.cell? ⟨b,off+k*5+3,none⟩=some (.int .i64 s.hi)∧w'.cell? ⟨b,off+k*5+4,none⟩=some (.slice A5 s.args.length c5))
      (first
       |exact⟨(Below.refl _ wr).drew,e2,e3,z0,z1,z2,z3,z4⟩
       |(go_split_ands;assumption)
       |(go_split_ands;exact⟨zab (by assumption) hbu,zaa (by assumption) hbu,zaa (by assumption) hbu,zaa (by assumption) hbu,zaa (by assumption) hbu,zaa (by assumption) hbu,zaa (by assumption) hbu,zaa (by assumption) hbu⟩))
      (first
       |((go_at_call 164;refine(HHQ.out _ (by go_split_ands;assumption)).mono ?_;rintro e U ⟨rfl,hbu⟩))
       |((go_at_call 165;refine(HWI.out _ (by go_split_ands;assumption)).mono ?_;rintro e U ⟨rfl,hbu⟩)))
     all_goals
      go_split_ands;go_wp2;go_ret;exact⟨x,y,HFX.out,HFY.out,(by rw[HUF.out];try rfl),zab HBW.out (HBS.out _ (by assumption))⟩
  ·obtain rfl:k=x.ints.length:=by omega
   have HU3:Hid (zef l x y=(x.subs.all (znf l y)&&x.classes.all fun s=>zc0 l (zbj y) (zau s))):=Qaz (by
    have:=HAL.out;rw[List.take_length]at this;rw[HU2.out,this];rfl)
   have HBr:=Qaz hb;clear hix HU2 HAL;go_wp2_with (fail)
   go_loopw [11] (fun i wi=>∃k:Nat,k≤x.subs.length∧i=.int .i64 k∧(x.subs.take k).all (znf l y)=true∧Below wc.heap.size wc wi) (fun i _=>x.subs.length-(intOf i).toNat)
   case atStart=>exact⟨0,Qjz _,rfl,by simp,hb⟩
   case round=>
    clear hb
    rename World=>wi
    obtain⟨k,hk,rfl,hal,hb⟩:=hrel;have HAL:=Qaz hal;have hix:=HIX.out _ hb;have hiy:=HIY.out _ hb;obtain⟨e3,_⟩:=hix.cel 3 _ rfl;obtain⟨e4,_⟩:=hiy.cel 3 _ rfl;clear hal;by_cases hlt:k<x.subs.length
    ·obtain⟨b,off,rfl⟩:=Slc.addrH hix.ts (by omega);have hx:x.subs[k]? =some x.subs[k]:=Qbz hlt;generalize x.subs[k]=s at hx;have g0:=(Strs.atH hix.ts hx).now;have HX:=Qaz hx;have HHQ:Hid (∀V,Drw wi V→Calls Tryz.prog 164 #[.pointer (some ⟨g2,0,none⟩),.string ⟨#[60,99,108,97,115,115,62]⟩] V fun e w'=>e=.returned (.bool (hasS y.classes zaw))∧V=w'):=Qaz (fun V ⟨n,hV⟩=>HHAS.out zaw V (by rw[hV];exact zab hb (zad _ _ _)))
     have HSQ:Hid (∀V,Drw wi V→Calls Tryz.prog 166 #[.slice A l.length c,.string s,.slice Bs y.subs.length ds] V fun e w'=>e=.returned (.bool (y.subs.any (za0 l s)))∧V=w'):=Qaz (fun V ⟨n,hV⟩=>zlu A c l s Bs ds y.subs V GH (HH.out V (by rw[hV];exact zab (zab HBW.out hb) (zad _ _ _))) hl hcp (hiy.ts.keep (Keep.all (by rw[hV];exact zad _ _ _))).now (by have:=hiy.len;omega));have HBN:Hid (∀n,Below wc.heap.size wc (wi.drewN n)):=Qaz (fun n=>hb.trans (zad _ _ _));have HSR:Hid (znf l y s=(hasS y.classes zaw||y.subs.any (za0 l s))):=Qaz rfl;clear hx hix hiy;generalize hasS y.classes zaw=hc at HHQ HSR
     generalize y.subs.any (za0 l s)=hs at HSQ HSR;cases hc with
     |true=>
      have HN:=Qaz (zis (p:=znf l y) HX.out HAL.out (by rw[HSR.out];rfl));go_wp2_with (fail)
      go_quiet ((go_at_call 164;exact(HHQ.out _ (by first|exact Drw.of _ _|exact(Drw.of _ _).drewN _)).mono fun _ _ ⟨a,b⟩=>⟨a,_,b.symm⟩))
      go_wp2_with (fail);exact⟨⟨k+1,by omega,by go_num,HN.out,HBN.out _⟩,by simp[intOf];omega⟩
     |false=>
     cases hs with
     |true=>
      have HN:=Qaz (zis (p:=znf l y) HX.out HAL.out (by rw[HSR.out];rfl));go_wp2_with (fail)
      go_quiet ((first|(go_at_call 164;exact(HHQ.out _ (by first|exact Drw.of _ _|exact(Drw.of _ _).drewN _)).mono fun _ _ ⟨a,b⟩=>⟨a,_,b.symm⟩)|(go_at_call 166;exact(HSQ.out _ (by first|exact Drw.of _ _|exact(Drw.of _ _).drewN _)).mono fun _ _ ⟨a,b⟩=>⟨a,_,b.symm⟩)))
      go_wp2_with (fail);exact⟨⟨k+1,by omega,by go_num,HN.out,HBN.out _⟩,by simp[intOf];omega⟩
     |false=>
      have HUF:Hid (zef l x y=false):=Qaz (by rw[HU3.out,zsr HX.out (by rw[HSR.out];rfl)];rfl);go_wp2_with (fail)
      go_quiet ((first|(go_at_call 164;exact(HHQ.out _ (by first|exact Drw.of _ _|exact(Drw.of _ _).drewN _)).mono fun _ _ ⟨a,b⟩=>⟨a,_,b.symm⟩)|(go_at_call 166;exact(HSQ.out _ (by first|exact Drw.of _ _|exact(Drw.of _ _).drewN _)).mono fun _ _ ⟨a,b⟩=>⟨a,_,b.symm⟩)))
      go_wp2;go_ret;exact⟨x,y,HFX.out,HFY.out,(by rw[HUF.out];try rfl),zab HBW.out (HBN.out _)⟩
    ·obtain rfl:k=x.subs.length:=by omega
     have HU4:Hid (zef l x y=x.classes.all fun s=>zc0 l (zbj y) (zau s)):=Qaz (by
      have:=HAL.out;rw[List.take_length]at this;rw[HU3.out,this];rfl)
     have HCO:=Qaz (zn8 g2 Bc dc y A c l wi GH (HH.out wi (zab HBW.out hb)) hl hcp hsp hL (hiy.cel 4 _ rfl).1 hiy.tc.now hiy.tc (by have:=hiy.len;omega) (HPRb.out y HFY.out) HNO.out);clear hix hiy HU3 HAL;go_wp2_with (fail);refine HCO.out.mono ?_;rintro e V9 ⟨g,out,rfl,tout,oout,hb9⟩;have hbc:=zab hb hb9;have HT:=Qaz tout;have HO:=Qaz oout;clear HCO tout oout hb hb9;go_wp2_with (fail)
     go_loopw [13] (fun i wj=>∃k:Nat,k≤x.classes.length∧i=.int .i64 k∧(x.classes.take k).all (fun s=>zc0 l (zbj y) (zau s))=true∧Below V9.heap.size V9 wj) (fun i _=>x.classes.length-(intOf i).toNat)
     case atStart=>exact⟨0,Qjz _,rfl,by simp,Below.refl _ _⟩
     case round=>
      rename World=>wj
      obtain⟨k,hk,rfl,hal,hb⟩:=hrel;have HAL:=Qaz hal;have hbcc:=zab hbc hb;have hix:=HIX.out _ hbcc;obtain⟨e4,_⟩:=hix.cel 4 _ rfl;clear hal;by_cases hlt:k<x.classes.length
      ·obtain⟨b,off,rfl⟩:=Slc.addrH hix.tc (by omega);have hx:x.classes[k]? =some x.classes[k]:=Qbz hlt;generalize x.classes[k]=s at hx;have g0:=(Strs.atH hix.tc hx).now;have hhas:hasB l s=true:=HHC.out x HFX.out s (Qdz hx);have HX:=Qaz hx;have HA8:=zfn A c l s wj GH (HH.out wj (zab HBW.out hbcc)) hl;rcases zn4 l s with⟨h1,h2⟩|⟨j,z,hj,h1,h2⟩
       ·exfalso;rw[←zkl,h2]at hhas;cases hhas
       rw[h2]at HA8;have hzn:z.name=s:=by have:=List.find?_some h1;simpa using this
       obtain⟨k1,_⟩:=OwnB.at (HO.out.all hb) (HT.out.2 j z (Qjz _) hj);have hjl:=(Qcz hj).1;have wj0:(0:Int)≤(j:Int):=by omega
       have wj1:(j:Int)<(l.length:Int):=by omega
       have HA:=Qaz HA8;simp only[hzn]at k1;clear hx hhas h1 h2 hj hzn HA8 hix;cases hv:zc0 l (zbj y) (zau s)with
       |true=>
        rw[hv]at k1;have HN:=Qaz (zis (p:=fun s=>zc0 l (zbj y) (zau s)) HX.out HAL.out hv);clear hv;go_wp2_with (go_at_call 82;refine HA.out.mono ?_;rintro e V ⟨rfl,rfl⟩);exact⟨⟨k+1,by omega,by go_num,HN.out,hb⟩,by simp[intOf];omega⟩
       |false=>
        rw[hv]at k1;have HUF:Hid (zef l x y=false):=Qaz (by rw[HU4.out];exact zsr (p:=fun s=>zc0 l (zbj y) (zau s)) HX.out hv);clear hv;go_wp2_with (go_at_call 82;refine HA.out.mono ?_;rintro e V ⟨rfl,rfl⟩);go_ret;exact⟨x,y,HFX.out,HFY.out,(by rw[HUF.out];try rfl),zab HBW.out hbcc⟩
      ·obtain rfl:k=x.classes.length:=by omega
       have HUT:Hid (zef l x y=true):=Qaz (by
        have:=HAL.out;rw[List.take_length]at this;rw[HU4.out,this])
       clear hix;go_wp2;go_ret;exact⟨x,y,HFX.out,HFY.out,(by rw[HUT.out];try rfl),zab HBW.out hbcc⟩
end
theorem ztw{l:List CI}{a b:Ty}{r r':Bool}(h:ze9 l a b r)(k:ze9 l a b r'):r=r':=by
 rcases h with⟨n,rfl⟩|⟨y,La,Lb,ia,ib,rfl⟩
 ·rcases k with⟨_,rfl⟩|⟨y,_⟩
  ·rfl
  ·exact absurd y n
 ·rcases k with⟨n,_⟩|⟨_,La',Lb',ia',ib',rfl⟩
  ·exact absurd y n
  ·exact zzx (ia.uniq ia') (ib.uniq ib')
theorem zpz{l:List CI}{a b:Ty}(h:zi0 l a b){x y:Pcs}(hx:PcsFin l (zc3 a zdz) x)(hy:PcsFin l (zc3 b zdz) y):ze9 l a b (zef l x y):=by
 have ra:=PcRel.coll h.1 a zbk zdz (zb5 h.2.1).1 (PcRel.none l);have rb:=PcRel.coll h.1 b zbk zdz (zb5 h.2.2).1 (PcRel.none l);exact .inr ⟨h,zbj x,zbj y,zkb h.1 ra hx,zkb h.1 rb hy,zyh h.1 (hx.ok ra) (hy.ok rb)⟩
theorem zxq{l:List CI}(h:zai l):∀x∈l,x.supers.length≤1000000:=fun x hx=>Nat.le_trans (zqh h.2.2.1 h.2.2.2.1 x hx) (by decide)
theorem zvj(A:Option Addr)(c:Nat)(l:List CI)(a b:Ty)(Aa Ab:Option Addr)(ca cb:Nat)(w:World)(hi:HiIn w A c l)(ha:TyIn w a Aa ca)(hb:TyIn w b Ab cb)(ba:a.all zhs=true)(bb:b.all zhs=true):
  Calls Tryz.prog 74 #[.slice A l.length c,tyV a Aa ca,tyV b Ab cb] w fun e w'=>∃r,e=.returned (.bool r)∧ze9 l a b r∧Below w.heap.size w w':=by
 obtain⟨W1,hW1⟩:∃W1,W1=(w.alloc (.cells #[.int .i64 a.kind,.string a.name,.int .i64 a.lo,.int .i64 a.hi,.slice Aa a.args.length ca] 36)).alloc (.cells #[.int .i64 b.kind,.string b.name,.int .i64 b.lo,.int .i64 b.hi,.slice Ab b.args.length cb] 36):=⟨_,rfl⟩;have b1:Below w.heap.size w W1:=by rw[hW1];exact((Below.refl _ w).alloc (Qiz _) _).alloc (by simp) _
 have xa:∀j u,[Value.int .i64 a.kind,.string a.name,.int .i64 a.lo,.int .i64 a.hi,.slice Aa a.args.length ca][j]? =some u→W1.cell? ⟨w.heap.size,j,none⟩=some u:=fun j u hj=>by rw[hW1];exact zat (zac w _ _ _ rfl j u hj)
 have xb:∀j u,[Value.int .i64 b.kind,.string b.name,.int .i64 b.lo,.int .i64 b.hi,.slice Ab b.args.length cb][j]? =some u→W1.cell? ⟨w.heap.size+1,j,none⟩=some u:=fun j u hj=>by rw[hW1];exact zac (w.alloc _) _ _ _ (by simp) j u hj
 have HX:Hid (∀V,Below W1.heap.size W1 V→(V.cell? ⟨w.heap.size,0,none⟩=some (.int .i64 a.kind)∧V.cell? ⟨w.heap.size,1,none⟩=some (.string a.name)∧V.cell? ⟨w.heap.size,2,none⟩=some (.int .i64 a.lo)∧V.cell? ⟨w.heap.size,3,none⟩=some (.int .i64 a.hi)∧V.cell? ⟨w.heap.size,4,none⟩=some (.slice Aa a.args.length ca))∧V.cell? ⟨w.heap.size+1,0,none⟩=some (.int .i64 b.kind)∧V.cell? ⟨w.heap.size+1,1,none⟩=some (.string b.name)∧V.cell? ⟨w.heap.size+1,2,none⟩=some (.int .i64 b.lo)∧V.cell? ⟨w.heap.size+1,3,none⟩=some (.int .i64 b.hi)∧V.cell? ⟨w.heap.size+1,4,none⟩=some (.slice Ab b.args.length cb)):=Qaz (fun V hv=>⟨⟨zaa (xa 0 _ rfl) hv,zaa (xa 1 _ rfl) hv,zaa (xa 2 _ rfl) hv,zaa (xa 3 _ rfl) hv,zaa (xa 4 _ rfl) hv⟩,zaa (xb 0 _ rfl) hv,zaa (xb 1 _ rfl) hv,zaa (xb 2 _ rfl) hv,zaa (xb 3 _ rfl) hv,zaa (xb 4 _ rfl) hv⟩)
 have HHI:=Qaz hi;have HRI:Hid (Calls Tryz.prog 79 #[.slice A l.length c] W1 fun e w'=>e=.returned (.bool (zjd l))∧Below W1.heap.size W1 w'):=Qaz (by
  obtain⟨GH,h⟩:=(hi.keep b1).h;exact zgv A c l W1 GH h hi.hcH hi.ol hi.hl)
 have HSH:∀(x:Ty)(Ax:Option Addr)(cx:Nat),TyIn w x Ax cx→∀V,Below w.heap.size w V→Calls Tryz.prog 49 #[.slice A l.length c,tyV x Ax cx] V fun e V'=>e=.returned (.int .i64 (zaj l x))∧Below V.heap.size V V':=fun x Ax cx hx V hv=>by
  obtain⟨GH,h⟩:=(hi.keep hv).h;obtain⟨G2,h2⟩:=(hx.keep hv).h2;exact zf2 A c l hi.hl x Ax cx V G2 GH h hx.hs.1 h2
 have HSA:=Qaz (HSH a Aa ca ha);have HSB:=Qaz (HSH b Ab cb hb);have HUN:Hid (zi0 l a b→∀V,Below w.heap.size w V→Calls Tryz.prog 116 #[.slice A l.length c,tyV a Aa ca,tyV b Ab cb] V fun e w'=>∃r,e=.returned (.bool r)∧ze9 l a b r∧Below V.heap.size V w'):=Qaz (fun h V hv=>by
  obtain⟨GH,hH⟩:=(hi.keep hv).h;obtain⟨Ga,h2⟩:=(ha.keep hv).h2;obtain⟨Gb,h3⟩:=(hb.keep hv).h2;refine(zn9 A c l a b Aa Ab ca cb V GH hH hi.hl (zgn h.1) (zxq h.1) h.1 Ga h2 (zb5 h.2.1).1 ba (zb5 h.2.1).2 Gb h3 (zb5 h.2.2).1 bb (zb5 h.2.2).2).mono ?_;rintro e w' ⟨x,y,hx,hy,rfl,hbl⟩;exact⟨_,rfl,zpz h hx hy,hbl⟩)
 have HB1:=Qaz b1;clear hi ha hb ba bb xa xb HSH;by_cases hL:zai l;rotate_left
 ·rw[zcj hL]at HRI;have HN:Hid (¬zi0 l a b):=Qaz (fun h=>hL h.1);clear hL;go_enter Tryz.func74,Tryz.ntmps74;go_wp2_with (fail);rw[←hW1];clear hW1;refine HRI.out.mono ?_;rintro e V ⟨rfl,hbv⟩;go_wp2;go_ret;exact⟨false,rfl,.inl ⟨HN.out,rfl⟩,zab HB1.out hbv⟩
 rw[zg7 hL]at HRI;by_cases hva:zaj l a=0;rotate_left
 ·have HN:Hid (¬zi0 l a b):=Qaz (fun h=>hva h.2.1);have d1:(zaj l a==0)=false:=Qfz hva;generalize zaj l a=va at HSA d1;clear hL hva;go_enter Tryz.func74,Tryz.ntmps74;go_wp2_with (fail);rw[←hW1];clear hW1;refine HRI.out.mono ?_;rintro e V ⟨rfl,hbv⟩;obtain⟨⟨p0,p1,p2,p3,p4⟩,q0,q1,q2,q3,q4⟩:=HX.out V hbv;go_wp2_with (fail);refine(HSA.out V (zab HB1.out hbv)).mono ?_;rintro e V2 ⟨rfl,hb2⟩;go_wp2;go_ret;exact⟨false,rfl,.inl ⟨HN.out,rfl⟩,zab (zab HB1.out hbv) hb2⟩
 rw[hva]at HSA;by_cases hvb:zaj l b=0;rotate_left
 ·have HN:Hid (¬zi0 l a b):=Qaz (fun h=>hvb h.2.2);have d1:(zaj l b==0)=false:=Qfz hvb;generalize zaj l b=vb at HSB d1;clear hL hva hvb;go_enter Tryz.func74,Tryz.ntmps74;go_wp2_with (fail);rw[←hW1];clear hW1;refine HRI.out.mono ?_;rintro e V ⟨rfl,hbv⟩;obtain⟨⟨p0,p1,p2,p3,p4⟩,q0,q1,q2,q3,q4⟩:=HX.out V hbv;go_wp2_with (fail);refine(HSA.out V (zab HB1.out hbv)).mono ?_;clear p0 p1 p2 p3 p4 q0 q1 q2 q3 q4;rintro e V2 ⟨rfl,hb2⟩;obtain⟨⟨p0,p1,p2,p3,p4⟩,q0,q1,q2,q3,q4⟩:=HX.out V2 (zab hbv hb2);go_wp2_with (fail);refine(HSB.out V2 (zab (zab HB1.out hbv) hb2)).mono ?_;rintro e V3 ⟨rfl,hb3⟩;go_wp2
  go_ret;exact⟨false,rfl,.inl ⟨HN.out,rfl⟩,zab (zab (zab HB1.out hbv) hb2) hb3⟩
 rw[hvb]at HSB;have HU:=Qaz (HUN.out ⟨hL,hva,hvb⟩);clear hL hva hvb HUN;go_enter Tryz.func74,Tryz.ntmps74;go_wp2_with (fail);rw[←hW1];clear hW1;refine HRI.out.mono ?_;rintro e V ⟨rfl,hbv⟩;obtain⟨⟨p0,p1,p2,p3,p4⟩,q0,q1,q2,q3,q4⟩:=HX.out V hbv;go_wp2_with (fail);refine(HSA.out V (zab HB1.out hbv)).mono ?_;clear p0 p1 p2 p3 p4 q0 q1 q2 q3 q4;rintro e V2 ⟨rfl,hb2⟩;obtain⟨⟨p0,p1,p2,p3,p4⟩,q0,q1,q2,q3,q4⟩:=HX.out V2 (zab hbv hb2);go_wp2_with (fail);refine(HSB.out V2 (zab (zab HB1.out hbv) hb2)).mono ?_;clear p0 p1 p2 p3 p4 q0 q1 q2 q3 q4;rintro e V3 ⟨rfl,hb3⟩
 obtain⟨⟨p0,p1,p2,p3,p4⟩,q0,q1,q2,q3,q4⟩:=HX.out V3 (zab (zab hbv hb2) hb3);go_wp2_with (fail);refine(HU.out V3 (zab (zab (zab HB1.out hbv) hb2) hb3)).mono ?_;rintro e V4 ⟨r,rfl,hr,hb4⟩;have HRR:=Qaz hr;clear hr;cases r
 all_goals
  go_wp2;go_ret;exact⟨_,rfl,HRR.out,zab (zab (zab (zab HB1.out hbv) hb2) hb3) hb4⟩
open Classical in
noncomputable def zp3 (l:List CI)(a b:Ty):Bool:=if h:∃r,ze9 l a b r then h.choose else false
theorem zxx{l:List CI}{a b:Ty}{r:Bool}(h:ze9 l a b r):r=zp3 l a b:=by
 unfold zp3;rw[dif_pos ⟨r,h⟩];exact ztw h (Exists.choose_spec ⟨r,h⟩)
theorem zlb(A:Option Addr)(c:Nat)(l:List CI)(a b:Ty)(Aa Ab:Option Addr)(ca cb:Nat)(w:World)(hi:HiIn w A c l)(ha:TyIn w a Aa ca)(hb:TyIn w b Ab cb)(ba:a.all zhs=true)(bb:b.all zhs=true):
  Calls Tryz.prog 74 #[.slice A l.length c,tyV a Aa ca,tyV b Ab cb] w fun e w'=>e=.returned (.bool (zp3 l a b))∧Below w.heap.size w w':=
 (zvj A c l a b Aa Ab ca cb w hi ha hb ba bb).mono fun e w' ⟨r,he,hs,hb⟩=>⟨by rw[he,zxx hs],hb⟩
theorem zli(A:Option Addr)(c:Nat)(l:List CI)(a b:Ty)(Aa Ab:Option Addr)(ca cb:Nat)(w:World)(hi:HiIn w A c l)(ha:TyIn w a Aa ca)(hb:TyIn w b Ab cb)(ba:a.all zhs=true)(bb:b.all zhs=true):
  Calls Tryz.prog 24 #[.slice A l.length c,tyV a Aa ca,tyV b Ab cb] w fun e w'=>e=.returned (.bool (zp3 l a b))∧Below w.heap.size w w':=by
 obtain⟨GH,h1⟩:=hi.h;obtain⟨Ga,h2⟩:=ha.h2;obtain⟨Gb,h3⟩:=hb.h2;exact(zxt A c l a b Aa Ab ca cb w hi.hcH GH h1 hi.ol hi.hl _ h2.here ha.h1 ha.hs ba h3.here hb.h1 hb.hs bb).mono fun e w' ⟨r,he,hs,hb⟩=>⟨by rw[he,zxx hs],hb⟩
section
attribute [local go_sem ↓] Go.wp_at_zero Go.wp_at_succ
noncomputable def zp1 (l:List CI)(p q:Ty):Bool:=decide (zaj l p=0)&&(decide (zaj l q=0)&&(zp3 l p q&&zp3 l q p))
noncomputable def zgj (l:List CI)(a b:Meth)(n:Nat):Bool:=(List.range n).all fun i=>match a.pars[i]?,b.pars[i]? with
 |some p,some q=>zp1 l p.type q.type
 |_,_=>true
theorem znl{l:List CI}{a b:Meth}{k:Nat}{p q:Par}(hp:a.pars[k]? =some p)(hq:b.pars[k]? =some q):zgj l a b (k+1)=(zgj l a b k&&zp1 l p.type q.type):=by
 unfold zgj;rw[List.range_succ,List.all_append];simp[hp,hq]
theorem zc9{l:List CI}{a b:Meth}{k n:Nat}{p q:Par}(hk:k<n)(hp:a.pars[k]? =some p)(hq:b.pars[k]? =some q)(h:zp1 l p.type q.type=false):zgj l a b n=false:=by
 unfold zgj;rw[List.all_eq_false];exact⟨k,List.mem_range.2 hk,by simp[hp,hq,h]⟩
open Classical in
noncomputable def zgl (l:List CI)(a b:Meth):Bool:=decide (zai l)&&(decide (a.pars.length=b.pars.length)&&(decide (a.pars.length≤6)&&zgj l a b a.pars.length))
theorem zop{l:List CI}{a b:Meth}(h:zai l)(hl:a.pars.length=b.pars.length)(h6:a.pars.length≤6):zgl l a b=zgj l a b a.pars.length:=by
 unfold zgl;simp[h,hl];intro q;omega
theorem zin{l:List CI}{a b:Meth}(h:¬(zai l∧a.pars.length=b.pars.length∧a.pars.length≤6)):zgl l a b=false:=by
 unfold zgl;by_cases h1:zai l
 ·by_cases h2:a.pars.length=b.pars.length
  ·by_cases h3:a.pars.length≤6
   ·exact absurd ⟨h1,h2,h3⟩ h
   ·simp[h3]
  ·simp[h2]
 ·simp[h1]
theorem zqm{l:List CI}{a b:Meth}(hid:a.id≠b.id):zcs l [a,b]=true↔a.pars.length=b.pars.length∧a.pars.length≤6∧(∀p∈a.pars,zaj l p.type=0)∧∀p∈b.pars,zaj l p.type=0:=by
 unfold zcs;simp only[List.map_cons,List.map_nil,List.getElem?_cons_zero,Option.map_some,Option.getD_some,List.all_cons,List.all_nil,Bool.and_true,Bool.and_eq_true,decide_eq_true_eq,zeg,List.all_eq_true,List.nodup_cons,List.mem_singleton,List.not_mem_nil,not_false_eq_true,List.nodup_nil,and_true];exact⟨fun ⟨_,⟨⟨_,h1⟩,h2⟩,⟨h3,_⟩,h4⟩=>⟨h3.symm,h1,h2,h4⟩,fun ⟨h1,h2,h3,h4⟩=>⟨hid,⟨⟨trivial,h2⟩,h3⟩,⟨h1.symm,h1▸h2⟩,h4⟩⟩
theorem zwp{l:List CI}{a b:Meth}{n k:Nat}{p q:Par}(h:zgj l a b n=true)(hk:k<n)(hp:a.pars[k]? =some p)(hq:b.pars[k]? =some q):zp1 l p.type q.type=true:=by
 cases e:zp1 l p.type q.type with
 |true=>rfl
 |false=>rw[zc9 hk hp hq e]at h;cases h
theorem zvk{l:List CI}{p q:Ty}(h:zp1 l p q=true):zaj l p=0∧zaj l q=0:=by
 unfold zp1 at h;simp only[Bool.and_eq_true,decide_eq_true_eq]at h;exact⟨h.1,h.2.1⟩
theorem zx6{l:List CI}{a b:Meth}{x:Int}(hx:a.id≠x)(h:zcs l [a,{ b with id:=x }]=false):zgl l a b=false:=by
 by_cases h0:zai l∧a.pars.length=b.pars.length∧a.pars.length≤6;rotate_left
 ·exact zin h0
 rw[zop h0.1 h0.2.1 h0.2.2];cases e:zgj l a b a.pars.length with
 |false=>rfl
 |true=>
  have hv:∀k:Nat,k<a.pars.length→∃p q,a.pars[k]? =some p∧b.pars[k]? =some q∧zaj l p.type=0∧zaj l q.type=0:=fun k hk=>by
   have h1:a.pars[k]? =some a.pars[k]:=Qbz hk;have h2:b.pars[k]? =some (b.pars[k]'(by omega)):=Qbz _;exact⟨_,_,h1,h2,zvk (zwp e hk h1 h2)⟩
  rw[(zqm (b:={ b with id:=x }) hx).2 ⟨h0.2.1,h0.2.2,fun p hp=> ?_,fun p hp=> ?_⟩]at h
  ·cases h
  ·obtain⟨k,hk⟩:=Qez hp;obtain⟨p',q,h1,h2,h3,h4⟩:=hv k (Qcz hk).1;rw[hk]at h1;cases h1;exact h3
  ·obtain⟨k,hk⟩:=Qez hp;have hkl:=(Qcz hk).1;obtain⟨p',q,h1,h2,h3,h4⟩:=hv k (by have:k<b.pars.length:=hkl;omega);have hk':b.pars[k]? =some p:=hk;rw[hk']at h2;cases h2;exact h4
theorem zve{l:List CI}{a b:Meth}{x:Int}(hL:zai l)(hx:a.id≠x)(h:zcs l [a,{ b with id:=x }]=true):zgl l a b=zgj l a b a.pars.length∧a.pars.length=b.pars.length∧(∀p∈a.pars,zaj l p.type=0)∧∀p∈b.pars,zaj l p.type=0:=by
 obtain⟨h1,h2,h3,h4⟩:=(zqm (b:={ b with id:=x }) hx).1 h;exact⟨zop hL h1 h2,h1,h3,h4⟩
theorem z1r{l:List CI}{p q:Ty}(h1:zaj l p=0)(h2:zaj l q=0):zp1 l p q=(zp3 l p q&&zp3 l q p):=by
 unfold zp1;rw[Qhz h1,Qhz h2];rfl
theorem zyd(x:Int):x≠IntKind.i64.wrap (x+1):=by
 rw[IntKind.wrap_i64];omega
theorem zkg(A:Option Addr)(c:Nat)(l:List CI)(a b:Meth)(A1 A2 B1 B2:Option Addr)(c1 c2 d1 d2:Nat)(W:World)(hi:HiIn W A c l)(ha:MetIn W a A1 A2 c1 c2)(hb:MetIn W b B1 B2 d1 d2)(ba:∀p∈a.pars,p.type.all zhs=true)(bb:∀p∈b.pars,p.type.all zhs=true):
  Calls Tryz.prog 34 #[.slice A l.length c,zk2 a A1 c1 A2 c2,zk2 b B1 d1 B2 d2] W fun e W'=>e=.returned (.bool (zgl l a b))∧Below W.heap.size W W':=by
 obtain⟨z,hz⟩:∃z,z=wrap64 (a.id+1):=⟨_,rfl⟩;have hne:a.id≠z:=by rw[hz,←IntWalk.i64_left];exact zyd _
 obtain⟨W1,hW1⟩:∃W1,W1=(W.alloc (.cells #[.int .i64 a.id,.string a.lib,.slice A1 a.pars.length c1,.int .i64 a.result.kind,.string a.result.name,.int .i64 a.result.lo,.int .i64 a.result.hi,.slice A2 a.result.args.length c2] 68)).alloc (.cells #[.int .i64 z,.string b.lib,.slice B1 b.pars.length d1,.int .i64 b.result.kind,.string b.result.name,.int .i64 b.result.lo,.int .i64 b.result.hi,.slice B2 b.result.args.length d2] 68):=⟨_,rfl⟩;have b1:Below W.heap.size W W1:=by rw[hW1];exact((Below.refl _ W).alloc (Qiz _) _).alloc (by simp) _
 have CA:Hid (Cel W.heap.size [.int .i64 a.id,.string a.lib,.slice A1 a.pars.length c1,.int .i64 a.result.kind,.string a.result.name,.int .i64 a.result.lo,.int .i64 a.result.hi,.slice A2 a.result.args.length c2] W1):=Qaz (by rw[hW1];exact(Cel.new W _ _ _ rfl).all ((Below.refl _ _).alloc (Qiz _) _));have CB:Hid (Cel (W.heap.size+1) [.int .i64 z,.string b.lib,.slice B1 b.pars.length d1,.int .i64 b.result.kind,.string b.result.name,.int .i64 b.result.lo,.int .i64 b.result.hi,.slice B2 b.result.args.length d2] W1):=Qaz (by rw[hW1];exact Cel.new (W.alloc _) _ _ _ (by simp))
 have HCK:Hid (Calls Tryz.prog 44 #[.slice A l.length c] W1 fun e V=>Below W1.heap.size W1 V∧((zai l∧e=.returned (.int .i64 0))∨(¬zai l∧e=.returned (.int .i64 80)))):=Qaz (by
  obtain⟨G,h⟩:=(hi.keep b1).h;exact zkw A c l W1 hi.hcH G h hi.ol hi.hl)
 have HAM:Hid (∀V,Below W.heap.size W V→zai l→Calls Tryz.prog 45 #[.slice A l.length c,.slice (some ⟨V.heap.size,0,none⟩) 2 2] (V.alloc (.cells #[.int .i64 a.id,.string a.lib,.slice A1 a.pars.length c1,.int .i64 a.result.kind,.string a.result.name,.int .i64 a.result.lo,.int .i64 a.result.hi,.slice A2 a.result.args.length c2,.int .i64 z,.string b.lib,.slice B1 b.pars.length d1,.int .i64 b.result.kind,.string b.result.name,.int .i64 b.result.lo,.int .i64 b.result.hi,.slice B2 b.result.args.length d2] 68)) fun e V'=>e=.returned (.bool (zcs l [a,{ b with id:=z }]))∧Below V.heap.size V V'):=Qaz (fun V hv hL=>by
  obtain⟨G,h⟩:=(hi.keep hv).h;have hM:=zqv (R:=metR) (n:=V.heap.size) (w:=V) 68 rfl (ha.keep hv).held (MetIn.held (m:={ b with id:=z }) ⟨hb.h1,(hb.keep hv).h2,hb.h3,(hb.keep hv).h4,hb.hs,hb.hp⟩) rfl rfl
  have bv:Below V.heap.size V (V.alloc (.cells #[.int .i64 a.id,.string a.lib,.slice A1 a.pars.length c1,.int .i64 a.result.kind,.string a.result.name,.int .i64 a.result.lo,.int .i64 a.result.hi,.slice A2 a.result.args.length c2,.int .i64 z,.string b.lib,.slice B1 b.pars.length d1,.int .i64 b.result.kind,.string b.result.name,.int .i64 b.result.lo,.int .i64 b.result.hi,.slice B2 b.result.args.length d2] 68)):=(Below.refl _ V).alloc (Qiz _) _
  refine(zgb A c l (some ⟨V.heap.size,0,none⟩) 2 [a,{ b with id:=z }] _ _ (h.keep (Keep.all bv)) hi.hcH hi.ol hi.hl _ hM (by simp) hL (fun m hm=> ?_) (fun m hm=> ?_)).mono ?_
  ·rcases List.mem_cons.1 hm with rfl|hm
   ·exact ha.hs
   ·rw[List.mem_singleton.1 hm];exact hb.hs
  ·rcases List.mem_cons.1 hm with rfl|hm
   ·exact ha.hp
   ·rw[List.mem_singleton.1 hm];exact hb.hp
  ·rintro e V' ⟨rfl,h⟩;exact⟨rfl,zab bv h⟩)
 have HB1:=Qaz b1;have hNE:=Qaz hne;have hla:=ha.hp;have hlb:=hb.hp;clear b1 hne;go_enter Tryz.func34,Tryz.ntmps34;go_wp2_with (fail);rw[←hz,←hW1];clear hW1 hz;refine HCK.out.mono ?_;clear HCK;rintro e V ⟨hbv,(⟨hL,rfl⟩|⟨hL,rfl⟩)⟩;rotate_left
 ·have HE:Hid (zgl l a b=false):=Qaz (zin fun h=>hL h.1);clear hL;go_wp2;go_ret;exact⟨(by rw[HE.out];try rfl),zab HB1.out hbv⟩
 have HL:=Qaz hL;have HAV:=Qaz (HAM.out V (zab HB1.out hbv) hL);have c0:=(CA.out.all hbv 0 _ rfl).1;have c1:=(CA.out.all hbv 1 _ rfl).1;have c2:=(CA.out.all hbv 2 _ rfl).1;have c3:=(CA.out.all hbv 3 _ rfl).1;have c4:=(CA.out.all hbv 4 _ rfl).1;have c5:=(CA.out.all hbv 5 _ rfl).1;have c6:=(CA.out.all hbv 6 _ rfl).1;have c7:=(CA.out.all hbv 7 _ rfl).1;have e0:=(CB.out.all hbv 0 _ rfl).1;have e1:=(CB.out.all hbv 1 _ rfl).1;have e2:=(CB.out.all hbv 2 _ rfl).1;have e3:=(CB.out.all hbv 3 _ rfl).1;have e4:=(CB.out.all hbv 4 _ rfl).1;have e5:=(CB.out.all hbv 5 _ rfl).1
 have e6:=(CB.out.all hbv 6 _ rfl).1;have e7:=(CB.out.all hbv 7 _ rfl).1;clear hL HAM;cases ham:zcs l [a,{ b with id:=z }]with
 |false=>
  have HE:Hid (zgl l a b=false):=Qaz (zx6 hNE.out ham);rw[ham]at HAV;clear ham;go_wp2_with (fail);refine HAV.out.mono ?_;rintro e V2 ⟨rfl,hb2⟩;go_wp2;go_ret;exact⟨(by rw[HE.out];try rfl),zab (zab HB1.out hbv) hb2⟩
 |true=>
 obtain⟨HE0,hlen,hva,hvb⟩:=zve HL.out hNE.out ham;have HE:=Qaz HE0;have HLE:=Qaz hlen;have HVA:=Qaz hva;have HVB:=Qaz hvb;rw[ham]at HAV;clear ham HE0 hlen hva hvb;go_wp2_with (fail);refine HAV.out.mono ?_;clear HAV c0 c1 c2 c3 c4 c5 c6 c7 e0 e1 e2 e3 e4 e5 e6 e7;rintro e V2 ⟨rfl,hb2⟩;have hv2:=zab hbv hb2;have x2:=(CA.out.all hv2 2 _ rfl).1;have y2:=(CB.out.all hv2 2 _ rfl).1;have HB2:=Qaz (zab HB1.out hv2);go_wp2_with (fail)
 go_loopw [28] (fun i wr=>∃k:Nat,k≤a.pars.length∧i=.int .i64 k∧zgj l a b k=true∧Below V2.heap.size V2 wr) (fun i _=>a.pars.length-(intOf i).toNat)
 case atStart=>exact⟨0,Qjz _,rfl,by unfold zgj;simp,Below.refl _ _⟩
 case round=>
  obtain⟨k,hk,rfl,hal,hbw⟩:=hrel;have hbV:=zab HB2.out hbw;have HBV:=Qaz hbV;have w2:=zaa y2 hbw;by_cases hlt:k<a.pars.length
  ·have haV:=ha.keep hbV;have hbV2:=hb.keep hbV;obtain⟨GP,hP⟩:=haV.h2;obtain⟨GQ,hQ⟩:=hbV2.h2;obtain⟨pb,po,rfl⟩:=Slc.addrH hP (by omega);obtain⟨qb,qo,rfl⟩:=Slc.addrH hQ (by have:=HLE.out;omega);have hx:a.pars[k]? =some a.pars[k]:=Qbz hlt;generalize a.pars[k]=x at hx;have hy:b.pars[k]? =some (b.pars[k]'(by have:=HLE.out;omega)):=Qbz _;generalize(b.pars[k]'(by have:=HLE.out;omega))=y at hy;obtain⟨Ax,cx,ex1,ex2,f0,f1,f2,f3,f4,f5⟩:=Pars.atH hP hx;obtain⟨Ay,cy,ey1,ey2,g0,g1,g2,g3,g4,g5⟩:=Pars.atH hQ hy;have htx:TyIn wr x.type Ax cx:=⟨ex1,⟨_,ex2⟩,ha.hs x (Qdz hx)⟩
   have hty:TyIn wr y.type Ay cy:=⟨ey1,⟨_,ey2⟩,hb.hs y (Qdz hy)⟩;have wk1:(k:Int)<(b.pars.length:Int):=by have:=HLE.out;omega
   have HXX:=Qaz hx;have HYY:=Qaz hy;have hiV:=hi.keep hbV;have HSXY:=Qaz (fun V (hv:Below wr.heap.size wr V)=>zli A c l x.type y.type Ax Ay cx cy V (hiV.keep hv) (htx.keep hv) (hty.keep hv) (ba x (Qdz hx)) (bb y (Qdz hy)));have HSYX:=Qaz (fun V (hv:Below wr.heap.size wr V)=>zli A c l y.type x.type Ay Ax cy cx V (hiV.keep hv) (hty.keep hv) (htx.keep hv) (bb y (Qdz hy)) (ba x (Qdz hx)));have hw2:W.heap.size+1<wr.heap.size:=cell_lt w2;have hqb:qb<wr.heap.size:=cell_lt g1;have hpb:pb<wr.heap.size:=cell_lt f1
   have HPR:Hid (zp1 l x.type y.type=(zp3 l x.type y.type&&zp3 l y.type x.type)):=Qaz (z1r (HVA.out x (Qdz hx)) (HVB.out y (Qdz hy)));clear hP hQ ex2 ey2 hx hy haV hbV2 ex1 ey1;obtain⟨W8,hW8⟩:∃W8,W8=(wr.alloc (.cells #[.string x.name,.int .i64 x.type.kind,.string x.type.name,.int .i64 x.type.lo,.int .i64 x.type.hi,.slice Ax x.type.args.length cx] 76)).alloc (.cells #[.int .i64 y.type.kind,.string y.type.name,.int .i64 y.type.lo,.int .i64 y.type.hi,.slice Ay y.type.args.length cy] 36):=⟨_,rfl⟩
   have b8:Below wr.heap.size wr W8:=by rw[hW8];exact((Below.refl _ wr).alloc (Qiz _) _).alloc (by simp) _
   have HC:Hid (∀V,Below W8.heap.size W8 V→(V.cell? ⟨wr.heap.size,1,none⟩=some (.int .i64 x.type.kind)∧V.cell? ⟨wr.heap.size,2,none⟩=some (.string x.type.name)∧V.cell? ⟨wr.heap.size,3,none⟩=some (.int .i64 x.type.lo)∧V.cell? ⟨wr.heap.size,4,none⟩=some (.int .i64 x.type.hi)∧V.cell? ⟨wr.heap.size,5,none⟩=some (.slice Ax x.type.args.length cx))∧V.cell? ⟨wr.heap.size+1,0,none⟩=some (.int .i64 y.type.kind)∧V.cell? ⟨wr.heap.size+1,1,none⟩=some (.string y.type.name)∧V.cell? ⟨wr.heap.size+1,2,none⟩=some (.int .i64 y.type.lo)∧V.cell? ⟨wr.heap.size+1,3,none⟩=some (.int .i64 y.type.hi)∧V.cell? ⟨wr.heap.size+1,4,none⟩=some (.slice Ay y.type.args.length cy)):=Qaz (fun V hv=>by
    have xa:Cel wr.heap.size [.string x.name,.int .i64 x.type.kind,.string x.type.name,.int .i64 x.type.lo,.int .i64 x.type.hi,.slice Ax x.type.args.length cx] V:=by rw[hW8]at hv;exact((Cel.new wr _ _ _ rfl).all ((Below.refl _ _).alloc (Qiz _) _)).all hv
    have xb:Cel (wr.heap.size+1) [.int .i64 y.type.kind,.string y.type.name,.int .i64 y.type.lo,.int .i64 y.type.hi,.slice Ay y.type.args.length cy] V:=by rw[hW8]at hv;exact(Cel.new (wr.alloc _) _ _ _ (by simp)).all hv
    exact⟨⟨(xa 1 _ rfl).1,(xa 2 _ rfl).1,(xa 3 _ rfl).1,(xa 4 _ rfl).1,(xa 5 _ rfl).1⟩,(xb 0 _ rfl).1,(xb 1 _ rfl).1,(xb 2 _ rfl).1,(xb 3 _ rfl).1,(xb 4 _ rfl).1⟩)
   have HPN:=Qaz (znl (l:=l) HXX.out HYY.out);have HAL:=Qaz hal;clear htx hty hiV ha hb hi ba bb hal HVA HVB;obtain⟨⟨p1,p2,p3,p4,p5⟩,q0,q1,q2,q3,q4⟩:=HC.out W8 (Below.refl _ _);rw[hW8]at p1 p2 p3 p4 p5 q0 q1 q2 q3 q4;go_wp2_with (fail);rw[←hW8];clear hW8 f0 f1 f2 f3 f4 f5 g0 g1 g2 g3 g4 g5 w2 p1 p2 p3 p4 p5 q0 q1 q2 q3 q4;refine(HSXY.out W8 b8).mono ?_;rintro e V3 ⟨rfl,h3⟩;generalize zp3 l x.type y.type=r1 at HPR;cases r1 with
   |false=>
    have HPF:Hid (zp1 l x.type y.type=false):=Qaz (by rw[HPR.out];rfl);go_wp2;go_ret;exact⟨(by rw[HE.out,zc9 hlt HXX.out HYY.out HPF.out];try rfl),zab (zab HBV.out b8) h3⟩
   |true=>
   obtain⟨⟨p1,p2,p3,p4,p5⟩,q0,q1,q2,q3,q4⟩:=HC.out V3 h3;go_wp2_with (fail);refine(HSYX.out V3 (zab b8 h3)).mono ?_;clear p1 p2 p3 p4 p5 q0 q1 q2 q3 q4;rintro e V4 ⟨rfl,v4⟩;have h4:=zab h3 v4;generalize zp3 l y.type x.type=r2 at HPR;cases r2 with
   |false=>
    have HPF:Hid (zp1 l x.type y.type=false):=Qaz (by rw[HPR.out];rfl);go_wp2;go_ret;exact⟨(by rw[HE.out,zc9 hlt HXX.out HYY.out HPF.out];try rfl),zab (zab HBV.out b8) h4⟩
   |true=>
    have HN:Hid (zgj l a b (k+1)=true):=Qaz (by rw[HPN.out,HAL.out,HPR.out];rfl);go_wp2;go_roundw
    case rel=>exact⟨k+1,by omega,by go_num,HN.out,zab (zab hbw b8) h4⟩
    case measure=>simp[intOf];omega
  ·obtain rfl:k=a.pars.length:=by omega
   have HT:Hid (zgl l a b=true):=Qaz (by rw[HE.out,hal]);clear hal;go_wp2;go_ret;exact⟨(by rw[HT.out];try rfl),HBV.out⟩
end
end Go.Proofs.YtepnmejahbiacaaGreat
