/- Part 14 of the proof: Wi, Lo, Cz, Cx, Wz. -/
import Derived.Test.YtepnmejahbiacaaGreatM13
import Derived.Deep.RegionHeld3
set_option linter.unusedVariables false
set_option linter.unusedSimpArgs false
set_option maxHeartbeats 64000000
set_option maxRecDepth 100000
namespace Go.Proofs.YtepnmejahbiacaaGreat
open Go.RowKit
theorem zj3(fid:Nat)(first cap:Array Value)(hfn:∀args w,(callFunc fid args).run Tryz.prog w=.ok (.enter fid args) w)(N:Nat)(W0:World)(J:List Ty→World→Prop)
  (hJ:∀d w w',J d w→Below w.heap.size w w'→J d w') (hJN:∀d w,J d w→Below N W0 w)
  (step:∀d x A c w,J d w→Calls Tryz.prog fid (first.push (tyV x A c)++cap) w fun e w'=>e=.returned (.tuple #[])∧J (d++[x]) w'):
  ∀(q:Nat)(t:Ty),t.count≤q→∀(A:Option Addr)(c:Nat)(W:World)(d:List Ty),J d W→Held (· <N) (Typs A t.args) W0→t.all (fun x=>decide (x.args.length≤1000000))=true→
   Calls Tryz.prog 83 #[tyV t A c,.func (.func fid) first cap] W fun e W'=>e=.returned (.tuple #[])∧J (d++t.pieces) W':=by
 have HS:=Qaz step;have HJ:=Qaz hJ;have HJN:=Qaz hJN;clear step hJ hJN;intro q
 induction q with
 |zero=>intro t hq;have:=t.count_pos;omega
 |succ q ih=>
  intro t hq A c W d hd hT hall;have HIH:=Qaz ih;clear ih;have HALL:=Qaz hall;have HQ:=Qaz hq;clear hall hq;obtain⟨W1,hW1⟩:∃W1,W1=W.alloc (.cells #[.int .i64 t.kind,.string t.name,.int .i64 t.lo,.int .i64 t.hi,.slice A t.args.length c] 36):=⟨_,rfl⟩;have b1:Below W.heap.size W W1:=by rw[hW1];exact(Below.refl _ W).alloc (Qiz _) _
  have xt:∀j u,[Value.int .i64 t.kind,.string t.name,.int .i64 t.lo,.int .i64 t.hi,.slice A t.args.length c][j]? =some u→W1.cell? ⟨W.heap.size,j,none⟩=some u:=fun j u hj=>by rw[hW1];exact zac W _ _ _ rfl j u hj
  have c0:=xt 0 _ rfl;have c1:=xt 1 _ rfl;have c2:=xt 2 _ rfl;have c3:=xt 3 _ rfl;have c4:=xt 4 _ rfl;clear xt;have hd1:=HJ.out d W W1 hd b1;have HD:=Qaz hd1;clear hd hd1;go_enter Tryz.func83,Tryz.ntmps83;by_cases hk:t.kind=5
  ·have t1:(t.kind != 5)=false:=bne_eq_false_iff_eq.2 hk;have HP:=Qaz (Ty.pieces_union hk);have hlen:t.args.length≤1000000:=by
    have:=HALL.out;rw[Ty.all_args,Bool.and_eq_true]at this
    exact of_decide_eq_true this.1
   have HK:=Qaz hk;clear hk;go_wp2_with (fail);rw[←hW1];clear hW1
   go_loopw [15] (fun i wr=>∃k:Nat,k≤t.args.length∧i=.int .i64 k∧J (d++(t.args.take k).flatMap Ty.pieces) wr) (fun i _=>t.args.length-(intOf i).toNat)
   case atStart=>exact⟨0,Qjz _,rfl,by simpa using HD.out⟩
   case round=>
    obtain⟨k,hk,rfl,hd⟩:=hrel;have HDK:=Qaz hd;have hbN:=HJN.out _ _ hd;clear hd;by_cases hlt:k<t.args.length
    ·obtain⟨b,off,rfl⟩:=Slc.addrH hT (by omega);have hx:t.args[k]? =some t.args[k]:=Qbz hlt;generalize t.args[k]=x at hx;have HX:=Qaz hx;obtain⟨A3,c3',r1,r2,g0,g1,g2,g3,g4⟩:=Typs.atH hT hx;have hbN':b<N:=(Slc.inG hT (by omega) (by decide)).2;have kN:Keep (· <N) W0 wr:=Keep.below hbN;have e0:=zah g0 kN hbN';have e1:=zah g1 kN hbN';have e2:=zah g2 kN hbN';have e3:=zah g3 kN hbN';have e4:=zah g4 kN hbN';have hxm:x∈t.args:=Qdz hx;have hax:x.all (fun x=>decide (x.args.length≤1000000))=true:=by
      have:=HALL.out;rw[Ty.all_args,Bool.and_eq_true]at this
      exact List.all_eq_true.1 this.2 x hxm
     have hcx:x.count≤q:=by have:=Ty.count_mem hxm;have:=HQ.out;omega
     have HST:=Qaz (fun V (hv:Below wr.heap.size wr V)=>HIH.out x hcx A3 c3' V _ (HJ.out _ wr V HDK.out hv) r2 hax);have bx:Below wr.heap.size wr (wr.alloc (.cells #[.int .i64 x.kind,.string x.name,.int .i64 x.lo,.int .i64 x.hi,.slice A3 x.args.length c3'] 36)):=(Below.refl _ wr).alloc (Qiz _) _;clear hx g0 g1 g2 g3 g4 kN c0 c1 c2 c3 c4 hax hcx hxm;go_wp2_with (fail);refine(HST.out _ bx).mono ?_;clear HST;rintro e V ⟨rfl,hJV⟩;have HJV:=Qaz hJV;clear hJV;go_wp2;go_roundw
     case rel=>
      refine⟨k+1,by omega,by go_num,?_⟩;rw[take_snoc HX.out,List.flatMap_append];have:=HJV.out
      simpa using this
     case measure=>simp[intOf];omega
    ·obtain rfl:k=t.args.length:=by omega
     go_wp2
     go_end0
     exact⟨rfl,by rw[HP.out];have:=HDK.out;rwa [List.take_length]at this⟩
  ·have t1:(t.kind != 5)=true:=by rw[bne_iff_ne];exact hk
   have HP:=Qaz (Ty.pieces_leaf hk);clear hk;go_wp2_with (fail);refine(HS.out d t A c _ (hW1▸HD.out)).mono ?_;rintro e V ⟨rfl,hJV⟩;have HJV:=Qaz hJV;clear hJV;go_wp2;refine bodyPost_ret (results_none rfl _ _ _) rfl ?_;exact⟨rfl,by rw[HP.out];exact HJV.out⟩
structure InAt (sb hb ab:Nat) (AH:Option Addr) (cH:Nat) (l:List CI) (a:Ty) (Aa:Option Addr) (ca:Nat) (w:World):Prop where
 hh:w.cell? ⟨hb,0,none⟩=some (.slice AH l.length cH)
 a0:w.cell? ⟨ab,0,none⟩=some (.int .i64 a.kind)
 a1:w.cell? ⟨ab,1,none⟩=some (.string a.name)
 a2:w.cell? ⟨ab,2,none⟩=some (.int .i64 a.lo)
 a3:w.cell? ⟨ab,3,none⟩=some (.int .i64 a.hi)
 a4:w.cell? ⟨ab,4,none⟩=some (.slice Aa a.args.length ca)
theorem InAt.keep{sb hb ab:Nat}{AH:Option Addr}{cH:Nat}{l:List CI}{a:Ty}{Aa:Option Addr}{ca:Nat}{w w':World}(h:InAt sb hb ab AH cH l a Aa ca w){G:Nat→Prop}(k:Keep G w w')(h1:G hb)(h2:G ab):InAt sb hb ab AH cH l a Aa ca w':=
 ⟨zah h.hh k h1,zah h.a0 k h2,zah h.a1 k h2,zah h.a2 k h2,zah h.a3 k h2,zah h.a4 k h2⟩
theorem znc(sb hb ab:Nat)(AH:Option Addr)(cH:Nat)(l:List CI)(a b:Ty)(Aa Ab:Option Addr)(ca cb:Nat)(v:Bool)(W:World)(HI:InAt sb hb ab AH cH l a Aa ca W)(hs:W.cell? ⟨sb,0,none⟩=some (.bool v))(hf:W.frozen? ⟨sb,0,none⟩=false)
  (G:Nat→Prop) (h:Held G (CIs AH l) W) (hl:l.length≤1000000) (ol:∀x∈l,zdo x):
  Calls Tryz.prog 85 #[tyV b Ab cb,.pointer (some ⟨sb,0,none⟩),.pointer (some ⟨hb,0,none⟩),.pointer (some ⟨ab,0,none⟩)] W fun e W'=>e=.returned (.tuple #[])∧W'.cell? ⟨sb,0,none⟩=some (.bool (v||za6 l a b))∧W'.frozen? ⟨sb,0,none⟩=false∧Chg (· =sb) W W':=by
 obtain⟨W1,hW1⟩:∃W1,W1=W.alloc (.cells #[.int .i64 b.kind,.string b.name,.int .i64 b.lo,.int .i64 b.hi,.slice Ab b.args.length cb] 36):=⟨_,rfl⟩;have b1:Below W.heap.size W W1:=by rw[hW1];exact(Below.refl _ W).alloc (Qiz _) _
 have xb:∀j u,[Value.int .i64 b.kind,.string b.name,.int .i64 b.lo,.int .i64 b.hi,.slice Ab b.args.length cb][j]? =some u→W1.cell? ⟨W.heap.size,j,none⟩=some u:=fun j u hj=>by rw[hW1];exact zac W _ _ _ rfl j u hj
 have x0:=xb 0 _ rfl;have x1:=xb 1 _ rfl;have x2:=xb 2 _ rfl;have x3:=xb 3 _ rfl;have x4:=xb 4 _ rfl;have I1:=HI.keep (Keep.all (G:=fun _=>True) b1) trivial trivial;have a0:=I1.a0;have a1:=I1.a1;have a2:=I1.a2;have a3:=I1.a3;have a4:=I1.a4;have ah:=I1.hh;have s1:=zaa hs b1;have hsl:=cell_lt hs;have sf1:W1.frozen? ⟨sb,0,none⟩=false:=(World.frozen?_of_block (a:=⟨sb,0,none⟩) (b1.block sb hsl)).trans hf;have HIN:=Qaz (zqk AH cH l a b Aa Ab ca cb W1 G (h.keep (Keep.all b1)) hl ol);clear xb I1 HI;have HS0:=Qaz hs;have HF0:=Qaz hf;clear hs hf;subst hW1;go_enter Tryz.func85,Tryz.ntmps85;cases v with
 |true=>
  go_wp2
  go_end0
  have hsl':sb<(W.setCell ⟨sb,0,none⟩ (.bool true)).heap.size:=by simpa[World.setCell]using hsl
  exact⟨rfl,zat (by rw[World.cell?_setCell_same' _ _ _ (by rw[HS0.out];rfl)];try simp),(World.frozen?_of_block (a:=⟨sb,0,none⟩) (((Below.refl _ (W.setCell ⟨sb,0,none⟩ (.bool true))).alloc (Qiz _) _).block sb hsl')).trans (by rw[World.frozen?_setCell];exact HF0.out),(Chg.setCell (S:=(· =sb)) W (p:=⟨sb,0,none⟩) rfl _).trans (Chg.alloc _ _)⟩
 |false=>
  go_wp2_with (fail);refine HIN.out.mono ?_;rintro e V ⟨rfl,hbv⟩;have s2:=zaa s1 hbv;have sf2:V.frozen? ⟨sb,0,none⟩=false:=(World.frozen?_of_block (a:=⟨sb,0,none⟩) (hbv.block sb (cell_lt s1))).trans sf1;go_wp2
  go_end0
  exact⟨rfl,by rw[World.cell?_setCell_same' _ _ _ (by rw[s2];rfl)];simp,by rw[World.frozen?_setCell];exact sf2,((Chg.of b1).trans (Chg.of hbv)).trans (Chg.setCell (S:=(· =sb)) V (p:=⟨sb,0,none⟩) rfl _)⟩
theorem zon(tb hb allb:Nat)(AH:Option Addr)(cH:Nat)(l:List CI)(a t:Ty)(Aa At:Option Addr)(ca ct:Nat)(v:Bool)(W:World)(hh:W.cell? ⟨hb,0,none⟩=some (.slice AH l.length cH))
  (t0:W.cell? ⟨tb,0,none⟩=some (.int .i64 t.kind)) (t1:W.cell? ⟨tb,1,none⟩=some (.string t.name)) (t2:W.cell? ⟨tb,2,none⟩=some (.int .i64 t.lo)) (t3:W.cell? ⟨tb,3,none⟩=some (.int .i64 t.hi)) (t4:W.cell? ⟨tb,4,none⟩=some (.slice At t.args.length ct))
  (hs:W.cell? ⟨allb,0,none⟩=some (.bool v)) (hf:W.frozen? ⟨allb,0,none⟩=false) (G:Nat→Prop) (h:Held G (CIs AH l) W) (hl:l.length≤1000000) (ol:∀x∈l,zdo x) (Gt:Nat→Prop) (hT:Held Gt (Typs At t.args) W) (ht:t.all (fun x=>decide (x.args.length≤1000000))=true):
  Calls Tryz.prog 84 #[tyV a Aa ca,.pointer (some ⟨tb,0,none⟩),.pointer (some ⟨hb,0,none⟩),.pointer (some ⟨allb,0,none⟩)] W fun e W'=>e=.returned (.tuple #[])∧W'.cell? ⟨allb,0,none⟩=some (.bool (v&&t.pieces.any fun b=>za6 l a b))∧W'.frozen? ⟨allb,0,none⟩=false∧Chg (· =allb) W W':=by
 obtain⟨W1,hW1⟩:∃W1,W1=(W.alloc (.cells #[.int .i64 a.kind,.string a.name,.int .i64 a.lo,.int .i64 a.hi,.slice Aa a.args.length ca] 36)).alloc (.cells #[.bool false] 4):=⟨_,rfl⟩;have b1:Below W.heap.size W W1:=by rw[hW1];exact((Below.refl _ W).alloc (Qiz _) _).alloc (by simp) _
 have xa:∀j u,[Value.int .i64 a.kind,.string a.name,.int .i64 a.lo,.int .i64 a.hi,.slice Aa a.args.length ca][j]? =some u→W1.cell? ⟨W.heap.size,j,none⟩=some u:=fun j u hj=>by rw[hW1];exact zat (zac W _ _ _ rfl j u hj)
 have xs:W1.cell? ⟨W.heap.size+1,0,none⟩=some (.bool false):=by rw[hW1];exact zac (W.alloc _) _ _ _ (by simp) 0 _ rfl
 have xf:W1.frozen? ⟨W.heap.size+1,0,none⟩=false:=by
  rw[hW1];unfold World.frozen?
  have:(W.heap.size+1)=(W.alloc (.cells #[.int .i64 a.kind,.string a.name,.int .i64 a.lo,.int .i64 a.hi,.slice Aa a.args.length ca] 36)).heap.size:=by simp
  simp only[this];rw[heap_alloc_new];simp
 have hsz:W1.heap.size=W.heap.size+2:=by rw[hW1];simp
 have hal:=cell_lt hs;have hbl:=cell_lt hh;have HP:=Qaz (zj3 85 #[] #[.pointer (some ⟨W.heap.size+1,0,none⟩),.pointer (some ⟨hb,0,none⟩),.pointer (some ⟨W.heap.size,0,none⟩)] (enters Tryz.func85 (by kernel_rfl) rfl) W.heap.size W
  (fun d w=>Chg (· =W.heap.size+1) W1 w∧w.cell? ⟨W.heap.size+1,0,none⟩=some (.bool (d.any fun b=>za6 l a b))∧w.frozen? ⟨W.heap.size+1,0,none⟩=false)
  (fun d w w' ⟨h1,h2,h3⟩ q=>⟨h1.trans (Chg.of q),zaa h2 q,(World.frozen?_of_block (a:=⟨W.heap.size+1,0,none⟩) (q.block _ (cell_lt h2))).trans h3⟩)
  (fun d w ⟨h1,_,_⟩=>b1.trans (h1.below (by omega) (fun b e=>by omega)))
  (fun d x A c w ⟨h1,h2,h3⟩=>by
   have k1:Keep (fun b=>b≠W.heap.size+1) W1 w:=h1.keep fun b hb=>hb;have bW:Below W.heap.size W w:=b1.trans (h1.below (by omega) (fun b e=>by omega));have I:InAt (W.heap.size+1) hb W.heap.size AH cH l a Aa ca w:=InAt.keep ⟨zaa hh b1,xa 0 _ rfl,xa 1 _ rfl,xa 2 _ rfl,xa 3 _ rfl,xa 4 _ rfl⟩ k1 (show hb≠W.heap.size+1 by have:hb<W.heap.size:=hbl;omega) (show W.heap.size≠W.heap.size+1 by omega);refine(znc (W.heap.size+1) hb W.heap.size AH cH l a x Aa A ca c _ w I h2 h3 G (h.keep (Keep.all bW)) hl ol).mono ?_;rintro e w' ⟨rfl,q1,q2,q3⟩;refine⟨rfl,h1.trans q3,?_,q2⟩;rw[q1,List.any_append];simp)
  t.count t (Qiz _) At ct)
 have HP2:=Qaz (HP.out W1 [] ⟨Chg.refl _ _,xs,xf⟩ hT.here ht);have k1:∀{V:World},Chg (· =W.heap.size+1) W1 V→Keep (fun b=>b≠W.heap.size+1) W1 V:=fun h=>h.keep fun b hb=>hb;have hbW:Hid (∀V,Chg (· =W.heap.size+1) W1 V→Below W.heap.size W V):=Qaz (fun V h1=>b1.trans (h1.below (by omega) (fun b e=>by omega)));have c4:=Qaz (fun V (q:Chg (· =W.heap.size+1) W1 V)=>zah (zaa hs b1) (k1 q) (show allb≠W.heap.size+1 by have:allb<W.heap.size:=hal;omega))
 have f4:=Qaz (fun V (q:Chg (· =W.heap.size+1) W1 V)=>(World.frozen?_of_block (a:=⟨allb,0,none⟩) ((k1 q).2 allb (cell_lt (zaa hs b1)) (show allb≠W.heap.size+1 by have:allb<W.heap.size:=hal;omega))).trans ((World.frozen?_of_block (a:=⟨allb,0,none⟩) (b1.block allb hal)).trans hf));have hmf:∀(fn:Fn)(first cap:Array Value)(w:World),(Instr.makeFunc fn first cap).run Tryz.prog w=.ok (.func fn first cap) w:=fun _ _ _ _=>rfl;have htb:tb<W.heap.size:=cell_lt t0;clear HP k1 xa xs xf hs hf hT ht h ol hh;subst hW1;go_enter Tryz.func84,Tryz.ntmps84;go_wp2_with (fail);refine HP2.out.mono ?_;clear HP2
 rintro e V ⟨rfl,hch,c2,f2⟩;have g4:=c4.out V hch;have gf4:=f4.out V hch;have bWV:=hbW.out V hch;clear c4 f4 hbW b1 hch t0 t1 t2 t3 t4 hsz;cases v with
 |true=>
  go_wp2
  go_end0
  exact⟨rfl,by rw[World.cell?_setCell_same' _ _ _ (by rw[g4];rfl)];simp,by rw[World.frozen?_setCell];exact gf4,(Chg.of bWV).trans (Chg.setCell (S:=(· =allb)) V (p:=⟨allb,0,none⟩) rfl _)⟩
 |false=>
  go_wp2
  go_end0
  exact⟨rfl,by rw[World.cell?_setCell_same' _ _ _ (by rw[g4];rfl)];simp,by rw[World.frozen?_setCell];exact gf4,(Chg.of bWV).trans (Chg.setCell (S:=(· =allb)) V (p:=⟨allb,0,none⟩) rfl _)⟩
theorem zq7(AH:Option Addr)(cH:Nat)(l:List CI)(s t:Ty)(As At:Option Addr)(cs ct:Nat)(W:World)(G:Nat→Prop)(h:Held G (CIs AH l) W)(hl:l.length≤1000000)(ol:∀x∈l,zdo x)
  (Gs Gt:Nat→Prop) (hS:Held Gs (Typs As s.args) W) (hT:Held Gt (Typs At t.args) W) (hs:s.all (fun x=>decide (x.args.length≤1000000))=true) (ht:t.all (fun x=>decide (x.args.length≤1000000))=true):
  Calls Tryz.prog 51 #[.slice AH l.length cH,tyV s As cs,tyV t At ct] W fun e W'=>e=.returned (.bool (za5 l s t))∧Below W.heap.size W W':=by
 obtain⟨Wa,hWa⟩:∃Wa,Wa=W.alloc (.cells #[.slice AH l.length cH] 22):=⟨_,rfl⟩;obtain⟨Wb,hWb⟩:∃Wb,Wb=Wa.alloc (.cells #[.int .i64 s.kind,.string s.name,.int .i64 s.lo,.int .i64 s.hi,.slice As s.args.length cs] 36):=⟨_,rfl⟩;obtain⟨Wc,hWc⟩:∃Wc,Wc=Wb.alloc (.cells #[.int .i64 t.kind,.string t.name,.int .i64 t.lo,.int .i64 t.hi,.slice At t.args.length ct] 36):=⟨_,rfl⟩;obtain⟨W1,hW1⟩:∃W1,W1=Wc.alloc (.cells #[.bool true] 4):=⟨_,rfl⟩;have za:Wa.heap.size=W.heap.size+1:=by rw[hWa];simp
 have zb:Wb.heap.size=W.heap.size+2:=by rw[hWb];simp[za]
 have zc:Wc.heap.size=W.heap.size+3:=by rw[hWc];simp[zb]
 have z1:W1.heap.size=W.heap.size+4:=by rw[hW1];simp[zc]
 have ba:Below Wa.heap.size Wa Wb:=by rw[hWb];exact(Below.refl _ Wa).alloc (Qiz _) _
 have bb:Below Wb.heap.size Wb Wc:=by rw[hWc];exact(Below.refl _ Wb).alloc (Qiz _) _
 have bc:Below Wc.heap.size Wc W1:=by rw[hW1];exact(Below.refl _ Wc).alloc (Qiz _) _
 have b0:Below W.heap.size W Wa:=by rw[hWa];exact(Below.refl _ W).alloc (Qiz _) _
 have b1:Below W.heap.size W W1:=((b0.trans (ba.mono (by omega))).trans (bb.mono (by omega))).trans (bc.mono (by omega));have bb1:Below Wb.heap.size Wb W1:=bb.trans (bc.mono (by omega));have ba1:Below Wa.heap.size Wa W1:=ba.trans (bb1.mono (by omega));have xh:W1.cell? ⟨W.heap.size,0,none⟩=some (.slice AH l.length cH):=zaa (by rw[hWa];exact zac W _ _ _ rfl 0 _ rfl) ba1;have xs:∀j u,[Value.int .i64 s.kind,.string s.name,.int .i64 s.lo,.int .i64 s.hi,.slice As s.args.length cs][j]? =some u→W1.cell? ⟨W.heap.size+1,j,none⟩=some u:=fun j u hj=>zaa (by rw[hWb];exact zac Wa _ _ _ za.symm j u hj) bb1
 have xt:∀j u,[Value.int .i64 t.kind,.string t.name,.int .i64 t.lo,.int .i64 t.hi,.slice At t.args.length ct][j]? =some u→W1.cell? ⟨W.heap.size+2,j,none⟩=some u:=fun j u hj=>zaa (by rw[hWc];exact zac Wb _ _ _ zb.symm j u hj) bc;have xv:W1.cell? ⟨W.heap.size+3,0,none⟩=some (.bool true):=by rw[hW1];exact zac Wc _ _ _ zc.symm 0 _ rfl
 have xf:W1.frozen? ⟨W.heap.size+3,0,none⟩=false:=by
  rw[hW1];unfold World.frozen?
  simp only[←zc];rw[heap_alloc_new];simp
 have HP:=Qaz (zj3 84 #[] #[.pointer (some ⟨W.heap.size+2,0,none⟩),.pointer (some ⟨W.heap.size,0,none⟩),.pointer (some ⟨W.heap.size+3,0,none⟩)] (enters Tryz.func84 (by kernel_rfl) rfl) W.heap.size W
  (fun d w=>Chg (· =W.heap.size+3) W1 w∧w.cell? ⟨W.heap.size+3,0,none⟩=some (.bool (d.all fun a=>t.pieces.any fun b=>za6 l a b))∧w.frozen? ⟨W.heap.size+3,0,none⟩=false)
  (fun d w w' ⟨h1,h2,h3⟩ q=>⟨h1.trans (Chg.of q),zaa h2 q,(World.frozen?_of_block (a:=⟨W.heap.size+3,0,none⟩) (q.block _ (cell_lt h2))).trans h3⟩)
  (fun d w ⟨h1,_,_⟩=>b1.trans (h1.below (by omega) (fun b e=>by omega)))
  (fun d x A c w ⟨h1,h2,h3⟩=>by
   have k1:Keep (fun b=>b≠W.heap.size+3) W1 w:=h1.keep fun b hb=>hb;have bW:Below W.heap.size W w:=b1.trans (h1.below (by omega) (fun b e=>by omega));have ct:∀j u,[Value.int .i64 t.kind,.string t.name,.int .i64 t.lo,.int .i64 t.hi,.slice At t.args.length ct][j]? =some u→w.cell? ⟨W.heap.size+2,j,none⟩=some u:=fun j u hj=>zah (xt j u hj) k1 (show W.heap.size+2≠W.heap.size+3 by omega)
   refine(zon (W.heap.size+2) W.heap.size (W.heap.size+3) AH cH l x t A At c _ _ w (zah xh k1 (show W.heap.size≠W.heap.size+3 by omega)) (ct 0 _ rfl) (ct 1 _ rfl) (ct 2 _ rfl) (ct 3 _ rfl) (ct 4 _ rfl) h2 h3 G (h.keep (Keep.all bW)) hl ol Gt (hT.keep (Keep.all bW)) ht).mono ?_;rintro e w' ⟨rfl,q1,q2,q3⟩;refine⟨rfl,h1.trans q3,?_,q2⟩;rw[q1,List.all_append];simp)
  s.count s (Qiz _) As cs)
 have HP2:=Qaz (HP.out W1 [] ⟨Chg.refl _ _,xv,xf⟩ hS.here hs);have hmf:∀(fn:Fn)(first cap:Array Value)(w:World),(Instr.makeFunc fn first cap).run Tryz.prog w=.ok (.func fn first cap) w:=fun _ _ _ _=>rfl;have s0:=xs 0 _ rfl;have s1:=xs 1 _ rfl;have s2:=xs 2 _ rfl;have s3:=xs 3 _ rfl;have s4:=xs 4 _ rfl;have hbW:Hid (∀V,Chg (· =W.heap.size+3) W1 V→Below W.heap.size W V):=Qaz (fun V h1=>b1.trans (h1.below (by omega) (fun b e=>by omega)));clear HP xh xs xt xv xf h ol hS hT hs ht za zb zc z1 ba bb bc b0 bb1 ba1 b1;subst hW1 hWc hWb hWa;go_enter Tryz.func51,Tryz.ntmps51;go_wp2_with (fail)
 refine HP2.out.mono ?_;clear HP2;rintro e V ⟨rfl,hch,c2,f2⟩;have bWV:=hbW.out V hch;clear hbW hch;go_wp2;go_ret;exact⟨rfl,bWV⟩
theorem z1s{s:ByteArray}{l:List (List ByteArray)}{y:List ByteArray}(h:y∈l):rm1 s y∈rm s l:=List.mem_map.2 ⟨y,h,rfl⟩
theorem zyg{l:List (List ByteArray)}:∀{out:List ByteArray},merge l=some out→∀y∈l,y.Sublist out:=by
 generalize hn:total l=n
 induction n using Nat.strongRecOn generalizing l with
 |_ n ih=>
  intro out h y hy;by_cases ha:zb0 l=true
  ·cases hc:zia l l with
   |none=>rw[zfo ha hc]at h;cases h
   |some s=>
    rw[zg8 ha hc]at h;obtain⟨t,ht,hg⟩:=ziw hc;have hlt:=zdv ht;obtain⟨o,ho,rfl⟩:=Option.map_eq_some_iff.1 h;have h1:=ih _ (by omega) rfl ho (rm1 s y) (z1s hy);cases y with
    |nil=>exact List.nil_sublist _
    |cons a r=>
     unfold rm1 at h1;simp only[]at h1;by_cases e:a=s
     ·subst e;rw[if_pos rfl]at h1;exact h1.cons_cons _
     ·rw[if_neg e]at h1;exact h1.cons _
  ·rw[zhb (by simpa using ha)]at h;cases h;have:y.isEmpty=true:=by
    have h2:zb0 l=false:=by simpa using ha
    unfold zb0 at h2;rw[List.any_eq_false]at h2;have:=h2 y hy
    simpa using this
   rw[List.isEmpty_iff.1 this];exact List.Sublist.refl _
theorem zz9{g:List Heir}(h:zbp [] g=true):∀(i:Nat)(l:List ByteArray),line g i=some l→∀x∈l,∃(j:Nat)(m:List ByteArray),j≤i∧(names g)[j]? =some x∧line g j=some m∧m.Sublist l:=by
 intro i
 induction i using Nat.strongRecOn with
 |_ i ih=>
  intro l hl x hx;have hl0:=hl;cases hg:g[i]? with
  |none=>unfold line at hl;simp only[zmr,hg]at hl;cases hl
  |some c=>
   rw[zpj h hg]at hl;obtain⟨ls,hls,hl⟩:=Option.bind_eq_some_iff.1 hl;obtain⟨t,ht,rfl⟩:=Option.map_eq_some_iff.1 hl;obtain⟨h1,h2⟩:=zdd hls;have hsub:=zyg ht;rcases List.mem_cons.1 hx with rfl|hx
   ·exact⟨i,_,Qiz _,zg0 hg,hl0,List.Sublist.refl _⟩
   ·obtain⟨z,hz,hxz⟩:=(zsa ht).1 x hx;have key:∀(k:Nat)(s:ByteArray),c.supers[k]? =some s→∃(j:Nat)(z:List ByteArray),j<i∧(names g)[j]? =some s∧line g j=some z∧ls[k]? =some z:=by
     intro k s hk;obtain⟨z',hz',hf⟩:=h2 k s hk;obtain⟨j,hj,he⟩:=ze4 h hg (Qdz hk);unfold zcn at hf;rw[he]at hf
     exact⟨j,z',hj,zci he,hf,hz'⟩
    rw[List.mem_append,List.mem_singleton]at hz;rcases hz with hz|rfl
    ·obtain⟨k,hk,e⟩:=List.getElem_of_mem hz;have hks:k<c.supers.length:=by omega
     obtain⟨j,z',hj,hn,hf,hz'⟩:=key k _ (Qbz hks);rw[Qbz hk,e]at hz';cases hz'
     obtain⟨j2,m,hj2,hn2,hm,hs⟩:=ih j hj z hf x hxz;exact⟨j2,m,by omega,hn2,hm,(hs.trans (hsub z (List.mem_append.2 (.inl hz)))).cons _⟩
    ·obtain⟨k,hk⟩:=Qez hxz;obtain⟨j,z',hj,hn,hf,hz'⟩:=key k x hk;exact⟨j,z',by omega,hn,hf,(hsub z' (List.mem_append.2 (.inl (Qdz hz')))).cons _⟩
theorem zkm{l:List CI}(h:zai l){x:CI}(hx:x∈l):∃t,x.cpl=x.name::t:=by
 obtain⟨j,hj⟩:=Qez hx;obtain⟨_,_,y,t,hy,e,_⟩:=zii (zaz h.2.2.2.2.1).2 j x.cpl (h.2.2.2.2.2 j x hj);rw[zfw hj]at hy;cases hy;exact⟨t,e⟩
theorem ztp{l:List CI}(h:zai l){x:CI}(hx:x∈l){n:ByteArray}(hn:n∈x.cpl):∃y∈l,y.name=n∧l.find? (fun z=>decide (z.name=n))=some y∧y.cpl.Sublist x.cpl:=by
 obtain⟨j,hj⟩:=Qez hx;obtain⟨k,m,hk,hk1,hk2,hs⟩:=zz9 (zaz h.2.2.2.2.1).2 j x.cpl (h.2.2.2.2.2 j x hj) n hn;rw[ziq,List.getElem?_map]at hk1;obtain⟨y,hy,e⟩:=Option.map_eq_some_iff.1 hk1;have:=h.2.2.2.2.2 k y hy;rw[hk2]at this;cases this;exact⟨y,Qdz hy,e,(zd1 h hy e).1,hs⟩
theorem zkn{l:List CI}{n:ByteArray}{y:CI}(h:l.find? (fun z=>decide (z.name=n))=some y):y∈l∧y.name=n:=⟨List.mem_of_find?_eq_some h,by simpa using List.find?_some h⟩
theorem zdw{l:List CI}{a b:ByteArray}:za0 l a b=true↔∃x,l.find? (fun z=>decide (z.name=a))=some x∧b∈x.cpl:=by
 unfold za0;cases hf:l.find? (fun z=>decide (z.name=a))with
 |none=>simp
 |some x=>simp[zb8]
theorem zgk{l:List CI}(h:zai l){a b c:ByteArray}(h1:za0 l a b=true)(h2:za0 l b c=true):za0 l a c=true:=by
 obtain⟨x,hx,hb⟩:=zdw.1 h1;obtain⟨y,hy,hc⟩:=zdw.1 h2;obtain⟨y',_,_,hy',hs⟩:=ztp h (zkn hx).1 hb;rw[hy]at hy';cases hy'
 exact zdw.2 ⟨x,hx,hs.subset hc⟩
theorem z18{L:List ByteArray}{n m:ByteArray}(hd:L.Nodup)(h:[n,m].Sublist L):idx L n<idx L m:=by
 induction L with
 |nil=>cases h
 |cons a L ih=>
  have hd':=List.nodup_cons.1 hd;cases h with
  |cons _ h=>
   have hn:n∈L:=h.subset (by simp);have hm:m∈L:=h.subset (by simp);obtain⟨i,hi,ei⟩:=zjn hd'.2 hn;obtain⟨j,hj,ej⟩:=zjn hd'.2 hm;have:=ih hd'.2 h;rw[zft hd (i:=i+1) (by simpa using hi),zft hd (i:=j+1) (by simpa using hj)];omega
  |cons_cons _ h=>
   have hm:m∈L:=h.subset (by simp);obtain⟨j,hj,ej⟩:=zjn hd'.2 hm;rw[zft hd (i:=0) rfl,zft hd (i:=j+1) (by simpa using hj)];omega
theorem z2p{l:List CI}(h:zai l){x:CI}(hx:x∈l){n m:ByteArray}(hn:n∈x.cpl)(hb:za0 l n m=true):m∈x.cpl∧idx x.cpl n≤idx x.cpl m∧(idx x.cpl n=idx x.cpl m→n=m):=by
 obtain⟨y,hy,hm⟩:=zdw.1 hb;obtain⟨y',hy1,hy2,hy',hs⟩:=ztp h hx hn;rw[hy]at hy';cases hy'
 obtain⟨t,ht⟩:=zkm h hy1;have hmx:m∈x.cpl:=hs.subset hm;refine⟨hmx,?_⟩;by_cases e:n=m
 ·subst e;exact⟨Int.le_refl _,fun _=>rfl⟩
 ·have:[n,m].Sublist x.cpl:=by
   refine List.Sublist.trans ?_ hs;rw[ht,hy2];rw[ht,hy2]at hm;rcases List.mem_cons.1 hm with q|q
   ·exact absurd q.symm e
   ·exact(List.singleton_sublist.2 q).cons_cons _
  have:=z18 (zyc h hx) this;exact⟨by omega,fun e=>by omega⟩
theorem zt3{l:List CI}(h:zai l){a:ByteArray}{x:CI}(hx:l.find? (fun z=>decide (z.name=a))=some x):za0 l a a=true:=by
 obtain⟨hm,hn⟩:=zkn hx;obtain⟨t,ht⟩:=zkm h hm;exact zdw.2 ⟨x,hx,by rw[ht,hn];simp⟩
def zfd(l:List CI)(s:ByteArray):Nat:=match zck l s with
 |none=>0
 |some i=>l.length-i
theorem zio(l:List CI)(s:ByteArray):zfd l s≤l.length:=by
 unfold zfd;split<;>omega
theorem zwv{l:List CI}(h:zai l){s t:ByteArray}(ht:t∈zb9 l s):∃i k:Nat,i<k∧zck l s=some i∧zck l t=some k∧k<l.length:=by
 unfold zb9 at ht;obtain⟨x,hx,rfl⟩:=List.mem_map.1 ht;obtain⟨hx,hs⟩:=List.mem_filter.1 hx;obtain⟨k,hk⟩:=Qez hx;obtain⟨j,hj,e⟩:=ze4 (zaz h.2.2.2.2.1).2 (zfw hk) (s:=s) (zb8.1 hs);rw[ziq]at e;exact⟨j,k,hj,e,(zd1 h hk rfl).2,(Qcz hk).1⟩
theorem zfl{l:List CI}(h:zai l){s t:ByteArray}(ht:t∈zb9 l s):zfd l t<zfd l s:=by
 obtain⟨i,k,hik,h1,h2,hk⟩:=zwv h ht;unfold zfd;rw[h1,h2]
 show l.length-k<l.length-i;omega
theorem zid{α:Type}{p q:α→Bool}:∀{l:List α},(∀x∈l,p x=q x)→l.all p=l.all q
 | [],_=>rfl
 |x::l,h=>by
  simp only[List.all_cons];rw[h x (by simp),zid fun y hy=>h y (List.mem_cons_of_mem _ hy)]
theorem z08{l:List CI}(h:zai l):∀(n m:Nat)(s:ByteArray),zfd l s≤n→zfd l s≤m→zvf l n s=zvf l m s:=by
 intro n
 induction n with
 |zero=>
  intro m s hn hm;cases m with
  |zero=>rfl
  |succ m=>
   rw[zvf,zvf];cases hc:zck l s with
   |none=>rfl
   |some i=>
    obtain⟨x,hx,_⟩:=zdq hc;have:=(Qcz hx).1;unfold zfd at hn;rw[hc]at hn
    have hn:l.length-i≤0:=hn;omega
 |succ n ih=>
  intro m s hn hm;cases m with
  |zero=>
   rw[zvf,zvf];cases hc:zck l s with
   |none=>rfl
   |some i=>
    obtain⟨x,hx,_⟩:=zdq hc;have:=(Qcz hx).1;unfold zfd at hm;rw[hc]at hm
    have hm:l.length-i≤0:=hm;omega
  |succ m=>
   rw[zvf,zvf];cases hc:zck l s with
   |none=>rfl
   |some i=>
    show(zhh l i&&(zb9 l s).all (zvf l n))=(zhh l i&&(zb9 l s).all (zvf l m));rw[zid fun t ht=>by have:=zfl h ht;exact ih m t (by omega) (by omega)]
theorem zos{l:List CI}(h:zai l)(s:ByteArray):zdk l s=match zck l s with
  |none=>false
  |some i=>zhh l i&&(zb9 l s).all (zdk l):=by
 unfold zdk;have h11:=h.2.1;rw[z08 h l.length (l.length+1) s (zio l s) (by have:=zio l s;omega),zvf];cases zck l s<;>rfl
theorem z2f{l:List CI}(h:zai l):∀(n m:Nat)(s:ByteArray),zfd l s≤n→zfd l s≤m→vdN l n s=vdN l m s:=by
 have h0:∀s,zfd l s=0→zdk l s=false:=fun s hs=>by
  rw[zos h];cases hc:zck l s with
  |none=>rfl
  |some i=>
   obtain⟨x,hx,_⟩:=zdq hc;have:=(Qcz hx).1;unfold zfd at hs;rw[hc]at hs
   have hs:l.length-i=0:=hs;omega
 intro n
 induction n with
 |zero=>
  intro m s hn hm;cases m with
  |zero=>rfl
  |succ m=>rw[vdN,vdN,h0 s (by omega)];rfl
 |succ n ih=>
  intro m s hn hm;cases m with
  |zero=>rw[vdN,vdN,h0 s (by omega)];rfl
  |succ m=>
   rw[vdN,vdN,zid fun t ht=>by have:=zfl h ht;exact ih m t (by omega) (by omega)]
theorem zyk{l:List CI}(h:zai l)(s:ByteArray):vdB l s=(zdk l s&&zf3 l s&&(zb9 l s).all (vdB l)):=by
 unfold vdB;rw[z2f h l.length (l.length+1) s (zio l s) (by have:=zio l s;omega),vdN]
structure OpenAt (cp:Nat) (AH:Option Addr) (cH:Nat) (l:List CI) (AT:Option Addr) (cT:Nat) (ts:List Tag) (A2:Option Addr) (c2:Nat) (w:World):Prop where
 call:CallAt cp AH cH l AT cT ts w
 c2:w.cell? ⟨cp,2,none⟩=some (.slice A2 ts.length c2)
 c3:w.cell? ⟨cp,3,none⟩=some (.func (.func 55) #[.pointer (some ⟨cp,0,none⟩)] #[])
 cpls:Held (fun b=>b<w.heap.size) (Lsts A2 (ts.map (za9 l))) w
theorem OpenAt.keep{cp:Nat}{AH:Option Addr}{cH:Nat}{l:List CI}{AT:Option Addr}{cT:Nat}{ts:List Tag}{A2:Option Addr}{c2:Nat}{w w':World}(h:OpenAt cp AH cH l AT cT ts A2 c2 w)(q:Below w.heap.size w w'):OpenAt cp AH cH l AT cT ts A2 c2 w':=
 ⟨h.call.keep q,zaa h.c2 q,zaa h.c3 q,(h.cpls.all q).mono fun b _ hb=>Nat.lt_of_lt_of_le hb q.size⟩
theorem zab{W V0 V:World}(h:Below W.heap.size W V0)(q:Below V0.heap.size V0 V):Below W.heap.size W V:=h.trans (q.mono h.size)
def z0e(W:World)(x:Ty)(A:Option Addr):Prop:=∃G,Held G (Typs A x.args) W∧x.all (fun x=>decide (x.args.length≤1000000))=true
def z3i:Bool→Bool→Int
 |true,true=>0
 |true,false=>1
 |false,true=>2
 |false,false=>3
theorem zm8(cp:Nat)(AH:Option Addr)(cH:Nat)(l:List CI)(AT:Option Addr)(cT:Nat)(ts:List Tag)(A2:Option Addr)(c2:Nat)(W:World)(HO:OpenAt cp AH cH l AT cT ts A2 c2 W)
  (GH:Nat→Prop) (h:Held GH (CIs AH l) W) (hl:l.length≤1000000) (ol:∀x∈l,zdo x) (hcl:∀t∈ts,(za9 l t).length≤1000000) (hts:ts.length≤1000000) (i:Nat) (tg:Tag) (hi:ts[i]? =some tg)
  (s t:Ty) (As At:Option Addr) (cs ct:Nat) (Gs Gt:Nat→Prop) (hS:Held Gs (Typs As s.args) W) (hT:Held Gt (Typs At t.args) W) (hs:s.all (fun x=>decide (x.args.length≤1000000))=true) (ht:t.all (fun x=>decide (x.args.length≤1000000))=true):
  Calls Tryz.prog 55 #[.pointer (some ⟨cp,0,none⟩),tyV s As cs,tyV t At ct,.int .i64 i] W fun e W'=>e=.returned (.int .i64 (zgs l (za9 l tg) s t))∧Below W.heap.size W W':=by
 obtain⟨W1,hW1⟩:∃W1,W1=(W.alloc (.cells #[.int .i64 s.kind,.string s.name,.int .i64 s.lo,.int .i64 s.hi,.slice As s.args.length cs] 36)).alloc (.cells #[.int .i64 t.kind,.string t.name,.int .i64 t.lo,.int .i64 t.hi,.slice At t.args.length ct] 36):=⟨_,rfl⟩;have b1:Below W.heap.size W W1:=by rw[hW1];exact((Below.refl _ W).alloc (Qiz _) _).alloc (by simp) _
 have xs:∀j u,[Value.int .i64 s.kind,.string s.name,.int .i64 s.lo,.int .i64 s.hi,.slice As s.args.length cs][j]? =some u→W1.cell? ⟨W.heap.size,j,none⟩=some u:=fun j u hj=>by rw[hW1];exact zat (zac W _ _ _ rfl j u hj)
 have xt:∀j u,[Value.int .i64 t.kind,.string t.name,.int .i64 t.lo,.int .i64 t.hi,.slice At t.args.length ct][j]? =some u→W1.cell? ⟨W.heap.size+1,j,none⟩=some u:=fun j u hj=>by rw[hW1];exact zac (W.alloc _) _ _ _ (by simp) j u hj
 have s0:=xs 0 _ rfl;have s1:=xs 1 _ rfl;have s2:=xs 2 _ rfl;have s3:=xs 3 _ rfl;have s4:=xs 4 _ rfl;have t0:=xt 0 _ rfl;have t1:=xt 1 _ rfl;have t2:=xt 2 _ rfl;have t3:=xt 3 _ rfl;have t4:=xt 4 _ rfl;clear xs xt;have HO1:=HO.keep b1;have q0:=HO1.call.c0;have q2:=HO1.c2;have hil:i<ts.length:=(Qcz hi).1;obtain⟨b2,off2,rfl⟩:=Slc.addrH HO1.cpls (by simpa using(by omega:0<ts.length));obtain⟨A3,c3,p1,p2,g0⟩:=Lsts.atH HO1.cpls (k:=i) (x:=za9 l tg) (by rw[List.getElem?_map,hi];rfl);have hcx:=hcl tg (Qdz hi);have hi0:(0:Int)≤(i:Int):=Int.natCast_nonneg _;have hi1:(i:Int)<(ts.length:Int):=by omega
 have HIX:=Qaz (fun x n=>zi4 A3 c3 (za9 l tg) x (W1.drewN n) ((p2.keep (Keep.drewN _ _ _)).now) (by omega));have HCM:=Qaz (fun a b n=>ziy a b (W1.drewN n));have HW:Hid (∀(x y:Ty)(Ax Ay:Option Addr)(cx cy:Nat)(V:World),Below W.heap.size W V→z0e W x Ax→z0e W y Ay→Calls Tryz.prog 51 #[.slice AH l.length cH,tyV x Ax cx,tyV y Ay cy] V fun e W'=>e=.returned (.bool (za5 l x y))∧Below V.heap.size V W'):=
  Qaz (fun x y Ax Ay cx cy V hv ⟨Gx,hx,ax⟩ ⟨Gy,hy,ay⟩=>zq7 AH cH l x y Ax Ay cx cy V GH (h.keep (Keep.all hv)) hl ol Gx Gy (hx.keep (Keep.all hv)) (hy.keep (Keep.all hv)) ax ay)
 have hts:z0e W s As:=⟨Gs,hS,hs⟩;have htt:z0e W t At:=⟨Gt,hT,ht⟩;have hcpl:cp<W1.heap.size:=cell_lt q0;have hb2l:b2<W1.heap.size:=cell_lt g0;have hsl:W.heap.size<W1.heap.size:=cell_lt s0;have htl:W.heap.size+1<W1.heap.size:=cell_lt t0;clear hi hcl h hS hT hs ht ol HO HO1;by_cases hk:s.kind=1∧t.kind=1
 ·have k1:(s.kind==1)=true:=beq_iff_eq.2 hk.1;have k2:(t.kind==1)=true:=beq_iff_eq.2 hk.2;have HC:Hid (zgs l (za9 l tg) s t=if idx (za9 l tg) t.name<idx (za9 l tg) s.name then 2 else if idx (za9 l tg) s.name<idx (za9 l tg) t.name then 1 else 0):=Qaz (by unfold zgs;rw[if_pos hk]);clear hk;have fin:∀(c m r:Int),IntKind.i64.wrap (1+c)=m→znp (idx (za9 l tg) t.name) (idx (za9 l tg) s.name)=c→zgs l (za9 l tg) s t=r→(∀w,(Instr.index 126 (.agg #[.int .i64 2,.int .i64 0,.int .i64 1]) (.int .i64 m)).run Tryz.prog w=.ok (.int .i64 r) w)→
    Calls Tryz.prog 55 #[.pointer (some ⟨cp,0,none⟩),tyV s As cs,tyV t At ct,.int .i64 i] W fun e W'=>e=.returned (.int .i64 (zgs l (za9 l tg) s t))∧Below W.heap.size W W':=by
   intro c m r hwr hc hr hix;have HR:=Qaz hr;have HC2:Hid (∀n,Calls Tryz.prog 93 #[.int .i64 (idx (za9 l tg) t.name),.int .i64 (idx (za9 l tg) s.name)] (W1.drewN n) fun e w'=>e=.returned (.int .i64 c)∧w'=W1.drewN n):=Qaz (fun n=>by rw[←hc];exact HCM.out _ _ n);clear hc hr HCM HW HC hts htt;go_enter Tryz.func55,Tryz.ntmps55;go_wp2_with (fail);rw[←hW1];clear hW1
   go_quiet ((first|(go_at_call 94;exact(HIX.out _ _).mono fun _ _ ⟨a,b⟩=>⟨a,_,b.symm⟩)|(go_at_call 93;exact(HC2.out _).mono fun _ _ ⟨a,b⟩=>⟨a,_,b⟩)))
   go_wp2;go_ret;exact⟨(by rw[HR.out];try rfl),b1.trans ((zad _ _ _).mono b1.size)⟩
  by_cases h1:idx (za9 l tg) t.name<idx (za9 l tg) s.name
  ·exact fin (-1) 0 2 (by decide) (by unfold znp;rw[if_pos h1]) (by rw[HC.out,if_pos h1]) (fun w=>by kernel_rfl)
  ·by_cases h2:idx (za9 l tg) s.name<idx (za9 l tg) t.name
   ·exact fin 1 2 1 (by decide) (by unfold znp;rw[if_neg h1,if_pos h2]) (by rw[HC.out,if_neg h1,if_pos h2]) (fun w=>by kernel_rfl)
   ·exact fin 0 1 0 (by decide) (by unfold znp;rw[if_neg h1,if_neg h2]) (by rw[HC.out,if_neg h1,if_neg h2]) (fun w=>by kernel_rfl)
 ·have HC:Hid (zgs l (za9 l tg) s t=z3i (za5 l s t) (za5 l t s)):=Qaz (by
   unfold zgs z3i;rw[if_neg hk]
   cases za5 l s t<;>cases za5 l t s<;>rfl)
  have fin:∀(k1:(s.kind==1)=true∧(t.kind==1)=false∨(s.kind==1)=false),
    Calls Tryz.prog 55 #[.pointer (some ⟨cp,0,none⟩),tyV s As cs,tyV t At ct,.int .i64 i] W fun e W'=>e=.returned (.int .i64 (zgs l (za9 l tg) s t))∧Below W.heap.size W W':=by
   clear HIX HCM g0 q2 hk;rintro(⟨k1,k2⟩|k1)
   all_goals
    go_enter Tryz.func55,Tryz.ntmps55;go_wp2_with (fail);rw[←hW1];clear hW1
    go_region_held3 (fun w'=>Below W.heap.size W w'∧w'.cell? ⟨cp,0,none⟩=some (.slice AH l.length cH)∧w'.cell? ⟨W.heap.size,0,none⟩=some (.int .i64 s.kind)∧w'.cell? ⟨W.heap.size,1,none⟩=some (.string s.name)∧w'.cell? ⟨W.heap.size,2,none⟩=some (.int .i64 s.lo)∧w'.cell? ⟨W.heap.size,3,none⟩=some (.int .i64 s.hi)∧w'.cell? ⟨W.heap.size,4,none⟩=some (.slice As s.args.length cs)∧
      w'.cell? ⟨W.heap.size+1,0,none⟩=some (.int .i64 t.kind)∧w'.cell? ⟨W.heap.size+1,1,none⟩=some (.string t.name)∧w'.cell? ⟨W.heap.size+1,2,none⟩=some (.int .i64 t.lo)∧w'.cell? ⟨W.heap.size+1,3,none⟩=some (.int .i64 t.hi)∧w'.cell? ⟨W.heap.size+1,4,none⟩=some (.slice At t.args.length ct))
     (first|exact⟨b1.drew,q0,s0,s1,s2,s3,s4,t0,t1,t2,t3,t4⟩|(go_split_ands;exact⟨zab (by assumption) hbv,zaa (by assumption) hbv,zaa (by assumption) hbv,zaa (by assumption) hbv,zaa (by assumption) hbv,zaa (by assumption) hbv,zaa (by assumption) hbv,zaa (by assumption) hbv,zaa (by assumption) hbv,zaa (by assumption) hbv,zaa (by assumption) hbv,zaa (by assumption) hbv⟩))
     ((go_at_call 51;refine(HW.out _ _ _ _ _ _ _ (by go_split_ands;assumption) (by assumption) (by assumption)).mono ?_;rintro e V ⟨rfl,hbv⟩))
    all_goals
     generalize za5 l s t=x at HC ⊢;generalize za5 l t s=y at HC ⊢;clear HW;cases x<;>cases y
    all_goals
     go_wp2;go_ret;exact⟨(by rw[HC.out];rfl),by go_split_ands;assumption⟩
  by_cases h1:s.kind=1
  ·exact fin (.inl ⟨beq_iff_eq.2 h1,Qfz fun e=>hk ⟨h1,e⟩⟩)
  ·exact fin (.inr (Qfz h1))
mutual
def Ty.wei:Ty→Int→Int
 | .mk _ _ _ _ args,n=>Ty.weis args (n+1)
def Ty.weis:List Ty→Int→Int
 | [],n=>n
 |t::r,n=>if n<1000 then Ty.weis r (Ty.wei t n)else n
end
theorem Ty.wei_args(t:Ty)(n:Int):t.wei n=Ty.weis t.args (n+1):=by cases t;rw[Ty.wei];rfl
theorem Ty.weis_stop(l:List Ty){n:Int}(h:¬n<1000):Ty.weis l n=n:=by
 cases l with
 |nil=>rw[Ty.weis]
 |cons t r=>rw[Ty.weis,if_neg h]
mutual
theorem Ty.wei_ge:∀(t:Ty)(n:Int),n+1≤t.wei n
 | .mk _ _ _ _ args,n=>by rw[Ty.wei];exact Ty.weis_ge args (n+1)
theorem Ty.weis_ge:∀(l:List Ty)(n:Int),n≤Ty.weis l n
 | [],n=>by rw[Ty.weis];exact Int.le_refl _
 |t::r,n=>by
  rw[Ty.weis]
  split
  ·have h1:=Ty.wei_ge t n;have h2:=Ty.weis_ge r (t.wei n);omega
  ·exact Int.le_refl _
end
mutual
theorem Ty.wei_le:∀(t:Ty)(n:Int),n<1000→t.wei n≤1000
 | .mk _ _ _ _ args,n,h=>by rw[Ty.wei];exact Ty.weis_le args (n+1) (by omega)
theorem Ty.weis_le:∀(l:List Ty)(n:Int),n≤1000→Ty.weis l n≤1000
 | [],n,h=>by rw[Ty.weis];exact h
 |t::r,n,h=>by
  rw[Ty.weis]
  split
  ·rename_i h1;exact Ty.weis_le r _ (Ty.wei_le t n h1)
  ·exact h
end
theorem Ty.len_counts:∀(l:List Ty),l.length≤Ty.counts l
 | []=>by simp
 |t::r=>by have:=Ty.len_counts r;have:=t.count_pos;rw[Ty.counts,List.length_cons];omega
mutual
theorem Ty.all_small:∀(t:Ty)(k:Nat),t.count≤k→t.all (fun x=>decide (x.args.length≤k))=true
 | .mk a b c d args,k,h=>by
  rw[Ty.count]at h;rw[Ty.all,Bool.and_eq_true];have:=Ty.len_counts args;exact⟨Qhz (by show args.length≤k;omega),Ty.alls_small args k (by omega)⟩
theorem Ty.alls_small:∀(l:List Ty)(k:Nat),Ty.counts l≤k→Ty.alls (fun x=>decide (x.args.length≤k)) l=true
 | [],k,h=>by rw[Ty.alls]
 |t::r,k,h=>by
  rw[Ty.counts]at h;rw[Ty.alls,Ty.all_small t k (by omega),Ty.alls_small r k (by omega)];rfl
end
theorem zwy{l:List Ty}{k:Nat}{x:Ty}(hx:l[k]? =some x){n:Int}(h:n<1000):Ty.weis (l.drop k) n=Ty.weis (l.drop (k+1)) (x.wei n):=by
 obtain⟨hk,rfl⟩:=Qcz hx;rw[List.drop_eq_getElem_cons hk,Ty.weis,if_pos h]
theorem zq4:∀(q:Nat)(t:Ty),t.count≤q→∀(A:Option Addr)(c:Nat)(n:Int)(W:World)(G:Nat→Prop),0≤n→n<1000→Held G (Typs A t.args) W→
  Calls Tryz.prog 15 #[tyV t A c,.int .i64 n] W fun e W'=>e=.returned (.int .i64 (t.wei n))∧Below W.heap.size W W':=by
 intro q
 induction q with
 |zero=>intro t hq;have:=t.count_pos;omega
 |succ q ih=>
  intro t hq A c n W G hn0 hn1 hT;have HIH:=Qaz ih;clear ih;have HQ:=Qaz hq;clear hq;obtain⟨W1,hW1⟩:∃W1,W1=W.alloc (.cells #[.int .i64 t.kind,.string t.name,.int .i64 t.lo,.int .i64 t.hi,.slice A t.args.length c] 36):=⟨_,rfl⟩;have b1:Below W.heap.size W W1:=by rw[hW1];exact(Below.refl _ W).alloc (Qiz _) _
  have xt:∀j u,[Value.int .i64 t.kind,.string t.name,.int .i64 t.lo,.int .i64 t.hi,.slice A t.args.length c][j]? =some u→W1.cell? ⟨W.heap.size,j,none⟩=some u:=fun j u hj=>by rw[hW1];exact zac W _ _ _ rfl j u hj
  have C4:=Qaz (xt 4 _ rfl);have hcl:=cell_lt C4.out;clear xt;have HT:=Qaz hT;clear hT;go_enter Tryz.func15,Tryz.ntmps15;go_wp2_with (fail);rw[←hW1];clear hW1
  go_loopw [1,5] (fun m i wr=>∃(k:Nat)(n':Int),k≤t.args.length∧(k:Int)≤n'∧0≤n'∧n'≤1000∧m=.int .i64 n'∧i=.int .i64 k∧Ty.weis (t.args.drop k) n'=t.wei n∧Below W1.heap.size W1 wr) (fun _ i _=>t.args.length-(intOf i).toNat)
  case atStart=>exact⟨0,n+1,Qjz _,by omega,by omega,by omega,by go_num,rfl,by rw[Ty.wei_args];rfl,Below.refl _ _⟩
  case round=>
   obtain⟨k,n',hk,hkn,hn0',hn1',rfl,rfl,hw,hb⟩:=hrel;have HW:=Qaz hw;have HKN:=Qaz hkn;have hk3:k≤1000:=by omega
   have HN1:=Qaz hn1';clear hw hkn hn1';have q1:=zab b1 hb;have c4:=zaa C4.out hb;by_cases hlt:k<t.args.length
   ·by_cases hnn:n'<1000
    ·obtain⟨b,off,rfl⟩:=Slc.addrH HT.out (by omega);have hx:t.args[k]? =some t.args[k]:=Qbz hlt;generalize t.args[k]=x at hx;have HX:=Qaz hx;obtain⟨A3,c3',r1,r2,g0,g1,g2,g3,g4⟩:=Typs.atH (HT.out.all q1) hx;have hxm:x∈t.args:=Qdz hx;have hcx:x.count≤q:=by have:=Ty.count_mem hxm;have:=HQ.out;omega
     have HST:=Qaz (HIH.out x hcx A3 c3' n' wr _ hn0' hnn r2);have HD:=Qaz (zwy hx hnn);have HG:=Qaz (Ty.wei_ge x n');have HL:=Qaz (Ty.wei_le x n' hnn);clear hx hcx hxm r1 r2;go_wp2_with (fail);refine HST.out.mono ?_;clear HST;rintro e V ⟨rfl,hbV⟩;generalize x.wei n'=n2 at HD HG HL;go_wp2;exact⟨⟨k+1,n2,by omega,by have:=HG.out;have:=HKN.out;omega,by have:=HG.out;omega,HL.out,rfl,by go_num,by rw[←HD.out];exact HW.out,zab hb hbV⟩,by simp[intOf];omega⟩
    ·have t1:decide (n'<1000)=false:=Qgz hnn;have HR:Hid (t.wei n=n'):=Qaz (by rw[←HW.out,Ty.weis_stop _ hnn]);clear hnn;go_wp2;go_ret;exact⟨(by rw[HR.out];try rfl),q1⟩
   ·obtain rfl:k=t.args.length:=by omega
    have HR:Hid (t.wei n=n'):=Qaz (by rw[←HW.out,List.drop_length,Ty.weis]);go_wp2;go_ret;exact⟨(by rw[HR.out];try rfl),q1⟩
def z3l(m:Meth):Bool:=m.pars.all fun p=>decide (p.type.wei 0≤40)
def zxh(ms:List Meth):Bool:=decide (ms.length≤12)&&ms.all z3l
theorem zt5{ms:List Meth}:zxh ms=true↔ms.length≤12∧∀m∈ms,∀p∈m.pars,p.type.wei 0≤40:=by
 unfold zxh z3l;simp[List.all_eq_true]
theorem zw2{ms:List Meth}(h:¬ms.length≤12):zxh ms=false:=by unfold zxh;simp[h]
theorem zy7{ms:List Meth}{x:Meth}{p:Par}(hx:x∈ms)(hp:p∈x.pars)(h:¬p.type.wei 0≤40):zxh ms=false:=by
 cases hf:zxh ms with
 |false=>rfl
 |true=>exact absurd ((zt5.1 hf).2 x hx p hp) h
theorem zxr(A:Option Addr)(c:Nat)(ms:List Meth)(W:World)(G:Nat→Prop)(hM:Held G (Meths A ms) W)(hp:∀m∈ms,m.pars.length≤1000000):
  Calls Tryz.prog 9 #[.slice A ms.length c] W fun e W'=>e=.returned (.bool (zxh ms))∧Below W.heap.size W W':=by
 have HM:=Qaz hM;clear hM;have HP:=Qaz hp;clear hp;go_enter Tryz.func9,Tryz.ntmps9;by_cases h12:12<ms.length
 ·have h12':(12:Int)<(ms.length:Int):=by omega
  have HB:Hid (zxh ms=false):=Qaz (zw2 (by omega));go_wp2;go_ret;exact⟨(by rw[HB.out];try rfl),Below.refl _ _⟩
 have h12':¬(12:Int)<(ms.length:Int):=by omega
 go_wp2_with (fail)
 go_loopw [3] (fun i wr=>∃k:Nat,k≤ms.length∧i=.int .i64 k∧(∀m∈ms.take k,∀p∈m.pars,p.type.wei 0≤40)∧Below W.heap.size W wr) (fun i _=>ms.length-(intOf i).toNat)
 case atStart=>exact⟨0,Qjz _,rfl,by simp,Below.refl _ _⟩
 case round=>
  obtain⟨k,hk,rfl,hall,hb⟩:=hrel;have HALL:=Qaz hall;clear hall;by_cases hlt:k<ms.length
  ·obtain⟨b,off,rfl⟩:=Slc.addrH HM.out (by omega);have hx:ms[k]? =some ms[k]:=Qbz hlt;have hxm:ms[k]∈ms:=List.getElem_mem hlt;generalize ms[k]=x at hx hxm;have HX:=Qaz hx;have HXM:=Qaz hxm;have hpx:=HP.out x hxm;obtain⟨A1,c1,A2,c2,_,p2,_,_,_,_,g2,_,_,_,_,_⟩:=Meths.atH HM.out hx;have P2:=Qaz p2;have G2:=Qaz g2;clear hx hxm p2 g2;have g2w:=zaa G2.out hb;go_wp2_with (fail)
   go_loopw [4] (fun j wr=>∃p:Nat,p≤x.pars.length∧j=.int .i64 p∧(∀y∈x.pars.take p,y.type.wei 0≤40)∧Below W.heap.size W wr) (fun j _=>x.pars.length-(intOf j).toNat)
   case atStart=>exact⟨0,Qjz _,rfl,by simp,hb⟩
   case round=>
    obtain⟨j,hj,rfl,hv,hb2⟩:=hrel;have HV:=Qaz hv;clear hv g2w;have g2w:=zaa G2.out hb2;by_cases hjl:j<x.pars.length
    ·obtain⟨bp,offp,rfl⟩:=Slc.addrH P2.out (by omega);have hy:x.pars[j]? =some x.pars[j]:=Qbz hjl;generalize x.pars[j]=p at hy;have HY:=Qaz hy;obtain⟨A3,c3,r1,r2,_,e1,e2,e3,e4,e5⟩:=Pars.atH (P2.out.all hb2) hy;have HWE:=Qaz (zq4 p.type.count p.type (Qiz _) A3 c3 0 wr _ (by omega) (by omega) r2);clear hy r1 r2;go_wp2_with (fail);refine HWE.out.mono ?_;clear HWE;rintro e V ⟨rfl,hbV⟩;have bV:=zab hb2 hbV;by_cases hz:p.type.wei 0≤40
     ·have HZ:=Qaz hz;have t3:¬(40:Int)<p.type.wei 0:=by omega
      clear hz;go_wp2;exact⟨⟨j+1,by omega,by go_num,fun y hy=>by
       rw[take_snoc HY.out]at hy;rcases List.mem_append.1 hy with h|h
       ·exact HV.out y h
       ·simp at h;subst h;exact HZ.out,bV⟩,by simp[intOf];omega⟩
     ·have t3:(40:Int)<p.type.wei 0:=by omega
      have HB:Hid (zxh ms=false):=Qaz (zy7 HXM.out (Qdz HY.out) hz);clear hz;go_wp2;go_ret;exact⟨(by rw[HB.out];try rfl),bV⟩
    ·obtain rfl:j=x.pars.length:=by omega
     go_wp2;exact⟨⟨k+1,by omega,by go_num,fun m hm p hp=>by
      rw[take_snoc HX.out]at hm;rcases List.mem_append.1 hm with h|h
      ·exact HALL.out m h p hp
      ·simp at h;subst h;exact HV.out p (by rwa [List.take_length]),hb2⟩,by simp[intOf];omega⟩
  ·obtain rfl:k=ms.length:=by omega
   have HB:Hid (zxh ms=true):=Qaz (zt5.2 ⟨by omega,by have:=HALL.out;rwa [List.take_length]at this⟩);go_wp2;go_ret;exact⟨(by rw[HB.out];try rfl),hb⟩
end Go.Proofs.YtepnmejahbiacaaGreat
