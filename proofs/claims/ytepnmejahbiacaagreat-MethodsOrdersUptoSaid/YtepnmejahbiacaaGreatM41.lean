/- Part 41 of the proof: Ya, Ye, Yg, Yh, Yf. -/
import Derived.Test.YtepnmejahbiacaaGreatM39
import Derived.Test.YtepnmejahbiacaaGreatM29
set_option linter.unusedVariables false
set_option linter.unusedSimpArgs false
set_option maxHeartbeats 64000000
set_option maxRecDepth 100000
namespace Go.Proofs.YtepnmejahbiacaaGreat
open Go.RowKit
section
attribute [local go_sem ↓] Go.wp_at_zero Go.wp_at_succ
theorem ze1(w:World):Calls Tryz.prog 197 #[] w fun e w'=>e=.returned (.int .i64 (-9223372036854775808))∧w=w':=by
 go_enter Tryz.func197,Tryz.ntmps197;go_wp2;go_ret;exact⟨rfl,rfl⟩
theorem zfx(w:World):Calls Tryz.prog 198 #[] w fun e w'=>e=.returned (.int .i64 9223372036854775807)∧w=w':=by
 go_enter Tryz.func198,Tryz.ntmps198;go_wp2;go_ret;exact⟨rfl,rfl⟩
theorem zr4(w:World):Calls Tryz.prog 211 #[] w fun e w'=>e=.returned (tyV zb3 none 0)∧Below w.heap.size w w':=by
 go_enter Tryz.func211,Tryz.ntmps211;go_wp2_with (first
  |(go_at_call 197;refine(ze1 _).mono ?_;rintro e V ⟨rfl,rfl⟩)
  |(go_at_call 198;refine(zfx _).mono ?_;rintro e V ⟨rfl,rfl⟩))
 refine bodyPost_ret (v:=zgf zb3 none 0) (by simp[results,Tryz.results211,go_sem];first|done|exact⟨rfl,rfl,rfl,rfl⟩) rfl ?_;exact⟨rfl,(Below.refl _ w).alloc (Qiz _) _⟩
theorem zn7{α:Type}{p:α→Bool}{L:List α}{k:Nat}{y:α}(hy:L[k]? =some y)(h0:(L.take k).any p=false)(h1:p y=false):(L.take (k+1)).any p=false:=by
 rw[take_snoc hy,List.any_append,h0];simp[h1]
theorem z0n{α:Type}{p:α→Bool}{L:List α}{k:Nat}{y:α}(hy:L[k]? =some y)(h1:p y=true):L.any p=true:=List.any_eq_true.2 ⟨y,Qdz hy,h1⟩
theorem zpc(x:Ty)(Ax:Option Addr)(cx:Nat)(A:Option Addr)(c:Nat)(L:List Ty)(W:World)(G:Nat→Prop)(h:Held G (Typs A L) W)(hl:L.length≤1000000):
  Calls Tryz.prog 165 #[tyV x Ax cx,.slice A L.length c] W fun e W'=>e=.returned (.bool (zpn x L))∧Below W.heap.size W W':=by
 obtain⟨W1,hW1⟩:∃W1,W1=W.alloc (.cells #[.int .i64 x.kind,.string x.name,.int .i64 x.lo,.int .i64 x.hi,.slice Ax x.args.length cx] 36):=⟨_,rfl⟩;have b1:Below W.heap.size W W1:=by rw[hW1];exact(Below.refl _ W).alloc (Qiz _) _
 have x2:W1.cell? ⟨W.heap.size,2,none⟩=some (.int .i64 x.lo):=by rw[hW1];exact zac W _ _ _ rfl 2 _ rfl
 have x3:W1.cell? ⟨W.heap.size,3,none⟩=some (.int .i64 x.hi):=by rw[hW1];exact zac W _ _ _ rfl 3 _ rfl
 have H:=Qaz (h.keep (Keep.all b1));clear h;go_enter Tryz.func165,Tryz.ntmps165;go_wp2_with (fail);rw[←hW1];clear hW1
 go_loopw [5] (fun i wr=>∃k:Nat,k≤L.length∧i=.int .i64 k∧(L.take k).any (fun y=>decide (y.lo≤x.lo)&&decide (x.hi≤y.hi))=false∧Below W1.heap.size W1 wr) (fun i _=>L.length-(intOf i).toNat)
 case atStart=>exact⟨0,Qjz _,rfl,by simp,Below.refl _ _⟩
 case round=>
  obtain⟨k,hk,rfl,hno,hb⟩:=hrel;have HNO:=Qaz hno;clear hno;have y2:=zaa x2 hb;have y3:=zaa x3 hb;have hbd:Below W1.heap.size W1 wr.drew:=zab hb (Below.refl _ wr).drew;by_cases hlt:k<L.length
  ·obtain⟨b,off,rfl⟩:=Slc.addrH H.out (by omega);have hy:L[k]? =some L[k]:=Qbz hlt;generalize L[k]=y at hy;obtain⟨A2,c2,_,_,_,_,g2,g3,_⟩:=Typs.atH (H.out.keep (Keep.all hb)) hy;have HY:=Qaz hy;clear hy;by_cases h1:y.lo≤x.lo
   ·have d1:decide (y.lo≤x.lo)=true:=Qhz h1;by_cases h2:x.hi≤y.hi
    ·have d2:decide (x.hi≤y.hi)=true:=Qhz h2;have HB:Hid (zpn x L=true):=Qaz (z0n HY.out (by rw[d1,d2];rfl));clear h1 h2;go_wp2_with (fail)
     first|go_region|fail
     all_goals
      go_wp2;go_ret;exact⟨(by rw[HB.out];try rfl),zab b1 hbd⟩
    ·have d2:decide (x.hi≤y.hi)=false:=Qgz h2;have HN:=Qaz (zn7 (p:=fun y=>decide (y.lo≤x.lo)&&decide (x.hi≤y.hi)) HY.out HNO.out (by simp only[d2,Bool.and_false]));clear h1 h2;go_wp2_with (fail)
     first|go_region|fail
     all_goals
      go_wp2;exact⟨⟨k+1,by omega,by go_num,HN.out,hbd⟩,by simp[intOf];omega⟩
   ·have d1:decide (y.lo≤x.lo)=false:=Qgz h1;have HN:=Qaz (zn7 (p:=fun y=>decide (y.lo≤x.lo)&&decide (x.hi≤y.hi)) HY.out HNO.out (by simp only[d1,Bool.false_and]));clear h1;go_wp2_with (fail)
    first|go_region|fail
    all_goals
     go_wp2;exact⟨⟨k+1,by omega,by go_num,HN.out,hbd⟩,by simp[intOf];omega⟩
  ·obtain rfl:k=L.length:=by omega
   have HB:Hid (zpn x L=false):=Qaz (by have:=HNO.out;rw[List.take_length]at this;exact this);go_wp2;go_ret;exact⟨(by rw[HB.out];try rfl),zab b1 hb⟩
theorem zlu(A:Option Addr)(c:Nat)(l:List CI)(s:ByteArray)(A2:Option Addr)(c2:Nat)(m:List ByteArray)(W:World)(G:Nat→Prop)(h:Held G (CIs A l) W)(hl:l.length≤1000000)(hcp:∀x∈l,x.cpl.length≤1000000)(hm:Strs A2 m W)(hlm:m.length≤1000000):
  Calls Tryz.prog 166 #[.slice A l.length c,.string s,.slice A2 m.length c2] W fun e W'=>e=.returned (.bool (m.any (za0 l s)))∧W=W':=by
 have HU:=Qaz (fun b=>zgw A c l s b W G h hl hcp);have HM:=Qaz hm;clear h hm hcp;go_enter Tryz.func166,Tryz.ntmps166;go_wp2_with (fail)
 go_loopw [7] (fun i wr=>∃k:Nat,k≤m.length∧i=.int .i64 k∧(m.take k).any (za0 l s)=false∧W=wr) (fun i _=>m.length-(intOf i).toNat)
 case atStart=>exact⟨0,Qjz _,rfl,by simp,rfl⟩
 case round=>
  obtain⟨k,hk,rfl,hno,rfl⟩:=hrel;have HNO:=Qaz hno;clear hno;by_cases hlt:k<m.length
  ·obtain⟨b,off,rfl⟩:=Slc.addr HM.out (by omega);have hy:m[k]? =some m[k]:=Qbz hlt;generalize m[k]=y at hy;have g0:=Strs.at HM.out hy;have HY:=Qaz hy;clear hy;have HUY:=Qaz (HU.out y);cases hb:za0 l s y with
   |true=>
    rw[hb]at HUY;have HB:Hid (m.any (za0 l s)=true):=Qaz (z0n HY.out hb);clear hb;go_wp2_with (go_at_call 121;refine HUY.out.mono ?_;rintro e V ⟨rfl,rfl⟩);go_ret;exact⟨(by rw[HB.out];try rfl),rfl⟩
   |false=>
    rw[hb]at HUY;have HN:=Qaz (zn7 (p:=za0 l s) HY.out HNO.out hb);clear hb;go_wp2_with (go_at_call 121;refine HUY.out.mono ?_;rintro e V ⟨rfl,rfl⟩);exact⟨⟨k+1,by omega,by go_num,HN.out,trivial⟩,by simp[intOf];omega⟩
  ·obtain rfl:k=m.length:=by omega
   have HB:Hid (m.any (za0 l s)=false):=Qaz (by have:=HNO.out;rw[List.take_length]at this;exact this);go_wp2;go_ret;exact⟨(by rw[HB.out];try rfl),rfl⟩
theorem ztu(pb:Nat)(A:Option Addr)(c:Nat)(m:List ByteArray)(s:ByteArray)(W:World)(h4:W.cell? ⟨pb,4,none⟩=some (.slice A m.length c))(hm:Strs A m W)(hlm:m.length≤1000000):
  Calls Tryz.prog 164 #[.pointer (some ⟨pb,0,none⟩),.string s] W fun e W'=>e=.returned (.bool (hasS m s))∧W=W':=by
 have HI:=Qaz (zbv A c m s W hm hlm);have HG:=Qaz (zf9 (l:=m) (x:=s));clear hm;generalize hasS m s=r at HG;generalize idx m s=ix at HI HG;go_enter Tryz.func164,Tryz.ntmps164;go_wp2_with (fail);refine HI.out.mono ?_;rintro e V ⟨rfl,rfl⟩;have t2:=HG.out;go_wp2;go_ret;exact⟨(by rw[←HG.out];try rfl),rfl⟩
theorem zsg{w W:World}(h:Below w.heap.size w W)(o:Obj):Below w.heap.size w (W.alloc o):=h.alloc h.size o
def z16(f:Nat→Int)(n:Nat):Prop:=∀a b,a<b→b<n→f a≤f b
def InsF(f:Nat→Int)(i k:Nat):Prop:=(∀a b,a<b→b≤i→a≠k→b≠k→f a≤f b)∧∀b,k<b→b≤i→f k≤f b
theorem InsF.start{f:Nat→Int}{i:Nat}(h:z16 f i):InsF f i i:=⟨fun a b hab hb _ hn=>h a b hab (by omega),fun b h1 h2=>by omega⟩
theorem InsF.done{f:Nat→Int}{i k:Nat}(h:InsF f i k)(hk:k≤i)(hd:k=0∨∃m,k=m+1∧f m≤f k):z16 f (i+1):=fun a b hab hb=>by
 by_cases ea:a=k
 ·subst ea;exact h.2 b hab (by omega)
 ·by_cases eb:b=k
  ·subst eb;rcases hd with rfl|⟨m,rfl,hm⟩
   ·omega
   ·by_cases e:a=m
    ·rw[e];exact hm
    ·exact Int.le_trans (h.1 a m (by omega) (by omega) ea (by omega)) hm
  ·exact h.1 a b hab (by omega) ea eb
theorem InsF.swap{f g:Nat→Int}{i m:Nat}(h:InsF f i (m+1))(hk:m+1≤i)(hgt:f (m+1)≤f m)(hg:∀a,g a=if a=m then f (m+1)else if a=m+1 then f m else f a):InsF g i m:=by
 refine⟨fun a b hab hb na nb=> ?_,fun b h1 h2=> ?_⟩
 ·rw[hg,hg,if_neg na,if_neg nb];by_cases ea:a=m+1
  ·rw[if_pos ea,if_neg (by omega)];exact h.1 m b (by omega) hb (by omega) (by omega)
  ·rw[if_neg ea];by_cases eb:b=m+1
   ·rw[if_pos eb];exact h.1 a m (by omega) (by omega) ea (by omega)
   ·rw[if_neg eb];exact h.1 a b hab hb ea eb
 ·rw[hg,hg,if_pos rfl,if_neg (by omega)];by_cases eb:b=m+1
  ·rw[if_pos eb];exact hgt
  ·rw[if_neg eb];exact h.2 b (by omega) h2
def zum(L:List Ty)(a:Nat):Int:=(L[a]?.map Ty.lo).getD 0
theorem zfb{L:List Ty}{a:Nat}{x:Ty}(h:L[a]? =some x):zum L a=x.lo:=by unfold zum;rw[h];rfl
theorem zyw{L:List Ty}{m:Nat}{x y:Ty}(hx:L[m]? =some x)(hy:L[m+1]? =some y)(a:Nat):zum ((L.set (m+1) x).set m y) a=if a=m then zum L (m+1)else if a=m+1 then zum L m else zum L a:=by
 have h1:=(Qcz hx).1;have h2:=(Qcz hy).1;by_cases ea:a=m
 ·subst ea;rw[if_pos rfl,zfb hy,zfb (x:=y)];rw[List.getElem?_set_self (by rw[List.length_set];exact h1)]
 ·rw[if_neg ea];by_cases eb:a=m+1
  ·subst eb;rw[if_pos rfl,zfb hx,zfb (x:=x)];rw[List.getElem?_set_ne (by omega),List.getElem?_set_self h2]
  ·rw[if_neg eb];unfold zum;rw[List.getElem?_set_ne (by omega),List.getElem?_set_ne (by omega)]
theorem swap_perm{α:Type}{L:List α}{m:Nat}{x y:α}(hx:L[m]? =some x)(hy:L[m+1]? =some y):((L.set (m+1) x).set m y).Perm L:=by
 obtain⟨h1,e1⟩:=Qcz hx;obtain⟨h2,e2⟩:=Qcz hy;have:=List.set_set_perm h2 h1;rw[e1,e2]at this;exact this
theorem zze{L:List Ty}(h:z16 (zum L) L.length):L.Pairwise fun a b=>a.lo≤b.lo:=by
 rw[List.pairwise_iff_getElem];intro i j hi hj hij;have:=h i j hij hj;rw[zfb (Qbz hi),zfb (Qbz hj)]at this;exact this
theorem zsw{base:Nat}{G:Nat→Prop}(A:Option Addr)(c:Nat)(L:List Ty)(w:World)(h:Held G (Typs A L) w)(hl:∀t∈L,t.args=[])(hlen:L.length≤1000000):
  Calls Tryz.prog 212 #[.slice A L.length c] w fun e w'=>∃v' L',e=.returned v'∧L'.Perm L∧(L'.Pairwise fun a b=>a.lo≤b.lo)∧Own typR 36 5 w.heap.size (fun _=>False) v' L' w'∧Below w.heap.size w w':=by
 have H:=Qaz h;have HL:=Qaz hl;clear h hl;go_enter Tryz.func212,Tryz.ntmps212;go_wp2_with (at_builtin;refine zby typR zpw 36 5 w.heap.size 64 (fun b=>b<w.heap.size) _ rfl _ _ 34 _ rfl Tryz.underlying34 zcp rfl (by decide) (by decide) (.slice (some ⟨w.heap.size,0,none⟩) 0 0) [] L rfl ?own A c L.length rfl rfl ?held ?hG ?base ?len ?_)
 case own=>exact Own.empty _ _ _ _ _ _ _ rfl (Qiz _)
 case held=>exact((H.out.here).keep (Keep.below (B:=w.heap.size) ((Below.refl _ w).alloc (Qiz _) _)))
 case hG=>exact fun b hb e=>by simp[Value.ownBlock]at e;omega
 case base=>simp
 case len=>simp;omega
 intro v' w1 hown hg _;have b1:Below w.heap.size w w1:=((Below.refl _ w).alloc (Qiz _) _).grown hg (by simp) fun k e=>by simp[Value.ownBlock]at e;omega
 have hown:Own typR 36 5 w.heap.size (fun _=>False) v' L w1:=Own.free hown HL.out;clear hg;obtain⟨A1,c1,rfl⟩:=hown.anyForm;obtain⟨n,hn⟩:∃n,n=L.length:=⟨_,rfl⟩;rw[←hn]at hown ⊢;have hn6:n≤1000000:=by omega
 have HN:=Qaz hn;clear hn hlen;go_wp2_with (fail)
 go_loopw [4] (fun i wr=>∃(i':Nat)(out:List Ty),i'≤n∧i=.int .i64 i'∧(out.Perm L∧z16 (zum out) i')∧Own typR 36 5 w.heap.size (fun _=>False) (.slice A1 n c1) out wr∧Below w.heap.size w wr) (fun i _=>n-(intOf i).toNat)
 case atStart=>exact⟨0,L,Qjz _,rfl,⟨List.Perm.refl _,fun a b hab hb=>by omega⟩,hown,b1⟩
 case round=>
  clear hown b1;obtain⟨i,out,hi,rfl,hp,hown,hb⟩:=hrel;have HP:=Qaz hp;have HO:=Qaz hown;clear hp hown;by_cases hlt:i<n
  ·obtain⟨g,cg,hAg,hgl,hgs⟩:=HO.out.form (by rw[HP.out.1.length_eq,←HN.out];omega);simp only[Value.slice.injEq]at hAg;obtain⟨rfl,_,rfl⟩:=hAg;go_wp2_with (fail)
   go_loopw [5] (fun k wi=>∃(k':Nat)(o2:List Ty),k'≤i∧k=.int .i64 k'∧(o2.Perm L∧InsF (zum o2) i k')∧Own typR 36 5 w.heap.size (fun _=>False) (.slice (some ⟨g,0,none⟩) n c1) o2 wi∧Below w.heap.size w wi) (fun k _=>(intOf k).toNat)
   case atStart=>exact⟨i,out,Qiz _,rfl,⟨HP.out.1,InsF.start HP.out.2⟩,HO.out,hb⟩
   case round=>
    clear HP HO hb hgs;obtain⟨k,o2,hk,rfl,hp,hown,hb⟩:=hrel;have HP:=Qaz hp;have HO:=Qaz hown;have hol:o2.length=n:=by rw[hp.1.length_eq,HN.out]
    have hgs:=(hown.lt g (by simp[Value.ownBlock])).2;have HBD:Hid (∀n,Below w.heap.size w (wr.drewN n)):=Qaz (fun n=>hb.trans (zad _ _ _));clear hp hown;by_cases hz:k=0
    ·subst hz;have HD:Hid (z16 (zum o2) (i+1)):=Qaz (InsF.done HP.out.2 hk (.inl rfl));go_wp2_with (fail)
     go_quiet (fail)
     all_goals
      go_wp2_with (fail);go_roundw
      case rel=>exact⟨i+1,o2,by omega,by go_num,⟨HP.out.1,HD.out⟩,HO.out.drewN _,HBD.out _⟩
      case measure=>simp[intOf]<;>omega
    ·obtain⟨m,hm⟩:∃m,k=m+1:=⟨k-1,by omega⟩;have wk:IntKind.i64.wrap ((k:Int)-1)=(m:Int):=by rw[IntKind.wrap_i64];omega
     have wk2:(k:Int)-1=(m:Int):=by omega
     have wk0:(0:Int)<(k:Int):=by omega
     have wk3:decide (0<k)=true:=Qhz (by omega);have wk4:0<k:=by omega
     have wk1:(k:Int)<(n:Int):=by omega
     have wm0:(0:Int)≤(m:Int):=by omega
     have wm1:(m:Int)<(n:Int):=by omega
     have hx:o2[m]? =some o2[m]:=Qbz (by omega);generalize o2[m]=x at hx;have hy:o2[k]? =some o2[k]:=Qbz (by omega);generalize o2[k]=y at hy;have hxa:x.args=[]:=HL.out x (HP.out.1.mem_iff.1 (Qdz hx));have hya:y.args=[]:=HL.out y (HP.out.1.mem_iff.1 (Qdz hy));obtain⟨Ax,ax,⟨x0,p0⟩,⟨x1,p1⟩,⟨x2,p2⟩,⟨x3,p3⟩,x4,p4⟩:=OwnT.at5 HO.out hx hxa;obtain⟨Ay,ay,⟨y0,q0⟩,⟨y1,q1⟩,⟨y2,q2⟩,⟨y3,q3⟩,y4,q4⟩:=OwnT.at5 HO.out hy hya;have hy':o2[m+1]? =some y:=by rw[←hm];exact hy
     by_cases hgt:y.lo<x.lo
     ·have t2:decide (y.lo<x.lo)=true:=Qhz hgt;have HNW:Hid (((o2.set k x).set m y).Perm L∧InsF (zum ((o2.set k x).set m y)) i m):=Qaz (by
       rw[hm];refine⟨(swap_perm hx hy').trans HP.out.1,InsF.swap (f:=zum o2) (by rw[←hm];exact HP.out.2) (by omega) (by rw[zfb hx,zfb hy'];omega) (zyw hx hy')⟩)
      have HHM:=Qaz hm;clear hgt hm hy';go_wp2_with (fail)
      go_quiet (fail)
      clear x0 x1 x2 x3 x4 y0 y1 y2 y3 y4 p0 p1 p2 p3 p4 q0 q1 q2 q3 q4;obtain⟨wd,hwd⟩:∃wd,wd=wr.drewN nq:=⟨_,rfl⟩;rw[←hwd];have HOd:=Qaz (HO.out.drewN nq);have hbd:=HBD.out nq;have hgs':g<(wr.drewN nq).heap.size:=hgs;rw[←hwd]at HOd hbd hgs';clear hwd HO HBD hb hgs;obtain⟨Ax,ax,⟨x0,p0⟩,⟨x1,p1⟩,⟨x2,p2⟩,⟨x3,p3⟩,x4,p4⟩:=OwnT.at5 HOd.out hx hxa;obtain⟨Ay,ay,⟨y0,q0⟩,⟨y1,q1⟩,⟨y2,q2⟩,⟨y3,q3⟩,y4,q4⟩:=OwnT.at5 HOd.out hy hya;have hgn:¬wd.heap.size=g:=by omega
      have o1:=OwnT.setAll HOd.out hy hya hxa Ax ax;have o2':=OwnT.setAll o1 (i:=m) (x:=x) (y:=y) (by rw[List.getElem?_set_ne (by have:=HHM.out;omega)];exact hx) hxa hya Ay ay;have O2:=Qaz o2';clear o1 o2' hx hy;go_wp2_with (fail);have o5:=O2.out.alloc (.cells #[.int .i64 y.kind,.string y.name,.int .i64 y.lo,.int .i64 y.hi,.slice Ay 0 ay] 36)
      exact⟨⟨m,_,by omega,rfl,HNW.out,o5,zsg ((((((((((hbd.setCell (p:=⟨g,_,none⟩) hgl _).setCell (p:=⟨g,_,none⟩) hgl _).setCell (p:=⟨g,_,none⟩) hgl _).setCell (p:=⟨g,_,none⟩) hgl _).setCell (p:=⟨g,_,none⟩) hgl _).setCell (p:=⟨g,_,none⟩) hgl _).setCell (p:=⟨g,_,none⟩) hgl _).setCell (p:=⟨g,_,none⟩) hgl _).setCell (p:=⟨g,_,none⟩) hgl _).setCell (p:=⟨g,_,none⟩) hgl _) _⟩,by have:=HHM.out;simp[intOf];omega⟩
     ·have t2:decide (y.lo<x.lo)=false:=Qgz hgt;have HD:Hid (z16 (zum o2) (i+1)):=Qaz (InsF.done HP.out.2 hk (.inr ⟨m,hm,by rw[zfb hx,zfb hy];omega⟩));clear hgt hm hy';go_wp2_with (fail)
      go_quiet (fail)
      all_goals
       go_wp2_with (fail);go_roundw
       case rel=>exact⟨i+1,o2,by omega,by go_num,⟨HP.out.1,HD.out⟩,HO.out.drewN _,HBD.out _⟩
       case measure=>simp[intOf]<;>omega
  ·obtain rfl:i=n:=by omega
   have HF:Hid (out.Pairwise fun a b=>a.lo≤b.lo):=Qaz (zze (by rw[HP.out.1.length_eq,←HN.out];exact HP.out.2));go_wp2;go_ret;exact⟨_,out,rfl,HP.out.1,HF.out,HO.out,hb⟩
theorem OwnS.at{T base:Nat}{G:Nat→Prop}{L:List ByteArray}{w:World}{g c n:Nat}(h:Own zcz T 1 base G (.slice (some ⟨g,0,none⟩) n c) L w){i:Nat}{x:ByteArray}(hx:L[i]? =some x):w.cell? ⟨g,i,none⟩=some (.string x)∧w.frozen? ⟨g,i,none⟩=false:=by
 obtain⟨cs,_,hr,hc⟩:=h.get hx;have e:cs=[.string x]:=hr.now;subst e;have:=hc 0 _ rfl
 simpa using this
theorem OwnS.set{T base:Nat}{L:List ByteArray}{w:World}{g c n:Nat}(h:Own zcz T 1 base (fun _=>False) (.slice (some ⟨g,0,none⟩) n c) L w){i:Nat}{x:ByteArray}(hx:L[i]? =some x)(y:ByteArray):Own zcz T 1 base (fun _=>False) (.slice (some ⟨g,0,none⟩) n c) (L.set i y) (w.setCell ⟨g,i,none⟩ (.string y)):=by
 have:=h.store (x':=y) (u:=.string y) (j:=0) rfl hx (by decide) (fun _ hb=>hb.elim) fun cs _ hr=>by
  have e:cs=[.string x]:=hr.now;subst e;exact fun _ _=>rfl
 simpa using this
theorem OwnS.strs{T base:Nat}{G:Nat→Prop}{L:List ByteArray}{w:World}{A:Option Addr}{n c:Nat}(h:Own zcz T 1 base G (.slice A n c) L w):Strs A L w:=(Own.read h).2.2.now
theorem ziu{G:Nat→Prop}(A:Option Addr)(c:Nat)(L:List ByteArray)(w:World)(h:Held G (Strs A L) w)(hlen:L.length≤1000000):
  Calls Tryz.prog 200 #[.slice A L.length c] w fun e w'=>∃v' L',e=.returned v'∧(L'.Nodup∧(∀s,s∈L'↔s∈L)∧L'.length≤L.length)∧Own zcz 9 1 w.heap.size (fun _=>False) v' L' w'∧Below w.heap.size w w':=by
 have H:=Qaz h;clear h;go_enter Tryz.func200,Tryz.ntmps200;go_wp2_with (fail)
 go_loopw [3,4] (fun v i wr=>∃(k:Nat)(o:List ByteArray),k≤L.length∧i=.int .i64 k∧(o.Nodup∧(∀s,s∈o↔s∈L.take k)∧o.length≤k)∧Own zcz 9 1 w.heap.size (fun _=>False) v o wr∧Below w.heap.size w wr) (fun _ i _=>L.length-(intOf i).toNat)
 case atStart=>exact⟨0,[],Qjz _,rfl,⟨List.nodup_nil,by simp,by simp⟩,Own.nil _ _ _ _ _ _,Below.refl _ _⟩
 case round=>
  obtain⟨k,o,hk,rfl,ho,hown,hb⟩:=hrel;have HO:=Qaz ho;have HW:=Qaz hown;obtain⟨A1,c1,rfl⟩:=hown.anyForm;have hS:=OwnS.strs hown;clear ho hown;by_cases hlt:k<L.length
  ·obtain⟨b,off,rfl⟩:=Slc.addrH H.out (by omega);have hx:L[k]? =some L[k]:=Qbz hlt;generalize L[k]=s at hx;have g0:=(Strs.atH (H.out.keep (Keep.all hb)) hx).now;have HX:=Qaz hx;have hol:o.length≤1000000:=by have:=HO.out.2.2;omega
   have HI:=Qaz (zbv A1 c1 o s wr hS hol);have HG:=Qaz (zf9 (l:=o) (x:=s));clear hx hS;cases hr:hasS o s with
   |true=>
    rw[hr]at HG;generalize idx o s=ix at HI HG;have HN:Hid (o.Nodup∧(∀z,z∈o↔z∈L.take (k+1))∧o.length≤k+1):=Qaz ⟨HO.out.1,fun z=>by
     rw[take_snoc HX.out,List.mem_append,←HO.out.2.1,List.mem_singleton];exact⟨.inl,fun q=>q.elim id fun e=>e▸zb8.1 hr⟩,by have:=HO.out.2.2;omega⟩
    have t2:=HG.out;clear hr;go_wp2_with (go_at_call 97;refine HI.out.mono ?_;rintro e V ⟨rfl,rfl⟩);exact⟨⟨k+1,o,by omega,by go_num,HN.out,HW.out,hb⟩,by simp[intOf];omega⟩
   |false=>
    rw[hr]at HG;generalize idx o s=ix at HI HG;have t2:=HG.out;have hsn:s∉o:=zbl.1 hr;have HN:Hid (∀z:List ByteArray,z.Perm (o++[s])→z.Nodup∧(∀y,y∈z↔y∈L.take (k+1))∧z.length≤k+1):=Qaz (fun z hz=>⟨hz.nodup_iff.2 (List.nodup_append.2 ⟨HO.out.1,by simp,fun a ha y hy e=>by
      rw[List.mem_singleton.1 hy]at e;exact hsn (e▸ha)⟩),fun y=>by
     rw[hz.mem_iff,take_snoc HX.out,List.mem_append,List.mem_append,HO.out.2.1],by rw[hz.length_eq];have:=HO.out.2.2;simp;omega⟩)
    clear hr hsn;go_wp2_with (first|(go_at_call 97;refine HI.out.mono ?_;rintro e V ⟨rfl,rfl⟩)|(at_builtin;refine Classical.byContradiction fun hneg=> ?_));apply hneg;refine zao zcz 9 1 w.heap.size 16 (fun _=>False) _ rfl _ _ 108 _ rfl Tryz.underlying108 info9 rfl (by decide) (by decide) (.slice A1 o.length c1) o rfl (HW.out.alloc _) ⟨wr.heap.size,0,none⟩ 1 rfl s [.string s] rfl ?cells ?one ?held ?hG ?base ?len ?_
    case cells=>exact fun j u hu=>zaq wr _ _ _ rfl j u hu
    case one=>intro u hu;simp at hu;rw[hu];rfl
    case held=>exact fun _ _=>rfl
    case hG=>exact fun b hb _=>hb.elim
    case base=>have:=hb.size;simp<;>omega
    case len=>first|omega|(simp;omega)
    intro v' w1 hown1 hg1 _;have hb3:Below w.heap.size w w1:=(hb.alloc hb.size _).grown hg1 (by have:=hb.size;simp;omega) fun k' e=>(HW.out.lt _ e).1;obtain⟨g,cg,rfl,hgl,hgs⟩:=hown1.form (by simp);obtain⟨n,hn⟩:∃n,n=(o++[s]).length:=⟨_,rfl⟩;rw[←hn]at hown1 ⊢;have hon:o.length+1=n:=by rw[hn];simp
    have hn6:n≤1000001:=by omega
    have HNN:=Qaz hn;have HO1:=Qaz hown1;clear hn hg1 hown1 HW HI HG g0 t2 hb hol;obtain⟨m0,hm0⟩:∃m0,n=m0+1:=⟨o.length,hon.symm⟩;have wn1:IntKind.i64.wrap ((n:Int)-1)=(m0:Int):=by rw[IntKind.wrap_i64];omega
    have wn2:(n:Int)-1=(m0:Int):=by omega
    have HM0:=Qaz hm0;clear hm0 hon;go_wp2_with (fail);clear hneg
    go_loopw [5] (fun i wi=>∃(j:Nat)(o2:List ByteArray),j≤m0∧i=.int .i64 j∧o2.Perm (o++[s])∧Own zcz 9 1 w.heap.size (fun _=>False) (.slice (some ⟨g,0,none⟩) n cg) o2 wi∧Below w.heap.size w wi) (fun i _=>(intOf i).toNat)
    case atStart=>exact⟨m0,o++[s],Qiz _,rfl,List.Perm.refl _,HO1.out,hb3⟩
    case round=>
     clear HO1 hb3 hgs;obtain⟨j,o2,hj,rfl,hp,hown,hb⟩:=hrel;have HP:=Qaz hp;have HW:=Qaz hown;have HBD:Hid (∀n,Below w.heap.size w (wr.drewN n)):=Qaz (fun n=>hb.trans (zad _ _ _));have hol:o2.length=n:=by rw[hp.length_eq,HNN.out]
     have hgs:=(hown.lt g (by simp[Value.ownBlock])).2;have hm0:=HM0.out;clear hp hown;by_cases hz:j=0
     ·subst hz;clear hm0 hol;go_wp2_with (fail)
      go_quiet (fail)
      go_wp2_with (fail);go_roundw
      case rel=>exact⟨k+1,o2,by omega,by go_num,HN.out _ HP.out,HW.out.drewN _,HBD.out _⟩
      case measure=>simp[intOf]<;>omega
     ·obtain⟨m,hm⟩:∃m,j=m+1:=⟨j-1,by omega⟩;have wk:IntKind.i64.wrap ((j:Int)-1)=(m:Int):=by rw[IntKind.wrap_i64];omega
      have wk2:(j:Int)-1=(m:Int):=by omega
      have wk0:(0:Int)<(j:Int):=by omega
      have wk3:decide (0<j)=true:=Qhz (by omega);have wk4:0<j:=by omega
      have wk1:(j:Int)<(n:Int):=by omega
      have wm0:(0:Int)≤(m:Int):=by omega
      have wm1:(m:Int)<(n:Int):=by omega
      have hx:o2[m]? =some o2[m]:=Qbz (by omega);generalize o2[m]=x at hx;have hy:o2[j]? =some o2[j]:=Qbz (by omega);generalize o2[j]=y at hy;obtain⟨x0,p0⟩:=OwnS.at HW.out hx;obtain⟨y0,q0⟩:=OwnS.at HW.out hy;have hy':o2[m+1]? =some y:=by rw[←hm];exact hy
      have HSW:Hid (((o2.set j x).set m y).Perm (o++[s])):=Qaz (by rw[hm];exact(swap_perm hx hy').trans HP.out);have HHM:=Qaz hm;have HY:=Qaz hy;have HX2:=Qaz hx;clear hm hy' hm0 hol hx hy;go_wp2_with (fail)
      go_quiet (fail)
      clear x0 p0 y0 q0;obtain⟨wd,hwd⟩:∃wd,wd=wr.drewN nq:=⟨_,rfl⟩;rw[←hwd];have HOd:=Qaz (HW.out.drewN nq);have hbd:=HBD.out nq;rw[←hwd]at HOd hbd;clear hwd HW HBD hb hgs;obtain⟨x0,p0⟩:=OwnS.at HOd.out HX2.out;obtain⟨y0,q0⟩:=OwnS.at HOd.out HY.out;have o1:=OwnS.set HOd.out HY.out x;have o2':=OwnS.set o1 (i:=m) (x:=x) (by rw[List.getElem?_set_ne (by have:=HHM.out;omega)];exact HX2.out) y;have O2:=Qaz o2';have hb5:=(hbd.setCell (p:=⟨g,j,none⟩) hgl (.string x)).setCell (p:=⟨g,m,none⟩) hgl (.string y);have HB5:=Qaz hb5;clear o1 o2' hb5;have hne:¬m=j:=by have:=HHM.out;omega
      have hne':¬j=m:=by have:=HHM.out;omega
      go_wp2_with (fail)
      ·exact⟨⟨m,_,by have:=HHM.out;omega,rfl,HSW.out,O2.out,HB5.out⟩,by have:=HHM.out;simp[intOf];omega⟩
      ·go_roundw
       case rel=>exact⟨k+1,o2,by omega,by go_num,HN.out _ HP.out,HOd.out,hbd⟩
       case measure=>simp[intOf]<;>omega
  ·obtain rfl:k=L.length:=by omega
   have HF:Hid (o.Nodup∧(∀s,s∈o↔s∈L)∧o.length≤L.length):=Qaz (by have:=HO.out;rw[List.take_length]at this;exact this);clear hS;go_wp2;go_ret;exact⟨_,o,rfl,HF.out,HW.out,hb⟩
def zt7(l:List CI)(m:List ByteArray)(s:ByteArray):Bool:= !(m.any fun u=>decide (u≠s)&&za0 l s u)
theorem zzr{l:List CI}{m:List ByteArray}{s:ByteArray}:s∈m.filter (zt7 l m)↔zfa l m s:=by
 rw[List.mem_filter];unfold zfa zt7;refine and_congr_right fun hs=> ?_;rw[Bool.not_eq_true',List.any_eq_false];refine forall_congr' fun u=>forall_congr' fun hu=> ?_;constructor
 ·intro h hn;cases hb:za0 l s u with
  |false=>rfl
  |true=>exact absurd (by rw[hb,Qhz hn];rfl) h
 ·intro h q;obtain⟨q1,q2⟩:=Bool.and_eq_true_iff.1 q;rw[h (of_decide_eq_true q1)]at q2;cases q2
def zyz(l:List CI)(m:List ByteArray)(s:ByteArray)(j:Nat):Bool:= !((m.take j).any fun u=>decide (u≠s)&&za0 l s u)
theorem zya{l:List CI}{m:List ByteArray}{s u:ByteArray}{j:Nat}(hu:m[j]? =some u):zyz l m s (j+1)=(zyz l m s j&&(decide (u=s)|| !za0 l s u)):=by
 unfold zyz;rw[take_snoc hu,List.any_append];by_cases e:u=s
 ·simp[e]
 ·simp[e]
theorem zmb(A:Option Addr)(c:Nat)(l:List CI)(AM:Option Addr)(cM:Nat)(m:List ByteArray)(w:World)(G:Nat→Prop)(h:Held G (CIs A l) w)(hl:l.length≤1000000)(hcp:∀x∈l,x.cpl.length≤1000000)(GM:Nat→Prop)(hM:Held GM (Strs AM m) w)(hlen:m.length≤1000000)(hnd:m.Nodup):
  Calls Tryz.prog 201 #[.slice A l.length c,.slice AM m.length cM] w fun e w'=>∃v' L',e=.returned v'∧((∀s,s∈L'↔zfa l m s)∧L'.length≤m.length)∧Own zcz 9 1 w.heap.size (fun _=>False) v' L' w'∧Below w.heap.size w w':=by
 have HU:Hid (∀a b V,Below w.heap.size w V→Calls Tryz.prog 121 #[.slice A l.length c,.string a,.string b] V fun e W'=>e=.returned (.bool (za0 l a b))∧V=W'):=Qaz (fun a b V hV=>zgw A c l a b V G (h.keep (Keep.all hV)) hl hcp);have HM:=Qaz hM;have HND:=Qaz hnd;clear h hcp hM hnd;go_enter Tryz.func201,Tryz.ntmps201;go_wp2_with (fail)
 go_loopw [5,6] (fun v i wr=>∃k:Nat,k≤m.length∧i=.int .i64 k∧Own zcz 9 1 w.heap.size (fun _=>False) v ((m.take k).filter (zt7 l m)) wr∧Below w.heap.size w wr) (fun _ i _=>m.length-(intOf i).toNat)
 case atStart=>exact⟨0,Qjz _,rfl,by simp;exact Own.nil _ _ _ _ _ _,Below.refl _ _⟩
 case round=>
  obtain⟨k,hk,rfl,hown,hb⟩:=hrel;by_cases hlt:k<m.length
  ·obtain⟨b,off,rfl⟩:=Slc.addrH HM.out (by omega);have hx:m[k]? =some m[k]:=Qbz hlt;generalize m[k]=s at hx;have HX:=Qaz hx;have HST:Hid ((m.take (k+1)).filter (zt7 l m)=(m.take k).filter (zt7 l m)++if zt7 l m s=true then[s]else[]):=Qaz (by
    rw[take_snoc hx,List.filter_append];cases h:zt7 l m s<;>simp[h])
   have hfl:((m.take k).filter (zt7 l m)).length≤k:=Nat.le_trans (List.length_filter_le _ _) (by rw[List.length_take];omega);generalize(m.take k).filter (zt7 l m)=fl at hown HST hfl;have HW:=Qaz hown;clear hown hx;go_wp2_with (fail)
   go_loopw [7,8] (fun is i wi=>∃j:Nat,j≤m.length∧i=.int .i64 j∧is=.bool (zyz l m s j)∧Below wr.heap.size wr wi) (fun _ i _=>m.length-(intOf i).toNat)
   case atStart=>exact⟨0,Qjz _,rfl,by unfold zyz;simp,Below.refl _ _⟩
   case round=>
    rename World=>wi
    obtain⟨j,hj,rfl,rfl,hbi⟩:=hrel;have hbw:=zab hb hbi;by_cases hlj:j<m.length
    ·have hu:m[j]? =some m[j]:=Qbz hlj;generalize m[j]=u at hu;have g0:=(Strs.atH (HM.out.keep (Keep.all hbw)) HX.out).now;have g1:=(Strs.atH (HM.out.keep (Keep.all hbw)) hu).now;have HK:=Qaz (zya (l:=l) (s:=s) hu);have hbd:Below w.heap.size w wi.drew:=zab hbw (Below.refl _ wi).drew;have hbd2:Below wr.heap.size wr wi.drew:=zab hbi (Below.refl _ wi).drew;have HUY:Hid (∀V,Drw wi V→Calls Tryz.prog 121 #[.slice A l.length c,.string s,.string u] V fun e W'=>e=.returned (.bool (za0 l s u))∧V=W'):=Qaz (fun V ⟨n,hV⟩=>HU.out s u V (by rw[hV];exact zab hbw (zad _ _ _)))
     have hbn:∀n,Below wr.heap.size wr (wi.drewN n):=fun n=>hbi.trans (zad _ _ _);have HBN:=Qaz hbn;clear hbn;generalize zyz l m s j=tk at HK;cases tk with
     |false=>
      have HE:Hid (zyz l m s (j+1)=false):=Qaz (by rw[HK.out];rfl);clear HK hu;go_wp2_with (fail)
      go_quiet (fail)
      go_wp2_with (fail);exact⟨⟨j+1,by omega,by go_num,by rw[HE.out],HBN.out _⟩,by simp[intOf];omega⟩
     |true=>
      by_cases hjk:k=j
      ·subst hjk;have HE:Hid (zyz l m s (k+1)=true):=Qaz (by
        rw[HK.out];have:some u=some s:=by rw[←hu,←HX.out]
        cases this;simp)
       clear HK hu;go_wp2_with (fail)
       go_quiet (fail)
       go_wp2_with (fail);exact⟨⟨k+1,by omega,by go_num,by rw[HE.out],HBN.out _⟩,by simp[intOf];omega⟩
      ·have t1:((k:Int)==(j:Int))=false:=Qfz (by omega);have t3:(k==j)=false:=Qfz hjk;have hus:¬u=s:=fun e=>hjk (by
        subst e;obtain⟨h1,e1⟩:=Qcz HX.out;obtain⟨h2,e2⟩:=Qcz hu;exact(List.getElem_inj (h₀:=h1) (h₁:=h2) HND.out).1 (e1.trans e2.symm))
       have HE:Hid (zyz l m s (j+1)= !za0 l s u):=Qaz (by rw[HK.out,Qgz hus];simp);clear HK hu hus;generalize za0 l s u=bb at HE HUY;go_wp2_with (fail)
       go_quiet ((go_at_call 121;exact(HUY.out _ (by first|exact Drw.of _ _|exact(Drw.of _ _).drewN _)).mono fun _ _ ⟨a,b⟩=>⟨a,_,b.symm⟩))
       go_wp2_with (fail);exact⟨⟨j+1,by omega,by go_num,by rw[HE.out],HBN.out _⟩,by simp[intOf];omega⟩
    ·obtain rfl:j=m.length:=by omega
     have HK:Hid (zyz l m s m.length=zt7 l m s):=Qaz (by unfold zyz zt7;rw[List.take_length]);rw[HK.out];have g0:=(Strs.atH (HM.out.keep (Keep.all hbw)) HX.out).now;have HW2:=Qaz (HW.out.all hbi);obtain⟨A1,c1,hA1⟩:=HW2.out.anyForm;subst hA1;cases ht:zt7 l m s with
     |false=>
      have HE:Hid ((m.take (k+1)).filter (zt7 l m)=fl):=Qaz (by rw[HST.out,ht];simp);clear ht HST HK;go_wp2_with (fail);go_roundw
      case rel=>exact⟨k+1,by omega,by go_num,by rw[HE.out];exact HW2.out,hbw⟩
      case measure=>simp[intOf]<;>omega
     |true=>
      have HE:Hid ((m.take (k+1)).filter (zt7 l m)=fl++[s]):=Qaz (by rw[HST.out,ht];simp);clear ht HST HK;go_wp2_with (at_builtin;refine Classical.byContradiction fun hneg=> ?_);apply hneg;refine zao zcz 9 1 w.heap.size 16 (fun _=>False) _ rfl _ _ 108 _ rfl Tryz.underlying108 info9 rfl (by decide) (by decide) (.slice A1 fl.length c1) fl rfl (HW2.out.alloc _) ⟨wi.heap.size,0,none⟩ 1 rfl s [.string s] rfl ?cells ?one ?held ?hG ?base ?len ?_
      case cells=>exact fun j u hu=>zaq wi _ _ _ rfl j u hu
      case one=>intro u hu;simp at hu;rw[hu];rfl
      case held=>exact fun _ _=>rfl
      case hG=>exact fun b hb _=>hb.elim
      case base=>have:=hbw.size;simp<;>omega
      case len=>first|omega|(simp;omega)
      intro v' w1 hown1 hg1 _;have hb3:Below w.heap.size w w1:=(hbw.alloc hbw.size _).grown hg1 (by have:=hbw.size;simp;omega) fun k' e=>(HW2.out.lt _ e).1;have HW3:=Qaz hown1;clear hneg hown1 hg1;go_wp2_with (fail);go_roundw
      case rel=>exact⟨k+1,by omega,by go_num,by rw[HE.out];exact HW3.out,hb3⟩
      case measure=>simp[intOf]<;>omega
  ·obtain rfl:k=m.length:=by omega
   rw[List.take_length]at hown;have HW:=Qaz hown;clear hown;go_wp2;go_ret;exact⟨_,_,rfl,⟨fun s=>zzr,List.length_filter_le _ _⟩,HW.out,hb⟩
theorem zto{G:Nat→Prop}{w:World}{x:Ty}(h:x.args=[])(A:Option Addr)(c:Nat):Held G (typR x [.int .i64 x.kind,.string x.name,.int .i64 x.lo,.int .i64 x.hi,.slice A 0 c]) w:=by
 obtain⟨k,s,lo,hi,args⟩:=x;have h:args=[]:=h;subst h;exact zb1 k s lo hi A c
theorem zoc{G:Nat→Prop}(A:Option Addr)(c:Nat)(L:List Ty)(w:World)(h:Held G (Typs A L) w)(hr:∀t∈L,Rng t)(hlen:L.length≤1000000):
  Calls Tryz.prog 196 #[.slice A L.length c] w fun e w'=>∃v' M,e=.returned v'∧Own typR 36 5 w.heap.size (fun _=>False) v' M w'∧(Gap M∧(∀n,num M n↔num L n)∧M.length≤L.length)∧Below w.heap.size w w':=by
 have HS:=Qaz (zsw (base:=0) A c L w h (fun t ht=>zg5 (hr t ht)) hlen);have HR:=Qaz hr;clear h hr;go_enter Tryz.func196,Tryz.ntmps196;go_wp2_with (go_at_call 212;refine HS.out.mono ?_;rintro e V ⟨v,L',rfl,hp,hso,hown,hbV⟩);have HM:Hid (Gap (zf7 L')∧(∀n,num (zf7 L') n↔num L n)∧(zf7 L').length≤L.length):=Qaz (by
  have hr':∀t∈L',Rng t:=fun t ht=>HR.out t (hp.mem_iff.1 ht);obtain⟨a,b⟩:=ziz hso hr';exact⟨a,fun n=>(b n).trans ⟨fun ⟨x,hx,q⟩=>⟨x,hp.mem_iff.1 hx,q⟩,fun ⟨x,hx,q⟩=>⟨x,hp.mem_iff.2 hx,q⟩⟩,by have:=zg1 L' [];rw[hp.length_eq]at this;simpa[zf7]using this⟩)
 have HSO:Hid (L'.Pairwise fun a b=>a.lo≤b.lo):=Qaz hso;have HR':Hid (∀t∈L',Rng t):=Qaz fun t ht=>HR.out t (hp.mem_iff.1 ht);have HBV:=Qaz hbV;obtain⟨A1,c1,rfl⟩:=hown.anyForm;have hl6:L'.length≤1000000:=by rw[hp.length_eq];exact hlen
 have HOW:=Qaz hown;clear hown hp hso HS HR hbV;go_wp2_with (fail)
 go_loopw [4,5] (fun v i wr=>∃k:Nat,k≤L'.length∧i=.int .i64 k∧Own typR 36 5 V.heap.size (fun _=>False) v ((L'.take k).foldl zay []) wr∧Below V.heap.size V wr) (fun _ i _=>L'.length-(intOf i).toNat)
 case atStart=>exact⟨0,Qjz _,rfl,Own.nil _ _ _ _ _ _,Below.refl _ _⟩
 case round=>
  obtain⟨k,hk,rfl,hown,hb⟩:=hrel;by_cases hlt:k<L'.length
  ·obtain⟨g,cg,hAg,_⟩:=HOW.out.form (by omega);simp only[Value.slice.injEq,true_and]at hAg;obtain⟨rfl,rfl⟩:=hAg;have hx:L'[k]? =some L'[k]:=Qbz hlt;generalize L'[k]=x at hx;have hxr:=HR'.out x (Qdz hx);have hxa:x.args=[]:=zg5 hxr;obtain⟨A5,c5,⟨e0,_⟩,⟨e1,_⟩,⟨e2,_⟩,⟨e3,_⟩,e4,_⟩:=OwnT.at5 (HOW.out.all hb) hx hxa;have HST:Hid ((L'.take (k+1)).foldl zay []=zay ((L'.take k).foldl zay []) x):=Qaz (znk zay [] hx);have hol:((L'.take k).foldl zay []).length≤k:=by
    have:=zg1 (L'.take k) [];rw[List.length_take]at this;simp at this;omega
   have hgp:∀y∈(L'.take k).foldl zay [],Rng y:=(ziz (HSO.out.sublist (List.take_sublist k L')) fun y hy=>HR'.out y (List.mem_of_mem_take hy)).1.rng;generalize(L'.take k).foldl zay []=ol at hown HST hol hgp;have HOL:=Qaz hol;have hbz:=hb.size;have bwb:Below wr.heap.size wr (wr.alloc (.cells #[.int .i64 x.kind,.string x.name,.int .i64 x.lo,.int .i64 x.hi,.slice A5 0 c5] 36)):=(Below.refl _ wr).alloc (Qiz _) _;have HXE:Hid (zbo x.lo x.hi=x):=Qaz hxr.eq.symm;have xlo:=hxr.lo;have xhi:x.lo≤9223372036854775807:=Int.le_trans hxr.le hxr.hi;clear hol hxr;rcases zlq ol with rfl|⟨i,z,rfl⟩
   ·obtain⟨Ao,co,rfl⟩:=hown.anyForm;simp only[List.length_nil]at*;clear hx hgp;go_wp2_with (fail)
    go_quiet (fail)
    obtain⟨wd,hwd⟩:∃wd,wd=(wr.alloc (.cells #[.int .i64 x.kind,.string x.name,.int .i64 x.lo,.int .i64 x.hi,.slice A5 0 c5] 36)).drewN nq:=⟨_,rfl⟩;rw[←hwd];have bd:Below wr.heap.size wr wd:=by rw[hwd];exact zae bwb (zad _ _ _)
    have x0:wd.cell? ⟨wr.heap.size,0,none⟩=some (.int .i64 x.kind):=by rw[hwd];exact zac wr _ _ _ rfl 0 _ rfl
    have x1:wd.cell? ⟨wr.heap.size,1,none⟩=some (.string x.name):=by rw[hwd];exact zac wr _ _ _ rfl 1 _ rfl
    have x2:wd.cell? ⟨wr.heap.size,2,none⟩=some (.int .i64 x.lo):=by rw[hwd];exact zac wr _ _ _ rfl 2 _ rfl
    have x3:wd.cell? ⟨wr.heap.size,3,none⟩=some (.int .i64 x.hi):=by rw[hwd];exact zac wr _ _ _ rfl 3 _ rfl
    have x4:wd.cell? ⟨wr.heap.size,4,none⟩=some (.slice A5 0 c5):=by rw[hwd];exact zac wr _ _ _ rfl 4 _ rfl
    clear hwd e0 e1 e2 e3 e4;have bD:Below V.heap.size V wd:=zae hb bd;have hownD:=hown.all bd;go_wp2_with (at_builtin;refine Classical.byContradiction fun hneg=> ?_);apply hneg;refine zao typR 36 5 V.heap.size 64 (fun _=>False) _ rfl _ _ 34 _ rfl Tryz.underlying34 zcp rfl (by decide) (by decide) (.slice Ao 0 co) ([]) rfl (hownD.alloc _) ⟨wd.heap.size,0,none⟩ 1 rfl x [.int .i64 x.kind,.string x.name,.int .i64 x.lo,.int .i64 x.hi,.slice A5 0 c5] rfl ?cells ?one ?held ?hG ?base ?len ?_
    case cells=>exact fun j u hu=>zaq wd _ _ _ rfl j u hu
    case one=>intro u hu;simp at hu;rcases hu with rfl|rfl|rfl|rfl|rfl<;>rfl
    case held=>exact zto hxa _ _
    case hG=>exact fun b hb _=>hb.elim
    case base=>have:=bD.size;simp<;>omega
    case len=>have:=HOL.out;simp at this ⊢ <;>omega
    intro v' w1 hown1 hg1 _;have hb3:Below V.heap.size V w1:=(bD.alloc bD.size _).grown hg1 (by have:=bD.size;simp;omega) fun k' e=>(hownD.lt _ e).1;have hown2:Own typR 36 5 V.heap.size (fun _=>False) v' (zay ([]) x) w1:=by rw[zel,HXE.out];exact hown1
    go_wp2;exact⟨⟨k+1,by omega,by go_num,by rw[HST.out];exact hown2,hb3⟩,by simp[intOf];omega⟩
   ·obtain⟨g2,co,hv2,hg2,hg2l⟩:=hown.form (by simp);subst hv2;have hzx:(i++[z])[i.length]? =some z:=by rw[List.getElem?_append_right (Qiz _),Nat.sub_self];rfl
    have hza:z.args=[]:=zg5 (hgp z (by simp));have hzr:=hgp z (by simp);have zl1:=hzr.hi;have zl2:=hzr.lo;have zl3:=hzr.le;have hze:=hzr.eq;have hm1:(i++[z]).length=i.length+1:=by simp
    obtain⟨n,hn⟩:∃n,n=(i++[z]).length:=⟨_,rfl⟩;obtain⟨m,hm⟩:∃m,m=i.length:=⟨_,rfl⟩;have hnm:n=m+1:=by rw[hn,hm1,hm]
    have wn3:n≤1000000:=by have:=HOL.out;omega
    have wn1:IntKind.i64.wrap ((n:Int)-1)=(m:Int):=by rw[IntKind.wrap_i64];omega
    have wn5:(n:Int)-1=(m:Int):=by omega
    have wn0:(0:Int)≤(m:Int):=by omega
    have wm1:(m:Int)<(n:Int):=by omega
    rw[←hm]at hzx;rw[←hn]at hown ⊢;have HMI:=Qaz hm;have HN:=Qaz hn;obtain⟨A6,c6,⟨_,_⟩,⟨_,_⟩,⟨_,_⟩,⟨z3,_⟩,_,_⟩:=OwnT.at5 hown hzx hza;have HSET:Hid ((z.hi=9223372036854775807∨x.lo≤z.hi+1)→∀W u,Below wr.heap.size wr W→u=max z.hi x.hi→Own typR 36 5 V.heap.size (fun _=>False) (.slice (some ⟨g2,0,none⟩) n co) (zay (i++[z]) x) (W.setCell ⟨g2,m*5+3,none⟩ (.int .i64 u))∧Below V.heap.size V (W.setCell ⟨g2,m*5+3,none⟩ (.int .i64 u))):=Qaz (fun hc W u hW hu=>by
     refine⟨?_,(zae hb hW).setCell (p:=⟨g2,m*5+3,none⟩) hg2 _⟩;have h1:=OwnT.setHi (hown.all hW) hzx (fun b hb=>hb.elim) u;have e:(i++[z]).set m (.mk z.kind z.name z.lo u z.args)=zay (i++[z]) x:=by
      rw[zco,if_pos hc,HMI.out,List.set_append_right _ _ (Qiz _),Nat.sub_self,hu];have e1:z.kind=2:=by rw[hze];rfl
      have e2:z.name=⟨#[]⟩:=by rw[hze];rfl
      rw[e1,e2,hza];rfl
     rw[e]at h1;exact h1)
    have HZ:Hid (∀W,Below wr.heap.size wr W→W.cell? ⟨g2,m*5+3,none⟩=some (.int .i64 z.hi)∧W.frozen? ⟨g2,m*5+3,none⟩=false):=Qaz (fun W hW=>by
     obtain⟨_,_,_,_,_,q,_⟩:=OwnT.at5 (hown.all hW) hzx hza;exact q)
    clear hgp hzr hze hx hm hn hnm hm1;by_cases hle:x.lo≤z.hi
    ·have t1:decide (x.lo≤z.hi)=true:=Qhz hle;have HS2:=Qaz (HSET.out (.inr (by omega)));clear hle hzx HSET;go_wp2_with (fail)
     go_quiet (fail)
     obtain⟨wd,hwd⟩:∃wd,wd=(wr.alloc (.cells #[.int .i64 x.kind,.string x.name,.int .i64 x.lo,.int .i64 x.hi,.slice A5 0 c5] 36)).drewN nq:=⟨_,rfl⟩;rw[←hwd];have bd:Below wr.heap.size wr wd:=by rw[hwd];exact zae bwb (zad _ _ _)
     have x0:wd.cell? ⟨wr.heap.size,0,none⟩=some (.int .i64 x.kind):=by rw[hwd];exact zac wr _ _ _ rfl 0 _ rfl
     have x1:wd.cell? ⟨wr.heap.size,1,none⟩=some (.string x.name):=by rw[hwd];exact zac wr _ _ _ rfl 1 _ rfl
     have x2:wd.cell? ⟨wr.heap.size,2,none⟩=some (.int .i64 x.lo):=by rw[hwd];exact zac wr _ _ _ rfl 2 _ rfl
     have x3:wd.cell? ⟨wr.heap.size,3,none⟩=some (.int .i64 x.hi):=by rw[hwd];exact zac wr _ _ _ rfl 3 _ rfl
     have x4:wd.cell? ⟨wr.heap.size,4,none⟩=some (.slice A5 0 c5):=by rw[hwd];exact zac wr _ _ _ rfl 4 _ rfl
     clear hwd e0 e1 e2 e3 e4;have bD:Below V.heap.size V wd:=zae hb bd;obtain⟨y3,f3⟩:=HZ.out wd bd;clear z3;go_wp2_with (fail)
     go_region
     all_goals
      go_wp2;refine⟨⟨k+1,by omega,by go_num,?_⟩,by simp[intOf];omega⟩;rw[HST.out];exact HS2.out _ _ (zae bd (Below.refl _ wd).drew) rfl
    ·have t1:decide (x.lo≤z.hi)=false:=Qgz hle;by_cases heq:wrap64 (z.hi+1)=x.lo
     ·have t2:(wrap64 (z.hi+1)==x.lo)=true:=beq_iff_eq.2 heq;have HS2:=Qaz (HSET.out (by
       unfold wrap64 at heq;by_cases hmax:z.hi=9223372036854775807
       ·exact .inl hmax
       ·exact .inr (by omega)))
      clear hle heq hzx HSET;go_wp2_with (fail)
      go_quiet (fail)
      obtain⟨wd,hwd⟩:∃wd,wd=(wr.alloc (.cells #[.int .i64 x.kind,.string x.name,.int .i64 x.lo,.int .i64 x.hi,.slice A5 0 c5] 36)).drewN nq:=⟨_,rfl⟩;rw[←hwd];have bd:Below wr.heap.size wr wd:=by rw[hwd];exact zae bwb (zad _ _ _)
      have x0:wd.cell? ⟨wr.heap.size,0,none⟩=some (.int .i64 x.kind):=by rw[hwd];exact zac wr _ _ _ rfl 0 _ rfl
      have x1:wd.cell? ⟨wr.heap.size,1,none⟩=some (.string x.name):=by rw[hwd];exact zac wr _ _ _ rfl 1 _ rfl
      have x2:wd.cell? ⟨wr.heap.size,2,none⟩=some (.int .i64 x.lo):=by rw[hwd];exact zac wr _ _ _ rfl 2 _ rfl
      have x3:wd.cell? ⟨wr.heap.size,3,none⟩=some (.int .i64 x.hi):=by rw[hwd];exact zac wr _ _ _ rfl 3 _ rfl
      have x4:wd.cell? ⟨wr.heap.size,4,none⟩=some (.slice A5 0 c5):=by rw[hwd];exact zac wr _ _ _ rfl 4 _ rfl
      clear hwd e0 e1 e2 e3 e4;have bD:Below V.heap.size V wd:=zae hb bd;obtain⟨y3,f3⟩:=HZ.out wd bd;clear z3;go_wp2_with (fail)
      go_region
      all_goals
       go_wp2;refine⟨⟨k+1,by omega,by go_num,?_⟩,by simp[intOf];omega⟩;rw[HST.out];exact HS2.out _ _ (zae bd (Below.refl _ wd).drew) rfl
     ·have t2:(wrap64 (z.hi+1)==x.lo)=false:=Qfz heq;have HNM:Hid (¬(z.hi=9223372036854775807∨x.lo≤z.hi+1)):=Qaz (fun q=>by
       unfold wrap64 at heq;omega)
      clear hle heq hzx HSET;go_wp2_with (fail)
      go_quiet (fail)
      obtain⟨wd,hwd⟩:∃wd,wd=(wr.alloc (.cells #[.int .i64 x.kind,.string x.name,.int .i64 x.lo,.int .i64 x.hi,.slice A5 0 c5] 36)).drewN nq:=⟨_,rfl⟩;rw[←hwd];have bd:Below wr.heap.size wr wd:=by rw[hwd];exact zae bwb (zad _ _ _)
      have x0:wd.cell? ⟨wr.heap.size,0,none⟩=some (.int .i64 x.kind):=by rw[hwd];exact zac wr _ _ _ rfl 0 _ rfl
      have x1:wd.cell? ⟨wr.heap.size,1,none⟩=some (.string x.name):=by rw[hwd];exact zac wr _ _ _ rfl 1 _ rfl
      have x2:wd.cell? ⟨wr.heap.size,2,none⟩=some (.int .i64 x.lo):=by rw[hwd];exact zac wr _ _ _ rfl 2 _ rfl
      have x3:wd.cell? ⟨wr.heap.size,3,none⟩=some (.int .i64 x.hi):=by rw[hwd];exact zac wr _ _ _ rfl 3 _ rfl
      have x4:wd.cell? ⟨wr.heap.size,4,none⟩=some (.slice A5 0 c5):=by rw[hwd];exact zac wr _ _ _ rfl 4 _ rfl
      clear hwd e0 e1 e2 e3 e4;have bD:Below V.heap.size V wd:=zae hb bd;clear z3;have hown:Own typR 36 5 V.heap.size (fun _=>False) (.slice (some ⟨g2,0,none⟩) n co) (i++[z]) wr:=hown;have hownD:=hown.all bd;go_wp2_with (at_builtin;refine Classical.byContradiction fun hneg=> ?_);apply hneg
      refine zao typR 36 5 V.heap.size 64 (fun _=>False) _ rfl _ _ 34 _ rfl Tryz.underlying34 zcp rfl (by decide) (by decide) (.slice (some ⟨g2,0,none⟩) n co) (i++[z]) rfl (hownD.alloc _) ⟨wd.heap.size,0,none⟩ 1 rfl x [.int .i64 x.kind,.string x.name,.int .i64 x.lo,.int .i64 x.hi,.slice A5 0 c5] rfl ?cells ?one ?held ?hG ?base ?len ?_
      case cells=>exact fun j u hu=>zaq wd _ _ _ rfl j u hu
      case one=>intro u hu;simp at hu;rcases hu with rfl|rfl|rfl|rfl|rfl<;>rfl
      case held=>exact zto hxa _ _
      case hG=>exact fun b hb _=>hb.elim
      case base=>have:=bD.size;simp<;>omega
      case len=>have:=HOL.out;simp at this ⊢ <;>omega
      intro v' w1 hown1 hg1 _;have hb3:Below V.heap.size V w1:=(bD.alloc bD.size _).grown hg1 (by have:=bD.size;simp;omega) fun k' e=>(hownD.lt _ e).1;have hown2:Own typR 36 5 V.heap.size (fun _=>False) v' (zay (i++[z]) x) w1:=by rw[zco,if_neg HNM.out,HXE.out];exact hown1
      go_wp2;exact⟨⟨k+1,by omega,by go_num,by rw[HST.out];exact hown2,hb3⟩,by simp[intOf];omega⟩
  ·obtain rfl:k=L'.length:=by omega
   rw[List.take_length]at hown;have HOF:=Qaz hown;clear hown;go_wp2;go_ret;exact⟨_,zf7 L',rfl,HOF.out.lower HBV.out.size,HM.out,zae HBV.out hb⟩
end
end Go.Proofs.YtepnmejahbiacaaGreat
