/- Part 2 of the proof: Ty, Sl, Sf, Sm. -/
import Derived.Test.YtepnmejahbiacaaGreatM01
import Derived.Test.YtepnmejahbiacaaGreatProg
set_option linter.unusedVariables false
set_option linter.unusedSimpArgs false
set_option maxHeartbeats 64000000
set_option maxRecDepth 100000
namespace Go.Proofs.YtepnmejahbiacaaGreat
open Go.RowKit
inductive Ty where
 |mk (kind:Int) (name:ByteArray) (lo hi:Int) (args:List Ty)
namespace Ty
def kind:Ty→Int| .mk k _ _ _ _=>k
def name:Ty→ByteArray| .mk _ n _ _ _=>n
def lo:Ty→Int| .mk _ _ l _ _=>l
def hi:Ty→Int| .mk _ _ _ h _=>h
def args:Ty→List Ty| .mk _ _ _ _ a=>a
end Ty
mutual
def typR:Ty→List Value→World→Prop
 | .mk k n lo hi args,cs,w=>∃A c,cs=[.int .i64 k,.string n,.int .i64 lo,.int .i64 hi,.slice A args.length c]∧args.length≤c∧zmo A 0 args w
def zmo:Option Addr→Nat→List Ty→World→Prop
 |_,_,[],_=>True
 |A,i,t::r,w=>(∃b off cs,A=some ⟨b,off,none⟩∧cs.length=5∧typR t cs w∧∀j v,cs[j]? =some v→w.cell? ⟨b,off+i*5+j,none⟩=some v)∧zmo A (i+1) r w
end
theorem zp8{A:Option Addr}{w:World}:∀(l:List Ty)(i:Nat),zmo A i l w↔∀k x,l[k]? =some x→∃b off cs,A=some ⟨b,off,none⟩∧cs.length=5∧typR x cs w∧∀j v,cs[j]? =some v→w.cell? ⟨b,off+(i+k)*5+j,none⟩=some v
 | [],i=>by simp[zmo]
 |t::r,i=>by
  rw[zmo,zp8 r (i+1)];constructor
  ·rintro⟨h1,h2⟩ k x hx;cases k with
   |zero=>simp at hx;subst hx;exact h1
   |succ k=>
    rw[List.getElem?_cons_succ]at hx;have:=h2 k x hx
    rwa [show i+1+k=i+(k+1) by omega]at this
  ·intro h;refine⟨h 0 t rfl,fun k x hx=> ?_⟩;have:=h (k+1) x (by rwa [List.getElem?_cons_succ])
   rwa [show i+(k+1)=i+1+k by omega]at this
theorem zym{A:Option Addr}{w:World}{l:List Ty}:zmo A 0 l w↔Slc typR 5 A l w:=by
 rw[zp8];unfold Slc;simp only[Nat.zero_add]
abbrev Typs(A:Option Addr)(l:List Ty)(w:World):Prop:=Slc typR 5 A l w
theorem ze0{t:Ty}{cs:List Value}{w:World}:typR t cs w↔∃A c,cs=[.int .i64 t.kind,.string t.name,.int .i64 t.lo,.int .i64 t.hi,.slice A t.args.length c]∧t.args.length≤c∧Typs A t.args w:=by
 cases t with
 |mk k n lo hi args=>rw[typR];simp only[zym];rfl
theorem zpw:zw1 typR:=fun x cs _ h u hu=>by
 obtain⟨A,c,rfl,_⟩:=ze0.1 h;simp at hu;rcases hu with rfl|rfl|rfl|rfl|rfl<;>rfl
mutual
theorem zrf:∀(t:Ty)(cs:List Value)(w w':World),typR t cs w→Keep (fun _=>True) w w'→typR t cs w'
 | .mk k n lo hi args,cs,w,w',h,kp=>by
  rw[typR]at h ⊢;obtain⟨A,c,h1,h2,h3⟩:=h;exact⟨A,c,h1,h2,zn3 A 0 args w w' h3 kp⟩
theorem zn3:∀(A:Option Addr)(i:Nat)(l:List Ty)(w w':World),zmo A i l w→Keep (fun _=>True) w w'→zmo A i l w'
 |_,_,[],_,_,_,_=>by rw[zmo];trivial
 |A,i,t::r,w,w',h,kp=>by
  rw[zmo]at h ⊢;obtain⟨⟨b,off,cs,h1,h2,h3,h4⟩,h5⟩:=h;exact⟨⟨b,off,cs,h1,h2,zrf t cs w w' h3 kp,fun j v hv=>zah (h4 j v hv) kp trivial⟩,zn3 A (i+1) r w w' h5 kp⟩
end
theorem zky:Stable typR:=fun w x cs h=>fun w' k=>zrf x cs w w' h k
theorem typR.openH{G:Nat→Prop}{t:Ty}{cs:List Value}{w:World}(h:Held G (typR t cs) w):
  ∃A c,cs=[.int .i64 t.kind,.string t.name,.int .i64 t.lo,.int .i64 t.hi,.slice A t.args.length c]∧t.args.length≤c∧Held G (Typs A t.args) w:=by
 obtain⟨A,c,e,h1,_⟩:=ze0.1 h.now;refine⟨A,c,e,h1,fun w' k=> ?_⟩;obtain⟨A',c',e',_,h3⟩:=ze0.1 (h w' k);rw[e]at e';simp only[List.cons.injEq,Value.slice.injEq]at e';obtain⟨_,_,_,_,⟨rfl,_⟩,_⟩:=e';exact h3
theorem typR.mk{G:Nat→Prop}{t:Ty}{w:World}{A:Option Addr}{c:Nat}(h1:t.args.length≤c)(h3:Held G (Typs A t.args) w):Held G (typR t [.int .i64 t.kind,.string t.name,.int .i64 t.lo,.int .i64 t.hi,.slice A t.args.length c]) w:=fun w' k=>ze0.2 ⟨A,c,rfl,h1,h3 w' k⟩
theorem Typs.atH{G:Nat→Prop}{b off:Nat}{l:List Ty}{w:World}(h:Held G (Typs (some ⟨b,off,none⟩) l) w){k:Nat}{x:Ty}(hk:l[k]? =some x):
  ∃A c,x.args.length≤c∧Held G (Typs A x.args) w∧w.cell? ⟨b,off+k*5,none⟩=some (.int .i64 x.kind)∧w.cell? ⟨b,off+k*5+1,none⟩=some (.string x.name)∧
   w.cell? ⟨b,off+k*5+2,none⟩=some (.int .i64 x.lo)∧w.cell? ⟨b,off+k*5+3,none⟩=some (.int .i64 x.hi)∧w.cell? ⟨b,off+k*5+4,none⟩=some (.slice A x.args.length c):=by
 obtain⟨cs,_,hr,hc⟩:=Slc.atH h (by decide) hk;obtain⟨A,c,rfl,h1,h3⟩:=typR.openH hr;exact⟨A,c,h1,h3,(hc 0 _ rfl).now,(hc 1 _ rfl).now,(hc 2 _ rfl).now,(hc 3 _ rfl).now,(hc 4 _ rfl).now⟩
abbrev tyV(t:Ty)(A:Option Addr)(c:Nat):Value:=.agg #[.int .i64 t.kind,.string t.name,.int .i64 t.lo,.int .i64 t.hi,.slice A t.args.length c]
mutual
def Ty.count:Ty→Nat
 | .mk _ _ _ _ args=>1+Ty.counts args
def Ty.counts:List Ty→Nat
 | []=>0
 |t::r=>Ty.count t+Ty.counts r
end
mutual
def Ty.deep:Nat→Ty→Bool
 |0,_=>true
 |k+1,.mk _ _ _ _ args=>Ty.deeps k args
def Ty.deeps:Nat→List Ty→Bool
 |_,[]=>false
 |k,t::r=>Ty.deep k t||Ty.deeps k r
end
mutual
def Ty.all(p:Ty→Bool):Ty→Bool
 | .mk k n lo hi args=>p (.mk k n lo hi args)&&Ty.alls p args
def Ty.alls(p:Ty→Bool):List Ty→Bool
 | []=>true
 |t::r=>Ty.all p t&&Ty.alls p r
end
theorem Ty.counts_eq:∀(l:List Ty),Ty.counts l=(l.map Ty.count).sum
 | []=>by simp[Ty.counts]
 |t::r=>by rw[Ty.counts,Ty.counts_eq r];simp
theorem Ty.alls_eq(p:Ty→Bool):∀(l:List Ty),Ty.alls p l=l.all (Ty.all p)
 | []=>by simp[Ty.alls]
 |t::r=>by rw[Ty.alls,Ty.alls_eq p r];simp
theorem Ty.deeps_eq(k:Nat):∀(l:List Ty),Ty.deeps k l=l.any (Ty.deep k)
 | []=>by cases k<;>simp[Ty.deeps]
 |t::r=>by rw[Ty.deeps,Ty.deeps_eq k r];simp
theorem Ty.count_args(t:Ty):t.count=1+(t.args.map Ty.count).sum:=by cases t;rw[Ty.count,Ty.counts_eq];rfl
theorem Ty.deep_args(k:Nat)(t:Ty):t.deep (k+1)=t.args.any (Ty.deep k):=by cases t;rw[Ty.deep,Ty.deeps_eq];rfl
theorem Ty.all_args(p:Ty→Bool)(t:Ty):t.all p=(p t&&t.args.all (Ty.all p)):=by cases t;rw[Ty.all,Ty.alls_eq];rfl
theorem Ty.count_pos(t:Ty):0<t.count:=by rw[Ty.count_args];omega
theorem Ty.count_mem{t x:Ty}(h:x∈t.args):x.count<t.count:=by
 rw[Ty.count_args t];have:∀l:List Ty,x∈l→x.count≤(l.map Ty.count).sum:=by
  intro l
  induction l with
  |nil=>intro h;cases h
  |cons y l ih=>
   intro h;rw[List.map_cons,List.sum_cons];rcases List.mem_cons.1 h with rfl|h
   ·omega
   ·have:=ih h;omega
 have:=this _ h;omega
structure Par where
 name:ByteArray
 type:Ty
def parR(x:Par)(cs:List Value)(w:World):Prop:=∃ts,cs=.string x.name::ts∧ts.length=5∧typR x.type ts w
theorem zsq:Stable parR:=fun w x cs h=>by
 obtain⟨ts,e,h1,h2⟩:=h;exact fun w' k=>⟨ts,e,h1,zky w _ _ h2 w' k⟩
abbrev Pars(A:Option Addr)(l:List Par)(w:World):Prop:=Slc parR 6 A l w
theorem parR.openH{G:Nat→Prop}{x:Par}{cs:List Value}{w:World}(h:Held G (parR x cs) w):
  ∃A c,cs=[.string x.name,.int .i64 x.type.kind,.string x.type.name,.int .i64 x.type.lo,.int .i64 x.type.hi,.slice A x.type.args.length c]∧x.type.args.length≤c∧Held G (Typs A x.type.args) w:=by
 obtain⟨ts,e,_,_⟩:=h.now;have h2:Held G (typR x.type ts) w:=fun w' k=>by
  obtain⟨ts',e',_,h3⟩:=h w' k;rw[e]at e';cases e';exact h3
 obtain⟨A,c,e2,h3,h4⟩:=typR.openH h2;exact⟨A,c,by rw[e,e2],h3,h4⟩
theorem Pars.atH{G:Nat→Prop}{b off:Nat}{l:List Par}{w:World}(h:Held G (Pars (some ⟨b,off,none⟩) l) w){k:Nat}{x:Par}(hk:l[k]? =some x):
  ∃A c,x.type.args.length≤c∧Held G (Typs A x.type.args) w∧w.cell? ⟨b,off+k*6,none⟩=some (.string x.name)∧w.cell? ⟨b,off+k*6+1,none⟩=some (.int .i64 x.type.kind)∧
   w.cell? ⟨b,off+k*6+2,none⟩=some (.string x.type.name)∧w.cell? ⟨b,off+k*6+3,none⟩=some (.int .i64 x.type.lo)∧w.cell? ⟨b,off+k*6+4,none⟩=some (.int .i64 x.type.hi)∧w.cell? ⟨b,off+k*6+5,none⟩=some (.slice A x.type.args.length c):=by
 obtain⟨cs,_,hr,hc⟩:=Slc.atH h (by decide) hk;obtain⟨A,c,rfl,h1,h3⟩:=parR.openH hr;exact⟨A,c,h1,h3,(hc 0 _ rfl).now,(hc 1 _ rfl).now,(hc 2 _ rfl).now,(hc 3 _ rfl).now,(hc 4 _ rfl).now,(hc 5 _ rfl).now⟩
structure Meth where
 id:Int
 lib:ByteArray
 pars:List Par
 result:Ty
def metR(x:Meth)(cs:List Value)(w:World):Prop:=∃A c ts,cs=[.int .i64 x.id,.string x.lib,.slice A x.pars.length c]++ts∧ts.length=5∧x.pars.length≤c∧Pars A x.pars w∧typR x.result ts w
theorem zti:Stable metR:=fun w x cs h=>by
 obtain⟨A,c,ts,e,h1,h2,h3,h4⟩:=h;exact fun w' k=>⟨A,c,ts,e,h1,h2,Slc.stable zsq h3 w' k,zky w _ _ h4 w' k⟩
theorem zue:zw1 metR:=fun x cs w h u hu=>by
 obtain⟨A,c,ts,rfl,_,_,_,h4⟩:=h;rcases List.mem_append.1 hu with hu|hu
 ·simp at hu;rcases hu with rfl|rfl|rfl<;>rfl
 ·exact zpw _ _ _ h4 u hu
abbrev Meths(A:Option Addr)(l:List Meth)(w:World):Prop:=Slc metR 8 A l w
theorem metR.openH{G:Nat→Prop}{x:Meth}{cs:List Value}{w:World}(h:Held G (metR x cs) w):
  ∃A c A2 c2,cs=[.int .i64 x.id,.string x.lib,.slice A x.pars.length c,.int .i64 x.result.kind,.string x.result.name,.int .i64 x.result.lo,.int .i64 x.result.hi,.slice A2 x.result.args.length c2]∧x.pars.length≤c∧Held G (Pars A x.pars) w∧
   x.result.args.length≤c2∧Held G (Typs A2 x.result.args) w:=by
 obtain⟨A,c,ts,e,_,h2,_,_⟩:=h.now;have hp:Held G (fun w=>Pars A x.pars w∧typR x.result ts w) w:=fun w' k=>by
  obtain⟨A',c',ts',e',_,_,h3,h4⟩:=h w' k;rw[e]at e';simp only[List.cons_append,List.nil_append,List.cons.injEq,Value.slice.injEq,true_and]at e';obtain⟨⟨rfl,_⟩,rfl⟩:=e';exact⟨h3,h4⟩
 obtain⟨A2,c2,e2,h5,h6⟩:=typR.openH (fun w' k=>(hp w' k).2);exact⟨A,c,A2,c2,by rw[e,e2];rfl,h2,fun w' k=>(hp w' k).1,h5,h6⟩
theorem Meths.atH{G:Nat→Prop}{b off:Nat}{l:List Meth}{w:World}(h:Held G (Meths (some ⟨b,off,none⟩) l) w){k:Nat}{x:Meth}(hk:l[k]? =some x):
  ∃A c A2 c2,x.pars.length≤c∧Held G (Pars A x.pars) w∧x.result.args.length≤c2∧Held G (Typs A2 x.result.args) w∧
   w.cell? ⟨b,off+k*8,none⟩=some (.int .i64 x.id)∧w.cell? ⟨b,off+k*8+1,none⟩=some (.string x.lib)∧w.cell? ⟨b,off+k*8+2,none⟩=some (.slice A x.pars.length c)∧
   w.cell? ⟨b,off+k*8+3,none⟩=some (.int .i64 x.result.kind)∧w.cell? ⟨b,off+k*8+4,none⟩=some (.string x.result.name)∧w.cell? ⟨b,off+k*8+5,none⟩=some (.int .i64 x.result.lo)∧
   w.cell? ⟨b,off+k*8+6,none⟩=some (.int .i64 x.result.hi)∧w.cell? ⟨b,off+k*8+7,none⟩=some (.slice A2 x.result.args.length c2):=by
 obtain⟨cs,_,hr,hc⟩:=Slc.atH h (by decide) hk;obtain⟨A,c,A2,c2,rfl,h1,h2,h3,h4⟩:=metR.openH hr;exact⟨A,c,A2,c2,h1,h2,h3,h4,(hc 0 _ rfl).now,(hc 1 _ rfl).now,(hc 2 _ rfl).now,(hc 3 _ rfl).now,(hc 4 _ rfl).now,(hc 5 _ rfl).now,(hc 6 _ rfl).now,(hc 7 _ rfl).now⟩
theorem getElem?_lt{α:Type}{l:List α}{k:Nat}(h:k<l.length):l[k]? =some l[k]:=Qbz h
theorem zfv(A B:Option Addr)(c d:Nat)(l m:List ByteArray)(w:World)(hA:Strs A l w)(hB:Strs B m w)(hl:l.length≤9223372036854775807)(hm:m.length≤9223372036854775807):
  Calls Tryz.prog 111 #[.slice A l.length c,.slice B m.length d] w fun e w'=>e=.returned (.bool (decide (l=m)))∧Drw w w':=by
 by_cases hlen:l.length=m.length
 ·have t1:((l.length:Int)==(m.length:Int))=true:=beq_iff_eq.2 (by omega);have t2:((l.length:Int) != (m.length:Int))=false:=bne_eq_false_iff_eq.2 (by omega);have HL:=Qaz hlen;clear hlen;go_enter Tryz.func111,Tryz.ntmps111;go_wp2
  go_loopw [13] (fun i wr=>∃k:Nat,k≤l.length∧i=.int .i64 k∧l.take k=m.take k∧Drw w wr) (fun i _=>l.length-(intOf i).toNat)
  case atStart=>exact⟨0,Qjz _,rfl,by simp,Drw.refl _⟩
  case round=>
   obtain⟨k,hk,rfl,heq,hd⟩:=hrel;obtain⟨n,rfl⟩:=hd;have HE:=Qaz heq;clear heq;by_cases hlt:k<l.length
   ·have hm':k<m.length:=by have:=HL.out;omega
    obtain⟨b,off,rfl⟩:=hA.addr (by omega);obtain⟨b',off',rfl⟩:=hB.addr (by omega);have h1:=Strs.at hA (getElem?_lt hlt);have h2:=Strs.at hB (getElem?_lt hm');by_cases hx:l[k]=m[k]
    ·have HX:=Qaz hx;rw[hx]at h1;clear hx;go_wp2
     go_quiet (fail)
     go_wp2;go_roundw
     case rel=>
      refine⟨k+1,by omega,by go_num,?_,Drw.of _ _⟩;rw[List.take_add_one,List.take_add_one,HE.out,getElem?_lt hlt,getElem?_lt hm',HX.out]
     case measure=>simp[intOf];omega
    ·have hne:l≠m:=by
      intro e;subst e;exact hx rfl
     have HX:=Qaz hne;clear hne;generalize l[k]=x at*;generalize m[k]=y at*;go_wp2
     go_quiet (fail)
     go_wp2;go_ret;exact⟨zge (Qgz HX.out).symm,(Drw.of _ _).drewN _⟩
   ·obtain rfl:k=l.length:=by omega
    have:l=m:=by have h:=HE.out;rw[List.take_length]at h;rw[h];exact List.take_of_length_le (by rw[HL.out];exact Qiz _)
    have HM:=Qaz this;clear this;go_wp2;go_ret;exact⟨zge (Qhz HM.out).symm,⟨n,rfl⟩⟩
 ·have t1:((l.length:Int)==(m.length:Int))=false:=Qfz (by omega);have t2:((l.length:Int) != (m.length:Int))=true:=by rw[bne_iff_ne];omega
  have HL:Hid (l≠m):=Qaz (fun e=>hlen (by rw[e]));clear hlen;go_enter Tryz.func111,Tryz.ntmps111;go_wp2;go_ret;exact⟨zge (Qgz HL.out).symm,Drw.refl _⟩
def idx(l:List ByteArray)(x:ByteArray):Int:=match l.findIdx? (fun y=>decide (y=x))with|some i=>i|none=> -1
theorem zi4(A:Option Addr)(c:Nat)(l:List ByteArray)(x:ByteArray)(w:World)(hA:Strs A l w)(hl:l.length≤9223372036854775807):
  Calls Tryz.prog 94 #[.slice A l.length c,.string x] w fun e w'=>e=.returned (.int .i64 (idx l x))∧w=w':=by
 go_enter Tryz.func94,Tryz.ntmps94;go_wp2
 go_loop [8] (fun i=>∃k:Nat,k≤l.length∧i=.int .i64 k∧∀j y,j<k→l[j]? =some y→y≠x) (fun i=>l.length-(intOf i).toNat)
 case atStart=>exact⟨0,Qjz _,rfl,fun j y h=>absurd h (by omega)⟩
 case round=>
  obtain⟨k,hk,rfl,heq⟩:=hrel;have HE:=Qaz heq;clear heq;by_cases hlt:k<l.length
  ·obtain⟨b,off,rfl⟩:=hA.addr (by omega);have h1:=Strs.at hA (getElem?_lt hlt);have HX:=Qaz (getElem?_lt hlt);generalize l[k]=y at*;by_cases hx:x=y
   ·subst hx;have HI:Hid (idx l x=(k:Int)):=Qaz (by
     unfold idx;have:l.findIdx? (fun y=>decide (y=x))=some k:=by
      rw[List.findIdx?_eq_some_iff_getElem];refine⟨hlt,?_,fun j hj=> ?_⟩
      ·have:=HX.out;rw[getElem?_lt hlt]at this;simpa using this
      ·have:=HE.out j _ hj (getElem?_lt (by omega));simpa using this
     rw[this])
    go_wp2;go_ret;exact⟨zzo HI.out.symm,rfl⟩
   ·go_wp2
    go_round
    case rel=>
     refine⟨k+1,by omega,by go_num,fun j z hj hz=> ?_⟩;rcases Nat.lt_or_ge j k with h|h
     ·exact HE.out j z h hz
     ·obtain rfl:j=k:=by omega
      rw[HX.out]at hz;simp only[Option.some.injEq]at hz;subst hz;exact fun e=>hx e.symm
    case measure=>simp[intOf];omega
  ·have HI:Hid (idx l x= -1):=Qaz (by
    unfold idx;have:l.findIdx? (fun y=>decide (y=x))=none:=by
     rw[List.findIdx?_eq_none_iff];intro y hy;obtain⟨j,hj,rfl⟩:=List.getElem_of_mem hy
     simpa using HE.out j _ (by omega) (getElem?_lt hj)
    rw[this])
   go_wp2;go_ret;exact⟨zzo HI.out.symm,rfl⟩
theorem zuy(l:List ByteArray)(x:ByteArray):decide (0≤idx l x)=hasS l x:=by
 unfold idx;cases h:l.findIdx? (fun y=>decide (y=x))with
 |none=>
  rw[List.findIdx?_eq_none_iff]at h;have:x∉l:=fun hm=>by simpa using h x hm
  rw[zbl.2 this];rfl
 |some i=>
  rw[List.findIdx?_eq_some_iff_getElem]at h;obtain⟨hi,hx,_⟩:=h;have:x∈l:=by simp at hx;rw[←hx];exact List.getElem_mem hi
  rw[zb8.2 this];simp
theorem zcl(A:Option Addr)(c:Nat)(l:List ByteArray)(x:ByteArray)(w:World)(hA:Strs A l w)(hl:l.length≤9223372036854775807):
  Calls Tryz.prog 175 #[.slice A l.length c,.string x] w fun e w'=>e=.returned (.bool (hasS l x))∧w=w':=by
 go_enter Tryz.func175,Tryz.ntmps175;have HI:=Qaz (zuy l x);go_wp2_with (go_at_call 94;refine(zi4 A c l x _ hA hl).mono ?_;rintro e w' ⟨rfl,rfl⟩);go_ret;exact⟨zge HI.out,rfl⟩
theorem zry(A:Option Addr)(n c:Nat)(l:List ByteArray)(x:ByteArray)(w:World)(hA:Strs A l w)(hn:n=l.length)(hl:l.length≤9223372036854775807):
  Calls Tryz.prog 175 #[.slice A n c,.string x] w fun e w'=>e=.returned (.bool (hasS l x))∧w=w':=by
 subst hn;exact zcl A c l x w hA hl
theorem zww:(Tryz.prog.info? 186).map (fun i=>(i.zero,i.size,i.bytes))=some (some (.agg #[.string ⟨#[]⟩,.slice none 0 0]),2,40):=by kernel_rfl
theorem zll(A:Option Addr)(c:Nat)(l:List CI)(w:World)(h:CIs A l w)(hl:l.length≤1000):
  Calls Tryz.prog 108 #[.slice A l.length c] w fun e w'=>∃A' c',e=.returned (.slice A' l.length c')∧l.length≤c'∧Held (fun _=>True) (Heirs A' (zav l)) w'∧Below w.heap.size w w':=by
 have H:=(Slc.stable zd0 h).here;go_enter Tryz.func108,Tryz.ntmps108;go_wp2
 go_loopw [3,8] (fun v i wr=>∃k:Nat,k≤l.length∧i=.int .i64 k∧Own heirR 186 2 w.heap.size (· <w.heap.size) v (zav (l.take k)) wr∧Below w.heap.size w wr) (fun _ i _=>l.length-(intOf i).toNat)
 case atStart=>exact⟨0,Qjz _,rfl,Own.nil _ _ _ _ _ _,Below.refl _ _⟩
 case round=>
  obtain⟨k,hk,rfl,hown,hb⟩:=hrel;by_cases hlt:k<l.length
  ·have hx:=Qbz hlt;generalize l[k]=x at hx;have HX:=Qaz hx;clear hx;obtain⟨b,off,rfl⟩:=h.addr (by omega);obtain⟨A2,c2,A3,c3,s2,s3,S2,S3,h1,h2,h3,h4,h5,h6⟩:=CIs.atH (H.below hb) HX.out;go_wp2_with (at_builtin;refine zao heirR 186 2 w.heap.size 40 (· <w.heap.size) _ rfl _ _ 146 _ rfl Tryz.underlying146 zww rfl (by decide) (by decide) _ (zav (l.take k)) rfl ?own ⟨_,0,none⟩ 1 rfl x.heir [.string x.name,.slice A2 x.supers.length c2] rfl ?cells ?one ?held ?hG ?base ?len ?_)
   case own=>exact(hown.alloc _).alloc _
   case cells=>exact zaq _ _ _ _ (by simp)
   case one=>simp[Value.oneCell']
   case held=>
    have S2:=heirR.mk (x:=x.heir) s2 S2;exact(S2.keep (Keep.alloc _ _ _)).keep (Keep.alloc _ _ _)
   case hG=>intro b' hb' e;exact absurd (hown.lt _ e).1 (by omega)
   case base=>have:=hb.size;simp;omega
   case len=>simp[zav];omega
   intro v' w1 hown1 hg1 _;go_wp2;go_roundw
   case rel=>
    refine⟨k+1,by omega,by go_num,?_,?_⟩
    ·have e:zav (l.take (k+1))=zav (l.take k)++[x.heir]:=by rw[List.take_add_one,HX.out];simp[zav]
     rw[e];exact hown1
    ·exact((hb.alloc hb.size _).alloc (by have:=hb.size;simp;omega) _).grown hg1 (by have:=hb.size;simp;omega) fun k' e=>(hown.lt _ e).1
   case measure=>simp[intOf];omega
  ·go_wp2;obtain rfl:k=l.length:=by omega
   rw[List.take_length]at hown;obtain⟨A',c',rfl,hc',S⟩:=hown.out;go_ret;refine⟨A',c',by simp[zav],by simpa[zav]using hc',S.mono fun _ _ _=>trivial,hb⟩
def Asked(J K:Nat→World→Prop)(X:Ending→World→Prop)(i:Nat)(e:Ending)(w:World):Prop:=(e=.returned (.bool false)∧J (i+1) w)∨(e=.returned (.bool true)∧K i w)∨X e w
def Found(J K:Nat→World→Prop)(X:Ending→World→Prop)(n:Nat)(e:Ending)(w:World):Prop:=(e=.returned (.int .i64 (-1))∧J n w)∨(∃i,i<n∧e=.returned (.int .i64 i)∧K i w)∨X e w
def zlz(J K:Nat→World→Prop)(X:Ending→World→Prop)(n:Nat)(e:Ending)(w:World):Prop:=(e=.returned (.bool false)∧J n w)∨(∃i,i<n∧e=.returned (.bool true)∧K i w)∨X e w
def Panics(X:List PanicEntry→World→Prop)(e:Ending)(w:World):Prop:=∃ch,e=.panicked ch∧X ch w
theorem zrr(A:Option Addr)(n c:Nat)(fid:Nat)(cap:Array Value)(v0:Nat→Value)(w:World)(hn:n≤9223372036854775807)(hfn:∀args w,(callFunc fid args).run Tryz.prog w=.ok (.enter fid args) w)
  (J K:Nat→World→Prop) (X:List PanicEntry→World→Prop) (h0:J 0 w) (hA:0<n→∃b off,A=some ⟨b,off,none⟩) (hcell:∀i wr b off,A=some ⟨b,off,none⟩→i<n→J i wr→wr.cell? ⟨b,off+i,none⟩=some (v0 i))
  (hask:∀i wr,i<n→J i wr→Calls Tryz.prog fid (#[(v0 i)]++cap) wr (Asked J K (Panics X) i)):
  Calls Tryz.prog 190 #[.slice A n c,.func (.func fid) #[] cap] w (Found J K (Panics X) n):=by
 go_enter Tryz.func190,Tryz.ntmps190;go_wp2
 go_loopw [8] (fun i wr=>∃k:Nat,k≤n∧i=.int .i64 k∧J k wr) (fun i _=>n-(intOf i).toNat)
 case atStart=>exact⟨0,Qjz _,rfl,h0⟩
 case round=>
  obtain⟨k,hk,rfl,hJ⟩:=hrel;have hfn':=hfn;by_cases hlt:k<n
  ·obtain⟨b,off,rfl⟩:=hA (by omega);have hg:=hcell k wr b off rfl hlt hJ;have ha:=hask k wr hlt hJ;obtain g0:=hg;have HA:=Qaz ha;clear ha hask hcell;go_wp2_with (fail);refine HA.out.mono ?_;rintro e w' (⟨rfl,hJ'⟩|⟨rfl,hK'⟩|⟨ch,rfl,hX⟩)
   ·go_wp2;go_roundw
    case rel=>exact⟨k+1,by omega,by go_num,hJ'⟩
    case measure=>simp[intOf];omega
   ·go_wp2;go_ret;exact .inr (.inl ⟨k,hlt,rfl,hK'⟩)
   ·exact⟨rfl,.inr (.inr ⟨ch,rfl,hX⟩)⟩
  ·obtain rfl:k=n:=by omega
   clear hask hcell hfn;go_wp2;go_ret;exact .inl ⟨rfl,hJ⟩
theorem zgg(A:Option Addr)(n c:Nat)(fid:Nat)(cap:Array Value)(v0:Nat→Value)(w:World)(hn:n≤9223372036854775807)(hfn:∀args w,(callFunc fid args).run Tryz.prog w=.ok (.enter fid args) w)
  (J K:Nat→World→Prop) (X:List PanicEntry→World→Prop) (h0:J 0 w) (hA:0<n→∃b off,A=some ⟨b,off,none⟩) (hcell:∀i wr b off,A=some ⟨b,off,none⟩→i<n→J i wr→wr.cell? ⟨b,off+i,none⟩=some (v0 i))
  (hask:∀i wr,i<n→J i wr→Calls Tryz.prog fid (#[(v0 i)]++cap) wr (Asked J K (Panics X) i)):
  Calls Tryz.prog 155 #[.slice A n c,.func (.func fid) #[] cap] w (zlz J K (Panics X) n):=by
 have HI:=Qaz (zrr A n c fid cap v0 w hn hfn J K X h0 hA hcell hask);clear hfn h0 hA hcell hask;go_enter Tryz.func155,Tryz.ntmps155;go_wp2_with (fail);refine HI.out.mono ?_;rintro e w' (⟨rfl,hJ'⟩|⟨i,hi,rfl,hK'⟩|⟨ch,rfl,hX⟩)
 ·go_wp2;go_ret;exact .inl ⟨rfl,hJ'⟩
 ·go_wp2;go_ret;exact .inr (.inl ⟨i,hi,by first|rfl|(simp;done)|(simp;omega),hK'⟩)
 ·exact⟨rfl,.inr (.inr ⟨ch,rfl,hX⟩)⟩
theorem zql(A:Option Addr)(n c:Nat)(fid:Nat)(cap:Array Value)(v0:Nat→Value)(w:World)(hn:n≤9223372036854775807)(hfn:∀args w,(callFunc fid args).run Tryz.prog w=.ok (.enter fid args) w)
  (J K:Nat→World→Prop) (X:List PanicEntry→World→Prop) (h0:J 0 w) (hA:0<n→∃b off,A=some ⟨b,off,none⟩) (hcell:∀i wr b off,A=some ⟨b,off,none⟩→i<n→J i wr→wr.cell? ⟨b,off+i,none⟩=some (v0 i))
  (hask:∀i wr,i<n→J i wr→Calls Tryz.prog fid (#[(v0 i)]++cap) wr (Asked J K (Panics X) i)):
  Calls Tryz.prog 231 #[.slice A n c,.func (.func fid) #[] cap] w (Found J K (Panics X) n):=by
 go_enter Tryz.func231,Tryz.ntmps231;go_wp2
 go_loopw [8] (fun i wr=>∃k:Nat,k≤n∧i=.int .i64 k∧J k wr) (fun i _=>n-(intOf i).toNat)
 case atStart=>exact⟨0,Qjz _,rfl,h0⟩
 case round=>
  obtain⟨k,hk,rfl,hJ⟩:=hrel;have hfn':=hfn;by_cases hlt:k<n
  ·obtain⟨b,off,rfl⟩:=hA (by omega);have hg:=hcell k wr b off rfl hlt hJ;have ha:=hask k wr hlt hJ;obtain g0:=hg;have HA:=Qaz ha;clear ha hask hcell;go_wp2_with (fail);refine HA.out.mono ?_;rintro e w' (⟨rfl,hJ'⟩|⟨rfl,hK'⟩|⟨ch,rfl,hX⟩)
   ·go_wp2;go_roundw
    case rel=>exact⟨k+1,by omega,by go_num,hJ'⟩
    case measure=>simp[intOf];omega
   ·go_wp2;go_ret;exact .inr (.inl ⟨k,hlt,rfl,hK'⟩)
   ·exact⟨rfl,.inr (.inr ⟨ch,rfl,hX⟩)⟩
  ·obtain rfl:k=n:=by omega
   clear hask hcell hfn;go_wp2;go_ret;exact .inl ⟨rfl,hJ⟩
theorem zml(A:Option Addr)(n c:Nat)(fid:Nat)(cap:Array Value)(v0:Nat→Value)(w:World)(hn:n≤9223372036854775807)(hfn:∀args w,(callFunc fid args).run Tryz.prog w=.ok (.enter fid args) w)
  (J K:Nat→World→Prop) (X:List PanicEntry→World→Prop) (h0:J 0 w) (hA:0<n→∃b off,A=some ⟨b,off,none⟩) (hcell:∀i wr b off,A=some ⟨b,off,none⟩→i<n→J i wr→wr.cell? ⟨b,off+i,none⟩=some (v0 i))
  (hask:∀i wr,i<n→J i wr→Calls Tryz.prog fid (#[(v0 i)]++cap) wr (Asked J K (Panics X) i)):
  Calls Tryz.prog 214 #[.slice A n c,.func (.func fid) #[] cap] w (zlz J K (Panics X) n):=by
 have HI:=Qaz (zql A n c fid cap v0 w hn hfn J K X h0 hA hcell hask);clear hfn h0 hA hcell hask;go_enter Tryz.func214,Tryz.ntmps214;go_wp2_with (fail);refine HI.out.mono ?_;rintro e w' (⟨rfl,hJ'⟩|⟨i,hi,rfl,hK'⟩|⟨ch,rfl,hX⟩)
 ·go_wp2;go_ret;exact .inl ⟨rfl,hJ'⟩
 ·go_wp2;go_ret;exact .inr (.inl ⟨i,hi,by first|rfl|(simp;done)|(simp;omega),hK'⟩)
 ·exact⟨rfl,.inr (.inr ⟨ch,rfl,hX⟩)⟩
theorem zj9(A:Option Addr)(n c:Nat)(fid:Nat)(cap:Array Value)(v0 v1 v2 v3 v4 v5:Nat→Value)(w:World)(hn:n≤9223372036854775807)(hfn:∀args w,(callFunc fid args).run Tryz.prog w=.ok (.enter fid args) w)
  (J K:Nat→World→Prop) (X:List PanicEntry→World→Prop) (h0:J 0 w) (hA:0<n→∃b off,A=some ⟨b,off,none⟩) (hcell:∀i wr b off,A=some ⟨b,off,none⟩→i<n→J i wr→wr.cell? ⟨b,off+i*6,none⟩=some (v0 i)∧wr.cell? ⟨b,off+i*6+1,none⟩=some (v1 i)∧wr.cell? ⟨b,off+i*6+2,none⟩=some (v2 i)∧wr.cell? ⟨b,off+i*6+3,none⟩=some (v3 i)∧wr.cell? ⟨b,off+i*6+4,none⟩=some (v4 i)∧wr.cell? ⟨b,off+i*6+5,none⟩=some (v5 i))
  (hask:∀i wr,i<n→J i wr→Calls Tryz.prog fid (#[(.agg #[v0 i,v1 i,v2 i,v3 i,v4 i,v5 i])]++cap) wr (Asked J K (Panics X) i)):
  Calls Tryz.prog 91 #[.slice A n c,.func (.func fid) #[] cap] w (Found J K (Panics X) n):=by
 go_enter Tryz.func91,Tryz.ntmps91;go_wp2
 go_loopw [8] (fun i wr=>∃k:Nat,k≤n∧i=.int .i64 k∧J k wr) (fun i _=>n-(intOf i).toNat)
 case atStart=>exact⟨0,Qjz _,rfl,h0⟩
 case round=>
  obtain⟨k,hk,rfl,hJ⟩:=hrel;have hfn':=hfn;by_cases hlt:k<n
  ·obtain⟨b,off,rfl⟩:=hA (by omega);have hg:=hcell k wr b off rfl hlt hJ;have ha:=hask k wr hlt hJ;obtain⟨g0,g1,g2,g3,g4,g5⟩:=hg;have HA:=Qaz ha;clear ha hask hcell;go_wp2_with (fail);refine HA.out.mono ?_;rintro e w' (⟨rfl,hJ'⟩|⟨rfl,hK'⟩|⟨ch,rfl,hX⟩)
   ·go_wp2;go_roundw
    case rel=>exact⟨k+1,by omega,by go_num,hJ'⟩
    case measure=>simp[intOf];omega
   ·go_wp2;go_ret;exact .inr (.inl ⟨k,hlt,rfl,hK'⟩)
   ·exact⟨rfl,.inr (.inr ⟨ch,rfl,hX⟩)⟩
  ·obtain rfl:k=n:=by omega
   clear hask hcell hfn;go_wp2;go_ret;exact .inl ⟨rfl,hJ⟩
theorem zq8(A:Option Addr)(n c:Nat)(fid:Nat)(cap:Array Value)(v0 v1 v2 v3 v4:Nat→Value)(w:World)(hn:n≤9223372036854775807)(hfn:∀args w,(callFunc fid args).run Tryz.prog w=.ok (.enter fid args) w)
  (J K:Nat→World→Prop) (X:List PanicEntry→World→Prop) (h0:J 0 w) (hA:0<n→∃b off,A=some ⟨b,off,none⟩) (hcell:∀i wr b off,A=some ⟨b,off,none⟩→i<n→J i wr→wr.cell? ⟨b,off+i*5,none⟩=some (v0 i)∧wr.cell? ⟨b,off+i*5+1,none⟩=some (v1 i)∧wr.cell? ⟨b,off+i*5+2,none⟩=some (v2 i)∧wr.cell? ⟨b,off+i*5+3,none⟩=some (v3 i)∧wr.cell? ⟨b,off+i*5+4,none⟩=some (v4 i))
  (hask:∀i wr,i<n→J i wr→Calls Tryz.prog fid (#[(.agg #[v0 i,v1 i,v2 i,v3 i,v4 i])]++cap) wr (Asked J K (Panics X) i)):
  Calls Tryz.prog 149 #[.slice A n c,.func (.func fid) #[] cap] w (Found J K (Panics X) n):=by
 go_enter Tryz.func149,Tryz.ntmps149;go_wp2
 go_loopw [8] (fun i wr=>∃k:Nat,k≤n∧i=.int .i64 k∧J k wr) (fun i _=>n-(intOf i).toNat)
 case atStart=>exact⟨0,Qjz _,rfl,h0⟩
 case round=>
  obtain⟨k,hk,rfl,hJ⟩:=hrel;have hfn':=hfn;by_cases hlt:k<n
  ·obtain⟨b,off,rfl⟩:=hA (by omega);have hg:=hcell k wr b off rfl hlt hJ;have ha:=hask k wr hlt hJ;obtain⟨g0,g1,g2,g3,g4⟩:=hg;have HA:=Qaz ha;clear ha hask hcell;go_wp2_with (fail);refine HA.out.mono ?_;rintro e w' (⟨rfl,hJ'⟩|⟨rfl,hK'⟩|⟨ch,rfl,hX⟩)
   ·go_wp2;go_roundw
    case rel=>exact⟨k+1,by omega,by go_num,hJ'⟩
    case measure=>simp[intOf];omega
   ·go_wp2;go_ret;exact .inr (.inl ⟨k,hlt,rfl,hK'⟩)
   ·exact⟨rfl,.inr (.inr ⟨ch,rfl,hX⟩)⟩
  ·obtain rfl:k=n:=by omega
   clear hask hcell hfn;go_wp2;go_ret;exact .inl ⟨rfl,hJ⟩
theorem zdp(A:Option Addr)(n c:Nat)(fid:Nat)(cap:Array Value)(v0 v1 v2 v3 v4:Nat→Value)(w:World)(hn:n≤9223372036854775807)(hfn:∀args w,(callFunc fid args).run Tryz.prog w=.ok (.enter fid args) w)
  (J K:Nat→World→Prop) (X:List PanicEntry→World→Prop) (h0:J 0 w) (hA:0<n→∃b off,A=some ⟨b,off,none⟩) (hcell:∀i wr b off,A=some ⟨b,off,none⟩→i<n→J i wr→wr.cell? ⟨b,off+i*5,none⟩=some (v0 i)∧wr.cell? ⟨b,off+i*5+1,none⟩=some (v1 i)∧wr.cell? ⟨b,off+i*5+2,none⟩=some (v2 i)∧wr.cell? ⟨b,off+i*5+3,none⟩=some (v3 i)∧wr.cell? ⟨b,off+i*5+4,none⟩=some (v4 i))
  (hask:∀i wr,i<n→J i wr→Calls Tryz.prog fid (#[(.agg #[v0 i,v1 i,v2 i,v3 i,v4 i])]++cap) wr (Asked J K (Panics X) i)):
  Calls Tryz.prog 101 #[.slice A n c,.func (.func fid) #[] cap] w (zlz J K (Panics X) n):=by
 have HI:=Qaz (zq8 A n c fid cap v0 v1 v2 v3 v4 w hn hfn J K X h0 hA hcell hask);clear hfn h0 hA hcell hask;go_enter Tryz.func101,Tryz.ntmps101;go_wp2_with (fail);refine HI.out.mono ?_;rintro e w' (⟨rfl,hJ'⟩|⟨i,hi,rfl,hK'⟩|⟨ch,rfl,hX⟩)
 ·go_wp2;go_ret;exact .inl ⟨rfl,hJ'⟩
 ·go_wp2;go_ret;exact .inr (.inl ⟨i,hi,by first|rfl|(simp;done)|(simp;omega),hK'⟩)
 ·exact⟨rfl,.inr (.inr ⟨ch,rfl,hX⟩)⟩
theorem zvp(x y:CI)(A2 A3 B2 B3:Option Addr)(c2 c3 d2 d3:Nat)(w:World)(hA2:Strs A2 x.supers w)(hA3:Strs A3 x.cpl w)(hB2:Strs B2 y.supers w)(hB3:Strs B3 y.cpl w)
  (l2:x.supers.length≤9223372036854775807) (l3:x.cpl.length≤9223372036854775807) (m2:y.supers.length≤9223372036854775807) (m3:y.cpl.length≤9223372036854775807):
  Calls Tryz.prog 105 #[.agg #[.string x.name,.string x.lib,.slice A2 x.supers.length c2,.slice A3 x.cpl.length c3,.bool x.abs,.bool x.seal_],.agg #[.string y.name,.string y.lib,.slice B2 y.supers.length d2,.slice B3 y.cpl.length d3,.bool y.abs,.bool y.seal_]] w
   fun e w'=>e=.returned (.bool (decide (x=y)))∧Below w.heap.size w w':=by
 have k2:=fun W (h:Below w.heap.size w W)=>zfv A2 B2 c2 d2 x.supers y.supers W (Slc.stable zbh hA2 W (Keep.all h)) (Slc.stable zbh hB2 W (Keep.all h)) l2 m2;have k3:=fun W (h:Below w.heap.size w W)=>zfv A3 B3 c3 d3 x.cpl y.cpl W (Slc.stable zbh hA3 W (Keep.all h)) (Slc.stable zbh hB3 W (Keep.all h)) l3 m3;clear hA2 hA3 hB2 hB3 l2 l3 m2 m3;obtain⟨xn,xl,xs,xc,xa,xe⟩:=x;obtain⟨yn,yl,ys,yc,ya,ye⟩:=y;simp only[CI.mk.injEq]at*;have hB:∀o1 o2:Obj,Below w.heap.size w ((w.alloc o1).alloc o2):=fun o1 o2=>((Below.refl _ w).alloc (Qiz _) _).alloc (by simp) _;have HK:=Qaz k2;have HK3:=Qaz k3;clear k2 k3
 by_cases h1:xn=yn
 ·by_cases h2:xl=yl
  ·by_cases h3:xs=ys
   ·by_cases h4:xc=yc
    ·subst h1 h2 h3 h4;go_enter Tryz.func105,Tryz.ntmps105;go_wp2_with (fail);refine(HK.out _ ?hb).mono ?_
     case hb=>exact hB _ _
     rintro e w' ⟨rfl,n,rfl⟩;go_wp2_with (fail);refine(HK3.out _ ?hb).mono ?_
     case hb=>exact(hB _ _).trans (zad _ _ _)
     rintro e w' ⟨rfl,n',rfl⟩;cases xa<;>cases ya<;>cases xe<;>cases ye<;>(go_wp2;go_ret;exact⟨zge (by simp),(hB _ _).trans (by first|exact zad _ _ _|exact(zad _ _ _).trans (zad _ _ _))⟩)
    ·subst h1 h2 h3;go_enter Tryz.func105,Tryz.ntmps105;go_wp2_with (fail);refine(HK.out _ ?hb).mono ?_
     case hb=>exact hB _ _
     rintro e w' ⟨rfl,n,rfl⟩;go_wp2_with (fail);refine(HK3.out _ ?hb).mono ?_
     case hb=>exact(hB _ _).trans (zad _ _ _)
     rintro e w' ⟨rfl,n',rfl⟩;go_wp2;go_ret;exact⟨zge (by simp[h4]),(hB _ _).trans (by first|exact zad _ _ _|exact(zad _ _ _).trans (zad _ _ _))⟩
   ·subst h1 h2;go_enter Tryz.func105,Tryz.ntmps105;go_wp2_with (fail);refine(HK.out _ ?hb).mono ?_
    case hb=>exact hB _ _
    rintro e w' ⟨rfl,n,rfl⟩;go_wp2;go_ret;exact⟨zge (by simp[h3]),(hB _ _).trans (zad _ _ _)⟩
  ·subst h1;go_enter Tryz.func105,Tryz.ntmps105;go_wp2;go_ret;exact⟨zge (by simp[h2]),hB _ _⟩
 ·go_enter Tryz.func105,Tryz.ntmps105;go_wp2;go_ret;exact⟨zge (by simp[h1]),hB _ _⟩
def zdo(x:CI):Prop:=x.supers.length≤9223372036854775807∧x.cpl.length≤9223372036854775807
theorem ztf{α:Type}{l m:List α}{k:Nat}{x y:α}(hx:l[k]? =some x)(hy:m[k]? =some y)(h:x≠y):l≠m:=fun e=>by subst e;rw[hx]at hy;exact h (Option.some.inj hy)
theorem zmi(A B:Option Addr)(c d:Nat)(l m:List CI)(w:World)(hA:CIs A l w)(hB:CIs B m w)(hl:l.length≤9223372036854775807)(hm:m.length≤9223372036854775807)(ol:∀x∈l,zdo x)(om:∀x∈m,zdo x):
  Calls Tryz.prog 104 #[.slice A l.length c,.slice B m.length d,.func (.func 105) #[] #[]] w
   fun e w'=>e=.returned (.bool (decide (l=m)))∧Below w.heap.size w w':=by
 have GA:=(Slc.stable zd0 hA).here;have GB:=(Slc.stable zd0 hB).here;by_cases hlen:l.length=m.length
 ·have t1:((l.length:Int)==(m.length:Int))=true:=beq_iff_eq.2 (by omega);have t2:((l.length:Int) != (m.length:Int))=false:=bne_eq_false_iff_eq.2 (by omega);have HL:=Qaz hlen;clear hlen;go_enter Tryz.func104,Tryz.ntmps104;go_wp2
  go_loopw [17] (fun i wr=>∃k:Nat,k≤l.length∧i=.int .i64 k∧l.take k=m.take k∧Below w.heap.size w wr) (fun i _=>l.length-(intOf i).toNat)
  case atStart=>exact⟨0,Qjz _,rfl,by simp,Below.refl _ _⟩
  case round=>
   obtain⟨k,hk,rfl,heq,hb⟩:=hrel;have HE:=Qaz heq;clear heq;by_cases hlt:k<l.length
   ·have hm':k<m.length:=by have:=HL.out;omega
    obtain⟨b,off,rfl⟩:=hA.addr (by omega);obtain⟨b',off',rfl⟩:=hB.addr (by omega);have HX:=Qaz (getElem?_lt hlt);have HY:=Qaz (getElem?_lt hm');have ox:=ol _ (List.getElem_mem hlt);have oy:=om _ (List.getElem_mem hm');generalize l[k]=x at*;generalize m[k]=y at*;have OX:=Qaz ox;have OY:=Qaz oy;clear ox oy ol om;obtain⟨A2,c2,A3,c3,s2,s3,S2,S3,g0,g1,g2,g3,g4,g5⟩:=CIs.atH (GA.below hb) HX.out;obtain⟨B2,d2,B3,d3,r2,r3,R2,R3,h0,h1,h2,h3,h4,h5⟩:=CIs.atH (GB.below hb) HY.out;have hbl:=cell_lt g0;have hbl':=cell_lt h0
    have k1:=fun W (h:Below wr.heap.size wr W)=>zvp x y A2 A3 B2 B3 c2 c3 d2 d3 W (S2.all h).now (S3.all h).now (R2.all h).now (R3.all h).now OX.out.1 OX.out.2 OY.out.1 OY.out.2;have HK:=Qaz k1;clear k1 S2 S3 R2 R3;go_wp2_with (fail);refine(HK.out _ ?hb).mono ?_
    case hb=>exact((Below.refl _ wr).alloc (Qiz _) _).alloc (by simp) _
    rintro e w' ⟨rfl,hb'⟩;have hb2:Below w.heap.size w w':=hb.trans ((((Below.refl _ wr).alloc (Qiz _) _).alloc (by simp) _).mono hb.size |>.trans (hb'.mono (by have:=hb.size;simp;omega)));clear hb';by_cases hx:x=y
    ·have HX':=Qaz hx;clear hx;have t3:decide (x=y)=true:=Qhz HX'.out;go_wp2;go_roundw
     case rel=>exact⟨k+1,by omega,by go_num,by rw[take_snoc HX.out,take_snoc HY.out,HE.out,HX'.out],hb2⟩
     case measure=>simp[intOf];omega
    ·have hne:=Qaz (ztf HX.out HY.out hx);go_wp2;go_ret;exact⟨zge (Qgz hne.out).symm,hb2⟩
   ·obtain rfl:k=l.length:=by omega
    have:l=m:=by have h:=HE.out;rw[List.take_length]at h;rw[h];exact List.take_of_length_le (by rw[HL.out];exact Qiz _)
    have HM:=Qaz this;clear this;go_wp2;go_ret;exact⟨zge (Qhz HM.out).symm,hb⟩
 ·have t1:((l.length:Int)==(m.length:Int))=false:=Qfz (by omega);have t2:((l.length:Int) != (m.length:Int))=true:=by rw[bne_iff_ne];omega
  have HL:Hid (l≠m):=Qaz (fun e=>hlen (by rw[e]));clear hlen;go_enter Tryz.func104,Tryz.ntmps104;go_wp2;go_ret;exact⟨zge (Qgz HL.out).symm,Below.refl _ _⟩
theorem ztz(x:CI)(y:List ByteArray)(A2 A3 B:Option Addr)(c2 c3 d:Nat)(w:World)(hA3:Strs A3 x.cpl w)(hB:Strs B y w)(l3:x.cpl.length≤9223372036854775807)(m3:y.length≤9223372036854775807):
  Calls Tryz.prog 110 #[.agg #[.string x.name,.string x.lib,.slice A2 x.supers.length c2,.slice A3 x.cpl.length c3,.bool x.abs,.bool x.seal_],.slice B y.length d] w
   fun e w'=>e=.returned (.bool (decide (x.cpl=y)))∧Below w.heap.size w w':=by
 have k3:=fun W (h:Below w.heap.size w W)=>zfv A3 B c3 d x.cpl y W (Slc.stable zbh hA3 W (Keep.all h)) (Slc.stable zbh hB W (Keep.all h)) l3 m3;have HK:=Qaz k3;clear k3 hA3 hB;have hB:∀o1:Obj,Below w.heap.size w (w.alloc o1):=fun o1=>(Below.refl _ w).alloc (Qiz _) _;go_enter Tryz.func110,Tryz.ntmps110;go_wp2_with (fail);refine(HK.out _ ?hb).mono ?_
 case hb=>exact hB _
 rintro e w' ⟨rfl,n,rfl⟩;go_wp2;go_ret;exact⟨rfl,(hB _).trans (zad _ _ _)⟩
theorem zmu(A B:Option Addr)(c d:Nat)(l:List CI)(m:List (List ByteArray))(w:World)(hA:CIs A l w)(hB:Lsts B m w)(hl:l.length≤9223372036854775807)(hm:m.length≤9223372036854775807)(ol:∀x∈l,zdo x)(om:∀x∈m,x.length≤9223372036854775807):
  Calls Tryz.prog 109 #[.slice A l.length c,.slice B m.length d,.func (.func 110) #[] #[]] w
   fun e w'=>e=.returned (.bool (decide (l.map CI.cpl=m)))∧Below w.heap.size w w':=by
 have GA:=(Slc.stable zd0 hA).here;have GB:=(Slc.stable zfs hB).here;by_cases hlen:l.length=m.length
 ·have t1:((l.length:Int)==(m.length:Int))=true:=beq_iff_eq.2 (by omega);have t2:((l.length:Int) != (m.length:Int))=false:=bne_eq_false_iff_eq.2 (by omega);have HL:=Qaz hlen;clear hlen;go_enter Tryz.func109,Tryz.ntmps109;go_wp2
  go_loopw [17] (fun i wr=>∃k:Nat,k≤l.length∧i=.int .i64 k∧(l.take k).map CI.cpl=m.take k∧Below w.heap.size w wr) (fun i _=>l.length-(intOf i).toNat)
  case atStart=>exact⟨0,Qjz _,rfl,by simp,Below.refl _ _⟩
  case round=>
   obtain⟨k,hk,rfl,heq,hb⟩:=hrel;have HE:=Qaz heq;clear heq;by_cases hlt:k<l.length
   ·have hm':k<m.length:=by have:=HL.out;omega
    obtain⟨b,off,rfl⟩:=hA.addr (by omega);obtain⟨b',off',rfl⟩:=hB.addr (by omega);have HX:=Qaz (getElem?_lt hlt);have HY:=Qaz (getElem?_lt hm');have ox:=ol _ (List.getElem_mem hlt);have oy:=om _ (List.getElem_mem hm');generalize l[k]=x at*;generalize m[k]=y at*;have OX:=Qaz ox;have OY:=Qaz oy;clear ox oy ol om;obtain⟨A2,c2,A3,c3,s2,s3,S2,S3,g0,g1,g2,g3,g4,g5⟩:=CIs.atH (GA.below hb) HX.out;obtain⟨B2,d2,r2,R2,h0⟩:=Lsts.atH (GB.below hb) HY.out;have hbl:=cell_lt g0;have hbl':=cell_lt h0
    have k1:=fun W (h:Below wr.heap.size wr W)=>ztz x y A2 A3 B2 c2 c3 d2 W (S3.all h).now (R2.all h).now OX.out.2 OY.out;have HK:=Qaz k1;clear k1 S2 S3 R2;go_wp2_with (fail);refine(HK.out _ ?hb).mono ?_
    case hb=>exact(Below.refl _ wr).alloc (Qiz _) _
    rintro e w' ⟨rfl,hb'⟩;have hb2:Below w.heap.size w w':=hb.trans (((Below.refl _ wr).alloc (Qiz _) _).mono hb.size |>.trans (hb'.mono (by have:=hb.size;simp;omega)));clear hb';by_cases hx:x.cpl=y
    ·have HX':=Qaz hx;clear hx;have t3:decide (x.cpl=y)=true:=Qhz HX'.out;go_wp2;go_roundw
     case rel=>exact⟨k+1,by omega,by go_num,by rw[take_snoc HX.out,take_snoc HY.out,List.map_append,HE.out,←HX'.out];rfl,hb2⟩
     case measure=>simp[intOf];omega
    ·have hne:=Qaz (ztf (l:=l.map CI.cpl) (by rw[List.getElem?_map,HX.out];rfl) HY.out hx);go_wp2;go_ret;exact⟨zge (Qgz hne.out).symm,hb2⟩
   ·obtain rfl:k=l.length:=by omega
    have:l.map CI.cpl=m:=by have h:=HE.out;rw[List.take_length]at h;rw[h];exact List.take_of_length_le (by rw[HL.out];exact Qiz _)
    have HM:=Qaz this;clear this;go_wp2;go_ret;exact⟨zge (Qhz HM.out).symm,hb⟩
 ·have t1:((l.length:Int)==(m.length:Int))=false:=Qfz (by omega);have t2:((l.length:Int) != (m.length:Int))=true:=by rw[bne_iff_ne];omega
  have HL:Hid (l.map CI.cpl≠m):=Qaz (fun e=>hlen (by rw[←e];simp));clear hlen;go_enter Tryz.func109,Tryz.ntmps109;go_wp2;go_ret;exact⟨zge (Qgz HL.out).symm,Below.refl _ _⟩
end Go.Proofs.YtepnmejahbiacaaGreat
