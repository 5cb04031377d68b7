/- Part 5 of the proof: Cm, Vi. -/
import Derived.Test.YtepnmejahbiacaaGreatM04
set_option linter.unusedVariables false
set_option linter.unusedSimpArgs false
set_option maxHeartbeats 64000000
set_option maxRecDepth 100000
namespace Go.Proofs.YtepnmejahbiacaaGreat
open Go.RowKit
def znp(a b:Int):Int:=if a<b then -1 else if b<a then 1 else 0
theorem zt2(a:Int)(w:World):Calls Tryz.prog 137 #[.int .i64 a] w fun e w'=>e=.returned (.bool false)∧w'=w:=by
 have t1:(a != a)=false:=bne_self_eq_false a;go_enter Tryz.func137,Tryz.ntmps137;go_wp2;go_ret;exact⟨by first|rfl|simp,rfl⟩
theorem ziy(a b:Int)(w:World):Calls Tryz.prog 93 #[.int .i64 a,.int .i64 b] w fun e w'=>e=.returned (.int .i64 (znp a b))∧w'=w:=by
 have HN:=Qaz (fun x=>zt2 x w);by_cases h1:a<b
 ·have t1:decide (a<b)=true:=Qhz h1;have HC:Hid (znp a b= -1):=Qaz (by unfold znp;rw[if_pos h1]);clear h1;go_enter Tryz.func93,Tryz.ntmps93;go_wp2_with (go_at_call 137;refine(HN.out _).mono ?_;rintro e w' ⟨rfl,rfl⟩);go_ret;exact⟨by rw[HC.out];rfl,rfl⟩
 ·have t1:decide (a<b)=false:=Qgz h1;by_cases h2:b<a
  ·have t2:decide (b<a)=true:=Qhz h2;have HC:Hid (znp a b=1):=Qaz (by unfold znp;rw[if_neg h1,if_pos h2]);clear h1 h2;go_enter Tryz.func93,Tryz.ntmps93;go_wp2_with (go_at_call 137;refine(HN.out _).mono ?_;rintro e w' ⟨rfl,rfl⟩);go_ret;exact⟨by rw[HC.out];rfl,rfl⟩
  ·have t2:decide (b<a)=false:=Qgz h2;have HC:Hid (znp a b=0):=Qaz (by unfold znp;rw[if_neg h1,if_neg h2]);clear h1 h2;go_enter Tryz.func93,Tryz.ntmps93;go_wp2_with (go_at_call 137;refine(HN.out _).mono ?_;rintro e w' ⟨rfl,rfl⟩);go_ret;exact⟨by rw[HC.out];rfl,rfl⟩
def zfh(x:Int)(cs:List Value)(_:World):Prop:=cs=[.int .i64 x]
theorem zul:zw1 zfh:=fun x cs _ h u hu=>by
 have e:cs=[Value.int .i64 x]:=h;subst e;simp at hu;subst hu;rfl
theorem zsl:Stable zfh:=fun _ _ _ h _ _=>h
abbrev Ints(A:Option Addr)(l:List Int)(w:World):Prop:=Slc zfh 1 A l w
theorem zhu:(Tryz.prog.info? 3).map (fun i=>(i.zero,i.size,i.bytes))=some (some (.int .i64 0),1,8):=by kernel_rfl
theorem zys(A:Option Addr)(c:Nat)(l:List Meth)(G:Nat→Prop)(w:World)(h:Held G (Meths A l) w)(hl:l.length≤1000000):
  Calls Tryz.prog 40 #[.slice A l.length c] w fun e w'=>∃v,e=.returned v∧Own zfh 3 1 w.heap.size (fun _=>False) v (l.map (·.id)) w'∧Below w.heap.size w w':=by
 go_enter Tryz.func40,Tryz.ntmps40;go_wp2
 go_loopw [3,8] (fun v i wr=>∃k:Nat,k≤l.length∧i=.int .i64 k∧Own zfh 3 1 w.heap.size (fun _=>False) v ((l.take k).map (·.id)) wr∧Below w.heap.size w wr) (fun _ i _=>l.length-(intOf i).toNat)
 case atStart=>exact⟨0,Qjz _,rfl,Own.nil _ _ _ _ _ _,Below.refl _ _⟩
 case round=>
  obtain⟨k,hk,rfl,hown,hb⟩:=hrel;by_cases hlt:k<l.length
  ·obtain⟨b,off,rfl⟩:=Slc.addrH h (by omega);have hx:l[k]? =some l[k]:=Qbz hlt;generalize l[k]=x at hx;have HX:=Qaz hx;obtain⟨A1,c1,A2,c2,p1,p2,p3,p4,g0,g1,g2,g3,g4,g5,g6,g7⟩:=Meths.atH (h.keep (Keep.all hb)) hx;clear hx;go_wp2_with (at_builtin;refine Classical.byContradiction fun hneg=> ?_);apply hneg;have hbz:=hb.size;refine zao zfh 3 1 w.heap.size 8 (fun _=>False) _ rfl _ _ 27 _ rfl Tryz.underlying27 zhu rfl (by decide) (by decide) _ ((l.take k).map (·.id)) rfl ?own ⟨wr.heap.size+1,0,none⟩ 1 rfl x.id [.int .i64 x.id] rfl ?cells ?one ?held ?hG ?base ?len ?_
   case own=>exact(hown.alloc _).alloc _
   case cells=>exact fun j u hu=>zaq (wr.alloc _) _ _ _ (by simp) j u hu
   case one=>intro u hu;simp at hu;subst hu;rfl
   case held=>exact fun _ _=>rfl
   case hG=>exact fun b hb _=>hb.elim
   case base=>simp;omega
   case len=>simp;omega
   intro v' w1 hown1 hg1 _;go_wp2;go_roundw
   case rel=>
    refine⟨k+1,by omega,by go_num,?_,?_⟩
    ·have e:(l.take (k+1)).map (·.id)=(l.take k).map (·.id)++[x.id]:=by rw[take_snoc HX.out,List.map_append];rfl
     rw[e];exact hown1
    ·exact((hb.alloc hb.size _).alloc (by simp;omega) _).grown hg1 (by simp;omega) fun k' e=>(hown.lt _ e).1
   case measure=>simp[intOf];omega
  ·go_wp2;have hkl:k=l.length:=by omega
   go_ret;rw[hkl,List.take_length]at hown;exact⟨_,rfl,hown,hb⟩
theorem zse:(Tryz.prog.info? 68).map (fun i=>(i.zero,i.size,i.bytes))=some (some (.agg #[.int .i64 0,.string ⟨#[]⟩,.slice none 0 0,.int .i64 0,.string ⟨#[]⟩,.int .i64 0,.int .i64 0,.slice none 0 0]),8,112):=by kernel_rfl
theorem zk8(R:Meth→List Value→World→Prop)(h1R:zw1 R)(A:Option Addr)(c:Nat)(l:List Meth)(G:Nat→Prop)(w:World)(h:Held G (Slc R 8 A l) w)(hl:l.length≤1000000):
  Calls Tryz.prog 99 #[.slice A l.length c] w fun e w'=>∃v,e=.returned v∧Own R 68 8 w.heap.size G v l w'∧Below w.heap.size w w':=by
 cases A with
 |none=>
  have e:l=[]:=by
   rcases l with _|⟨x,l⟩
   ·rfl
   ·obtain⟨b,off,e⟩:=Slc.addrH h (by simp);cases e
  subst e;have hnil:=fun w=>Lib.run_eql_slice_nil (P:=Tryz.prog) w 23 68 none 0 c 0 0 Tryz.underlying23;go_enter Tryz.func99,Tryz.ntmps99;go_wp2;go_ret;exact⟨_,rfl,Own.nil _ _ _ _ _ _,Below.refl _ _⟩
 |some ad=>
  have hnil:=fun w=>Lib.run_eql_slice_nil (P:=Tryz.prog) w 23 68 (some ad) l.length c 0 0 Tryz.underlying23;go_enter Tryz.func99,Tryz.ntmps99;go_wp2_with (at_builtin;refine zby R h1R 68 8 w.heap.size 112 (fun b=>G b∧b<w.heap.size) _ rfl _ _ 23 _ rfl Tryz.underlying23 zse rfl (by decide) (by decide) (.slice (some ⟨w.heap.size,0,none⟩) 0 0) [] l rfl ?own (some ad) c l.length rfl rfl ?src ?hG ?base ?len ?_)
  case own=>exact Own.empty _ _ _ _ _ _ _ rfl (Qiz _)
  case src=>exact h.lt.keep (Keep.alloc _ _ _)
  case hG=>rintro b ⟨_,hb⟩ e;simp[Value.ownBlock]at e;omega
  case base=>simp
  case len=>simp;omega
  intro v' w1 hown hg _;go_wp2;go_ret;exact⟨_,rfl,(show Own R 68 8 w.heap.size (fun b=>G b∧b<w.heap.size) v' l w1 by simpa using hown).mono (fun _ _ h=>h.1),((Below.refl _ w).alloc (Qiz _) _).grown hg (by simp) fun k e=>by simp[Value.ownBlock]at e;omega⟩
theorem zmz(A:Option Addr)(c base:Nat)(l:List Meth)(G:Nat→Prop)(w:World)(h:Own metR 68 8 base G (.slice A l.length c) l w)(hl:l.length≤1000000):
  Calls Tryz.prog 99 #[.slice A l.length c] w fun e w'=>∃v,e=.returned v∧Own metR 68 8 w.heap.size G v l w'∧Below w.heap.size w w':=by
 have h1:Own (fun x cs w=>Held G (metR x cs) w) 68 8 base G (.slice A l.length c) l w:=by
  obtain⟨xs,a,b⟩:=h;exact⟨xs,a,b.imp fun x cs hx w' k=>hx.keep k⟩
 obtain⟨A',c',e,_,h2⟩:=h1.out;simp only[Value.slice.injEq]at e;obtain⟨rfl,_,rfl⟩:=e;refine(zk8 (fun x cs w=>Held G (metR x cs) w) (fun x cs w h u hu=>zue x cs w h.now u hu) A c l _ w h2 hl).mono ?_;rintro e w' ⟨v,rfl,⟨xs,a,b⟩,q⟩;exact⟨v,rfl,⟨xs,a,b.imp fun x cs hx=>hx.now⟩,q⟩
theorem Own.form{α:Type}{R:α→List Value→World→Prop}{T sz base:Nat}{G:Nat→Prop}{v:Value}{l:List α}{w:World}(h:Own R T sz base G v l w)(hl:0<l.length):∃g c,v=.slice (some ⟨g,0,none⟩) l.length c∧base≤g∧g<w.heap.size:=by
 obtain⟨xs,⟨_,h2⟩,_⟩:=h;rcases h2 with⟨_,h0⟩|⟨g,cap,cur,rfl,hg,hh,_⟩
 ·omega
 ·exact⟨g,cap,rfl,hg,(Array.getElem?_eq_some_iff.1 hh).1⟩
theorem OwnMet.at{T base:Nat}{G:Nat→Prop}{l:List Meth}{w:World}{g c n:Nat}(h:Own metR T 8 base G (.slice (some ⟨g,0,none⟩) n c) l w){i:Nat}{x:Meth}(hx:l[i]? =some x):
  ∃A1 c1 A2 c2,x.pars.length≤c1∧Held G (Pars A1 x.pars) w∧x.result.args.length≤c2∧Held G (Typs A2 x.result.args) w∧
   w.cell? ⟨g,i*8,none⟩=some (.int .i64 x.id)∧w.cell? ⟨g,i*8+1,none⟩=some (.string x.lib)∧w.cell? ⟨g,i*8+2,none⟩=some (.slice A1 x.pars.length c1)∧
   w.cell? ⟨g,i*8+3,none⟩=some (.int .i64 x.result.kind)∧w.cell? ⟨g,i*8+4,none⟩=some (.string x.result.name)∧w.cell? ⟨g,i*8+5,none⟩=some (.int .i64 x.result.lo)∧
   w.cell? ⟨g,i*8+6,none⟩=some (.int .i64 x.result.hi)∧w.cell? ⟨g,i*8+7,none⟩=some (.slice A2 x.result.args.length c2):=by
 obtain⟨cs,_,hr,hc⟩:=h.get hx;obtain⟨A1,c1,A2,c2,rfl,h1,h2,h3,h4⟩:=metR.openH hr;exact⟨A1,c1,A2,c2,h1,h2,h3,h4,(hc 0 _ rfl).1,(hc 1 _ rfl).1,(hc 2 _ rfl).1,(hc 3 _ rfl).1,(hc 4 _ rfl).1,(hc 5 _ rfl).1,(hc 6 _ rfl).1,(hc 7 _ rfl).1⟩
theorem zzu{T base:Nat}{G G':Nat→Prop}{v:Value}{l:List Int}{w:World}(h:Own zfh T 1 base G v l w):Own zfh T 1 base G' v l w:=by
 obtain⟨xs,h1,h2⟩:=h;exact⟨xs,h1,h2.imp fun _ _ hx=>fun _ _=>hx.now⟩
end Go.Proofs.YtepnmejahbiacaaGreat
