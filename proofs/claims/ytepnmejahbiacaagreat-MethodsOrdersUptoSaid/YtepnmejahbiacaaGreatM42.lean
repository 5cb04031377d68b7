/- Part 42 of the proof: Yi, Yj, Yk, Yl, Ym. -/
import Derived.Test.YtepnmejahbiacaaGreatM41
set_option linter.unusedVariables false
set_option linter.unusedSimpArgs false
set_option maxHeartbeats 64000000
set_option maxRecDepth 100000
namespace Go.Proofs.YtepnmejahbiacaaGreat
open Go.RowKit
section
attribute [local go_sem ↓] Go.wp_at_zero Go.wp_at_succ
def zmq(p:Pcs)(vi vs vc:Value):List Value:=[.bool p.no,.bool p.yes,vi,vs,vc]
structure PcsAt (pb:Nat) (p:Pcs) (vi vs vc:Value) (w:World):Prop where
 cel:Cel pb (zmq p vi vs vc) w
 oi:Own typR 36 5 (pb+1) (fun _=>False) vi p.ints w
 os:Own zcz 9 1 (pb+1) (fun _=>False) vs p.subs w
 oc:Own zcz 9 1 (pb+1) (fun _=>False) vc p.classes w
 d1:∀b,vi.ownBlock=some b→vs.ownBlock≠some b
 d2:∀b,vi.ownBlock=some b→vc.ownBlock≠some b
 d3:∀b,vs.ownBlock=some b→vc.ownBlock≠some b
theorem PcsAt.lt{pb:Nat}{p:Pcs}{vi vs vc:Value}{w:World}(h:PcsAt pb p vi vs vc w):pb<w.heap.size:=h.cel.lt (by simp[zmq])
theorem PcsAt.all{pb:Nat}{p:Pcs}{vi vs vc:Value}{w w':World}(h:PcsAt pb p vi vs vc w)(k:Below w.heap.size w w'):PcsAt pb p vi vs vc w':=⟨h.cel.all k,h.oi.all k,h.os.all k,h.oc.all k,h.d1,h.d2,h.d3⟩
def z0l(vi vs vc:Value)(b:Nat):Prop:=vi.ownBlock=some b∨vs.ownBlock=some b∨vc.ownBlock=some b
structure PMv (pb:Nat) (vi vs vc:Value) (w:World) (vi' vs' vc':Value) (w':World):Prop where
 chg:Chg (fun b=>b=pb∨z0l vi vs vc b) w w'
 own:∀b,z0l vi' vs' vc' b→z0l vi vs vc b∨w.heap.size≤b
theorem PMv.refl(pb:Nat)(vi vs vc:Value)(w:World):PMv pb vi vs vc w vi vs vc w:=⟨Chg.refl _ _,fun _ h=>.inl h⟩
theorem PMv.pre{pb:Nat}{vi vs vc vi' vs' vc':Value}{w W w':World}(hb:Below w.heap.size w W)(h:PMv pb vi vs vc W vi' vs' vc' w'):PMv pb vi vs vc w vi' vs' vc' w':=⟨(Chg.of hb).trans h.chg,fun b q=>(h.own b q).imp id fun e=>Nat.le_trans hb.size e⟩
theorem PMv.trans{pb:Nat}{vi vs vc vi' vs' vc' vi2 vs2 vc2:Value}{w w' w2:World}(h:PMv pb vi vs vc w vi' vs' vc' w')(k:PMv pb vi' vs' vc' w' vi2 vs2 vc2 w2):PMv pb vi vs vc w vi2 vs2 vc2 w2:=
 ⟨h.chg.trans3 k.chg fun b q=>by
   rcases q with q|q
   ·exact .inl (.inl q)
   ·exact(h.own b q).imp (fun e=>.inr e) id,fun b q=>by
   rcases k.own b q with e|e
   ·exact h.own b e
   ·exact .inr (Nat.le_trans h.chg.size e)⟩
theorem PMv.post{pb:Nat}{vi vs vc vi' vs' vc':Value}{w w' w2:World}(h:PMv pb vi vs vc w vi' vs' vc' w')(hb:Below w'.heap.size w' w2):PMv pb vi vs vc w vi' vs' vc' w2:=h.trans ⟨Chg.of hb,fun _ q=>.inl q⟩
theorem PcsAt.own{pb:Nat}{p:Pcs}{vi vs vc:Value}{w:World}(h:PcsAt pb p vi vs vc w){b:Nat}(hb:z0l vi vs vc b):pb<b∧b<w.heap.size:=by
 rcases hb with q|q|q
 ·have:=h.oi.lt b q;omega
 ·have:=h.os.lt b q;omega
 ·have:=h.oc.lt b q;omega
theorem PMv.below{pb:Nat}{p:Pcs}{vi vs vc vi' vs' vc':Value}{w w':World}(h:PcsAt pb p vi vs vc w)(k:PMv pb vi vs vc w vi' vs' vc' w'):Below pb w w':=
 k.chg.below (Nat.le_of_lt h.lt) fun b q=>by
  rcases q with q|q
  ·omega
  ·have:=(h.own q).1;omega
theorem PMv.keep{pb:Nat}{p:Pcs}{vi vs vc vi' vs' vc':Value}{w w0 w':World}(h:PcsAt pb p vi vs vc w)(hw:w.heap.size≤w0.heap.size)(k:PMv pb vi vs vc w0 vi' vs' vc' w'){G:Nat→Prop}(hG:∀b,G b→b<pb∨w.heap.size≤b):Keep G w0 w':=
 k.chg.keep fun b hb q=>by
  have hl:=h.lt;have:=hG b hb;rcases q with q|q
  ·omega
  ·have:=h.own q;omega
theorem PMv.set0(pb:Nat)(vi vs vc:Value)(w:World)(j:Nat)(u:Value):PMv pb vi vs vc w vi vs vc (w.setCell ⟨pb,j,none⟩ u):=⟨Chg.setCell _ (p:=⟨pb,j,none⟩) (.inl rfl) _,fun _ q=>.inl q⟩
theorem PcsAt.new(w:World)(T:TypeId)(pb:Nat)(hpb:pb=w.heap.size):PcsAt pb zdz (.slice none 0 0) (.slice none 0 0) (.slice none 0 0) (w.alloc (.cells #[.bool false,.bool false,.slice none 0 0,.slice none 0 0,.slice none 0 0] T)):=
 ⟨Cel.new w #[.bool false,.bool false,.slice none 0 0,.slice none 0 0,.slice none 0 0] T pb hpb,Own.nil _ _ _ _ _ _,Own.nil _ _ _ _ _ _,Own.nil _ _ _ _ _ _,fun b e=>by simp[Value.ownBlock]at e,fun b e=>by simp[Value.ownBlock]at e,fun b e=>by simp[Value.ownBlock]at e⟩
theorem PcsAt.bool0{pb:Nat}{p:Pcs}{vi vs vc:Value}{w:World}(h:PcsAt pb p vi vs vc w)(b:Bool):PcsAt pb { p with no:=b } vi vs vc (w.setCell ⟨pb,0,none⟩ (.bool b)):=
 ⟨h.cel.set 0 (by simp[zmq]) _,h.oi.setCell (p:=⟨pb,0,none⟩) (fun _ hb=>hb.elim) (fun e=>by have h1:=(h.oi.lt _ e).1;have h2:pb+1≤pb:=h1;omega) _,h.os.setCell (p:=⟨pb,0,none⟩) (fun _ hb=>hb.elim) (fun e=>by have h1:=(h.os.lt _ e).1;have h2:pb+1≤pb:=h1;omega) _,h.oc.setCell (p:=⟨pb,0,none⟩) (fun _ hb=>hb.elim) (fun e=>by have h1:=(h.oc.lt _ e).1;have h2:pb+1≤pb:=h1;omega) _,h.d1,h.d2,h.d3⟩
theorem PcsAt.bool1{pb:Nat}{p:Pcs}{vi vs vc:Value}{w:World}(h:PcsAt pb p vi vs vc w)(b:Bool):PcsAt pb { p with yes:=b } vi vs vc (w.setCell ⟨pb,1,none⟩ (.bool b)):=
 ⟨h.cel.set 1 (by simp[zmq]) _,h.oi.setCell (p:=⟨pb,1,none⟩) (fun _ hb=>hb.elim) (fun e=>by have h1:=(h.oi.lt _ e).1;have h2:pb+1≤pb:=h1;omega) _,h.os.setCell (p:=⟨pb,1,none⟩) (fun _ hb=>hb.elim) (fun e=>by have h1:=(h.os.lt _ e).1;have h2:pb+1≤pb:=h1;omega) _,h.oc.setCell (p:=⟨pb,1,none⟩) (fun _ hb=>hb.elim) (fun e=>by have h1:=(h.oc.lt _ e).1;have h2:pb+1≤pb:=h1;omega) _,h.d1,h.d2,h.d3⟩
theorem PcsAt.set_ints{pb:Nat}{p:Pcs}{vi vs vc:Value}{W w3:World}(h:PcsAt pb p vi vs vc W){v2:Value}{L:List Ty}(hgr:Chg (fun b=>vi.ownBlock=some b∨W.heap.size≤b) W w3)(hat:∀b,v2.ownBlock=some b→vi.ownBlock=some b∨W.heap.size≤b)
  (hown:Own typR 36 5 (pb+1) (fun _=>False) v2 L w3):PcsAt pb { p with ints:=L } v2 vs vc (w3.setCell ⟨pb,2,none⟩ v2)∧PMv pb vi vs vc W v2 vs vc (w3.setCell ⟨pb,2,none⟩ v2):=by
 have hlt:=h.lt;have hpb:¬(vi.ownBlock=some pb∨W.heap.size≤pb):=fun q=>by
  rcases q with q|q
  ·have h1:=(h.oi.lt _ q).1;have h2:pb+1≤pb:=h1;omega
  ·omega
 have hk0:Keep (fun _:Nat=>False) W w3:=hgr.keep fun b hb=>hb.elim;have hc:Cel pb (zmq p vi vs vc) w3:=h.cel.same (hgr.block pb hlt hpb);have hv:v2.ownBlock≠some pb:=fun e=>by
  have h1:=(hown.lt _ e).1;have h2:pb+1≤pb:=h1;omega
 have kvs:Own zcz 9 1 (pb+1) (fun _=>False) vs p.subs w3:=(h.os.keep hk0 fun b hb=>hgr.block b (h.os.lt b hb).2 (fun q=>by
   rcases q with q|q
   ·exact h.d1 b q hb
   ·have:=(h.os.lt b hb).2;omega))
 have kvc:Own zcz 9 1 (pb+1) (fun _=>False) vc p.classes w3:=(h.oc.keep hk0 fun b hb=>hgr.block b (h.oc.lt b hb).2 (fun q=>by
   rcases q with q|q
   ·exact h.d2 b q hb
   ·have:=(h.oc.lt b hb).2;omega))
 refine⟨⟨hc.set 2 (by simp[zmq]) _,hown.setCell (p:=⟨pb,2,none⟩) (fun _ hb=>hb.elim) hv _,kvs.setCell (p:=⟨pb,2,none⟩) (fun _ hb=>hb.elim) (fun e=>by have h1:=(h.os.lt _ e).1;have h2:pb+1≤pb:=h1;omega) _,kvc.setCell (p:=⟨pb,2,none⟩) (fun _ hb=>hb.elim) (fun e=>by have h1:=(h.oc.lt _ e).1;have h2:pb+1≤pb:=h1;omega) _,(fun b e q=>by
   rcases hat b e with s|s
   ·exact h.d1 b s q
   ·have:=(h.os.lt b q).2;omega),(fun b e q=>by
   rcases hat b e with s|s
   ·exact h.d2 b s q
   ·have:=(h.oc.lt b q).2;omega),h.d3⟩,?_⟩
 refine⟨(hgr.mono fun b hb q=> ?_).trans (Chg.setCell _ (p:=⟨pb,2,none⟩) (.inl rfl) _),fun b q=> ?_⟩
 ·rcases q with q|q
  ·exact .inr (Or.inl q)
  ·omega
 ·rcases q with q|q|q
  ·exact(hat b q).imp (fun e=>Or.inl e) id
  ·exact .inl ((fun e=>Or.inr (Or.inl e)) q)
  ·exact .inl ((fun e=>Or.inr (Or.inr e)) q)
theorem PcsAt.set_subs{pb:Nat}{p:Pcs}{vi vs vc:Value}{W w3:World}(h:PcsAt pb p vi vs vc W){v2:Value}{L:List ByteArray}(hgr:Chg (fun b=>vs.ownBlock=some b∨W.heap.size≤b) W w3)(hat:∀b,v2.ownBlock=some b→vs.ownBlock=some b∨W.heap.size≤b)
  (hown:Own zcz 9 1 (pb+1) (fun _=>False) v2 L w3):PcsAt pb { p with subs:=L } vi v2 vc (w3.setCell ⟨pb,3,none⟩ v2)∧PMv pb vi vs vc W vi v2 vc (w3.setCell ⟨pb,3,none⟩ v2):=by
 have hlt:=h.lt;have hpb:¬(vs.ownBlock=some pb∨W.heap.size≤pb):=fun q=>by
  rcases q with q|q
  ·have h1:=(h.os.lt _ q).1;have h2:pb+1≤pb:=h1;omega
  ·omega
 have hk0:Keep (fun _:Nat=>False) W w3:=hgr.keep fun b hb=>hb.elim;have hc:Cel pb (zmq p vi vs vc) w3:=h.cel.same (hgr.block pb hlt hpb);have hv:v2.ownBlock≠some pb:=fun e=>by
  have h1:=(hown.lt _ e).1;have h2:pb+1≤pb:=h1;omega
 have kvi:Own typR 36 5 (pb+1) (fun _=>False) vi p.ints w3:=(h.oi.keep hk0 fun b hb=>hgr.block b (h.oi.lt b hb).2 (fun q=>by
   rcases q with q|q
   ·exact h.d1 b hb q
   ·have:=(h.oi.lt b hb).2;omega))
 have kvc:Own zcz 9 1 (pb+1) (fun _=>False) vc p.classes w3:=(h.oc.keep hk0 fun b hb=>hgr.block b (h.oc.lt b hb).2 (fun q=>by
   rcases q with q|q
   ·exact h.d3 b q hb
   ·have:=(h.oc.lt b hb).2;omega))
 refine⟨⟨hc.set 3 (by simp[zmq]) _,kvi.setCell (p:=⟨pb,3,none⟩) (fun _ hb=>hb.elim) (fun e=>by have h1:=(h.oi.lt _ e).1;have h2:pb+1≤pb:=h1;omega) _,hown.setCell (p:=⟨pb,3,none⟩) (fun _ hb=>hb.elim) hv _,kvc.setCell (p:=⟨pb,3,none⟩) (fun _ hb=>hb.elim) (fun e=>by have h1:=(h.oc.lt _ e).1;have h2:pb+1≤pb:=h1;omega) _,(fun b e q=>by
   rcases hat b q with s|s
   ·exact h.d1 b e s
   ·have:=(h.oi.lt b e).2;omega),h.d2,(fun b e q=>by
   rcases hat b e with s|s
   ·exact h.d3 b s q
   ·have:=(h.oc.lt b q).2;omega)⟩,?_⟩
 refine⟨(hgr.mono fun b hb q=> ?_).trans (Chg.setCell _ (p:=⟨pb,3,none⟩) (.inl rfl) _),fun b q=> ?_⟩
 ·rcases q with q|q
  ·exact .inr ((fun e=>Or.inr (Or.inl e)) q)
  ·omega
 ·rcases q with q|q|q
  ·exact .inl (Or.inl q)
  ·exact(hat b q).imp (fun e=>(fun e=>Or.inr (Or.inl e)) e) id
  ·exact .inl ((fun e=>Or.inr (Or.inr e)) q)
theorem PcsAt.set_classes{pb:Nat}{p:Pcs}{vi vs vc:Value}{W w3:World}(h:PcsAt pb p vi vs vc W){v2:Value}{L:List ByteArray}(hgr:Chg (fun b=>vc.ownBlock=some b∨W.heap.size≤b) W w3)(hat:∀b,v2.ownBlock=some b→vc.ownBlock=some b∨W.heap.size≤b)
  (hown:Own zcz 9 1 (pb+1) (fun _=>False) v2 L w3):PcsAt pb { p with classes:=L } vi vs v2 (w3.setCell ⟨pb,4,none⟩ v2)∧PMv pb vi vs vc W vi vs v2 (w3.setCell ⟨pb,4,none⟩ v2):=by
 have hlt:=h.lt;have hpb:¬(vc.ownBlock=some pb∨W.heap.size≤pb):=fun q=>by
  rcases q with q|q
  ·have h1:=(h.oc.lt _ q).1;have h2:pb+1≤pb:=h1;omega
  ·omega
 have hk0:Keep (fun _:Nat=>False) W w3:=hgr.keep fun b hb=>hb.elim;have hc:Cel pb (zmq p vi vs vc) w3:=h.cel.same (hgr.block pb hlt hpb);have hv:v2.ownBlock≠some pb:=fun e=>by
  have h1:=(hown.lt _ e).1;have h2:pb+1≤pb:=h1;omega
 have kvi:Own typR 36 5 (pb+1) (fun _=>False) vi p.ints w3:=(h.oi.keep hk0 fun b hb=>hgr.block b (h.oi.lt b hb).2 (fun q=>by
   rcases q with q|q
   ·exact h.d2 b hb q
   ·have:=(h.oi.lt b hb).2;omega))
 have kvs:Own zcz 9 1 (pb+1) (fun _=>False) vs p.subs w3:=(h.os.keep hk0 fun b hb=>hgr.block b (h.os.lt b hb).2 (fun q=>by
   rcases q with q|q
   ·exact h.d3 b hb q
   ·have:=(h.os.lt b hb).2;omega))
 refine⟨⟨hc.set 4 (by simp[zmq]) _,kvi.setCell (p:=⟨pb,4,none⟩) (fun _ hb=>hb.elim) (fun e=>by have h1:=(h.oi.lt _ e).1;have h2:pb+1≤pb:=h1;omega) _,kvs.setCell (p:=⟨pb,4,none⟩) (fun _ hb=>hb.elim) (fun e=>by have h1:=(h.os.lt _ e).1;have h2:pb+1≤pb:=h1;omega) _,hown.setCell (p:=⟨pb,4,none⟩) (fun _ hb=>hb.elim) hv _,h.d1,(fun b e q=>by
   rcases hat b q with s|s
   ·exact h.d2 b e s
   ·have:=(h.oi.lt b e).2;omega),(fun b e q=>by
   rcases hat b q with s|s
   ·exact h.d3 b e s
   ·have:=(h.os.lt b e).2;omega)⟩,?_⟩
 refine⟨(hgr.mono fun b hb q=> ?_).trans (Chg.setCell _ (p:=⟨pb,4,none⟩) (.inl rfl) _),fun b q=> ?_⟩
 ·rcases q with q|q
  ·exact .inr ((fun e=>Or.inr (Or.inr e)) q)
  ·omega
 ·rcases q with q|q|q
  ·exact .inl (Or.inl q)
  ·exact .inl ((fun e=>Or.inr (Or.inl e)) q)
  ·exact(hat b q).imp (fun e=>(fun e=>Or.inr (Or.inr e)) e) id
theorem PcsAt.putI{pb:Nat}{p:Pcs}{vi vs vc:Value}{W w3:World}(h:PcsAt pb p vi vs vc W){g n cap:Nat}(hgr:Chg (fun b=>vi.ownBlock=some b) W w3)(hat:vi.ownBlock=some g∨g=W.heap.size)
  (hown:Own typR 36 5 (pb+1) (fun _=>False) (.slice (some ⟨g,0,none⟩) n cap) (p.ints++[zeu]) w3) (x:Ty) (hx:x.args=[]) (A:Option Addr) (c:Nat) (m:Nat) (hm:m=p.ints.length):
  (PcsAt pb { p with ints:=p.ints++[x] } (.slice (some ⟨g,0,none⟩) n cap) vs vc ((w3.setCells g (m*5) [.int .i64 x.kind,.string x.name,.int .i64 x.lo,.int .i64 x.hi,.slice A 0 c]).setCell ⟨pb,2,none⟩ (.slice (some ⟨g,0,none⟩) n cap))∧
   PMv pb vi vs vc W (.slice (some ⟨g,0,none⟩) n cap) vs vc ((w3.setCells g (m*5) [.int .i64 x.kind,.string x.name,.int .i64 x.lo,.int .i64 x.hi,.slice A 0 c]).setCell ⟨pb,2,none⟩ (.slice (some ⟨g,0,none⟩) n cap)))∧
  (PcsAt pb { p with ints:=p.ints++[x] } (.slice (some ⟨g,0,none⟩) n cap) vs vc ((w3.setCell ⟨pb,2,none⟩ (.slice (some ⟨g,0,none⟩) n cap)).setCells g (m*5) [.int .i64 x.kind,.string x.name,.int .i64 x.lo,.int .i64 x.hi,.slice A 0 c])∧
   PMv pb vi vs vc W (.slice (some ⟨g,0,none⟩) n cap) vs vc ((w3.setCell ⟨pb,2,none⟩ (.slice (some ⟨g,0,none⟩) n cap)).setCells g (m*5) [.int .i64 x.kind,.string x.name,.int .i64 x.lo,.int .i64 x.hi,.slice A 0 c])):=by
 subst hm;have hgp:pb≠g:=by
  have h1:=(hown.lt g (by simp[Value.ownBlock])).1;omega
 rw[zfz (a:=⟨pb,2,none⟩) hgp];have hown2:=hown.setLast (cs:=[.int .i64 x.kind,.string x.name,.int .i64 x.lo,.int .i64 x.hi,.slice A 0 c]) rfl (zto hx A c) (fun _ hb=>hb.elim);have key:=h.set_ints (hgr:=(hgr.mono fun b _ q=>.inl q).trans ((Chg.setCells (S:=fun b=>b=g) g rfl _ (p.ints.length*5) w3).mono fun b hb q=>by
  have q:b=g:=q;rcases hat with e|e
  ·exact .inl (q▸e)
  ·exact .inr (by omega))) (fun b e=>by
   simp[Value.ownBlock]at e;rcases hat with q|q
   ·exact .inl (e▸q)
   ·exact .inr (by omega)) hown2
 exact⟨key,key⟩
theorem PcsAt.putI2{pb:Nat}{p:Pcs}{vi vs vc:Value}{w W w3:World}(hb:Below w.heap.size w W)(h:PcsAt pb p vi vs vc W){g n cap:Nat}(hgr:Chg (fun b=>vi.ownBlock=some b) W w3)(hat:vi.ownBlock=some g∨g=W.heap.size)
  (hown:Own typR 36 5 (pb+1) (fun _=>False) (.slice (some ⟨g,0,none⟩) n cap) (p.ints++[zeu]) w3) (x:Ty) (hx:x.args=[]) (A:Option Addr) (c:Nat) (m:Nat) (hm:m=p.ints.length):
  (∃vi' vs' vc',PcsAt pb { p with ints:=p.ints++[x] } vi' vs' vc' ((((((w3.setCell ⟨g,m*5,none⟩ (.int .i64 x.kind)).setCell ⟨g,m*5+1,none⟩ (.string x.name)).setCell ⟨g,m*5+2,none⟩ (.int .i64 x.lo)).setCell ⟨g,m*5+3,none⟩ (.int .i64 x.hi)).setCell ⟨g,m*5+4,none⟩ (.slice A 0 c)).setCell ⟨pb,2,none⟩ (.slice (some ⟨g,0,none⟩) n cap))∧PMv pb vi vs vc w vi' vs' vc' ((((((w3.setCell ⟨g,m*5,none⟩ (.int .i64 x.kind)).setCell ⟨g,m*5+1,none⟩ (.string x.name)).setCell ⟨g,m*5+2,none⟩ (.int .i64 x.lo)).setCell ⟨g,m*5+3,none⟩ (.int .i64 x.hi)).setCell ⟨g,m*5+4,none⟩ (.slice A 0 c)).setCell ⟨pb,2,none⟩ (.slice (some ⟨g,0,none⟩) n cap)))∧
  (∃vi' vs' vc',PcsAt pb { p with ints:=p.ints++[x] } vi' vs' vc' ((((((w3.setCell ⟨pb,2,none⟩ (.slice (some ⟨g,0,none⟩) n cap)).setCell ⟨g,m*5,none⟩ (.int .i64 x.kind)).setCell ⟨g,m*5+1,none⟩ (.string x.name)).setCell ⟨g,m*5+2,none⟩ (.int .i64 x.lo)).setCell ⟨g,m*5+3,none⟩ (.int .i64 x.hi)).setCell ⟨g,m*5+4,none⟩ (.slice A 0 c))∧PMv pb vi vs vc w vi' vs' vc' ((((((w3.setCell ⟨pb,2,none⟩ (.slice (some ⟨g,0,none⟩) n cap)).setCell ⟨g,m*5,none⟩ (.int .i64 x.kind)).setCell ⟨g,m*5+1,none⟩ (.string x.name)).setCell ⟨g,m*5+2,none⟩ (.int .i64 x.lo)).setCell ⟨g,m*5+3,none⟩ (.int .i64 x.hi)).setCell ⟨g,m*5+4,none⟩ (.slice A 0 c))):=by
 have F:=h.putI hgr hat hown x hx A c m hm;exact⟨⟨_,_,_,F.1.1,PMv.pre hb F.1.2⟩,⟨_,_,_,F.2.1,PMv.pre hb F.2.2⟩⟩
def Pcs.tot(p:Pcs):Nat:=p.ints.length+p.subs.length+p.classes.length
theorem zey(t:Ty)(p:Pcs):zc3 t p=if t.kind=2 then{ p with ints:=p.ints++[t] }else if t.kind=3 then{ p with no:=p.no||decide (t.lo=0),yes:=p.yes||decide (t.lo=1) }else if t.kind=4 then zv9 p t.name else if t.kind=1 then zpv p t.name else if t.kind=5 then zdr t.args p else p:=by
 cases t;rw[zc3];rfl
mutual
theorem zuv:∀(t:Ty)(p:Pcs),(zc3 t p).tot≤p.tot+t.count
 | .mk k n lo hi args,p=>by
  rw[zc3,Ty.count]
  split
  ·unfold Pcs.tot;simp;omega
  ·split
   ·unfold Pcs.tot;simp
   ·split
    ·unfold zv9
     split
     ·unfold Pcs.tot;simp;omega
     ·unfold Pcs.tot;simp;omega
    ·split
     ·unfold zpv
      split
      ·unfold Pcs.tot;simp;omega
      ·split
       ·unfold Pcs.tot;simp
       ·unfold Pcs.tot;simp;omega
     ·split
      ·have:=zl6 args p;omega
      ·omega
theorem zl6:∀(L:List Ty)(p:Pcs),(zdr L p).tot≤p.tot+Ty.counts L
 | [],p=>by rw[zdr];omega
 |t::r,p=>by
  rw[zdr,Ty.counts];have h1:=zl6 r (zc3 t p);have h2:=zuv t p;omega
end
theorem zoz(pb:Nat)(t:Ty)(A:Option Addr)(c:Nat)(p:Pcs)(vi vs vc:Value)(w:World)(h:PcsAt pb p vi vs vc w)(hk:t.kind=2)(ha:t.args=[])(hl:p.tot≤1000000):
  Calls Tryz.prog 195 #[.pointer (some ⟨pb,0,none⟩),tyV t A c] w fun e w'=>e=.returned (.tuple #[])∧∃vi' vs' vc',PcsAt pb (zc3 t p) vi' vs' vc' w'∧PMv pb vi vs vc w vi' vs' vc' w':=by
 have hlt:=h.lt;rw[zey,if_pos hk];unfold tyV;have ha0:t.args.length=0:=by rw[ha];rfl
 rw[ha0];have e2:(t.kind==2)=true:=beq_iff_eq.2 hk;obtain⟨Ai,ci,hvi⟩:=h.oi.anyForm;subst hvi;obtain⟨W1,hW1⟩:∃W1,W1=(w.alloc (.cells #[.int .i64 t.kind,.string t.name,.int .i64 t.lo,.int .i64 t.hi,.slice A 0 c] 36)):=⟨_,rfl⟩;have b1:Below w.heap.size w W1:=by rw[hW1];exact(Below.refl _ w).alloc (Qiz _) _
 have HX:Hid (∀V,Below W1.heap.size W1 V→V.cell? ⟨w.heap.size,0,none⟩=some (.int .i64 t.kind)∧V.cell? ⟨w.heap.size,1,none⟩=some (.string t.name)∧V.cell? ⟨w.heap.size,2,none⟩=some (.int .i64 t.lo)∧V.cell? ⟨w.heap.size,3,none⟩=some (.int .i64 t.hi)∧V.cell? ⟨w.heap.size,4,none⟩=some (.slice A 0 c)):=Qaz (fun V hv=>by
  have x:∀j u,[Value.int .i64 t.kind,.string t.name,.int .i64 t.lo,.int .i64 t.hi,.slice A 0 c][j]? =some u→W1.cell? ⟨w.heap.size,j,none⟩=some u:=fun j u hj=>by rw[hW1];exact zac w _ _ _ rfl j u hj
  exact⟨zaa (x 0 _ rfl) hv,zaa (x 1 _ rfl) hv,zaa (x 2 _ rfl) hv,zaa (x 3 _ rfl) hv,zaa (x 4 _ rfl) hv⟩)
 have HP:Hid (∀V,Below W1.heap.size W1 V→PcsAt pb p (.slice Ai p.ints.length ci) vs vc V):=Qaz (fun V hv=>(h.all b1).all hv);have HQ:Hid (∀V,Below W1.heap.size W1 V→V.cell? ⟨pb,2,none⟩=some (.slice Ai p.ints.length ci)∧V.frozen? ⟨pb,2,none⟩=false):=Qaz (fun V hv=>(HP.out V hv).cel 2 _ rfl);have HN:Hid (∀b,b=pb∨w.heap.size≤b→(Value.slice Ai p.ints.length ci).ownBlock≠some b):=Qaz (fun b hb e=>by
  have:=h.oi.lt _ e;omega)
 have hl6:p.ints.length≤1000000:=by unfold Pcs.tot at hl;omega
 have b0:Below W1.heap.size W1 W1:=Below.refl _ W1;have hs1:w.heap.size≤W1.heap.size:=b1.size;have wb:(p.ints.length:Int)<(p.ints.length:Int)+1:=by omega
 have w0:(0:Int)≤(p.ints.length:Int):=by omega
 obtain⟨q1,q2⟩:=HQ.out W1 b0;obtain⟨x0,x1,x2,x3,x4⟩:=HX.out W1 b0;have HA:=Qaz ha;have hltW:pb<W1.heap.size:=by omega
 have hws:w.heap.size<W1.heap.size:=cell_lt x0;have HB1:Hid (∀V,Below pb W1 V→Below pb w V):=Qaz (fun V hv=>(b1.mono (Nat.le_of_lt hlt)).trans hv);clear h hk ha ha0 hl;go_enter Tryz.func195,Tryz.ntmps195;go_wp2_with (fail);rw[←hW1];clear hW1;go_wp2_with (fail)
 go_region_law (first
  |(refine za1 typR 36 5 (pb+1) 64 (fun _=>False) _ (by rfl) _ _ 34 _ (by rfl) Tryz.underlying34 zcp rfl (by decide) (by decide) (.slice Ai p.ints.length ci) p.ints (by rfl) (HP.out _ (by first|exact b0.drew.alloc b0.drew.size _|exact(b0.alloc b0.size _).drew)).oi ⟨_,0,none⟩ 1 (by rfl) zeu [.int .i64 0,.string ⟨#[]⟩,.int .i64 0,.int .i64 0,.slice none 0 0] rfl (zaq _ _ _ _ rfl) zgx (zrl _) (fun _ hb=>hb.elim) (by simp;omega) (by omega) _ rfl ?_
    intro g cap w3 hown hgrow hat hlt3;obtain⟨⟨y0,f0⟩,⟨y1,f1⟩,⟨y2,f2⟩,⟨y3,f3⟩,A4,c4,y4,f4⟩:=zeroCells hown;have hV:Below W1.heap.size W1 (W1.drew.alloc (.cells #[.int .i64 0,.string ⟨#[]⟩,.int .i64 0,.int .i64 0,.slice none 0 0] 36)):=b0.drew.alloc b0.drew.size _;have u1:=zas hgrow (HQ.out _ hV).1 (HN.out _ (.inl rfl));have g1:=zbc hgrow (HQ.out _ hV).1 (HQ.out _ hV).2 (HN.out _ (.inl rfl));have z0:=zas hgrow (HX.out _ hV).1 (HN.out _ (.inr (Qiz _)));have z1:=zas hgrow (HX.out _ hV).2.1 (HN.out _ (.inr (Qiz _)));have z2:=zas hgrow (HX.out _ hV).2.2.1 (HN.out _ (.inr (Qiz _)))
    have z3:=zas hgrow (HX.out _ hV).2.2.2.1 (HN.out _ (.inr (Qiz _)));have z4:=zas hgrow (HX.out _ hV).2.2.2.2 (HN.out _ (.inr (Qiz _)));have n1:g≠pb:=by
     rcases hat with e|e
     ·exact fun q=>HN.out g (.inl q) e
     ·simp at e;omega)
  |(fail))
 all_goals
  have F:=PcsAt.putI2 (zab b1 hV) (HP.out _ hV) (Chg.grown hgrow fun b hb=>hb) hat hown t HA.out A c _ rfl;clear y0 f0 y1 f1 y2 f2 y3 f3 y4 f4 u1 g1 hown hgrow hat z0 z1 z2 z3 z4;go_wp2;refine bodyPost_end (v:=.tuple #[]) (by simp[results,Tryz.results195]) rfl ?_
  first
   |with_reducible exact⟨rfl,F.1⟩
   |with_reducible exact⟨rfl,F.2⟩
   |trace_state
theorem zoo(pb:Nat)(t:Ty)(A:Option Addr)(c:Nat)(p:Pcs)(vi vs vc:Value)(w:World)(h:PcsAt pb p vi vs vc w)(hk:t.kind=4)(hn:t.name≠zak)(ha:t.args=[])(hl:p.tot≤1000000):
  Calls Tryz.prog 195 #[.pointer (some ⟨pb,0,none⟩),tyV t A c] w fun e w'=>e=.returned (.tuple #[])∧∃vi' vs' vc',PcsAt pb (zc3 t p) vi' vs' vc' w'∧PMv pb vi vs vc w vi' vs' vc' w':=by
 have hlt:=h.lt;rw[zey,if_neg (by rw[hk];decide),if_neg (by rw[hk];decide),if_pos hk,zv9,if_neg hn];unfold tyV;have ha0:t.args.length=0:=by rw[ha];rfl
 rw[ha0];obtain⟨W1,hW1⟩:∃W1,W1=(w.alloc (.cells #[.int .i64 t.kind,.string t.name,.int .i64 t.lo,.int .i64 t.hi,.slice A 0 c] 36)):=⟨_,rfl⟩;have b1:Below w.heap.size w W1:=by rw[hW1];exact(Below.refl _ w).alloc (Qiz _) _
 have HX:Hid (∀V,Below W1.heap.size W1 V→V.cell? ⟨w.heap.size,0,none⟩=some (.int .i64 t.kind)∧V.cell? ⟨w.heap.size,1,none⟩=some (.string t.name)∧V.cell? ⟨w.heap.size,2,none⟩=some (.int .i64 t.lo)):=Qaz (fun V hv=>by
  have x:∀j u,[Value.int .i64 t.kind,.string t.name,.int .i64 t.lo,.int .i64 t.hi,.slice A 0 c][j]? =some u→W1.cell? ⟨w.heap.size,j,none⟩=some u:=fun j u hj=>by rw[hW1];exact zac w _ _ _ rfl j u hj
  exact⟨zaa (x 0 _ rfl) hv,zaa (x 1 _ rfl) hv,zaa (x 2 _ rfl) hv⟩)
 have b0:Below W1.heap.size W1 W1:=Below.refl _ W1;have HP:Hid (∀V,Below W1.heap.size W1 V→PcsAt pb p vi vs vc V):=Qaz (fun V hv=>(h.all b1).all hv);have HB1:Hid (∀V,Below pb W1 V→Below pb w V):=Qaz (fun V hv=>(b1.mono (Nat.le_of_lt hlt)).trans hv);have hs1:w.heap.size≤W1.heap.size:=b1.size;obtain⟨x0,x1,x2⟩:=HX.out W1 b0;have hltW:pb<W1.heap.size:=by omega
 have hws:w.heap.size<W1.heap.size:=cell_lt x0;have e2:(t.kind==2)=false:=Qfz (by rw[hk];decide);have e3:(t.kind==3)=false:=Qfz (by rw[hk];decide);have e4:(t.kind==4)=true:=beq_iff_eq.2 hk;have n1:decide (t.name=⟨#[60,111,98,106,101,99,116,62]⟩)=false:=Qgz hn;obtain⟨Ai,ci,hvi⟩:=h.os.anyForm;subst hvi;have HQ:Hid (∀V,Below W1.heap.size W1 V→V.cell? ⟨pb,3,none⟩=some (.slice Ai p.subs.length ci)∧V.frozen? ⟨pb,3,none⟩=false):=Qaz (fun V hv=>(HP.out V hv).cel 3 _ rfl);have HN:Hid (∀b,b=pb∨w.heap.size≤b→(Value.slice Ai p.subs.length ci).ownBlock≠some b):=Qaz (fun b hb e=>by
  have:=h.os.lt _ e;omega)
 have hl6:p.subs.length≤1000000:=by unfold Pcs.tot at hl;omega
 have wb:(p.subs.length:Int)<(p.subs.length:Int)+1:=by omega
 have w0:(0:Int)≤(p.subs.length:Int):=by omega
 obtain⟨q1,q2⟩:=HQ.out W1 b0;clear h hk hn ha ha0 hl;go_enter Tryz.func195,Tryz.ntmps195;go_wp2_with (fail);rw[←hW1];clear hW1;go_wp2_with (fail)
 go_region_law (first
  |(refine za1 zcz 9 1 (pb+1) 16 (fun _=>False) _ (by rfl) _ _ 108 _ (by rfl) Tryz.underlying108 info9 rfl (by decide) (by decide) (.slice Ai p.subs.length ci) p.subs (by rfl) (HP.out _ (by first|exact b0.drew.alloc b0.drew.size _|exact(b0.alloc b0.size _).drew)).os ⟨_,0,none⟩ 1 (by rfl) t.name [.string t.name] rfl (zaq _ _ _ _ rfl) (fun u hu=>by simp at hu;rw[hu];rfl) (fun _ _=>rfl) (fun _ hb=>hb.elim) (by simp;omega) (by omega) _ rfl ?_
    intro g cap w3 hown hgrow hat hlt3;have hV:Below W1.heap.size W1 (W1.drew.alloc (.cells #[.string t.name] 9)):=b0.drew.alloc b0.drew.size _;have u1:=zas hgrow (HQ.out _ hV).1 (HN.out _ (.inl rfl));have g1:=zbc hgrow (HQ.out _ hV).1 (HQ.out _ hV).2 (HN.out _ (.inl rfl));have z1:=zas hgrow (HX.out _ hV).2.1 (HN.out _ (.inr (Qiz _))))
  |(fail))
 all_goals
  have F:=(HP.out _ (by first|exact b0.drew.alloc b0.drew.size _|exact(b0.alloc b0.size _).drew)).set_subs (v2:=.slice (some ⟨g,0,none⟩) (p.subs.length+1) cap) ((Chg.grown (S:=fun b=>(Value.slice Ai p.subs.length ci).ownBlock=some b) hgrow fun b hb=>hb).mono fun b _ q=>.inl q) (fun b e=>by simp[Value.ownBlock]at e;rcases hat with q|q;exact .inl (e▸q);exact .inr (by omega)) hown;have FB:=zab b1 (b0.drew.alloc b0.drew.size (.cells #[.string t.name] 9));have F2:=And.intro F.1 (PMv.pre FB F.2);clear u1 g1 hown hgrow hat z1 F FB;go_wp2
  refine bodyPost_end (v:=.tuple #[]) (by simp[results,Tryz.results195]) rfl ?_
  first
   |with_reducible exact⟨rfl,_,_,_,F2⟩
   |trace_state
theorem zpo(pb:Nat)(t:Ty)(A:Option Addr)(c:Nat)(p:Pcs)(vi vs vc:Value)(w:World)(h:PcsAt pb p vi vs vc w)(hk:t.kind=1)(h1:t.name≠zal)(h2:t.name≠zan)(ha:t.args=[])(hl:p.tot≤1000000):
  Calls Tryz.prog 195 #[.pointer (some ⟨pb,0,none⟩),tyV t A c] w fun e w'=>e=.returned (.tuple #[])∧∃vi' vs' vc',PcsAt pb (zc3 t p) vi' vs' vc' w'∧PMv pb vi vs vc w vi' vs' vc' w':=by
 have hlt:=h.lt;rw[zey,if_neg (by rw[hk];decide),if_neg (by rw[hk];decide),if_neg (by rw[hk];decide),if_pos hk,zpv,if_neg h1,if_neg h2];unfold tyV;have ha0:t.args.length=0:=by rw[ha];rfl
 rw[ha0];obtain⟨W1,hW1⟩:∃W1,W1=(w.alloc (.cells #[.int .i64 t.kind,.string t.name,.int .i64 t.lo,.int .i64 t.hi,.slice A 0 c] 36)):=⟨_,rfl⟩;have b1:Below w.heap.size w W1:=by rw[hW1];exact(Below.refl _ w).alloc (Qiz _) _
 have HX:Hid (∀V,Below W1.heap.size W1 V→V.cell? ⟨w.heap.size,0,none⟩=some (.int .i64 t.kind)∧V.cell? ⟨w.heap.size,1,none⟩=some (.string t.name)∧V.cell? ⟨w.heap.size,2,none⟩=some (.int .i64 t.lo)):=Qaz (fun V hv=>by
  have x:∀j u,[Value.int .i64 t.kind,.string t.name,.int .i64 t.lo,.int .i64 t.hi,.slice A 0 c][j]? =some u→W1.cell? ⟨w.heap.size,j,none⟩=some u:=fun j u hj=>by rw[hW1];exact zac w _ _ _ rfl j u hj
  exact⟨zaa (x 0 _ rfl) hv,zaa (x 1 _ rfl) hv,zaa (x 2 _ rfl) hv⟩)
 have b0:Below W1.heap.size W1 W1:=Below.refl _ W1;have HP:Hid (∀V,Below W1.heap.size W1 V→PcsAt pb p vi vs vc V):=Qaz (fun V hv=>(h.all b1).all hv);have HB1:Hid (∀V,Below pb W1 V→Below pb w V):=Qaz (fun V hv=>(b1.mono (Nat.le_of_lt hlt)).trans hv);have hs1:w.heap.size≤W1.heap.size:=b1.size;obtain⟨x0,x1,x2⟩:=HX.out W1 b0;have hltW:pb<W1.heap.size:=by omega
 have hws:w.heap.size<W1.heap.size:=cell_lt x0;have e2:(t.kind==2)=false:=Qfz (by rw[hk];decide);have e3:(t.kind==3)=false:=Qfz (by rw[hk];decide);have e4:(t.kind==4)=false:=Qfz (by rw[hk];decide);have e1:(t.kind==1)=true:=beq_iff_eq.2 hk;have n1:decide (t.name=⟨#[60,105,110,116,101,103,101,114,62]⟩)=false:=Qgz h1;have n2:decide (t.name=⟨#[60,98,111,111,108,101,97,110,62]⟩)=false:=Qgz h2;obtain⟨Ai,ci,hvi⟩:=h.oc.anyForm;subst hvi
 have HQ:Hid (∀V,Below W1.heap.size W1 V→V.cell? ⟨pb,4,none⟩=some (.slice Ai p.classes.length ci)∧V.frozen? ⟨pb,4,none⟩=false):=Qaz (fun V hv=>(HP.out V hv).cel 4 _ rfl);have HN:Hid (∀b,b=pb∨w.heap.size≤b→(Value.slice Ai p.classes.length ci).ownBlock≠some b):=Qaz (fun b hb e=>by
  have:=h.oc.lt _ e;omega)
 have hl6:p.classes.length≤1000000:=by unfold Pcs.tot at hl;omega
 have wb:(p.classes.length:Int)<(p.classes.length:Int)+1:=by omega
 have w0:(0:Int)≤(p.classes.length:Int):=by omega
 obtain⟨q1,q2⟩:=HQ.out W1 b0;clear h hk h1 h2 ha ha0 hl;go_enter Tryz.func195,Tryz.ntmps195;go_wp2_with (fail);rw[←hW1];clear hW1;go_wp2_with (fail)
 go_region_law (first
  |(refine za1 zcz 9 1 (pb+1) 16 (fun _=>False) _ (by rfl) _ _ 108 _ (by rfl) Tryz.underlying108 info9 rfl (by decide) (by decide) (.slice Ai p.classes.length ci) p.classes (by rfl) (HP.out _ (by first|exact b0.drew.alloc b0.drew.size _|exact(b0.alloc b0.size _).drew)).oc ⟨_,0,none⟩ 1 (by rfl) t.name [.string t.name] rfl (zaq _ _ _ _ rfl) (fun u hu=>by simp at hu;rw[hu];rfl) (fun _ _=>rfl) (fun _ hb=>hb.elim) (by simp;omega) (by omega) _ rfl ?_
    intro g cap w3 hown hgrow hat hlt3;have hV:Below W1.heap.size W1 (W1.drew.alloc (.cells #[.string t.name] 9)):=b0.drew.alloc b0.drew.size _;have u1:=zas hgrow (HQ.out _ hV).1 (HN.out _ (.inl rfl));have g1:=zbc hgrow (HQ.out _ hV).1 (HQ.out _ hV).2 (HN.out _ (.inl rfl));have z1:=zas hgrow (HX.out _ hV).2.1 (HN.out _ (.inr (Qiz _))))
  |(fail))
 all_goals
  have F:=(HP.out _ (by first|exact b0.drew.alloc b0.drew.size _|exact(b0.alloc b0.size _).drew)).set_classes (v2:=.slice (some ⟨g,0,none⟩) (p.classes.length+1) cap) ((Chg.grown (S:=fun b=>(Value.slice Ai p.classes.length ci).ownBlock=some b) hgrow fun b hb=>hb).mono fun b _ q=>.inl q) (fun b e=>by simp[Value.ownBlock]at e;rcases hat with q|q;exact .inl (e▸q);exact .inr (by omega)) hown;have FB:=zab b1 (b0.drew.alloc b0.drew.size (.cells #[.string t.name] 9));have F2:=And.intro F.1 (PMv.pre FB F.2);clear u1 g1 hown hgrow hat z1 F FB;go_wp2
  refine bodyPost_end (v:=.tuple #[]) (by simp[results,Tryz.results195]) rfl ?_
  first
   |with_reducible exact⟨rfl,_,_,_,F2⟩
   |trace_state
theorem zms(pb:Nat)(t:Ty)(A:Option Addr)(c:Nat)(p:Pcs)(vi vs vc:Value)(w:World)(h:PcsAt pb p vi vs vc w)(hk:t.kind=3):
  Calls Tryz.prog 195 #[.pointer (some ⟨pb,0,none⟩),tyV t A c] w fun e w'=>e=.returned (.tuple #[])∧∃vi' vs' vc',PcsAt pb (zc3 t p) vi' vs' vc' w'∧PMv pb vi vs vc w vi' vs' vc' w':=by
 have hlt:=h.lt;rw[zey,if_neg (by rw[hk];decide),if_pos hk];have e2:(t.kind==2)=false:=Qfz (by rw[hk];decide);have e3:(t.kind==3)=true:=beq_iff_eq.2 hk;have e4:(t.kind==4)=false:=Qfz (by rw[hk];decide);obtain⟨q0,f0⟩:=h.cel 0 _ rfl;obtain⟨q1,f1⟩:=h.cel 1 _ rfl
 have HF2:Hid (∀(b0 b1:Bool) o,PcsAt pb { p with no:=b0,yes:=b1 } vi vs vc (((w.setCell ⟨pb,0,none⟩ (.bool b0)).setCell ⟨pb,1,none⟩ (.bool b1)).alloc o)∧PMv pb vi vs vc w vi vs vc (((w.setCell ⟨pb,0,none⟩ (.bool b0)).setCell ⟨pb,1,none⟩ (.bool b1)).alloc o)):=Qaz (fun b0 b1 o=>⟨((h.bool0 _).bool1 _).all ((Below.refl _ _).alloc (Qiz _) _),((PMv.set0 pb vi vs vc w 0 (.bool b0)).trans (PMv.set0 pb vi vs vc _ 1 (.bool b1))).post ((Below.refl _ _).alloc (Qiz _) _)⟩);obtain⟨pn,hpn⟩:∃b,b=p.no:=⟨_,rfl⟩;obtain⟨py,hpy⟩:∃b,b=p.yes:=⟨_,rfl⟩;rw[←hpn]at q0 ⊢;rw[←hpy]at q1 ⊢;clear h hk hpn hpy
 by_cases h0:t.lo=0
 ·have d0:(t.lo==0)=true:=beq_iff_eq.2 h0;have d1:(t.lo==1)=false:=Qfz (by omega);have D0:Hid (decide (t.lo=0)=true):=Qaz (Qhz h0);have D1:Hid (decide (t.lo=1)=false):=Qaz (Qgz (by omega));rw[D0.out,D1.out];clear h0;cases pn<;>cases py
  all_goals
   go_enter Tryz.func195,Tryz.ntmps195;go_wp2;refine bodyPost_end (v:=.tuple #[]) (by simp[results,Tryz.results195]) rfl ?_;exact⟨rfl,_,_,_,(HF2.out _ _ _).1,(HF2.out _ _ _).2⟩
 ·have d0:(t.lo==0)=false:=Qfz h0;have D0:Hid (decide (t.lo=0)=false):=Qaz (Qgz h0);rw[D0.out];by_cases h1:t.lo=1
  ·have d1:(t.lo==1)=true:=beq_iff_eq.2 h1;have D1:Hid (decide (t.lo=1)=true):=Qaz (Qhz h1);rw[D1.out];clear h0 h1;cases pn<;>cases py
   all_goals
    go_enter Tryz.func195,Tryz.ntmps195;go_wp2;refine bodyPost_end (v:=.tuple #[]) (by simp[results,Tryz.results195]) rfl ?_;exact⟨rfl,_,_,_,(HF2.out _ _ _).1,(HF2.out _ _ _).2⟩
  ·have d1:(t.lo==1)=false:=Qfz h1;have D1:Hid (decide (t.lo=1)=false):=Qaz (Qgz h1);rw[D1.out];clear h0 h1;cases pn<;>cases py
   all_goals
    go_enter Tryz.func195,Tryz.ntmps195;go_wp2;refine bodyPost_end (v:=.tuple #[]) (by simp[results,Tryz.results195]) rfl ?_;exact⟨rfl,_,_,_,(HF2.out _ _ _).1,(HF2.out _ _ _).2⟩
theorem zn6(w:World):Calls Tryz.prog 211 #[] w fun e w'=>e=.returned (.agg #[.int .i64 zb3.kind,.string zb3.name,.int .i64 zb3.lo,.int .i64 zb3.hi,.slice none 0 0])∧Below w.heap.size w w':=zr4 w
theorem zm2(pb:Nat)(t:Ty)(A:Option Addr)(c:Nat)(p:Pcs)(vi vs vc:Value)(w:World)(h:PcsAt pb p vi vs vc w)(hk:t.kind=1)(h1:t.name=zal)(ha:t.args=[])(hl:p.tot≤1000000):
  Calls Tryz.prog 195 #[.pointer (some ⟨pb,0,none⟩),tyV t A c] w fun e w'=>e=.returned (.tuple #[])∧∃vi' vs' vc',PcsAt pb (zc3 t p) vi' vs' vc' w'∧PMv pb vi vs vc w vi' vs' vc' w':=by
 have hlt:=h.lt;rw[zey,if_neg (by rw[hk];decide),if_neg (by rw[hk];decide),if_neg (by rw[hk];decide),if_pos hk,zpv,if_pos h1];unfold tyV;have ha0:t.args.length=0:=by rw[ha];rfl
 rw[ha0];obtain⟨W1,hW1⟩:∃W1,W1=(w.alloc (.cells #[.int .i64 t.kind,.string t.name,.int .i64 t.lo,.int .i64 t.hi,.slice A 0 c] 36)):=⟨_,rfl⟩;have b1:Below w.heap.size w W1:=by rw[hW1];exact(Below.refl _ w).alloc (Qiz _) _
 have HX:Hid (∀V,Below W1.heap.size W1 V→V.cell? ⟨w.heap.size,0,none⟩=some (.int .i64 t.kind)∧V.cell? ⟨w.heap.size,1,none⟩=some (.string t.name)∧V.cell? ⟨w.heap.size,2,none⟩=some (.int .i64 t.lo)):=Qaz (fun V hv=>by
  have x:∀j u,[Value.int .i64 t.kind,.string t.name,.int .i64 t.lo,.int .i64 t.hi,.slice A 0 c][j]? =some u→W1.cell? ⟨w.heap.size,j,none⟩=some u:=fun j u hj=>by rw[hW1];exact zac w _ _ _ rfl j u hj
  exact⟨zaa (x 0 _ rfl) hv,zaa (x 1 _ rfl) hv,zaa (x 2 _ rfl) hv⟩)
 have b0:Below W1.heap.size W1 W1:=Below.refl _ W1;have HP:Hid (∀V,Below W1.heap.size W1 V→PcsAt pb p vi vs vc V):=Qaz (fun V hv=>(h.all b1).all hv);have HB1:Hid (∀V,Below pb W1 V→Below pb w V):=Qaz (fun V hv=>(b1.mono (Nat.le_of_lt hlt)).trans hv);have hs1:w.heap.size≤W1.heap.size:=b1.size;obtain⟨x0,x1,x2⟩:=HX.out W1 b0;have hltW:pb<W1.heap.size:=by omega
 have hws:w.heap.size<W1.heap.size:=cell_lt x0;have e2:(t.kind==2)=false:=Qfz (by rw[hk];decide);have e3:(t.kind==3)=false:=Qfz (by rw[hk];decide);have e4:(t.kind==4)=false:=Qfz (by rw[hk];decide);have e1:(t.kind==1)=true:=beq_iff_eq.2 hk;have n1:decide (t.name=⟨#[60,105,110,116,101,103,101,114,62]⟩)=true:=Qhz h1;obtain⟨Ai,ci,hvi⟩:=h.oi.anyForm;subst hvi;have HQ:Hid (∀V,Below W1.heap.size W1 V→V.cell? ⟨pb,2,none⟩=some (.slice Ai p.ints.length ci)∧V.frozen? ⟨pb,2,none⟩=false):=Qaz (fun V hv=>(HP.out V hv).cel 2 _ rfl)
 have HN:Hid (∀b,b=pb∨w.heap.size≤b→(Value.slice Ai p.ints.length ci).ownBlock≠some b):=Qaz (fun b hb e=>by
  have:=h.oi.lt _ e;omega)
 have hl6:p.ints.length≤1000000:=by unfold Pcs.tot at hl;omega
 have wb:(p.ints.length:Int)<(p.ints.length:Int)+1:=by omega
 have w0:(0:Int)≤(p.ints.length:Int):=by omega
 obtain⟨q1,q2⟩:=HQ.out W1 b0;clear h hk h1 ha ha0 hl;go_enter Tryz.func195,Tryz.ntmps195;go_wp2_with (fail);rw[←hW1];clear hW1;go_wp2_with (fail)
 have HCA:Hid (∀V,Below (W1.alloc (.cells #[.int .i64 0,.string ⟨#[]⟩,.int .i64 0,.int .i64 0,.slice none 0 0] 36)).drew.heap.size (W1.alloc (.cells #[.int .i64 0,.string ⟨#[]⟩,.int .i64 0,.int .i64 0,.slice none 0 0] 36)).drew V→∀j u,[Value.int .i64 0,.string ⟨#[]⟩,.int .i64 0,.int .i64 0,.slice none 0 0][j]? =some u→V.cell? ((⟨W1.heap.size,0,none⟩:Addr).add j)=some u):=Qaz (fun V hv j u hu=>zaa (by simpa using zaq W1 #[.int .i64 0,.string ⟨#[]⟩,.int .i64 0,.int .i64 0,.slice none 0 0] _ _ rfl j u hu) hv)
 have BW:Hid (∀V V',Below W1.heap.size W1 V→Below V.heap.size V V'→Below W1.heap.size W1 V'):=Qaz (fun V V' h1 h2=>h1.trans (h2.mono h1.size))
 go_region_law (first
  |(refine za1 typR 36 5 (pb+1) 64 (fun _=>False) _ (by rfl) _ _ 34 _ (by rfl) Tryz.underlying34 zcp rfl (by decide) (by decide) (.slice Ai p.ints.length ci) p.ints (by rfl) (HP.out _ (by first|exact hbV|exact hbV.alloc hbV.size _)).oi ⟨_,0,none⟩ 1 (by rfl) zeu [.int .i64 0,.string ⟨#[]⟩,.int .i64 0,.int .i64 0,.slice none 0 0] rfl (by first|exact hcV|exact zaq _ _ _ _ rfl) zgx (zrl _) (fun _ hb=>hb.elim) (by have:=hbV.size;first|omega|(simp;omega)) (by omega) _ rfl ?_
    intro g cap w3 hown hgrow hat hlt3;obtain⟨⟨y0,f0⟩,⟨y1,f1⟩,⟨y2,f2⟩,⟨y3,f3⟩,A4,c4,y4,f4⟩:=zeroCells hown;have u1:=zas hgrow (HQ.out _ (by first|exact hbV|exact hbV.alloc hbV.size _)).1 (HN.out _ (.inl rfl));have g1:=zbc hgrow (HQ.out _ (by first|exact hbV|exact hbV.alloc hbV.size _)).1 (HQ.out _ (by first|exact hbV|exact hbV.alloc hbV.size _)).2 (HN.out _ (.inl rfl));have n1:g≠pb:=by
     rcases hat with e|e
     ·exact fun q=>HN.out g (.inl q) e
     ·have:=hbV.size;first|omega|(simp at e;omega))
  |(go_simp;go_at_call 211;refine(zn6 _).mono ?_;rintro e V ⟨rfl,hbv⟩
    have hbV:Below W1.heap.size W1 V:=by first|exact BW.out _ _ b0.drew hbv|exact BW.out _ _ (b0.alloc b0.size _).drew hbv|exact BW.out _ _ (b0.drew.alloc b0.drew.size _) hbv
    try (have hcV:=HCA.out _ hbv)
    obtain⟨q1,q2⟩:=HQ.out V hbV;have hltV:pb<V.heap.size:=Nat.lt_of_lt_of_le hltW hbV.size
    try go_simp))
 all_goals
  have F:=PcsAt.putI2 (zab b1 (show Below W1.heap.size W1 _ by first|exact hbV|exact hbV.alloc hbV.size _)) (HP.out _ (by first|exact hbV|exact hbV.alloc hbV.size _)) (Chg.grown hgrow fun b hb=>hb) hat hown zb3 rfl none 0 _ rfl;clear y0 f0 y1 f1 y2 f2 y3 f3 y4 f4 u1 g1 hown hgrow hat;go_wp2;refine bodyPost_end (v:=.tuple #[]) (by simp[results,Tryz.results195]) rfl ?_
  first
   |with_reducible exact⟨rfl,F.1⟩
   |with_reducible exact⟨rfl,F.2⟩
   |trace_state
theorem zmk(pb:Nat)(t:Ty)(A:Option Addr)(c:Nat)(p:Pcs)(vi vs vc:Value)(w:World)(h:PcsAt pb p vi vs vc w)(hk:t.kind=1)(hn:t.name=zan):
  Calls Tryz.prog 195 #[.pointer (some ⟨pb,0,none⟩),tyV t A c] w fun e w'=>e=.returned (.tuple #[])∧∃vi' vs' vc',PcsAt pb (zc3 t p) vi' vs' vc' w'∧PMv pb vi vs vc w vi' vs' vc' w':=by
 have hlt:=h.lt;rw[zey,if_neg (by rw[hk];decide),if_neg (by rw[hk];decide),if_neg (by rw[hk];decide),if_pos hk,zpv,if_neg (by rw[hn];decide),if_pos hn];have e2:(t.kind==2)=false:=Qfz (by rw[hk];decide);have e3:(t.kind==3)=false:=Qfz (by rw[hk];decide);have e4:(t.kind==4)=false:=Qfz (by rw[hk];decide);have e1:(t.kind==1)=true:=beq_iff_eq.2 hk;have n1:decide (t.name=⟨#[60,105,110,116,101,103,101,114,62]⟩)=false:=Qgz (by rw[hn];decide);have n2:decide (t.name=⟨#[60,98,111,111,108,101,97,110,62]⟩)=true:=Qhz hn;obtain⟨q0,f0⟩:=h.cel 0 _ rfl;obtain⟨q1,f1⟩:=h.cel 1 _ rfl
 have HF2:Hid (∀(b0 b1:Bool) o,PcsAt pb { p with no:=b0,yes:=b1 } vi vs vc (((w.setCell ⟨pb,0,none⟩ (.bool b0)).setCell ⟨pb,1,none⟩ (.bool b1)).alloc o)∧PMv pb vi vs vc w vi vs vc (((w.setCell ⟨pb,0,none⟩ (.bool b0)).setCell ⟨pb,1,none⟩ (.bool b1)).alloc o)):=Qaz (fun b0 b1 o=>⟨((h.bool0 _).bool1 _).all ((Below.refl _ _).alloc (Qiz _) _),((PMv.set0 pb vi vs vc w 0 (.bool b0)).trans (PMv.set0 pb vi vs vc _ 1 (.bool b1))).post ((Below.refl _ _).alloc (Qiz _) _)⟩);clear h hk hn;go_enter Tryz.func195,Tryz.ntmps195;go_wp2;refine bodyPost_end (v:=.tuple #[]) (by simp[results,Tryz.results195]) rfl ?_
 exact⟨rfl,_,_,_,(HF2.out _ _ _).1,(HF2.out _ _ _).2⟩
theorem zna(pb:Nat)(t:Ty)(A:Option Addr)(c:Nat)(p:Pcs)(vi vs vc:Value)(w:World)(h:PcsAt pb p vi vs vc w)(hk:t.kind=4)(hn:t.name=zak)(ha:t.args=[])(hl:p.tot≤1000000):
  Calls Tryz.prog 195 #[.pointer (some ⟨pb,0,none⟩),tyV t A c] w fun e w'=>e=.returned (.tuple #[])∧∃vi' vs' vc',PcsAt pb (zc3 t p) vi' vs' vc' w'∧PMv pb vi vs vc w vi' vs' vc' w':=by
 have hlt:=h.lt;rw[zey,if_neg (by rw[hk];decide),if_neg (by rw[hk];decide),if_pos hk,zv9,if_pos hn];unfold tyV;have ha0:t.args.length=0:=by rw[ha];rfl
 rw[ha0];obtain⟨W1,hW1⟩:∃W1,W1=(w.alloc (.cells #[.int .i64 t.kind,.string t.name,.int .i64 t.lo,.int .i64 t.hi,.slice A 0 c] 36)):=⟨_,rfl⟩;have b1:Below w.heap.size w W1:=by rw[hW1];exact(Below.refl _ w).alloc (Qiz _) _
 have HX:Hid (∀V,Below W1.heap.size W1 V→V.cell? ⟨w.heap.size,0,none⟩=some (.int .i64 t.kind)∧V.cell? ⟨w.heap.size,1,none⟩=some (.string t.name)∧V.cell? ⟨w.heap.size,2,none⟩=some (.int .i64 t.lo)):=Qaz (fun V hv=>by
  have x:∀j u,[Value.int .i64 t.kind,.string t.name,.int .i64 t.lo,.int .i64 t.hi,.slice A 0 c][j]? =some u→W1.cell? ⟨w.heap.size,j,none⟩=some u:=fun j u hj=>by rw[hW1];exact zac w _ _ _ rfl j u hj
  exact⟨zaa (x 0 _ rfl) hv,zaa (x 1 _ rfl) hv,zaa (x 2 _ rfl) hv⟩)
 have b0:Below W1.heap.size W1 W1:=Below.refl _ W1;have HP:Hid (∀V,Below W1.heap.size W1 V→PcsAt pb p vi vs vc V):=Qaz (fun V hv=>(h.all b1).all hv);have HB1:Hid (∀V,Below pb W1 V→Below pb w V):=Qaz (fun V hv=>(b1.mono (Nat.le_of_lt hlt)).trans hv);have hs1:w.heap.size≤W1.heap.size:=b1.size;obtain⟨x0,x1,x2⟩:=HX.out W1 b0;have hltW:pb<W1.heap.size:=by omega
 have hws:w.heap.size<W1.heap.size:=cell_lt x0;have e2:(t.kind==2)=false:=Qfz (by rw[hk];decide);have e3:(t.kind==3)=false:=Qfz (by rw[hk];decide);have e4:(t.kind==4)=true:=beq_iff_eq.2 hk;have n1:decide (t.name=⟨#[60,111,98,106,101,99,116,62]⟩)=true:=Qhz hn;obtain⟨Ai,ci,hvi⟩:=h.oc.anyForm;subst hvi;have HQ:Hid (∀V,Below W1.heap.size W1 V→V.cell? ⟨pb,4,none⟩=some (.slice Ai p.classes.length ci)∧V.frozen? ⟨pb,4,none⟩=false):=Qaz (fun V hv=>(HP.out V hv).cel 4 _ rfl);have HN:Hid (∀b,b=pb∨w.heap.size≤b→(Value.slice Ai p.classes.length ci).ownBlock≠some b):=Qaz (fun b hb e=>by
  have:=h.oc.lt _ e;omega)
 have hl6:p.classes.length≤1000000:=by unfold Pcs.tot at hl;omega
 have wb:(p.classes.length:Int)<(p.classes.length:Int)+1:=by omega
 have w0:(0:Int)≤(p.classes.length:Int):=by omega
 obtain⟨q1,q2⟩:=HQ.out W1 b0;obtain⟨q3,f3⟩:=h.cel 4 _ rfl;have hP:=(HP.out W1 b0);have hbW:=b1;rw[hW1]at hP hbW;have HPW:=Qaz hP;have HBW:=Qaz hbW;have hsz:(w.alloc (.cells #[.int .i64 t.kind,.string t.name,.int .i64 t.lo,.int .i64 t.hi,.slice A 0 c] 36)).heap.size=w.heap.size+1:=by simp
 clear h hk hn ha ha0 hl x0 x1 x2 q1 q2 HX HQ HP HB1 b1 b0 hs1 hltW hws hP hbW;go_enter Tryz.func195,Tryz.ntmps195;go_wp2_with (at_builtin;refine Classical.byContradiction fun hneg=> ?_);apply hneg;have HW0:=Qaz (Eq.refl W1);obtain⟨Wc,hWc⟩:∃Wc,Wc=w.alloc (.cells #[.int .i64 t.kind,.string t.name,.int .i64 t.lo,.int .i64 t.hi,.slice A 0 c] 36):=⟨_,rfl⟩;rw[←hWc]at HPW HBW;have hsW:Wc.heap.size=w.heap.size+1:=by rw[hWc];exact hsz
 have hrow:=HPW.out.oc;have hlW:=HPW.out.lt;rw[←hWc];refine zao zcz 9 1 (pb+1) 16 (fun _=>False) _ rfl _ _ 108 _ rfl Tryz.underlying108 info9 rfl (by decide) (by decide) (.slice Ai p.classes.length ci) p.classes ?ev (hrow.alloc (.cells #[.string zaw] 9)) ⟨w.heap.size+1,0,none⟩ 1 rfl zaw [.string zaw] rfl ?cells ?one ?held ?hG ?base ?len ?_
 case ev=>rfl
 case cells=>exact fun j u hu=>by have q:=zaq Wc #[.string zaw] 9 (w.heap.size+1) hsW.symm j u hu;exact q
 case one=>intro u hu;simp at hu;rw[hu];rfl
 case held=>exact fun _ _=>rfl
 case hG=>exact fun b hb _=>hb.elim
 case base=>first|omega|(simp;omega)
 case len=>first|omega|(simp;omega)
 intro v' w1 hown1 hg1 hat1;obtain⟨Av,cv,hv'⟩:=hown1.anyForm;subst hv';have F:=PcsAt.set_classes (HPW.out.all ((Below.refl _ Wc).alloc (Qiz _) (.cells #[.string zaw] 9))) (L:=p.classes++[zaw]) ((Chg.grown (S:=fun b=>(Value.slice Ai p.classes.length ci).ownBlock=some b) hg1 fun b hb=>hb).mono fun b _ q=>.inl q) (fun b e=>by
  rcases hat1 with q|q
  ·exact .inl (q▸e)
  ·rw[e]at q;cases q;exact .inr (Qiz _)) hown1
 have FB:Below w.heap.size w (Wc.alloc (.cells #[.string zaw] 9)):=HBW.out.alloc HBW.out.size _;have u1:=zas hg1 ((HPW.out.all ((Below.refl _ Wc).alloc (Qiz _) (.cells #[.string zaw] 9))).cel 4 _ rfl).1 (HN.out _ (.inl rfl));have g1:=zbc hg1 ((HPW.out.all ((Below.refl _ Wc).alloc (Qiz _) (.cells #[.string zaw] 9))).cel 4 _ rfl).1 ((HPW.out.all ((Below.refl _ Wc).alloc (Qiz _) (.cells #[.string zaw] 9))).cel 4 _ rfl).2 (HN.out _ (.inl rfl));have F2:=And.intro F.1 (PMv.pre FB F.2);rw[show(p.classes++[zaw]).length=p.classes.length+1 by simp]at F2;clear hown1 hg1 hat1 F FB hneg hrow;go_wp2
 refine bodyPost_end (v:=.tuple #[]) (by simp[results,Tryz.results195]) rfl ?_
 first|exact⟨rfl,_,_,_,F2⟩|exact⟨rfl,⟨_,_,_,F2.1⟩,F2.2⟩
end
end Go.Proofs.YtepnmejahbiacaaGreat
