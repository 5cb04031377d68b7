/- Part 1 of the proof: Wd. -/
import Derived.WalkKit
import Derived.Deep.LoopGhost
import Derived.BigQuiet
import Derived.Maps.AppendAt
import Derived.Lib.Hide
set_option linter.unusedVariables false
set_option linter.unusedSimpArgs false
set_option maxHeartbeats 64000000
set_option maxRecDepth 100000
namespace Go.Proofs.YtepnmejahbiacaaGreat
open Go.RowKit
theorem Qaz {p : Prop} (h : p) : Hid p := Lib.hid h
theorem Qbz {α : Type _} {l : List α} {i : Nat} (h : i < l.length) : l[i]? = some l[i] := List.getElem?_eq_getElem h
theorem Qcz {α : Type _} {l : List α} {i : Nat} {a : α} (h : l[i]? = some a) : ∃ h : i < l.length, l[i] = a := List.getElem?_eq_some_iff.1 h
theorem Qdz {α : Type _} {l : List α} {i : Nat} {a : α} (h : l[i]? = some a) : a ∈ l := List.mem_of_getElem? h
theorem Qez {α : Type _} {l : List α} {a : α} (h : a ∈ l) : ∃ i : Nat, l[i]? = some a := List.mem_iff_getElem?.1 h
theorem Qfz {α : Type _} [BEq α] [LawfulBEq α] {a b : α} (h : a ≠ b) : (a == b) = false := beq_eq_false_iff_ne.2 h
theorem Qgz {p : Prop} [Decidable p] (h : ¬ p) : decide p = false := decide_eq_false h
theorem Qhz {p : Prop} [Decidable p] (h : p) : decide p = true := decide_eq_true h
theorem Qiz (n : Nat) : n ≤ n := Nat.le_refl n
theorem Qjz (n : Nat) : 0 ≤ n := Nat.zero_le n
section
def Keep(G:Nat→Prop)(w w':World):Prop:=w.heap.size≤w'.heap.size∧∀b,b<w.heap.size→G b→w'.heap[b]? =w.heap[b]?
theorem Keep.refl(G:Nat→Prop)(w:World):Keep G w w:=⟨Qiz _,fun _ _ _=>rfl⟩
theorem Keep.trans{G:Nat→Prop}{a b c:World}(h:Keep G a b)(k:Keep G b c):Keep G a c:=
 ⟨Nat.le_trans h.1 k.1,fun i hi g=>(k.2 i (Nat.lt_of_lt_of_le hi h.1) g).trans (h.2 i hi g)⟩
theorem Keep.mono{G G':Nat→Prop}{w w':World}(h:Keep G w w')(hg:∀b,G' b→G b):Keep G' w w':=⟨h.1,fun b hb g=>h.2 b hb (hg b g)⟩
theorem Keep.below{B:Nat}{w w':World}(h:Below B w w'):Keep (· <B) w w':=⟨h.size,fun b _ g=>h.block b g⟩
theorem Keep.all{G:Nat→Prop}{w w':World}(h:Below w.heap.size w w'):Keep G w w':=⟨h.size,fun b hb _=>h.block b hb⟩
theorem Keep.alloc(G:Nat→Prop)(w:World)(o:Obj):Keep G w (w.alloc o):=Keep.all ((Below.refl _ w).alloc (Qiz _) o)
theorem Keep.drew(G:Nat→Prop)(w:World):Keep G w w.drew:=⟨Qiz _,fun _ _ _=>rfl⟩
theorem Keep.drewN(G:Nat→Prop)(w:World)(n:Nat):Keep G w (w.drewN n):=⟨Qiz _,fun _ _ _=>rfl⟩
theorem Keep.setCell{G:Nat→Prop}(w:World){p:Addr}(hp:∀b,G b→b≠p.block)(u:Value):Keep G w (w.setCell p u):=
 ⟨by simp[World.setCell],fun b _ g=>Below.heap_setCell w p u b (hp b g)⟩
theorem Keep.grown{G:Nat→Prop}{w w':World}{row:Option Nat}(h:w.grownBy w' row)(hr:∀b,G b→some b≠row):Keep G w w':=
 ⟨h.size,fun b hb g=>h.block b hb (hr b g)⟩
structure Chg (S:Nat→Prop) (w w':World):Prop where
 os:w'.os=w.os
 tape:w'.tape=w.tape
 output:w'.output=w.output
 size:w.heap.size≤w'.heap.size
 block:∀b,b<w.heap.size→¬S b→w'.heap[b]? =w.heap[b]?
theorem Chg.refl(S:Nat→Prop)(w:World):Chg S w w:=⟨rfl,rfl,rfl,Qiz _,fun _ _ _=>rfl⟩
theorem Chg.of{S:Nat→Prop}{w w':World}(h:Below w.heap.size w w'):Chg S w w':=⟨h.os,h.tape,h.output,h.size,fun b hb _=>h.block b hb⟩
theorem Chg.trans{S:Nat→Prop}{a b c:World}(h:Chg S a b)(k:Chg S b c):Chg S a c:=
 ⟨k.os.trans h.os,k.tape.trans h.tape,k.output.trans h.output,Nat.le_trans h.size k.size,fun i hi hs=>(k.block i (Nat.lt_of_lt_of_le hi h.size) hs).trans (h.block i hi hs)⟩
theorem Chg.mono{S S':Nat→Prop}{w w':World}(h:Chg S w w')(hs:∀b,b<w.heap.size→S b→S' b):Chg S' w w':=⟨h.os,h.tape,h.output,h.size,fun b hb hn=>h.block b hb fun q=>hn (hs b hb q)⟩
theorem Chg.keep{S G:Nat→Prop}{w w':World}(h:Chg S w w')(hg:∀b,G b→¬S b):Keep G w w':=⟨h.size,fun b hb g=>h.block b hb (hg b g)⟩
theorem Chg.below{S:Nat→Prop}{w w':World}(h:Chg S w w'){B:Nat}(hB:B≤w.heap.size)(hs:∀b,S b→B≤b):Below B w w':=⟨h.os,h.tape,h.output,h.size,fun b hb=>h.block b (by omega) fun q=>by have:=hs b q;omega⟩
theorem Chg.alloc{S:Nat→Prop}(w:World)(o:Obj):Chg S w (w.alloc o):=.of ((Below.refl _ w).alloc (Qiz _) o)
theorem Chg.drew{S:Nat→Prop}(w:World):Chg S w w.drew:=⟨rfl,rfl,rfl,Qiz _,fun _ _ _=>rfl⟩
theorem Chg.drewN{S:Nat→Prop}(w:World)(n:Nat):Chg S w (w.drewN n):=⟨rfl,rfl,rfl,Qiz _,fun _ _ _=>rfl⟩
theorem Chg.setCell{S:Nat→Prop}(w:World){p:Addr}(hp:S p.block)(u:Value):Chg S w (w.setCell p u):=⟨rfl,rfl,rfl,by simp[World.setCell],fun b _ hs=>Below.heap_setCell w p u b fun e=>hs (e▸hp)⟩
theorem Chg.grown{S:Nat→Prop}{w w':World}{row:Option Nat}(h:w.grownBy w' row)(hr:∀b,row=some b→S b):Chg S w w':=
 ⟨h.os,h.tape,h.output,h.size,fun b hb hs=>h.block b hb fun e=>hs (hr b e.symm)⟩
def Held(G:Nat→Prop)(R:World→Prop)(w:World):Prop:=∀w',Keep G w w'→R w'
theorem Held.now{G:Nat→Prop}{R:World→Prop}{w:World}(h:Held G R w):R w:=h w (Keep.refl _ _)
theorem Held.keep{G:Nat→Prop}{R:World→Prop}{w w':World}(h:Held G R w)(k:Keep G w w'):Held G R w':=fun _ k'=>h _ (k.trans k')
theorem Held.mono{G G':Nat→Prop}{R:World→Prop}{w:World}(h:Held G R w)(hg:∀b,b<w.heap.size→G b→G' b):Held G' R w:=
 fun _ k=>h _ ⟨k.1,fun b hb g=>k.2 b hb (hg b hb g)⟩
theorem Held.imp{G:Nat→Prop}{R R':World→Prop}{w:World}(h:Held G R w)(hr:∀w',Keep G w w'→R w'→R' w'):Held G R' w:=fun w' k=>hr w' k (h w' k)
theorem Held.here{G:Nat→Prop}{R:World→Prop}{w:World}(h:Held G R w):Held (· <w.heap.size) R w:=fun _ k=>h _ ⟨k.1,fun b hb _=>k.2 b hb hb⟩
theorem Held.below{B:Nat}{R:World→Prop}{w w':World}(h:Held (· <B) R w)(k:Below B w w'):Held (· <B) R w':=h.keep (Keep.below k)
theorem Held.all{G:Nat→Prop}{R:World→Prop}{w w':World}(h:Held G R w)(k:Below w.heap.size w w'):Held G R w':=h.keep (Keep.all k)
theorem Held.lt{G:Nat→Prop}{R:World→Prop}{w:World}(h:Held G R w):Held (fun b=>G b∧b<w.heap.size) R w:=fun _ k=>h _ ⟨k.1,fun b hb g=>k.2 b hb ⟨g,hb⟩⟩
theorem Held.cell{G:Nat→Prop}{w:World}{a:Addr}{v:Value}(hg:G a.block)(h:w.cell? a=some v):Held G (fun w=>w.cell? a=some v) w:=fun w' k=>by
 have hlt:a.block<w.heap.size:=by
  unfold World.cell? at h
  split at h
  ·rename_i h';exact(Array.getElem?_eq_some_iff.1 h').1
  ·simp at h
 exact(World.cell?_of_block (k.2 _ hlt hg)).trans h
theorem cell_lt{w:World}{a:Addr}{v:Value}(h:w.cell? a=some v):a.block<w.heap.size:=by
 unfold World.cell? at h
 split at h
 ·rename_i h';exact(Array.getElem?_eq_some_iff.1 h').1
 ·simp at h
theorem zah{G:Nat→Prop}{w w':World}{a:Addr}{v:Value}(h:w.cell? a=some v)(k:Keep G w w')(hg:G a.block):w'.cell? a=some v:=(Held.cell hg h) w' k
theorem zaa{w w':World}{a:Addr}{v:Value}(h:w.cell? a=some v)(k:Below w.heap.size w w'):w'.cell? a=some v:=zah h (Keep.all (G:=fun _=>True) k) trivial
def Slc{α:Type}(R:α→List Value→World→Prop)(sz:Nat)(A:Option Addr)(l:List α)(w:World):Prop:=
 ∀i x,l[i]? =some x→∃b off cs,A=some ⟨b,off,none⟩∧cs.length=sz∧R x cs w∧∀j v,cs[j]? =some v→w.cell? ⟨b,off+i*sz+j,none⟩=some v
theorem Slc.addr{α:Type}{R:α→List Value→World→Prop}{sz:Nat}{A:Option Addr}{l:List α}{w:World}(h:Slc R sz A l w)(hl:0<l.length):∃b off,A=some ⟨b,off,none⟩:=by
 obtain⟨b,off,_,e,_⟩:=h 0 _ (Qbz hl);exact⟨b,off,e⟩
theorem Slc.nil{α:Type}(R:α→List Value→World→Prop)(sz:Nat)(A:Option Addr)(w:World):Slc R sz A [] w:=fun i x h=>by simp at h
theorem Slc.held{α:Type}{R:α→List Value→World→Prop}{sz:Nat}{A:Option Addr}{l:List α}{w:World}{G:Nat→Prop}
  (h:Slc (fun x cs=>Held G (R x cs)) sz A l w) (hg:∀b off,0<sz→A=some ⟨b,off,none⟩→G b):Held G (Slc R sz A l) w:=fun w' k i x hx=>by
 obtain⟨b,off,cs,e,hl,hr,hc⟩:=h i x hx;refine⟨b,off,cs,e,hl,hr w' k,fun j v hv=> ?_⟩;have hsz:0<sz:=by have:=(Qcz hv).1;omega
 exact(Held.cell (hg b off hsz e) (hc j v hv)) w' k
def Stable{α:Type}(R:α→List Value→World→Prop):Prop:=∀w x cs,R x cs w→Held (fun _=>True) (R x cs) w
theorem Slc.stable{α:Type}{R:α→List Value→World→Prop}{sz:Nat}(hR:Stable R){A:Option Addr}{l:List α}{w:World}(h:Slc R sz A l w):Held (fun _=>True) (Slc R sz A l) w:=
 Slc.held (fun i x hx=>by obtain⟨b,off,cs,e,hl,hr,hc⟩:=h i x hx;exact⟨b,off,cs,e,hl,hR _ _ _ hr,hc⟩) (fun _ _ _ _=>trivial)
theorem Slc.imp{α:Type}{R R':α→List Value→World→Prop}{sz:Nat}{A:Option Addr}{l:List α}{w:World}(h:Slc R sz A l w)(hr:∀x cs,R x cs w→R' x cs w):Slc R' sz A l w:=
 fun i x hx=>by obtain⟨b,off,cs,e,hl,r,hc⟩:=h i x hx;exact⟨b,off,cs,e,hl,hr _ _ r,hc⟩
theorem Slc.take{α:Type}{R:α→List Value→World→Prop}{sz:Nat}{A:Option Addr}{l:List α}{w:World}(h:Slc R sz A l w)(n:Nat):Slc R sz A (l.take n) w:=fun i x hx=>by
 rw[List.getElem?_take]at hx
 split at hx
 ·exact h i x hx
 ·simp at hx
theorem Slc.drop{α:Type}{R:α→List Value→World→Prop}{sz b off:Nat}{l:List α}{w:World}(h:Slc R sz (some ⟨b,off,none⟩) l w)(n:Nat):Slc R sz (some ⟨b,off+n*sz,none⟩) (l.drop n) w:=fun i x hx=>by
 rw[List.getElem?_drop]at hx;obtain⟨b',off',cs,e,hl,hr,hc⟩:=h (n+i) x hx;simp only[Option.some.injEq,Addr.mk.injEq,and_true]at e;obtain⟨rfl,rfl⟩:=e;refine⟨_,_,cs,rfl,hl,hr,fun j v hv=> ?_⟩;have:=hc j v hv
 rwa [Nat.add_mul,←Nat.add_assoc off]at this
theorem Slc.inG{α:Type}{R:α→List Value→World→Prop}{sz b off:Nat}{l:List α}{w:World}{G:Nat→Prop}(h:Held G (Slc R sz (some ⟨b,off,none⟩) l) w)(hl:0<l.length)(hs:0<sz):b<w.heap.size∧G b:=by
 have one:∀w',Keep G w w'→∃o v,w'.cell? ⟨b,o,none⟩=some v:=fun w' k=>by
  obtain⟨b',off',cs,e,hcl,_,hc⟩:=h w' k 0 _ (Qbz hl);simp only[Option.some.injEq,Addr.mk.injEq,and_true]at e;obtain⟨rfl,rfl⟩:=e;exact⟨_,_,hc 0 _ (Qbz (by omega))⟩
 obtain⟨o,v,hv⟩:=one w (Keep.refl _ _);refine⟨cell_lt hv,Classical.byContradiction fun hn=> ?_⟩;obtain⟨o,v,hv⟩:=one { w with heap:=w.heap.setIfInBounds b (.map #[] 0) } ⟨by simp,fun k hk hg=>by
  have hne:b≠k:=fun e=>hn (e▸hg);simp[Array.getElem?_setIfInBounds_ne hne]⟩
 have hlt:=cell_lt hv;simp only[World.cell?]at hv;rw[Array.getElem?_setIfInBounds_self_of_lt (by simpa using hlt)]at hv;simp at hv
theorem Slc.atH{α:Type}{R:α→List Value→World→Prop}{sz b off:Nat}{l:List α}{w:World}{G:Nat→Prop}(h:Held G (Slc R sz (some ⟨b,off,none⟩) l) w)(hs:0<sz){k:Nat}{x:α}(hk:l[k]? =some x):
  ∃cs,cs.length=sz∧Held G (R x cs) w∧∀j v,cs[j]? =some v→Held G (fun w=>w.cell? ⟨b,off+k*sz+j,none⟩=some v) w:=by
 have hl:k<l.length:=(Qcz hk).1;obtain⟨hb,hg⟩:=Slc.inG h (by omega) hs;obtain⟨b',off',cs,e,hcl,hr,hc⟩:=h.now k x hk;simp only[Option.some.injEq,Addr.mk.injEq,and_true]at e;obtain⟨rfl,rfl⟩:=e;have hcell:∀j v,cs[j]? =some v→Held G (fun w=>w.cell? ⟨b,off+k*sz+j,none⟩=some v) w:=fun j v hv=>Held.cell (a:=⟨b,off+k*sz+j,none⟩) hg (hc j v hv);refine⟨cs,hcl,fun w' kp=> ?_,hcell⟩;obtain⟨b',off',cs',e,hcl',hr',hc'⟩:=h w' kp k x hk;simp only[Option.some.injEq,Addr.mk.injEq,and_true]at e;obtain⟨rfl,rfl⟩:=e;have:cs'=cs:=by
  apply List.ext_getElem?;intro j;rcases Nat.lt_or_ge j sz with hj|hj
  ·have h1:=hc' j _ (Qbz (by omega));have h2:=hcell j _ (Qbz (by omega)) w' kp;rw[Qbz (by omega),Qbz (by omega)];exact h1.symm.trans h2
  ·rw[List.getElem?_eq_none (by omega),List.getElem?_eq_none (by omega)]
 rw[←this];exact hr'
inductive Enc {α:Type} (R:α→List Value→Prop) (sz:Nat):List α→List Value→Prop
 |nil:Enc R sz [] []
 |snoc {l:List α} {xs:List Value} {x:α} {cs:List Value}:Enc R sz l xs→R x cs→cs.length=sz→Enc R sz (l++[x]) (xs++cs)
theorem Enc.imp{α:Type}{R R':α→List Value→Prop}{sz:Nat}{l:List α}{xs:List Value}(h:Enc R sz l xs)(hr:∀x cs,R x cs→R' x cs):Enc R' sz l xs:=by
 induction h with
 |nil=>exact .nil
 |snoc _ hx hl ih=>exact .snoc ih (hr _ _ hx) hl
theorem Enc.length{α:Type}{R:α→List Value→Prop}{sz:Nat}{l:List α}{xs:List Value}(h:Enc R sz l xs):xs.length=l.length*sz:=by
 induction h with
 |nil=>simp
 |snoc _ _ hl ih=>simp[ih,hl,Nat.add_mul]
theorem Enc.get{α:Type}{R:α→List Value→Prop}{sz:Nat}{l:List α}{xs:List Value}(h:Enc R sz l xs):∀i x,l[i]? =some x→∃cs,cs.length=sz∧R x cs∧∀j v,cs[j]? =some v→xs[i*sz+j]? =some v:=by
 induction h with
 |nil=>intro i x hx;simp at hx
 | @snoc l xs x cs h hx hl ih=>
  intro i y hy;rcases Nat.lt_or_ge i l.length with hi|hi
  ·rw[List.getElem?_append_left hi]at hy;obtain⟨cs',hl',hr',hc'⟩:=ih i y hy;refine⟨cs',hl',hr',fun j v hv=> ?_⟩;have h1:=hc' j v hv;rw[List.getElem?_append_left (Qcz h1).1];exact h1
  ·rw[List.getElem?_append_right hi]at hy;have h0:i-l.length=0:=by
    have:=(Qcz hy).1;simp at this;omega
   rw[h0]at hy;simp at hy;subst hy;have hil:i=l.length:=by omega
   subst hil;refine⟨cs,hl,hx,fun j v hv=> ?_⟩;rw[←h.length,List.getElem?_append_right (by omega)]
   simpa using hv
def Own{α:Type}(R:α→List Value→World→Prop)(T sz base:Nat)(G:Nat→Prop)(v:Value)(l:List α)(w:World):Prop:=
 ∃xs,w.ownsRow base T sz v l.length xs∧Enc (fun x cs=>Held G (R x cs) w) sz l xs
theorem Own.nil{α:Type}(R:α→List Value→World→Prop)(T sz base:Nat)(G:Nat→Prop)(w:World):Own R T sz base G (.slice none 0 0) [] w:=⟨[],⟨by simp,.inl ⟨rfl,rfl⟩⟩,.nil⟩
theorem zrn{w w':World}{base:Nat}{e:TypeId}{size n:Nat}{v:Value}{xs:List Value}(h:w.ownsRow base e size v n xs)(hm:∀k,v.ownBlock=some k→w'.heap[k]? =w.heap[k]?):w'.ownsRow base e size v n xs:=by
 obtain⟨h1,h2⟩:=h;refine⟨h1,?_⟩;rcases h2 with h2|⟨g,cap,cur,rfl,hg,hh,r⟩
 ·exact .inl h2
 ·exact .inr ⟨g,cap,cur,rfl,hg,(hm g (by simp[Value.ownBlock])).trans hh,r⟩
theorem Own.lt{α:Type}{R:α→List Value→World→Prop}{T sz base:Nat}{G:Nat→Prop}{v:Value}{l:List α}{w:World}(h:Own R T sz base G v l w)(k:Nat)(hk:v.ownBlock=some k):base≤k∧k<w.heap.size:=by
 obtain⟨xs,⟨_,h2⟩,_⟩:=h;rcases h2 with⟨rfl,_⟩|⟨g,cap,cur,rfl,hg,hh,_⟩
 ·simp[Value.ownBlock]at hk
 ·have:g=k:=by simpa[Value.ownBlock]using hk
  subst this;exact⟨hg,(Array.getElem?_eq_some_iff.1 hh).1⟩
theorem Own.keep{α:Type}{R:α→List Value→World→Prop}{T sz base:Nat}{G:Nat→Prop}{v:Value}{l:List α}{w w':World}(h:Own R T sz base G v l w)(k:Keep G w w')(hm:∀k,v.ownBlock=some k→w'.heap[k]? =w.heap[k]?):Own R T sz base G v l w':=by
 obtain⟨xs,h1,h2⟩:=h;exact⟨xs,zrn h1 hm,h2.imp fun _ _ hx=>hx.keep k⟩
theorem Own.all{α:Type}{R:α→List Value→World→Prop}{T sz base:Nat}{G:Nat→Prop}{v:Value}{l:List α}{w w':World}(h:Own R T sz base G v l w)(k:Below w.heap.size w w'):Own R T sz base G v l w':=
 h.keep (Keep.all k) fun _ hk=>k.block _ (h.lt _ hk).2
theorem Own.alloc{α:Type}{R:α→List Value→World→Prop}{T sz base:Nat}{G:Nat→Prop}{v:Value}{l:List α}{w:World}(h:Own R T sz base G v l w)(o:Obj):Own R T sz base G v l (w.alloc o):=h.all ((Below.refl _ w).alloc (Qiz _) o)
theorem Own.drew{α:Type}{R:α→List Value→World→Prop}{T sz base:Nat}{G:Nat→Prop}{v:Value}{l:List α}{w:World}(h:Own R T sz base G v l w):Own R T sz base G v l w.drew:=h.all ((Below.refl _ w).drew)
theorem Own.drewN{α:Type}{R:α→List Value→World→Prop}{T sz base:Nat}{G:Nat→Prop}{v:Value}{l:List α}{w:World}(h:Own R T sz base G v l w)(n:Nat):Own R T sz base G v l (w.drewN n):=h.all ⟨rfl,rfl,rfl,Qiz _,fun _ _=>rfl⟩
theorem Own.setCell{α:Type}{R:α→List Value→World→Prop}{T sz base:Nat}{G:Nat→Prop}{v:Value}{l:List α}{w:World}(h:Own R T sz base G v l w){p:Addr}(hg:∀b,G b→b≠p.block)(hv:v.ownBlock≠some p.block)(u:Value):Own R T sz base G v l (w.setCell p u):=
 h.keep (Keep.setCell w hg u) fun k hk=>Below.heap_setCell w p u k (fun e=>hv (e▸hk))
theorem Own.mono{α:Type}{R:α→List Value→World→Prop}{T sz base:Nat}{G G':Nat→Prop}{v:Value}{l:List α}{w:World}(h:Own R T sz base G v l w)(hg:∀b,b<w.heap.size→G b→G' b):Own R T sz base G' v l w:=by
 obtain⟨xs,h1,h2⟩:=h;exact⟨xs,h1,h2.imp fun _ _ hx=>hx.mono hg⟩
theorem Own.lower{α:Type}{R:α→List Value→World→Prop}{T sz base base':Nat}{G:Nat→Prop}{v:Value}{l:List α}{w:World}(h:Own R T sz base G v l w)(hb:base'≤base):Own R T sz base' G v l w:=by
 obtain⟨xs,⟨h0,h1⟩,h2⟩:=h;refine⟨xs,⟨h0,?_⟩,h2⟩;rcases h1 with h1|⟨g,cap,cur,rfl,hg,r⟩
 ·exact .inl h1
 ·exact .inr ⟨g,cap,cur,rfl,by omega,r⟩
theorem Own.out{α:Type}{R:α→List Value→World→Prop}{T sz base:Nat}{G:Nat→Prop}{v:Value}{l:List α}{w:World}(h:Own R T sz base G v l w):
  ∃A c,v=.slice A l.length c∧l.length≤c∧Held (fun b=>G b∨v.ownBlock=some b) (Slc R sz A l) w:=by
 obtain⟨xs,⟨hl,h2⟩,he⟩:=h;rcases h2 with⟨rfl,h0⟩|⟨g,cap,cur,rfl,hg,hh,hn,hm,hs,ht⟩
 ·have:l=[]:=List.length_eq_zero_iff.1 h0;subst this;exact⟨none,0,rfl,Qiz _,fun w' _=>Slc.nil _ _ _ _⟩
 ·refine⟨_,cap,rfl,hn,?_⟩;refine Slc.held (R:=R) (fun i x hx=> ?_) (fun b off _ e=>.inr (by cases e;rfl));obtain⟨cs,h1,h2,h3⟩:=he.get i x hx;refine⟨g,0,cs,rfl,h1,h2.mono fun b _ hb=>.inl hb,fun j v hv=> ?_⟩;have h4:=h3 j v hv;rw[←ht,List.getElem?_take]at h4
  split at h4
  ·rw[Nat.zero_add];simp only[World.cell?,hh]
   simpa using h4
  ·simp at h4
theorem zaq(W:World)(cs:Array Value)(t:TypeId)(n:Nat)(hn:n=W.heap.size):∀j u,cs.toList[j]? =some u→(W.alloc (.cells cs t)).cell? ((⟨n,0,none⟩:Addr).add j)=some u:=by
 subst hn;intro j u hj;have e:((⟨W.heap.size,0,none⟩:Addr).add j)=⟨W.heap.size,j,none⟩:=by
  unfold Addr.add;by_cases h0:j=0
  ·simp[h0]
  ·simp[h0]
 rw[e];unfold World.cell?;rw[heap_alloc_new]
 simpa using hj
theorem zac(W:World)(cs:Array Value)(t:TypeId)(n:Nat)(hn:n=W.heap.size)(j:Nat)(u:Value)(hj:cs.toList[j]? =some u):(W.alloc (.cells cs t)).cell? ⟨n,j,none⟩=some u:=by
 subst hn;unfold World.cell?;rw[heap_alloc_new]
 simpa using hj
theorem Own.read{α:Type}{R:α→List Value→World→Prop}{T sz base:Nat}{G:Nat→Prop}{A:Option Addr}{n c:Nat}{l:List α}{w:World}(h:Own R T sz base G (.slice A n c) l w):
  n=l.length∧n≤c∧Held (fun b=>G b∨(Value.slice A n c).ownBlock=some b) (Slc R sz A l) w:=by
 obtain⟨A',c',e,h1,h2⟩:=h.out;simp only[Value.slice.injEq]at e;obtain⟨rfl,rfl,rfl⟩:=e;exact⟨rfl,h1,h2⟩
theorem zkp{α:Type}{l:List α}{i:Nat}{x:α}(h:l[i]? =some x):l.set i x=l:=by
 obtain⟨hi,rfl⟩:=Qcz h;exact List.set_getElem_self hi
theorem take_snoc{α:Type}{l:List α}{k:Nat}{x:α}(h:l[k]? =some x):l.take (k+1)=l.take k++[x]:=by rw[List.take_add_one,h];rfl
section
variable {P:Program} {ops:Array Oper} {rest:List Oper} {o:Oper} {a:Act} {Q:Exit→Act→World→Prop}
theorem zao{α:Type}(R:α→List Value→World→Prop)(T sz base bytes:Nat)(G:Nat→Prop)(W:World)(hgd:o.guard=none)(s x:Operand)(t:TypeId)(z:Value)
  (ho:o.op=.call { callee:=.builtin .append,args:= #[s,x],argTypes:= #[t,t] }) (ht:P.underlying t=some (.slice T))
  (hinfo:(P.info? T).map (fun i=>(i.zero,i.size,i.bytes))=some (some z,sz,bytes)) (hz:z.cells.size=sz) (hs0:0<sz) (hb0:0<bytes)
  (v:Value) (l:List α) (hs:a.eval s=v) (hown:Own R T sz base G v l W) (ad:Addr) (c:Nat) (hx:a.eval x=.slice (some ad) 1 c)
  (y:α) (cs:List Value) (hcl:cs.length=sz) (hcs:∀j u,cs[j]? =some u→W.cell? (ad.add j)=some u) (h1:∀u∈cs,u.oneCell'=true) (hR:Held G (R y cs) W)
  (hG:∀b,G b→v.ownBlock≠some b) (hbase:base≤W.heap.size) (hlen:(l.length+1)*bytes≤140737488355328)
  (h:∀v' w',Own R T sz base G v' (l++[y]) w'→W.grownBy w' v.ownBlock→(v'.ownBlock=v.ownBlock∨v'.ownBlock=some W.heap.size)→wpList P ops Q rest (a.put o.dst v') w'):wpList P ops Q (o::rest) a W:=by
 obtain⟨i0,hi,hzz⟩:=Option.map_eq_some_iff.1 hinfo;simp only[Prod.mk.injEq]at hzz;obtain⟨hz0,hz1,hz2⟩:=hzz;obtain⟨xs,hrow,henc⟩:=hown;have hl1:l.length+1≤140737488355328:=Nat.le_trans (Nat.le_mul_of_pos_right _ hb0) hlen;refine wpList_append_own_at W hgd s x t ho base T i0 z sz bytes ht hi hz0 hz1 hz2 hz hs0 v l.length xs hs hrow ad 1 c cs hx (by rw[hcl];simp) hcs h1 (by simp only[maxLen];omega) hlen hbase ?_;intro v' w' hrow' hg _ hat;refine h v' w' ⟨xs++cs,by simpa using hrow',?_⟩ hg hat;have k:Keep G W w':=Keep.grown hg fun b hb=>fun e=>hG b hb e.symm
 exact .snoc (henc.imp fun _ _ hx=>hx.keep k) (hR.keep k) hcl
end
def zw1{α:Type}(R:α→List Value→World→Prop):Prop:=∀x cs w,R x cs w→∀u∈cs,u.oneCell'=true
theorem Enc.append{α:Type}{R:α→List Value→Prop}{sz:Nat}{l m:List α}{xs ys:List Value}(h:Enc R sz l xs)(k:Enc R sz m ys):Enc R sz (l++m) (xs++ys):=by
 induction k with
 |nil=>simpa using h
 |snoc _ hx hl ih=>rw[←List.append_assoc,←List.append_assoc];exact .snoc ih hx hl
theorem Slc.cells{α:Type}{R:α→List Value→World→Prop}{sz b off:Nat}{G:Nat→Prop}{w:World}(h1:zw1 R)(l:List α)(hs:0<sz)(h:Held G (Slc R sz (some ⟨b,off,none⟩) l) w):
  ∀n,n≤l.length→∃xs,Enc (fun x cs=>Held G (R x cs) w) sz (l.take n) xs∧(∀j u,xs[j]? =some u→w.cell? ⟨b,off+j,none⟩=some u)∧∀u∈xs,u.oneCell'=true
 |0,_=>⟨[],by simpa using Enc.nil,fun j u h=>by simp at h,fun u h=>by simp at h⟩
 |n+1,hn=>by
  obtain⟨xs,he,hc,ho⟩:=Slc.cells h1 l hs h n (by omega);have hx:l[n]? =some l[n]:=Qbz (by omega);obtain⟨cs,hl,hr,hcs⟩:=Slc.atH h hs hx;refine⟨xs++cs,?_,fun j u hj=> ?_,fun u hu=> ?_⟩
  ·rw[List.take_add_one,hx];exact .snoc he hr hl
  ·have hxl:xs.length=n*sz:=by rw[he.length,List.length_take,Nat.min_eq_left (by omega)]
   rcases Nat.lt_or_ge j xs.length with hj'|hj'
   ·rw[List.getElem?_append_left hj']at hj;exact hc j u hj
   ·rw[List.getElem?_append_right hj']at hj;have:=(hcs _ u hj).now;rw[hxl]at hj' this
    rwa [Nat.add_assoc,Nat.add_sub_cancel' hj']at this
  ·rcases List.mem_append.1 hu with h|h
   ·exact ho u h
   ·exact h1 _ _ _ hr.now u h
theorem addr_add(b off j:Nat):((⟨b,off,none⟩:Addr).add j)=⟨b,off+j,none⟩:=by
 unfold Addr.add;by_cases h0:j=0
 ·simp[h0]
 ·simp[h0]
theorem run_append_nothing{P:Program}(w:World)(base:Nat)(t ty e:TypeId)(i:TypeInfo)(size:Nat)(ht:P.underlying t=some (.slice e))(hi:P.info? e=some i)
  (v:Value) (n:Nat) (xs:List Value) (hown:w.ownsRow base e size v n xs) (c:Nat):(Builtin.append_ #[t,t] ty #[v,.slice none 0 c]).run P w=.ok v w:=by
 obtain⟨_,h⟩:=hown;rcases h with⟨rfl,rfl⟩|⟨g,cap,cur,rfl,_,_,hnc,_⟩<;>simp[Builtin.append_,run_underlying ht,sizeOf,typeInfo,Builtin.lenOf,Builtin.firstCells,storeCells, *]
section
variable {P:Program} {ops:Array Oper} {rest:List Oper} {o:Oper} {a:Act} {Q:Exit→Act→World→Prop}
theorem zby{α:Type}(R:α→List Value→World→Prop)(h1R:zw1 R)(T sz base bytes:Nat)(G:Nat→Prop)(W:World)(hgd:o.guard=none)(s x:Operand)(t:TypeId)(z:Value)
  (ho:o.op=.call { callee:=.builtin .append,args:= #[s,x],argTypes:= #[t,t] }) (ht:P.underlying t=some (.slice T))
  (hinfo:(P.info? T).map (fun i=>(i.zero,i.size,i.bytes))=some (some z,sz,bytes)) (hz:z.cells.size=sz) (hs0:0<sz) (hb0:0<bytes)
  (v:Value) (l m:List α) (hs:a.eval s=v) (hown:Own R T sz base G v l W) (A:Option Addr) (c n:Nat) (hx:a.eval x=.slice A n c) (hnm:n=m.length)
  (hsrc:Held G (Slc R sz A m) W) (hG:∀b,G b→v.ownBlock≠some b) (hbase:base≤W.heap.size) (hlen:(l.length+m.length)*bytes≤140737488355328)
  (h:∀v' w',Own R T sz base G v' (l++m) w'→W.grownBy w' v.ownBlock→(v'.ownBlock=v.ownBlock∨v'.ownBlock=some W.heap.size)→wpList P ops Q rest (a.put o.dst v') w'):wpList P ops Q (o::rest) a W:=by
 subst hnm;obtain⟨i0,hi,hzz⟩:=Option.map_eq_some_iff.1 hinfo;simp only[Prod.mk.injEq]at hzz;obtain⟨hz0,hz1,hz2⟩:=hzz;obtain⟨xs,hrow,henc⟩:=hown;by_cases hm:m=[]
 ·subst hm;rcases A with _|ad
  ·refine wpList_plain hgd fun K hK=> ?_;have hr:=run_append_nothing (P:=P) W base t o.type T i0 sz ht hi v l.length xs hrow c;unfold Oper.wp execOp;rw[List.length_nil]at hx;simp only[ho,resolve,invoke,builtin,Sem.run_bind,Sem.run_pure,Result.andThen_ok,List.map_toArray,List.map_cons,List.map_nil,hs,hx,hr];exact hK _ _ (h v W ⟨xs,by simpa using hrow,by simpa using henc⟩ (World.grownBy.refl W _) (.inl rfl))
  ·refine wpList_append_own_at W hgd s x t ho base T i0 z sz bytes ht hi hz0 hz1 hz2 hz hs0 v l.length xs hs hrow ad 0 c [] hx (by simp) (fun j u hj=>by simp at hj) (fun u hu=>by simp at hu) ?_ (by simpa using hlen) hbase ?_
   ·have:l.length≤140737488355328:=Nat.le_trans (Nat.le_mul_of_pos_right _ hb0) (by simpa using hlen);simp only[maxLen];omega
   intro v' w' hrow' hg _ hat;refine h v' w' ⟨xs,by simpa using hrow',?_⟩ hg hat;have k:Keep G W w':=Keep.grown hg fun b hb=>fun e=>hG b hb e.symm
   simpa using henc.imp fun _ _ hx=>hx.keep k
 ·have hmp:0<m.length:=by cases m<;>simp_all
  obtain⟨b,off,rfl⟩:=Slc.addr hsrc.now hmp;obtain⟨ys,he,hc,ho1⟩:=Slc.cells h1R m hs0 hsrc m.length (Qiz _);rw[List.take_length]at he;refine wpList_append_own_at W hgd s x t ho base T i0 z sz bytes ht hi hz0 hz1 hz2 hz hs0 v l.length xs hs hrow ⟨b,off,none⟩ m.length c ys hx he.length (fun j u hj=>by rw[addr_add];exact hc j u hj) ho1 ?_ hlen hbase ?_
  ·have:l.length+m.length≤140737488355328:=Nat.le_trans (Nat.le_mul_of_pos_right _ hb0) hlen;simp only[maxLen];omega
  intro v' w' hrow' hg _ hat;refine h v' w' ⟨xs++ys,by simpa using hrow',?_⟩ hg hat;have k:Keep G W w':=Keep.grown hg fun b hb=>fun e=>hG b hb e.symm;exact(henc.imp fun _ _ hx=>hx.keep k).append (he.imp fun _ _ hx=>hx.keep k)
end
theorem Own.empty{α:Type}(R:α→List Value→World→Prop)(T sz base:Nat)(G:Nat→Prop)(w:World)(n:Nat)(hn:n=w.heap.size)(hb:base≤n):Own R T sz base G (.slice (some ⟨n,0,none⟩) 0 0) [] (w.alloc (.cells #[] T)):=by
 subst hn;exact⟨[],⟨by simp,.inr ⟨_,0,#[],rfl,hb,heap_alloc_new w _,Qiz _,by simp[maxLen],by simp,by simp⟩⟩,.nil⟩
theorem Enc.set{α:Type}{R:α→List Value→Prop}{sz:Nat}{l:List α}{xs:List Value}(h:Enc R sz l xs){x':α}{j:Nat}{u:Value}(hj:j<sz):∀(i:Nat)(x:α),l[i]? =some x→
  (∀cs,cs.length=sz→R x cs→R x' (cs.set j u))→Enc R sz (l.set i x') (xs.set (i*sz+j) u):=by
 induction h with
 |nil=>intro i x hx;simp at hx
 | @snoc l xs y cs h hy hl ih=>
  intro i x hx hR;rcases Nat.lt_or_ge i l.length with hi|hi
  ·rw[List.getElem?_append_left hi]at hx;have hlt:i*sz+j<xs.length:=by
    rw[h.length];have:i*sz+sz≤l.length*sz:=by rw[←Nat.succ_mul];exact Nat.mul_le_mul_right _ hi
    omega
   rw[List.set_append_left _ _ hi,List.set_append_left _ _ hlt];exact .snoc (ih i x hx hR) hy hl
  ·rw[List.getElem?_append_right hi]at hx;have h0:i-l.length=0:=by
    have:=(Qcz hx).1;simp at this;omega
   rw[h0]at hx;simp at hx;subst hx;obtain rfl:i=l.length:=by omega
   rw[List.set_append_right _ _ (Qiz _),List.set_append_right _ _ (by rw[h.length];omega),h.length,Nat.sub_self];have e:l.length*sz+j-l.length*sz=j:=by omega
   rw[e];simp only[List.set_cons_zero];exact .snoc h (hR _ hl hy) (by simpa using hl)
theorem Own.cell{α:Type}{R:α→List Value→World→Prop}{T sz base:Nat}{G:Nat→Prop}{v:Value}{l:List α}{w:World}(h:Own R T sz base G v l w){g c n:Nat}(hv:v=.slice (some ⟨g,0,none⟩) n c){i j:Nat}(hi:i<l.length)(hj:j<sz):
  ∃u,w.cell? ⟨g,i*sz+j,none⟩=some u∧w.frozen? ⟨g,i*sz+j,none⟩=false∧u.oneCell'=u.oneCell':=by
 obtain⟨xs,⟨hl,h2⟩,he⟩:=h;rcases h2 with⟨rfl,h0⟩|⟨g',cap,cur,rfl,hg,hh,hn,hm,hs,ht⟩
 ·cases hv
 ·simp only[Value.slice.injEq,Option.some.injEq,Addr.mk.injEq,and_true]at hv;obtain⟨rfl,_,_⟩:=hv;have hlt:i*sz+j<cur.size:=by
   rw[hs];have h1:i*sz+sz≤l.length*sz:=by rw[←Nat.succ_mul];exact Nat.mul_le_mul_right _ hi
   have h2:l.length*sz≤cap*sz:=Nat.mul_le_mul_right _ hn;omega
  exact⟨cur[i*sz+j],by simp[World.cell?,hh,hlt],by simp[World.frozen?,hh],rfl⟩
theorem Own.get{α:Type}{R:α→List Value→World→Prop}{T sz base:Nat}{G:Nat→Prop}{l:List α}{w:World}{g c n:Nat}(h:Own R T sz base G (.slice (some ⟨g,0,none⟩) n c) l w){i:Nat}{x:α}(hx:l[i]? =some x):
  ∃cs,cs.length=sz∧Held G (R x cs) w∧∀j v,cs[j]? =some v→w.cell? ⟨g,i*sz+j,none⟩=some v∧w.frozen? ⟨g,i*sz+j,none⟩=false:=by
 obtain⟨xs,⟨hl,h2⟩,he⟩:=h;rcases h2 with⟨hv,h0⟩|⟨g',cap,cur,hv,hg,hh,hn,hm,hs,ht⟩
 ·cases hv
 ·simp only[Value.slice.injEq,Option.some.injEq,Addr.mk.injEq,and_true]at hv;obtain⟨rfl,_,_⟩:=hv;obtain⟨cs,h1,h2,h3⟩:=he.get i x hx;refine⟨cs,h1,h2,fun j v hv=>⟨?_,by simp[World.frozen?,hh]⟩⟩;have h4:=h3 j v hv;rw[←ht,List.getElem?_take]at h4
  split at h4
  ·simp only[World.cell?,hh];simpa using h4
  ·simp at h4
theorem Own.store{α:Type}{R:α→List Value→World→Prop}{T sz base:Nat}{G:Nat→Prop}{v:Value}{l:List α}{w:World}(h:Own R T sz base G v l w){g c n:Nat}(hv:v=.slice (some ⟨g,0,none⟩) n c){i j:Nat}{x x':α}{u:Value}(hx:l[i]? =some x)(hj:j<sz)
  (hG:∀b,G b→b≠g) (hR:∀cs,cs.length=sz→Held G (R x cs) w→Held G (R x' (cs.set j u)) w):Own R T sz base G v (l.set i x') (w.setCell ⟨g,i*sz+j,none⟩ u):=by
 obtain⟨xs,⟨hl,h2⟩,he⟩:=h;have hi:i<l.length:=(Qcz hx).1;rcases h2 with⟨rfl,h0⟩|⟨g',cap,cur,rfl,hg,hh,hn,hm,hs,ht⟩
 ·cases hv
 ·simp only[Value.slice.injEq,Option.some.injEq,Addr.mk.injEq,and_true]at hv;obtain⟨rfl,_,_⟩:=hv;have h1:i*sz+sz≤l.length*sz:=by rw[←Nat.succ_mul];exact Nat.mul_le_mul_right _ hi
  have h2:l.length*sz≤cap*sz:=Nat.mul_le_mul_right _ hn;refine⟨xs.set (i*sz+j) u,⟨by simpa using hl,.inr ⟨g',cap,cur.setIfInBounds (i*sz+j) u,by simp,hg,?_,by simpa using hn,hm,by simpa using hs,?_⟩⟩,?_⟩
  ·simp only[World.setCell];rw[Array.getElem?_modify,if_pos rfl,hh]
   rfl
  ·rw[Array.toList_setIfInBounds,List.length_set,←ht,List.take_set]
  ·exact(he.set hj i x hx hR).imp fun _ _ hq=>hq.keep (Keep.setCell w (fun b hb=>hG b hb) u)
theorem enters{P:Program}{f:Nat}{fn:Func}{c:Code}(hf:P.funcs[f]? =some fn)(hname:(fn.name== "runtime.NumGoroutine")=false)(hb:fn.body=some c):∀args w,(callFunc f args).run P w=.ok (.enter f args) w:=by
 intro args w;have hn:¬fn.name= "runtime.NumGoroutine" :=by simpa using hname
 simp[callFunc,Sem.run_bind,hf,hn,hb,program,Sem.run]
def zcz(s:ByteArray)(cs:List Value)(_:World):Prop:=cs=[.string s]
theorem zkr:zw1 zcz:=fun x cs _ h u hu=>by unfold zcz at h;subst h;simp at hu;subst hu;rfl
theorem zbh:Stable zcz:=fun _ _ _ h _ _=>h
abbrev Strs(A:Option Addr)(l:List ByteArray)(w:World):Prop:=Slc zcz 1 A l w
theorem Strs.at{b off:Nat}{l:List ByteArray}{w:World}(h:Strs (some ⟨b,off,none⟩) l w){k:Nat}{x:ByteArray}(hk:l[k]? =some x):w.cell? ⟨b,off+k,none⟩=some (.string x):=by
 obtain⟨b',off',cs,e,_,hr,hc⟩:=h k x hk;simp only[Option.some.injEq,Addr.mk.injEq,and_true]at e;obtain⟨rfl,rfl⟩:=e;unfold zcz at hr;subst hr
 simpa using hc 0 _ rfl
theorem Strs.atH{G:Nat→Prop}{b off:Nat}{l:List ByteArray}{w:World}(h:Held G (Strs (some ⟨b,off,none⟩) l) w){k:Nat}{x:ByteArray}(hk:l[k]? =some x):Held G (fun w=>w.cell? ⟨b,off+k,none⟩=some (.string x)) w:=
 h.imp fun _ _ q=>Strs.at q hk
theorem Slc.addrH{α:Type}{R:α→List Value→World→Prop}{sz:Nat}{A:Option Addr}{l:List α}{w:World}{G:Nat→Prop}(h:Held G (Slc R sz A l) w)(hl:0<l.length):∃b off,A=some ⟨b,off,none⟩:=h.now.addr hl
@[go_sem high] theorem zv5 (t:TypeId) (a b:ByteArray):binOp .eql t (.string a) (.string b)=pure (.bool (decide (a=b))):=by
 rw[binOp_string_eql];congr 2
 by_cases h:a=b
 ·subst h;simp
 ·rw[Qgz h,beq_eq_false_iff_ne];intro e;apply h
  rw[ByteArray.toList_eq,ByteArray.toList_eq]at e;cases a;cases b;simp only[ByteArray.mk.injEq];exact Array.ext' e
@[go_sem high] theorem zwa (t:TypeId) (a b:ByteArray):binOp .neq t (.string a) (.string b)=pure (.bool (!decide (a=b))):=by
 rw[binOp_string_neq];congr 3
 by_cases h:a=b
 ·subst h;simp
 ·rw[Qgz h,beq_eq_false_iff_ne];intro e;apply h
  rw[ByteArray.toList_eq,ByteArray.toList_eq]at e;cases a;cases b;simp only[ByteArray.mk.injEq];exact Array.ext' e
theorem zge{x y:Bool}(h:x=y):Ending.returned (.bool x)=.returned (.bool y):=by rw[h]
theorem zzo{k:IntKind}{x y:Int}(h:x=y):Ending.returned (.int k x)=.returned (.int k y):=by rw[h]
theorem z3j{x y:Value}(h:x=y):Ending.returned x=.returned y:=by rw[h]
def hasS(l:List ByteArray)(x:ByteArray):Bool:=l.any fun y=>decide (y=x)
theorem zb8{l:List ByteArray}{x:ByteArray}:hasS l x=true↔x∈l:=by
 unfold hasS;rw[List.any_eq_true]
 exact⟨fun ⟨y,hy,e⟩=>by have:=of_decide_eq_true e;rwa [←this],fun h=>⟨x,h,Qhz rfl⟩⟩
theorem zbl{l:List ByteArray}{x:ByteArray}:hasS l x=false↔x∉l:=by
 rw[←zb8];cases hasS l x<;>simp
def Drw(w w':World):Prop:=∃n,w'=w.drewN n
theorem Drw.refl(w:World):Drw w w:=⟨0,rfl⟩
theorem Drw.drewN{w w':World}(h:Drw w w')(n:Nat):Drw w (w'.drewN n):=by obtain⟨m,rfl⟩:=h;exact⟨m+n,World.drewN_drewN _ _ _⟩
theorem Drw.of(w:World)(n:Nat):Drw w (w.drewN n):=⟨n,rfl⟩
theorem Drw.drew{w w':World}(h:Drw w w'):Drw w w'.drew:=h.drewN 1
theorem Drw.below{w w':World}(h:Drw w w')(B:Nat):Below B w w':=by obtain⟨m,rfl⟩:=h;exact⟨rfl,rfl,rfl,Qiz _,fun _ _=>rfl⟩
theorem zad(w:World)(n B:Nat):Below B w (w.drewN n):=⟨rfl,rfl,rfl,Qiz _,fun _ _=>rfl⟩
theorem Own.single{α:Type}{R:α→List Value→World→Prop}{T sz base:Nat}{G:Nat→Prop}{w:World}{n:Nat}(hn:n=w.heap.size)(hb:base≤n){x:α}{cs:List Value}(hl:cs.length=sz)(hs:0<sz)(hx:Held G (R x cs) w):
  Own R T sz base G (.slice (some ⟨n,0,none⟩) 1 1) [x] (w.alloc (.cells cs.toArray T)):=by
 subst hn;refine⟨cs,⟨by simp[hl],.inr ⟨_,1,cs.toArray,rfl,hb,heap_alloc_new w _,Qiz _,by simp[maxLen],by simp[hl],by simp[←hl]⟩⟩,?_⟩;have:=Enc.snoc (Enc.nil (R:=fun x ds=>Held G (R x ds) (w.alloc (.cells cs.toArray T))) (sz:=sz)) (hx.keep (Keep.alloc _ _ _)) hl;rw[List.nil_append,List.nil_append]at this;exact this
end
structure CI where
 name:ByteArray
 lib:ByteArray
 supers:List ByteArray
 cpl:List ByteArray
 abs:Bool
 seal_:Bool
 deriving DecidableEq
def ciR(x:CI)(cs:List Value)(w:World):Prop:=
 ∃A2 c2 A3 c3,cs=[.string x.name,.string x.lib,.slice A2 x.supers.length c2,.slice A3 x.cpl.length c3,.bool x.abs,.bool x.seal_]∧
  x.supers.length≤c2∧x.cpl.length≤c3∧Strs A2 x.supers w∧Strs A3 x.cpl w
theorem z1t:zw1 ciR:=fun x cs _ h u hu=>by obtain⟨A2,c2,A3,c3,rfl,_⟩:=h;simp at hu;rcases hu with rfl|rfl|rfl|rfl|rfl|rfl<;>rfl
theorem zd0:Stable ciR:=fun w x cs h=>by
 obtain⟨A2,c2,A3,c3,e,h1,h2,h3,h4⟩:=h;exact fun w' k=>⟨A2,c2,A3,c3,e,h1,h2,Slc.stable zbh h3 w' k,Slc.stable zbh h4 w' k⟩
abbrev CIs(A:Option Addr)(l:List CI)(w:World):Prop:=Slc ciR 6 A l w
theorem ciR.openH{G:Nat→Prop}{x:CI}{cs:List Value}{w:World}(h:Held G (ciR x cs) w):
  ∃A2 c2 A3 c3,cs=[.string x.name,.string x.lib,.slice A2 x.supers.length c2,.slice A3 x.cpl.length c3,.bool x.abs,.bool x.seal_]∧x.supers.length≤c2∧x.cpl.length≤c3∧Held G (Strs A2 x.supers) w∧Held G (Strs A3 x.cpl) w:=by
 obtain⟨A2,c2,A3,c3,e,h1,h2,_⟩:=h.now;refine⟨A2,c2,A3,c3,e,h1,h2,fun w' k=> ?_,fun w' k=> ?_⟩<;>
 ·obtain⟨A2',c2',A3',c3',e',_,_,h3,h4⟩:=h w' k;rw[e]at e';simp only[List.cons.injEq,Value.slice.injEq]at e';obtain⟨_,_,⟨rfl,_⟩,⟨rfl,_⟩,_⟩:=e'
  first|exact h3|exact h4
theorem CIs.atH{G:Nat→Prop}{b off:Nat}{l:List CI}{w:World}(h:Held G (CIs (some ⟨b,off,none⟩) l) w){k:Nat}{x:CI}(hk:l[k]? =some x):
  ∃A2 c2 A3 c3,x.supers.length≤c2∧x.cpl.length≤c3∧Held G (Strs A2 x.supers) w∧Held G (Strs A3 x.cpl) w∧w.cell? ⟨b,off+k*6,none⟩=some (.string x.name)∧w.cell? ⟨b,off+k*6+1,none⟩=some (.string x.lib)∧
   w.cell? ⟨b,off+k*6+2,none⟩=some (.slice A2 x.supers.length c2)∧w.cell? ⟨b,off+k*6+3,none⟩=some (.slice A3 x.cpl.length c3)∧
   w.cell? ⟨b,off+k*6+4,none⟩=some (.bool x.abs)∧w.cell? ⟨b,off+k*6+5,none⟩=some (.bool x.seal_):=by
 obtain⟨cs,_,hr,hc⟩:=Slc.atH h (by decide) hk;obtain⟨A2,c2,A3,c3,rfl,h1,h2,h3,h4⟩:=ciR.openH hr;exact⟨A2,c2,A3,c3,h1,h2,h3,h4,(hc 0 _ rfl).now,(hc 1 _ rfl).now,(hc 2 _ rfl).now,(hc 3 _ rfl).now,(hc 4 _ rfl).now,(hc 5 _ rfl).now⟩
theorem ciR.mk{G:Nat→Prop}{x:CI}{w:World}{A2:Option Addr}{c2:Nat}{A3:Option Addr}{c3:Nat}(h1:x.supers.length≤c2)(h2:x.cpl.length≤c3)(h3:Held G (Strs A2 x.supers) w)(h4:Held G (Strs A3 x.cpl) w):
  Held G (ciR x [.string x.name,.string x.lib,.slice A2 x.supers.length c2,.slice A3 x.cpl.length c3,.bool x.abs,.bool x.seal_]) w:=fun w' k=>⟨A2,c2,A3,c3,rfl,h1,h2,h3 w' k,h4 w' k⟩
structure Heir where
 name:ByteArray
 supers:List ByteArray
 deriving DecidableEq
def heirR(x:Heir)(cs:List Value)(w:World):Prop:=∃A c,cs=[.string x.name,.slice A x.supers.length c]∧x.supers.length≤c∧Strs A x.supers w
theorem zg3:Stable heirR:=fun w x cs h=>by
 obtain⟨A,c,e,h1,h3⟩:=h;exact fun w' k=>⟨A,c,e,h1,Slc.stable zbh h3 w' k⟩
abbrev Heirs(A:Option Addr)(l:List Heir)(w:World):Prop:=Slc heirR 2 A l w
theorem heirR.openH{G:Nat→Prop}{x:Heir}{cs:List Value}{w:World}(h:Held G (heirR x cs) w):
  ∃A c,cs=[.string x.name,.slice A x.supers.length c]∧x.supers.length≤c∧Held G (Strs A x.supers) w:=by
 obtain⟨A,c,e,h1,_⟩:=h.now;refine⟨A,c,e,h1,fun w' k=> ?_⟩;obtain⟨A',c',e',_,h3⟩:=h w' k;rw[e]at e';simp only[List.cons.injEq,Value.slice.injEq]at e';obtain⟨_,⟨rfl,_⟩,_⟩:=e';exact h3
theorem Heirs.atH{G:Nat→Prop}{b off:Nat}{l:List Heir}{w:World}(h:Held G (Heirs (some ⟨b,off,none⟩) l) w){k:Nat}{x:Heir}(hk:l[k]? =some x):
  ∃A c,x.supers.length≤c∧Held G (Strs A x.supers) w∧w.cell? ⟨b,off+k*2,none⟩=some (.string x.name)∧w.cell? ⟨b,off+k*2+1,none⟩=some (.slice A x.supers.length c):=by
 obtain⟨cs,_,hr,hc⟩:=Slc.atH h (by decide) hk;obtain⟨A,c,rfl,h1,h3⟩:=heirR.openH hr;exact⟨A,c,h1,h3,(hc 0 _ rfl).now,(hc 1 _ rfl).now⟩
theorem heirR.mk{G:Nat→Prop}{x:Heir}{w:World}{A:Option Addr}{c:Nat}(h1:x.supers.length≤c)(h3:Held G (Strs A x.supers) w):Held G (heirR x [.string x.name,.slice A x.supers.length c]) w:=fun w' k=>⟨A,c,rfl,h1,h3 w' k⟩
def lstR(x:List ByteArray)(cs:List Value)(w:World):Prop:=∃A c,cs=[.slice A x.length c]∧x.length≤c∧Strs A x w
theorem zz8:zw1 lstR:=fun x cs _ h u hu=>by obtain⟨A,c,rfl,_⟩:=h;simp at hu;subst hu;rfl
theorem zfs:Stable lstR:=fun w x cs h=>by
 obtain⟨A,c,e,h1,h3⟩:=h;exact fun w' k=>⟨A,c,e,h1,Slc.stable zbh h3 w' k⟩
abbrev Lsts(A:Option Addr)(l:List (List ByteArray))(w:World):Prop:=Slc lstR 1 A l w
theorem lstR.openH{G:Nat→Prop}{x:List ByteArray}{cs:List Value}{w:World}(h:Held G (lstR x cs) w):∃A c,cs=[.slice A x.length c]∧x.length≤c∧Held G (Strs A x) w:=by
 obtain⟨A,c,e,h1,_⟩:=h.now;refine⟨A,c,e,h1,fun w' k=> ?_⟩;obtain⟨A',c',e',_,h3⟩:=h w' k;rw[e]at e';simp only[List.cons.injEq,Value.slice.injEq]at e';obtain⟨⟨rfl,_⟩,_⟩:=e';exact h3
theorem Lsts.atH{G:Nat→Prop}{b off:Nat}{l:List (List ByteArray)}{w:World}(h:Held G (Lsts (some ⟨b,off,none⟩) l) w){k:Nat}{x:List ByteArray}(hk:l[k]? =some x):
  ∃A c,x.length≤c∧Held G (Strs A x) w∧w.cell? ⟨b,off+k,none⟩=some (.slice A x.length c):=by
 obtain⟨cs,_,hr,hc⟩:=Slc.atH h (by decide) hk;obtain⟨A,c,rfl,h1,h3⟩:=lstR.openH hr;exact⟨A,c,h1,h3,by simpa using(hc 0 _ rfl).now⟩
theorem lstR.mk{G:Nat→Prop}{x:List ByteArray}{w:World}{A:Option Addr}{c:Nat}(h1:x.length≤c)(h3:Held G (Strs A x) w):Held G (lstR x [.slice A x.length c]) w:=fun w' k=>⟨A,c,rfl,h1,h3 w' k⟩
theorem OwnLst.at{T base:Nat}{G:Nat→Prop}{l:List (List ByteArray)}{w:World}{g c n:Nat}(h:Own lstR T 1 base G (.slice (some ⟨g,0,none⟩) n c) l w){i:Nat}{x:List ByteArray}(hx:l[i]? =some x):
  ∃A c,x.length≤c∧Held G (Strs A x) w∧w.cell? ⟨g,i,none⟩=some (.slice A x.length c)∧w.frozen? ⟨g,i,none⟩=false:=by
 obtain⟨cs,_,hr,hc⟩:=h.get hx;obtain⟨A,c,rfl,h1,h3⟩:=lstR.openH hr;have:=hc 0 _ rfl;rw[Nat.mul_one,Nat.add_zero]at this;exact⟨A,c,h1,h3,this⟩
theorem OwnLst.store{T base:Nat}{G:Nat→Prop}{l:List (List ByteArray)}{w:World}{g c n:Nat}(h:Own lstR T 1 base G (.slice (some ⟨g,0,none⟩) n c) l w){i:Nat}{x x':List ByteArray}(hx:l[i]? =some x){u:Value}(hG:∀b,G b→b≠g)(hu:Held G (lstR x' [u]) w):
  Own lstR T 1 base G (.slice (some ⟨g,0,none⟩) n c) (l.set i x') (w.setCell ⟨g,i,none⟩ u):=by
 have:=h.store (x':=x') (u:=u) (j:=0) rfl hx (by decide) hG (fun cs hl _=>by
  match cs,hl with
  | [_],_=>exact hu)
 rwa [Nat.mul_one,Nat.add_zero]at this
theorem Strs.tail{G:Nat→Prop}{b off:Nat}{x:ByteArray}{t:List ByteArray}{w:World}(h:Held G (Strs (some ⟨b,off,none⟩) (x::t)) w):Held G (Strs (some ⟨b,off+1,none⟩) t) w:=h.imp fun _ _ q=>by
 have:=Slc.drop q 1
 simpa using this
def CI.heir(x:CI):Heir:=⟨x.name,x.supers⟩
def zav(l:List CI):List Heir:=l.map CI.heir
def zmj{α:Type}(P:α→α→Bool)(l:List α)(i k:Nat):Bool:=match l[i]?,l[k]? with
 |some a,some b=>P a b
 |_,_=>false
def zdl{α:Type}(P:α→α→Bool)(l:List α)(i:Nat):Bool:=(List.range l.length).all fun k=>decide (i=k)||zmj P l i k
def pick{α:Type}(P:α→α→Bool)(l:List α):Option Nat:=(List.range l.length).find? (zdl P l)
def zbu{α:Type}(P:α→α→Bool):Nat→List α→List α×List α
 |0,l=>([],l)
 |n+1,l=>match pick P l with
  |none=>([],l)
  |some i=>match l[i]? with
   |none=>([],l)
   |some a=>(a::(zbu P n (l.eraseIdx i)).1,(zbu P n (l.eraseIdx i)).2)
theorem zic{α:Type}{P:α→α→Bool}{l:List α}{i:Nat}(h:pick P l=some i):i<l.length∧zdl P l i=true∧∀j,j<i→zdl P l j=false:=by
 unfold pick at h;have h0:=List.find?_some h;have h1:=List.mem_of_find?_eq_some h;have h2:i<l.length:=List.mem_range.1 h1;refine⟨h2,h0,fun j hj=> ?_⟩;obtain⟨_,as,bs,e,hn⟩:=List.find?_eq_some_iff_append.1 h;have hjm:j∈as:=by
  have hlen:as.length=i:=by
   have hg:(List.range l.length)[as.length]? =some i:=by rw[e];simp
   rw[List.getElem?_range (by have:=congrArg List.length e;simp at this;omega)]at hg
   simpa using hg
  have hg:(List.range l.length)[j]? =some j:=List.getElem?_range (by omega);rw[e,List.getElem?_append_left (by omega)]at hg;exact Qdz hg
 simpa using hn j hjm
theorem zrk{α:Type}{P:α→α→Bool}{l:List α}(h:pick P l=none):∀j,j<l.length→zdl P l j=false:=by
 unfold pick at h;intro j hj;have:=List.find?_eq_none.1 h j (List.mem_range.2 hj)
 simpa using this
theorem z02{α:Type}{P:α→α→Bool}{l:List α}{i:Nat}(hi:i<l.length)(ho:zdl P l i=true)(hn:∀j,j<i→zdl P l j=false):pick P l=some i:=by
 cases h:pick P l with
 |none=>exact absurd ho (by rw[zrk h i hi];decide)
 |some k=>
  obtain⟨h1,h2,h3⟩:=zic h;rcases Nat.lt_trichotomy i k with q|rfl|q
  ·exact absurd ho (by rw[h3 i q];decide)
  ·rfl
  ·exact absurd h2 (by rw[hn k q];decide)
theorem zsh{α:Type}{P:α→α→Bool}{l:List α}(hn:∀j,j<l.length→zdl P l j=false):pick P l=none:=by
 cases h:pick P l with
 |none=>rfl
 |some k=>
  obtain⟨h1,h2,_⟩:=zic h;exact absurd h2 (by rw[hn k h1];decide)
theorem zje{α:Type}{P:α→α→Bool}{l:List α}{i:Nat}:zdl P l i=true↔∀k,k<l.length→i=k∨zmj P l i k=true:=by
 unfold zdl;rw[List.all_eq_true];constructor
 ·intro h k hk;have:=h k (List.mem_range.2 hk)
  simpa using this
 ·intro h k hk;have:=h k (List.mem_range.1 hk)
  simpa using this
theorem z0i{α:Type}{P:α→α→Bool}{l:List α}{i k:Nat}{a b:α}(h1:l[i]? =some a)(h2:l[k]? =some b):zmj P l i k=P a b:=by
 unfold zmj;rw[h1,h2]
theorem zd4{α:Type}{P:α→α→Bool}:∀(n:Nat)(l:List α),((zbu P n l).1++(zbu P n l).2).Perm l
 |0,l=>by simp[zbu]
 |n+1,l=>by
  rw[zbu];cases hp:pick P l with
  |none=>simp
  |some i=>
   cases ha:l[i]? with
   |none=>simp[ha]
   |some a=>
    simp only[ha];obtain⟨hi,rfl⟩:=Qcz ha;have ih:=zd4 (P:=P) n (l.eraseIdx i);refine List.Perm.trans (List.Perm.cons _ ih) ?_;rw[List.eraseIdx_eq_take_drop_succ];have e:l=l.take i++l[i]::l.drop (i+1):=by
     simp
    refine List.Perm.trans (List.perm_middle.symm) ?_;rw[←e]
theorem zld{α:Type}{P:α→α→Bool}:∀(n:Nat)(l:List α),l.length≤n→pick P (zbu P n l).2=none
 |0,l,h=>by
  have:l=[]:=List.length_eq_zero_iff.1 (by omega);subst this;rfl
 |n+1,l,h=>by
  rw[zbu];cases hp:pick P l with
  |none=>exact hp
  |some i=>
   obtain⟨hi,_,_⟩:=zic hp;have ha:l[i]? =some l[i]:=Qbz hi;simp only[ha];exact zld n _ (by rw[List.length_eraseIdx_of_lt hi];omega)
def zb7(l:List (List ByteArray))(s:ByteArray):Bool:=l.all fun y=> !hasS y.tail s
def zia(l:List (List ByteArray)):List (List ByteArray)→Option ByteArray
 | []=>none
 | []::r=>zia l r
 |(s::_)::r=>if zb7 l s then some s else zia l r
def rm1(s:ByteArray)(x:List ByteArray):List ByteArray:=match x with| []=>[]|h::t=>if h=s then t else h::t
def rm(s:ByteArray)(l:List (List ByteArray)):List (List ByteArray):=l.map (rm1 s)
def total(l:List (List ByteArray)):Nat:=(l.map List.length).sum
def zb0(l:List (List ByteArray)):Bool:=l.any fun x=> !x.isEmpty
def zhj:Nat→List (List ByteArray)→Option (List ByteArray)
 |0,l=>if zb0 l then none else some []
 |n+1,l=>if zb0 l then(match zia l l with|none=>none|some s=>(zhj n (rm s l)).map (s:: ·))else some []
def merge(l:List (List ByteArray)):Option (List ByteArray):=zhj (total l) l
theorem zx3(s:ByteArray)(x:List ByteArray):(rm1 s x).length≤x.length:=by
 unfold rm1;cases x with
 |nil=>simp
 |cons h t=>simp only[];split<;>simp
theorem total_cons(x:List ByteArray)(l:List (List ByteArray)):total (x::l)=x.length+total l:=by simp[total]
theorem ztq(s:ByteArray)(l:List (List ByteArray)):total (rm s l)≤total l:=by
 induction l with
 |nil=>simp[rm,total]
 |cons x l ih=>
  have h1:=zx3 s x;have:rm s (x::l)=rm1 s x::rm s l:=rfl;rw[this,total_cons,total_cons];omega
theorem zdv{s:ByteArray}{l:List (List ByteArray)}{t:List ByteArray}(h:(s::t)∈l):total (rm s l)<total l:=by
 induction l with
 |nil=>simp at h
 |cons x l ih=>
  have e:rm s (x::l)=rm1 s x::rm s l:=rfl;rw[e,total_cons,total_cons];rcases List.mem_cons.1 h with h|h
  ·subst h;have:=ztq s l;simp[rm1];omega
  ·have:=ih h;have:=zx3 s x;omega
theorem ziw{l r:List (List ByteArray)}{s:ByteArray}(h:zia l r=some s):∃t,(s::t)∈r∧zb7 l s=true:=by
 induction r with
 |nil=>simp[zia]at h
 |cons x r ih=>
  rcases x with _|⟨a,t⟩
  ·simp only[zia]at h;obtain⟨t,h1,h2⟩:=ih h;exact⟨t,List.mem_cons_of_mem _ h1,h2⟩
  ·simp only[zia]at h
   split at h
   ·rename_i hg;cases h;exact⟨t,List.mem_cons_self,hg⟩
   ·obtain⟨t',h1,h2⟩:=ih h;exact⟨t',List.mem_cons_of_mem _ h1,h2⟩
theorem zem{l:List (List ByteArray)}(h:zb0 l=true):0<total l:=by
 unfold zb0 at h;rw[List.any_eq_true]at h
 obtain⟨x,hx,h⟩:=h
 induction l with
 |nil=>simp at hx
 |cons y l ih=>
  rw[total_cons];rcases List.mem_cons.1 hx with rfl|hx
  ·cases x with
   |nil=>simp at h
   |cons=>simp;omega
  ·have:=ih hx;omega
theorem zy0:∀(n m:Nat)(l:List (List ByteArray)),total l≤n→total l≤m→zhj n l=zhj m l:=by
 intro n
 induction n with
 |zero=>
  intro m l h _;by_cases ha:zb0 l=true
  ·have:=zem ha;omega
  ·cases m<;>simp[zhj,ha]
 |succ n ih=>
  intro m l h hm;by_cases ha:zb0 l=true
  ·obtain⟨m,rfl⟩:∃k,m=k+1:=⟨m-1,by have:=zem ha;omega⟩;simp only[zhj,ha,if_true];cases hc:zia l l with
   |none=>rfl
   |some s=>
    obtain⟨t,ht,_⟩:=ziw hc;have hlt:=zdv ht;simp only[];rw[ih m _ (by omega) (by omega)]
  ·cases m<;>simp[zhj,ha]
theorem zhb{l:List (List ByteArray)}(h:zb0 l=false):merge l=some []:=by
 unfold merge;cases total l<;>simp[zhj,h]
theorem zfo{l:List (List ByteArray)}(h:zb0 l=true)(hc:zia l l=none):merge l=none:=by
 unfold merge;obtain⟨m,hm⟩:∃k,total l=k+1:=⟨total l-1,by have:=zem h;omega⟩;rw[hm];simp[zhj,h,hc]
theorem zg8{l:List (List ByteArray)}{s:ByteArray}(h:zb0 l=true)(hc:zia l l=some s):merge l=(merge (rm s l)).map (s:: ·):=by
 obtain⟨t,ht,_⟩:=ziw hc;have hlt:=zdv ht;unfold merge;obtain⟨m,hm⟩:∃k,total l=k+1:=⟨total l-1,by omega⟩;rw[hm];simp only[zhj,h,if_true,hc]
 rw[zy0 m (total (rm s l)) _ (by omega) (Qiz _)]
end Go.Proofs.YtepnmejahbiacaaGreat
