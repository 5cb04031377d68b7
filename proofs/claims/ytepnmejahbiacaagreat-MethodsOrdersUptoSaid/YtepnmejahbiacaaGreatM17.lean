/- Part 17 of the proof: Cq, Cv, Su. -/
import Derived.Test.YtepnmejahbiacaaGreatM14
import Derived.Deep.DrawnRows
set_option linter.unusedVariables false
set_option linter.unusedSimpArgs false
set_option maxHeartbeats 64000000
set_option maxRecDepth 100000
namespace Go.Proofs.YtepnmejahbiacaaGreat
open Go.RowKit
theorem zae{W V0 V:World}(h:Below W.heap.size W V0)(q:Below V0.heap.size V0 V):Below W.heap.size W V:=h.trans (q.mono h.size)
theorem zjs(hp M1:Nat)(A:Option Addr)(c:Nat)(l:List CI)(s:ByteArray)(w:World)(H:w.cell? ⟨hp,0,none⟩=some (.slice A l.length c))(G:Nat→Prop)(hA:Held G (CIs A l) w)(ol:∀x∈l,zdo x)(hl:l.length≤1000000):
  Calls Tryz.prog 156 #[.pointer (some ⟨hp,0,none⟩),.string s] w fun e w'=>∃v,e=.returned v∧Own zcz 9 1 w.heap.size (fun _=>False) v (zb9 l s) w'∧Below w.heap.size w w':=by
 have HS:Hid (zb9 l s=(l.filter fun x=>hasS x.supers s).map (·.name)):=Qaz rfl;go_enter Tryz.func156,Tryz.ntmps156;go_wp2_with (fail)
 go_loopw [5,13] (fun v i wr=>∃k:Nat,k≤l.length∧i=.int .i64 k∧Own zcz 9 1 w.heap.size (fun _=>False) v (((l.take k).filter fun x=>hasS x.supers s).map (·.name)) wr∧Below w.heap.size w wr) (fun _ i _=>l.length-(intOf i).toNat)
 case atStart=>exact⟨0,Qjz _,rfl,Own.nil _ _ _ _ _ _,Below.refl _ _⟩
 case round=>
  obtain⟨k,hk,rfl,hown,hb⟩:=hrel;by_cases hlt:k<l.length
  ·obtain⟨b,off,rfl⟩:=Slc.addrH hA (by omega);have hx:l[k]? =some l[k]:=Qbz hlt;generalize l[k]=x at hx;obtain⟨A2,c2,A3,c3,p1,p2,p3,p4,g0,g1,g2,g3,g4,g5⟩:=CIs.atH (hA.keep (Keep.all hb)) hx;have hox:=ol x (Qdz hx);have bw1:Below wr.heap.size wr (wr.alloc (.cells #[.string x.name,.string x.lib,.slice A2 x.supers.length c2,.slice A3 x.cpl.length c3,.bool x.abs,.bool x.seal_] 110)):=(Below.refl _ wr).alloc (Qiz _) _
   have HC:=Qaz (zcl A2 c2 x.supers s (wr.alloc (.cells #[.string x.name,.string x.lib,.slice A2 x.supers.length c2,.slice A3 x.cpl.length c3,.bool x.abs,.bool x.seal_] 110)) (p3.keep (Keep.all bw1)).now (by have:=hox.1;omega));have HST:Hid ((l.take (k+1)).filter (fun x=>hasS x.supers s)=(l.take k).filter (fun x=>hasS x.supers s)++(if hasS x.supers s=true then[x]else[])):=Qaz (by
    rw[take_snoc hx,List.filter_append];cases h:hasS x.supers s<;>simp[h])
   have HLN:Hid (((l.take k).filter fun x=>hasS x.supers s).length≤k):=Qaz (by
    have h1:=List.length_filter_le (fun x=>hasS x.supers s) (l.take k);rw[List.length_take]at h1;omega)
   have hbz:=hb.size;clear hx p1 p2 p3 p4 hox;cases hh:hasS x.supers s with
   |false=>
    rw[hh]at HC HST;clear hh;go_wp2_with (fail);refine HC.out.mono ?_;rintro e U ⟨rfl,rfl⟩;have hownU:=hown.all bw1;go_wp2;go_roundw
    case rel=>exact⟨k+1,by omega,by go_num,by rw[HST.out];simpa using hownU,zae hb bw1⟩
    case measure=>simp[intOf];omega
   |true=>
    rw[hh]at HC HST;clear hh;generalize((l.take k).filter fun x=>hasS x.supers s)=fl at hown HST HLN;go_wp2_with (fail);refine HC.out.mono ?_;rintro e U ⟨rfl,rfl⟩;have hownU:=hown.all bw1;have hbU:=zae hb bw1;go_wp2_with (at_builtin;refine Classical.byContradiction fun hneg=> ?_);apply hneg;refine zao zcz 9 1 w.heap.size 16 (fun _=>False) _ rfl _ _ 108 _ rfl Tryz.underlying108 info9 rfl (by decide) (by decide) u5 (fl.map (·.name)) rfl (hownU.alloc _) ⟨wr.heap.size+1,0,none⟩ 1 rfl x.name [.string x.name] rfl ?cells ?one ?held ?hG ?base ?len ?_
    case cells=>exact fun j u hu=>zaq (wr.alloc _) _ _ _ (by simp) j u hu
    case one=>intro u hu;simp at hu;subst hu;rfl
    case held=>exact fun _ _=>rfl
    case hG=>exact fun b hb _=>hb.elim
    case base=>simp;omega
    case len=>have:=HLN.out;simp;omega
    intro v' w1 hown1 hg1 _;have hb3:Below w.heap.size w w1:=(hbU.alloc hbU.size _).grown hg1 (by simp;omega) fun k' e=>(hownU.lt _ e).1;have hown2:Own zcz 9 1 w.heap.size (fun _=>False) v' ((fl++[x]).map (·.name)) w1:=by rw[List.map_append];exact hown1
    clear hown1;go_wp2;go_roundw
    case rel=>exact⟨k+1,by omega,by go_num,by rw[HST.out];exact hown2,hb3⟩
    case measure=>simp[intOf];omega
  ·obtain rfl:k=l.length:=by omega
   rw[List.take_length,←HS.out]at hown;have HO:=Qaz hown;clear hown;go_wp2;go_ret;exact⟨_,rfl,HO.out,hb⟩
theorem zec(fid:Nat)(cap:Array Value)(hfn:∀args w,(callFunc fid args).run Tryz.prog w=.ok (.enter fid args) w)(mb:Nat)(s:ByteArray)(v:Bool)(f:ByteArray→Option Value)(w:World)(hf:MapF zbn mb f w)(hok:∀u,f s=some u→u=.bool v)(R:(ByteArray→Option Value)→World→Prop)
  (hask:f s=none→Calls Tryz.prog fid cap w fun e w'=>e=.returned (.bool v)∧∃f',MapF zbn mb f' w'∧R f' w'):
  Calls Tryz.prog 153 #[.map (some mb),.string s,.func (.func fid) #[] cap] w fun e w'=>e=.returned (.bool v)∧(w'=w∨∃f' w1,R f' w1∧MapF zbn mb (fun c=>if c=s then some (.bool v)else f' c) w'∧w1.grownBy w' (some mb)):=by
 have hlk:(Instr.lookup 134 (.map (some mb)) (.string s) true).run Tryz.prog w=.ok (.tuple #[(f s).getD (.bool false),.bool (f s).isSome]) w:=zda hf Tryz.underlying134 (zlh w) s true;cases hfs:f s with
 |some u=>
  obtain rfl:=hok u hfs;rw[hfs]at hlk;simp only[Option.getD_some,Option.isSome_some]at hlk;clear hask hfs hok hf;go_enter Tryz.func153,Tryz.ntmps153;go_wp2;go_ret;exact⟨rfl,.inl rfl⟩
 |none=>
  have HA:=Qaz (hask hfs);rw[hfs]at hlk;simp only[Option.getD_none,Option.isSome_none]at hlk;clear hask hfs hok hf;go_enter Tryz.func153,Tryz.ntmps153;go_wp2_with (fail);refine HA.out.mono ?_;rintro e w' ⟨rfl,f',hf',hr⟩;have HR:=Qaz hr;clear hr HA;go_wp2_with (at_mapUpdate;refine zcu zbn _ rfl 134 4 _ _ _ rfl Tryz.underlying134 mb f' hf' rfl s rfl (.bool v) rfl ?_);intro w3 hM3 hg3;have HM:=Qaz hM3;have HG:=Qaz hg3;clear hM3 hg3 hf';go_wp2;go_ret;exact⟨rfl,.inr ⟨f',w',HR.out,HM.out,HG.out⟩⟩
theorem HierAt.grown2{hp M1:Nat}{A:Option Addr}{c:Nat}{l:List CI}{k:Nat}{w w':World}(h:HierAt hp M1 A c l k w)(hg:w.grownBy w' (some (M1+1))){f:ByteArray→Option Value}(hf:MapF zbn (M1+1) f w')(hok:∀s v,f s=some v→v=.bool (zdk l s)):HierAt hp M1 A c l k w':=by
 have kg:Keep (fun b=>b≠M1+1) w w':=Keep.grown hg fun b hb e=>hb (by injection e);have hpe:=h.hpe;exact⟨zah h.c0 kg (by show hp≠_;omega),zah h.c1 kg (by show hp≠_;omega),h.at_.keep kg (by omega),zah h.c2 kg (by show hp≠_;omega),zah h.c3 kg (by show hp≠_;omega),⟨f,hf,hok⟩,h.m3.imp fun f hf=>⟨hf.1.keep kg (by omega),hf.2⟩,hpe⟩
structure Asked1 (hp M1:Nat) (A:Option Addr) (c:Nat) (l:List CI) (B:Nat→Prop) (w w':World):Prop where
 H:HierAt hp M1 A c l l.length w'
 ch:Chg B w w'
theorem Asked1.trans{hp M1:Nat}{A:Option Addr}{c:Nat}{l:List CI}{B:Nat→Prop}{w w' w2:World}(h:Asked1 hp M1 A c l B w w')(k:Asked1 hp M1 A c l B w' w2):Asked1 hp M1 A c l B w w2:=⟨k.H,h.ch.trans k.ch⟩
theorem zgp(fid:Nat)(cap:Array Value)(hfn:∀args w,(callFunc fid args).run Tryz.prog w=.ok (.enter fid args) w)(A:Option Addr)(c:Nat)(L:List ByteArray)(p:ByteArray→Bool)(I:World→Prop)(w:World)(hI:I w)(hrow:∀wr,I wr→Strs A L wr)(hl:L.length≤1000000)
  (hask:∀s∈L,∀wr,I wr→Calls Tryz.prog fid (#[.string s]++cap) wr fun e w'=>e=.returned (.bool (!p s))∧I w'):
  Calls Tryz.prog 155 #[.slice A L.length c,.func (.func fid) #[] cap] w fun e w'=>e=.returned (.bool (!L.all p))∧I w':=by
 refine(zgg A L.length c fid cap (fun i=>.string (L.getD i ⟨#[]⟩)) w (by omega) hfn (fun i wr=>I wr∧∀j s,j<i→L[j]? =some s→p s=true) (fun i wr=>I wr∧∃s,L[i]? =some s∧p s=false) (fun _ _=>False) ⟨hI,fun j s hj=>absurd hj (by omega)⟩ (fun h0=>(hrow w hI).addr h0) ?_ ?_).mono ?_
 ·rintro i wr b off rfl hi ⟨hd,_⟩;have hx:=Qbz hi;have:=Strs.at (hrow wr hd) hx;simp only[List.getD_eq_getElem?_getD,hx,Option.getD_some];exact this
 ·rintro i wr hi ⟨hd,hj⟩;have hx:=Qbz hi;simp only[List.getD_eq_getElem?_getD,hx,Option.getD_some];refine(hask L[i] (List.getElem_mem hi) wr hd).mono ?_;rintro e w' ⟨rfl,hI'⟩;cases hq:p L[i]with
  |true=>exact .inl ⟨rfl,hI',fun j s hj' hs=>by
    rcases Nat.lt_or_ge j i with h|h
    ·exact hj j s h hs
    ·obtain rfl:j=i:=by omega
     rw[hx]at hs;cases hs;exact hq⟩
  |false=>exact .inr (.inl ⟨rfl,hI',_,hx,hq⟩)
 ·rintro e w' (⟨rfl,hI',hj⟩|⟨i,hi,rfl,hI',s,hx,hq⟩|⟨_,_,h⟩)
  ·have:L.all p=true:=List.all_eq_true.2 fun s hs=>by
    obtain⟨j,hj'⟩:=Qez hs;exact hj j s (Qcz hj').1 hj'
   exact⟨by rw[this];rfl,hI'⟩
  ·have:L.all p=false:=List.all_eq_false.2 ⟨s,Qdz hx,by rw[hq];decide⟩;exact⟨by rw[this];rfl,hI'⟩
  ·exact h.elim
theorem zm9(hp M1:Nat)(A:Option Addr)(c:Nat)(l:List CI)(b0:Nat)(s:ByteArray)(w:World)(h0:w.cell? ⟨b0,0,none⟩=some (.pointer (some ⟨hp,0,none⟩)))
  (ih:Calls Tryz.prog 152 #[.pointer (some ⟨hp,0,none⟩),.string s] w fun e w'=>e=.returned (.bool (zdk l s))∧Asked1 hp M1 A c l (fun b=>b=M1+1) w w'):
  Calls Tryz.prog 189 #[.string s,.pointer (some ⟨b0,0,none⟩)] w fun e w'=>e=.returned (.bool (!zdk l s))∧Asked1 hp M1 A c l (fun b=>b=M1+1) w w':=by
 have HI:=Qaz ih;clear ih;generalize zdk l s=v at HI;go_enter Tryz.func189,Tryz.ntmps189;go_wp2_with (fail);refine HI.out.mono ?_;rintro e w' ⟨rfl,hq⟩;have HQ:=Qaz hq;clear hq;cases v
 all_goals
  go_wp2;go_ret;exact⟨rfl,HQ.out⟩
theorem zp0(hp M1:Nat)(A:Option Addr)(c:Nat)(l:List CI)(hL:zai l)(ol:∀x∈l,zdo x)(b0 b1:Nat)(hbM:b0≠M1+1)(s:ByteArray)(w:World)(H:HierAt hp M1 A c l l.length w)(hA:Held (fun b=>b<M1) (CIs A l) w)
  (h0:w.cell? ⟨b0,0,none⟩=some (.pointer (some ⟨hp,0,none⟩))) (h1:w.cell? ⟨b1,0,none⟩=some (.string s))
  (ih:∀t∈zb9 l s,∀V,HierAt hp M1 A c l l.length V→Held (fun b=>b<M1) (CIs A l) V→Calls Tryz.prog 152 #[.pointer (some ⟨hp,0,none⟩),.string t] V fun e w'=>e=.returned (.bool (zdk l t))∧Asked1 hp M1 A c l (fun b=>b=M1+1) V w'):
  Calls Tryz.prog 188 #[.pointer (some ⟨b0,0,none⟩),.pointer (some ⟨b1,0,none⟩)] w fun e w'=>e=.returned (.bool (zdk l s))∧Asked1 hp M1 A c l (fun b=>b=M1+1) w w':=by
 have hmf:∀(fn:Fn)(first cap:Array Value)(w:World),(Instr.makeFunc fn first cap).run Tryz.prog w=.ok (.func fn first cap) w:=fun _ _ _ _=>rfl;have hlk:∀n,(Instr.lookup 140 (.map (some M1)) (.string s) true).run Tryz.prog (w.drewN n)=.ok (.tuple #[.int .i64 (((zck l s).getD 0:Nat):Int),.bool (hasB l s)]) (w.drewN n):=fun n=>by
  have:=(H.keep (zad _ n _)).look s true
  simpa using this
 have c1:=H.c1;have HH:=Qaz H;have HA:=Qaz hA;have HQ:=Qaz (zos hL s);have HIH:=Qaz ih;have h120:=hL.1;have HRF:Hid (∀n,Asked1 hp M1 A c l (fun b=>b=M1+1) w (w.drewN n)):=Qaz (fun n=>⟨H.keep (zad _ n _),Chg.drewN w n⟩);clear ih hA H;cases hc:zck l s with
 |none=>
  have HB:Hid (zdk l s=false):=Qaz (by rw[HQ.out,hc]);have e1:hasB l s=false:=by unfold hasB;rw[hc];rfl
  rw[hc,e1]at hlk;clear hc e1;go_enter Tryz.func188,Tryz.ntmps188;go_wp2_with (fail)
  go_quiet (fail)
  go_wp2;go_ret;exact⟨by rw[HB.out];try rfl,HRF.out _⟩
 |some i=>
  obtain⟨x,hx,_⟩:=zdq hc;have HB:Hid (zdk l s=(x.seal_&&(zb9 l s).all (zdk l))):=Qaz (by rw[HQ.out,hc];show(zhh l i&&_)=_;unfold zhh;rw[hx];rfl);have e1:hasB l s=true:=by unfold hasB;rw[hc];rfl
  have hil:=(Qcz hx).1;rw[hc,e1]at hlk;simp only[Option.getD_some]at hlk;obtain⟨b,off,rfl⟩:=Slc.addrH HA.out (by omega);obtain⟨A2,c2,A3,c3,p1,p2,p3,p4,g0,g1,g2,g3,g4,g5⟩:=CIs.atH HA.out hx;have c0:=HH.out.c0;have w1:(0:Int)≤(i:Int):=by omega
  have w2:(i:Int)<(l.length:Int):=by omega
  clear hc e1 hx p1 p2 p3 p4 g0 g1 g2 g3 g4;cases hse:x.seal_ with
  |false=>
   have HB2:Hid (zdk l s=false):=Qaz (by rw[HB.out,hse];rfl);rw[hse]at g5;clear hse;go_enter Tryz.func188,Tryz.ntmps188;go_wp2_with (fail)
   go_quiet (fail)
   go_wp2;go_ret;exact⟨by rw[HB2.out];try rfl,HRF.out _⟩
  |true=>
   have HB2:Hid (zdk l s=(zb9 l s).all (zdk l)):=Qaz (by rw[HB.out,hse];rfl);rw[hse]at g5;clear hse HB;go_enter Tryz.func188,Tryz.ntmps188;go_wp2_with (fail)
   go_quiet (fail)
   have h0q:(w.drewN nq).cell? ⟨b0,0,none⟩=some (.pointer (some ⟨hp,0,none⟩)):=h0;have HSB:=Qaz (zjs hp M1 (some ⟨b,off,none⟩) c l s (w.drewN nq) c0 _ (HA.out.keep (Keep.drewN _ w nq)) ol (by omega));have HR1:=Qaz (HRF.out nq);go_wp2_with (fail);refine HSB.out.mono ?_;clear HSB;rintro e V ⟨v,rfl,hown,hbv⟩;obtain⟨A5,c5,rfl,_,k5⟩:=hown.out;have HLT:Hid (∀q,(Value.slice A5 (zb9 l s).length c5).ownBlock=some q→(w.drewN nq).heap.size≤q):=Qaz (fun q e=>(hown.lt q e).1);have hMsz:M1+1<(w.drewN nq).heap.size:=by
    obtain⟨f,hf,_⟩:=HR1.out.H.m2;exact hf.lt
   have HV:Hid (Asked1 hp M1 (some ⟨b,off,none⟩) c l (fun b=>b=M1+1) w V):=Qaz ⟨HR1.out.H.keep hbv,HR1.out.ch.trans (Chg.of hbv)⟩;have v0:=zaa h0q hbv;have HLS:Hid ((zb9 l s).length≤1000000):=Qaz (by
    unfold zb9;rw[List.length_map]
    have:=List.length_filter_le (fun x=>hasS x.supers s) l;omega)
   have HCF:Hid (Calls Tryz.prog 155 #[.slice A5 (zb9 l s).length c5,.func (.func 189) #[] #[.pointer (some ⟨b0,0,none⟩)]] V fun e w'=>e=.returned (.bool (!(zb9 l s).all (zdk l)))∧Asked1 hp M1 (some ⟨b,off,none⟩) c l (fun b=>b=M1+1) V w'):=Qaz (by
    refine zgp 189 _ (enters Tryz.func189 (by kernel_rfl) rfl) A5 c5 (zb9 l s) (zdk l) (fun wr=>Asked1 hp M1 (some ⟨b,off,none⟩) c l (fun b=>b=M1+1) V wr) V ⟨HV.out.H,Chg.refl _ _⟩ (fun wr hr=> ?_) HLS.out (fun t ht wr hr=> ?_)
    ·refine(k5.keep (hr.ch.keep fun b hb q=> ?_)).now;rcases hb with hb|hb
     ·exact hb.elim
     ·have:=HLT.out b hb;omega
    ·have kV:Keep (fun b=>b≠M1+1) V wr:=hr.ch.keep fun b hb q=>hb q;have hAw:Held (fun b=>b<M1) (CIs (some ⟨b,off,none⟩) l) wr:=(HA.out.keep (HV.out.ch.keep fun b hb q=>by have hb:b<M1:=hb;omega)).keep (kV.mono fun b hb=>by have hb:b<M1:=hb;omega);refine(zm9 hp M1 (some ⟨b,off,none⟩) c l b0 t wr (zah v0 kV hbM) (HIH.out t ht wr hr.H hAw)).mono ?_;rintro e w' ⟨rfl,hq⟩;exact⟨rfl,hr.trans hq⟩)
   clear hown k5;go_wp2_with (fail);refine HCF.out.mono ?_;clear HCF;rintro e U ⟨rfl,hU⟩;have HU:=Qaz (HV.out.trans hU);clear hU;generalize(zb9 l s).all (zdk l)=al at HB2;cases al
   all_goals
    go_wp2;go_ret;exact⟨by rw[HB2.out];try rfl,HU.out⟩
theorem Asked1.cell{hp M1:Nat}{A:Option Addr}{c:Nat}{l:List CI}{B:Nat}{V U:World}{a:Addr}{v:Value}(h:Asked1 hp M1 A c l (fun b=>b=B) V U)(hc:V.cell? a=some v)(hn:a.block≠B):U.cell? a=some v:=
 zah hc (h.ch.keep (G:=fun b=>b≠B) fun b hb q=>hb q) hn
theorem zof(hp M1:Nat)(A:Option Addr)(c:Nat)(l:List CI)(hL:zai l)(ol:∀x∈l,zdo x):∀(n:Nat)(s:ByteArray)(w:World),zfd l s<n→HierAt hp M1 A c l l.length w→Held (fun b=>b<M1) (CIs A l) w→
  Calls Tryz.prog 152 #[.pointer (some ⟨hp,0,none⟩),.string s] w fun e w'=>e=.returned (.bool (zdk l s))∧Asked1 hp M1 A c l (fun b=>b=M1+1) w w':=by
 intro n
 induction n with
 |zero=>intro s w hr;omega
 |succ n ih=>
  intro s w hr H hA;obtain⟨W1,hW1⟩:∃W1,W1=(w.alloc (.cells #[.pointer (some ⟨hp,0,none⟩)] 98)).alloc (.cells #[.string s] 9):=⟨_,rfl⟩;have b1:Below w.heap.size w W1:=by rw[hW1];exact((Below.refl _ w).alloc (Qiz _) _).alloc (by simp) _
  have x0:W1.cell? ⟨w.heap.size,0,none⟩=some (.pointer (some ⟨hp,0,none⟩)):=by rw[hW1];exact zaa (zac w _ _ _ rfl 0 _ rfl) ((Below.refl _ _).alloc (Qiz _) _)
  have x1:W1.cell? ⟨w.heap.size+1,0,none⟩=some (.string s):=by rw[hW1];exact zac (w.alloc _) _ _ _ (by simp) 0 _ rfl
  have hms:M1+1<w.heap.size:=by
   obtain⟨f,hf,_⟩:=H.m2;exact hf.lt
  have H1:=H.keep b1;have A1:=hA.keep (Keep.all b1);have hpe:=H.hpe;have HRM:Hid (∀V,Asked1 hp M1 A c l (fun b=>b=M1+1) W1 V→Calls Tryz.prog 153 #[.map (some (M1+1)),.string s,.func (.func 188) #[] #[.pointer (some ⟨w.heap.size,0,none⟩),.pointer (some ⟨w.heap.size+1,0,none⟩)]] V fun e w'=>e=.returned (.bool (zdk l s))∧Asked1 hp M1 A c l (fun b=>b=M1+1) V w'):=Qaz (fun V hV=>by
   obtain⟨f,hf,hok⟩:=hV.H.m2;refine(zec 188 #[.pointer (some ⟨w.heap.size,0,none⟩),.pointer (some ⟨w.heap.size+1,0,none⟩)] (enters Tryz.func188 (by kernel_rfl) rfl) (M1+1) s (zdk l s) f V hf (fun u hu=>hok s u hu) (fun f' w'=>(∀s v,f' s=some v→v=.bool (zdk l s))∧Asked1 hp M1 A c l (fun b=>b=M1+1) V w') (fun _=> ?_)).mono ?_
   ·refine(zp0 hp M1 A c l hL ol w.heap.size (w.heap.size+1) (by omega) s V hV.H (A1.keep (hV.ch.keep fun b hb q=>by have hb:b<M1:=hb;omega)) (hV.cell x0 (by show w.heap.size≠_;omega)) (hV.cell x1 (by show w.heap.size+1≠_;omega)) (fun t ht U hU hAU=>ih t U (by have:=zfl hL ht;omega) hU hAU)).mono ?_;rintro e w' ⟨rfl,hq⟩;obtain⟨f',hf',hok'⟩:=hq.H.m2;exact⟨rfl,f',hf',hok',hq⟩
   ·rintro e w' ⟨rfl,(rfl|⟨f',w1,⟨hok',hq⟩,hM,hg⟩)⟩
    ·exact⟨rfl,hV.H,Chg.refl _ _⟩
    ·refine⟨rfl,hq.H.grown2 hg hM fun s' v h=> ?_,hq.ch.trans (Chg.grown hg fun b e=>by injection e with e;exact e.symm)⟩;by_cases e:s'=s
     ·rw[if_pos e]at h;cases h;rw[e]
     ·rw[if_neg e]at h;exact hok' s' v h)
  have c2:=H1.c2;have HF:Hid (∀U,Asked1 hp M1 A c l (fun b=>b=M1+1) W1 U→Asked1 hp M1 A c l (fun b=>b=M1+1) w U):=Qaz (fun U hU=>⟨hU.H,(Chg.of b1).trans hU.ch⟩);have H1H:=Qaz H1;have hn1:Hid (w.heap.size≠M1+1∧w.heap.size+1≠M1+1∧hp≠M1+1):=Qaz (by omega);clear H hA H1 A1 ih hr hms hpe;generalize zdk l s=v at HRM;go_enter Tryz.func152,Tryz.ntmps152;go_wp2_with (fail);rw[←hW1];clear hW1
  go_region_held3 (fun w'=>w'.cell? ⟨w.heap.size,0,none⟩=some (.pointer (some ⟨hp,0,none⟩))∧w'.cell? ⟨w.heap.size+1,0,none⟩=some (.string s)∧w'.cell? ⟨hp,2,none⟩=some (.map (some (M1+1)))∧Asked1 hp M1 A c l (fun b=>b=M1+1) W1 w')
   (first|exact⟨x0,x1,c2,⟨H1H.out.keep ((Below.refl _ _).drew),Chg.drew W1⟩⟩|(go_split_ands;exact⟨hbu.cell (by assumption) hn1.out.1,hbu.cell (by assumption) hn1.out.2.1,hbu.cell (by assumption) hn1.out.2.2,Asked1.trans (by assumption) hbu⟩))
   ((go_at_call 153;refine(HRM.out _ (by go_split_ands;assumption)).mono ?_;rintro e U ⟨rfl,hbu⟩))
  have hU:Asked1 hp M1 A c l (fun b=>b=M1+1) W1 U:=by go_split_ands;assumption
  have HU:=Qaz (HF.out U hU);clear hU;go_split_ands;go_wp2;go_ret;exact⟨by try rfl,HU.out⟩
theorem zj2(hp M1:Nat)(A:Option Addr)(c:Nat)(l:List CI)(hL:zai l)(ol:∀x∈l,zdo x)(s:ByteArray)(w:World)(H:HierAt hp M1 A c l l.length w)(hA:Held (fun b=>b<M1) (CIs A l) w):
  Calls Tryz.prog 152 #[.pointer (some ⟨hp,0,none⟩),.string s] w fun e w'=>e=.returned (.bool (zdk l s))∧Asked1 hp M1 A c l (fun b=>b=M1+1) w w':=zof hp M1 A c l hL ol _ s w (Nat.lt_succ_self _) H hA
theorem Asked1.cellB{hp M1:Nat}{A:Option Addr}{c:Nat}{l:List CI}{B:Nat→Prop}{V U:World}{a:Addr}{v:Value}(h:Asked1 hp M1 A c l B V U)(hc:V.cell? a=some v)(hn:¬B a.block):U.cell? a=some v:=
 zah hc (h.ch.keep (G:=fun b=>¬B b) fun b hb q=>hb q) hn
theorem Asked1.mono{hp M1:Nat}{A:Option Addr}{c:Nat}{l:List CI}{B B':Nat→Prop}{V U:World}(h:Asked1 hp M1 A c l B V U)(hb:∀b,B b→B' b):Asked1 hp M1 A c l B' V U:=⟨h.H,h.ch.mono fun b _ q=>hb b q⟩
theorem HierAt.grown3{hp M1:Nat}{A:Option Addr}{c:Nat}{l:List CI}{k:Nat}{w w':World}(h:HierAt hp M1 A c l k w)(hg:w.grownBy w' (some (M1+1+1))){f:ByteArray→Option Value}(hf:MapF zbn (M1+1+1) f w')(hok:∀s v,f s=some v→v=.bool (vdB l s)):HierAt hp M1 A c l k w':=by
 have kg:Keep (fun b=>b≠M1+1+1) w w':=Keep.grown hg fun b hb e=>hb (by injection e);have hpe:=h.hpe;exact⟨zah h.c0 kg (by show hp≠_;omega),zah h.c1 kg (by show hp≠_;omega),h.at_.keep kg (by omega),zah h.c2 kg (by show hp≠_;omega),zah h.c3 kg (by show hp≠_;omega),h.m2.imp fun f hf=>⟨hf.1.keep kg (by omega),hf.2⟩,⟨f,hf,hok⟩,hpe⟩
abbrev zce(M1:Nat)(b:Nat):Prop:=b=M1+1∨b=M1+1+1
theorem zqo(hp M1:Nat)(A:Option Addr)(c:Nat)(l:List CI)(b0:Nat)(s:ByteArray)(w:World)(h0:w.cell? ⟨b0,0,none⟩=some (.pointer (some ⟨hp,0,none⟩)))
  (ih:Calls Tryz.prog 207 #[.pointer (some ⟨hp,0,none⟩),.string s] w fun e w'=>e=.returned (.bool (vdB l s))∧Asked1 hp M1 A c l (zce M1) w w'):
  Calls Tryz.prog 220 #[.string s,.pointer (some ⟨b0,0,none⟩)] w fun e w'=>e=.returned (.bool (!vdB l s))∧Asked1 hp M1 A c l (zce M1) w w':=by
 have HI:=Qaz ih;clear ih;generalize vdB l s=v at HI;go_enter Tryz.func220,Tryz.ntmps220;go_wp2_with (fail);refine HI.out.mono ?_;rintro e w' ⟨rfl,hq⟩;have HQ:=Qaz hq;clear hq;cases v
 all_goals
  go_wp2;go_ret;exact⟨rfl,HQ.out⟩
theorem zs9(hp M1:Nat)(A:Option Addr)(c:Nat)(l:List CI)(hL:zai l)(ol:∀x∈l,zdo x)(b0 b1:Nat)(hbM:¬zce M1 b0)(hbN:¬zce M1 b1)(s:ByteArray)(w:World)(H:HierAt hp M1 A c l l.length w)(hA:Held (fun b=>b<M1) (CIs A l) w)
  (h0:w.cell? ⟨b0,0,none⟩=some (.pointer (some ⟨hp,0,none⟩))) (h1:w.cell? ⟨b1,0,none⟩=some (.string s))
  (ih:∀t∈zb9 l s,∀V,HierAt hp M1 A c l l.length V→Held (fun b=>b<M1) (CIs A l) V→Calls Tryz.prog 207 #[.pointer (some ⟨hp,0,none⟩),.string t] V fun e w'=>e=.returned (.bool (vdB l t))∧Asked1 hp M1 A c l (zce M1) V w'):
  Calls Tryz.prog 219 #[.pointer (some ⟨b0,0,none⟩),.pointer (some ⟨b1,0,none⟩)] w fun e w'=>e=.returned (.bool (vdB l s))∧Asked1 hp M1 A c l (zce M1) w w':=by
 have hmf:∀(fn:Fn)(first cap:Array Value)(w:World),(Instr.makeFunc fn first cap).run Tryz.prog w=.ok (.func fn first cap) w:=fun _ _ _ _=>rfl;have HA:=Qaz hA;have HQ:=Qaz (zyk hL s);have HIH:=Qaz ih;have h120:=hL.1;have h11:=hL.2.1;have HCL:=Qaz (zj2 hp M1 A c l hL ol s w H hA);have HAB:=Qaz (fun V (hV:Asked1 hp M1 A c l (zce M1) w V)=>zff hp M1 A c l s V hV.H _ (hA.keep (hV.ch.keep fun b hb q=>by have hb:b<M1:=hb;rcases q with q|q<;>omega)) (by omega))
 have HSB:=Qaz (fun V (hV:Asked1 hp M1 A c l (zce M1) w V)=>zjs hp M1 A c l s V hV.H.c0 _ (hA.keep (hV.ch.keep fun b hb q=>by have hb:b<M1:=hb;rcases q with q|q<;>omega)) ol (by omega));have hms:M1+1+1<w.heap.size:=by
  obtain⟨f,hf,_⟩:=H.m3;exact hf.lt
 have HLS:Hid ((zb9 l s).length≤1000000):=Qaz (by
  unfold zb9;rw[List.length_map]
  have:=List.length_filter_le (fun x=>hasS x.supers s) l;omega)
 clear ih hA H;generalize zdk l s=cl at HCL HQ;generalize zf3 l s=ab at HAB HQ;go_enter Tryz.func219,Tryz.ntmps219;go_wp2_with (fail);refine HCL.out.mono ?_;clear HCL;rintro e V ⟨rfl,hV⟩;have HV:=Qaz (hV.mono (B':=zce M1) fun b q=>.inl q);have v0:=HV.out.cellB h0 hbM;have v1:=HV.out.cellB h1 hbN;clear hV h0 h1;cases cl with
 |false=>
  have HB:Hid (vdB l s=false):=Qaz (by rw[HQ.out];rfl);go_wp2;go_ret;exact⟨by rw[HB.out];try rfl,HV.out⟩
 |true=>
 have HAV:=Qaz (HAB.out V HV.out);clear HAB;go_wp2_with (fail);refine HAV.out.mono ?_;clear HAV;rintro e U ⟨rfl,hdr⟩;have bU:=hdr.below V.heap.size;have HU:Hid (Asked1 hp M1 A c l (zce M1) w U):=Qaz (HV.out.trans ⟨HV.out.H.keep bU,Chg.of bU⟩);have u0:=zaa v0 bU;have u1:=zaa v1 bU;clear hdr v0 v1 bU;cases ab with
 |false=>
  have HB:Hid (vdB l s=false):=Qaz (by rw[HQ.out];rfl);go_wp2;go_ret;exact⟨by rw[HB.out];try rfl,HU.out⟩
 |true=>
 have HB:Hid (vdB l s=(zb9 l s).all (vdB l)):=Qaz (by rw[HQ.out];rfl);have HSU:=Qaz (HSB.out U HU.out);clear HSB HQ;go_wp2_with (fail);refine HSU.out.mono ?_;clear HSU;rintro e X ⟨v,rfl,hown,hbx⟩;obtain⟨A5,c5,rfl,_,k5⟩:=hown.out;have HUZ:=Qaz HU.out.ch.size;have HLT:Hid (∀q,(Value.slice A5 (zb9 l s).length c5).ownBlock=some q→U.heap.size≤q):=Qaz (fun q e=>(hown.lt q e).1);have HX:Hid (Asked1 hp M1 A c l (zce M1) w X):=Qaz (HU.out.trans ⟨HU.out.H.keep hbx,Chg.of hbx⟩);have x0:=zaa u0 hbx
 have HCF:Hid (Calls Tryz.prog 155 #[.slice A5 (zb9 l s).length c5,.func (.func 220) #[] #[.pointer (some ⟨b0,0,none⟩)]] X fun e w'=>e=.returned (.bool (!(zb9 l s).all (vdB l)))∧Asked1 hp M1 A c l (zce M1) X w'):=Qaz (by
  refine zgp 220 _ (enters Tryz.func220 (by kernel_rfl) rfl) A5 c5 (zb9 l s) (vdB l) (fun wr=>Asked1 hp M1 A c l (zce M1) X wr) X ⟨HX.out.H,Chg.refl _ _⟩ (fun wr hr=> ?_) HLS.out (fun t ht wr hr=> ?_)
  ·refine(k5.keep (hr.ch.keep fun b hb q=> ?_)).now;rcases hb with hb|hb
   ·exact hb.elim
   ·have:=HLT.out b hb;have:=HUZ.out;rcases q with q|q<;>omega
  ·have hAw:Held (fun b=>b<M1) (CIs A l) wr:=(HA.out.keep (HX.out.ch.keep fun b hb q=>by have hb:b<M1:=hb;rcases q with q|q<;>omega)).keep (hr.ch.keep fun b hb q=>by have hb:b<M1:=hb;rcases q with q|q<;>omega);refine(zqo hp M1 A c l b0 t wr (hr.cellB x0 hbM) (HIH.out t ht wr hr.H hAw)).mono ?_;rintro e w' ⟨rfl,hq⟩;exact⟨rfl,hr.trans hq⟩)
 clear hown k5 x0 hms;go_wp2_with (fail);refine HCF.out.mono ?_;clear HCF;rintro e Y ⟨rfl,hY⟩;have HY:=Qaz (HX.out.trans hY);clear hY;generalize(zb9 l s).all (vdB l)=al at HB;cases al
 all_goals
  go_wp2;go_ret;exact⟨by rw[HB.out];try rfl,HY.out⟩
theorem zs8(hp M1:Nat)(A:Option Addr)(c:Nat)(l:List CI)(hL:zai l)(ol:∀x∈l,zdo x):∀(n:Nat)(s:ByteArray)(w:World),zfd l s<n→HierAt hp M1 A c l l.length w→Held (fun b=>b<M1) (CIs A l) w→
  Calls Tryz.prog 207 #[.pointer (some ⟨hp,0,none⟩),.string s] w fun e w'=>e=.returned (.bool (vdB l s))∧Asked1 hp M1 A c l (zce M1) w w':=by
 intro n
 induction n with
 |zero=>intro s w hr;omega
 |succ n ih=>
  intro s w hr H hA;obtain⟨W1,hW1⟩:∃W1,W1=(w.alloc (.cells #[.pointer (some ⟨hp,0,none⟩)] 98)).alloc (.cells #[.string s] 9):=⟨_,rfl⟩;have b1:Below w.heap.size w W1:=by rw[hW1];exact((Below.refl _ w).alloc (Qiz _) _).alloc (by simp) _
  have x0:W1.cell? ⟨w.heap.size,0,none⟩=some (.pointer (some ⟨hp,0,none⟩)):=by rw[hW1];exact zaa (zac w _ _ _ rfl 0 _ rfl) ((Below.refl _ _).alloc (Qiz _) _)
  have x1:W1.cell? ⟨w.heap.size+1,0,none⟩=some (.string s):=by rw[hW1];exact zac (w.alloc _) _ _ _ (by simp) 0 _ rfl
  have hms:M1+1+1<w.heap.size:=by
   obtain⟨f,hf,_⟩:=H.m3;exact hf.lt
  have H1:=H.keep b1;have A1:=hA.keep (Keep.all b1);have hpe:=H.hpe;have hn1:Hid (¬zce M1 w.heap.size∧¬zce M1 (w.heap.size+1)∧¬zce M1 hp):=Qaz ⟨fun q=>by rcases q with q|q<;>omega,fun q=>by rcases q with q|q<;>omega,fun q=>by rcases q with q|q<;>omega⟩;have HRM:Hid (∀V,Asked1 hp M1 A c l (zce M1) W1 V→Calls Tryz.prog 153 #[.map (some (M1+1+1)),.string s,.func (.func 219) #[] #[.pointer (some ⟨w.heap.size,0,none⟩),.pointer (some ⟨w.heap.size+1,0,none⟩)]] V fun e w'=>e=.returned (.bool (vdB l s))∧Asked1 hp M1 A c l (zce M1) V w'):=Qaz (fun V hV=>by
   obtain⟨f,hf,hok⟩:=hV.H.m3;refine(zec 219 #[.pointer (some ⟨w.heap.size,0,none⟩),.pointer (some ⟨w.heap.size+1,0,none⟩)] (enters Tryz.func219 (by kernel_rfl) rfl) (M1+1+1) s (vdB l s) f V hf (fun u hu=>hok s u hu) (fun f' w'=>(∀s v,f' s=some v→v=.bool (vdB l s))∧Asked1 hp M1 A c l (zce M1) V w') (fun _=> ?_)).mono ?_
   ·refine(zs9 hp M1 A c l hL ol w.heap.size (w.heap.size+1) hn1.out.1 hn1.out.2.1 s V hV.H (A1.keep (hV.ch.keep fun b hb q=>by have hb:b<M1:=hb;rcases q with q|q<;>omega)) (hV.cellB x0 hn1.out.1) (hV.cellB x1 hn1.out.2.1) (fun t ht U hU hAU=>ih t U (by have:=zfl hL ht;omega) hU hAU)).mono ?_;rintro e w' ⟨rfl,hq⟩;obtain⟨f',hf',hok'⟩:=hq.H.m3;exact⟨rfl,f',hf',hok',hq⟩
   ·rintro e w' ⟨rfl,(rfl|⟨f',w1,⟨hok',hq⟩,hM,hg⟩)⟩
    ·exact⟨rfl,hV.H,Chg.refl _ _⟩
    ·refine⟨rfl,hq.H.grown3 hg hM fun s' v h=> ?_,hq.ch.trans (Chg.grown hg fun b e=>by injection e with e;exact .inr e.symm)⟩;by_cases e:s'=s
     ·rw[if_pos e]at h;cases h;rw[e]
     ·rw[if_neg e]at h;exact hok' s' v h)
  have c3:=H1.c3;have HF:Hid (∀U,Asked1 hp M1 A c l (zce M1) W1 U→Asked1 hp M1 A c l (zce M1) w U):=Qaz (fun U hU=>⟨hU.H,(Chg.of b1).trans hU.ch⟩);have H1H:=Qaz H1;clear H hA H1 A1 ih hr hms hpe;generalize vdB l s=v at HRM;go_enter Tryz.func207,Tryz.ntmps207;go_wp2_with (fail);rw[←hW1];clear hW1
  go_region_held3 (fun w'=>w'.cell? ⟨w.heap.size,0,none⟩=some (.pointer (some ⟨hp,0,none⟩))∧w'.cell? ⟨w.heap.size+1,0,none⟩=some (.string s)∧w'.cell? ⟨hp,3,none⟩=some (.map (some (M1+1+1)))∧Asked1 hp M1 A c l (zce M1) W1 w')
   (first|exact⟨x0,x1,c3,⟨H1H.out.keep ((Below.refl _ _).drew),Chg.drew W1⟩⟩|(go_split_ands;exact⟨hbu.cellB (by assumption) hn1.out.1,hbu.cellB (by assumption) hn1.out.2.1,hbu.cellB (by assumption) hn1.out.2.2,Asked1.trans (by assumption) hbu⟩))
   ((go_at_call 153;refine(HRM.out _ (by go_split_ands;assumption)).mono ?_;rintro e U ⟨rfl,hbu⟩))
  have hU:Asked1 hp M1 A c l (zce M1) W1 U:=by go_split_ands;assumption
  have HU:=Qaz (HF.out U hU);clear hU;go_split_ands;go_wp2;go_ret;exact⟨by try rfl,HU.out⟩
theorem zu3(hp M1:Nat)(A:Option Addr)(c:Nat)(l:List CI)(hL:zai l)(ol:∀x∈l,zdo x)(s:ByteArray)(w:World)(H:HierAt hp M1 A c l l.length w)(hA:Held (fun b=>b<M1) (CIs A l) w):
  Calls Tryz.prog 207 #[.pointer (some ⟨hp,0,none⟩),.string s] w fun e w'=>e=.returned (.bool (vdB l s))∧Asked1 hp M1 A c l (zce M1) w w':=zs8 hp M1 A c l hL ol _ s w (Nat.lt_succ_self _) H hA
def zau(s:ByteArray):Ty:=.mk 1 s 0 0 []
def zbo(lo hi:Int):Ty:=.mk 2 ⟨#[]⟩ lo hi []
def zbb(n:Int):Ty:=.mk 3 ⟨#[]⟩ n 0 []
abbrev zgf(t:Ty)(A:Option Addr)(c:Nat):Value:=.agg #[.int .i64 t.kind,.string t.name,.int .i64 t.lo,.int .i64 t.hi,.slice A 0 c]
theorem zeb(s:ByteArray)(w:World):Calls Tryz.prog 140 #[.string s] w fun e w'=>e=.returned (zgf (zau s) none 0)∧Below w.heap.size w w':=by
 go_enter Tryz.func140,Tryz.ntmps140;go_wp2;refine bodyPost_ret (v:=zgf (zau s) none 0) (by simp[results,Tryz.results140,go_sem];first|done|exact⟨rfl,rfl,rfl,rfl⟩) rfl ?_;exact⟨rfl,(Below.refl _ w).alloc (Qiz _) _⟩
theorem zfy(a b:Int)(w:World):Calls Tryz.prog 143 #[.int .i64 a,.int .i64 b] w fun e w'=>e=.returned (zgf (zbo a b) none 0)∧Below w.heap.size w w':=by
 go_enter Tryz.func143,Tryz.ntmps143;go_wp2;refine bodyPost_ret (v:=zgf (zbo a b) none 0) (by simp[results,Tryz.results143,go_sem];first|done|exact⟨rfl,rfl,rfl,rfl⟩) rfl ?_;exact⟨rfl,(Below.refl _ w).alloc (Qiz _) _⟩
theorem zj1(n:Int)(w:World):Calls Tryz.prog 144 #[.int .i64 n] w fun e w'=>e=.returned (zgf (zbb n) none 0)∧Below w.heap.size w w':=by
 go_enter Tryz.func144,Tryz.ntmps144;go_wp2;refine bodyPost_ret (v:=zgf (zbb n) none 0) (by simp[results,Tryz.results144,go_sem];first|done|exact⟨rfl,rfl,rfl,rfl⟩) rfl ?_;exact⟨rfl,(Below.refl _ w).alloc (Qiz _) _⟩
def zdb(t:Ty)(s:ByteArray):Bool:=decide (t.kind=1)&&decide (t.name=s)
theorem zot(t:Ty)(A:Option Addr)(n c:Nat)(s:ByteArray)(w:World):Calls Tryz.prog 151 #[.agg #[.int .i64 t.kind,.string t.name,.int .i64 t.lo,.int .i64 t.hi,.slice A n c],.string s] w fun e w'=>e=.returned (.bool (zdb t s))∧Below w.heap.size w w':=by
 have hb:Below w.heap.size w (w.alloc (.cells #[.int .i64 t.kind,.string t.name,.int .i64 t.lo,.int .i64 t.hi,.slice A n c] 36)):=(Below.refl _ w).alloc (Qiz _) _;by_cases h1:t.kind=1
 ·have t1:(t.kind==1)=true:=beq_iff_eq.2 h1;have HR:Hid (zdb t s=decide (t.name=s)):=Qaz (by unfold zdb;rw[Qhz h1];rfl);clear h1;go_enter Tryz.func151,Tryz.ntmps151;go_wp2;go_ret;exact⟨by rw[HR.out];try rfl,hb⟩
 ·have t1:(t.kind==1)=false:=Qfz h1;have HR:Hid (zdb t s=false):=Qaz (by unfold zdb;rw[Qgz h1];rfl);clear h1;go_enter Tryz.func151,Tryz.ntmps151;go_wp2;go_ret;exact⟨by rw[HR.out];try rfl,hb⟩
def eqL(a b:Ty):Bool:=decide (a.kind=b.kind)&&(decide (a.name=b.name)&&(decide (a.lo=b.lo)&&decide (a.hi=b.hi)))
theorem znd(A B:Option Addr)(c d:Nat)(f:Value)(w:World):Calls Tryz.prog 182 #[.slice A 0 c,.slice B 0 d,f] w fun e w'=>e=.returned (.bool true)∧w'=w:=by
 go_enter Tryz.func182,Tryz.ntmps182;go_wp2
 go_loopw [17] (fun i wr=>i=.int .i64 0∧wr=w) (fun i _=>0)
 case atStart=>exact⟨rfl,rfl⟩
 case round=>
  obtain⟨rfl,rfl⟩:=hrel;go_wp2;go_ret;exact⟨rfl,rfl⟩
theorem ze3(a b:Ty)(A B:Option Addr)(c d:Nat)(w:World):Calls Tryz.prog 142 #[zgf a A c,zgf b B d] w fun e w'=>e=.returned (.bool (eqL a b))∧Below w.heap.size w w':=by
 have hb:Below w.heap.size w ((w.alloc (.cells #[.int .i64 a.kind,.string a.name,.int .i64 a.lo,.int .i64 a.hi,.slice A 0 c] 36)).alloc (.cells #[.int .i64 b.kind,.string b.name,.int .i64 b.lo,.int .i64 b.hi,.slice B 0 d] 36)):=((Below.refl _ w).alloc (Qiz _) _).alloc (by simp) _;have HE:=Qaz (fun f V=>znd A B c d f V);have HQ:Hid (∀x,eqL a b=x→eqL a b=x):=Qaz fun _ h=>h;by_cases h1:a.kind=b.kind;rotate_left
 ·have t1:(a.kind==b.kind)=false:=Qfz h1;have HR:Hid (eqL a b=false):=Qaz (by unfold eqL;rw[Qgz h1];rfl);clear h1;go_enter Tryz.func142,Tryz.ntmps142;go_wp2;go_ret;exact⟨by rw[HR.out];try rfl,hb⟩
 have t1:(a.kind==b.kind)=true:=beq_iff_eq.2 h1;by_cases h2:a.name=b.name;rotate_left
 ·have t2:decide (a.name=b.name)=false:=Qgz h2;have HR:Hid (eqL a b=false):=Qaz (by unfold eqL;rw[t2];simp);clear h1 h2;go_enter Tryz.func142,Tryz.ntmps142;go_wp2;go_ret;exact⟨by rw[HR.out];try rfl,hb⟩
 have t2:decide (a.name=b.name)=true:=Qhz h2;by_cases h3:a.lo=b.lo;rotate_left
 ·have t3:(a.lo==b.lo)=false:=Qfz h3;have HR:Hid (eqL a b=false):=Qaz (by unfold eqL;rw[Qgz h3];simp);clear h1 h2 h3;go_enter Tryz.func142,Tryz.ntmps142;go_wp2;go_ret;exact⟨by rw[HR.out];try rfl,hb⟩
 have t3:(a.lo==b.lo)=true:=beq_iff_eq.2 h3;by_cases h4:a.hi=b.hi;rotate_left
 ·have t4:(a.hi==b.hi)=false:=Qfz h4;have HR:Hid (eqL a b=false):=Qaz (by unfold eqL;rw[Qgz h4];simp);clear h1 h2 h3 h4;go_enter Tryz.func142,Tryz.ntmps142;go_wp2;go_ret;exact⟨by rw[HR.out];try rfl,hb⟩
 have t4:(a.hi==b.hi)=true:=beq_iff_eq.2 h4;have HR:Hid (eqL a b=true):=Qaz (by unfold eqL;rw[Qhz h1,Qhz h2,Qhz h3,Qhz h4];rfl);clear h1 h2 h3 h4;go_enter Tryz.func142,Tryz.ntmps142;go_wp2_with (fail);refine(HE.out _ _).mono ?_;rintro e V ⟨rfl,rfl⟩;go_wp2;go_ret;exact⟨by rw[HR.out];try rfl,hb⟩
end Go.Proofs.YtepnmejahbiacaaGreat
