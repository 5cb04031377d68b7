/- Part 27 of the proof: Pd, Pe, Pf, Pg. -/
import Derived.Deep.RegionHeldLaw
import Derived.Test.YtepnmejahbiacaaGreatM22
set_option linter.unusedVariables false
set_option linter.unusedSimpArgs false
set_option maxHeartbeats 64000000
set_option maxRecDepth 100000
namespace Go.Proofs.YtepnmejahbiacaaGreat
open Go.RowKit
section
attribute [local go_sem ↓] Go.wp_at_zero Go.wp_at_succ
theorem zmf(S:Nat→Prop)(pb hp:Nat)(p:PartsT)(r:PRows)(k:Int)(lo hi:Int)(A:Option Addr)(c:Nat)(w:World)(h:PartsAt pb hp p r w)(hl:(p.row 0).length≤1000000):
  Calls Tryz.prog 176 #[.pointer (some ⟨pb,0,none⟩),.agg #[.int .i64 k,.string ⟨#[60,105,110,116,101,103,101,114,62]⟩,.int .i64 lo,.int .i64 hi,.slice A 0 c]] w fun e w'=>e=.returned (.tuple #[])∧∃r',PartsAt pb hp (p.add 0 (zbo (-9223372036854775808) 9223372036854775807)) r' w'∧PMove S pb r w r' w':=by
 have hlt:=h.lt;obtain⟨W1,hW1⟩:∃W1,W1=(w.alloc (.cells #[.int .i64 k,.string ⟨#[60,105,110,116,101,103,101,114,62]⟩,.int .i64 lo,.int .i64 hi,.slice A 0 c] 36)):=⟨_,rfl⟩;have b1:Below w.heap.size w W1:=by rw[hW1];exact(Below.refl _ w).alloc (Qiz _) _
 have q1:W1.cell? ⟨pb,1,none⟩=some (r.v p 0):=((h.all b1).cel 1 _ rfl).1;have HP:Hid (∀V,Below w.heap.size w V→PartsAt pb hp p r V):=Qaz (fun V hv=>h.all hv);have wb:((p.row 0).length:Int)<((p.row 0).length:Int)+1:=by omega
 have w0:(0:Int)≤((p.row 0).length:Int):=by omega
 have HN:Hid (∀b,b=pb∨w.heap.size≤b→(Value.slice (r.a 0) (p.row 0).length (r.c 0)).ownBlock≠some b):=Qaz (fun b hb e=>by
  have:=h.ownLt (PRows.ownOf (p:=p) (i:=0) e);omega)
 clear h;unfold PRows.v at q1;go_enter Tryz.func176,Tryz.ntmps176;go_wp2_with (fail);rw[←hW1];clear hW1;have BW:Hid (∀V V',Below w.heap.size w V→Below V.heap.size V V'→Below w.heap.size w V'):=Qaz (fun V V' h1 h2=>h1.trans (h2.mono h1.size));have HQ:Hid (∀V,Below w.heap.size w V→V.cell? ⟨pb,1,none⟩=some (.slice (r.a 0) (p.row 0).length (r.c 0))∧V.frozen? ⟨pb,1,none⟩=false):=Qaz (fun V hv=>(HP.out V hv).cel 1 _ rfl);have hltW:pb<W1.heap.size:=Nat.lt_of_lt_of_le hlt b1.size
 have HCA:Hid (∀V,Below (W1.alloc (.cells #[.int .i64 0,.string ⟨#[]⟩,.int .i64 0,.int .i64 0,.slice none 0 0] 36)).drew.heap.size (W1.alloc (.cells #[.int .i64 0,.string ⟨#[]⟩,.int .i64 0,.int .i64 0,.slice none 0 0] 36)).drew V→∀j u,[Value.int .i64 0,.string ⟨#[]⟩,.int .i64 0,.int .i64 0,.slice none 0 0][j]? =some u→V.cell? ((⟨W1.heap.size,0,none⟩:Addr).add j)=some u):=Qaz (fun V hv j u hu=>zaa (by simpa using zaq W1 #[.int .i64 0,.string ⟨#[]⟩,.int .i64 0,.int .i64 0,.slice none 0 0] _ _ rfl j u hu) hv)
 go_region_law (first
  |(refine za1 typR 36 5 (pb+1) 64 (fun _=>False) _ (by rfl) _ _ 34 _ (by rfl) Tryz.underlying34 zcp rfl (by decide) (by decide) (.slice (r.a 0) (p.row 0).length (r.c 0)) (p.row 0) (by rfl) ((HP.out _ (by first|exact hbV|exact hbV.alloc hbV.size _)).row 0) ⟨_,0,none⟩ 1 (by rfl) zeu [.int .i64 0,.string ⟨#[]⟩,.int .i64 0,.int .i64 0,.slice none 0 0] rfl (by first|exact hcV|exact zaq _ _ _ _ rfl) zgx (zrl _) (fun _ hb=>hb.elim) (by have:=hbV.size;first|omega|(simp;omega)) (by omega) _ rfl ?_
    intro g cap w3 hown hgrow hat hlt3;obtain⟨⟨y0,f0⟩,⟨y1,f1⟩,⟨y2,f2⟩,⟨y3,f3⟩,A4,c4,y4,f4⟩:=zeroCells hown;have u1:=zas hgrow (HQ.out _ (by first|exact hbV|exact hbV.alloc hbV.size _)).1 (HN.out _ (.inl rfl));have g1:=zbc hgrow (HQ.out _ (by first|exact hbV|exact hbV.alloc hbV.size _)).1 (HQ.out _ (by first|exact hbV|exact hbV.alloc hbV.size _)).2 (HN.out _ (.inl rfl));have n1:g≠pb:=by
     rcases hat with e|e
     ·exact fun q=>HN.out g (.inl q) e
     ·have:=hbV.size;first|omega|(simp at e;omega))
  |(go_simp;go_at_call 143;refine(zfy _ _ _).mono ?_;rintro e V ⟨rfl,hbv⟩
    have hbV:Below w.heap.size w V:=by first|exact BW.out _ _ b1.drew hbv|exact BW.out _ _ (b1.alloc b1.size _).drew hbv|exact BW.out _ _ (b1.drew.alloc b1.drew.size _) hbv
    try (have hcV:=HCA.out _ hbv)
    obtain⟨q1,q2⟩:=HQ.out V hbV;have hltV:pb<V.heap.size:=Nat.lt_of_lt_of_le hlt hbV.size
    try go_simp))
 all_goals
  have F:=(HP.out _ (by first|exact hbV|exact hbV.alloc hbV.size _)).put2 S (by first|exact hbV|exact hbV.alloc hbV.size _) 0 1 rfl (Chg.grown hgrow fun b hb=>hb) hat hown (zbo (-9223372036854775808) 9223372036854775807).kind (zbo (-9223372036854775808) 9223372036854775807).name (zbo (-9223372036854775808) 9223372036854775807).lo (zbo (-9223372036854775808) 9223372036854775807).hi none 0 (fun e=>n1 e.symm)
  rw[show Ty.mk (zbo (-9223372036854775808) 9223372036854775807).kind (zbo (-9223372036854775808) 9223372036854775807).name (zbo (-9223372036854775808) 9223372036854775807).lo (zbo (-9223372036854775808) 9223372036854775807).hi []=zbo (-9223372036854775808) 9223372036854775807 from rfl]at F;clear y0 f0 y1 f1 y2 f2 y3 f3 y4 f4 u1 g1 hown hgrow hat;go_wp2;refine bodyPost_end (v:=.tuple #[]) (by simp[results,Tryz.results176]) rfl ?_
  first
   |with_reducible exact⟨rfl,F.1⟩
   |with_reducible exact⟨rfl,F.2⟩
   |trace_state
theorem HierAt.pmove{hp M1:Nat}{AH:Option Addr}{cH:Nat}{l:List CI}{k pb:Nat}{p:PartsT}{r r':PRows}{w w':World}(H:HierAt hp M1 AH cH l k w)(h:PartsAt pb hp p r w)(hpb:hp<pb)(q:PMove (fun _=>False) pb r w r' w'):HierAt hp M1 AH cH l k w':=by
 have e:=H.hpe;refine H.chg q.chg fun b hb=> ?_;rcases hb with hb|rfl|hb
 ·exact hb.elim
 ·exact⟨by omega,by omega,fun m=>by simp only[zce]at m;omega⟩
 ·have:=(h.ownLt hb).1;exact⟨by omega,by omega,fun m=>by simp only[zce]at m;omega⟩
theorem PartsAt.memo{hp M1:Nat}{pb:Nat}{p:PartsT}{r:PRows}{w w':World}(h:PartsAt pb hp p r w)(e:hp=M1+1+1+1)(hpb:hp<pb)(q:Chg (zce M1) w w'):PartsAt pb hp p r w':=
 h.chg q fun b m=>by
  simp only[zce]at m;exact⟨by omega,fun o=>by have:=(h.ownLt o).1;omega⟩
def z0r(l:List CI)(p:PartsT)(t:Ty):PartsT:=if vdB l t.name then p else p.add 2 t
theorem zlj(hp M1:Nat)(AH:Option Addr)(cH:Nat)(l:List CI)(hL:zai l)(ol:∀x∈l,zdo x)(pb:Nat)(hpb:hp<pb)(p:PartsT)(r:PRows)(k:Int)(s:ByteArray)(lo hi:Int)(A:Option Addr)(c:Nat)(w:World)(h:PartsAt pb hp p r w)(H:HierAt hp M1 AH cH l l.length w)(hA:Held (fun b=>b<M1) (CIs AH l) w)(hl:(p.row 2).length≤1000000)
  (h1:decide (s=⟨#[60,105,110,116,101,103,101,114,62]⟩)=false) (h2:decide (s=⟨#[60,98,111,111,108,101,97,110,62]⟩)=false):
  Calls Tryz.prog 176 #[.pointer (some ⟨pb,0,none⟩),.agg #[.int .i64 k,.string s,.int .i64 lo,.int .i64 hi,.slice A 0 c]] w fun e w'=>e=.returned (.tuple #[])∧∃r',PartsAt pb hp (z0r l p (.mk k s lo hi [])) r' w'∧PMove (zce M1) pb r w r' w'∧HierAt hp M1 AH cH l l.length w':=by
 have hlt:=h.lt;have hpe:=H.hpe;obtain⟨W1,hW1⟩:∃W1,W1=(w.alloc (.cells #[.int .i64 k,.string s,.int .i64 lo,.int .i64 hi,.slice A 0 c] 36)):=⟨_,rfl⟩;have b1:Below w.heap.size w W1:=by rw[hW1];exact(Below.refl _ w).alloc (Qiz _) _
 have b2:Below w.heap.size w W1.drew:=b1.drew;have box:Cel w.heap.size [.int .i64 k,.string s,.int .i64 lo,.int .i64 hi,.slice A 0 c] W1:=by rw[hW1];exact Cel.new w _ _ _ rfl
 obtain⟨x1,_⟩:=box 1 _ rfl;obtain⟨q0,_⟩:=(h.all b1).cel 0 _ rfl;have HC:Hid (∀V,Below w.heap.size w V→Calls Tryz.prog 207 #[.pointer (some ⟨hp,0,none⟩),.string s] V fun e w'=>e=.returned (.bool (vdB l s))∧Asked1 hp M1 AH cH l (zce M1) V w'):=Qaz (fun V hv=>zu3 hp M1 AH cH l hL ol s V (H.keep hv) (hA.keep (Keep.all hv)))
 have HV:Hid (∀V0 V,Below w.heap.size w V0→Cel w.heap.size [.int .i64 k,.string s,.int .i64 lo,.int .i64 hi,.slice A 0 c] V0→Asked1 hp M1 AH cH l (zce M1) V0 V→PartsAt pb hp p r V∧PMove (zce M1) pb r w r V∧Cel w.heap.size [.int .i64 k,.string s,.int .i64 lo,.int .i64 hi,.slice A 0 c] V∧HierAt hp M1 AH cH l l.length V∧w.heap.size<V.heap.size):=Qaz (fun V0 V h0 hc q=>by
  refine⟨(h.all h0).memo hpe hpb q.ch,(PMove.of h0).trans (PMove.memo q.ch),hc.keep (q.ch.keep (G:=fun b=>b=w.heap.size) fun b hb m=>by simp only[zce]at m;omega) rfl,q.H,?_⟩;have:=hc.lt (by simp);exact Nat.lt_of_lt_of_le this q.ch.size)
 have HX:=Qaz box;have HX2:=Qaz (box.all (Below.refl _ W1).drew);have wb:((p.row 2).length:Int)<((p.row 2).length:Int)+1:=by omega
 have w0:(0:Int)≤((p.row 2).length:Int):=by omega
 have HN:Hid (∀b,b=pb∨b=w.heap.size→(Value.slice (r.a 2) (p.row 2).length (r.c 2)).ownBlock≠some b):=Qaz (fun b hb e=>by
  have:=h.ownLt (PRows.ownOf (p:=p) (i:=2) e);omega)
 have hne:w.heap.size≠pb:=by omega
 clear h H hA box hpe;cases hv:vdB l s with
 |true=>
  have HA:Hid (z0r l p (.mk k s lo hi [])=p):=Qaz (by unfold z0r;rw[if_pos (by exact hv)]);rw[hv]at HC;clear hv wb w0;go_enter Tryz.func176,Tryz.ntmps176;go_wp2_with (fail);rw[←hW1];clear hW1
  go_region_with (go_at_call 207;refine(HC.out _ (by first|exact b2|exact b1)).mono ?_;rintro e V ⟨rfl,hq⟩)
  all_goals
   have F:=HV.out _ _ b2 HX2.out hq;go_wp2;refine bodyPost_end (v:=.tuple #[]) (by simp[results,Tryz.results176]) rfl ?_;rw[HA.out];exact⟨rfl,r,F.1,F.2.1,F.2.2.2.1⟩
 |false=>
  have HA:Hid (z0r l p (.mk k s lo hi [])=p.add 2 (.mk k s lo hi [])):=Qaz (by unfold z0r;rw[if_neg (by rw[show(Ty.mk k s lo hi []).name=s from rfl,hv];decide)]);rw[hv]at HC;clear hv;go_enter Tryz.func176,Tryz.ntmps176;go_wp2_with (fail);rw[←hW1];clear hW1
  go_region_with (go_at_call 207;refine(HC.out _ (by first|exact b2|exact b1)).mono ?_;rintro e V ⟨rfl,hq⟩)
  all_goals
   obtain⟨pV,mV,cV,HHV,zV⟩:=HV.out _ _ b2 HX2.out hq;clear hq;have HFin:Hid (∀w',(∃r',PartsAt pb hp (p.add 2 (.mk k s lo hi [])) r' w'∧PMove (fun _=>False) pb r V r' w')→∃r',PartsAt pb hp (z0r l p (.mk k s lo hi [])) r' w'∧PMove (zce M1) pb r w r' w'∧HierAt hp M1 AH cH l l.length w'):=Qaz (fun w' ⟨r',h1,h2⟩=>⟨r',by rw[HA.out];exact h1,mV.trans (h2.mono fun _ h=>h.elim),HHV.pmove pV hpb h2⟩);clear HHV mV HA HC HV;obtain⟨W2,hW2⟩:∃W2,W2=(V.alloc (.cells #[.int .i64 0,.string ⟨#[]⟩,.int .i64 0,.int .i64 0,.slice none 0 0] 36)).drew:=⟨_,rfl⟩
   have bV:Below V.heap.size V W2:=by rw[hW2];exact((Below.refl _ V).alloc (Qiz _) _).drew
   have z2:W2.heap.size=V.heap.size+1:=by rw[hW2];simp
   have HP:=Qaz (pV.all bV);have HB:=Qaz bV;have HX3:=Qaz (cV.all bV);have hC:Hid (∀j u,[Value.int .i64 0,.string ⟨#[]⟩,.int .i64 0,.int .i64 0,.slice none 0 0][j]? =some u→W2.cell? ((⟨V.heap.size,0,none⟩:Addr).add j)=some u):=Qaz (by rw[hW2];exact zaq V #[.int .i64 0,.string ⟨#[]⟩,.int .i64 0,.int .i64 0,.slice none 0 0] _ _ rfl);have q1:V.cell? ⟨pb,3,none⟩=some (r.v p 2):=(pV.cel 3 _ rfl).1;obtain⟨v0,_⟩:=cV 0 _ rfl;obtain⟨v1,_⟩:=cV 1 _ rfl;obtain⟨v2,_⟩:=cV 2 _ rfl;obtain⟨v3,_⟩:=cV 3 _ rfl;obtain⟨v4,_⟩:=cV 4 _ rfl;have HZ:=Qaz z2;have ltV:=pV.lt
   have hlen:Hid (((p.row 2).length+1)*64≤140737488355328):=Qaz (by omega);clear pV cV bV z2 q0 x1 hlt;subst hW2;unfold PRows.v at q1;go_wp2_with (fail)
   go_region_law (
    refine za1 typR 36 5 (pb+1) 64 (fun _=>False) _ (by rfl) _ _ 34 _ (by rfl) Tryz.underlying34 zcp rfl (by decide) (by decide) (.slice (r.a 2) (p.row 2).length (r.c 2)) (p.row 2) (by rfl) (HP.out.row 2) ⟨V.heap.size,0,none⟩ 1 (by rfl) zeu [.int .i64 0,.string ⟨#[]⟩,.int .i64 0,.int .i64 0,.slice none 0 0] rfl hC.out zgx (zrl _) (fun _ hb=>hb.elim) (by rw[HZ.out];omega) hlen.out (V.heap.size+1) HZ.out ?_;intro g cap w3 hown hgrow hat hlt3;obtain⟨⟨y0,f0⟩,⟨y1,f1⟩,⟨y2,f2⟩,⟨y3,f3⟩,A4,c4,y4,f4⟩:=zeroCells hown;have v0:=zas hgrow (HX3.out 0 _ rfl).1 (HN.out _ (.inr rfl))
    have v1:=zas hgrow (HX3.out 1 _ rfl).1 (HN.out _ (.inr rfl));have v2:=zas hgrow (HX3.out 2 _ rfl).1 (HN.out _ (.inr rfl));have v3:=zas hgrow (HX3.out 3 _ rfl).1 (HN.out _ (.inr rfl));have v4:=zas hgrow (HX3.out 4 _ rfl).1 (HN.out _ (.inr rfl));have u1:=zas hgrow (HP.out.cel 3 _ rfl).1 (HN.out _ (.inl rfl));have g1:=zbc hgrow (HP.out.cel 3 _ rfl).1 (HP.out.cel 3 _ rfl).2 (HN.out _ (.inl rfl));have n1:g≠pb:=by rcases hat with e|e;exact fun q=>HN.out g (.inl q) e;omega
    have n2:g≠w.heap.size:=by rcases hat with e|e;exact fun q=>HN.out g (.inr q) e;omega)
   all_goals
    have F:=HP.out.put2 (fun _=>False) HB.out 2 3 rfl (Chg.grown hgrow fun b hb=>hb) (hat.imp id fun e=>e.trans HZ.out.symm) hown k s lo hi A c (fun e=>n1 e.symm);clear y0 f0 y1 f1 y2 f2 y3 f3 y4 f4 v0 v1 v2 v3 v4 u1 g1 hown hgrow hat;go_wp2;refine bodyPost_end (v:=.tuple #[]) (by simp[results,Tryz.results176]) rfl ?_
    first
     |with_reducible exact⟨rfl,HFin.out _ F.1⟩
     |with_reducible exact⟨rfl,HFin.out _ F.2⟩
     |trace_state
def Added(hp M1:Nat)(AH:Option Addr)(cH:Nat)(l:List CI)(pb:Nat)(r:PRows)(w:World)(q:PartsT)(w':World):Prop:=
 ∃r',PartsAt pb hp q r' w'∧PMove (zce M1) pb r w r' w'∧HierAt hp M1 AH cH l l.length w'
theorem Added.of{hp M1:Nat}{AH:Option Addr}{cH:Nat}{l:List CI}{pb:Nat}{p q:PartsT}{r:PRows}{w w':World}(h:PartsAt pb hp p r w)(H:HierAt hp M1 AH cH l l.length w)(hpb:hp<pb)(k:∃r',PartsAt pb hp q r' w'∧PMove (fun _=>False) pb r w r' w'):Added hp M1 AH cH l pb r w q w':=by
 obtain⟨r',h1,h2⟩:=k;exact⟨r',h1,h2.mono fun _ h=>h.elim,H.pmove h hpb h2⟩
theorem zhq(hp M1:Nat)(AH:Option Addr)(cH:Nat)(l:List CI)(hL:zai l)(ol:∀x∈l,zdo x)(pb:Nat)(hpb:hp<pb)(p:PartsT)(r:PRows)(k:Int)(s:ByteArray)(lo hi:Int)(A:Option Addr)(c:Nat)(w:World)(h:PartsAt pb hp p r w)(H:HierAt hp M1 AH cH l l.length w)(hA:Held (fun b=>b<M1) (CIs AH l) w)(hl0:(p.row 0).length≤1000000)(hl:(p.row 2).length≤1000000):
  Calls Tryz.prog 176 #[.pointer (some ⟨pb,0,none⟩),.agg #[.int .i64 k,.string s,.int .i64 lo,.int .i64 hi,.slice A 0 c]] w fun e w'=>e=.returned (.tuple #[])∧Added hp M1 AH cH l pb r w (addC l p (.mk k s lo hi [])) w':=by
 by_cases h1:s=zal
 ·subst h1;refine(zmf (fun _=>False) pb hp p r k lo hi A c w h hl0).mono ?_;rintro e w' ⟨rfl,q⟩;exact⟨rfl,Added.of h H hpb (by rw[show addC l p (.mk k zal lo hi [])=p.add 0 (zbo (-9223372036854775808) 9223372036854775807)from if_pos rfl];exact q)⟩
 ·by_cases h2:s=zan
  ·subst h2;refine(zlr (fun _=>False) pb hp p r k lo hi A c w h).mono ?_;rintro e w' ⟨rfl,q⟩;exact⟨rfl,Added.of h H hpb (by rw[zw4];exact q)⟩
  ·refine(zlj hp M1 AH cH l hL ol pb hpb p r k s lo hi A c w h H hA hl (Qgz h1) (Qgz h2)).mono ?_;rintro e w' ⟨rfl,q⟩;refine⟨rfl,?_⟩;have:addC l p (.mk k s lo hi [])=z0r l p (.mk k s lo hi []):=by
    unfold addC z0r;rw[if_neg (show ¬(Ty.mk k s lo hi []).name=zal from h1),if_neg (show ¬(Ty.mk k s lo hi []).name=zan from h2)]
   rw[this];exact q
theorem zm4(hp M1:Nat)(AH:Option Addr)(cH:Nat)(l:List CI)(hL:zai l)(ol:∀x∈l,zdo x)(pb:Nat)(hpb:hp<pb)(p:PartsT)(r:PRows)(k:Int)(lo hi:Int)(A:Option Addr)(c:Nat)(w:World)(h:PartsAt pb hp p r w)(H:HierAt hp M1 AH cH l l.length w)(hA:Held (fun b=>b<M1) (CIs AH l) w)(hl0:(p.row 0).length≤1000000)(hl:(p.row 2).length≤1000000):
  Calls Tryz.prog 179 #[.pointer (some ⟨pb,0,none⟩),.agg #[.int .i64 k,.string ⟨#[60,111,98,106,101,99,116,62]⟩,.int .i64 lo,.int .i64 hi,.slice A 0 c]] w fun e w'=>e=.returned (.tuple #[])∧Added hp M1 AH cH l pb r w (addC l p (zau zaw)) w':=by
 obtain⟨W1,hW1⟩:∃W1,W1=(w.alloc (.cells #[.int .i64 k,.string ⟨#[60,111,98,106,101,99,116,62]⟩,.int .i64 lo,.int .i64 hi,.slice A 0 c] 36)):=⟨_,rfl⟩;have b1:Below w.heap.size w W1:=by rw[hW1];exact(Below.refl _ w).alloc (Qiz _) _
 have x1:W1.cell? ⟨w.heap.size,1,none⟩=some (.string ⟨#[60,111,98,106,101,99,116,62]⟩):=by rw[hW1];exact zac w _ _ _ rfl 1 _ rfl
 have HC:Hid (∀V,Below W1.heap.size W1 V→Calls Tryz.prog 176 #[.pointer (some ⟨pb,0,none⟩),zgf (zau zaw) none 0] V fun e w'=>e=.returned (.tuple #[])∧Added hp M1 AH cH l pb r w (addC l p (zau zaw)) w'):=Qaz (fun V hv=>by
  have hv':Below w.heap.size w V:=zae b1 hv;refine(zhq hp M1 AH cH l hL ol pb hpb p r 1 zaw 0 0 none 0 V (h.all hv') (H.keep hv') (hA.keep (Keep.all hv')) hl0 hl).mono ?_;rintro e w' ⟨rfl,r',q1,q2,q3⟩;exact⟨rfl,r',q1,(PMove.of hv').trans q2,q3⟩)
 clear h H hA b1;go_enter Tryz.func179,Tryz.ntmps179;go_wp2_with (fail);rw[←hW1];clear hW1;go_wp2_with (go_at_call 140;refine(zeb _ _).mono ?_;rintro e V ⟨rfl,hbv⟩);go_wp2_with (go_at_call 176;refine(HC.out _ hbv).mono ?_;rintro e V2 ⟨rfl,hq⟩);refine bodyPost_ret (v:=.tuple #[]) (by simp[results,Tryz.results179]) rfl ?_;exact⟨rfl,hq⟩
theorem zm0(S:Nat→Prop)(pb hp:Nat)(p:PartsT)(r:PRows)(k:Int)(s:ByteArray)(lo hi:Int)(A:Option Addr)(c:Nat)(w:World)(h:PartsAt pb hp p r w)(hl:(p.row 1).length≤1000000)(h1:decide (s=⟨#[60,111,98,106,101,99,116,62]⟩)=false):
  Calls Tryz.prog 179 #[.pointer (some ⟨pb,0,none⟩),.agg #[.int .i64 k,.string s,.int .i64 lo,.int .i64 hi,.slice A 0 c]] w fun e w'=>e=.returned (.tuple #[])∧∃r',PartsAt pb hp (p.add 1 (.mk k s lo hi [])) r' w'∧PMove S pb r w r' w':=by
 have hlt:=h.lt;obtain⟨W1,hW1⟩:∃W1,W1=(w.alloc (.cells #[.int .i64 k,.string s,.int .i64 lo,.int .i64 hi,.slice A 0 c] 36)):=⟨_,rfl⟩;obtain⟨W2,hW2⟩:∃W2,W2=(W1.alloc (.cells #[.int .i64 0,.string ⟨#[]⟩,.int .i64 0,.int .i64 0,.slice none 0 0] 36)).drew:=⟨_,rfl⟩;have b1:Below w.heap.size w W1:=by rw[hW1];exact(Below.refl _ w).alloc (Qiz _) _
 have z1:W1.heap.size=w.heap.size+1:=by rw[hW1];simp
 have b2:Below w.heap.size w W2:=by rw[hW2];exact(b1.alloc b1.size _).drew
 have z2:W2.heap.size=w.heap.size+2:=by rw[hW2];simp[z1]
 have p2:=h.all b2;have box:Cel w.heap.size [.int .i64 k,.string s,.int .i64 lo,.int .i64 hi,.slice A 0 c] W1:=by rw[hW1];exact Cel.new w _ _ _ rfl
 have box2:Cel w.heap.size [.int .i64 k,.string s,.int .i64 lo,.int .i64 hi,.slice A 0 c] W2:=box.all (by rw[hW2];exact((Below.refl _ W1).alloc (Qiz _) _).drew);have hC:Hid (∀j u,[Value.int .i64 0,.string ⟨#[]⟩,.int .i64 0,.int .i64 0,.slice none 0 0][j]? =some u→W2.cell? ((⟨w.heap.size+1,0,none⟩:Addr).add j)=some u):=Qaz (by rw[hW2,←z1];exact zaq W1 #[.int .i64 0,.string ⟨#[]⟩,.int .i64 0,.int .i64 0,.slice none 0 0] _ _ rfl);have q1:W1.cell? ⟨pb,2,none⟩=some (r.v p 1):=((h.all b1).cel 2 _ rfl).1;have HP:=Qaz p2;have HB:=Qaz b2;have HX:=Qaz box2;obtain⟨x0,_⟩:=box 0 _ rfl
 obtain⟨x1,_⟩:=box 1 _ rfl;obtain⟨x2,_⟩:=box 2 _ rfl;obtain⟨x3,_⟩:=box 3 _ rfl;obtain⟨x4,_⟩:=box 4 _ rfl;have HV:Hid (r.v p 1=.slice (r.a 1) (p.row 1).length (r.c 1)):=Qaz rfl;have HZ:=Qaz z2;have hne:w.heap.size≠pb:=by omega
 have wb:((p.row 1).length:Int)<((p.row 1).length:Int)+1:=by omega
 have w0:(0:Int)≤((p.row 1).length:Int):=by omega
 have HN:Hid (∀b,b=pb∨b=w.heap.size→(Value.slice (r.a 1) (p.row 1).length (r.c 1)).ownBlock≠some b):=Qaz (fun b hb e=>by
  have:=h.ownLt (PRows.ownOf (p:=p) (i:=1) e);omega)
 clear h box box2 p2 b2;subst hW2;unfold PRows.v at q1;go_enter Tryz.func179,Tryz.ntmps179;go_wp2_with (fail);rw[←hW1];clear hW1
 go_region_law (
  refine za1 typR 36 5 (pb+1) 64 (fun _=>False) _ (by rfl) _ _ 34 _ (by rfl) Tryz.underlying34 zcp rfl (by decide) (by decide) (.slice (r.a 1) (p.row 1).length (r.c 1)) (p.row 1) (by rfl) (HP.out.row 1) ⟨w.heap.size+1,0,none⟩ 1 (by rfl) zeu [.int .i64 0,.string ⟨#[]⟩,.int .i64 0,.int .i64 0,.slice none 0 0] rfl hC.out zgx (zrl _) (fun _ hb=>hb.elim) (by rw[HZ.out];omega) (by omega) (w.heap.size+2) HZ.out ?_;intro g cap w3 hown hgrow hat hlt3;obtain⟨⟨y0,f0⟩,⟨y1,f1⟩,⟨y2,f2⟩,⟨y3,f3⟩,A4,c4,y4,f4⟩:=zeroCells hown;have v0:=zas hgrow (HX.out 0 _ rfl).1 (HN.out _ (.inr rfl))
  have v1:=zas hgrow (HX.out 1 _ rfl).1 (HN.out _ (.inr rfl));have v2:=zas hgrow (HX.out 2 _ rfl).1 (HN.out _ (.inr rfl));have v3:=zas hgrow (HX.out 3 _ rfl).1 (HN.out _ (.inr rfl));have v4:=zas hgrow (HX.out 4 _ rfl).1 (HN.out _ (.inr rfl));have u1:=zas hgrow (HP.out.cel 2 _ rfl).1 (HN.out _ (.inl rfl));have g1:=zbc hgrow (HP.out.cel 2 _ rfl).1 (HP.out.cel 2 _ rfl).2 (HN.out _ (.inl rfl));have n1:g≠pb:=by rcases hat with e|e;exact fun q=>HN.out g (.inl q) e;omega
  have n2:g≠w.heap.size:=by rcases hat with e|e;exact fun q=>HN.out g (.inr q) e;omega)
 all_goals
  have F:=HP.out.put2 S HB.out 1 2 rfl (Chg.grown hgrow fun b hb=>hb) (hat.imp id fun e=>e.trans HZ.out.symm) hown k s lo hi A c (fun e=>n1 e.symm);clear y0 f0 y1 f1 y2 f2 y3 f3 y4 f4 v0 v1 v2 v3 v4 u1 g1 hown hgrow hat;refine bodyPost_end (v:=.tuple #[]) (by simp[results,Tryz.results179]) rfl ?_
  first
   |with_reducible exact⟨rfl,F.1⟩
   |with_reducible exact⟨rfl,F.2⟩
   |trace_state
theorem zpg(hp M1:Nat)(AH:Option Addr)(cH:Nat)(l:List CI)(hL:zai l)(ol:∀x∈l,zdo x)(pb:Nat)(hpb:hp<pb)(p:PartsT)(r:PRows)(k:Int)(s:ByteArray)(lo hi:Int)(A:Option Addr)(c:Nat)(w:World)(h:PartsAt pb hp p r w)(H:HierAt hp M1 AH cH l l.length w)(hA:Held (fun b=>b<M1) (CIs AH l) w)(hl:∀i,(p.row i).length≤1000000):
  Calls Tryz.prog 179 #[.pointer (some ⟨pb,0,none⟩),.agg #[.int .i64 k,.string s,.int .i64 lo,.int .i64 hi,.slice A 0 c]] w fun e w'=>e=.returned (.tuple #[])∧Added hp M1 AH cH l pb r w (zy5 l p (.mk k s lo hi [])) w':=by
 by_cases h1:s=zak
 ·subst h1;rw[show zy5 l p (.mk k zak lo hi [])=addC l p (zau zaw)from if_pos rfl];exact zm4 hp M1 AH cH l hL ol pb hpb p r k lo hi A c w h H hA (hl 0) (hl 2)
 ·refine(zm0 (fun _=>False) pb hp p r k s lo hi A c w h (hl 1) (Qgz h1)).mono ?_;rintro e w' ⟨rfl,q⟩;exact⟨rfl,Added.of h H hpb (by rw[show zy5 l p (.mk k s lo hi [])=p.add 1 (.mk k s lo hi [])from if_neg h1];exact q)⟩
theorem zlv(p:PartsT)(i j:Fin 3)(y:Ty):((p.add i y).row j).length≤(p.row j).length+1:=by
 show(if j=i then p.row j++[y]else p.row j).length≤_
 split<;>simp
theorem zui(l:List CI)(p:PartsT)(t:Ty)(j:Fin 3):((addC l p t).row j).length≤(p.row j).length+1:=by
 unfold addC
 split
 ·exact zlv _ _ _ _
 ·split
  ·exact Nat.le_succ _
  ·split
   ·exact Nat.le_succ _
   ·exact zlv _ _ _ _
mutual
theorem zt9(l:List CI):∀(t:Ty)(p:PartsT)(j:Fin 3),((addT l t p).row j).length≤(p.row j).length+t.count
 | .mk k n lo hi args,p,j=>by
  have h1:1≤(Ty.mk k n lo hi args).count:=Ty.count_pos _;rw[addT]
  split
  ·exact Nat.le_trans (zui _ _ _ _) (by omega)
  ·split
   ·exact Nat.le_trans (zlv _ _ _ _) (by omega)
   ·split
    ·exact Nat.le_add_right _ _
    ·split
     ·unfold zy5
      split
      ·exact Nat.le_trans (zui _ _ _ _) (by omega)
      ·exact Nat.le_trans (zlv _ _ _ _) (by omega)
     ·have:=zlf l args p j;rw[Ty.count];omega
theorem zlf(l:List CI):∀(L:List Ty)(p:PartsT)(j:Fin 3),((addTs l L p).row j).length≤(p.row j).length+Ty.counts L
 | [],p,j=>by rw[addTs];exact Nat.le_add_right _ _
 |t::r,p,j=>by
  rw[addTs,Ty.counts];have h1:=zlf l r (addT l t p) j;have h2:=zt9 l t p j;omega
end
theorem zvc(l:List CI)(L:List Ty)(x:Ty)(p:PartsT):addTs l (L++[x]) p=addT l x (addTs l L p):=by
 rw[zpf,zpf,List.foldl_append];rfl
theorem zle{L:List Ty}{k:Nat}{x:Ty}(h:L[k]? =some x):Ty.counts (L.take k)+x.count≤Ty.counts L:=by
 have e:=take_snoc h;have:Ty.counts (L.take (k+1))=Ty.counts (L.take k)+x.count:=by
  rw[Ty.counts_eq,Ty.counts_eq,e,List.map_append,List.sum_append];simp
 have h2:Ty.counts (L.take (k+1))≤Ty.counts L:=by
  conv=>rhs;rw[←List.take_append_drop (k+1) L]
  rw[Ty.counts_eq,Ty.counts_eq,List.map_append,List.sum_append];omega
 omega
def Free(M1 pb:Nat)(r:PRows)(w:World)(b:Nat):Prop:=¬zce M1 b∧b≠pb∧¬r.own b∧b<w.heap.size
theorem Free.step{M1 pb:Nat}{r r':PRows}{w w':World}(q:PMove (zce M1) pb r w r' w'){b:Nat}(h:Free M1 pb r w b):Free M1 pb r' w' b:=
 ⟨h.1,h.2.1,fun o=>by
  rcases q.own b o with e|e
  ·exact h.2.2.1 e
  ·have:=h.2.2.2;omega,Nat.lt_of_lt_of_le h.2.2.2 q.chg.size⟩
theorem Free.keep{M1 pb:Nat}{r r':PRows}{w w':World}(q:PMove (zce M1) pb r w r' w'):Keep (Free M1 pb r w) w w':=q.keep fun b h=>⟨h.1,h.2.1,h.2.2.1⟩
theorem Free.held{M1 pb:Nat}{r r':PRows}{w w':World}{R:World→Prop}(h:Held (Free M1 pb r w) R w)(q:PMove (zce M1) pb r w r' w'):Held (Free M1 pb r' w') R w':=
 (h.keep (Free.keep q)).mono fun b _ hb=>hb.step q
theorem Free.below{M1 hp pb:Nat}{p:PartsT}{r:PRows}{w:World}(h:PartsAt pb hp p r w)(e:hp=M1+1+1+1)(hpb:hp<pb){b:Nat}(hb:b<M1):Free M1 pb r w b:=
 ⟨fun m=>by simp only[zce]at m;omega,by omega,fun o=>by have:=(h.ownLt o).1;omega,by have:=h.lt;omega⟩
def z2c(k:Int):Option Value:=if k=5 then some (.func (.func 138) #[] #[])else if k=4 then some (.func (.func 179) #[] #[])else if k=3 then some (.func (.func 178) #[] #[])else if k=2 then some (.func (.func 177) #[] #[])else if k=1 then some (.func (.func 176) #[] #[])else none
def zyx(hp M1:Nat)(AH:Option Addr)(cH:Nat)(l:List CI)(pb q:Nat):Prop:=
 ∀(L:List Ty),Ty.counts L<q→(∀x∈L,zam l x=true)→∀(k:Int)(s:ByteArray)(lo hi:Int)(A:Option Addr)(c:Nat)(p:PartsT)(r:PRows)(w:World),PartsAt pb hp p r w→HierAt hp M1 AH cH l l.length w→Held (fun b=>b<M1) (CIs AH l) w→Held (Free M1 pb r w) (Typs A L) w→(∀i,(p.row i).length+Ty.counts L≤1000000)→
  Calls Tryz.prog 138 #[.pointer (some ⟨pb,0,none⟩),.agg #[.int .i64 k,.string s,.int .i64 lo,.int .i64 hi,.slice A L.length c]] w fun e w'=>e=.returned (.tuple #[])∧Added hp M1 AH cH l pb r w (addTs l L p) w'
theorem z1e(hp M1:Nat)(AH:Option Addr)(cH:Nat)(l:List CI)(hL:zai l)(ol:∀x∈l,zdo x)(pb:Nat)(hpb:hp<pb)(q:Nat)(ih:zyx hp M1 AH cH l pb q)(x:Ty)(hx:zam l x=true)(hq:x.count≤q)(A:Option Addr)(c:Nat):
  ∃fid,z2c x.kind=some (.func (.func fid) #[] #[])∧(∀args w,(callFunc fid args).run Tryz.prog w=.ok (.enter fid args) w)∧
   ∀(p:PartsT)(r:PRows)(w:World),PartsAt pb hp p r w→HierAt hp M1 AH cH l l.length w→Held (fun b=>b<M1) (CIs AH l) w→Held (Free M1 pb r w) (Typs A x.args) w→(∀i,(p.row i).length+x.count≤1000000)→
    Calls Tryz.prog fid #[.pointer (some ⟨pb,0,none⟩),tyV x A c] w fun e w'=>e=.returned (.tuple #[])∧Added hp M1 AH cH l pb r w (addT l x p) w':=by
 have hcp:=x.count_pos;rw[zax]at hx;obtain⟨hf,hargs⟩:=Bool.and_eq_true_iff.1 hx;obtain⟨k,n,lo,hi,args⟩:=x;unfold zar at hf;simp only[Ty.kind,Ty.name,Ty.lo,Ty.hi,Ty.args]at hf hargs ⊢;by_cases h1:k=1
 ·subst h1;simp at hf;obtain⟨_,rfl⟩:=hf;refine⟨176,rfl,enters Tryz.func176 (by kernel_rfl) rfl,fun p r w h H hA _ hl=> ?_⟩;rw[addT,if_pos rfl];exact zhq hp M1 AH cH l hL ol pb hpb p r 1 n lo hi A c w h H hA (by have:=hl 0;omega) (by have:=hl 2;omega)
 by_cases h2:k=2
 ·subst h2;simp at hf;obtain⟨_,rfl⟩:=hf;refine⟨177,rfl,enters Tryz.func177 (by kernel_rfl) rfl,fun p r w h H hA _ hl=> ?_⟩;rw[addT,if_neg (by decide),if_pos rfl];refine(zrq (fun _=>False) pb hp p r 2 n lo hi A c w h (by have:=hl 0;omega)).mono ?_;rintro e w' ⟨rfl,qq⟩;exact⟨rfl,Added.of h H hpb qq⟩
 by_cases h3:k=3
 ·subst h3;simp at hf;obtain⟨⟨⟨hlo,_⟩,_⟩,rfl⟩:=hf;refine⟨178,rfl,enters Tryz.func178 (by kernel_rfl) rfl,fun p r w h H hA _ hl=> ?_⟩;rw[addT,if_neg (by decide),if_neg (by decide),if_pos rfl];refine(zo7 (fun _=>False) pb hp p r 3 n lo hi A c w h (hlo.imp of_decide_eq_true of_decide_eq_true)).mono ?_;rintro e w' ⟨rfl,qq⟩;exact⟨rfl,Added.of h H hpb qq⟩
 by_cases h4:k=4
 ·subst h4;simp at hf;obtain⟨_,rfl⟩:=hf;refine⟨179,rfl,enters Tryz.func179 (by kernel_rfl) rfl,fun p r w h H hA _ hl=> ?_⟩;rw[addT,if_neg (by decide),if_neg (by decide),if_neg (by decide),if_pos rfl];exact zpg hp M1 AH cH l hL ol pb hpb p r 4 n lo hi A c w h H hA fun i=>by have:=hl i;omega
 by_cases h5:k=5
 ·subst h5;refine⟨138,rfl,enters Tryz.func138 (by kernel_rfl) rfl,fun p r w h H hA hT hl=> ?_⟩;rw[addT,if_neg (by decide),if_neg (by decide),if_neg (by decide),if_neg (by decide)];have e:(Ty.mk 5 n lo hi args).count=1+Ty.counts args:=by rw[Ty.count]
  rw[e]at hq;exact ih args (by omega) (fun x hx=>by simpa using List.all_eq_true.1 hargs x hx) 5 n lo hi A c p r w h H hA hT fun i=>by have:=hl i;rw[e]at this;omega
 ·simp[h1,h2,h3,h4,h5]at hf
theorem z1i(w:World):(zeroValue 207).run Tryz.prog w=.ok .nilFunc w:=by kernel_rfl
noncomputable abbrev zts:KeyKind Tryz.prog 3 Int:=KeyKind.int Tryz.underlying3
theorem zm1(hp M1:Nat)(AH:Option Addr)(cH:Nat)(l:List CI)(hL:zai l)(ol:∀x∈l,zdo x)(pb:Nat)(hpb:hp<pb):∀q,zyx hp M1 AH cH l pb q:=by
 intro q
 induction q with
 |zero=>intro L h;omega
 |succ q ih=>
  intro L hq hform k s lo hi A c p r w h H hA hT hlen;have hpe:=H.hpe;have hwl:=h.lt;obtain⟨W1,hW1⟩:∃W1,W1=(w.alloc (.cells #[.int .i64 k,.string s,.int .i64 lo,.int .i64 hi,.slice A L.length c] 36)):=⟨_,rfl⟩;have b1:Below w.heap.size w W1:=by rw[hW1];exact(Below.refl _ w).alloc (Qiz _) _
  have xa:∀j u,[Value.int .i64 k,.string s,.int .i64 lo,.int .i64 hi,.slice A L.length c][j]? =some u→W1.cell? ⟨w.heap.size,j,none⟩=some u:=fun j u hj=>by rw[hW1];exact zac w _ _ _ rfl j u hj
  obtain⟨M,hM⟩:∃M,M=W1.heap.size:=⟨_,rfl⟩;obtain⟨W2,hW2⟩:∃W2,W2=W1.alloc (.map #[] 0):=⟨_,rfl⟩;have hmk:(Instr.makeMap 208 none).run Tryz.prog W1=.ok (.map (some M)) W2:=by rw[hM,hW2];rfl
  have hM0:MapF zts M (fun _=>none) W2:=by rw[hM,hW2];exact MapF.made zts W1 _ rfl
  obtain⟨w3,hr3,hM3,hg3⟩:=zca hM0 (t:=208) (et:=207) Tryz.underlying208 1 (.func (.func 176) #[] #[]);obtain⟨w4,hr4,hM4,hg4⟩:=zca hM3 (t:=208) (et:=207) Tryz.underlying208 2 (.func (.func 177) #[] #[]);obtain⟨w5,hr5,hM5,hg5⟩:=zca hM4 (t:=208) (et:=207) Tryz.underlying208 3 (.func (.func 178) #[] #[]);obtain⟨w6,hr6,hM6,hg6⟩:=zca hM5 (t:=208) (et:=207) Tryz.underlying208 4 (.func (.func 179) #[] #[]);obtain⟨w7,hr7,hM7,hg7⟩:=zca hM6 (t:=208) (et:=207) Tryz.underlying208 5 (.func (.func 138) #[] #[])
  have hr3':(Instr.mapUpdate 208 (.map (some M)) (.int .i64 1) (.func (.func 176) #[] #[])).run Tryz.prog W2=.ok () w3:=hr3;have hr4':(Instr.mapUpdate 208 (.map (some M)) (.int .i64 2) (.func (.func 177) #[] #[])).run Tryz.prog w3=.ok () w4:=hr4;have hr5':(Instr.mapUpdate 208 (.map (some M)) (.int .i64 3) (.func (.func 178) #[] #[])).run Tryz.prog w4=.ok () w5:=hr5;have hr6':(Instr.mapUpdate 208 (.map (some M)) (.int .i64 4) (.func (.func 179) #[] #[])).run Tryz.prog w5=.ok () w6:=hr6
  have hr7':(Instr.mapUpdate 208 (.map (some M)) (.int .i64 5) (.func (.func 138) #[] #[])).run Tryz.prog w6=.ok () w7:=hr7;have hMt:MapF zts M z2c w7:=hM7;have kg:∀{u v:World},u.grownBy v (some M)→Keep (fun b=>b≠M) u v:=fun h=>Keep.grown h fun b hb e=>hb (by cases e;rfl);have k2:Keep (fun b=>b≠M) W1 W2:=by rw[hW2];exact Keep.alloc _ _ _
  have k3:=k2.trans (kg hg3);have k4:=k3.trans (kg hg4);have k5:=k4.trans (kg hg5);have k6:=k5.trans (kg hg6);have k7:=k6.trans (kg hg7);have b7:Below W1.heap.size W1 w7:=by
   have b2:Below W1.heap.size W1 W2:=by rw[hW2];exact(Below.refl _ W1).alloc (Qiz _) _
   have q:∀k,some M=some k→W1.heap.size≤k:=fun k e=>by cases e;omega
   exact((((b2.grown hg3 k2.1 q).grown hg4 k3.1 q).grown hg5 k4.1 q).grown hg6 k5.1 q).grown hg7 k6.1 q
  have hlM:w.heap.size+1=M:=by rw[hM,hW1];simp
  have bW7:Below w.heap.size w w7:=b1.trans (b7.mono b1.size);have x4:=zah (xa 4 _ rfl) k7 (show w.heap.size≠M by omega);have h7:=h.all bW7;have H7:=H.keep bW7;have HA:=Qaz (hA.keep (Keep.all bW7));have q7:PMove (zce M1) pb r w r w7:=PMove.of bW7;have HT:=Qaz (Free.held hT q7);have hMlt:M<w7.heap.size:=hMt.lt;have HMF:Hid (Free M1 pb r w7 M):=Qaz ⟨fun m=>by simp only[zce]at m;omega,by omega,fun o=>by have:=(h.ownLt o).2;omega,hMlt⟩;have HMT:=Qaz hMt;have HQ7:=Qaz q7;have HLow:Hid (∀b,b<M1→Free M1 pb r w7 b):=Qaz (fun b hb=>Free.below h7 hpe hpb hb);have hLl:L.length≤1000000:=by
   have h1:∀(L:List Ty),L.length≤Ty.counts L:=fun L=>by
    induction L with
    |nil=>simp
    |cons t r ihh=>rw[Ty.counts,List.length_cons];have:=t.count_pos;omega
   have:=h1 L;have:=hlen 0;omega
  have HPE:=Qaz hpe;have HF:Hid (∀x,x∈L→zam l x=true):=Qaz hform;have HLN:Hid (∀i,(p.row i).length+Ty.counts L≤1000000):=Qaz hlen;have HQC:Hid (Ty.counts L<q+1):=Qaz hq;have HIH:=Qaz ih;rw[hW1]at hmk;clear hW1;clear hM0 hM3 hM4 hM5 hM6 hM7 hg3 hg4 hg5 hg6 hg7 hr3 hr4 hr5 hr6 hr7 hMt kg k2 k3 k4 k5 k6 k7 xa b7 hM hW2 hlM h H hA hT hpe q7 hform hlen hq ih hMlt bW7;go_enter Tryz.func138,Tryz.ntmps138;go_wp2_with (fail)
  go_loopw [12] (fun i wr=>∃k:Nat,k≤L.length∧i=.int .i64 k∧Added hp M1 AH cH l pb r w7 (addTs l (L.take k) p) wr) (fun i _=>L.length-(intOf i).toNat)
  case atStart=>exact⟨0,Qjz _,rfl,r,by simpa[addTs]using h7,PMove.refl _ _ _ _,H7⟩
  case round=>
   obtain⟨k,hk,rfl,rr,hpr,hmv,hH⟩:=hrel;clear h7 H7;by_cases hlt:k<L.length
   ·have hTr:=Free.held HT.out hmv;obtain⟨b,off,rfl⟩:=Slc.addrH hTr (by omega);have hx:L[k]? =some L[k]:=Qbz hlt;generalize L[k]=x at hx;obtain⟨A5,c5,p1,p2,g0,g1,g2,g3,g4⟩:=Typs.atH hTr hx;obtain⟨Wb,hWb⟩:∃Wb,Wb=wr.alloc (.cells #[.int .i64 x.kind,.string x.name,.int .i64 x.lo,.int .i64 x.hi,.slice A5 x.args.length c5] 36):=⟨_,rfl⟩;have bwb:Below wr.heap.size wr Wb:=by rw[hWb];exact(Below.refl _ wr).alloc (Qiz _) _
    have e0:Wb.cell? ⟨wr.heap.size,0,none⟩=some (.int .i64 x.kind):=by rw[hWb];exact zac wr _ _ _ rfl 0 _ rfl
    have e1:Wb.cell? ⟨wr.heap.size,1,none⟩=some (.string x.name):=by rw[hWb];exact zac wr _ _ _ rfl 1 _ rfl
    have e2:Wb.cell? ⟨wr.heap.size,2,none⟩=some (.int .i64 x.lo):=by rw[hWb];exact zac wr _ _ _ rfl 2 _ rfl
    have e3:Wb.cell? ⟨wr.heap.size,3,none⟩=some (.int .i64 x.hi):=by rw[hWb];exact zac wr _ _ _ rfl 3 _ rfl
    have e4:Wb.cell? ⟨wr.heap.size,4,none⟩=some (.slice A5 x.args.length c5):=by rw[hWb];exact zac wr _ _ _ rfl 4 _ rfl
    have hxc:=zle hx;have hxm:=Qdz hx;obtain⟨fid,hfid,hfn,hcl⟩:=z1e hp M1 AH cH l hL ol pb hpb q HIH.out x (HF.out x hxm) (by have:=HQC.out;omega) A5 c5;have mvb:PMove (zce M1) pb rr wr rr Wb:=PMove.of bwb;have hlk:(Instr.lookup 208 (.map (some M)) (.int .i64 x.kind) false).run Tryz.prog Wb=.ok (.func (.func fid) #[] #[]) Wb:=by
     have:=zda ((HMT.out.keep (Free.keep hmv) HMF.out).keep (Keep.all bwb (G:=fun _=>True)) trivial) Tryz.underlying208 (z1i Wb) x.kind false;rw[hfid]at this;exact this
    have HC:Hid (Calls Tryz.prog fid #[.pointer (some ⟨pb,0,none⟩),tyV x A5 c5] Wb fun e w'=>e=.returned (.tuple #[])∧Added hp M1 AH cH l pb rr Wb (addT l x (addTs l (L.take k) p)) w'):=Qaz (hcl _ rr Wb (hpr.all bwb) (hH.keep bwb) ((HA.out.keep ((Free.keep hmv).mono fun b hb=>HLow.out b hb)).keep (Keep.all bwb)) (Free.held (fun w' kk=>p2 w' (kk.mono fun b hb=>hb)) mvb) (fun i=>by
     have h1:=zlf l (L.take k) p i;have h2:=HLN.out i;omega))
    have HST:Hid (addTs l (L.take (k+1)) p=addT l x (addTs l (L.take k) p)):=Qaz (by rw[take_snoc hx,zvc]);have HMV:Hid (PMove (zce M1) pb r w7 rr Wb):=Qaz (hmv.trans mvb);clear hcl hfid hx hxc hxm p1 p2 hpr hmv hH hTr mvb bwb;clear e0 e1 e2 e3 e4;subst hWb;go_wp2_with (fail);refine HC.out.mono ?_;rintro e w' ⟨rfl,hq⟩;have HAD:Hid (Added hp M1 AH cH l pb r w7 (addTs l (L.take (k+1)) p) w'):=Qaz (by
     obtain⟨r2,a1,a2,a3⟩:=hq;rw[HST.out];exact⟨r2,a1,HMV.out.trans a2,a3⟩)
    clear hq;go_wp2;go_roundw
    case rel=>exact⟨k+1,by omega,by go_num,HAD.out⟩
    case measure=>simp[intOf];omega
   ·obtain rfl:k=L.length:=by omega
    rw[List.take_length]at hpr;have HAD:Hid (Added hp M1 AH cH l pb r w (addTs l L p) wr):=Qaz ⟨rr,hpr,HQ7.out.trans hmv,hH⟩;clear hpr hmv hH;go_wp2;refine bodyPost_end (v:=.tuple #[]) (by simp[results,Tryz.results138]) rfl ?_;exact⟨rfl,HAD.out⟩
end
end Go.Proofs.YtepnmejahbiacaaGreat
