/- Part 23 of the proof: Qb, Qh, Qc. -/
import Derived.Test.YtepnmejahbiacaaGreatM22
set_option linter.unusedVariables false
set_option linter.unusedSimpArgs false
set_option maxHeartbeats 64000000
set_option maxRecDepth 100000
namespace Go.Proofs.YtepnmejahbiacaaGreat
open Go.RowKit
section
attribute [local go_sem ↓] Go.wp_at_zero Go.wp_at_succ
theorem zne(A B:Option Addr)(c d:Nat)(l m:List CI)(w:World)(hA:CIs A l w)(hB:CIs B m w)(hl:l.length≤1000000)(hm:m.length≤1000000)(ol:∀x∈l,zdo x)(om:∀x∈m,zdo x):
  Calls Tryz.prog 124 #[.slice A l.length c,.slice B m.length d] w fun e w'=>e=.returned (.bool (decide (l=m)))∧Below w.heap.size w w':=by
 have GA:=(Slc.stable zd0 hA).here;have GB:=(Slc.stable zd0 hB).here;by_cases hlen:l.length=m.length
 ·have t2:((l.length:Int) != (m.length:Int))=false:=bne_eq_false_iff_eq.2 (by omega);have HL:=Qaz hlen;clear hlen;go_enter Tryz.func124,Tryz.ntmps124;go_wp2
  go_loopw [5] (fun i wr=>∃k:Nat,k≤l.length∧i=.int .i64 k∧l.take k=m.take k∧Below w.heap.size w wr) (fun i _=>l.length-(intOf i).toNat)
  case atStart=>exact⟨0,Qjz _,rfl,by simp,Below.refl _ _⟩
  case round=>
   obtain⟨k,hk,rfl,heq,hb⟩:=hrel;have HE:=Qaz heq;clear heq;by_cases hlt:k<l.length
   ·have hm':k<m.length:=by have:=HL.out;omega
    obtain⟨b,off,rfl⟩:=hA.addr (by omega);obtain⟨b',off',rfl⟩:=hB.addr (by omega);have HX:=Qaz (getElem?_lt hlt);have HY:=Qaz (getElem?_lt hm');have ox:=ol _ (List.getElem_mem hlt);have oy:=om _ (List.getElem_mem hm');generalize l[k]=x at*;generalize m[k]=y at*;have OX:=Qaz ox;have OY:=Qaz oy;clear ox oy ol om;obtain⟨A2,c2,A3,c3,s2,s3,S2,S3,g0,g1,g2,g3,g4,g5⟩:=CIs.atH (GA.below hb) HX.out;obtain⟨B2,d2,B3,d3,r2,r3,R2,R3,h0,h1,h2,h3,h4,h5⟩:=CIs.atH (GB.below hb) HY.out
    have HK:=Qaz (fun W (h:Below wr.heap.size wr W)=>zmy x y A2 A3 B2 B3 c2 c3 d2 d3 W (S2.all h).now (S3.all h).now (R2.all h).now (R3.all h).now OX.out.1 OX.out.2 OY.out.1 OY.out.2);have w1:(0:Int)≤(k:Int):=by omega
    have w2:(k:Int)<(l.length:Int):=by omega
    have w3:(k:Int)<(m.length:Int):=by omega
    have HD:Hid (decide (x=y)=true↔x=y):=Qaz decide_eq_true_iff;have HDF:Hid (decide (x=y)=false↔¬x=y):=Qaz decide_eq_false_iff_not;generalize hdc:decide (x=y)=dc at HK HD HDF;clear hdc S2 S3 R2 R3 hA hB GA GB;go_wp2_with (fail)
    go_region_held3 (fun w'=>Below wr.heap.size wr w'∧w'.cell? ⟨b,off+k*6,none⟩=some (.string x.name)∧w'.cell? ⟨b,off+k*6+1,none⟩=some (.string x.lib)∧w'.cell? ⟨b,off+k*6+2,none⟩=some (.slice A2 x.supers.length c2)∧w'.cell? ⟨b,off+k*6+3,none⟩=some (.slice A3 x.cpl.length c3)∧w'.cell? ⟨b,off+k*6+4,none⟩=some (.bool x.abs)∧w'.cell? ⟨b,off+k*6+5,none⟩=some (.bool x.seal_)∧
      w'.cell? ⟨b',off'+k*6,none⟩=some (.string y.name)∧w'.cell? ⟨b',off'+k*6+1,none⟩=some (.string y.lib)∧w'.cell? ⟨b',off'+k*6+2,none⟩=some (.slice B2 y.supers.length d2)∧w'.cell? ⟨b',off'+k*6+3,none⟩=some (.slice B3 y.cpl.length d3)∧w'.cell? ⟨b',off'+k*6+4,none⟩=some (.bool y.abs)∧w'.cell? ⟨b',off'+k*6+5,none⟩=some (.bool y.seal_))
     (first|exact⟨(Below.refl _ wr).drew,g0,g1,g2,g3,g4,g5,h0,h1,h2,h3,h4,h5⟩|(go_split_ands;exact⟨zab (by assumption) hbv,zaa (by assumption) hbv,zaa (by assumption) hbv,zaa (by assumption) hbv,zaa (by assumption) hbv,zaa (by assumption) hbv,zaa (by assumption) hbv,zaa (by assumption) hbv,zaa (by assumption) hbv,zaa (by assumption) hbv,zaa (by assumption) hbv,zaa (by assumption) hbv,zaa (by assumption) hbv⟩))
     ((go_at_call 170;refine(HK.out _ (by go_split_ands;assumption)).mono ?_;rintro e V ⟨rfl,hbv⟩))
    have hb5:Below wr.heap.size wr V:=by go_split_ands;assumption
    have hb2:=hb.trans (hb5.mono hb.size);go_split_ands;clear HK;cases dc with
    |true=>
     have HX':=Qaz (HD.out.1 rfl);go_wp2;go_roundw
     case rel=>exact⟨k+1,by omega,by go_num,by rw[take_snoc HX.out,take_snoc HY.out,HE.out,HX'.out],hb2⟩
     case measure=>simp[intOf];omega
    |false=>
     have hne:=Qaz (ztf HX.out HY.out (HDF.out.1 rfl));go_wp2;go_ret;exact⟨zge (Qgz hne.out).symm,hb2⟩
   ·obtain rfl:k=l.length:=by omega
    have:l=m:=by have h:=HE.out;rw[List.take_length]at h;rw[h];exact List.take_of_length_le (by rw[HL.out];exact Qiz _)
    have HM:=Qaz this;clear this;go_wp2;go_ret;exact⟨zge (Qhz HM.out).symm,hb⟩
 ·have t2:((l.length:Int) != (m.length:Int))=true:=by rw[bne_iff_ne];omega
  have HL:Hid (l≠m):=Qaz (fun e=>hlen (by rw[e]));clear hlen;go_enter Tryz.func124,Tryz.ntmps124;go_wp2;go_ret;exact⟨zge (Qgz HL.out).symm,Below.refl _ _⟩
def zzn(W:World)(ss:List (List ByteArray)):World:=ss.foldl (fun w l=>w.alloc (.cells (l.map Value.string).toArray 9)) W
theorem zr9:∀(ss:List (List ByteArray))(W:World),(zzn W ss).heap.size=W.heap.size+ss.length∧Below W.heap.size W (zzn W ss)∧∀i l,ss[i]? =some l→Held (fun _=>True) (Strs (some ⟨W.heap.size+i,0,none⟩) l) (zzn W ss)
 | [],W=>⟨rfl,Below.refl _ _,fun i l h=>by simp at h⟩
 |l::ss,W=>by
  obtain⟨h1,h2,h3⟩:=zr9 ss (W.alloc (.cells (l.map Value.string).toArray 9));have e:zzn W (l::ss)=zzn (W.alloc (.cells (l.map Value.string).toArray 9)) ss:=rfl;have hs:(W.alloc (.cells (l.map Value.string).toArray 9)).heap.size=W.heap.size+1:=by simp
  have b0:Below W.heap.size W (W.alloc (.cells (l.map Value.string).toArray 9)):=(Below.refl _ W).alloc (Qiz _) _;rw[e];refine⟨by rw[h1,hs,List.length_cons];omega,b0.trans (h2.mono b0.size),fun i x hx=> ?_⟩;cases i with
  |zero=>
   simp only[List.getElem?_cons_zero,Option.some.injEq]at hx;subst hx;exact(Strs.lit (fun _=>True) W l 9 trivial).all h2
  |succ i=>
   have:=h3 i x (by simpa using hx);rw[hs]at this;have e:W.heap.size+1+i=W.heap.size+(i+1):=by omega
   rw[e]at this;exact this
def zc8:ByteArray:=⟨#[60,99,111,110,100,105,116,105,111,110,62]⟩
def zsi:ByteArray:=⟨#[60,115,101,114,105,111,117,115,45,99,111,110,100,105,116,105,111,110,62]⟩
def zv7:ByteArray:=⟨#[60,101,114,114,111,114,62]⟩
def z1j:ByteArray:=⟨#[60,102,97,117,108,116,62]⟩
def z1q:ByteArray:=⟨#[60,119,97,114,110,105,110,103,62]⟩
def z1a:ByteArray:=⟨#[60,114,101,115,116,97,114,116,62]⟩
def zxg:List (List ByteArray):=[[zcq],[zcq],[zal,zcq],[zcq],[zan,zcq],[zcq],[zaw,zcq],[zcq],[zdn,zcq],[zcq],[zc8,zcq],[zc8],[zsi,zc8,zcq],
 [zc8],[z1q,zc8,zcq],[zc8],[z1a,zc8,zcq],[zsi],[zv7,zsi,zc8,zcq],[zv7],[z1j,zv7,zsi,zc8,zcq]]
theorem zzz:zbm=[⟨zcq,⟨#[]⟩,[],[zcq],true,false⟩,⟨zal,⟨#[]⟩,[zcq],[zal,zcq],false,true⟩,⟨zan,⟨#[]⟩,[zcq],[zan,zcq],false,true⟩,⟨zaw,⟨#[]⟩,[zcq],[zaw,zcq],false,true⟩,⟨zdn,⟨#[]⟩,[zcq],[zdn,zcq],false,true⟩,
  ⟨zc8,⟨#[]⟩,[zcq],[zc8,zcq],false,false⟩,⟨zsi,⟨#[]⟩,[zc8],[zsi,zc8,zcq],false,false⟩,⟨z1q,⟨#[]⟩,[zc8],[z1q,zc8,zcq],false,false⟩,⟨z1a,⟨#[]⟩,[zc8],[z1a,zc8,zcq],false,false⟩,⟨zv7,⟨#[]⟩,[zsi],[zv7,zsi,zc8,zcq],false,false⟩,⟨z1j,⟨#[]⟩,[zv7],[z1j,zv7,zsi,zc8,zcq],false,false⟩]:=by
 kernel_rfl
theorem zta(W:World):Held (fun _=>True) (CIs (some ⟨W.heap.size+21,0,none⟩) zbm) ((zzn W zxg).alloc (.cells #[.string zcq,.string ⟨#[]⟩,.slice none 0 0,.slice (some ⟨W.heap.size+0,0,none⟩) 1 1,.bool true,.bool false,.string zal,.string ⟨#[]⟩,.slice (some ⟨W.heap.size+1,0,none⟩) 1 1,.slice (some ⟨W.heap.size+2,0,none⟩) 2 2,.bool false,.bool true,.string zan,.string ⟨#[]⟩,.slice (some ⟨W.heap.size+3,0,none⟩) 1 1,.slice (some ⟨W.heap.size+4,0,none⟩) 2 2,.bool false,.bool true,.string zaw,.string ⟨#[]⟩,.slice (some ⟨W.heap.size+5,0,none⟩) 1 1,.slice (some ⟨W.heap.size+6,0,none⟩) 2 2,.bool false,.bool true,.string zdn,.string ⟨#[]⟩,.slice (some ⟨W.heap.size+7,0,none⟩) 1 1,.slice (some ⟨W.heap.size+8,0,none⟩) 2 2,.bool false,.bool true,.string zc8,.string ⟨#[]⟩,.slice (some ⟨W.heap.size+9,0,none⟩) 1 1,.slice (some ⟨W.heap.size+10,0,none⟩) 2 2,.bool false,.bool false,.string zsi,.string ⟨#[]⟩,.slice (some ⟨W.heap.size+11,0,none⟩) 1 1,.slice (some ⟨W.heap.size+12,0,none⟩) 3 3,.bool false,.bool false,.string z1q,.string ⟨#[]⟩,.slice (some ⟨W.heap.size+13,0,none⟩) 1 1,.slice (some ⟨W.heap.size+14,0,none⟩) 3 3,.bool false,.bool false,.string z1a,.string ⟨#[]⟩,.slice (some ⟨W.heap.size+15,0,none⟩) 1 1,.slice (some ⟨W.heap.size+16,0,none⟩) 3 3,.bool false,.bool false,.string zv7,.string ⟨#[]⟩,.slice (some ⟨W.heap.size+17,0,none⟩) 1 1,.slice (some ⟨W.heap.size+18,0,none⟩) 4 4,.bool false,.bool false,.string z1j,.string ⟨#[]⟩,.slice (some ⟨W.heap.size+19,0,none⟩) 1 1,.slice (some ⟨W.heap.size+20,0,none⟩) 5 5,.bool false,.bool false] 110))∧
  Below W.heap.size W ((zzn W zxg).alloc (.cells #[.string zcq,.string ⟨#[]⟩,.slice none 0 0,.slice (some ⟨W.heap.size+0,0,none⟩) 1 1,.bool true,.bool false,.string zal,.string ⟨#[]⟩,.slice (some ⟨W.heap.size+1,0,none⟩) 1 1,.slice (some ⟨W.heap.size+2,0,none⟩) 2 2,.bool false,.bool true,.string zan,.string ⟨#[]⟩,.slice (some ⟨W.heap.size+3,0,none⟩) 1 1,.slice (some ⟨W.heap.size+4,0,none⟩) 2 2,.bool false,.bool true,.string zaw,.string ⟨#[]⟩,.slice (some ⟨W.heap.size+5,0,none⟩) 1 1,.slice (some ⟨W.heap.size+6,0,none⟩) 2 2,.bool false,.bool true,.string zdn,.string ⟨#[]⟩,.slice (some ⟨W.heap.size+7,0,none⟩) 1 1,.slice (some ⟨W.heap.size+8,0,none⟩) 2 2,.bool false,.bool true,.string zc8,.string ⟨#[]⟩,.slice (some ⟨W.heap.size+9,0,none⟩) 1 1,.slice (some ⟨W.heap.size+10,0,none⟩) 2 2,.bool false,.bool false,.string zsi,.string ⟨#[]⟩,.slice (some ⟨W.heap.size+11,0,none⟩) 1 1,.slice (some ⟨W.heap.size+12,0,none⟩) 3 3,.bool false,.bool false,.string z1q,.string ⟨#[]⟩,.slice (some ⟨W.heap.size+13,0,none⟩) 1 1,.slice (some ⟨W.heap.size+14,0,none⟩) 3 3,.bool false,.bool false,.string z1a,.string ⟨#[]⟩,.slice (some ⟨W.heap.size+15,0,none⟩) 1 1,.slice (some ⟨W.heap.size+16,0,none⟩) 3 3,.bool false,.bool false,.string zv7,.string ⟨#[]⟩,.slice (some ⟨W.heap.size+17,0,none⟩) 1 1,.slice (some ⟨W.heap.size+18,0,none⟩) 4 4,.bool false,.bool false,.string z1j,.string ⟨#[]⟩,.slice (some ⟨W.heap.size+19,0,none⟩) 1 1,.slice (some ⟨W.heap.size+20,0,none⟩) 5 5,.bool false,.bool false] 110)):=by
 obtain⟨h1,h2,S⟩:=zr9 zxg W;have hn:W.heap.size+21=(zzn W zxg).heap.size:=h1.symm;refine⟨?_,h2.trans ((Below.refl _ _).alloc h2.size _)⟩;rw[zzz]
 have E:=(Enc.snoc (Enc.snoc (Enc.snoc (Enc.snoc (Enc.snoc (Enc.snoc (Enc.snoc (Enc.snoc (Enc.snoc (Enc.snoc (Enc.snoc (R:=fun x cs=>Held (fun _=>True) (ciR x cs) (zzn W zxg)) (sz:=6) Enc.nil (ciR.mk (x:=⟨zcq,⟨#[]⟩,[],[zcq],true,false⟩) (A2:=none) (c2:=0) (c3:=1) (by decide) (by decide) (fun _ _=>Slc.nil _ _ _ _) (S 0 _ rfl)) rfl) (ciR.mk (x:=⟨zal,⟨#[]⟩,[zcq],[zal,zcq],false,true⟩) (c2:=1) (c3:=2) (by decide) (by decide) (S 1 _ rfl) (S 2 _ rfl)) rfl) (ciR.mk (x:=⟨zan,⟨#[]⟩,[zcq],[zan,zcq],false,true⟩) (c2:=1) (c3:=2) (by decide) (by decide) (S 3 _ rfl) (S 4 _ rfl)) rfl) (ciR.mk (x:=⟨zaw,⟨#[]⟩,[zcq],[zaw,zcq],false,true⟩) (c2:=1) (c3:=2) (by decide) (by decide) (S 5 _ rfl) (S 6 _ rfl)) rfl) (ciR.mk (x:=⟨zdn,⟨#[]⟩,[zcq],[zdn,zcq],false,true⟩) (c2:=1) (c3:=2) (by decide) (by decide) (S 7 _ rfl) (S 8 _ rfl)) rfl) (ciR.mk (x:=⟨zc8,⟨#[]⟩,[zcq],[zc8,zcq],false,false⟩) (c2:=1) (c3:=2) (by decide) (by decide) (S 9 _ rfl) (S 10 _ rfl)) rfl) (ciR.mk (x:=⟨zsi,⟨#[]⟩,[zc8],[zsi,zc8,zcq],false,false⟩) (c2:=1) (c3:=3) (by decide) (by decide) (S 11 _ rfl) (S 12 _ rfl)) rfl) (ciR.mk (x:=⟨z1q,⟨#[]⟩,[zc8],[z1q,zc8,zcq],false,false⟩) (c2:=1) (c3:=3) (by decide) (by decide) (S 13 _ rfl) (S 14 _ rfl)) rfl) (ciR.mk (x:=⟨z1a,⟨#[]⟩,[zc8],[z1a,zc8,zcq],false,false⟩) (c2:=1) (c3:=3) (by decide) (by decide) (S 15 _ rfl) (S 16 _ rfl)) rfl) (ciR.mk (x:=⟨zv7,⟨#[]⟩,[zsi],[zv7,zsi,zc8,zcq],false,false⟩) (c2:=1) (c3:=4) (by decide) (by decide) (S 17 _ rfl) (S 18 _ rfl)) rfl) (ciR.mk (x:=⟨z1j,⟨#[]⟩,[zv7],[z1j,zv7,zsi,zc8,zcq],false,false⟩) (c2:=1) (c3:=5) (by decide) (by decide) (S 19 _ rfl) (S 20 _ rfl)) rfl)
 exact(zzi 110 hn E (by decide)).mono fun _ _ _=>trivial
theorem zsj(W:World):Calls Tryz.prog 123 #[] W fun e W'=>∃A c,e=.returned (.slice A 11 c)∧11≤c∧Held (fun _=>True) (CIs A zbm) W'∧Below W.heap.size W W':=by
 have H:=Qaz (zta W);go_enter Tryz.func123,Tryz.ntmps123;go_wp2;go_ret;exact⟨_,_,rfl,Qiz _,H.out.1,H.out.2⟩
theorem zsf(A:Option Addr)(c:Nat)(l:List CI)(W:World)(G:Nat→Prop)(h:Held G (CIs A l) W)(hl:l.length≤1000):
  Calls Tryz.prog 127 #[.slice A l.length c] W fun e w'=>∃A' c',e=.returned (.slice A' l.length c')∧l.length≤c'∧Held (fun b=>b<w'.heap.size) (Heirs A' (zav l)) w'∧Below W.heap.size W w':=by
 have H:=h.here;clear h;go_enter Tryz.func127,Tryz.ntmps127;go_wp2
 go_loopw [3,4] (fun v i wr=>∃k:Nat,k≤l.length∧i=.int .i64 k∧Own heirR 186 2 W.heap.size (· <W.heap.size) v (zav (l.take k)) wr∧Below W.heap.size W wr) (fun _ i _=>l.length-(intOf i).toNat)
 case atStart=>exact⟨0,Qjz _,rfl,Own.nil _ _ _ _ _ _,Below.refl _ _⟩
 case round=>
  obtain⟨k,hk,rfl,hown,hb⟩:=hrel;by_cases hlt:k<l.length
  ·have hx:=Qbz hlt;generalize l[k]=x at hx;have HX:=Qaz hx;clear hx;obtain⟨b,off,rfl⟩:=Slc.addrH H (by omega);obtain⟨A2,c2,A3,c3,s2,s3,S2,S3,h1,h2,h3,h4,h5,h6⟩:=CIs.atH (H.below hb) HX.out;have w1:(0:Int)≤(k:Int):=by omega
   have w2:(k:Int)<(l.length:Int):=by omega
   have hsz:=hb.size;have hO:=Qaz ((hown.drew).alloc (.cells #[.string x.name,.slice A2 x.supers.length c2] 186));have hC:Hid (∀j u,[Value.string x.name,.slice A2 x.supers.length c2][j]? =some u→(wr.drew.alloc (.cells #[.string x.name,.slice A2 x.supers.length c2] 186)).cell? ((⟨wr.heap.size,0,none⟩:Addr).add j)=some u):=Qaz (zaq wr.drew #[.string x.name,.slice A2 x.supers.length c2] _ _ rfl);have h1C:Hid (∀u∈[Value.string x.name,.slice A2 x.supers.length c2],u.oneCell'=true):=Qaz (by intro u hu;simp at hu;rcases hu with rfl|rfl<;>rfl)
   have hRR:Hid (Held (· <W.heap.size) (heirR x.heir [.string x.name,.slice A2 x.supers.length c2]) (wr.drew.alloc (.cells #[.string x.name,.slice A2 x.supers.length c2] 186))):=Qaz (by
    have S2:=heirR.mk (x:=x.heir) s2 S2;exact(S2.keep (Keep.drew _ _)).keep (Keep.alloc _ _ _))
   have hGG:Hid (∀b,b<W.heap.size→u3.ownBlock≠some b):=Qaz (fun b hb' e=>by have:=(hown.lt _ e).1;omega);have HVB:Hid (∀g,u3.ownBlock=some g→W.heap.size≤g):=Qaz (fun g e=>(hown.lt _ e).1);have HS:Hid (zav (l.take (k+1))=zav (l.take k)++[x.heir]):=Qaz (by rw[take_snoc HX.out];simp[zav]);have hlen:(zav (l.take k)).length=k:=by simp[zav];omega
   have HK:=Qaz hlt;clear hown h2 h4 h5 h6 S2 S3;go_wp2_with (fail)
   go_region_law (refine za1 heirR 186 2 W.heap.size 40 (· <W.heap.size) _ (by rfl) _ _ 146 _ (by rfl) Tryz.underlying146 zww rfl (by decide) (by decide) u3 (zav (l.take k)) (by rfl) hO.out ⟨wr.heap.size,0,none⟩ 1 (by rfl) x.heir [.string x.name,.slice A2 x.supers.length c2] rfl hC.out h1C.out hRR.out hGG.out (by simp;omega) (by rw[hlen];omega) (wr.heap.size+1) (by simp) ?_;intro g cap w3 hown1 hgrow hat hlt3)
   all_goals
    have bF:Below W.heap.size W w3:=(hb.drew.alloc (by simpa using hsz) _).grown hgrow (by simp;omega) (fun k' e=>HVB.out k' e);have own2:Own heirR 186 2 W.heap.size (· <W.heap.size) (.slice (some ⟨g,0,none⟩) (k+1) cap) (zav (l.take (k+1))) w3:=by
     rw[HS.out];rw[hlen]at hown1;exact hown1
    clear hgrow hown1 hO hC h1C hRR hGG HVB;go_wp2
    first
     |exact⟨⟨k+1,by have:=HK.out;omega,by go_num,own2,bF⟩,by simp[intOf];have:=HK.out;omega⟩
     |(go_roundw;case rel=>exact⟨k+1,by have:=HK.out;omega,by go_num,own2,bF⟩;case measure=>simp[intOf];have:=HK.out;omega)
  ·obtain rfl:k=l.length:=by omega
   rw[List.take_length]at hown;obtain⟨A',c',rfl,hc',S⟩:=hown.out;go_wp2;go_ret;refine⟨A',c',by simp[zav],by simpa[zav]using hc',S.mono fun b hb1 hb2=> ?_,hb⟩;exact hb1
end
def zet(l:List CI)(k:Nat):List ByteArray:=(l.take k).map (·.name)
def zea(l:List CI)(k:Nat)(x:CI)(s:ByteArray):Bool:=
 decide (idx (zet l k) s<0)||(decide (1≤idx (zet l k) s)&&decide (idx (zet l k) s≤4))||(match l[(idx (zet l k) s).toNat]? with|some y=>y.seal_&& !decide (y.lib=x.lib)|none=>false)
def zgz(l:List CI)(k:Nat)(x:CI):Bool:= !decide (x.name=⟨#[]⟩)&&decide (x.name.size≤100)&& !hasS (zet l k) x.name&&decide (1≤x.supers.length)&&decide (x.supers.length≤8)&&zbz x.supers
def crB(l:List CI)(k:Nat)(x:CI):Bool:=zgz l k x&& !(x.supers.any (zea l k x))
theorem zwz(l:List CI)(k:Nat)(s:ByteArray):idx (zet l k) s= -1∨∃(j:Nat)(y:CI),j<k∧l[j]? =some y∧idx (zet l k) s=j:=by
 by_cases h:s∈zet l k
 ·right;unfold idx;cases hf:(zet l k).findIdx? (fun y=>decide (y=s))with
  |none=>
   have:=List.findIdx?_eq_none_iff.1 hf s h;simp at this
  |some j=>
   obtain⟨h1,_⟩:=List.findIdx?_eq_some_iff_getElem.1 hf;have h2:j<k∧j<l.length:=by
    unfold zet at h1;rw[List.length_map,List.length_take]at h1;omega
   exact⟨j,l[j],h2.1,Qbz h2.2,rfl⟩
 ·exact .inl (zh3 h)
theorem zei{α:Type}{p:α→Bool}{l:List α}{k:Nat}{x:α}(hx:l[k]? =some x)(h1:(l.take k).any p=false)(h2:p x=false):(l.take (k+1)).any p=false:=by
 rw[take_snoc hx,List.any_append,h1];simp[h2]
theorem zr2{W U V:World}(h:Drw W U)(q:Drw U V):∃m,V=W.drewN m:=by
 obtain⟨a,rfl⟩:=h;obtain⟨b,rfl⟩:=q;exact⟨a+b,World.drewN_drewN _ _ _⟩
theorem zkh(A:Option Addr)(c:Nat)(l:List CI)(k:Nat)(x:CI)(W:World)(G:Nat→Prop)(hH:Held G (CIs A l) W)(hc:l.length≤c)(hl:l.length≤1000)(hx:l[k]? =some x):
  Calls Tryz.prog 125 #[.slice A l.length c,.int .i64 k] W fun e w'=>e=.returned (.bool (crB l k x))∧Below W.heap.size W w':=by
 have hkl:=(Qcz hx).1;obtain⟨b,off,rfl⟩:=Slc.addrH hH (by omega);have H:=Qaz hH.here;have HX:=Qaz hx;obtain⟨A2,c2,A3,c3,p2,p3,S2,S3,g0,g1,g2,g3,g4,g5⟩:=CIs.atH hH.here hx;have HS2:=Qaz S2;obtain⟨W1,hW1⟩:∃W1,W1=W.alloc (.cells #[.string x.name,.string x.lib,.slice A2 x.supers.length c2,.slice A3 x.cpl.length c3,.bool x.abs,.bool x.seal_] 110):=⟨_,rfl⟩;have b1:Below W.heap.size W W1:=by rw[hW1];exact(Below.refl _ W).alloc (Qiz _) _
 have xc:∀j u,[Value.string x.name,.string x.lib,.slice A2 x.supers.length c2,.slice A3 x.cpl.length c3,.bool x.abs,.bool x.seal_][j]? =some u→W1.cell? ⟨W.heap.size,j,none⟩=some u:=fun j u hj=>by rw[hW1];exact zac W _ _ _ rfl j u hj
 have hkc:k≤c:=by omega
 have w1:(0:Int)≤(k:Int):=by omega
 have w2:(k:Int)<(l.length:Int):=by omega
 have hlt:(l.take k).length=k:=by rw[List.length_take];omega
 have HAT:Hid (∀U s,Drw W1 U→Calls Tryz.prog 82 #[.slice (some ⟨b,off,none⟩) k c,.string s] U fun e w'=>e=.returned (.int .i64 (idx (zet l k) s))∧U=w'):=Qaz (fun U s hu=>by
  obtain⟨m,rfl⟩:=hu;have:=zfn (some ⟨b,off,none⟩) c (l.take k) s (W1.drewN m) _ ((hH.keep ((Keep.all b1).trans (Keep.drewN _ _ _))).imp fun _ _ q=>Slc.take q k) (by omega);rw[hlt]at this;exact this)
 have HDI0:Hid (x.supers.length≤8→∀U,Drw W1 U→Calls Tryz.prog 171 #[.slice A2 x.supers.length c2] U fun e w'=>e=.returned (.bool (zbz x.supers))∧Drw U w'):=Qaz (fun h8 U hu=>by
  obtain⟨m,rfl⟩:=hu;exact zhk A2 c2 x.supers (W1.drewN m) _ ((S2.keep (Keep.all b1)).keep (Keep.drewN _ _ _)) p2 (by omega))
 have HB1:=Qaz b1;clear hH hx S2 S3 hlt b1;have d0:=xc 0 _ rfl;have d1:=xc 1 _ rfl;have d2:=xc 2 _ rfl;have HSL:Hid (Held (fun b=>b<W.heap.size) (Strs A2 x.supers) W1):=Qaz (HS2.out.keep (Keep.all HB1.out));clear xc;have HG0:=Qaz (zf9 (l:=zet l k) (x:=x.name));go_enter Tryz.func125,Tryz.ntmps125;go_wp2_with (fail);rw[←hW1];clear hW1 g0 g1 g2 g3 g4 g5;by_cases hn0:x.name=⟨#[]⟩
 ·have HE:Hid (crB l k x=false):=Qaz (by unfold crB zgz;rw[Qhz hn0];rfl);clear HAT HDI0 HG0;rw[hn0]at d0
  go_quiet (fail)
  go_wp2;go_ret;exact⟨(by rw[HE.out];try rfl),HB1.out.trans (zad _ _ _)⟩
 by_cases hn1:(100:Int)<(x.name.size:Int)
 ·have HE:Hid (crB l k x=false):=Qaz (by unfold crB zgz;rw[Qgz (show ¬x.name.size≤100 by omega)];simp);clear HAT HDI0 HG0
  go_quiet (fail)
  go_wp2;go_ret;exact⟨(by rw[HE.out];try rfl),HB1.out.trans (zad _ _ _)⟩
 have HA1:=Qaz (fun U hu=>HAT.out U x.name hu);cases hh:hasS (zet l k) x.name with
 |true=>
  have t1:decide ((0:Int)≤idx (zet l k) x.name)=true:=HG0.out.trans hh;have HE:Hid (crB l k x=false):=Qaz (by unfold crB zgz;rw[hh];simp);clear HAT hh HG0;generalize idx (zet l k) x.name=ix at HA1 t1
  go_quiet ((first|(go_at_call 82;exact(HA1.out _ (by first|exact Drw.refl _|exact Drw.of _ _|exact(Drw.of _ _).drewN _)).mono fun _ _ ⟨a,b⟩=>⟨a,_,b.symm⟩)|(go_at_call 171;exact(HDI.out _ (by first|exact Drw.refl _|exact Drw.of _ _|exact(Drw.of _ _).drewN _)).mono fun _ _ ⟨a,b⟩=>⟨a,zr2 (by first|exact Drw.refl _|exact Drw.of _ _|exact(Drw.of _ _).drewN _) b⟩)))
  go_wp2;go_ret;exact⟨(by rw[HE.out];try rfl),HB1.out.trans (zad _ _ _)⟩
 |false=>
 have t1:decide ((0:Int)≤idx (zet l k) x.name)=false:=HG0.out.trans hh;have HHS:=Qaz hh;clear hh HG0;generalize idx (zet l k) x.name=ix at HA1 t1;by_cases hs0:(x.supers.length:Int)<1
 ·have HE:Hid (crB l k x=false):=Qaz (by unfold crB zgz;rw[Qgz (show ¬1≤x.supers.length by omega)];simp);clear HAT
  go_quiet ((first|(go_at_call 82;exact(HA1.out _ (by first|exact Drw.refl _|exact Drw.of _ _|exact(Drw.of _ _).drewN _)).mono fun _ _ ⟨a,b⟩=>⟨a,_,b.symm⟩)|(go_at_call 171;exact(HDI.out _ (by first|exact Drw.refl _|exact Drw.of _ _|exact(Drw.of _ _).drewN _)).mono fun _ _ ⟨a,b⟩=>⟨a,zr2 (by first|exact Drw.refl _|exact Drw.of _ _|exact(Drw.of _ _).drewN _) b⟩)))
  go_wp2;go_ret;exact⟨(by rw[HE.out];try rfl),HB1.out.trans (zad _ _ _)⟩
 by_cases hs8:(8:Int)<(x.supers.length:Int)
 ·have HE:Hid (crB l k x=false):=Qaz (by unfold crB zgz;rw[Qgz (show ¬x.supers.length≤8 by omega)];simp);clear HAT
  go_quiet ((first|(go_at_call 82;exact(HA1.out _ (by first|exact Drw.refl _|exact Drw.of _ _|exact(Drw.of _ _).drewN _)).mono fun _ _ ⟨a,b⟩=>⟨a,_,b.symm⟩)|(go_at_call 171;exact(HDI.out _ (by first|exact Drw.refl _|exact Drw.of _ _|exact(Drw.of _ _).drewN _)).mono fun _ _ ⟨a,b⟩=>⟨a,zr2 (by first|exact Drw.refl _|exact Drw.of _ _|exact(Drw.of _ _).drewN _) b⟩)))
  go_wp2;go_ret;exact⟨(by rw[HE.out];try rfl),HB1.out.trans (zad _ _ _)⟩
 have HDI:=Qaz (HDI0.out (by omega));cases hd:zbz x.supers with
 |false=>
  have HE:Hid (crB l k x=false):=Qaz (by unfold crB zgz;rw[hd];simp);rw[hd]at HDI;clear HAT hd
  go_quiet ((first|(go_at_call 82;exact(HA1.out _ (by first|exact Drw.refl _|exact Drw.of _ _|exact(Drw.of _ _).drewN _)).mono fun _ _ ⟨a,b⟩=>⟨a,_,b.symm⟩)|(go_at_call 171;exact(HDI.out _ (by first|exact Drw.refl _|exact Drw.of _ _|exact(Drw.of _ _).drewN _)).mono fun _ _ ⟨a,b⟩=>⟨a,zr2 (by first|exact Drw.refl _|exact Drw.of _ _|exact(Drw.of _ _).drewN _) b⟩)))
  go_wp2;go_ret;exact⟨(by rw[HE.out];try rfl),HB1.out.trans (zad _ _ _)⟩
 |true=>
 have HE:Hid (zgz l k x=true):=Qaz (by unfold zgz;rw[hd,HHS.out,Qgz hn0,Qhz (show x.name.size≤100 by omega),Qhz (show 1≤x.supers.length by omega),Qhz (show x.supers.length≤8 by omega)];rfl);rw[hd]at HDI;clear hd
 go_quiet ((first|(go_at_call 82;exact(HA1.out _ (by first|exact Drw.refl _|exact Drw.of _ _|exact(Drw.of _ _).drewN _)).mono fun _ _ ⟨a,b⟩=>⟨a,_,b.symm⟩)|(go_at_call 171;exact(HDI.out _ (by first|exact Drw.refl _|exact Drw.of _ _|exact(Drw.of _ _).drewN _)).mono fun _ _ ⟨a,b⟩=>⟨a,zr2 (by first|exact Drw.refl _|exact Drw.of _ _|exact(Drw.of _ _).drewN _) b⟩)))
 clear HA1 HDI t1;go_wp2_with (fail)
 go_loopw [6] (fun i wr=>∃j:Nat,j≤x.supers.length∧i=.int .i64 j∧(x.supers.take j).any (zea l k x)=false∧Drw W1 wr) (fun i _=>x.supers.length-(intOf i).toNat)
 case atStart=>exact⟨0,Qjz _,rfl,rfl,Drw.of _ _⟩
 case round=>
  obtain⟨j,hj,rfl,hno,hdr⟩:=hrel;obtain⟨q,rfl⟩:=hdr;have HNO:=Qaz hno;clear hno;by_cases hjl:j<x.supers.length
  ·have hs:x.supers[j]? =some x.supers[j]:=Qbz hjl;generalize x.supers[j]=s at hs;have HS:=Qaz hs;obtain⟨b2,o2,rfl⟩:=Slc.addrH HSL.out (by omega);have gs:W1.cell? ⟨b2,o2+j,none⟩=some (.string s):=(Strs.atH HSL.out hs).now;have HA1:=Qaz (fun U hu=>HAT.out U s hu);have w3:(0:Int)≤(j:Int):=by omega
   have w4:(j:Int)<(x.supers.length:Int):=by omega
   clear hs;have HBAD:Hid (zea l k x s=true→crB l k x=false):=Qaz (fun h=>by
    unfold crB;have:x.supers.any (zea l k x)=true:=List.any_eq_true.2 ⟨s,Qdz HS.out,h⟩;rw[this];simp)
   rcases zwz l k s with hix|⟨m,y,hmk,hy,hix⟩
   ·have HE2:=Qaz (HBAD.out (by unfold zea;rw[hix];rfl));rw[hix]at HA1;clear hix HBAD;go_wp2_with (fail)
    go_quiet ((go_at_call 82;exact(HA1.out _ (by first|exact Drw.of _ _|exact(Drw.of _ _).drewN _)).mono fun _ _ ⟨a,b⟩=>⟨a,_,b.symm⟩))
    go_wp2_with (fail)
    go_quiet (fail)
    go_wp2;go_ret;exact⟨(by rw[HE2.out];try rfl),HB1.out.trans (((Drw.of _ _).drewN _).drewN _ |>.below _)⟩
   have HSBE:Hid (zea l k x s=((decide (1≤(m:Int))&&decide ((m:Int)≤4))||(y.seal_&& !decide (y.lib=x.lib)))):=Qaz (by
    unfold zea;rw[hix,Qgz (show ¬(m:Int)<0 by omega),Int.toNat_natCast,hy];rfl)
   rw[hix]at HA1;obtain⟨B2,d2',B3,d3',_,_,_,_,_,f1,_,_,_,f5⟩:=CIs.atH (H.out.keep (Keep.all HB1.out)) hy;have f1':W1.cell? ⟨b,off+m*6+1,none⟩=some (.string y.lib):=f1;have f5':W1.cell? ⟨b,off+m*6+5,none⟩=some (.bool y.seal_):=f5;have t4:decide ((m:Int)<0)=false:=Qgz (by omega);have w5:(0:Int)≤(m:Int):=by omega
   have w6:(m:Int)<(l.length:Int):=by omega
   clear hix hy hmk f1 f5;by_cases hm1:1≤m
   ·have t5:decide ((1:Int)≤(m:Int))=true:=Qhz (by omega);by_cases hm4:m≤4
    ·have t6:decide ((m:Int)≤4)=true:=Qhz (by omega);have HE2:=Qaz (HBAD.out (by rw[HSBE.out,t5,t6];rfl));clear HBAD HSBE w5 w6 hm1 hm4;go_wp2_with (fail)
     go_quiet ((go_at_call 82;exact(HA1.out _ (by first|exact Drw.of _ _|exact(Drw.of _ _).drewN _)).mono fun _ _ ⟨a,b⟩=>⟨a,_,b.symm⟩))
     go_wp2_with (fail)
     go_quiet (fail)
     go_wp2;go_ret;exact⟨(by rw[HE2.out];try rfl),HB1.out.trans (((Drw.of _ _).drewN _).drewN _ |>.below _)⟩
    have t6:decide ((m:Int)≤4)=false:=Qgz (by omega);clear hm1 hm4;cases hse:y.seal_ with
    |false=>
     have HSB:Hid (zea l k x s=false):=Qaz (by rw[HSBE.out,t6,hse];simp);rw[hse]at f5';clear HBAD HSBE hse;go_wp2_with (fail)
     go_quiet ((go_at_call 82;exact(HA1.out _ (by first|exact Drw.of _ _|exact(Drw.of _ _).drewN _)).mono fun _ _ ⟨a,b⟩=>⟨a,_,b.symm⟩))
     go_wp2_with (fail)
     go_quiet (fail)
     go_wp2;go_roundw
     case rel=>exact⟨j+1,by omega,by go_num,zei HS.out HNO.out HSB.out,Drw.of _ _⟩
     case measure=>simp[intOf];omega
    |true=>
     rw[hse]at f5';by_cases hli:y.lib=x.lib
     ·have HSB:Hid (zea l k x s=false):=Qaz (by rw[HSBE.out,t6,Qhz hli];simp);rw[hli]at f1';clear HBAD HSBE hse;go_wp2_with (fail)
      go_quiet ((go_at_call 82;exact(HA1.out _ (by first|exact Drw.of _ _|exact(Drw.of _ _).drewN _)).mono fun _ _ ⟨a,b⟩=>⟨a,_,b.symm⟩))
      go_wp2_with (fail)
      go_quiet (fail)
      go_wp2;go_roundw
      case rel=>exact⟨j+1,by omega,by go_num,zei HS.out HNO.out HSB.out,Drw.of _ _⟩
      case measure=>simp[intOf];omega
     ·have HE2:=Qaz (HBAD.out (by rw[HSBE.out,hse,Qgz hli];simp));clear HBAD HSBE hse;go_wp2_with (fail)
      go_quiet ((go_at_call 82;exact(HA1.out _ (by first|exact Drw.of _ _|exact(Drw.of _ _).drewN _)).mono fun _ _ ⟨a,b⟩=>⟨a,_,b.symm⟩))
      go_wp2_with (fail)
      go_quiet (fail)
      go_wp2;go_ret;exact⟨(by rw[HE2.out];try rfl),HB1.out.trans (((Drw.of _ _).drewN _).drewN _ |>.below _)⟩
   ·have t5:decide ((1:Int)≤(m:Int))=false:=Qgz (by omega);clear hm1;cases hse:y.seal_ with
    |false=>
     have HSB:Hid (zea l k x s=false):=Qaz (by rw[HSBE.out,t5,hse];simp);rw[hse]at f5';clear HBAD HSBE hse;go_wp2_with (fail)
     go_quiet ((go_at_call 82;exact(HA1.out _ (by first|exact Drw.of _ _|exact(Drw.of _ _).drewN _)).mono fun _ _ ⟨a,b⟩=>⟨a,_,b.symm⟩))
     go_wp2_with (fail)
     go_quiet (fail)
     go_wp2;go_roundw
     case rel=>exact⟨j+1,by omega,by go_num,zei HS.out HNO.out HSB.out,Drw.of _ _⟩
     case measure=>simp[intOf];omega
    |true=>
     rw[hse]at f5';by_cases hli:y.lib=x.lib
     ·have HSB:Hid (zea l k x s=false):=Qaz (by rw[HSBE.out,t5,Qhz hli];simp);rw[hli]at f1';clear HBAD HSBE hse;go_wp2_with (fail)
      go_quiet ((go_at_call 82;exact(HA1.out _ (by first|exact Drw.of _ _|exact(Drw.of _ _).drewN _)).mono fun _ _ ⟨a,b⟩=>⟨a,_,b.symm⟩))
      go_wp2_with (fail)
      go_quiet (fail)
      go_wp2;go_roundw
      case rel=>exact⟨j+1,by omega,by go_num,zei HS.out HNO.out HSB.out,Drw.of _ _⟩
      case measure=>simp[intOf];omega
     ·have HE2:=Qaz (HBAD.out (by rw[HSBE.out,hse,Qgz hli];simp));clear HBAD HSBE hse;go_wp2_with (fail)
      go_quiet ((go_at_call 82;exact(HA1.out _ (by first|exact Drw.of _ _|exact(Drw.of _ _).drewN _)).mono fun _ _ ⟨a,b⟩=>⟨a,_,b.symm⟩))
      go_wp2_with (fail)
      go_quiet (fail)
      go_wp2;go_ret;exact⟨(by rw[HE2.out];try rfl),HB1.out.trans (((Drw.of _ _).drewN _).drewN _ |>.below _)⟩
  ·obtain rfl:j=x.supers.length:=by omega
   have HF:Hid (crB l k x=true):=Qaz (by unfold crB;rw[HE.out];have:=HNO.out;rw[List.take_length]at this;rw[this];rfl);go_wp2;go_ret;exact⟨(by rw[HF.out];try rfl),HB1.out.trans (zad _ _ _)⟩
def zcc(L:List (List ByteArray))(ats:List Nat):List (List ByteArray):=List.zipWith (fun y n=>y.drop n) L ats
theorem zcy{L:List (List ByteArray)}{ats:List Nat}{j:Nat}{y:List ByteArray}{n:Nat}(h1:L[j]? =some y)(h2:ats[j]? =some n):(zcc L ats)[j]? =some (y.drop n):=by
 unfold zcc;rw[List.getElem?_zipWith,h1,h2]
theorem zdi{L:List (List ByteArray)}{ats:List Nat}(h:ats.length=L.length):(zcc L ats).length=L.length:=by
 unfold zcc;rw[List.length_zipWith,h,Nat.min_self]
def isC(D:List (List ByteArray)):List ByteArray→Bool
 | []=>false
 |s::_=>zb7 D s
def zlp(D:List (List ByteArray)):Int:=match D.findIdx? (isC D)with
 |some i=>i
 |none=> -1
theorem zhc(D:List (List ByteArray)):∀R,zia D R=(R.find? (isC D)).bind List.head?
 | []=>rfl
 | []::R=>by
  rw[zia,zhc D R,List.find?_cons_of_neg (by simp[isC])]
 |(s::t)::R=>by
  rw[zia];by_cases h:zb7 D s=true
  ·rw[if_pos h,List.find?_cons_of_pos (by simpa[isC]using h)];rfl
  ·rw[if_neg h,zhc D R,List.find?_cons_of_neg (by simpa[isC]using h)]
theorem zk3{D:List (List ByteArray)}{k:Nat}{z:List ByteArray}(hz:D[k]? =some z)(hc:isC D z=true)(hno:∀(j:Nat)(y:List ByteArray),j<k→D[j]? =some y→isC D y=false):zlp D=k∧zia D D=z.head? :=by
 obtain⟨hk,e⟩:=Qcz hz;constructor
 ·unfold zlp;have:D.findIdx? (isC D)=some k:=by
   rw[List.findIdx?_eq_some_iff_getElem];refine⟨hk,by rw[e];exact hc,fun j hj=> ?_⟩;have:=hno j _ hj (Qbz (by omega));simp[this]
  rw[this]
 ·rw[zhc];have:D.find? (isC D)=some z:=by
   rw[List.find?_eq_some_iff_getElem];refine⟨hc,k,hk,e,fun j hj=> ?_⟩;have:=hno j _ hj (Qbz (by omega));simp[this]
  rw[this];rfl
theorem zlt{D:List (List ByteArray)}(hno:∀(j:Nat)(y:List ByteArray),D[j]? =some y→isC D y=false):zlp D= -1∧zia D D=none:=by
 constructor
 ·unfold zlp;have:D.findIdx? (isC D)=none:=by
   rw[List.findIdx?_eq_none_iff];intro y hy;obtain⟨j,hj⟩:=Qez hy;exact hno j y hj
  rw[this]
 ·rw[zhc];have:D.find? (isC D)=none:=by
   rw[List.find?_eq_none];intro y hy;obtain⟨j,hj⟩:=Qez hy;rw[hno j y hj];simp
  rw[this];rfl
theorem zsz(A:Option Addr)(c:Nat)(L:List (List ByteArray))(AI:Option Addr)(ci:Nat)(ats:List Nat)(w:World)(hlen:ats.length=L.length)(hL:Lsts A L w)(hI:Ints AI (ats.map fun n:Nat=>(n:Int)) w)
  (hle:∀(j:Nat) y n,L[j]? =some y→ats[j]? =some n→n≤y.length) (hl:L.length≤1000000) (hll:∀x∈L,x.length≤1000000):
  Calls Tryz.prog 206 #[.slice A L.length c,.slice AI L.length ci] w fun e w'=>e=.returned (.int .i64 (zlp (zcc L ats)))∧Drw w w':=by
 have H:=Slc.stable zfs hL;have HI:=Slc.stable zsl hI;have get:∀k,k<L.length→∃y n b off A1 c1 b2 o2,L[k]? =some y∧ats[k]? =some n∧n≤y.length∧y.length≤1000000∧A=some ⟨b,off,none⟩∧AI=some ⟨b2,o2,none⟩∧y.length≤c1∧Strs A1 y w∧w.cell? ⟨b,off+k,none⟩=some (.slice A1 y.length c1)∧w.cell? ⟨b2,o2+k,none⟩=some (.int .i64 (n:Int)):=fun k hk=>by
  have h1:L[k]? =some L[k]:=Qbz hk;have h2:ats[k]? =some ats[k]:=Qbz (by omega);obtain⟨b,off,rfl⟩:=hL.addr (by omega);obtain⟨A1,c1,r1,R1,g1⟩:=Lsts.atH H h1;obtain⟨b2,o2,rfl⟩:=hI.addr (by simp;omega);obtain⟨b2',o2',cs,e,_,hr,hc⟩:=hI k (ats[k]:Int) (by rw[List.getElem?_map,h2];rfl);cases e;have e:cs=[.int .i64 (ats[k]:Int)]:=hr;rw[e]at hc;exact⟨_,_,b,off,A1,c1,b2,o2,h1,h2,hle k _ _ h1 h2,hll _ (List.getElem_mem hk),rfl,rfl,r1,R1.now,g1,by simpa using hc 0 _ rfl⟩
 have GET:=Qaz get;obtain⟨D,hD⟩:∃D,zcc L ats=D:=⟨_,rfl⟩;have DG:Hid (∀(k:Nat)(y:List ByteArray)(n:Nat),L[k]? =some y→ats[k]? =some n→D[k]? =some (y.drop n)):=Qaz (fun k y n h1 h2=>hD▸zcy h1 h2);have DL:Hid (D.length=L.length):=Qaz (hD▸zdi hlen);rw[hD];clear hD get H HI hL hI hle hll hlen;go_enter Tryz.func206,Tryz.ntmps206;go_wp2_with (fail)
 go_loopw [5] (fun i wr=>∃k:Nat,k≤L.length∧i=.int .i64 k∧(∀(j:Nat)(y:List ByteArray),j<k→D[j]? =some y→isC D y=false)∧Drw w wr) (fun i _=>L.length-(intOf i).toNat)
 case atStart=>exact⟨0,Qjz _,rfl,fun j y h=>absurd h (by omega),Drw.refl _⟩
 case round=>
  obtain⟨k,hk,rfl,hno,hd⟩:=hrel;obtain⟨q,rfl⟩:=hd;have HNO:=Qaz hno;clear hno;by_cases hlt:k<L.length
  ·obtain⟨y,n,b,off,A1,c1,b2,o2,h1,h2,hny,hyl,rfl,rfl,hyc,hS,g1,g2⟩:=GET.out k hlt;have HZ:=Qaz (DG.out k y n h1 h2);have w1:(0:Int)≤(k:Int):=by omega
   have w2:(k:Int)<(L.length:Int):=by omega
   by_cases hn:n=y.length
   ·have t1:((n:Int)==(y.length:Int))=true:=beq_iff_eq.2 (by omega);have HC:Hid (isC D (y.drop n)=false):=Qaz (by rw[hn,List.drop_length];rfl);clear hn h1 h2;go_wp2_with (fail)
    go_quiet (fail)
    go_wp2;go_roundw
    case rel=>
     refine⟨k+1,by omega,by go_num,fun j z hj hz=> ?_,Drw.of _ _⟩;rcases Nat.lt_or_ge j k with p|p
     ·exact HNO.out j z p hz
     ·obtain rfl:j=k:=by omega
      rw[HZ.out]at hz;cases hz;exact HC.out
    case measure=>simp[intOf];omega
   ·have t1:((n:Int)==(y.length:Int))=false:=Qfz (by omega);have hnl:n<y.length:=by omega
    have hs:y[n]? =some y[n]:=Qbz hnl;have hdr:y.drop n=y[n]::y.drop (n+1):=List.drop_eq_getElem_cons hnl;generalize y[n]=s at hs hdr;have HC:Hid (isC D (y.drop n)=zb7 D s):=Qaz (by rw[hdr];rfl);have HH:Hid ((y.drop n).head? =some s):=Qaz (by rw[hdr];rfl);obtain⟨b1,o1,rfl⟩:=hS.addr (by omega);have gs:=Strs.at hS hs;have w3:(0:Int)≤(n:Int):=by omega
    have w4:(n:Int)<(y.length:Int):=by omega
    have HK:=Qaz (And.intro hnl hk);clear h1 h2 hs hdr hn hnl;go_wp2_with (fail)
    go_quiet (fail)
    go_wp2_with (fail)
    go_loopw [6,7] (fun g m wr=>∃j:Nat,j≤L.length∧m=.int .i64 j∧(∃v,g=.bool v∧((v=true∧∀(i:Nat)(z:List ByteArray),i<j→D[i]? =some z→hasS z.tail s=false)∨(v=false∧zb7 D s=false)))∧Drw w wr) (fun _ m _=>L.length-(intOf m).toNat)
    case atStart=>exact⟨0,Qjz _,rfl,⟨true,rfl,.inl ⟨rfl,fun i z h=>absurd h (Nat.not_lt_zero _)⟩⟩,(Drw.of _ _).drewN _⟩
    case round=>
     obtain⟨j,hj,rfl,⟨v,rfl,hv⟩,hd⟩:=hrel;obtain⟨q2,rfl⟩:=hd;rcases hv with⟨rfl,hgo⟩|⟨rfl,hbad⟩;rotate_left
     ·have HC2:Hid (isC D (y.drop n)=false):=Qaz (HC.out.trans hbad);have fin:∀i z,i<k+1→D[i]? =some z→isC D z=false:=fun i z hi hz=>by
       rcases Nat.lt_or_ge i k with p|p
       ·exact HNO.out i z p hz
       ·obtain rfl:i=k:=by omega
        rw[HZ.out]at hz;cases hz;exact HC2.out
      have FIN:=Qaz fin;clear fin hbad;by_cases hjl:(j:Int)<(L.length:Int)
      ·go_wp2;exact⟨⟨k+1,by omega,by go_num,FIN.out,Drw.of _ _⟩,by simp[intOf];omega⟩
      ·go_wp2;exact⟨⟨k+1,by omega,by go_num,FIN.out,Drw.of _ _⟩,by simp[intOf];omega⟩
     have HGO:=Qaz hgo;clear hgo;by_cases hjl:j<L.length
     ·obtain⟨y2,n2,b',off',A4,c4,b2',o2',e1,e2,hny2,hyl2,e3,e4,hyc2,hS2,g3,g4⟩:=GET.out j hjl;cases e3;cases e4;have HZ2:=Qaz (DG.out j y2 n2 e1 e2);have w5:(0:Int)≤(j:Int):=by omega
      have w6:(j:Int)<(L.length:Int):=by omega
      clear e1 e2;by_cases hn2:n2=y2.length
      ·have t2:((n2:Int)==(y2.length:Int))=true:=beq_iff_eq.2 (by omega);have HN:Hid (hasS (y2.drop n2).tail s=false):=Qaz (by rw[hn2,List.drop_length];rfl);clear hn2;go_wp2_with (fail)
       go_quiet (fail)
       go_wp2;go_roundw
       case rel=>
        refine⟨j+1,by omega,by go_num,⟨true,rfl,.inl ⟨rfl,fun i z hi hz=> ?_⟩⟩,Drw.of _ _⟩;rcases Nat.lt_or_ge i j with p|p
        ·exact HGO.out i z p hz
        ·obtain rfl:i=j:=by omega
         rw[HZ2.out]at hz;cases hz;exact HN.out
       case measure=>simp[intOf];omega
      ·have t2:((n2:Int)==(y2.length:Int))=false:=Qfz (by omega);have hnl2:n2<y2.length:=by omega
       obtain⟨b5,o5,rfl⟩:=hS2.addr (by omega);have w7:IntKind.i64.wrap ((n2:Int)+1)=(n2:Int)+1:=by first|exact wrap64_in _ ⟨by omega,by omega⟩|(simp[IntKind.wrap,IntKind.bits,IntKind.signed];omega)
       have w8:(0:Int)≤(n2:Int)+1:=by omega
       have w9:(n2:Int)+1≤(y2.length:Int):=by omega
       have w10:((n2:Int)+1).toNat=n2+1:=by omega
       have ht:(y2.drop n2).tail=y2.drop (n2+1):=by rw[List.tail_drop]
       have hdl:(y2.drop (n2+1)).length=y2.length-(n2+1):=List.length_drop;have HIX:Hid (∀U,Drw w U→Calls Tryz.prog 97 #[.slice (if c4=n2+1 then some ⟨b5,o5,none⟩else some ⟨b5,o5+(n2+1),none⟩) (y2.length-(n2+1)) (c4-(n2+1)),.string s] U fun e w'=>e=.returned (.int .i64 (idx (y2.drop (n2+1)) s))∧U=w'):=Qaz (fun U hu=>by
        obtain⟨m,rfl⟩:=hu;have hSD:Strs (if c4=n2+1 then some ⟨b5,o5,none⟩else some ⟨b5,o5+(n2+1),none⟩) (y2.drop (n2+1)) w:=by
         by_cases q:c4=n2+1
         ·have:y2.drop (n2+1)=[]:=List.drop_eq_nil_of_le (by omega);rw[this];exact Slc.nil _ _ _ _
         ·rw[if_neg q]
          simpa using Slc.drop hS2 (n2+1)
        have:=zbv _ (c4-(n2+1)) (y2.drop (n2+1)) s (w.drewN m) ((Slc.stable zbh hSD).keep (Keep.drewN _ _ _)).now (by rw[hdl];omega);rw[hdl]at this;exact this)
       have HGE:Hid (decide (0≤idx (y2.drop (n2+1)) s)=hasS (y2.drop (n2+1)) s):=Qaz zf9;have HT:=Qaz ht;have HJ:=Qaz hjl;clear ht hdl hn2;cases hh:hasS (y2.drop (n2+1)) s with
       |true=>
        have t3:decide (idx (y2.drop (n2+1)) s<0)=false:=Qgz (by have:=of_decide_eq_true (HGE.out.trans hh);omega);have HB:Hid (zb7 D s=false):=Qaz (zhg (Qdz HZ2.out) (by rw[HT.out];exact hh));generalize idx (y2.drop (n2+1)) s=ix at HIX t3;clear hh HGE;go_wp2_with (fail)
        go_quiet ((go_at_call 97;exact(HIX.out _ (by first|exact Drw.of _ _|exact(Drw.of _ _).drewN _)).mono fun _ _ ⟨a,b⟩=>⟨a,_,b.symm⟩))
        go_wp2;go_roundw
        case rel=>exact⟨j+1,HJ.out,by go_num,⟨false,rfl,.inr ⟨rfl,HB.out⟩⟩,Drw.of _ _⟩
        case measure=>have:=HJ.out;simp[intOf];omega
       |false=>
        have t3:decide (idx (y2.drop (n2+1)) s<0)=true:=Qhz (by have:=of_decide_eq_false (HGE.out.trans hh);omega);have HN:Hid (hasS (y2.drop n2).tail s=false):=Qaz (by rw[HT.out];exact hh);generalize idx (y2.drop (n2+1)) s=ix at HIX t3;clear hh HGE;go_wp2_with (fail)
        go_quiet ((go_at_call 97;exact(HIX.out _ (by first|exact Drw.of _ _|exact(Drw.of _ _).drewN _)).mono fun _ _ ⟨a,b⟩=>⟨a,_,b.symm⟩))
        go_wp2;go_roundw
        case rel=>
         refine⟨j+1,HJ.out,by go_num,⟨true,rfl,.inl ⟨rfl,fun i z hi hz=> ?_⟩⟩,Drw.of _ _⟩;rcases Nat.lt_or_ge i j with p|p
         ·exact HGO.out i z p hz
         ·obtain rfl:i=j:=by omega
          rw[HZ2.out]at hz;cases hz;exact HN.out
        case measure=>have:=HJ.out;simp[intOf];omega
     ·obtain rfl:j=L.length:=by omega
      have HG:Hid (zb7 D s=true):=Qaz (zib fun i z hi hz=>HGO.out i z (by have:=DL.out;omega) hz);have HB:=Qaz (zk3 HZ.out (HC.out.trans HG.out) HNO.out);go_wp2;go_ret;exact⟨(by rw[HB.out.1];try rfl),Drw.of _ _⟩
  ·obtain rfl:k=L.length:=by omega
   have HB:=Qaz (zlt (D:=D) (fun j z hz=>HNO.out j z (by have:=(Qcz hz).1;have:=DL.out;omega) hz));go_wp2;go_ret;exact⟨(by rw[HB.out.1];try rfl),Drw.of _ _⟩
end Go.Proofs.YtepnmejahbiacaaGreat
