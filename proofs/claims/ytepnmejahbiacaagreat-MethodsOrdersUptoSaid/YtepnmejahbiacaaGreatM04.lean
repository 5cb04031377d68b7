/- Part 4 of the proof: Cl, C3a, Ba, Bb. -/
import Derived.WalkSpells
import Derived.Test.YtepnmejahbiacaaGreatM02
set_option linter.unusedVariables false
set_option linter.unusedSimpArgs false
set_option maxHeartbeats 64000000
set_option maxRecDepth 100000
namespace Go.Proofs.YtepnmejahbiacaaGreat
open Go.RowKit
theorem info9:(Tryz.prog.info? 9).map (fun i=>(i.zero,i.size,i.bytes))=some (some (.string ⟨#[]⟩),1,16):=by kernel_rfl
theorem zc6(A:Option Addr)(c:Nat)(l:List ByteArray)(G:Nat→Prop)(w:World)(h:Held G (Slc zcz 1 A l) w)(hl:l.length≤1000000):
  Calls Tryz.prog 119 #[.slice A l.length c] w fun e w'=>∃v,e=.returned v∧Own zcz 9 1 w.heap.size G v l w'∧Below w.heap.size w w':=by
 cases A with
 |none=>
  have e:l=[]:=by
   rcases l with _|⟨x,l⟩
   ·rfl
   ·obtain⟨b,off,e⟩:=Slc.addrH h (by simp);cases e
  subst e;have hnil:=fun w=>Lib.run_eql_slice_nil (P:=Tryz.prog) w 108 9 none 0 c 0 0 Tryz.underlying108;go_enter Tryz.func119,Tryz.ntmps119;go_wp2;go_ret;exact⟨_,rfl,Own.nil _ _ _ _ _ _,Below.refl _ _⟩
 |some ad=>
  have hnil:=fun w=>Lib.run_eql_slice_nil (P:=Tryz.prog) w 108 9 (some ad) l.length c 0 0 Tryz.underlying108;go_enter Tryz.func119,Tryz.ntmps119;go_wp2_with (at_builtin;refine zby zcz zkr 9 1 w.heap.size 16 (fun b=>G b∧b<w.heap.size) _ rfl _ _ 108 _ rfl Tryz.underlying108 info9 rfl (by decide) (by decide) (.slice (some ⟨w.heap.size,0,none⟩) 0 0) [] l rfl ?own (some ad) c l.length rfl rfl ?src ?hG ?base ?len ?_)
  case own=>exact Own.empty _ _ _ _ _ _ _ rfl (Qiz _)
  case src=>exact h.lt.keep (Keep.alloc _ _ _)
  case hG=>rintro b ⟨_,hb⟩ e;simp[Value.ownBlock]at e;omega
  case base=>simp
  case len=>simp;omega
  intro v' w1 hown hg _;go_wp2;go_ret;exact⟨_,rfl,(show Own zcz 9 1 w.heap.size (fun b=>G b∧b<w.heap.size) v' l w1 by simpa using hown).mono (fun _ _ h=>h.1),((Below.refl _ w).alloc (Qiz _) _).grown hg (by simp) fun k e=>by simp[Value.ownBlock]at e;omega⟩
theorem zf0:(Tryz.prog.info? 108).map (fun i=>(i.zero,i.size,i.bytes))=some (some (.slice none 0 0),1,24):=by kernel_rfl
theorem zng(A:Option Addr)(c:Nat)(l:List (List ByteArray))(G:Nat→Prop)(w:World)(h:Held G (Slc lstR 1 A l) w)(hl:l.length≤1000000):
  Calls Tryz.prog 213 #[.slice A l.length c] w fun e w'=>∃v,e=.returned v∧Own lstR 108 1 w.heap.size G v l w'∧Below w.heap.size w w':=by
 cases A with
 |none=>
  have e:l=[]:=by
   rcases l with _|⟨x,l⟩
   ·rfl
   ·obtain⟨b,off,e⟩:=Slc.addrH h (by simp);cases e
  subst e;have hnil:=fun w=>Lib.run_eql_slice_nil (P:=Tryz.prog) w 111 108 none 0 c 0 0 Tryz.underlying111;go_enter Tryz.func213,Tryz.ntmps213;go_wp2;go_ret;exact⟨_,rfl,Own.nil _ _ _ _ _ _,Below.refl _ _⟩
 |some ad=>
  have hnil:=fun w=>Lib.run_eql_slice_nil (P:=Tryz.prog) w 111 108 (some ad) l.length c 0 0 Tryz.underlying111;go_enter Tryz.func213,Tryz.ntmps213;go_wp2_with (at_builtin;refine zby lstR zz8 108 1 w.heap.size 24 (fun b=>G b∧b<w.heap.size) _ rfl _ _ 111 _ rfl Tryz.underlying111 zf0 rfl (by decide) (by decide) (.slice (some ⟨w.heap.size,0,none⟩) 0 0) [] l rfl ?own (some ad) c l.length rfl rfl ?src ?hG ?base ?len ?_)
  case own=>exact Own.empty _ _ _ _ _ _ _ rfl (Qiz _)
  case src=>exact h.lt.keep (Keep.alloc _ _ _)
  case hG=>rintro b ⟨_,hb⟩ e;simp[Value.ownBlock]at e;omega
  case base=>simp
  case len=>simp;omega
  intro v' w1 hown hg _;go_wp2;go_ret;exact⟨_,rfl,(show Own lstR 108 1 w.heap.size (fun b=>G b∧b<w.heap.size) v' l w1 by simpa using hown).mono (fun _ _ h=>h.1),((Below.refl _ w).alloc (Qiz _) _).grown hg (by simp) fun k e=>by simp[Value.ownBlock]at e;omega⟩
theorem z1m:(Tryz.prog.info? 110).map (fun i=>(i.zero,i.size,i.bytes))=some (some (.agg #[.string ⟨#[]⟩,.string ⟨#[]⟩,.slice none 0 0,.slice none 0 0,.bool false,.bool false]),6,88):=by kernel_rfl
theorem zm3(A:Option Addr)(c:Nat)(l:List CI)(G:Nat→Prop)(w:World)(h:Held G (Slc ciR 6 A l) w)(hl:l.length≤1000000):
  Calls Tryz.prog 117 #[.slice A l.length c] w fun e w'=>∃v,e=.returned v∧Own ciR 110 6 w.heap.size G v l w'∧Below w.heap.size w w':=by
 cases A with
 |none=>
  have e:l=[]:=by
   rcases l with _|⟨x,l⟩
   ·rfl
   ·obtain⟨b,off,e⟩:=Slc.addrH h (by simp);cases e
  subst e;have hnil:=fun w=>Lib.run_eql_slice_nil (P:=Tryz.prog) w 22 110 none 0 c 0 0 Tryz.underlying22;go_enter Tryz.func117,Tryz.ntmps117;go_wp2;go_ret;exact⟨_,rfl,Own.nil _ _ _ _ _ _,Below.refl _ _⟩
 |some ad=>
  have hnil:=fun w=>Lib.run_eql_slice_nil (P:=Tryz.prog) w 22 110 (some ad) l.length c 0 0 Tryz.underlying22;go_enter Tryz.func117,Tryz.ntmps117;go_wp2_with (at_builtin;refine zby ciR z1t 110 6 w.heap.size 88 (fun b=>G b∧b<w.heap.size) _ rfl _ _ 22 _ rfl Tryz.underlying22 z1m rfl (by decide) (by decide) (.slice (some ⟨w.heap.size,0,none⟩) 0 0) [] l rfl ?own (some ad) c l.length rfl rfl ?src ?hG ?base ?len ?_)
  case own=>exact Own.empty _ _ _ _ _ _ _ rfl (Qiz _)
  case src=>exact h.lt.keep (Keep.alloc _ _ _)
  case hG=>rintro b ⟨_,hb⟩ e;simp[Value.ownBlock]at e;omega
  case base=>simp
  case len=>simp;omega
  intro v' w1 hown hg _;go_wp2;go_ret;exact⟨_,rfl,(show Own ciR 110 6 w.heap.size (fun b=>G b∧b<w.heap.size) v' l w1 by simpa using hown).mono (fun _ _ h=>h.1),((Below.refl _ w).alloc (Qiz _) _).grown hg (by simp) fun k e=>by simp[Value.ownBlock]at e;omega⟩
def zss:Option ByteArray→Value
 |some s=>.tuple #[.string s,.bool true]
 |none=>.tuple #[.string ⟨#[]⟩,.bool false]
theorem zw3{l:List (List ByteArray)}{k:Nat}(hk:l[k]? =some []):zia l (l.drop k)=zia l (l.drop (k+1)):=by
 rw[List.drop_eq_getElem_cons (Qcz hk).1];have:l[k]'(Qcz hk).1=[]:=(Qcz hk).2;rw[this];rfl
theorem zzq{l:List (List ByteArray)}{k:Nat}{s:ByteArray}{t:List ByteArray}(hk:l[k]? =some (s::t))(h:zb7 l s=false):zia l (l.drop k)=zia l (l.drop (k+1)):=by
 rw[List.drop_eq_getElem_cons (Qcz hk).1];have:l[k]'(Qcz hk).1=s::t:=(Qcz hk).2;rw[this];simp[zia,h]
theorem zwt{l:List (List ByteArray)}{k:Nat}{s:ByteArray}{t:List ByteArray}(hk:l[k]? =some (s::t))(h:zb7 l s=true):zia l (l.drop k)=some s:=by
 rw[List.drop_eq_getElem_cons (Qcz hk).1];have:l[k]'(Qcz hk).1=s::t:=(Qcz hk).2;rw[this];simp[zia,h]
theorem zhg{l:List (List ByteArray)}{s:ByteArray}{y:List ByteArray}(hy:y∈l)(h:hasS y.tail s=true):zb7 l s=false:=by
 unfold zb7;rw[List.all_eq_false];exact⟨y,hy,by simp[h]⟩
theorem zib{l:List (List ByteArray)}{s:ByteArray}(h:∀j y,j<l.length→l[j]? =some y→hasS y.tail s=false):zb7 l s=true:=by
 unfold zb7;rw[List.all_eq_true]
 intro y hy;obtain⟨j,hj,rfl⟩:=List.getElem_of_mem hy;rw[h j _ hj (Qbz hj)];rfl
theorem zma(A:Option Addr)(c:Nat)(l:List (List ByteArray))(w:World)(h:Lsts A l w)(hl:l.length≤1000000)(hll:∀x∈l,x.length≤1000000):
  Calls Tryz.prog 216 #[.slice A l.length c] w fun e w'=>e=.returned (zss (zia l l))∧Drw w w':=by
 have H:=Slc.stable zfs h;go_enter Tryz.func216,Tryz.ntmps216;go_wp2
 go_step3
 go_wp2
 go_step3
 go_wp2
 go_loopw [10] (fun i wr=>∃k:Nat,k≤l.length∧i=.int .i64 k∧zia l l=zia l (l.drop k)∧Drw w wr) (fun i _=>l.length-(intOf i).toNat)
 case atStart=>exact⟨0,Qjz _,rfl,rfl,Drw.refl _⟩
 case round=>
  obtain⟨k,hk,rfl,hc,hd⟩:=hrel;obtain⟨n,rfl⟩:=hd;have HC:=Qaz hc;clear hc;by_cases hlt:k<l.length
  ·obtain⟨b,off,rfl⟩:=h.addr (by omega);have HX:=Qaz (getElem?_lt hlt);have hxl:=hll _ (List.getElem_mem hlt);generalize l[k]=x at*;obtain⟨A1,c1,r1,R1,g1⟩:=Lsts.atH H HX.out;cases x with
   |nil=>
    have t1:((([]:List ByteArray).length:Int)==0)=true:=rfl;go_wp2;go_roundw
    case rel=>exact⟨k+1,by omega,by go_num,HC.out.trans (zw3 HX.out),Drw.of _ _⟩
    case measure=>simp[intOf];omega
   |cons s t=>
    have t1:((t.length:Int)+1==0)=false:=Qfz (by omega);obtain⟨b1,o1,rfl⟩:=Slc.addrH R1 (by simp);have g2:=Strs.at (k:=0) R1.now rfl;rw[Nat.add_zero]at g2;clear R1;simp only[List.length_cons]at*;go_wp2
    go_loopw [19] (fun i wr=>∃j:Nat,j≤l.length∧i=.int .i64 j∧(∀i y,i<j→l[i]? =some y→hasS y.tail s=false)∧Drw w wr) (fun i _=>l.length-(intOf i).toNat)
    case atStart=>exact⟨0,Qjz _,rfl,fun i y h=>absurd h (by omega),Drw.of _ _⟩
    case round=>
     obtain⟨j,hj,rfl,hg,hd⟩:=hrel;obtain⟨n',rfl⟩:=hd;have HG:=Qaz hg;clear hg;by_cases hjl:j<l.length
     ·have HY:=Qaz (getElem?_lt hjl);have hyl:=hll _ (List.getElem_mem hjl);generalize l[j]=y at*;obtain⟨A2,c2,r2,R2,g3⟩:=Lsts.atH H HY.out;cases y with
      |nil=>
       have t2:decide ((0:Int)<0)=false:=rfl;go_wp2
       go_quiet (fail)
       go_wp2;go_roundw
       case rel=>
        refine⟨j+1,by omega,by go_num,fun i z hi hz=> ?_,Drw.of _ _⟩;rcases Nat.lt_or_ge i j with hij|hij
        ·exact HG.out i z hij hz
        ·obtain rfl:i=j:=by omega
         rw[HY.out]at hz;cases hz;rfl
       case measure=>simp[intOf];omega
      |cons y0 y1=>
       obtain⟨b2,o2,rfl⟩:=Slc.addrH R2 (by simp);have S2:=Slc.drop R2.now 1;simp only[List.drop_one,List.tail_cons,Nat.mul_one]at S2;have t2:decide ((0:Int)<(y1.length:Int)+1)=true:=by simp
       have K1:∀W A3 c3,Drw w W→Strs A3 y1 W→Calls Tryz.prog 175 #[.slice A3 y1.length c3,.string s] W fun e w'=>e=.returned (.bool (hasS y1 s))∧w'=W:=fun W A3 c3 _ hA=>(zcl A3 c3 y1 s W hA (by simp at hyl;omega)).mono fun _ _ ⟨a,b⟩=>⟨a,b.symm⟩;have HK:=Qaz K1;clear K1 R2;simp only[List.length_cons]at*;have hcont:hasS y1 s=true→zb7 l s=false:=fun hh=>zhg (Qdz HY.out) hh;rcases Nat.lt_or_ge 1 c2 with hc2|hc2
       ·have hc3:¬c2=1:=by omega
        have hc4:(1:Int)≤(y1.length:Int)+1:=by omega
        cases hb:hasS y1 s with
        |true=>
         have HQ:=Qaz (hcont hb);clear hcont;go_wp2
         go_quiet ((go_at_call 175;exact(HK.out _ _ _ (Drw.of _ _) S2).mono fun _ _ ⟨a,b⟩=>⟨a,_,b⟩))
         go_wp2;go_roundw
         case rel=>exact⟨k+1,by omega,by go_num,HC.out.trans (zzq HX.out HQ.out),by first|exact Drw.of _ _|exact(Drw.of _ _).drewN _⟩
         case measure=>simp[intOf];omega
        |false=>
         have HQ:=Qaz hb;clear hcont;go_wp2
         go_quiet ((go_at_call 175;exact(HK.out _ _ _ (Drw.of _ _) S2).mono fun _ _ ⟨a,b⟩=>⟨a,_,b⟩))
         go_wp2;go_roundw
         case rel=>
          refine⟨j+1,by omega,by go_num,fun i z hi hz=> ?_,by first|exact Drw.of _ _|exact(Drw.of _ _).drewN _⟩;rcases Nat.lt_or_ge i j with hij|hij
          ·exact HG.out i z hij hz
          ·obtain rfl:i=j:=by omega
           rw[HY.out]at hz;cases hz;exact HQ.out
         case measure=>simp[intOf];omega
       ·obtain rfl:y1=[]:=List.length_eq_zero_iff.1 (by omega);obtain rfl:c2=1:=by simp at r2;omega
        have S3:Strs (some ⟨b2,o2,none⟩) [] w:=Slc.nil _ _ _ _;clear hcont;simp only[List.length_nil,Nat.zero_add]at*;go_wp2
        go_quiet ((go_at_call 175;exact(HK.out _ _ _ (Drw.of _ _) S3).mono fun _ _ ⟨a,b⟩=>⟨a,_,b⟩))
        go_wp2;go_roundw
        case rel=>
         refine⟨j+1,by omega,by go_num,fun i z hi hz=> ?_,by first|exact Drw.of _ _|exact(Drw.of _ _).drewN _⟩;rcases Nat.lt_or_ge i j with hij|hij
         ·exact HG.out i z hij hz
         ·obtain rfl:i=j:=by omega
          rw[HY.out]at hz;cases hz;rfl
        case measure=>simp[intOf];omega
     ·obtain rfl:j=l.length:=by omega
      have HQ:=Qaz (zwt HX.out (zib fun i y hi hy=>HG.out i y hi hy));go_wp2;rw[Exit.noGoto_ret];go_ret2;exact⟨z3j (by rw[HC.out,HQ.out];rfl),Drw.of _ _⟩
  ·obtain rfl:k=l.length:=by omega
   go_wp2;rw[Exit.noGoto_ret];go_ret2;exact⟨z3j (by rw[HC.out,List.drop_length];rfl),Drw.of _ _⟩
theorem zoa(A:Option Addr)(n c:Nat)(w:World)(hn:n≤1000000):Calls Tryz.prog 215 #[.slice A n c] w fun e w'=>e=.returned (.bool (decide (0<n)))∧w=w':=by
 go_enter Tryz.func215,Tryz.ntmps215;go_wp2;go_ret;exact⟨zge (by simp),rfl⟩
theorem zmx:∀args w,(callFunc 215 args).run Tryz.prog w=.ok (.enter 215 args) w:=enters Tryz.func215 (by kernel_rfl) rfl
theorem zpk(A:Option Addr)(c:Nat)(l:List (List ByteArray))(w:World)(h:Lsts A l w)(hl:l.length≤1000000)(hll:∀x∈l,x.length≤1000000):
  Calls Tryz.prog 214 #[.slice A l.length c,.func (.func 215) #[] #[]] w fun e w'=>e=.returned (.bool (zb0 l))∧w=w':=by
 have H:=Slc.stable zfs h;have hc:∀i:Nat,∃v:Value,∀x,l[i]? =some x→∃A1 c1,v=.slice A1 x.length c1∧∀b off,A=some ⟨b,off,none⟩→w.cell? ⟨b,off+i,none⟩=some v:=by
  intro i;by_cases hi:i<l.length
  ·obtain⟨b,off,rfl⟩:=h.addr (by omega);obtain⟨A1,c1,r1,R1,g1⟩:=Lsts.atH H (getElem?_lt hi);refine⟨.slice A1 l[i].length c1,fun x hx=> ?_⟩;rw[getElem?_lt hi]at hx;cases hx
   exact⟨A1,c1,rfl,fun b' off' e=>by cases e;exact g1⟩
  ·exact⟨.nilFunc,fun x hx=>by rw[List.getElem?_eq_none (by omega)]at hx;cases hx⟩
 obtain⟨v,hv⟩:=Classical.axiomOfChoice hc;refine(zml A l.length c 215 #[] v w (by omega) zmx (fun i wr=>(∀j x,j<i→l[j]? =some x→x=[])∧wr=w) (fun i wr=>(∃x,l[i]? =some x∧x≠[])∧wr=w) (fun _ _=>False)
  ⟨fun j x hj=>absurd hj (by omega),rfl⟩ (fun hn=>h.addr hn) (fun i wr b off e hi hJ=> ?_) (fun i wr hi hJ=> ?_)).mono ?_
 ·obtain⟨_,rfl⟩:=hJ;obtain⟨_,_,_,g⟩:=hv i _ (getElem?_lt hi);exact g b off e
 ·obtain⟨h0,rfl⟩:=hJ;obtain⟨A1,c1,e,_⟩:=hv i _ (getElem?_lt hi);rw[e];refine(zoa A1 _ c1 wr (hll _ (List.getElem_mem hi))).mono ?_;rintro e w' ⟨rfl,rfl⟩;by_cases hx:l[i]=[]
  ·refine .inl ⟨zge (by rw[hx];rfl),fun j x hj hjx=> ?_,rfl⟩;rcases Nat.lt_or_ge j i with h|h
   ·exact h0 j x h hjx
   ·obtain rfl:j=i:=by omega
    rw[getElem?_lt hi]at hjx;cases hjx;exact hx
  ·exact .inr (.inl ⟨zge (by simpa[List.length_pos_iff]using hx),⟨_,getElem?_lt hi,hx⟩,rfl⟩)
 ·rintro e w' (⟨rfl,hJ,rfl⟩|⟨i,hi,rfl,⟨x,hx,hne⟩,rfl⟩|⟨ch,rfl,hX⟩)
  ·refine⟨zge (Eq.symm ?_),rfl⟩;unfold zb0;rw[List.any_eq_false]
   intro x hx;obtain⟨j,hj,rfl⟩:=List.getElem_of_mem hx;rw[hJ j _ hj (getElem?_lt hj)];simp
  ·refine⟨zge (Eq.symm ?_),rfl⟩;unfold zb0;rw[List.any_eq_true]
   exact⟨x,Qdz hx,by cases x<;>simp_all⟩
  ·exact hX.elim
def zvm(T:Nat)(l:List (List ByteArray))(w:World)(e:Ending)(w':World):Prop:=
 (merge l=none∧e=.returned (.tuple #[.slice none 0 0,.bool false])∧Below w.heap.size w w')∨
 (∃out v,merge l=some out∧e=.returned (.tuple #[v,.bool true])∧Own zcz T 1 w.heap.size (fun _=>False) v out w'∧Below w.heap.size w w')
theorem Own.addr{α:Type}{R:α→List Value→World→Prop}{T sz base:Nat}{G:Nat→Prop}{v:Value}{l:List α}{w:World}(h:Own R T sz base G v l w)(hl:0<l.length):
  ∃g c,v=.slice (some ⟨g,0,none⟩) l.length c∧base≤g∧g<w.heap.size∧l.length≤c:=by
 obtain⟨xs,⟨_,h2⟩,he⟩:=h;rcases h2 with⟨rfl,h0⟩|⟨g',cap,cur,rfl,hg,hh,hn,hm,hs,ht⟩
 ·omega
 ·exact⟨g',cap,rfl,hg,(Array.getElem?_eq_some_iff.1 hh).1,hn⟩
theorem zfi(s:ByteArray)(l:List (List ByteArray)):(rm s l).length=l.length:=by simp[rm]
theorem z1f{s:ByteArray}{l:List (List ByteArray)}{i:Nat}{x:List ByteArray}(hx:l[i]? =some x):(rm s l).take (i+1)++l.drop (i+1)=((rm s l).take i++l.drop i).set i (rm1 s x):=by
 have hi:i<l.length:=(Qcz hx).1;have hr:(rm s l)[i]? =some (rm1 s x):=by unfold rm;rw[List.getElem?_map,hx];rfl
 rw[Go.Proofs.YtepnmejahbiacaaGreat.take_snoc hr,List.set_append_right _ _ (by rw[List.length_take,zfi];omega)];rw[List.length_take,zfi,Nat.min_eq_left (by omega),Nat.sub_self,List.drop_eq_getElem_cons hi];simp only[List.set_cons_zero,List.append_assoc,List.singleton_append]
theorem z1y{s:ByteArray}{l:List (List ByteArray)}{i:Nat}{x:List ByteArray}(hx:l[i]? =some x):((rm s l).take i++l.drop i)[i]? =some x:=by
 have hi:i<l.length:=(Qcz hx).1;rw[List.getElem?_append_right (by rw[List.length_take,zfi];omega),List.length_take,zfi,Nat.min_eq_left (by omega),Nat.sub_self,List.getElem?_drop];exact hx
theorem zvq{s:ByteArray}{l:List (List ByteArray)}{i:Nat}(hi:i≤l.length):((rm s l).take i++l.drop i).length=l.length:=by simp[zfi];omega
theorem z0c{s:ByteArray}{l:List (List ByteArray)}{N:Nat}(h:∀x∈l,x.length≤N):∀x∈rm s l,x.length≤N:=by
 intro x hx;unfold rm at hx;rw[List.mem_map]at hx
 obtain⟨y,hy,rfl⟩:=hx;exact Nat.le_trans (zx3 s y) (h y hy)
theorem zqs(A:Option Addr)(c:Nat)(l:List (List ByteArray))(G:Nat→Prop)(w:World)(h:Held G (Lsts A l) w)(hl:l.length≤1000000)(hll:∀x∈l,x.length≤1000000)(htot:total l≤1000000):
  Calls Tryz.prog 202 #[.slice A l.length c] w (zvm 9 l w):=by
 have HCl:=Qaz (zng A c l (fun b=>G b∧b<w.heap.size) w h.lt hl);obtain⟨tot,ht0⟩:∃n,n=total l:=⟨_,rfl⟩;clear h;go_enter Tryz.func202,Tryz.ntmps202;go_wp2_with (fail);refine HCl.out.mono ?_;rintro e w1 ⟨v,rfl,hown,hb⟩;clear HCl;obtain⟨A1,c1,rfl,hc1,_⟩:=hown.out;go_wp2
 go_loopg [4] (total l) (fun gk vo wr=>∃cur done,total cur=gk∧Own lstR 108 1 w.heap.size (fun b=>G b∧b<w.heap.size) (.slice A1 l.length c1) cur wr∧Own zcz 9 1 w.heap.size (fun _=>False) vo done wr∧
  (∀k,(Value.slice A1 l.length c1).ownBlock=some k→vo.ownBlock≠some k)∧merge l=(merge cur).map (done++ ·)∧total cur+done.length≤total l∧(∀x∈cur,x.length≤1000000)∧Below w.heap.size w wr)
 case atStart=>exact⟨l,[],rfl,hown,Own.nil _ _ _ _ _ _,(fun k _ e=>by cases e),(by cases merge l<;>rfl),Qiz _,hll,hb⟩
 case round=>
  clear hown hb hll;obtain⟨cur,done,hgk,hv,ho,hne,hm,htt,hcb,hbr⟩:=hrel;obtain⟨hcl,_,S2⟩:=hv.read;have HM:=Qaz hm;have HCL:=Qaz hcl;have HGK:=Qaz hgk;clear hm hgk;have HA:=Qaz (fun W (hk:Keep (fun _=>True) wr W)=>zpk A1 c1 cur W (S2.mono (fun _ _ _=>trivial) W hk) (by omega) hcb);have HD:=Qaz (fun W (hk:Keep (fun _=>True) wr W)=>zma A1 c1 cur W (S2.mono (fun _ _ _=>trivial) W hk) (by omega) hcb);rw[←hcl]at HA HD;clear hcl;cases ha:zb0 cur with
  |false=>
   have HR:=Qaz (zhb ha);go_wp2_with (go_at_call 214;refine(HA.out _ (Keep.refl _ _)).mono ?_;rintro e w2 ⟨rfl,rfl⟩);go_ret2;exact .inr ⟨done,_,by rw[HM.out,HR.out];simp,rfl,ho,hbr⟩
  |true=>
   cases hc:zia cur cur with
   |none=>
    have HR:=Qaz (zfo ha hc);go_wp2_with (first|(go_at_call 214;refine(HA.out _ (Keep.refl _ _)).mono ?_;rintro e w2 ⟨rfl,rfl⟩)|(go_at_call 216;refine(HD.out _ (Keep.refl _ _)).mono ?_;rintro e w2 ⟨rfl,n,rfl⟩;rw[hc];unfold zss));go_ret2;exact .inl ⟨by rw[HM.out,HR.out];rfl,rfl,hbr.trans (zad _ _ _)⟩
   |some s=>
    have HR:=Qaz (zg8 ha hc);have HLT:=Qaz (show total (rm s cur)<gk∧total (rm s cur)+(done++[s]).length≤total l by
     obtain⟨t,ht,_⟩:=ziw hc;have:=zdv ht;have:=HGK.out;simp;omega)
    go_wp2_with (first|(go_at_call 214;refine(HA.out _ (Keep.refl _ _)).mono ?_;rintro e w2 ⟨rfl,rfl⟩)|(go_at_call 216;refine(HD.out _ (Keep.refl _ _)).mono ?_;rintro e w2 ⟨rfl,n,rfl⟩;rw[hc];unfold zss)|(at_builtin;refine zao zcz 9 1 w.heap.size 16 (fun _=>False) _ rfl _ _ 108 _ rfl Tryz.underlying108 info9 rfl (by decide) (by decide) _ done rfl ?own ⟨_,0,none⟩ 1 rfl s [.string s] rfl ?cells ?one ?held ?hG ?base ?len ?_))
    case own=>exact(ho.drewN _).alloc _
    case cells=>exact zaq _ _ _ _ (by simp)
    case one=>simp[Value.oneCell']
    case held=>exact fun _ _=>rfl
    case hG=>exact fun _ h=>h.elim
    case base=>have:=hbr.size;simp;omega
    case len=>omega
    intro vo w3 ho3 hg3 hat3;have hb3:Below w.heap.size w w3:=((hbr.trans (zad _ _ _)).alloc (by have:=hbr.size;simp;omega) _).grown hg3 (by have:=hbr.size;simp;omega) fun k' e=>(ho.lt _ e).1;have hv3:Own lstR 108 1 w.heap.size (fun b=>G b∧b<w.heap.size) (.slice A1 l.length c1) cur w3:=
     ((hv.drewN n).alloc _).keep (Keep.grown hg3 fun b hb e=>absurd (ho.lt b e.symm).1 (by omega)) fun k hk=>hg3.block k (by have:=(hv.lt k hk).2;simp;omega) fun e=>hne k hk e.symm
    have hne3:∀k,(Value.slice A1 l.length c1).ownBlock=some k→vo.ownBlock≠some k:=fun k hk e=>by
     rcases hat3 with h|h
     ·exact hne k hk (h.symm.trans e)
     ·rw[h]at e;have:=(hv.lt k hk).2;simp at e;omega
    clear hg3 hat3 ho hv hne S2 HA HD hbr ha hc;go_wp2
    go_loopw [26] (fun i wx=>∃k:Nat,k≤l.length∧i=.int .i64 k∧Own lstR 108 1 w.heap.size (fun b=>G b∧b<w.heap.size) (.slice A1 l.length c1) ((rm s cur).take k++cur.drop k) wx∧
     Own zcz 9 1 w.heap.size (fun _=>False) vo (done++[s]) wx∧Below w.heap.size w wx) (fun i _=>l.length-(intOf i).toNat)
    case atStart=>exact⟨0,Qjz _,rfl,by simpa using hv3,ho3,hb3⟩
    case round=>
     clear hv3 ho3 hb3;obtain⟨k,hk,rfl,hv,ho,hb⟩:=hrel;by_cases hlt:k<l.length
     ·have HX:=Qaz (getElem?_lt (l:=cur) (k:=k) (by have:=HCL.out;omega));have hxb:=hcb _ (List.getElem_mem (l:=cur) (n:=k) (by have:=HCL.out;omega));generalize cur[k]'(by have:=HCL.out;omega)=x at*;have HMG:=Qaz (z1y (s:=s) HX.out);have HRT:=Qaz (z1f (s:=s) HX.out);obtain⟨g,cc,hve,hg1,hg2,_⟩:=hv.addr (by rw[zvq (by have:=HCL.out;omega)];have:=HCL.out;omega);simp only[Value.slice.injEq]at hve;obtain⟨rfl,hve2,rfl⟩:=hve;clear hve2;obtain⟨A2,c2,r2,R2,g3,g4⟩:=OwnLst.at hv HMG.out
      have hstep:∀W x',Own lstR 108 1 w.heap.size (fun b=>G b∧b<w.heap.size) (.slice (some ⟨g,0,none⟩) l.length c1) (((rm s cur).take k++cur.drop k).set k x') W→rm1 s x=x'→
       Own lstR 108 1 w.heap.size (fun b=>G b∧b<w.heap.size) (.slice (some ⟨g,0,none⟩) l.length c1) ((rm s cur).take (k+1)++cur.drop (k+1)) W:=fun W x' hh e=>by rw[HRT.out,e];exact hh
      have hsame:Own lstR 108 1 w.heap.size (fun b=>G b∧b<w.heap.size) (.slice (some ⟨g,0,none⟩) l.length c1) (((rm s cur).take k++cur.drop k).set k x) wr:=by
       rw[zkp HMG.out];exact hv
      have HV:=Qaz hv;clear hv;cases x with
      |nil=>
       have t2:decide ((0:Int)<0)=false:=rfl;go_wp2;go_roundw
       case rel=>exact⟨k+1,by omega,by go_num,hstep _ _ hsame rfl,ho,hb⟩
       case measure=>simp[intOf];omega
      |cons x0 x1=>
       obtain⟨b2,o2,rfl⟩:=Slc.addrH R2 (by simp);have g5:=Strs.at (k:=0) R2.now rfl;rw[Nat.add_zero]at g5;have R3:=Strs.tail R2;have hlt2:=cell_lt g5;simp only[List.length_cons]at*;have t2:decide ((0:Int)<(x1.length:Int)+1)=true:=by simp
       by_cases hs:x0=s
       ·have hrm:rm1 s (x0::x1)=x1:=by simp[rm1,hs]
        subst hs;have HRM:=Qaz hrm;clear hrm R2 hsame;rcases Nat.lt_or_ge 1 c2 with hc2|hc2
        ·have hc3:¬c2=1:=by omega
         have hc4:(1:Int)≤(x1.length:Int)+1:=by omega
         have hst:=Qaz (OwnLst.store HV.out HMG.out (x':=x1) (u:=.slice (some ⟨b2,o2+1,none⟩) x1.length (c2-1)) (fun b hb e=>by omega) (lstR.mk (by omega) R3));go_wp2;go_roundw
         case rel=>exact⟨k+1,by omega,by go_num,hstep _ _ hst.out HRM.out,ho.setCell (fun _ h=>h.elim) (fun e=>hne3 g rfl e) _,hb.setCell hg1 _⟩
         case measure=>simp[intOf];omega
        ·obtain rfl:x1=[]:=List.length_eq_zero_iff.1 (by omega);obtain rfl:c2=1:=by simp at r2;omega
         have hst:=Qaz (OwnLst.store HV.out HMG.out (x':=[]) (u:=.slice (some ⟨b2,o2,none⟩) 0 0) (fun b hb e=>by omega) (fun _ _=>⟨_,_,rfl,Qiz _,Slc.nil _ _ _ _⟩));simp only[List.length_nil,Nat.zero_add]at*;go_wp2;go_roundw
         case rel=>exact⟨k+1,by omega,by go_num,hstep _ _ hst.out HRM.out,ho.setCell (fun _ h=>h.elim) (fun e=>hne3 g rfl e) _,hb.setCell hg1 _⟩
         case measure=>simp[intOf];omega
       ·have HRM:=Qaz (show rm1 s (x0::x1)=x0::x1 by simp[rm1,hs]);go_wp2;go_roundw
        case rel=>exact⟨k+1,by omega,by go_num,hstep _ _ hsame HRM.out,ho,hb⟩
        case measure=>simp[intOf];omega
     ·obtain rfl:k=l.length:=by omega
      have e1:(rm s cur).take l.length++cur.drop l.length=rm s cur:=by
       rw[HCL.out,List.drop_length,List.append_nil,List.take_of_length_le (by rw[zfi];exact Qiz _)]
      have HE:=Qaz e1;rw[e1]at hv;clear e1;have hlt':total (rm s cur)<gk∧total (rm s cur)+(done++[s]).length≤total l:=HLT.out;go_wp2
      go_roundg (total (rm s cur))
      case measure=>exact hlt'.1
      case rel=>exact⟨rm s cur,done++[s],rfl,hv,ho,hne3,by rw[HM.out,HR.out];cases merge (rm s cur)<;>simp,hlt'.2,z0c hcb,hb⟩
theorem zat{W:World}{o:Obj}{a:Addr}{v:Value}(h:W.cell? a=some v):(W.alloc o).cell? a=some v:=zaa h ((Below.refl _ _).alloc (Qiz _) _)
theorem zcx{W:World}{o:Obj}{a:Addr}{v:Value}(h:W.cell? a=some v)(hf:W.frozen? a=false):(W.alloc o).frozen? a=false:=(World.frozen?_of_block (Below.heap_alloc _ _ _ (cell_lt h))).trans hf
theorem Own.many{α:Type}{R:α→List Value→World→Prop}{T sz base:Nat}{G:Nat→Prop}{w:World}{n:Nat}(hn:n=w.heap.size)(hb:base≤n){l:List α}{xs:List Value}(hs:0<sz)(hll:l.length≤1000000)(hx:Enc (fun x cs=>Held G (R x cs) w) sz l xs):
  Own R T sz base G (.slice (some ⟨n,0,none⟩) l.length l.length) l (w.alloc (.cells xs.toArray T)):=by
 subst hn;refine⟨xs,⟨by simp[hx.length],.inr ⟨_,l.length,xs.toArray,rfl,hb,heap_alloc_new w _,Qiz _,by simp[maxLen];omega,by simp[hx.length],by simp[←hx.length]⟩⟩,hx.imp fun x cs h=>h.keep (Keep.alloc _ _ _)⟩
theorem Strs.lit(G:Nat→Prop)(w:World)(l:List ByteArray)(T:Nat)(hg:G w.heap.size):Held G (Strs (some ⟨w.heap.size,0,none⟩) l) (w.alloc (.cells (l.map Value.string).toArray T)):=by
 refine Slc.held (fun i x hx=>⟨_,0,[.string x],rfl,rfl,fun _ _=>rfl,fun j v hv=> ?_⟩) (fun b off _ e=>by cases e;exact hg);cases j with
 |zero=>
  simp at hv;subst hv;exact zac w _ _ _ rfl _ _ (by simp[hx])
 |succ j=>simp at hv
theorem zsk{T base:Nat}{G G':Nat→Prop}{v:Value}{l:List ByteArray}{w:World}(h:Own zcz T 1 base G v l w):Own zcz T 1 base G' v l w:=by
 obtain⟨xs,h1,h2⟩:=h;exact⟨xs,h1,h2.imp fun _ _ hx=>fun _ _=>hx.now⟩
def zcd(name:ByteArray)(above:List ByteArray):CI:=⟨name,⟨#[]⟩,above.take 1,name::above,false,false⟩
theorem znv(name:ByteArray)(A:Option Addr)(c:Nat)(above:List ByteArray)(hc:above.length≤c)(G:Nat→Prop)(w:World)(h:Held G (Strs A above) w)(hl:above.length≤1000000):
  Calls Tryz.prog 120 #[.string name,.slice A above.length c] w fun e w'=>
   ∃A2 c2 A3 c3,e=.returned (.agg #[.string name,.string ⟨#[]⟩,.slice A2 (zcd name above).supers.length c2,.slice A3 (zcd name above).cpl.length c3,.bool false,.bool false])∧
    Held (fun b=>G b∨(w.heap.size≤b∧b<w'.heap.size)) (ciR (zcd name above) [.string name,.string ⟨#[]⟩,.slice A2 (zcd name above).supers.length c2,.slice A3 (zcd name above).cpl.length c3,.bool false,.bool false]) w'∧Below w.heap.size w w':=by
 go_enter Tryz.func120,Tryz.ntmps120;obtain⟨W1,hW1⟩:∃W1,W1=w.alloc (.cells #[.string ⟨#[]⟩,.string ⟨#[]⟩,.slice none 0 0,.slice none 0 0,.bool false,.bool false] 110):=⟨_,rfl⟩;have hs1:W1.heap.size=w.heap.size+1:=by rw[hW1];simp
 have b1:Below w.heap.size w W1:=by rw[hW1];exact(Below.refl _ w).alloc (Qiz _) _
 have x0:∀j u,[Value.string ⟨#[]⟩,.string ⟨#[]⟩,.slice none 0 0,.slice none 0 0,.bool false,.bool false][j]? =some u→W1.cell? ⟨w.heap.size,j,none⟩=some u∧W1.frozen? ⟨w.heap.size,j,none⟩=false:=fun j u hj=>by
  rw[hW1];exact⟨zac w _ _ _ rfl j u hj,by unfold World.frozen?;rw[heap_alloc_new];simp⟩
 have hA1:=h.keep (Keep.all (G:=G) b1);go_wp2_with (at_builtin;refine Classical.byContradiction fun hneg=> ?_);apply hneg;clear hneg;rw[←hW1];refine zby zcz zkr 9 1 (w.heap.size+1) 16 (fun b=>G b∧b<W1.heap.size) _ rfl _ _ 108 _ rfl Tryz.underlying108 info9 rfl (by decide) (by decide) (.slice (some ⟨w.heap.size+1,0,none⟩) 1 1) [name] above rfl (Own.single hs1.symm (Qiz _) rfl (by decide) (fun _ _=>rfl)) A c above.length rfl rfl ?src ?hG ?base ?len ?_
 case src=>exact hA1.lt.keep (Keep.alloc _ _ _)
 case hG=>rintro b ⟨_,hb⟩ e;simp[Value.ownBlock]at e;omega
 case base=>simp;omega
 case len=>simp;omega
 intro v' w3 hown hg hat;obtain⟨A3,c3,rfl,n1,n2⟩:=hown.out;have hb3:Below W1.heap.size W1 w3:=((Below.refl _ _).alloc (Qiz _) _).grown hg (by simp) (fun k e=>by simp[Value.ownBlock]at e;omega)
 have y0:∀j u,[Value.string ⟨#[]⟩,.string ⟨#[]⟩,.slice none 0 0,.slice none 0 0,.bool false,.bool false][j]? =some u→w3.cell? ⟨w.heap.size,j,none⟩=some u∧w3.frozen? ⟨w.heap.size,j,none⟩=false:=fun j u hj=>⟨(World.cell?_of_block (a:=⟨w.heap.size,j,none⟩) (hb3.block w.heap.size (by omega))).trans (x0 j u hj).1,(World.frozen?_of_block (a:=⟨w.heap.size,j,none⟩) (hb3.block w.heap.size (by omega))).trans (x0 j u hj).2⟩;have y00:=fun cs T=>zat (o:=.cells cs T) (y0 0 _ rfl).1;have y01:=fun cs T=>zat (o:=.cells cs T) (y0 1 _ rfl).1;have y02:=fun cs T=>zat (o:=.cells cs T) (y0 2 _ rfl).1
 have y03:=fun cs T=>zat (o:=.cells cs T) (y0 3 _ rfl).1;have y04:=fun cs T=>zat (o:=.cells cs T) (y0 4 _ rfl).1;have y05:=fun cs T=>zat (o:=.cells cs T) (y0 5 _ rfl).1;have f00:=fun cs T=>zcx (o:=.cells cs T) (y0 0 _ rfl).1 (y0 0 _ rfl).2;have f01:=fun cs T=>zcx (o:=.cells cs T) (y0 1 _ rfl).1 (y0 1 _ rfl).2;have f02:=fun cs T=>zcx (o:=.cells cs T) (y0 2 _ rfl).1 (y0 2 _ rfl).2;have f03:=fun cs T=>zcx (o:=.cells cs T) (y0 3 _ rfl).1 (y0 3 _ rfl).2;have f04:=fun cs T=>zcx (o:=.cells cs T) (y0 4 _ rfl).1 (y0 4 _ rfl).2;have f05:=fun cs T=>zcx (o:=.cells cs T) (y0 5 _ rfl).1 (y0 5 _ rfl).2
 have s3:=hb3.size;clear hA1 hW1 x0 y0;by_cases hab:0<above.length
 ·obtain⟨b,off,rfl⟩:=Slc.addrH h hab;go_wp2;refine bodyPost_ret (v:=.agg #[.string name,.string ⟨#[]⟩,.slice (some ⟨b,off,none⟩) 1 1,.slice A3 (above.length+1) c3,.bool false,.bool false]) (by simp[results,Tryz.results120,go_sem,y00,y01,y02,y03,y04,y05]) rfl ?_;have hW:∀(cs:Array Value)(u0 u1 u2 u3 u4 u5:Value),∃Wf,Wf=(((((((w3.alloc (.cells cs 110)).setCell ⟨w.heap.size,0,none⟩ u0).setCell ⟨w.heap.size,1,none⟩ u1).setCell ⟨w.heap.size,2,none⟩ u2).setCell ⟨w.heap.size,3,none⟩ u3).setCell ⟨w.heap.size,4,none⟩ u4).setCell ⟨w.heap.size,5,none⟩ u5)∧
    Below w.heap.size w Wf∧Keep (fun b=>b≠w.heap.size) w3 Wf∧w3.heap.size≤Wf.heap.size:=fun cs u0 u1 u2 u3 u4 u5=>by
   have k:∀(W:World)(j:Nat)(u:Value),Keep (fun b=>b≠w.heap.size) W (W.setCell ⟨w.heap.size,j,none⟩ u):=fun W j u=>Keep.setCell W (p:=⟨w.heap.size,j,none⟩) (fun b hb=>hb) u;have kk:=((((((Keep.alloc (fun b=>b≠w.heap.size) w3 (.cells cs 110)).trans (k _ 0 u0)).trans (k _ 1 u1)).trans (k _ 2 u2)).trans (k _ 3 u3)).trans (k _ 4 u4)).trans (k _ 5 u5);exact⟨_,rfl,(((((((b1.trans (hb3.mono (by omega))).alloc (by omega) _).setCell (Qiz _) _).setCell (Qiz _) _).setCell (Qiz _) _).setCell (Qiz _) _).setCell (Qiz _) _).setCell (Qiz _) _,kk,kk.1⟩
  obtain⟨Wf,hWf,q1,q2,q3⟩:=hW _ _ _ _ _ _ _;rw[←hWf];refine⟨some ⟨b,off,none⟩,1,A3,c3,by simp[zcd];omega,(ciR.mk (x:=zcd name above) ?_ (by first|exact n1|(simp[zcd];simpa using n1)) ?_ ?_),q1⟩
  ·simp[zcd];omega
  ·exact((h.keep (Keep.all q1)).imp fun _ _ q=>Slc.take q 1).mono fun b _ hb=>.inl hb
  ·obtain⟨A3',c3',e,_,hh⟩:=(zsk (G':=fun _=>False) hown).out;cases e;refine(hh.keep (q2.mono fun b hb=> ?_)).mono fun b _ hb=> ?_
   ·rcases hb with hb|hb
    ·exact hb.elim
    ·have:=(hown.lt b hb).1;omega
   ·rcases hb with hb|hb
    ·exact hb.elim
    ·have:=hown.lt b hb;exact .inr ⟨by omega,by omega⟩
 ·go_wp2;refine bodyPost_ret (v:=.agg #[.string name,.string ⟨#[]⟩,.slice none 0 0,.slice A3 (above.length+1) c3,.bool false,.bool false]) (by simp[results,Tryz.results120,go_sem,y00,y01,y02,y03,y04,y05]) rfl ?_;have hW:∀(cs:Array Value)(u0 u1 u2 u3 u4 u5:Value),∃Wf,Wf=(((((((w3.alloc (.cells cs 110)).setCell ⟨w.heap.size,0,none⟩ u0).setCell ⟨w.heap.size,1,none⟩ u1).setCell ⟨w.heap.size,2,none⟩ u2).setCell ⟨w.heap.size,3,none⟩ u3).setCell ⟨w.heap.size,4,none⟩ u4).setCell ⟨w.heap.size,5,none⟩ u5)∧
    Below w.heap.size w Wf∧Keep (fun b=>b≠w.heap.size) w3 Wf∧w3.heap.size≤Wf.heap.size:=fun cs u0 u1 u2 u3 u4 u5=>by
   have k:∀(W:World)(j:Nat)(u:Value),Keep (fun b=>b≠w.heap.size) W (W.setCell ⟨w.heap.size,j,none⟩ u):=fun W j u=>Keep.setCell W (p:=⟨w.heap.size,j,none⟩) (fun b hb=>hb) u;have kk:=((((((Keep.alloc (fun b=>b≠w.heap.size) w3 (.cells cs 110)).trans (k _ 0 u0)).trans (k _ 1 u1)).trans (k _ 2 u2)).trans (k _ 3 u3)).trans (k _ 4 u4)).trans (k _ 5 u5);exact⟨_,rfl,(((((((b1.trans (hb3.mono (by omega))).alloc (by omega) _).setCell (Qiz _) _).setCell (Qiz _) _).setCell (Qiz _) _).setCell (Qiz _) _).setCell (Qiz _) _).setCell (Qiz _) _,kk,kk.1⟩
  obtain⟨Wf,hWf,q1,q2,q3⟩:=hW _ _ _ _ _ _ _;rw[←hWf];refine⟨none,0,A3,c3,by simp[zcd];omega,(ciR.mk (x:=zcd name above) ?_ (by first|exact n1|(simp[zcd];simpa using n1)) ?_ ?_),q1⟩
  ·have e:above=[]:=List.length_eq_zero_iff.1 (by omega);simp[zcd,e]
  ·obtain rfl:above=[]:=List.length_eq_zero_iff.1 (by omega);exact fun _ _=>Slc.nil _ _ _ _
  ·obtain⟨A3',c3',e,_,hh⟩:=(zsk (G':=fun _=>False) hown).out;cases e;refine(hh.keep (q2.mono fun b hb=> ?_)).mono fun b _ hb=> ?_
   ·rcases hb with hb|hb
    ·exact hb.elim
    ·have:=(hown.lt b hb).1;omega
   ·rcases hb with hb|hb
    ·exact hb.elim
    ·have:=hown.lt b hb;exact .inr ⟨by omega,by omega⟩
theorem Own.limit'{α:Type}{R:α→List Value→World→Prop}{T sz base:Nat}{G:Nat→Prop}{v:Value}{l:List α}{w:World}(h:Own R T sz base G v l w):Own R T sz base (fun b=>G b∧b<w.heap.size) v l w:=by
 obtain⟨xs,h1,h2⟩:=h;exact⟨xs,h1,h2.imp fun _ _ hx=>hx.lt⟩
theorem zc4(name:ByteArray)(above:List ByteArray)(W:World){l:List CI}{xs:List Value}(E:Enc (fun x cs=>Held (fun b=>b<W.heap.size) (ciR x cs) W) 6 l xs)(hl:above.length≤1000000):
  Calls Tryz.prog 120 #[.string name,.slice (some ⟨W.heap.size,0,none⟩) above.length above.length] (W.alloc (.cells (above.map Value.string).toArray 9)) fun e w'=>
   ∃A2 n2 c2 A3 n3 c3,e=.returned (.agg #[.string name,.string ⟨#[]⟩,.slice A2 n2 c2,.slice A3 n3 c3,.bool false,.bool false])∧
    Enc (fun x cs=>Held (fun b=>b<w'.heap.size) (ciR x cs) w') 6 (l++[zcd name above]) (xs++[.string name,.string ⟨#[]⟩,.slice A2 n2 c2,.slice A3 n3 c3,.bool false,.bool false])∧Below W.heap.size W w':=by
 refine(znv name _ _ above (Qiz _) (fun b=>b=W.heap.size) _ (Strs.lit _ W above 9 rfl) hl).mono ?_;rintro e w' ⟨A2,c2,A3,c3,rfl,h,hb⟩;have b1:Below W.heap.size W w':=((Below.refl _ W).alloc (Qiz _) _).trans (hb.mono (by simp));have hs:=hb.size;rw[World.size_alloc]at hs;refine⟨A2,_,c2,A3,_,c3,rfl,.snoc (E.imp fun x cs hx=>(hx.keep (Keep.all b1)).mono fun b _ hb=>Nat.lt_of_lt_of_le hb b1.size) (h.mono fun b hb _=>hb) rfl,b1⟩
theorem zwb(name:ByteArray)(W:World):
  Calls Tryz.prog 120 #[.string name,.slice none 0 0] W fun e w'=>
   ∃A2 n2 c2 A3 n3 c3,e=.returned (.agg #[.string name,.string ⟨#[]⟩,.slice A2 n2 c2,.slice A3 n3 c3,.bool false,.bool false])∧
    Enc (fun x cs=>Held (fun b=>b<w'.heap.size) (ciR x cs) w') 6 [zcd name []] [.string name,.string ⟨#[]⟩,.slice A2 n2 c2,.slice A3 n3 c3,.bool false,.bool false]∧Below W.heap.size W w':=by
 refine(znv name none 0 [] (Qiz _) (fun b=>False) W (fun _ _=>Slc.nil _ _ _ _) (by simp)).mono ?_;rintro e w' ⟨A2,c2,A3,c3,rfl,h,hb⟩;exact⟨A2,_,c2,A3,_,c3,rfl,.snoc (l:=[]) (xs:=[]) .nil (h.mono fun b hb _=>hb) rfl,hb⟩
theorem OwnCI.at{T base:Nat}{G:Nat→Prop}{l:List CI}{w:World}{g c n:Nat}(h:Own ciR T 6 base G (.slice (some ⟨g,0,none⟩) n c) l w){i:Nat}{x:CI}(hx:l[i]? =some x):
  ∃A2 c2 A3 c3,x.supers.length≤c2∧x.cpl.length≤c3∧Held G (Strs A2 x.supers) w∧Held G (Strs A3 x.cpl) w∧
   (w.cell? ⟨g,i*6+2,none⟩=some (.slice A2 x.supers.length c2)∧w.frozen? ⟨g,i*6+2,none⟩=false)∧
   (w.cell? ⟨g,i*6+4,none⟩=some (.bool x.abs)∧w.frozen? ⟨g,i*6+4,none⟩=false)∧
   (w.cell? ⟨g,i*6+5,none⟩=some (.bool x.seal_)∧w.frozen? ⟨g,i*6+5,none⟩=false):=by
 obtain⟨cs,_,hr,hc⟩:=h.get hx;obtain⟨A2,c2,A3,c3,rfl,h1,h2,h3,h4⟩:=ciR.openH hr;exact⟨A2,c2,A3,c3,h1,h2,h3,h4,hc 2 _ rfl,hc 4 _ rfl,hc 5 _ rfl⟩
theorem OwnCI.sealing{T base:Nat}{G:Nat→Prop}{l:List CI}{w:World}{g c n:Nat}(h:Own ciR T 6 base G (.slice (some ⟨g,0,none⟩) n c) l w){i:Nat}{x:CI}(hx:l[i]? =some x)(hG:∀b,G b→b≠g)(v:Bool):
  Own ciR T 6 base G (.slice (some ⟨g,0,none⟩) n c) (l.set i { x with seal_:=v }) (w.setCell ⟨g,i*6+5,none⟩ (.bool v)):=
 h.store (j:=5) rfl hx (by decide) hG fun cs _ hr=>by
  obtain⟨A2,c2,A3,c3,rfl,h1,h2,h3,h4⟩:=ciR.openH hr;exact ciR.mk (x:={ x with seal_:=v }) h1 h2 h3 h4
theorem OwnCI.sup{T base:Nat}{G:Nat→Prop}{l:List CI}{w:World}{g c n:Nat}(h:Own ciR T 6 base G (.slice (some ⟨g,0,none⟩) n c) l w){i:Nat}{x:CI}(hx:l[i]? =some x)(hG:∀b,G b→b≠g)(A:Option Addr)(ca:Nat)(hca:x.supers.length≤ca)(hA:Held G (Strs A x.supers) w):
  Own ciR T 6 base G (.slice (some ⟨g,0,none⟩) n c) l (w.setCell ⟨g,i*6+2,none⟩ (.slice A x.supers.length ca)):=by
 have:=h.store (x':=x) (u:=.slice A x.supers.length ca) (j:=2) rfl hx (by decide) hG fun cs _ hr=>by
  obtain⟨A2,c2,A3,c3,rfl,h1,h2,h3,h4⟩:=ciR.openH hr;exact ciR.mk (x:=x) hca h2 hA h4
 rwa [zkp hx]at this
def base0:List CI:=[zcd ⟨#[60,111,98,106,101,99,116,62]⟩ [],
 zcd ⟨#[60,105,110,116,101,103,101,114,62]⟩ [⟨#[60,111,98,106,101,99,116,62]⟩],
 zcd ⟨#[60,98,111,111,108,101,97,110,62]⟩ [⟨#[60,111,98,106,101,99,116,62]⟩],
 zcd ⟨#[60,99,108,97,115,115,62]⟩ [⟨#[60,111,98,106,101,99,116,62]⟩],
 zcd ⟨#[60,102,117,110,99,116,105,111,110,62]⟩ [⟨#[60,111,98,106,101,99,116,62]⟩],
 zcd ⟨#[60,99,111,110,100,105,116,105,111,110,62]⟩ [⟨#[60,111,98,106,101,99,116,62]⟩],
 zcd ⟨#[60,115,101,114,105,111,117,115,45,99,111,110,100,105,116,105,111,110,62]⟩ [⟨#[60,99,111,110,100,105,116,105,111,110,62]⟩,⟨#[60,111,98,106,101,99,116,62]⟩],
 zcd ⟨#[60,119,97,114,110,105,110,103,62]⟩ [⟨#[60,99,111,110,100,105,116,105,111,110,62]⟩,⟨#[60,111,98,106,101,99,116,62]⟩],
 zcd ⟨#[60,114,101,115,116,97,114,116,62]⟩ [⟨#[60,99,111,110,100,105,116,105,111,110,62]⟩,⟨#[60,111,98,106,101,99,116,62]⟩],
 zcd ⟨#[60,101,114,114,111,114,62]⟩ [⟨#[60,115,101,114,105,111,117,115,45,99,111,110,100,105,116,105,111,110,62]⟩,⟨#[60,99,111,110,100,105,116,105,111,110,62]⟩,⟨#[60,111,98,106,101,99,116,62]⟩],
 zcd ⟨#[60,102,97,117,108,116,62]⟩ [⟨#[60,101,114,114,111,114,62]⟩,⟨#[60,115,101,114,105,111,117,115,45,99,111,110,100,105,116,105,111,110,62]⟩,⟨#[60,99,111,110,100,105,116,105,111,110,62]⟩,⟨#[60,111,98,106,101,99,116,62]⟩]]
def zhv:Nat→List CI
 |0=>match base0 with
  |x::r=>{ x with abs:=true }::r
  | []=>[]
 |k+1=>match (zhv k)[1+k]? with
  |some x=>(zhv k).set (1+k) { x with seal_:=true }
  |none=>zhv k
def zbm:List CI:=zhv 4
theorem zev:∀k,(zhv k).length=11
 |0=>rfl
 |k+1=>by
  simp only[zhv]
  split
  ·rw[List.length_set];exact zev k
  ·exact zev k
theorem zwc{k:Nat}{x:CI}(h:(zhv k)[1+k]? =some x):zhv (k+1)=(zhv k).set (1+k) { x with seal_:=true }:=by simp only[zhv,h]
theorem getElem?_lt'{α:Type}{l:List α}{i:Nat}(h:i<l.length):l[i]? =some l[i]:=Qbz h
theorem zn1(w:World):Calls Tryz.prog 76 #[] w fun e w'=>
  ∃v,e=.returned v∧Own ciR 110 6 w.heap.size (fun b=>b<w'.heap.size∧v.ownBlock≠some b) v zbm w'∧Below w.heap.size w w':=by
 go_enter Tryz.func76,Tryz.ntmps76;go_wp2_with (fail);refine(zwb _ _).mono ?_;rintro e W0 ⟨a0,n0,c0,d0,m0,k0,rfl,E0,b0⟩;go_wp2_with (fail);refine(zc4 ⟨#[60,105,110,116,101,103,101,114,62]⟩ [⟨#[60,111,98,106,101,99,116,62]⟩] W0 E0 (by decide)).mono ?_;rintro e W1 ⟨a1,n1,c1,d1,m1,k1,rfl,E1,hb⟩;have b1:=b0.trans (hb.mono b0.size);clear hb b0 E0;go_wp2_with (fail);refine(zc4 ⟨#[60,98,111,111,108,101,97,110,62]⟩ [⟨#[60,111,98,106,101,99,116,62]⟩] W1 E1 (by decide)).mono ?_;rintro e W2 ⟨a2,n2,c2,d2,m2,k2,rfl,E2,hb⟩;have b2:=b1.trans (hb.mono b1.size);clear hb b1 E1;go_wp2_with (fail)
 refine(zc4 ⟨#[60,99,108,97,115,115,62]⟩ [⟨#[60,111,98,106,101,99,116,62]⟩] W2 E2 (by decide)).mono ?_;rintro e W3 ⟨a3,n3,c3,d3,m3,k3,rfl,E3,hb⟩;have b3:=b2.trans (hb.mono b2.size);clear hb b2 E2;go_wp2_with (fail);refine(zc4 ⟨#[60,102,117,110,99,116,105,111,110,62]⟩ [⟨#[60,111,98,106,101,99,116,62]⟩] W3 E3 (by decide)).mono ?_;rintro e W4 ⟨a4,n4,c4,d4,m4,k4,rfl,E4,hb⟩;have b4:=b3.trans (hb.mono b3.size);clear hb b3 E3;go_wp2_with (fail);refine(zc4 ⟨#[60,99,111,110,100,105,116,105,111,110,62]⟩ [⟨#[60,111,98,106,101,99,116,62]⟩] W4 E4 (by decide)).mono ?_
 rintro e W5 ⟨a5,n5,c5,d5,m5,k5,rfl,E5,hb⟩;have b5:=b4.trans (hb.mono b4.size);clear hb b4 E4;go_wp2_with (fail);refine(zc4 ⟨#[60,115,101,114,105,111,117,115,45,99,111,110,100,105,116,105,111,110,62]⟩ [⟨#[60,99,111,110,100,105,116,105,111,110,62]⟩,⟨#[60,111,98,106,101,99,116,62]⟩] W5 E5 (by decide)).mono ?_;rintro e W6 ⟨a6,n6,c6,d6,m6,k6,rfl,E6,hb⟩;have b6:=b5.trans (hb.mono b5.size);clear hb b5 E5;go_wp2_with (fail);refine(zc4 ⟨#[60,119,97,114,110,105,110,103,62]⟩ [⟨#[60,99,111,110,100,105,116,105,111,110,62]⟩,⟨#[60,111,98,106,101,99,116,62]⟩] W6 E6 (by decide)).mono ?_
 rintro e W7 ⟨a7,n7,c7,d7,m7,k7,rfl,E7,hb⟩;have b7:=b6.trans (hb.mono b6.size);clear hb b6 E6;go_wp2_with (fail);refine(zc4 ⟨#[60,114,101,115,116,97,114,116,62]⟩ [⟨#[60,99,111,110,100,105,116,105,111,110,62]⟩,⟨#[60,111,98,106,101,99,116,62]⟩] W7 E7 (by decide)).mono ?_;rintro e W8 ⟨a8,n8,c8,d8,m8,k8,rfl,E8,hb⟩;have b8:=b7.trans (hb.mono b7.size);clear hb b7 E7;go_wp2_with (fail)
 refine(zc4 ⟨#[60,101,114,114,111,114,62]⟩ [⟨#[60,115,101,114,105,111,117,115,45,99,111,110,100,105,116,105,111,110,62]⟩,⟨#[60,99,111,110,100,105,116,105,111,110,62]⟩,⟨#[60,111,98,106,101,99,116,62]⟩] W8 E8 (by decide)).mono ?_;rintro e W9 ⟨a9,n9,c9,d9,m9,k9,rfl,E9,hb⟩;have b9:=b8.trans (hb.mono b8.size);clear hb b8 E8;go_wp2_with (fail);refine(zc4 ⟨#[60,102,97,117,108,116,62]⟩ [⟨#[60,101,114,114,111,114,62]⟩,⟨#[60,115,101,114,105,111,117,115,45,99,111,110,100,105,116,105,111,110,62]⟩,⟨#[60,99,111,110,100,105,116,105,111,110,62]⟩,⟨#[60,111,98,106,101,99,116,62]⟩] W9 E9 (by decide)).mono ?_
 rintro e W10 ⟨a10,n10,c10,d10,m10,k10,rfl,E10,hb⟩;have b10:=b9.trans (hb.mono b9.size);clear hb b9 E9;have E11:=Enc.set E10 (x':={ (zcd ⟨#[60,111,98,106,101,99,116,62]⟩ [])with abs:=true }) (u:=.bool true) (j:=4) (by decide) 0 _ rfl (fun cs _ hr=>by
  obtain⟨A2,c2,A3,c3,rfl,h1,h2,h3,h4⟩:=ciR.openH hr;exact ciR.mk (x:={ (zcd ⟨#[60,111,98,106,101,99,116,62]⟩ [])with abs:=true }) h1 h2 h3 h4)
 have hO1:Own ciR 110 6 w.heap.size (fun b=>b≠W10.heap.size) (.slice (some ⟨W10.heap.size,0,none⟩) 11 11) (zhv 0) _:=((Own.many (R:=ciR) (T:=110) rfl (Qiz _) (by decide) (by decide) E11).lower b10.size).mono fun b _ hb=>Nat.ne_of_lt hb;clear E10 E11;go_wp2_with (fail)
 go_loopw [29] (fun i wr=>∃k:Nat,k≤4∧i=.int .i64 k∧Own ciR 110 6 w.heap.size (fun b=>b≠W10.heap.size) (.slice (some ⟨W10.heap.size,0,none⟩) 11 11) (zhv k) wr∧Below w.heap.size w wr∧W10.heap.size<wr.heap.size) (fun i _=>4-(intOf i).toNat)
 case atStart=>exact⟨0,by decide,rfl,hO1,b10.alloc b10.size _,by simp⟩
 case round=>
  clear hO1;obtain⟨k,hk,rfl,hO,hb,hX⟩:=hrel;by_cases hlt:k<4
  ·have hx:=getElem?_lt' (l:=zhv k) (i:=1+k) (by rw[zev];omega);have HS:Hid (zhv (k+1)=_):=Qaz (zwc hx);generalize((zhv k)[1+k]'(by rw[zev];omega))=x at hx HS;obtain⟨A2,q2,A3,q3,_,_,_,_,_,_,g5,f5⟩:=OwnCI.at hO hx;have hO2:=OwnCI.sealing hO hx (fun b h=>h) true;go_wp2_with (fail);have hg:(wr.setCell ⟨W10.heap.size,(1+k)*6+5,none⟩ (.bool true)).heap.size=wr.heap.size:=by simp[World.setCell]
   exact⟨⟨k+1,by omega,by go_num,by rw[HS.out];exact hO2,hb.setCell b10.size _,by rw[hg];exact hX⟩,by simp[intOf];omega⟩
  ·obtain rfl:k=4:=by omega
   go_wp2_with (fail)
   go_loopw [40] (fun i wr=>∃k:Nat,k≤11∧i=.int .i64 k∧Own ciR 110 6 w.heap.size (fun b=>b≠W10.heap.size) (.slice (some ⟨W10.heap.size,0,none⟩) 11 11) zbm wr∧Below w.heap.size w wr∧W10.heap.size<wr.heap.size) (fun i _=>11-(intOf i).toNat)
   case atStart=>exact⟨0,by decide,rfl,hO,hb,hX⟩
   case round=>
    clear hO hb hX;obtain⟨k,hk,rfl,hO,hb,hX⟩:=hrel;by_cases hlt:k<11
    ·have hx:=getElem?_lt' (l:=zbm) (i:=k) (by rw[show zbm.length=11 from zev 4];omega);have hsl:∀(i:Nat)(y:CI),zbm[i]? =some y→y.supers.length≤1:=by
      have:zbm.all (fun y=>decide (y.supers.length≤1))=true:=by decide
      intro i y hy;exact of_decide_eq_true (List.all_eq_true.1 this y (Qdz hy))
     have hsl1:=hsl k _ hx;generalize(zbm[k]'(by rw[show zbm.length=11 from zev 4];omega))=x at hx hsl1;obtain⟨A2,q2,A3,q3,p1,_,p3,_,⟨g2,f2⟩,_,_⟩:=OwnCI.at hO hx;have HC:=Qaz (zc6 A2 q2 x.supers _ wr p3 (by omega));clear hsl;go_wp2_with (fail);refine HC.out.mono ?_;rintro e V ⟨vc,rfl,hown,hbv⟩;obtain⟨Ac,cc,rfl,r1,r2⟩:=hown.out;have g2':=zaa g2 hbv;have f2':V.frozen? ⟨W10.heap.size,k*6+2,none⟩=false:=(World.frozen?_of_block (a:=⟨W10.heap.size,k*6+2,none⟩) (hbv.block W10.heap.size hX)).trans f2;have sv:=hbv.size;have hO3:=OwnCI.sup (hO.all hbv) hx (fun b h=>h) Ac cc r1 (r2.mono fun b _ h=>by
      rcases h with h|h
      ·exact h
      ·have:=(hown.lt b h).1;omega)
     have hg:(V.setCell ⟨W10.heap.size,k*6+2,none⟩ (.slice Ac x.supers.length cc)).heap.size=V.heap.size:=by simp[World.setCell]
     go_wp2_with (fail);go_roundw
     case rel=>
      refine⟨_,_,_,_,_,_,_,_,_,_,_,_,_,_,_,?_,rfl⟩;exact⟨k+1,by omega,by go_num,hO3,(hb.trans (hbv.mono hb.size)).setCell (p:=⟨W10.heap.size,k*6+2,none⟩) b10.size _,by rw[hg];omega⟩
     case measure=>simp[intOf];omega
    ·go_wp2_with (fail);go_ret;refine⟨_,rfl,hO.limit'.mono fun b _ h=> ?_,hb⟩;exact⟨h.2,fun e=>h.1 (by simpa[Value.ownBlock]using e.symm)⟩
end Go.Proofs.YtepnmejahbiacaaGreat
