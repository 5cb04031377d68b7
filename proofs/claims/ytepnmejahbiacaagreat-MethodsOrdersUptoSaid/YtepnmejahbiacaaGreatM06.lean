/- Part 6 of the proof: C3c. -/
import Derived.Test.YtepnmejahbiacaaGreatM03
import Derived.Test.YtepnmejahbiacaaGreatM02
set_option linter.unusedVariables false
set_option linter.unusedSimpArgs false
set_option maxHeartbeats 64000000
set_option maxRecDepth 100000
namespace Go.Proofs.YtepnmejahbiacaaGreat
open Go.RowKit
def zd7(seen:List ByteArray)(l:List ByteArray):Bool:=(List.range l.length).all fun j=>match l[j]? with
 |some s=>hasS seen s&& !hasS (l.take j) s
 |none=>true
def zdu(seen:List ByteArray)(h:Heir):Bool:= !decide (h.name=⟨#[]⟩)&& !hasS seen h.name&&decide (h.supers.length≤8)&&zd7 seen h.supers
def zbp:List ByteArray→List Heir→Bool
 |_,[]=>true
 |seen,h::r=>zdu seen h&&zbp (seen++[h.name]) r
def za3(g:List Heir):Int:=if 120<g.length then 2 else if zbp [] g then 0 else 70
def zgh(seen:List ByteArray)(s:ByteArray):Option Value:=if hasS seen s then some (.bool true)else none
theorem zr3(seen:List ByteArray)(x:ByteArray):(fun s=>if s=x then some (Value.bool true)else zgh seen s)=zgh (seen++[x]):=by
 funext s;unfold zgh hasS
 by_cases h:s=x
 ·subst h;simp
 ·have:¬x=s:=fun e=>h e.symm;rw[if_neg h,List.any_append];simp only[List.any_cons,List.any_nil,Qgz this,Bool.or_false]
theorem ztn(seen:List ByteArray)(s:ByteArray):(zgh seen s).getD (.bool false)=.bool (hasS seen s):=by
 unfold zgh;cases hasS seen s<;>rfl
theorem zlh(w:World):(zeroValue 4).run Tryz.prog w=.ok (.bool false) w:=by kernel_rfl
noncomputable abbrev zbn:KeyKind Tryz.prog 9 ByteArray:=KeyKind.str Tryz.underlying9
theorem zy6{w:World}{b:Nat}{seen:List ByteArray}(h:MapF zbn b (zgh seen) w)(s:ByteArray):
  (Instr.lookup 134 (.map (some b)) (.string s) false).run Tryz.prog w=.ok (.bool (hasS seen s)) w:=by
 have:=zda h Tryz.underlying134 (zlh w) s false;rw[ztn]at this;exact this
theorem zr7{seen:List ByteArray}{g:List Heir}{k:Nat}{x:Heir}(hx:g[k]? =some x):zbp seen (g.drop k)=(zdu seen x&&zbp (seen++[x.name]) (g.drop (k+1))):=by
 obtain⟨hk,rfl⟩:=Qcz hx;rw[List.drop_eq_getElem_cons hk];rfl
theorem zif{seen l:List ByteArray}(h:∀i s,i<l.length→l[i]? =some s→hasS seen s=true∧hasS (l.take i) s=false):zd7 seen l=true:=by
 unfold zd7;rw[List.all_eq_true]
 intro j hj;have hj':=List.mem_range.1 hj;obtain⟨h1,h2⟩:=h j _ hj' (getElem?_lt hj');rw[getElem?_lt hj'];simp[h1,h2]
theorem zhr{seen l:List ByteArray}{j:Nat}{s:ByteArray}(hs:l[j]? =some s)(h:hasS seen s=false∨hasS (l.take j) s=true):zd7 seen l=false:=by
 unfold zd7;rw[List.all_eq_false]
 refine⟨j,List.mem_range.2 (Qcz hs).1,?_⟩;rw[hs];rcases h with h|h<;>simp[h]
theorem zpm(A:Option Addr)(c:Nat)(g:List Heir)(w:World)(h:Heirs A g w)(hl:g.length≤1000000)(hgs:∀x∈g,x.supers.length≤1000000):
  Calls Tryz.prog 191 #[.slice A g.length c] w fun e w'=>e=.returned (.int .i64 (za3 g))∧Below w.heap.size w w':=by
 have H:=Slc.stable zg3 h |>.here;by_cases hlen:120<g.length
 ·have hs:za3 g=2:=by unfold za3;rw[if_pos hlen]
  have HS:=Qaz hs;clear hs;have hlen':(120:Int)<(g.length:Int):=by omega
  go_enter Tryz.func191,Tryz.ntmps191;go_wp2;go_ret;exact⟨zzo HS.out.symm,Below.refl _ _⟩
 ·have hs:za3 g=if zbp [] g then 0 else 70:=by unfold za3;rw[if_neg hlen]
  have HS:=Qaz hs;clear hs;have hmm:= @run_makeMap Tryz.prog;have hlen':¬(120:Int)<(g.length:Int):=by omega
  go_enter Tryz.func191,Tryz.ntmps191;go_wp2;clear hmm;have hM0:=MapF.made (zbn) w w.heap.size rfl
  go_loopw [14] (fun i wr=>∃k:Nat,k≤g.length∧i=.int .i64 k∧MapF zbn w.heap.size (zgh ((g.take k).map (·.name))) wr∧zbp [] g=zbp ((g.take k).map (·.name)) (g.drop k)∧Below w.heap.size w wr) (fun i _=>g.length-(intOf i).toNat)
  case atStart=>exact⟨0,Qjz _,rfl,hM0,rfl,(Below.refl _ w).alloc (Qiz _) _⟩
  case round=>
   clear hM0;obtain⟨k,hk,rfl,hM,hok,hb⟩:=hrel;have HO:=Qaz hok;clear hok;by_cases hlt:k<g.length
   ·obtain⟨b,off,rfl⟩:=h.addr (by omega);have HX:=Qaz (getElem?_lt hlt);have hxs:=hgs _ (List.getElem_mem hlt);have HST:=Qaz (zr7 (seen:=(g.take k).map (·.name)) (getElem?_lt hlt));have HTS:=Qaz (take_snoc (getElem?_lt hlt));generalize g[k]=x at*;obtain⟨A2,c2,r2,R2,g1,g2⟩:=Heirs.atH (H.below hb) HX.out;have hbl:=cell_lt g1;have hMl:=hM.lt;have hlk:=fun o=>Qaz (hM.keep (Keep.alloc (fun _=>True) wr o) trivial);generalize hseen:(g.take k).map (·.name)=seen at*;have HSE:=Qaz hseen;clear hseen;have hlk1:=fun o s=>zy6 (hlk o).out s;clear hlk
    have bad:zdu seen x=false→za3 g=70:=fun hh=>by rw[HS.out,HO.out,HST.out,hh];rfl
    by_cases n1:x.name=⟨#[]⟩
    ·have HB:=Qaz (bad (by simp[zdu,n1]));clear bad;go_wp2;go_ret;exact⟨zzo HB.out.symm,hb.alloc hb.size _⟩
    cases n2:hasS seen x.name with
    |true=>
     have HB:=Qaz (bad (by simp[zdu,n2]));clear bad;go_wp2;go_ret;exact⟨zzo HB.out.symm,hb.alloc hb.size _⟩
    |false=>
    by_cases n3:8<x.supers.length
    ·have HB:=Qaz (bad (by unfold zdu;rw[Qgz (p:=x.supers.length≤8) (by omega)];simp));have n3':(8:Int)<(x.supers.length:Int):=by omega
     clear bad;go_wp2;go_ret;exact⟨zzo HB.out.symm,hb.alloc hb.size _⟩
    have n3':¬(8:Int)<(x.supers.length:Int):=by omega
    have bad2:zd7 seen x.supers=false→za3 g=70:=fun hh=>bad (by unfold zdu;rw[hh];simp);have HB2:=Qaz bad2;have hok2:zd7 seen x.supers=true→zdu seen x=true:=fun hh=>by
     unfold zdu;rw[hh,n2,Qhz (p:=x.supers.length≤8) (by omega)];simp[n1]
    have HOK2:=Qaz hok2;clear bad bad2 hok2;go_wp2
    go_loop [36] (fun i=>∃j:Nat,j≤x.supers.length∧i=.int .i64 j∧∀i s,i<j→x.supers[i]? =some s→hasS seen s=true∧hasS (x.supers.take i) s=false) (fun i=>x.supers.length-(intOf i).toNat)
    case atStart=>exact⟨0,Qjz _,rfl,fun i s h=>absurd h (by omega)⟩
    case round=>
     obtain⟨j,hj,rfl,hg⟩:=hrel;have HG:=Qaz hg;clear hg;by_cases hjl:j<x.supers.length
     ·have HY:=Qaz (getElem?_lt hjl);generalize x.supers[j]=s at*;obtain⟨b2,o2,rfl⟩:=Slc.addrH R2 (by omega);have g3:=(Strs.atH R2 HY.out).now;have hbl2:=cell_lt g3;have S3:=Slc.take R2.now j;have hc2:¬c2=0:=by omega
      have K1:∀o A3 c3,Strs A3 (x.supers.take j) (wr.alloc o)→Calls Tryz.prog 175 #[.slice A3 j c3,.string s] (wr.alloc o) fun e w'=>e=.returned (.bool (hasS (x.supers.take j) s))∧wr.alloc o=w':=
       fun o A3 c3 hA=>zry A3 j c3 _ s _ hA (by rw[List.length_take,Nat.min_eq_left hj]) (by rw[List.length_take];omega)
      have S4:∀o,Strs (some ⟨b2,o2,none⟩) (x.supers.take j) (wr.alloc o):=fun o=>(R2.imp fun _ _ q=>Slc.take q j) _ (Keep.alloc _ _ _);have HK:=Qaz (fun o c3=>K1 o _ c3 (S4 o));clear K1 S4 S3;cases m1:hasS seen s with
      |false=>
       have HB:=Qaz (HB2.out (zhr HY.out (.inl m1)));go_wp2;go_ret;exact⟨zzo HB.out.symm,hb.alloc hb.size _⟩
      |true=>
       cases m2:hasS (x.supers.take j) s with
       |true=>
        have HB:=Qaz (HB2.out (zhr HY.out (.inr m2)));go_wp2_with (go_at_call 175;refine(HK.out _ _).mono ?_;rintro e w' ⟨rfl,rfl⟩);go_ret;exact⟨zzo HB.out.symm,hb.alloc hb.size _⟩
       |false=>
        have HM1:=Qaz m1;have HM2:=Qaz m2;go_wp2_with (go_at_call 175;refine(HK.out _ _).mono ?_;rintro e w' ⟨rfl,rfl⟩)
        go_round
        case rel=>
         refine⟨j+1,by omega,by go_num,fun i z hi hz=> ?_⟩;rcases Nat.lt_or_ge i j with hij|hij
         ·exact HG.out i z hij hz
         ·obtain rfl:i=j:=by omega
          rw[HY.out]at hz;cases hz;exact⟨HM1.out,HM2.out⟩
        case measure=>simp[intOf];omega
     ·obtain rfl:j=x.supers.length:=by omega
      have HOK:=Qaz (HOK2.out (zif fun i s hi hs=>HG.out i s hi hs));have hM':=hM.keep (Keep.alloc (fun _=>True) wr (.cells #[.string x.name,.slice A2 x.supers.length c2] 186)) trivial;go_wp2_with (at_mapUpdate;refine zcu zbn _ rfl 134 4 _ _ _ rfl Tryz.underlying134 w.heap.size (zgh seen) hM' rfl x.name rfl (.bool true) rfl ?_);intro w3 hM3 hg3;rw[zr3]at hM3;have hb3:Below w.heap.size w w3:=(hb.alloc hb.size _).grown hg3 (by simp;omega) fun k e=>by cases e;exact Qiz _
      clear hlk1;go_wp2;go_roundw
      case rel=>
       have hseen:(g.take (k+1)).map (·.name)=seen++[x.name]:=by rw[HTS.out,List.map_append,HSE.out];rfl
       refine⟨k+1,by omega,by go_num,?_,?_,hb3⟩
       ·rw[hseen];exact hM3
       ·rw[hseen,HO.out,HST.out,HOK.out];rfl
      case measure=>simp[intOf];omega
   ·obtain rfl:k=g.length:=by omega
    have HB:Hid (za3 g=0):=Qaz (by rw[HS.out,HO.out,List.drop_length];rfl);go_wp2;go_ret;exact⟨zzo HB.out.symm,hb⟩
end Go.Proofs.YtepnmejahbiacaaGreat
