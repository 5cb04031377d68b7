/- Part 28 of the proof: Qd, Qe, Qf, Qg. -/
import Derived.Test.YtepnmejahbiacaaGreatM23
set_option linter.unusedVariables false
set_option linter.unusedSimpArgs false
set_option maxHeartbeats 64000000
set_option maxRecDepth 100000
namespace Go.Proofs.YtepnmejahbiacaaGreat
open Go.RowKit
theorem zl0{l:List ByteArray}(h:l.Nodup):zbz l=true:=by
 unfold zbz;rw[List.all_eq_true];intro j hj;have hj':=List.mem_range.1 hj;rw[Qbz hj'];have:hasS (l.take j) l[j]=false:=zbl.2 fun hm=>by
  obtain⟨i,hi⟩:=Qez hm;rw[List.getElem?_take]at hi
  split at hi
  ·have:=zds h hi (Qbz hj');omega
  ·cases hi
 simp[this]
theorem zrm(D:List (List ByteArray)):(∃(k:Nat)(s:ByteArray)(t:List ByteArray),D[k]? =some (s::t)∧zlp D=k∧zia D D=some s)∨(zlp D= -1∧zia D D=none):=by
 cases hf:D.findIdx? (isC D)with
 |none=>
  right;refine zlt fun j y hy=> ?_;have:=List.findIdx?_eq_none_iff.1 hf y (Qdz hy);exact this
 |some k=>
  left;obtain⟨hk,h1,h2⟩:=List.findIdx?_eq_some_iff_getElem.1 hf;have hz:D[k]? =some D[k]:=Qbz hk;obtain⟨e1,e2⟩:=zk3 hz h1 (fun j y hj hy=>by
   have:=h2 j hj;obtain⟨_,rfl⟩:=Qcz hy
   simpa using this)
  cases hd:D[k]with
  |nil=>rw[hd]at h1;simp[isC]at h1
  |cons s t=>
   rw[hd]at hz e2;exact⟨k,s,t,hz,e1,e2⟩
def zir(s:ByteArray)(y:List ByteArray)(n:Nat):Nat:=if y[n]? =some s then n+1 else n
theorem zz2(s:ByteArray)(y:List ByteArray)(n:Nat):y.drop (zir s y n)=rm1 s (y.drop n):=by
 unfold zir;by_cases h:n<y.length
 ·rw[List.drop_eq_getElem_cons h,Qbz h];unfold rm1;by_cases e:y[n]=s
  ·simp[e]
  ·have:¬some y[n]=some s:=fun q=>e (Option.some.inj q);rw[if_neg this];simp only[if_neg e];exact List.drop_eq_getElem_cons h
 ·have e1:y.drop n=[]:=List.drop_eq_nil_of_le (by omega);have e2:y[n]? =none:=List.getElem?_eq_none (by omega);rw[e2,e1];simp[rm1,e1]
theorem z0b{s:ByteArray}{y:List ByteArray}{n:Nat}(h:n≤y.length):zir s y n≤y.length:=by
 unfold zir
 split
 ·rename_i q;have:=(Qcz q).1;omega
 ·exact h
structure Upd (L:List (List ByteArray)) (s:ByteArray) (ats atk:List Nat) (k:Nat):Prop where
 len:atk.length=L.length
 at_:∀(j:Nat) y n,L[j]? =some y→ats[j]? =some n→atk[j]? =some (if j<k then zir s y n else n)
theorem Upd.init{L:List (List ByteArray)}{s:ByteArray}{ats:List Nat}(h:ats.length=L.length):Upd L s ats ats 0:=⟨h,fun j y n _ h2=>by rw[h2,if_neg (by omega)]⟩
theorem Upd.step{L:List (List ByteArray)}{s:ByteArray}{ats atk:List Nat}{k n:Nat}{y:List ByteArray}(h:Upd L s ats atk k)(h1:L[k]? =some y)(h2:ats[k]? =some n):Upd L s ats (atk.set k (zir s y n)) (k+1):=by
 refine⟨by rw[List.length_set];exact h.len,fun j z m h3 h4=> ?_⟩;by_cases e:j=k
 ·subst e;rw[h1]at h3;cases h3
  rw[h2]at h4;cases h4
  rw[if_pos (by omega),List.getElem?_set_self (by have:=(Qcz h1).1;have:=h.len;omega)]
 ·rw[List.getElem?_set_ne (fun q=>e q.symm),h.at_ j z m h3 h4];by_cases q:j<k
  ·rw[if_pos q,if_pos (by omega)]
  ·rw[if_neg q,if_neg (by omega)]
theorem Upd.same{L:List (List ByteArray)}{s:ByteArray}{ats atk:List Nat}{k n:Nat}{y:List ByteArray}(h:Upd L s ats atk k)(h1:L[k]? =some y)(h2:ats[k]? =some n)(h3:zir s y n=n):Upd L s ats atk (k+1):=by
 have:=h.step h1 h2;have e:atk.set k (zir s y n)=atk:=zkp (by rw[h.at_ k y n h1 h2,if_neg (by omega),h3])
 rwa [e]at this
theorem Upd.done{L:List (List ByteArray)}{s:ByteArray}{ats atk:List Nat}(hl:ats.length=L.length)(h:Upd L s ats atk L.length):zcc L atk=rm s (zcc L ats):=by
 apply List.ext_getElem?;intro j;unfold rm;by_cases hj:j<L.length
 ·have h1:L[j]? =some L[j]:=Qbz hj;have h2:ats[j]? =some ats[j]:=Qbz (by omega);have h3:=h.at_ j _ _ h1 h2;rw[if_pos hj]at h3;rw[zcy h1 h3,List.getElem?_map,zcy h1 h2,zz2];rfl
 ·rw[List.getElem?_eq_none (by rw[zdi h.len];omega),List.getElem?_eq_none (by rw[List.length_map,zdi hl];omega)]
theorem zyr{D:List (List ByteArray)}{k:Nat}{z:List ByteArray}(h:D[k]? =some z)(z':List ByteArray):total (D.set k z')+z.length=total D+z'.length:=by
 induction D generalizing k with
 |nil=>simp at h
 |cons x D ih=>
  cases k with
  |zero=>
   simp at h;subst h
   rw[List.set_cons_zero,total_cons,total_cons];omega
  |succ k=>
   have:=ih (by simpa using h);rw[List.set_cons_succ,total_cons,total_cons];omega
theorem zu9{L:List (List ByteArray)}{ats:List Nat}{k m:Nat}{y:List ByteArray}(h1:L[k]? =some y)(hl:ats.length=L.length):zcc L (ats.set k m)=(zcc L ats).set k (y.drop m):=by
 apply List.ext_getElem?;intro j;by_cases hj:j<L.length
 ·have h3:L[j]? =some L[j]:=Qbz hj;have h2:ats[j]? =some ats[j]:=Qbz (by omega);by_cases e:j=k
  ·subst e;rw[h3]at h1;have:=Option.some.inj h1;rw[zcy (n:=m) h3 (List.getElem?_set_self (by omega)),List.getElem?_set_self (by rw[zdi hl];omega),this]
  ·rw[zcy h3 (by rw[List.getElem?_set_ne (fun q=>e q.symm)];exact h2),List.getElem?_set_ne (fun q=>e q.symm),zcy h3 h2]
 ·rw[List.getElem?_eq_none (by rw[zdi (by simpa using hl)];omega),List.getElem?_eq_none (by rw[List.length_set,zdi hl];omega)]
theorem zv1{L:List (List ByteArray)}{atk:List Nat}{k n:Nat}{y:List ByteArray}(h1:L[k]? =some y)(h2:atk[k]? =some n)(hl:atk.length=L.length)(hn:n<y.length):total (zcc L (atk.set k (n+1)))+1=total (zcc L atk):=by
 have:=zyr (zcy h1 h2) (y.drop (n+1));rw[zu9 h1 hl];rw[List.length_drop,List.length_drop]at this;omega
theorem zh9(L:List (List ByteArray)):zcc L (List.replicate L.length 0)=L:=by
 apply List.ext_getElem?;intro j;by_cases hj:j<L.length
 ·have h3:L[j]? =some L[j]:=Qbz hj;rw[zcy (n:=0) h3 (by rw[List.getElem?_replicate,if_pos hj]),h3];rfl
 ·rw[List.getElem?_eq_none (by rw[zdi (by simp)];omega),List.getElem?_eq_none (by omega)]
theorem zmh{D:List (List ByteArray)}:zb0 D=true↔0<total D:=by
 refine⟨zem,fun h=> ?_⟩;cases hd:zb0 D with
 |true=>rfl
 |false=>
  exfalso;have:∀D:List (List ByteArray),zb0 D=false→total D=0:=by
   intro D
   induction D with
   |nil=>intro _;rfl
   |cons x D ih=>
    intro h;unfold zb0 at h ih;rw[List.any_cons,Bool.or_eq_false_iff]at h;rw[total_cons,ih h.2];have h1:=h.1;cases x with
    |nil=>rfl
    |cons=>simp at h1
  have:=this D hd;omega
theorem ztc{L:List (List ByteArray)}{m:Nat}(h:∀x∈L,x.length≤m):total L≤L.length*m:=zun h
theorem zp7(L:List (List ByteArray))(ats:List Nat):total (zcc L ats)≤total L:=by
 induction L generalizing ats with
 |nil=>unfold zcc;simp[total]
 |cons x L ih=>
  cases ats with
  |nil=>unfold zcc;simp[total]
  |cons n ats=>
   have:=ih ats;have e:zcc (x::L) (n::ats)=x.drop n::zcc L ats:=rfl;rw[e,total_cons,total_cons,List.length_drop];omega
theorem zy1(n:Nat):(madeCells #[Value.int .i64 0] n).toList=(List.replicate n 0).map fun k:Nat=>Value.int .i64 (k:Int):=by
 unfold madeCells;apply List.ext_getElem?;intro j;simp only[Array.toList_map,Array.toList_range,List.getElem?_map,List.map_replicate,List.getElem?_replicate];by_cases hj:j<n
 ·rw[List.getElem?_range hj,if_pos hj];simp[Nat.mod_one]
 ·rw[List.getElem?_eq_none (by simpa using hj),if_neg hj];rfl
theorem z0z(G:Nat→Prop)(w:World):∀l:List Nat,Enc (fun x cs=>Held G (zfh x cs) w) 1 (l.map fun k:Nat=>(k:Int)) (l.map fun k:Nat=>Value.int .i64 (k:Int)):=by
 intro l;rw[←List.reverse_reverse l]
 induction l.reverse with
 |nil=>exact Enc.nil
 |cons x l ih=>
  rw[List.reverse_cons,List.map_append,List.map_append];exact Enc.snoc ih (fun _ _=>rfl) rfl
theorem z04(w:World)(n:Nat)(hn:n≤1000000):Own zfh 3 1 w.heap.size (fun _=>False) (.slice (some ⟨w.heap.size,0,none⟩) n n) ((List.replicate n 0).map fun k:Nat=>(k:Int)) (w.alloc (.cells (madeCells #[Value.int .i64 0] (n*1)) 3)):=by
 have:=Own.ofEnc (n:=w.heap.size) 3 rfl (z0z (fun _=>False) w (List.replicate n 0)) (by simpa using hn);rw[←zy1]at this
 simpa using this
theorem zrj(A:Option Addr)(c:Nat)(L:List (List ByteArray))(W:World)(G:Nat→Prop)(hL:Held G (Lsts A L) W)(h20:L.length≤20)(hll:∀x∈L,x.length≤120∧x.Nodup):
  Calls Tryz.prog 173 #[.slice A L.length c] W fun e w'=>Below W.heap.size W w'∧((∃out v,merge L=some out∧e=.returned (.tuple #[v,.bool true])∧Own zcz 9 1 W.heap.size (fun _=>False) v out w')∨(merge L=none∧e=.returned (.tuple #[.slice none 0 0,.bool false]))):=by
 have H:=Qaz hL;have HLL:=Qaz hll;have get:∀V k,Below W.heap.size W V→k<L.length→∃y b off A1 c1,L[k]? =some y∧y.length≤120∧y.Nodup∧A=some ⟨b,off,none⟩∧y.length≤c1∧Strs A1 y V∧(∃G,Held G (Strs A1 y) V)∧V.cell? ⟨b,off+k,none⟩=some (.slice A1 y.length c1):=fun V k hv hk=>by
  have h1:L[k]? =some L[k]:=Qbz hk;obtain⟨b,off,rfl⟩:=Slc.addrH H.out (by omega);obtain⟨A1,c1,r1,R1,g1⟩:=Lsts.atH (H.out.keep (Keep.all hv)) h1;have h2:=hll _ (List.getElem_mem hk);exact⟨_,b,off,A1,c1,h1,h2.1,h2.2,rfl,r1,R1.now,⟨_,R1⟩,g1⟩
 have GET:=Qaz get;have HT:Hid (total L≤2400):=Qaz (by have:=ztc (fun x hx=>(hll x hx).1) (m:=120) (L:=L);have:L.length*120≤20*120:=Nat.mul_le_mul_right _ h20;omega);clear get hL hll;go_enter Tryz.func173,Tryz.ntmps173;have t0:¬(20:Int)<(L.length:Int):=by omega
 go_wp2_with (fail)
 go_loopw [4,5] (fun n i wr=>∃k:Nat,k≤L.length∧i=.int .i64 k∧n=.int .i64 (total (L.take k):Nat)∧Below W.heap.size W wr) (fun _ i _=>L.length-(intOf i).toNat)
 case atStart=>exact⟨0,Qjz _,rfl,rfl,Below.refl _ _⟩
 case round=>
  obtain⟨k,hk,rfl,rfl,hb⟩:=hrel;by_cases hlt:k<L.length
  ·obtain⟨y,b,off,A1,c1,h1,hy1,hy2,rfl,hyc,hS,⟨GS,hSH⟩,g1⟩:=GET.out wr k hb hlt;have t1:¬(120:Int)<(y.length:Int):=by omega
   have HD:=Qaz (zhk A1 c1 y wr GS hSH hyc (by omega));rw[zl0 hy2]at HD;have HS:Hid (total (L.take (k+1))=total (L.take k)+y.length):=Qaz (by rw[take_snoc h1];unfold total;simp);have hsum:total (L.take k)≤2400:=Nat.le_trans (by
    have:∀(l:List (List ByteArray)) n,total (l.take n)≤total l:=by
     intro l
     induction l with
     |nil=>intro n;simp
     |cons x l ih=>intro n;cases n with
      |zero=>simp[total]
      |succ n=>rw[List.take_succ_cons,total_cons,total_cons];have:=ih n;omega
    exact this L k) HT.out
   clear h1 hy2 hS hSH;generalize total (L.take k)=tk at HS hsum;go_wp2_with (fail);refine HD.out.mono ?_;rintro e V ⟨rfl,n,rfl⟩;clear HD;have g1':(wr.drewN n).cell? ⟨b,off+k,none⟩=some (.slice A1 y.length c1):=g1;go_wp2;exact⟨⟨k+1,by omega,by go_num,by rw[HS.out];go_num,hb.trans (zad _ _ _)⟩,by simp[intOf];omega⟩
  ·obtain rfl:k=L.length:=by omega
   rw[List.take_length];have hmk:∀w:World,(Instr.makeSlice 27 (.int .i64 (L.length:Int)) (.int .i64 (L.length:Int))).run Tryz.prog w=.ok (.slice (some ⟨w.heap.size,0,none⟩) L.length L.length) (w.alloc (.cells (madeCells #[Value.int .i64 0] (L.length*1)) 3)):=fun w=>by
    obtain⟨i0,hi,hz⟩:=Option.map_eq_some_iff.1 zhu;simp only[Prod.mk.injEq]at hz;obtain⟨z0,z1,z2⟩:=hz;have:=run_make (P:=Tryz.prog) w 27 3 i0 (.int .i64 0) Tryz.underlying27 hi z0 .i64 .i64 (L.length:Int) (L.length:Int) (by omega) (Int.le_refl _) (by rw[z2];omega) (by omega);rw[z1]at this
    simpa[Value.cells]using this
   go_wp2_with (fail);clear hmk;obtain⟨g,hg⟩:∃g,g=wr.heap.size:=⟨_,rfl⟩;have hat:=(z04 wr L.length (by omega)).lower hb.size;obtain⟨W2,hW2⟩:∃W2,W2=wr.alloc (.cells (madeCells #[Value.int .i64 0] (L.length*1)) 3):=⟨_,rfl⟩;have b2:Below W.heap.size W W2:=by rw[hW2];exact hb.alloc hb.size _
   have hgb:W.heap.size≤g:=by rw[hg];exact hb.size
   rw[←hW2,←hg]at hat;have e1:L.length*1=L.length:=Nat.mul_one _
   first|rw[←hW2,←hg]|(rw[e1]at hW2;rw[←hW2,←hg])
   clear hW2 hg e1 hb
   go_loopw [4,7] (fun n v wr=>∃(ats:List Nat)(out:List ByteArray),ats.length=L.length∧(∀(j:Nat) y n,L[j]? =some y→ats[j]? =some n→n≤y.length)∧merge L=(merge (zcc L ats)).map (out++ ·)∧n=.int .i64 ((total (zcc L ats):Nat):Int)∧out.length+total (zcc L ats)≤2400∧
    Own zfh 3 1 W.heap.size (fun _=>False) (.slice (some ⟨g,0,none⟩) L.length L.length) (ats.map fun k:Nat=>(k:Int)) wr∧Own zcz 9 1 W.heap.size (fun _=>False) v out wr∧v.ownBlock≠some g∧Below W.heap.size W wr) (fun n _ _=>(intOf n).toNat)
   case atStart=>
    refine⟨List.replicate L.length 0,[],by simp,fun j y n _ h=> ?_,?_,?_,?_,hat,Own.nil _ _ _ _ _ _,by simp[Value.ownBlock],b2⟩
    ·rw[List.getElem?_replicate]at h
     split at h
     ·cases h;omega
     ·cases h
    ·rw[zh9];cases merge L<;>simp
    ·rw[zh9]
    ·rw[zh9];have:=HT.out;simpa using this
   case round=>
    clear hat b2;obtain⟨ats,out,hal,hle,hmer,rfl,htot,hat,hout,hvg,hb2⟩:=hrel;obtain⟨D,hD⟩:∃D,zcc L ats=D:=⟨_,rfl⟩;rw[hD]at hmer htot;rw[hD];have HM:=Qaz hmer;have HO:=Qaz hout;have HA:=Qaz hat;have HVG:=Qaz hvg;have HLE:=Qaz hle;have HAL:=Qaz hal;clear hmer hout hat hvg hle hal;by_cases ht:total D=0
    ·have t1:¬(0:Int)<((total D:Nat):Int):=by omega
     have HR:Hid (merge L=some out):=Qaz (by
      rw[HM.out,zhb (by cases h:zb0 D with|false=>rfl|true=>have:=zmh.1 h;omega)];simp)
     clear ht;go_wp2;go_ret2;exact⟨hb2,.inl ⟨out,HR.out,_,rfl,HO.out⟩⟩
    ·have t1:(0:Int)<((total D:Nat):Int):=by omega
     have HAN:Hid (zb0 D=true):=Qaz (zmh.2 (by omega));have HC:=Qaz (zsz A c L (some ⟨g,0,none⟩) L.length ats wr HAL.out (H.out.keep (Keep.all hb2)).now (Own.read HA.out).2.2.now HLE.out (by omega) (fun x hx=>by have:=(HLL.out x hx).1;omega));rw[hD]at HC;rcases zrm D with⟨k,s,tl,hz,hix,hc⟩|⟨hix,hc⟩;rotate_left
     ·have HR:Hid (merge L=none):=Qaz (by rw[HM.out,zfo HAN.out hc];rfl);rw[hix]at HC;clear hix hc ht;go_wp2_with (fail);refine HC.out.mono ?_;rintro e V ⟨rfl,n,rfl⟩;go_wp2;go_ret2;exact⟨hb2.trans (zad _ _ _),.inr ⟨HR.out,rfl⟩⟩
     have hkl:k<L.length:=by
      have h1:=(Qcz hz).1;have h2:=zdi HAL.out;rw[hD]at h2;omega
     have HST:Hid (merge D=(merge (rm s D)).map (s:: ·)):=Qaz (zg8 HAN.out hc);rw[hix]at HC;obtain⟨y,b,off,A1,c1,h1,hy1,hy2,rfl,hyc,hS,_,g1⟩:=GET.out wr k hb2 hkl;have hka:k<ats.length:=by have:=HAL.out;omega
     have h2:ats[k]? =some ats[k]:=Qbz hka;generalize ats[k]=n at h2;have hyn:y[n]? =some s:=by
      have:=zcy h1 h2;rw[hD,hz]at this;have e:=Option.some.inj this;have:=congrArg (·[0]?) e
      simpa using this.symm
     have hnl:n<y.length:=(Qcz hyn).1;obtain⟨b1,o1,rfl⟩:=hS.addr (by omega);have gs:=Strs.at hS hyn;obtain⟨cs,_,hr,hcs⟩:=Own.get HA.out (i:=k) (x:=(n:Int)) (by rw[List.getElem?_map,h2];rfl);obtain rfl:cs=[.int .i64 (n:Int)]:=hr.now;have ga:wr.cell? ⟨g,k,none⟩=some (.int .i64 (n:Int)):=by simpa using(hcs 0 _ rfl).1
     have w1:(0:Int)≤(k:Int):=by omega
     have w2:(k:Int)<(L.length:Int):=by omega
     have w3:(0:Int)≤(n:Int):=by omega
     have w4:(n:Int)<(y.length:Int):=by omega
     have t3:¬(k:Int)<0:=by omega
     have HRL:Hid (total (rm s D)+1≤total D):=Qaz (zdv (Qdz hz));clear hz hix hc h1 h2 hyn hnl hS hr hcs ht hka hkl;go_wp2_with (fail);refine HC.out.mono ?_;rintro e V ⟨rfl,q,rfl⟩;clear HC;go_wp2_with (fail)
     go_quiet (fail)
     have hb3:Below W.heap.size W ((wr.drewN q).drewN nq):=(hb2.trans (zad _ _ _)).trans (zad _ _ _);have hO3:=(HO.out.drewN q).drewN nq;have hA3:=(HA.out.drewN q).drewN nq;generalize hq:(wr.drewN q).drewN nq=V at hb3 hO3 hA3 ⊢;clear hq hb2 HO HA gs ga g1;have hs3:=hb3.size;go_wp2_with (at_builtin;refine zao zcz 9 1 W.heap.size 16 (fun _=>False) _ rfl _ _ 108 _ rfl Tryz.underlying108 info9 rfl (by decide) (by decide) _ out rfl ?own ⟨_,0,none⟩ 1 rfl s [.string s] rfl ?cells ?one ?held ?hG ?base ?len ?_)
     case own=>exact hO3.alloc _
     case cells=>exact zaq _ _ _ _ (by simp)
     case one=>simp[Value.oneCell']
     case held=>exact fun _ _=>rfl
     case hG=>exact fun _ h=>h.elim
     case base=>simp;omega
     case len=>omega
     intro v3 V3 ho3 hg3 hat3;have hgV:g<V.heap.size:=(hA3.lt g rfl).2;have hb4:Below W.heap.size W V3:=(hb3.alloc hs3 _).grown hg3 (by simp;omega) fun k' e=>(hO3.lt _ e).1;have hA4:Own zfh 3 1 W.heap.size (fun _=>False) (.slice (some ⟨g,0,none⟩) L.length L.length) (ats.map fun k:Nat=>(k:Int)) V3:=
      (hA3.alloc _).keep (Keep.grown hg3 fun b hb e=>hb.elim) fun k' hk'=>hg3.block k' (by have:=(hA3.lt k' hk').2;simp;omega) fun e=>HVG.out (e.symm.trans hk'.symm)
     have hvg4:v3.ownBlock≠some g:=fun e=>by
      rcases hat3 with h|h
      ·exact HVG.out (h.symm.trans e)
      ·rw[e]at h;have:=Option.some.inj h
       first|omega|(simp at this;omega)
     have HVG4:=Qaz hvg4;clear hO3 hA3 hb3 hg3 hat3 hvg4 hs3 hgV;go_wp2_with (fail)
     go_loopw [4,10] (fun n i wr=>∃(k:Nat)(atk:List Nat),k≤L.length∧i=.int .i64 k∧Upd L s ats atk k∧n=.int .i64 ((total (zcc L atk):Nat):Int)∧Own zfh 3 1 W.heap.size (fun _=>False) (.slice (some ⟨g,0,none⟩) L.length L.length) (atk.map fun k:Nat=>(k:Int)) wr∧Own zcz 9 1 W.heap.size (fun _=>False) v3 (out++[s]) wr∧Below W.heap.size W wr) (fun _ i _=>L.length-(intOf i).toNat)
     case atStart=>exact⟨0,ats,Qjz _,rfl,Upd.init HAL.out,by rw[hD],hA4,ho3,hb4⟩
     case round=>
      clear hA4 ho3 hb4 w1 w2 w3 w4 t3;obtain⟨k2,atk,hk2,rfl,hupd,rfl,hat,hout,hb5⟩:=hrel;have HU:=Qaz hupd;have HO5:=Qaz hout;have HA5:=Qaz hat;clear hupd hout hat;by_cases hlt:k2<L.length
      ·obtain⟨y2,b2,off2,A2,c2,h1,hy1',hy2',e,hyc2,hS2,_,g2⟩:=GET.out wr k2 hb5 hlt;cases e;have hka:k2<ats.length:=by have:=HAL.out;omega
       have h2:ats[k2]? =some ats[k2]:=Qbz hka;generalize ats[k2]=n2 at h2;have h3:atk[k2]? =some n2:=by rw[HU.out.at_ k2 y2 n2 h1 h2,if_neg (by omega)]
       have hn2:n2≤y2.length:=HLE.out k2 y2 n2 h1 h2;obtain⟨cs,_,hr,hcs⟩:=Own.get HA5.out (i:=k2) (x:=(n2:Int)) (by rw[List.getElem?_map,h3];rfl);obtain rfl:cs=[.int .i64 (n2:Int)]:=hr.now;have ga:wr.cell? ⟨g,k2,none⟩=some (.int .i64 (n2:Int)):=by simpa using(hcs 0 _ rfl).1
       have gf:wr.frozen? ⟨g,k2,none⟩=false:=by simpa using(hcs 0 _ rfl).2
       have w1:(0:Int)≤(k2:Int):=by omega
       have w2:(k2:Int)<(L.length:Int):=by omega
       have w3:(0:Int)≤(n2:Int):=by omega
       have H123:=Qaz (And.intro h1 (And.intro h2 h3));clear h1 h2 h3 hr hcs hy2';by_cases hnl:n2<y2.length
       ·have w4:(n2:Int)<(y2.length:Int):=by omega
        obtain⟨b3,o3,rfl⟩:=hS2.addr (by omega);have hyn:y2[n2]? =some y2[n2]:=Qbz hnl;generalize y2[n2]=x at hyn;have gs:=Strs.at hS2 hyn;have HYN:=Qaz hyn;clear hyn hS2;by_cases hxs:x=s
        ·subst hxs;have HST2:Hid (zir x y2 n2=n2+1):=Qaz (by unfold zir;rw[if_pos HYN.out]);have HTS:=Qaz (zv1 H123.out.1 H123.out.2.2 HU.out.len hnl);have htt:total (zcc L atk)≤2400:=Nat.le_trans (zp7 L atk) HT.out;generalize total (zcc L atk)=T at HTS htt;go_wp2_with (fail)
         go_quiet (fail)
         have gf':(wr.drewN nq).frozen? ⟨g,k2,none⟩=false:=gf;have hstore:=Own.store (HA5.out.drewN nq) rfl (i:=k2) (j:=0) (x:=(n2:Int)) (x':=((n2+1:Nat):Int)) (u:=.int .i64 ((n2:Int)+1)) (by rw[List.getElem?_map,H123.out.2.2];rfl) (by decide) (fun b h=>h.elim) (fun cs hl hr=>by
          have e:cs=[.int .i64 (n2:Int)]:=hr.now;subst e;exact fun _ _=>by show _=_;simp)
         have e9:(atk.map fun k:Nat=>(k:Int)).set k2 ((n2+1:Nat):Int)=(atk.set k2 (n2+1)).map fun k:Nat=>(k:Int):=by rw[List.map_set]
         rw[e9]at hstore;have hO9:=Own.setCell (HO5.out.drewN nq) (p:=⟨g,k2,none⟩) (fun b h=>h.elim) HVG4.out (.int .i64 ((n2:Int)+1));have hb9:Below W.heap.size W ((wr.drewN nq).setCell ⟨g,k2,none⟩ (.int .i64 ((n2:Int)+1))):=(hb5.trans (zad _ _ _)).setCell (p:=⟨g,k2,none⟩) hgb _;have HS9:=Qaz hstore;have HO9:=Qaz hO9;clear hstore hO9 e9;go_wp2
         first
          |exact⟨⟨k2+1,atk.set k2 (n2+1),by omega,by go_num,by have:=HU.out.step H123.out.1 H123.out.2.1;rwa [HST2.out]at this,by have:=HTS.out;go_num,by simpa using HS9.out,HO9.out,hb9⟩,by simp[intOf];omega⟩
        ·have HST2:Hid (zir s y2 n2=n2):=Qaz (by unfold zir;rw[if_neg (by rw[HYN.out];exact fun e=>hxs (Option.some.inj e))]);go_wp2_with (fail)
         go_quiet (fail)
         go_wp2;go_roundw
         case rel=>exact⟨k2+1,atk,by omega,by go_num,HU.out.same H123.out.1 H123.out.2.1 HST2.out,rfl,HA5.out.drewN nq,HO5.out.drewN nq,hb5.trans (zad _ _ _)⟩
         case measure=>simp[intOf];omega
       ·have w4:¬(n2:Int)<(y2.length:Int):=by omega
        have HST2:Hid (zir s y2 n2=n2):=Qaz (by unfold zir;rw[if_neg (by rw[List.getElem?_eq_none (by omega)];simp)]);go_wp2_with (fail)
        go_quiet (fail)
        go_wp2;go_roundw
        case rel=>exact⟨k2+1,atk,by omega,by go_num,HU.out.same H123.out.1 H123.out.2.1 HST2.out,rfl,HA5.out.drewN nq,HO5.out.drewN nq,hb5.trans (zad _ _ _)⟩
        case measure=>simp[intOf];omega
      ·obtain rfl:k2=L.length:=by omega
       have HDN:=Qaz (Upd.done HAL.out HU.out);rw[hD]at HDN;have HM2:Hid (merge L=(merge (zcc L atk)).map ((out++[s])++ ·)):=Qaz (by
        rw[HDN.out,HM.out,HST.out];cases merge (rm s D)<;>simp)
       have HTT:Hid ((out++[s]).length+total (zcc L atk)≤2400):=Qaz (by rw[HDN.out];have:=HRL.out;simp;omega);have HTL:Hid (total (zcc L atk)<total D):=Qaz (by rw[HDN.out];have:=HRL.out;omega);have HLE2:Hid (∀(j:Nat) y n,L[j]? =some y→atk[j]? =some n→n≤y.length):=Qaz (fun j y n h1 h2=>by
        have hj:=(Qcz h1).1;have hja:j<ats.length:=by have:=HAL.out;omega
        have h3:ats[j]? =some ats[j]:=Qbz hja;have h4:=HU.out.at_ j y _ h1 h3;rw[h2,if_pos hj]at h4;cases h4;exact z0b (HLE.out j y _ h1 h3))
       clear HDN;go_wp2;exact⟨⟨atk,out++[s],HU.out.len,HLE2.out,HM2.out,rfl,HTT.out,HA5.out,HO5.out,HVG4.out,hb5⟩,by simp[intOf];have:=HTL.out;omega⟩
def zd9(g:List Heir)(i:Nat):List ByteArray:=(line g i).getD []
def zgc(g:List Heir)(n:Nat):List (List ByteArray):=(List.range n).map (zd9 g)
theorem zri{g:List Heir}{n j:Nat}(h:j<n):(zgc g n)[j]? =some (zd9 g j):=by
 unfold zgc;rw[List.getElem?_map,List.getElem?_range h];rfl
theorem zew(g:List Heir)(n:Nat):(zgc g n).length=n:=by unfold zgc;simp
theorem zjv(g:List Heir)(n:Nat):zgc g (n+1)=zgc g n++[zd9 g n]:=by unfold zgc;rw[List.range_succ,List.map_append];rfl
theorem zup{g:List Heir}(h:zbp [] g=true){i:Nat}{l:List ByteArray}(hl:line g i=some l):0<l.length:=by
 obtain⟨_,_,x,t,_,e,_⟩:=zii h i l hl;rw[e];simp
theorem zrg{g:List Heir}(h:zbp [] g=true){i:Nat}{x:Heir}(hi:g[i]? =some x){s:ByteArray}(hs:s∈x.supers):∃j:Nat,j<i∧idx (names g) s=j∧zcn g s=line g j:=by
 obtain⟨j,hj,e⟩:=ze4 h hi hs;refine⟨j,hj,zft (zer h) (zci e),?_⟩;unfold zcn;rw[e];rfl
theorem zjw{g:List Heir}(h:zbp [] g=true){i:Nat}{x:Heir}(hi:g[i]? =some x):x.supers.length≤8∧x.supers.Nodup:=by
 have hx:=zd3 h i x hi;unfold zdu at hx;simp only[Bool.and_eq_true,decide_eq_true_eq]at hx;refine⟨hx.1.2,?_⟩;have h2:=hx.2;unfold zd7 at h2;rw[List.all_eq_true]at h2;rw[List.nodup_iff_pairwise_ne,List.pairwise_iff_getElem];intro a b ha hb hab e;have:=h2 b (List.mem_range.2 hb);rw[Qbz hb]at this;simp only[Bool.and_eq_true,Bool.not_eq_true']at this;refine zbl.1 this.2 ?_;rw[←e];exact List.mem_iff_getElem?.2 ⟨a,by rw[List.getElem?_take,if_pos hab,Qbz ha]⟩
def ze7(g:List Heir)(x:Heir):Option (List (List ByteArray)):=zbq (zcn g) x.supers
theorem zq1{g:List Heir}(h:zbp [] g=true){i:Nat}{x:Heir}(hi:g[i]? =some x):line g i=(ze7 g x).bind fun ls=>(merge (ls++[x.supers])).map (x.name:: ·):=zpj h hi
theorem zow{g:List Heir}(h:zbp [] g=true)(hg:g.length≤120){i:Nat}{x:Heir}(hi:g[i]? =some x){ls:List (List ByteArray)}(hl:ze7 g x=some ls):(ls++[x.supers]).length≤20∧∀y∈ls++[x.supers],y.length≤120∧y.Nodup:=by
 obtain⟨e1,e2⟩:=zdd hl;obtain⟨f1,f2⟩:=zjw h hi;refine⟨by simp;omega,fun y hy=> ?_⟩;rcases List.mem_append.1 hy with hy|hy
 ·obtain⟨k,hk⟩:=Qez hy;have hkl:=(Qcz hk).1;have hs:x.supers[k]? =some x.supers[k]:=Qbz (by omega);obtain⟨z,hz,hf⟩:=e2 k _ hs;rw[hk]at hz;cases hz
  obtain⟨j,hj,_,e⟩:=zrg h hi (Qdz hs);rw[e]at hf;exact⟨by have:=zbr h hf;omega,(zii h j y hf).1⟩
 ·rw[List.mem_singleton.1 hy];exact⟨by omega,f2⟩
theorem zqj(A:Option Addr)(c:Nat)(g:List Heir)(AL:Option Addr)(cl:Nat)(i:Nat)(x:Heir)(W:World)(G GL:Nat→Prop)(hH:Held G (Heirs A g) W)(hgk:zbp [] g=true)(hg:g.length≤120)(hx:g[i]? =some x)
  (hL:Held GL (Lsts AL (zgc g i)) W):
  Calls Tryz.prog 172 #[.slice A g.length c,.slice AL i cl,.int .i64 i] W fun e w'=>Below W.heap.size W w'∧((∃ls,ze7 g x=some ls∧∃v,e=.returned (.tuple #[v,.bool true])∧Own lstR 108 1 W.heap.size (fun b=>b<W.heap.size) v (ls++[x.supers]) w')∨(ze7 g x=none∧e=.returned (.tuple #[.slice none 0 0,.bool false]))):=by
 have H:=Qaz hH.here;have HL:=Qaz hL.here;have HX:=Qaz hx;obtain⟨f1,f2⟩:=zjw hgk hx;have hil:=(Qcz hx).1;obtain⟨ba,oa,rfl⟩:=Slc.addrH hH (by omega);have HSI:Hid (∀(k:Nat)(s:ByteArray),x.supers[k]? =some s→∃j:Nat,j<i∧idx (names g) s=j∧zcn g s=line g j):=Qaz (fun k s h=>zrg hgk hx (Qdz h));have HLP:Hid (∀(j:Nat)(l:List ByteArray),line g j=some l→0<l.length∧l.length≤120):=Qaz (fun j l h=>⟨zup hgk h,by have:=zbr hgk h;omega⟩)
 have HHC:Hid (∀V s,Below W.heap.size W V→Calls Tryz.prog 205 #[.slice (some ⟨ba,oa,none⟩) g.length c,.string s] V fun e V'=>e=.returned (.int .i64 (idx (names g) s))∧V=V'):=Qaz (fun V s hv=>zsx _ c g s V _ (hH.keep (Keep.all hv)) (by omega));clear hH hL hgk hx;have w1:(0:Int)≤(i:Int):=by omega
 have w2:(i:Int)<(g.length:Int):=by omega
 go_enter Tryz.func172,Tryz.ntmps172;go_wp2_with (fail)
 go_loopw [8,9] (fun v k wr=>∃(j:Nat)(ls:List (List ByteArray))(u:Value),j≤x.supers.length∧k=.int .i64 j∧v=u∧zbq (zcn g) (x.supers.take j)=some ls∧ls.length=j∧Own lstR 108 1 W.heap.size (fun b=>b<W.heap.size) u ls wr∧Below W.heap.size W wr) (fun _ k _=>x.supers.length-(intOf k).toNat)
 case atStart=>exact⟨0,[],_,Qjz _,rfl,rfl,rfl,rfl,Own.nil _ _ _ _ _ _,Below.refl _ _⟩
 case round=>
  obtain⟨j,ls,u,hj,rfl,rfl,hall,hlsl,hown,hb⟩:=hrel;have HALL:=Qaz hall;clear hall;obtain⟨A2,c2,p1,p2,g0,g1⟩:=Heirs.atH (H.out.below hb) HX.out;by_cases hjl:j<x.supers.length
  ·have hs:x.supers[j]? =some x.supers[j]:=Qbz hjl;generalize x.supers[j]=s at hs;obtain⟨q,hq,hix,hlo⟩:=HSI.out j s hs;obtain⟨b2,o2,rfl⟩:=Slc.addrH p2 (by omega);have gs:=(Strs.atH p2 hs).now;have hrow:=zri (g:=g) hq;obtain⟨bl,ol,rfl⟩:=Slc.addrH HL.out (by rw[zew];omega);obtain⟨A3,c3,r1,r2,g3⟩:=Lsts.atH (HL.out.below hb) hrow;have HC:=Qaz (HHC.out wr s hb);rw[hix]at HC;have w3:(0:Int)≤(j:Int):=by omega
   have w4:(j:Int)<(x.supers.length:Int):=by omega
   have w5:(0:Int)≤(q:Int):=by omega
   have w6:(q:Int)<(i:Int):=by omega
   have HS:=Qaz hs;have HIX:=Qaz (And.intro hix hlo);clear hs hix hlo hrow g0;cases hln:line g q with
   |none=>
    have e0:zd9 g q=[]:=by unfold zd9;rw[hln];rfl
    rw[e0]at r1 r2 g3;have HN:Hid (ze7 g x=none):=Qaz (zfm HS.out (by rw[HIX.out.2,hln]));clear hln e0 hown;go_wp2_with (fail);refine HC.out.mono ?_;rintro e V ⟨rfl,rfl⟩;go_wp2;go_ret2;exact⟨hb,.inr ⟨HN.out,rfl⟩⟩
   |some z=>
    obtain⟨z1,z2⟩:=HLP.out q z hln;have e0:zd9 g q=z:=by unfold zd9;rw[hln];rfl
    rw[e0]at r1 r2 g3;have t3:((z.length:Int)==0)=false:=Qfz (by omega);have HA2:Hid (zbq (zcn g) (x.supers.take (j+1))=some (ls++[z])):=Qaz (by
     rw[take_snoc HS.out,zgq,HALL.out,HIX.out.2,hln];rfl)
    have hsz:=hb.size;clear hln e0;go_wp2_with (fail);refine HC.out.mono ?_;rintro e V ⟨rfl,rfl⟩;clear HC;go_wp2_with (at_builtin;refine zao lstR 108 1 W.heap.size 24 (fun b=>b<W.heap.size) _ rfl _ _ 111 _ rfl Tryz.underlying111 zf0 rfl (by decide) (by decide) _ ls rfl ?own ⟨_,0,none⟩ 1 rfl z [.slice A3 z.length c3] rfl ?cells ?one ?held ?hG ?base ?len ?_)
    case own=>exact hown.alloc _
    case cells=>exact zaq _ _ _ _ (by simp)
    case one=>simp[Value.oneCell']
    case held=>exact(lstR.mk r1 r2).keep (Keep.alloc _ _ _)
    case hG=>intro b' hb' e;exact absurd (hown.lt _ e).1 (by omega)
    case base=>simp;omega
    case len=>omega
    intro v' w3' hown1 hg1 _;have bF:Below W.heap.size W w3':=(hb.alloc hsz _).grown hg1 (by simp;omega) fun k' e=>(hown.lt _ e).1;have HOF:=Qaz hown1;clear hown hown1 hg1;go_wp2;exact⟨⟨j+1,ls++[z],_,by omega,by go_num,rfl,HA2.out,by simp[hlsl],HOF.out,bF⟩,by simp[intOf];omega⟩
  ·obtain rfl:j=x.supers.length:=by omega
   have HR:Hid (ze7 g x=some ls):=Qaz (by have:=HALL.out;rwa [List.take_length]at this);have hsz:=hb.size;go_wp2_with (at_builtin;refine zao lstR 108 1 W.heap.size 24 (fun b=>b<W.heap.size) _ rfl _ _ 111 _ rfl Tryz.underlying111 zf0 rfl (by decide) (by decide) _ ls rfl ?own ⟨_,0,none⟩ 1 rfl x.supers [.slice A2 x.supers.length c2] rfl ?cells ?one ?held ?hG ?base ?len ?_)
   case own=>exact hown.alloc _
   case cells=>exact zaq _ _ _ _ (by simp)
   case one=>simp[Value.oneCell']
   case held=>exact(lstR.mk p1 p2).keep (Keep.alloc _ _ _)
   case hG=>intro b' hb' e;exact absurd (hown.lt _ e).1 (by omega)
   case base=>simp;omega
   case len=>omega
   intro v' w3' hown1 hg1 _;have bF:Below W.heap.size W w3':=(hb.alloc hsz _).grown hg1 (by simp;omega) fun k' e=>(hown.lt _ e).1;have HOF:=Qaz hown1;clear hown hown1 hg1;go_wp2;go_ret2;exact⟨bF,.inl ⟨ls,HR.out,_,rfl,HOF.out⟩⟩
def RowsAt(base:Nat)(u:Value)(L:List (List ByteArray))(w:World):Prop:=∃Gr:Nat→Prop,Own lstR 108 1 base Gr u L w∧∀b,Gr b→b<w.heap.size∧u.ownBlock≠some b
theorem RowsAt.all{base:Nat}{u:Value}{L:List (List ByteArray)}{w w':World}(h:RowsAt base u L w)(q:Below w.heap.size w w'):RowsAt base u L w':=by
 obtain⟨Gr,h1,h2⟩:=h;exact⟨Gr,h1.all q,fun b hb=>⟨Nat.lt_of_lt_of_le (h2 b hb).1 q.size,(h2 b hb).2⟩⟩
theorem zov(A:Option Addr)(c:Nat)(g:List Heir)(n:Nat)(W:World)(G:Nat→Prop)(hH:Held G (Heirs A g) W)(hgk:zbp [] g=true)(hg:g.length≤120)(hn:n≤g.length):
  Calls Tryz.prog 126 #[.slice A g.length c,.int .i64 ((n:Int)-1)] W fun e w'=>Below W.heap.size W w'∧∃v,e=.returned v∧RowsAt W.heap.size v (zgc g n) w':=by
 have H:=Qaz hH.here;have HH:=Qaz hH;have HLI:Hid (∀(V:World)(i:Nat)(x:Heir) AL cl,Below W.heap.size W V→g[i]? =some x→(∃GL,Held GL (Lsts AL (zgc g i)) V)→Calls Tryz.prog 172 #[.slice A g.length c,.slice AL i cl,.int .i64 i] V fun e w'=>Below V.heap.size V w'∧((∃ls,ze7 g x=some ls∧∃v,e=.returned (.tuple #[v,.bool true])∧Own lstR 108 1 V.heap.size (fun b=>b<V.heap.size) v (ls++[x.supers]) w')∨(ze7 g x=none∧e=.returned (.tuple #[.slice none 0 0,.bool false])))):=
  Qaz (fun V i x AL cl hv hx ⟨GL,hL⟩=>zqj A c g AL cl i x V G GL (HH.out.keep (Keep.all hv)) hgk hg hx hL)
 have HLU:Hid (∀(i:Nat)(x:Heir),g[i]? =some x→line g i=(ze7 g x).bind fun ls=>(merge (ls++[x.supers])).map (x.name:: ·)):=Qaz (fun i x h=>zq1 hgk h);have HLF:Hid (∀(i:Nat)(x:Heir) ls,g[i]? =some x→ze7 g x=some ls→(ls++[x.supers]).length≤20∧∀y∈ls++[x.supers],y.length≤120∧y.Nodup):=Qaz (fun i x ls h h2=>zow hgk hg h h2);have HLL:Hid (∀(j:Nat)(l:List ByteArray),line g j=some l→l.length≤120):=Qaz (fun j l h=>by have:=zbr hgk h;omega);clear hH hgk HH;go_enter Tryz.func126,Tryz.ntmps126;go_wp2_with (fail)
 go_loopw [5,6] (fun v i wr=>∃(k:Nat)(u:Value),k≤n∧i=.int .i64 k∧v=u∧RowsAt W.heap.size u (zgc g k) wr∧Below W.heap.size W wr) (fun _ i _=>n-(intOf i).toNat)
 case atStart=>exact⟨0,_,Qjz _,rfl,rfl,⟨fun _=>False,Own.nil _ _ _ _ _ _,fun b h=>h.elim⟩,Below.refl _ _⟩
 case round=>
  obtain⟨k,u,hk,rfl,rfl,hrows,hb⟩:=hrel;by_cases hkn:k<n
  ·have hle:(k:Int)≤(n:Int)-1:=by omega
   have hx:g[k]? =some g[k]:=Qbz (by omega);generalize g[k]=x at hx;have HX:=Qaz hx;obtain⟨Gr,hown,hgr⟩:=hrows;obtain⟨AL,cl,rfl,hcl,hHL⟩:=hown.out;rw[zew]at hown hgr hHL hcl ⊢;have HC:=Qaz (HLI.out wr k x AL cl hb hx ⟨_,hHL⟩);have HR:=Qaz (And.intro hown hgr);have hLU:=HLU.out k x hx;have hkg:k<g.length:=by omega
   obtain⟨ba,oa,rfl⟩:=Slc.addrH H.out (by omega);clear hHL hown hgr hx;go_wp2_with (fail);refine HC.out.mono ?_;clear HC;rintro e V ⟨hbv,(⟨ls,hls,v,rfl,hv⟩|⟨hls,rfl⟩)⟩;rotate_left
   ·have HLN:Hid (zd9 g k=[]):=Qaz (by unfold zd9;rw[hLU,hls];simp only[Option.bind_none,Option.getD_none]);have hbV:=zab hb hbv;obtain⟨hown,hgr⟩:=HR.out;have hownV:=hown.all hbv;have hsz:=hbv.size;have hszW:=hb.size;clear hls hLU HR;go_wp2_with (at_builtin;refine zao lstR 108 1 W.heap.size 24 Gr _ rfl _ _ 111 _ rfl Tryz.underlying111 zf0 rfl (by decide) (by decide) _ (zgc g k) rfl ?own ⟨_,0,none⟩ 1 rfl [] [.slice none 0 0] rfl ?cells ?one ?held ?hG ?base ?len ?_)
    case own=>exact hownV.alloc _
    case cells=>exact zaq _ _ _ _ (by simp)
    case one=>simp[Value.oneCell']
    case held=>exact lstR.mk (Qiz _) (fun _ _=>Slc.nil _ _ _ _)
    case hG=>exact fun b hb'=>(hgr b hb').2
    case base=>simp;omega
    case len=>rw[zew];omega
    intro v' w3 hown1 hg1 hat1;have bF:Below W.heap.size W w3:=(hbV.alloc hbV.size _).grown hg1 (by simp;omega) fun k' e=>(hownV.lt _ e).1;have hRF:RowsAt W.heap.size v' (zgc g (k+1)) w3:=by
     rw[zjv,HLN.out];refine⟨Gr,hown1,fun b hb'=>⟨by have:=(hgr b hb').1;have:=hg1.size;simp at this;omega,fun e=> ?_⟩⟩;rcases hat1 with q|q
     ·exact(hgr b hb').2 (q.symm.trans e)
     ·rw[e]at q;have:=Option.some.inj q;have:=(hgr b hb').1
      first|omega|(simp at*;omega)
    have HRF:=Qaz hRF;clear hRF hown1 hg1 hat1 hown hgr hownV;go_wp2;exact⟨⟨k+1,_,by omega,by go_num,rfl,HRF.out,bF⟩,by simp[intOf];omega⟩
   obtain⟨Av,cv,rfl,hcv,hHv⟩:=hv.out;have hbV:=zab hb hbv;obtain⟨f1,f2⟩:=HLF.out k x ls HX.out hls;have HM:=Qaz (zrj Av cv (ls++[x.supers]) V _ hHv f1 f2);have hll:(ls++[x.supers]).length=ls.length+1:=by simp
   rw[hll]at HM;rw[hls]at hLU;have HLS:=Qaz hLU;clear hLU hls hv hHv f2 f1 hcv hll;go_wp2_with (fail);refine HM.out.mono ?_;clear HM;rintro e V2 ⟨hbv2,(⟨out,vm,hm,rfl,hvm⟩|⟨hm,rfl⟩)⟩;rotate_left
   ·have HLN:Hid (zd9 g k=[]):=Qaz (by
     unfold zd9;rw[HLS.out]
     simp only[Option.bind_some,hm,Option.map_none,Option.getD_none])
    have hbV2:=zab hbV hbv2;obtain⟨hown,hgr⟩:=HR.out;have hownV:=(hown.all hbv).all hbv2;have hsz:=hbv.size;have hsz2:=hbv2.size;have hszW:=hb.size;clear hm HLS HR;go_wp2_with (at_builtin;refine zao lstR 108 1 W.heap.size 24 Gr _ rfl _ _ 111 _ rfl Tryz.underlying111 zf0 rfl (by decide) (by decide) _ (zgc g k) rfl ?own ⟨_,0,none⟩ 1 rfl [] [.slice none 0 0] rfl ?cells ?one ?held ?hG ?base ?len ?_)
    case own=>exact hownV.alloc _
    case cells=>exact zaq _ _ _ _ (by simp)
    case one=>simp[Value.oneCell']
    case held=>exact lstR.mk (Qiz _) (fun _ _=>Slc.nil _ _ _ _)
    case hG=>exact fun b hb'=>(hgr b hb').2
    case base=>simp;omega
    case len=>rw[zew];omega
    intro v' w3 hown1 hg1 hat1;have bF:Below W.heap.size W w3:=(hbV2.alloc hbV2.size _).grown hg1 (by simp;omega) fun k' e=>(hownV.lt _ e).1;have hRF:RowsAt W.heap.size v' (zgc g (k+1)) w3:=by
     rw[zjv,HLN.out];refine⟨Gr,hown1,fun b hb'=>⟨by have:=(hgr b hb').1;have:=hg1.size;simp at this;omega,fun e=> ?_⟩⟩;rcases hat1 with q|q
     ·exact(hgr b hb').2 (q.symm.trans e)
     ·rw[e]at q;have:=Option.some.inj q;have:=(hgr b hb').1
      first|omega|(simp at*;omega)
    have HRF:=Qaz hRF;clear hRF hown1 hg1 hat1 hown hgr hownV;go_wp2;exact⟨⟨k+1,_,by omega,by go_num,rfl,HRF.out,bF⟩,by simp[intOf];omega⟩
   have HLN:Hid (zd9 g k=x.name::out∧line g k=some (x.name::out)):=Qaz (by
    have e:line g k=some (x.name::out):=by
     rw[HLS.out];simp only[Option.bind_some,hm,Option.map_some]
    exact⟨by unfold zd9;rw[e,Option.getD_some],e⟩)
   have hol:out.length≤120:=by have:=HLL.out k _ HLN.out.2;simp at this;omega
   have hbV2:=zab hbV hbv2;obtain⟨Am,cm,rfl,hcm,hHm⟩:=hvm.out;obtain⟨A2,c2,_,_,g0,_⟩:=Heirs.atH (H.out.below hbV2) HX.out;obtain⟨hown,hgr⟩:=HR.out;have hownV:=(hown.all hbv).all hbv2;have hsz:=hbv.size;have hsz2:=hbv2.size;have hszW:=hb.size;have w1:(0:Int)≤(k:Int):=by omega
   have w2:(k:Int)<(g.length:Int):=by omega
   have HMM:=Qaz hHm.here;have HOV:=Qaz hownV;have HGR:=Qaz hgr;have HLT:Hid (∀b,(Value.slice AL k cl).ownBlock=some b→b<wr.heap.size):=Qaz (fun b e=>(hown.lt b e).2);clear hm HLS HR hvm hHm hown hownV hgr;go_wp2_with (at_builtin;refine Classical.byContradiction fun hneg=> ?_);apply hneg;clear hneg;refine zby zcz zkr 9 1 V2.heap.size 16 (fun b=>b<V2.heap.size) _ rfl _ _ 108 _ rfl Tryz.underlying108 info9 rfl (by decide) (by decide) (.slice (some ⟨V2.heap.size,0,none⟩) 1 1) [x.name] out rfl (Own.single rfl (Qiz _) rfl (by decide) (fun _ _=>rfl)) Am cm out.length rfl rfl ?src ?hG ?base ?len ?_
   case src=>exact HMM.out.keep (Keep.alloc _ _ _)
   case hG=>intro b hb' e;simp[Value.ownBlock]at e;omega
   case base=>simp
   case len=>simp;omega
   intro vx w3 hownx hgx hatx;obtain⟨Ax,cx,rfl,hcx,hHx⟩:=(zsk (G':=fun _=>False) hownx).out;have hb3:Below V2.heap.size V2 w3:=((Below.refl _ _).alloc (Qiz _) _).grown hgx (by simp) (fun k e=>by simp[Value.ownBlock]at e;omega);have hxb:∀b,(Value.slice Ax ([x.name]++out).length cx).ownBlock=some b→V2.heap.size≤b∧b<w3.heap.size:=fun b e=>hownx.lt b e;have hsz3:=hb3.size;have HO3:=Qaz ((HOV.out.all hb3).mono (G':=fun b=>Gr b∨(Value.slice Ax ([x.name]++out).length cx).ownBlock=some b) fun b _ h=>.inl h)
   have HX3:Hid (Held (fun b=>Gr b∨(Value.slice Ax ([x.name]++out).length cx).ownBlock=some b) (lstR ([x.name]++out) [.slice Ax ([x.name]++out).length cx]) w3):=Qaz (lstR.mk hcx (hHx.mono fun b _ h=>by
    rcases h with h|h
    ·exact h.elim
    ·exact .inr h))
   have HB3:=Qaz hxb;clear hownx hgx hatx hHx hxb g0;have hlen2:([x.name]++out).length=out.length+1:=by simp
   rw[hlen2]at HO3 HX3 HB3;go_wp2_with (at_builtin;refine Classical.byContradiction fun hneg=> ?_);apply hneg;clear hneg;refine zao lstR 108 1 W.heap.size 24 (fun b=>Gr b∨(Value.slice Ax (out.length+1) cx).ownBlock=some b) _ rfl _ _ 111 _ rfl Tryz.underlying111 zf0 rfl (by decide) (by decide) (.slice AL k cl) (zgc g k) rfl (HO3.out.alloc _) ⟨_,0,none⟩ 1 rfl ([x.name]++out) [.slice Ax (out.length+1) cx] rfl (zaq _ _ _ _ (by simp)) ?one ?held ?hG ?base ?len ?_
   case one=>simp[Value.oneCell']
   case held=>exact HX3.out.keep (Keep.alloc _ _ _)
   case hG=>
    rintro b (q|q) e
    ·exact(HGR.out b q).2 e
    ·have h1:=(HB3.out b q).1;have h2:=HLT.out b e;omega
   case base=>simp;omega
   case len=>rw[zew];omega
   intro v' w4 hown1 hg1 hat1;have hbV3:=zab hbV2 hb3;have bF:Below W.heap.size W w4:=(hbV3.alloc hbV3.size _).grown hg1 (by have:=hbV3.size;simp;omega) fun k' e=>(HO3.out.lt _ e).1;have hRF:RowsAt W.heap.size v' (zgc g (k+1)) w4:=by
    rw[zjv,HLN.out.1];refine⟨_,hown1,fun b hb'=> ?_⟩;have h4:w3.heap.size<w4.heap.size:=by have:=hg1.size;simp at this;omega
    have h5:b<w3.heap.size:=by
     rcases hb' with q|q
     ·have:=(HGR.out b q).1;omega
     ·exact(HB3.out b q).2
    refine⟨by omega,fun e=> ?_⟩;rcases hat1 with q|q
    ·rcases hb' with p|p
     ·exact(HGR.out b p).2 (q.symm.trans e)
     ·have h1:=(HB3.out b p).1;have h2:=HLT.out b (q.symm.trans e);omega
    ·rw[e]at q;have q2:=Option.some.inj q;simp only[World.alloc,Array.size_push]at q2;omega
   have HRF:=Qaz hRF;clear hRF hown1 hg1 hat1;go_wp2;exact⟨⟨k+1,_,by omega,by go_num,rfl,HRF.out,bF⟩,by simp[intOf];omega⟩
  ·obtain rfl:k=n:=by omega
   have hle:¬(k:Int)≤(k:Int)-1:=by omega
   have HR:=Qaz hrows;clear hrows;go_wp2;go_ret;exact⟨hb,_,rfl,HR.out⟩
end Go.Proofs.YtepnmejahbiacaaGreat
