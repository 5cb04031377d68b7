/- Part 10 of the proof: Ns. -/
import Derived.Test.YtepnmejahbiacaaGreatL02
import Derived.Test.YtepnmejahbiacaaGreatL01
import Derived.BigQuiet
import Derived.Deep.Draws
import Derived.Deep.LoopGhost
import Derived.Deep.QuietTactic
import Derived.KernelRfl
import Derived.Lib.Hide
import Derived.Maps.AppendAt
import Derived.WalkKit
import Derived.Test.YtepnmejahbiacaaGreatL03
import Derived.Outline
import Derived.Test.YtepnmejahbiacaaGreatProg
import Derived.Test.YtepnmejahbiacaaGreatL09
import Derived.Maps.OwnIn
import Derived.OwnWalkIn
import Derived.RangeFuncBound
import Derived.RangeFuncCalls
import Derived.RangeFuncLeaves
import Derived.RangeFuncNested
import Derived.TacticsInMore
import Derived.Stop.RegionWithIn
set_option linter.unusedVariables false
set_option linter.unusedSimpArgs false
namespace Go.Proofs.YtepnmejahbiacaaGreat
open Go.RowKit
/-- What the loop's body does with a type at a depth. -/
structure YieldsN (P : Program) (l : Nat) (S : Nat → Prop) (Mx : Nat) (J : Nat → World → Prop) (K : World → Prop) : Prop where
  stay : ∀ m W W', J m W → Below W.heap.size W W' → J m W'
  on : ∀ (n m : Nat) W (t : Ty) A c (d : Nat), J m W → m < Mx → d ≤ 100 → Held (fun b => ¬ S b) (Typs A t.args) W → t.args.length ≤ c →
    YieldAt Fence.wide n P l #[.int .i64 (d : Int), tyV t A c] W fun e W' => e = .returned (.bool true) ∧ J (m + 1) W' ∧ Chg S W W'
  off : ∀ (n m : Nat) W (t : Ty) A c (d : Nat), J m W → m < Mx → d = 101 → Held (fun b => ¬ S b) (Typs A t.args) W → t.args.length ≤ c →
    YieldAt Fence.wide n P l #[.int .i64 (d : Int), tyV t A c] W fun e W' => e = .returned (.bool false) ∧ K W' ∧ Chg S W W'
def EachPost (S : Nat → Prop) (J : Nat → World → Prop) (K : World → Prop) (t : Ty) (d m : Nat) (W : World) (e : Ending) (W' : World) : Prop :=
  Chg S W W' ∧ ((t.deep (101 - d) = false ∧ e = .returned (.bool true) ∧ J (m + t.count) W') ∨ (t.deep (101 - d) = true ∧ e = .returned (.bool false) ∧ K W'))
theorem sum_take {l : List Ty} {i : Nat} {x : Ty} (h : l[i]? = some x) : ((l.take (i + 1)).map Ty.count).sum = ((l.take i).map Ty.count).sum + x.count := by
  rw [take_snoc h, List.map_append, List.sum_append]; simp
theorem sum_take_le (l : List Ty) (i : Nat) : ((l.take i).map Ty.count).sum ≤ (l.map Ty.count).sum := by
  conv => rhs; rw [← List.take_append_drop i l, List.map_append, List.sum_append]
  omega
theorem Ty.deep_zero (t : Ty) : t.deep 0 = true := by cases t; rw [Ty.deep]
set_option maxHeartbeats 8000000 in
set_option maxRecDepth 100000 in
theorem each_calls (l yb eb N : Nat) (S : Nat → Prop) (hSN : ∀ b, S b → b < N) (hyb : ¬ S yb) (heb : ¬ S eb) (Mx : Nat) (J : Nat → World → Prop) (K : World → Prop) (HY : YieldsN Tryz.prog l S Mx J K) :
    ∀ (q : Nat) (t : Ty), t.count ≤ q → ∀ (d m : Nat) (A : Option Addr) (c : Nat) (W : World), 1 ≤ d → d ≤ 101 → J m W → m + t.count ≤ Mx → N ≤ W.heap.size → Held (fun b => ¬ S b) (Typs A t.args) W → t.args.length ≤ c → t.args.length ≤ 1000000 →
      t.all (fun x => decide (x.args.length ≤ 1000000)) = true →
      W.cell? ⟨yb, 0, none⟩ = some (.func (.yield l) #[] #[]) → W.cell? ⟨eb, 0, none⟩ = some (.func (.func 193) #[] #[.pointer (some ⟨yb, 0, none⟩), .pointer (some ⟨eb, 0, none⟩)]) →
      Calls Tryz.prog 193 #[tyV t A c, .int .i64 (d : Int), .pointer (some ⟨yb, 0, none⟩), .pointer (some ⟨eb, 0, none⟩)] W (EachPost S J K t d m W) := by
  intro q
  induction q with
  | zero => intro t h; have := t.count_pos; omega
  | succ q ih =>
    intro t hq d m A c W hd1 hd2 hJ hm hN hA hc hl hall hy0 he0
    have hcp := t.count_pos
    have t1 : decide ((101 : Int) < (d : Int)) = false := decide_eq_false (by omega)
    have byl := cell_lt hy0
    have bel := cell_lt he0
    have hnS0 : ¬ S W.heap.size := fun h => by have := hSN _ h; omega
    have hnS : ¬ S (W.heap.size + 1) := fun h => by have := hSN _ h; omega
    obtain ⟨W1, hW1⟩ : ∃ W1, W1 = (W.alloc (.cells #[.int .i64 t.kind, .string t.name, .int .i64 t.lo, .int .i64 t.hi, .slice A t.args.length c] 36)).alloc (.cells #[.int .i64 (d : Int)] 3) := ⟨_, rfl⟩
    have hb1 : Below W.heap.size W W1 := by rw [hW1]; exact ((Below.refl _ W).alloc (Nat.le_refl _) _).alloc (by simp) _
    by_cases h101 : d = 101
    · obtain ⟨fn, tm, asg, bd, hy, hR⟩ := HY.off 8 m W1 t A c d (HY.stay _ _ _ hJ hb1) (by omega) h101 (hA.keep (Keep.all hb1)) hc
      subst hW1
      have H101 := Lib.hid h101
      clear h101
      refine (callsIn_wide (n := 9)).1 ?_
      refine callsIn_of_wp Tryz.func193 rfl trivial ?_
      simp only [Tryz.ntmps193, List.size_toArray, List.length_cons, List.length_nil, Nat.reduceAdd, Nat.reduceSub, Array.replicate_succ, Array.replicate_zero, List.push_toArray, List.append_toArray, List.nil_append, List.cons_append]
      gi_wp2_with (first | (refine hR.mono ?_; rintro e W2 ⟨rfl, hK2, hc2⟩) | (refine ⟨trivial, ?_⟩))
      go_ret
      exact ⟨(Chg.of hb1).trans hc2, .inr ⟨by rw [H101.out]; exact Ty.deep_zero t, rfl, hK2⟩⟩
    · have hd100 : d ≤ 100 := by omega
      obtain ⟨fn, tm, asg, bd, hy, hR⟩ := HY.on 8 m W1 t A c d (HY.stay _ _ _ hJ hb1) (by omega) hd100 (hA.keep (Keep.all hb1)) hc
      have hd1c : W1.cell? ⟨W.heap.size + 1, 0, none⟩ = some (.int .i64 (d : Int)) := by rw [hW1]; exact cell_new (W.alloc _) _ _ _ (by simp) 0 _ rfl
      have hd4c : W1.cell? ⟨W.heap.size, 4, none⟩ = some (.slice A t.args.length c) := by rw [hW1]; exact alloc_cell (cell_new W _ _ _ rfl 4 _ rfl)
      have hs1 : W1.heap.size = W.heap.size + 1 + 1 := by rw [hW1]; simp
      obtain ⟨b, off, hbo⟩ : ∃ b off, 0 < t.args.length → A = some ⟨b, off, none⟩ := by
        by_cases h0 : 0 < t.args.length
        · obtain ⟨b, off, e⟩ := Slc.addrH hA h0
          exact ⟨b, off, fun _ => e⟩
        · exact ⟨0, 0, fun h => absurd h h0⟩
      have HCF : ∀ W2, J (m + 1) W2 → Chg S W1 W2 → Calls Tryz.prog 101 #[.slice A t.args.length c, .func (.func 194) #[] #[.pointer (some ⟨eb, 0, none⟩), .pointer (some ⟨W.heap.size + 1, 0, none⟩)]] W2
          (FoundB (fun i wr => Chg S W2 wr ∧ (∀ j x, j < i → t.args[j]? = some x → x.deep (100 - d) = false) ∧ J (m + 1 + ((t.args.take i).map Ty.count).sum) wr) (fun i wr => Chg S W2 wr ∧ (∃ x, t.args[i]? = some x ∧ x.deep (100 - d) = true) ∧ K wr) (Panics fun _ _ => False) t.args.length) := by
        intro W2 hJ2 hc2
        have hc02 : Chg S W W2 := (Chg.of hb1).trans hc2
        have hA2 : Held (fun b => ¬ S b) (Typs A t.args) W2 := hA.keep (hc02.keep fun b h => h)
        have hs2 := hc2.size
        refine containsFuncTyp A t.args.length c 194 _ (fun i => (t.args[i]?.map fun x => Value.int .i64 x.kind).getD undef) (fun i => (t.args[i]?.map fun x => Value.string x.name).getD undef) (fun i => (t.args[i]?.map fun x => Value.int .i64 x.lo).getD undef) (fun i => (t.args[i]?.map fun x => Value.int .i64 x.hi).getD undef)
          (fun i => (W2.cell? ⟨b, off + i * 5 + 4, none⟩).getD undef) W2 (by omega) (enters Tryz.func194 (by kernel_rfl) rfl) _ _ _ ⟨Chg.refl _ _, fun j x hj => absurd hj (by omega), by simpa using hJ2⟩ (fun h0 => ⟨b, off, hbo h0⟩) ?_ ?_
        · rintro i wr b' off' rfl hi ⟨hcw, _⟩
          have hb' := hbo (by omega)
          simp only [Option.some.injEq, Addr.mk.injEq, and_true] at hb'
          obtain ⟨rfl, rfl⟩ := hb'
          have hx : t.args[i]? = some t.args[i] := List.getElem?_eq_getElem hi
          have kw : Keep (fun b => ¬ S b) W2 wr := hcw.keep fun b h => h
          obtain ⟨A5, c5, p1, p2, g0, g1, g2, g3, g4⟩ := Typs.atH hA2 hx
          have hSb := (Slc.inG hA2 (by omega) (by decide)).2
          simp only [hx, Option.map_some, Option.getD_some, g4]
          exact ⟨cell_keep g0 kw hSb, cell_keep g1 kw hSb, cell_keep g2 kw hSb, cell_keep g3 kw hSb, cell_keep g4 kw hSb⟩
        · rintro i wr hi ⟨hcw, hjw, hJw⟩
          have hb' := hbo (by omega)
          subst hb'
          have hx : t.args[i]? = some t.args[i] := List.getElem?_eq_getElem hi
          generalize t.args[i] = x at hx
          have hmem : x ∈ t.args := List.mem_of_getElem? hx
          have kw : Keep (fun b => ¬ S b) W2 wr := hcw.keep fun b h => h
          obtain ⟨A5, c5, p1, p2, g0, g1, g2, g3, g4⟩ := Typs.atH hA2 hx
          simp only [hx, Option.map_some, Option.getD_some, g4]
          have hsw := hcw.size
          have st := sum_take hx
          have stl := sum_take_le t.args (i + 1)
          have hall2 : x.all (fun x => decide (x.args.length ≤ 1000000)) = true := by
            rw [Ty.all_args] at hall
            simp only [Bool.and_eq_true, List.all_eq_true] at hall
            exact hall.2 x hmem
          have hxl : x.args.length ≤ 1000000 := by
            rw [Ty.all_args] at hall2
            simp only [Bool.and_eq_true, decide_eq_true_eq] at hall2
            exact hall2.1
          have hcnt := Ty.count_mem hmem
          have hcargs := t.count_args
          have e0 := cell_keep he0 (hc02.keep (G := fun b => ¬ S b) fun b h => h) heb
          have e1 := cell_keep e0 kw heb
          have d1 := cell_keep hd1c (hc2.keep (G := fun b => ¬ S b) fun b h => h) hnS
          have d2 := cell_keep d1 kw hnS
          have y1 := cell_keep (cell_keep hy0 (hc02.keep (G := fun b => ¬ S b) fun b h => h) hyb) kw hyb
          have hs02 := hc02.size
          obtain ⟨V, hV⟩ : ∃ V, V = wr.alloc (.cells #[.int .i64 x.kind, .string x.name, .int .i64 x.lo, .int .i64 x.hi, .slice A5 x.args.length c5] 36) := ⟨_, rfl⟩
          have bV : Below wr.heap.size wr V := by rw [hV]; exact (Below.refl _ wr).alloc (Nat.le_refl _) _
          have HI := Lib.hid (ih x (by omega) (d + 1) (m + 1 + ((t.args.take i).map Ty.count).sum) A5 c5 V (by omega) (by omega) (HY.stay _ _ _ hJw bV) (by omega) (by have := bV.size; omega) ((p2.keep kw).keep (Keep.all bV)) p1 hxl hall2 (cell_all y1 bV) (cell_all e1 bV))
          have ewl := cell_lt e1
          have dwl := cell_lt d2
          subst hV
          show Calls _ _ #[.agg #[.int .i64 x.kind, .string x.name, .int .i64 x.lo, .int .i64 x.hi, .slice A5 x.args.length c5], .pointer (some ⟨eb, 0, none⟩), .pointer (some ⟨W.heap.size + 1, 0, none⟩)] _ _
          clear ih hA hA2 hall hall2 hJ hJ2 hJw hy hR HY
          go_enter Tryz.func194, Tryz.ntmps194
          go_wp2_with (fail)
          have HI' := HI.out
          rw [show (((d + 1 : Nat)) : Int) = (d : Int) + 1 by omega] at HI'
          refine HI'.mono ?_
          clear HI HI'
          rintro e V ⟨hcv, (⟨r1, rfl, r2⟩ | ⟨r1, rfl, r2⟩)⟩
          · have hcV := hcw.trans ((Chg.of bV).trans hcv)
            go_wp2
            go_ret
            refine .inl ⟨rfl, hcV, fun j z hj hz => ?_, ?_⟩
            · rcases Nat.lt_or_ge j i with h | h
              · exact hjw j z h hz
              · obtain rfl : j = i := by omega
                rw [hx] at hz; cases hz
                rwa [show 101 - (d + 1) = 100 - d by omega] at r1
            · rw [st]; rwa [Nat.add_assoc] at r2
          · have hcV := hcw.trans ((Chg.of bV).trans hcv)
            go_wp2
            go_ret
            refine .inr (.inl ⟨rfl, hcV, ⟨x, hx, ?_⟩, r2⟩)
            rwa [show 101 - (d + 1) = 100 - d by omega] at r1
      have hdp := Ty.deep_args (100 - d) t
      rw [show 100 - d + 1 = 101 - d by omega] at hdp
      have HDP := Lib.hid hdp
      have HCF1 := Lib.hid HCF
      subst hW1
      clear ih hA hall hdp HCF
      refine (callsIn_wide (n := 9)).1 ?_
      refine callsIn_of_wp Tryz.func193 rfl trivial ?_
      simp only [Tryz.ntmps193, List.size_toArray, List.length_cons, List.length_nil, Nat.reduceAdd, Nat.reduceSub, Array.replicate_succ, Array.replicate_zero, List.push_toArray, List.append_toArray, List.nil_append, List.cons_append]
      gi_wp2_with (refine hR.mono ?_; rintro e W2 ⟨rfl, hJ2, hc2⟩; have dd4 := cell_keep hd4c (hc2.keep (G := fun b => ¬ S b) fun b h => h) hnS0)
      refine ⟨trivial, ?_⟩
      refine (callsIn_wide.2 (HCF1.out W2 hJ2 hc2)).mono ?_
      have hC := (Chg.of (S := S) hb1).trans hc2
      rintro e W3 (⟨rfl, a1, a2, a3⟩ | ⟨i, a0, rfl, a1, ⟨x, a2, a3⟩, a4⟩ | ⟨_, _, h⟩)
      · have hCf := hC.trans a1
        have hdp : t.deep (101 - d) = false := by
          rw [HDP.out, List.any_eq_false]
          intro x hx
          obtain ⟨j, hj⟩ := List.mem_iff_getElem?.1 hx
          rw [a2 j x (List.getElem?_eq_some_iff.1 hj).1 hj]; simp
        have HD := Lib.hid hdp
        rw [List.take_length] at a3
        have HJ3 := Lib.hid a3
        clear hdp a2 a3
        gi_wp2
        go_ret
        exact ⟨hCf, .inl ⟨HD.out, rfl, by have := HJ3.out; rw [Ty.count_args]; rwa [show m + (1 + (t.args.map Ty.count).sum) = m + 1 + (t.args.map Ty.count).sum by omega]⟩⟩
      · have hCf := hC.trans a1
        have HD : Hid (t.deep (101 - d) = true) := Lib.hid (by rw [HDP.out]; exact List.any_eq_true.2 ⟨x, List.mem_of_getElem? a2, a3⟩)
        clear a2 a3
        gi_wp2
        go_ret
        exact ⟨hCf, .inr ⟨HD.out, rfl, a4⟩⟩
      · exact h.elim
end Go.Proofs.YtepnmejahbiacaaGreat
