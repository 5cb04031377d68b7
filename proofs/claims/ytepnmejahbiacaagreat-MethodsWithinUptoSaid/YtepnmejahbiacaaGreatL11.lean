/- Part 11 of the proof: Nt. -/
import Derived.Test.YtepnmejahbiacaaGreatL10
import Derived.Test.YtepnmejahbiacaaGreatL09
import Derived.Test.YtepnmejahbiacaaGreatL03
import Derived.Test.YtepnmejahbiacaaGreatL02
import Derived.Test.YtepnmejahbiacaaGreatL01
import Derived.BigQuiet
import Derived.Deep.Draws
import Derived.Deep.LoopGhost
import Derived.Deep.QuietTactic
import Derived.KernelRfl
import Derived.Lib.Hide
import Derived.Maps.AppendAt
import Derived.Maps.OwnIn
import Derived.Outline
import Derived.OwnWalkIn
import Derived.RangeFuncBound
import Derived.RangeFuncCalls
import Derived.RangeFuncLeaves
import Derived.RangeFuncNested
import Derived.Stop.RegionWithIn
import Derived.TacticsInMore
import Derived.Test.YtepnmejahbiacaaGreatProg
import Derived.WalkKit
import Derived.Laws.EntriesVeiled
set_option linter.unusedVariables false
set_option linter.unusedSimpArgs false
namespace Go.Proofs.YtepnmejahbiacaaGreat
open Go.RowKit
attribute [local go_sem] Oper.semAt_some
set_option maxHeartbeats 8000000 in
set_option maxRecDepth 100000 in
theorem nested1_calls (l tb N : Nat) (S : Nat → Prop) (hSN : ∀ b, S b → b < N) (htbS : ¬ S tb) (Mx : Nat) (J : Nat → World → Prop) (K : World → Prop) (HY : YieldsN Tryz.prog l S Mx J K)
    (t : Ty) (m : Nat) (A : Option Addr) (c : Nat) (W : World) (hJ : J m W) (hm : m + t.count ≤ Mx) (hN : N ≤ W.heap.size) (hA : Held (fun b => ¬ S b) (Typs A t.args) W) (hc : t.args.length ≤ c)
    (hall : t.all (fun x => decide (x.args.length ≤ 1000000)) = true)
    (ht0 : W.cell? ⟨tb, 0, none⟩ = some (.int .i64 t.kind)) (ht1 : W.cell? ⟨tb, 1, none⟩ = some (.string t.name)) (ht2 : W.cell? ⟨tb, 2, none⟩ = some (.int .i64 t.lo)) (ht3 : W.cell? ⟨tb, 3, none⟩ = some (.int .i64 t.hi)) (ht4 : W.cell? ⟨tb, 4, none⟩ = some (.slice A t.args.length c)) :
    Calls Tryz.prog 192 #[.func (.yield l) #[] #[], .pointer (some ⟨tb, 0, none⟩)] W fun e W' => Chg S W W' ∧ (∃ v, e = .returned v) ∧ ((t.deep 100 = false ∧ J (m + t.count) W') ∨ (t.deep 100 = true ∧ K W')) := by
  have htl := cell_lt ht0
  have hl : t.args.length ≤ 1000000 := by
    rw [Ty.all_args] at hall
    simp only [Bool.and_eq_true, decide_eq_true_eq] at hall
    exact hall.1
  have hmf : ∀ (fn : Fn) (first cap : Array Value) (w : World), (Instr.makeFunc fn first cap).run Tryz.prog w = .ok (.func fn first cap) w := fun _ _ _ _ => rfl
  obtain ⟨V, hV⟩ : ∃ V, V = (W.alloc (.cells #[.func (.yield l) #[] #[]] 221)).alloc (.cells #[.func (.func 193) #[] #[.pointer (some ⟨W.heap.size, 0, none⟩), .pointer (some ⟨W.heap.size + 1, 0, none⟩)]] 222) := ⟨_, rfl⟩
  have bV : Below W.heap.size W V := by rw [hV]; exact ((Below.refl _ W).alloc (Nat.le_refl _) _).alloc (by simp) _
  have y0 : V.cell? ⟨W.heap.size, 0, none⟩ = some (.func (.yield l) #[] #[]) := by rw [hV]; exact alloc_cell (cell_new W _ _ _ rfl 0 _ rfl)
  have y1 : V.cell? ⟨W.heap.size + 1, 0, none⟩ = some (.func (.func 193) #[] #[.pointer (some ⟨W.heap.size, 0, none⟩), .pointer (some ⟨W.heap.size + 1, 0, none⟩)]) := by rw [hV]; exact cell_new (W.alloc _) _ _ _ (by simp) 0 _ rfl
  have HE := Lib.hid (each_calls l W.heap.size (W.heap.size + 1) N S hSN (fun h => by have := hSN _ h; omega) (fun h => by have := hSN _ h; omega) Mx J K HY t.count t (Nat.le_refl _) 1 m A c V (by omega) (by omega) (HY.stay _ _ _ hJ bV) hm (by have := bV.size; omega) (hA.keep (Keep.all bV)) hc hl hall y0 y1)
  have t0 := cell_all ht0 bV
  have t1 := cell_all ht1 bV
  have t2 := cell_all ht2 bV
  have t3 := cell_all ht3 bV
  have t4 := cell_all ht4 bV
  clear hJ hA HY hall y0
  subst hV
  go_enter Tryz.func192, Tryz.ntmps192
  go_wp2_with (fail)
  refine HE.out.mono ?_
  clear HE
  rintro e V ⟨hcv, (⟨r1, rfl, r2⟩ | ⟨r1, rfl, r2⟩)⟩
  · have hcf := (Chg.of bV).trans hcv
    go_wp2
    go_end0
    exact ⟨hcf, ⟨_, rfl⟩, .inl ⟨r1, r2⟩⟩
  · have hcf := (Chg.of bV).trans hcv
    go_wp2
    go_end0
    exact ⟨hcf, ⟨_, rfl⟩, .inr ⟨r1, r2⟩⟩
set_option maxHeartbeats 8000000 in
set_option maxRecDepth 100000 in
theorem nested_calls (t : Ty) (A : Option Addr) (c : Nat) (W : World) : Calls Tryz.prog 161 #[tyV t A c] W fun e W' =>
    e = .returned (.func (.func 192) #[] #[.pointer (some ⟨W.heap.size, 0, none⟩)]) ∧ W' = W.alloc (.cells #[.int .i64 t.kind, .string t.name, .int .i64 t.lo, .int .i64 t.hi, .slice A t.args.length c] 36) := by
  have hmf : ∀ (fn : Fn) (first cap : Array Value) (w : World), (Instr.makeFunc fn first cap).run Tryz.prog w = .ok (.func fn first cap) w := fun _ _ _ _ => rfl
  go_enter Tryz.func161, Tryz.ntmps161
  go_wp2
  go_ret
  exact ⟨rfl, rfl⟩
/-- What types.limits says of a type. -/
def limErr (t : Ty) : Int := if t.deep 100 then 6 else if 1000 < t.count then 2 else 0
set_option maxHeartbeats 8000000 in
set_option maxRecDepth 100000 in
theorem limits_calls (t : Ty) (A : Option Addr) (c : Nat) (W0 : World) (G : Nat → Prop) (hA : Held G (Typs A t.args) W0) (hc : t.args.length ≤ c) (hall : t.all (fun x => decide (x.args.length ≤ 1000000)) = true) (hcnt : t.count ≤ 1000000000) :
    Calls Tryz.prog 112 #[tyV t A c] W0 fun e w' => e = .returned (.int .i64 (limErr t)) ∧ Below W0.heap.size W0 w' := by
  obtain ⟨N, hN⟩ : ∃ N, N = W0.heap.size := ⟨_, rfl⟩
  refine (callsIn_wide (n := 10)).1 ?_
  refine callsIn_of_wp_marks Tryz.func112 rfl trivial ?_
  simp only [Tryz.ntmps112, List.size_toArray, List.length_cons, List.length_nil, Nat.reduceAdd, Nat.reduceSub, Array.replicate_succ, Array.replicate_zero, List.push_toArray, List.append_toArray, List.nil_append, List.cons_append]
  gi_wp2
  refine ⟨trivial, ?_⟩
  refine (callsIn_wide.2 (nested_calls t A c _)).mono ?_
  rintro e w1 ⟨rfl, rfl⟩
  rw [World.size_alloc, World.size_alloc, World.size_alloc, ← hN]
  obtain ⟨w4, hw4⟩ : ∃ w4, w4 = ((((W0.alloc (.cells #[.int .i64 t.kind, .string t.name, .int .i64 t.lo, .int .i64 t.hi, .slice A t.args.length c] 36)).alloc (.cells #[.int .i64 0] 28)).alloc (.cells #[.int .i64 0] 3)).alloc (.cells #[.int .i64 t.kind, .string t.name, .int .i64 t.lo, .int .i64 t.hi, .slice A t.args.length c] 36)) := ⟨_, rfl⟩
  rw [← hw4]
  have s4 : w4.heap.size = N + 4 := by rw [hw4, hN]; simp
  have b4 : Below W0.heap.size W0 w4 := by rw [hw4]; exact ((((Below.refl _ W0).alloc (Nat.le_refl _) _).alloc (by simp) _).alloc (by simp; omega) _).alloc (by simp; omega) _
  have c1 : w4.cell? ⟨N + 1, 0, none⟩ = some (.int .i64 0) := by rw [hw4]; exact alloc_cell (alloc_cell (cell_new (W0.alloc _) _ _ _ (by simp [hN]) 0 _ rfl))
  have c2 : w4.cell? ⟨N + 2, 0, none⟩ = some (.int .i64 0) := by rw [hw4]; exact alloc_cell (cell_new ((W0.alloc _).alloc _) _ _ _ (by simp [hN]) 0 _ rfl)
  have hz : ∀ (W : World) (u : Value) (T : Nat) (n : Nat), n = W.heap.size → (W.alloc (.cells #[u] T)).frozen? ⟨n, 0, none⟩ = false := fun W u T n hn => by subst hn; unfold World.frozen?; rw [heap_alloc_new]; rfl
  have z1 : w4.frozen? ⟨N + 1, 0, none⟩ = false := by
    rw [hw4]
    have q0 := cell_new (W0.alloc (.cells #[.int .i64 t.kind, .string t.name, .int .i64 t.lo, .int .i64 t.hi, .slice A t.args.length c] 36)) #[.int .i64 0] 28 (N + 1) (by simp [hN]) 0 _ rfl
    exact alloc_frozen (alloc_cell q0) (alloc_frozen q0 (hz _ _ _ _ (by simp [hN])))
  have z2 : w4.frozen? ⟨N + 2, 0, none⟩ = false := by
    rw [hw4]
    have q0 := cell_new ((W0.alloc (.cells #[.int .i64 t.kind, .string t.name, .int .i64 t.lo, .int .i64 t.hi, .slice A t.args.length c] 36)).alloc (.cells #[.int .i64 0] 28)) #[.int .i64 0] 3 (N + 2) (by simp [hN]) 0 _ rfl
    exact alloc_frozen q0 (hz _ _ _ _ (by simp [hN]))
  have ct : ∀ j u, [Value.int .i64 t.kind, .string t.name, .int .i64 t.lo, .int .i64 t.hi, .slice A t.args.length c][j]? = some u → w4.cell? ⟨N + 3, j, none⟩ = some u := fun j u hj => by rw [hw4]; exact cell_new _ _ _ _ (by simp [hN]) j u hj
  have hA4 : Held (fun b => b < N) (Typs A t.args) w4 := (hA.lt.keep (Keep.all b4)).mono fun b _ h => by rw [hN]; exact h.2
  have HN := Lib.hid hN
  clear hw4 hA hz hN
  gi_wp2
  refine wpIn_rangeFunc_rec rfl (by simp) rfl trivial (enters Tryz.func192 (by kernel_rfl) rfl) ?_
  intro fn _
  rw [s4]
  generalize hrec : lrec fn _ _ _ _ (N + 4) = rec
  have hBS : ∀ b, (b = N + 1 ∨ b = N + 2 ∨ b = N + 4 ∨ b = N + 5) → b < N + 6 := fun b h => by omega
  have bW : Below w4.heap.size w4 ((w4.alloc (.deferred (some []))).alloc (rec none .ready)) := ((Below.refl _ w4).alloc (Nat.le_refl _) _).alloc (by simp) _
  have hs2 : ((w4.alloc (.deferred (some []))).alloc (rec none .ready)).heap.size = N + 6 := by simp [s4]
  refine (callsIn_wide.2 (nested1_calls (N + 5) (N + 3) (N + 6) (fun b => b = N + 1 ∨ b = N + 2 ∨ b = N + 4 ∨ b = N + 5) hBS (by omega) 2000000000
    (fun m W => W.heap[N + 5]? = some (rec none .ready) ∧ W.heap[N + 4]? = some (.deferred (some [])) ∧ W.cell? ⟨N + 2, 0, none⟩ = some (.int .i64 (m : Int)) ∧ W.frozen? ⟨N + 2, 0, none⟩ = false ∧ W.cell? ⟨N + 1, 0, none⟩ = some (.int .i64 0) ∧ W.frozen? ⟨N + 1, 0, none⟩ = false)
    (fun W => W.heap[N + 5]? = some (rec (some .ret) .done) ∧ W.heap[N + 4]? = some (.deferred (some [])) ∧ W.cell? ⟨N + 1, 0, none⟩ = some (.int .i64 6))
    ⟨?stay, ?on, ?off⟩ t 0 A c _ ⟨?j1, ?j2, ?j3, ?j4, ?j5, ?j6⟩ (by omega) (by omega) ?hA hc hall ?t0 ?t1 ?t2 ?t3 ?t4)).mono ?_
  case t0 => exact cell_all (ct 0 _ rfl) bW
  case t1 => exact cell_all (ct 1 _ rfl) bW
  case t2 => exact cell_all (ct 2 _ rfl) bW
  case t3 => exact cell_all (ct 3 _ rfl) bW
  case t4 => exact cell_all (ct 4 _ rfl) bW
  case hA => exact (hA4.keep (Keep.all bW)).mono fun b _ h => by omega
  case j1 =>
    have := World.alloc_heap_new (w4.alloc (.deferred (some []))) (rec none .ready)
    rwa [World.size_alloc, s4] at this
  case j2 =>
    have := World.alloc_heap_new w4 (.deferred (some []))
    rw [s4] at this
    exact alloc_block this
  case j3 => exact cell_all c2 bW
  case j4 => exact alloc_frozen (alloc_cell c2) (alloc_frozen c2 z2)
  case j5 => exact cell_all c1 bW
  case j6 => exact alloc_frozen (alloc_cell c1) (alloc_frozen c1 z1)
  case stay =>
    rintro m W W' ⟨h1, h2, h3, h4, h5, h6⟩ hb
    have bl : ∀ b, b < W.heap.size → W'.heap[b]? = W.heap[b]? := hb.block
    exact ⟨(bl _ (Array.getElem?_eq_some_iff.1 h1).1).trans h1, (bl _ (Array.getElem?_eq_some_iff.1 h2).1).trans h2, cell_all h3 hb, (World.frozen?_of_block (a := ⟨N + 2, 0, none⟩) (bl _ (cell_lt h3))).trans h4, cell_all h5 hb, (World.frozen?_of_block (a := ⟨N + 1, 0, none⟩) (bl _ (cell_lt h5))).trans h6⟩
  case on =>
    rintro n m W t' A' c' d ⟨h1, h2, h3, h4, h5, h6⟩ hm hd _ _
    refine yield_round hrec trivial h1 rfl (by simp; rfl) ?_
    clear hrec
    have t1 : decide ((100 : Int) < (d : Int)) = false := decide_eq_false (by omega)
    have l1 := (Array.getElem?_eq_some_iff.1 h1).1
    gi_wp2
    refine ⟨h1, ?_⟩
    obtain ⟨Wb, hWb⟩ : ∃ Wb, Wb = W.putObj (N + 5) (rec none .busy) := ⟨_, rfl⟩
    rw [← hWb]
    have g1 : Wb.heap[N + 5]? = some (rec none .busy) := by rw [hWb]; exact World.putObj_heap_same l1
    have g2 : Wb.heap[N + 4]? = some (.deferred (some [])) := by rw [hWb]; exact (World.putObj_heap_other (by omega)).trans h2
    have k1 : Wb.heap[N + 1]? = W.heap[N + 1]? := by rw [hWb]; exact World.putObj_heap_other (by omega)
    have k2 : Wb.heap[N + 2]? = W.heap[N + 2]? := by rw [hWb]; exact World.putObj_heap_other (by omega)
    have g3 : Wb.cell? ⟨N + 2, 0, none⟩ = some (.int .i64 (m : Int)) := (World.cell?_of_block (a := ⟨N + 2, 0, none⟩) k2).trans h3
    have g4 : Wb.frozen? ⟨N + 2, 0, none⟩ = false := (World.frozen?_of_block (a := ⟨N + 2, 0, none⟩) k2).trans h4
    have g5 : Wb.cell? ⟨N + 1, 0, none⟩ = some (.int .i64 0) := (World.cell?_of_block (a := ⟨N + 1, 0, none⟩) k1).trans h5
    have g6 : Wb.frozen? ⟨N + 1, 0, none⟩ = false := (World.frozen?_of_block (a := ⟨N + 1, 0, none⟩) k1).trans h6
    have cb : Chg (fun b => b = N + 1 ∨ b = N + 2 ∨ b = N + 4 ∨ b = N + 5) W Wb := by rw [hWb]; exact Chg.putObj (S := fun b => b = N + 1 ∨ b = N + 2 ∨ b = N + 4 ∨ b = N + 5) W (by omega) _
    clear hWb h1 h2 h3 h4 h5 h6 k1 k2 l1
    gi_wp2
    obtain ⟨Wc, hWc⟩ : ∃ Wc, Wc = Wb.setCell ⟨N + 2, 0, none⟩ (.int .i64 ((m : Int) + 1)) := ⟨_, rfl⟩
    show roundEnd (N + 5) rec _ .normal _ (Wb.setCell ⟨N + 2, 0, none⟩ (.int .i64 ((m : Int) + 1)))
    rw [← hWc]
    have e1 : Wc.heap[N + 5]? = some (rec none .busy) := by rw [hWc]; exact (Below.heap_setCell Wb ⟨N + 2, 0, none⟩ _ (N + 5) (by show N + 5 ≠ N + 2; omega)).trans g1
    have e2 : Wc.heap[N + 4]? = some (.deferred (some [])) := by rw [hWc]; exact (Below.heap_setCell Wb ⟨N + 2, 0, none⟩ _ (N + 4) (by show N + 4 ≠ N + 2; omega)).trans g2
    have cc : Chg (fun b => b = N + 1 ∨ b = N + 2 ∨ b = N + 4 ∨ b = N + 5) W Wc := by rw [hWc]; exact cb.trans (Chg.setCell (S := fun b => b = N + 1 ∨ b = N + 2 ∨ b = N + 4 ∨ b = N + 5) Wb (p := ⟨N + 2, 0, none⟩) (by show N + 2 = N + 1 ∨ N + 2 = N + 2 ∨ N + 2 = N + 4 ∨ N + 2 = N + 5; omega) _)
    have l2 := (Array.getElem?_eq_some_iff.1 e1).1
    have kk : Wc.heap[N + 1]? = Wb.heap[N + 1]? := by rw [hWc]; exact Below.heap_setCell Wb ⟨N + 2, 0, none⟩ _ (N + 1) (by show N + 1 ≠ N + 2; omega)
    have e3 : Wc.cell? ⟨N + 2, 0, none⟩ = some (.int .i64 ((m + 1 : Nat) : Int)) := by rw [hWc]; exact World.cell?_setCell_same' _ _ _ (by rw [g3]; rfl)
    have e4 : Wc.frozen? ⟨N + 2, 0, none⟩ = false := by rw [hWc, World.frozen?_setCell]; exact g4
    have e5 : Wc.cell? ⟨N + 1, 0, none⟩ = some (.int .i64 0) := (World.cell?_of_block (a := ⟨N + 1, 0, none⟩) kk).trans g5
    have e6 : Wc.frozen? ⟨N + 1, 0, none⟩ = false := (World.frozen?_of_block (a := ⟨N + 1, 0, none⟩) kk).trans g6
    have p1 : ∀ b o, b ≠ N + 5 → (Wc.putObj (N + 5) o).heap[b]? = Wc.heap[b]? := fun b o h => World.putObj_heap_other h
    exact ⟨e1, rfl, ⟨World.putObj_heap_same l2, (p1 _ _ (by omega)).trans e2, (World.cell?_of_block (a := ⟨N + 2, 0, none⟩) (p1 _ _ (by show N + 2 ≠ N + 5; omega))).trans e3, (World.frozen?_of_block (a := ⟨N + 2, 0, none⟩) (p1 _ _ (by show N + 2 ≠ N + 5; omega))).trans e4, (World.cell?_of_block (a := ⟨N + 1, 0, none⟩) (p1 _ _ (by show N + 1 ≠ N + 5; omega))).trans e5, (World.frozen?_of_block (a := ⟨N + 1, 0, none⟩) (p1 _ _ (by show N + 1 ≠ N + 5; omega))).trans e6⟩, cc.trans (Chg.putObj (S := fun b => b = N + 1 ∨ b = N + 2 ∨ b = N + 4 ∨ b = N + 5) _ (by omega) _)⟩
  case off =>
    rintro n m W t' A' c' d ⟨h1, h2, h3, h4, h5, h6⟩ hm hd _ _
    refine yield_round hrec trivial h1 rfl (by simp; rfl) ?_
    clear hrec
    have t1 : decide ((100 : Int) < (d : Int)) = true := decide_eq_true (by omega)
    clear hd
    have l1 := (Array.getElem?_eq_some_iff.1 h1).1
    gi_wp2
    refine ⟨h1, ?_⟩
    obtain ⟨Wb, hWb⟩ : ∃ Wb, Wb = W.putObj (N + 5) (rec none .busy) := ⟨_, rfl⟩
    rw [← hWb]
    have g1 : Wb.heap[N + 5]? = some (rec none .busy) := by rw [hWb]; exact World.putObj_heap_same l1
    have g2 : Wb.heap[N + 4]? = some (.deferred (some [])) := by rw [hWb]; exact (World.putObj_heap_other (by omega)).trans h2
    have k1 : Wb.heap[N + 1]? = W.heap[N + 1]? := by rw [hWb]; exact World.putObj_heap_other (by omega)
    have k2 : Wb.heap[N + 2]? = W.heap[N + 2]? := by rw [hWb]; exact World.putObj_heap_other (by omega)
    have g3 : Wb.cell? ⟨N + 2, 0, none⟩ = some (.int .i64 (m : Int)) := (World.cell?_of_block (a := ⟨N + 2, 0, none⟩) k2).trans h3
    have g4 : Wb.frozen? ⟨N + 2, 0, none⟩ = false := (World.frozen?_of_block (a := ⟨N + 2, 0, none⟩) k2).trans h4
    have g5 : Wb.cell? ⟨N + 1, 0, none⟩ = some (.int .i64 0) := (World.cell?_of_block (a := ⟨N + 1, 0, none⟩) k1).trans h5
    have g6 : Wb.frozen? ⟨N + 1, 0, none⟩ = false := (World.frozen?_of_block (a := ⟨N + 1, 0, none⟩) k1).trans h6
    have cb : Chg (fun b => b = N + 1 ∨ b = N + 2 ∨ b = N + 4 ∨ b = N + 5) W Wb := by rw [hWb]; exact Chg.putObj (S := fun b => b = N + 1 ∨ b = N + 2 ∨ b = N + 4 ∨ b = N + 5) W (by omega) _
    clear hWb h1 h2 h3 h4 h5 h6 k1 k2 l1
    gi_wp2
    obtain ⟨Wc, hWc⟩ : ∃ Wc, Wc = Wb.setCell ⟨N + 1, 0, none⟩ (.int .i64 6) := ⟨_, rfl⟩
    show roundEnd (N + 5) rec _ .ret _ (Wb.setCell ⟨N + 1, 0, none⟩ (.int .i64 6))
    rw [← hWc]
    have e1 : Wc.heap[N + 5]? = some (rec none .busy) := by rw [hWc]; exact (Below.heap_setCell Wb ⟨N + 1, 0, none⟩ _ (N + 5) (by show N + 5 ≠ N + 1; omega)).trans g1
    have e2 : Wc.heap[N + 4]? = some (.deferred (some [])) := by rw [hWc]; exact (Below.heap_setCell Wb ⟨N + 1, 0, none⟩ _ (N + 4) (by show N + 4 ≠ N + 1; omega)).trans g2
    have cc : Chg (fun b => b = N + 1 ∨ b = N + 2 ∨ b = N + 4 ∨ b = N + 5) W Wc := by rw [hWc]; exact cb.trans (Chg.setCell (S := fun b => b = N + 1 ∨ b = N + 2 ∨ b = N + 4 ∨ b = N + 5) Wb (p := ⟨N + 1, 0, none⟩) (by show N + 1 = N + 1 ∨ N + 1 = N + 2 ∨ N + 1 = N + 4 ∨ N + 1 = N + 5; omega) _)
    have l2 := (Array.getElem?_eq_some_iff.1 e1).1
    have e5 : Wc.cell? ⟨N + 1, 0, none⟩ = some (.int .i64 6) := by rw [hWc]; exact World.cell?_setCell_same' _ _ _ (by rw [g5]; rfl)
    have p1 : ∀ b o, b ≠ N + 5 → (Wc.putObj (N + 5) o).heap[b]? = Wc.heap[b]? := fun b o h => World.putObj_heap_other h
    exact ⟨e1, rfl, ⟨World.putObj_heap_same l2, (p1 _ _ (by omega)).trans e2, (World.cell?_of_block (a := ⟨N + 1, 0, none⟩) (p1 _ _ (by show N + 1 ≠ N + 5; omega))).trans e5⟩, cc.trans (Chg.putObj (S := fun b => b = N + 1 ∨ b = N + 2 ∨ b = N + 4 ∨ b = N + 5) _ (by omega) _)⟩
  · rintro e W' ⟨hch, ⟨v, rfl⟩, hq⟩
    have hN0 := HN.out
    have hbB : Below W0.heap.size W0 W' := by
      have h1 := hch.below (B := W0.heap.size) (by rw [hs2]; omega) (fun b hb => by omega)
      exact (b4.trans (bW.mono (by omega))).trans h1
    have hsN : N + 6 ≤ W'.heap.size := by have := hch.size; omega
    have hNB : W0.heap.size ≤ N + 1 ∧ W0.heap.size ≤ N + 4 ∧ W0.heap.size ≤ N + 5 := by omega
    clear hN0
    rcases hq with (⟨hd, h1, h2, h3, h4, h5, h6⟩ | ⟨hd, h1, h2, h3⟩)
    · have hend : (Instr.endLoop (N + 5)).run Tryz.prog W' = .ok none (W'.putObj (N + 5) (rec none .exhausted)) := by subst hrec; exact run_endLoop h1 (by simp)
      clear hrec
      rw [Nat.zero_add] at h3
      obtain ⟨Wd, hWd⟩ : ∃ Wd, Wd = W'.putObj (N + 5) (rec none .exhausted) := ⟨_, rfl⟩
      rw [← hWd] at hend
      have p1 : ∀ b, b ≠ N + 5 → Wd.heap[b]? = W'.heap[b]? := fun b h => by rw [hWd]; exact World.putObj_heap_other h
      have d2 : Wd.heap[N + 4]? = some (.deferred (some [])) := (p1 _ (by omega)).trans h2
      have d3 : Wd.cell? ⟨N + 2, 0, none⟩ = some (.int .i64 (t.count : Int)) := (World.cell?_of_block (a := ⟨N + 2, 0, none⟩) (p1 _ (by show N + 2 ≠ N + 5; omega))).trans h3
      have d5 : Wd.cell? ⟨N + 1, 0, none⟩ = some (.int .i64 0) := (World.cell?_of_block (a := ⟨N + 1, 0, none⟩) (p1 _ (by show N + 1 ≠ N + 5; omega))).trans h5
      have d6 : Wd.frozen? ⟨N + 1, 0, none⟩ = false := (World.frozen?_of_block (a := ⟨N + 1, 0, none⟩) (p1 _ (by show N + 1 ≠ N + 5; omega))).trans h6
      have bd : Below W0.heap.size W0 Wd := by
        have : Chg (fun b => b = N + 5) W' Wd := by rw [hWd]; exact Chg.putObj (S := fun b => b = N + 5) W' rfl _
        exact hbB.trans (this.below hbB.size fun b hb => by omega)
      refine ⟨none, Wd, hend, ?_⟩
      clear hend hWd h1 h2 h3 h4 h5 h6 hch hbB p1 ct c1 c2 z1 z2 s4 hA4 hs2 bW b4
      have HD := Lib.hid hd
      clear hd
      have fin : ∀ (x : Int), Below W0.heap.size W0 ((Wd.setCell ⟨N + 1, 0, none⟩ (.int .i64 x)).putObj (N + 4) (.deferred none)) ∧ (Wd.setCell ⟨N + 1, 0, none⟩ (.int .i64 x)).heap[N + 4]? = some (.deferred (some [])) ∧ ((Wd.setCell ⟨N + 1, 0, none⟩ (.int .i64 x)).putObj (N + 4) (.deferred none)).cell? ⟨N + 1, 0, none⟩ = some (.int .i64 x) := fun x => by
        refine ⟨?_, (Below.heap_setCell Wd ⟨N + 1, 0, none⟩ _ (N + 4) (by show N + 4 ≠ N + 1; omega)).trans d2, ?_⟩
        · have q : Chg (fun b => b = N + 4) (Wd.setCell ⟨N + 1, 0, none⟩ (.int .i64 x)) ((Wd.setCell ⟨N + 1, 0, none⟩ (.int .i64 x)).putObj (N + 4) (.deferred none)) := Chg.putObj (S := fun b => b = N + 4) _ rfl _
          exact (bd.setCell (p := ⟨N + 1, 0, none⟩) hNB.1 _).trans (q.below ((bd.setCell (p := ⟨N + 1, 0, none⟩) hNB.1 _).size) fun b hb => by omega)
        · exact (World.cell?_of_block (a := ⟨N + 1, 0, none⟩) (World.putObj_heap_other (by show N + 1 ≠ N + 4; omega))).trans (World.cell?_setCell_same' _ _ _ (by rw [d5]; rfl))
      by_cases hcn : 1000 < t.count
      · have t2 : decide ((1000 : Int) < (t.count : Int)) = true := decide_eq_true (by omega)
        have HE : Hid (limErr t = 2) := Lib.hid (by unfold limErr; rw [HD.out, if_pos hcn]; rfl)
        obtain ⟨f1, f2, f3⟩ := fin 2
        gi_wp2
        refine ⟨by simp, .inl ⟨_, _, rfl, run_takeDeferred f2, ⟨.int .i64 2, ?_, by rw [HE.out], f1⟩⟩⟩
        simp [results, Tryz.results112, go_sem, f3]
      · have t2 : decide ((1000 : Int) < (t.count : Int)) = false := decide_eq_false (by omega)
        have HE : Hid (limErr t = 0) := Lib.hid (by unfold limErr; rw [HD.out, if_neg hcn]; rfl)
        obtain ⟨f1, f2, f3⟩ := fin 0
        gi_wp2
        refine ⟨by simp, .inl ⟨_, _, rfl, run_takeDeferred f2, ⟨.int .i64 0, ?_, by rw [HE.out], f1⟩⟩⟩
        simp [results, Tryz.results112, go_sem, f3]
    · have hend : (Instr.endLoop (N + 5)).run Tryz.prog W' = .ok (some .ret) (W'.putObj (N + 5) (rec (some .ret) .exhausted)) := by subst hrec; exact run_endLoop h1 (by simp)
      clear hrec
      obtain ⟨Wd, hWd⟩ : ∃ Wd, Wd = W'.putObj (N + 5) (rec (some .ret) .exhausted) := ⟨_, rfl⟩
      rw [← hWd] at hend
      have p1 : ∀ b, b ≠ N + 5 → Wd.heap[b]? = W'.heap[b]? := fun b h => by rw [hWd]; exact World.putObj_heap_other h
      have d2 : Wd.heap[N + 4]? = some (.deferred (some [])) := (p1 _ (by omega)).trans h2
      have d3 : Wd.cell? ⟨N + 1, 0, none⟩ = some (.int .i64 6) := (World.cell?_of_block (a := ⟨N + 1, 0, none⟩) (p1 _ (by show N + 1 ≠ N + 5; omega))).trans h3
      have bd : Below W0.heap.size W0 Wd := by
        have : Chg (fun b => b = N + 5) W' Wd := by rw [hWd]; exact Chg.putObj (S := fun b => b = N + 5) W' rfl _
        exact hbB.trans (this.below hbB.size fun b hb => by omega)
      refine ⟨some .ret, Wd, hend, ?_⟩
      clear hend hWd h1 h2 h3 hch hbB p1 ct c1 c2 z1 z2 s4 hA4 hs2 bW b4
      have HE : Hid (limErr t = 6) := Lib.hid (by unfold limErr; rw [hd]; rfl)
      clear hd
      have f3 : (Wd.putObj (N + 4) (.deferred none)).cell? ⟨N + 1, 0, none⟩ = some (.int .i64 6) := (World.cell?_of_block (a := ⟨N + 1, 0, none⟩) (World.putObj_heap_other (by show N + 1 ≠ N + 4; omega))).trans d3
      have f1 : Below W0.heap.size W0 (Wd.putObj (N + 4) (.deferred none)) := by
        have q : Chg (fun b => b = N + 4) Wd (Wd.putObj (N + 4) (.deferred none)) := Chg.putObj (S := fun b => b = N + 4) _ rfl _
        exact bd.trans (q.below bd.size fun b hb => by omega)
      gi_wp2
      refine ⟨by simp, .inl ⟨_, _, rfl, run_takeDeferred d2, ⟨.int .i64 6, ?_, by rw [HE.out], f1⟩⟩⟩
      simp [results, Tryz.results112, go_sem, f3]
end Go.Proofs.YtepnmejahbiacaaGreat
