/- Part 39 of the proof: Rb. -/
import Derived.Test.YtepnmejahbiacaaGreatL04
import Derived.Test.YtepnmejahbiacaaGreatL05
import Derived.Test.YtepnmejahbiacaaGreatL18
import Derived.Test.YtepnmejahbiacaaGreatL07
import Derived.Test.YtepnmejahbiacaaGreatL12
import Derived.Test.YtepnmejahbiacaaGreatL13
import Derived.Test.YtepnmejahbiacaaGreatL14
import Derived.Test.YtepnmejahbiacaaGreatL15
import Derived.Test.YtepnmejahbiacaaGreatL17
import Derived.Test.YtepnmejahbiacaaGreatL19
import Derived.Test.YtepnmejahbiacaaGreatL16
import Derived.Test.YtepnmejahbiacaaGreatL06
import Derived.Test.YtepnmejahbiacaaGreatL10
import Derived.Test.YtepnmejahbiacaaGreatL11
import Derived.Test.YtepnmejahbiacaaGreatL28
import Derived.Test.YtepnmejahbiacaaGreatL09
import Derived.Test.YtepnmejahbiacaaGreatL30
import Derived.Test.YtepnmejahbiacaaGreatL03
import Derived.Test.YtepnmejahbiacaaGreatL02
import Derived.Test.YtepnmejahbiacaaGreatL01
import Derived.BigQuiet
import Derived.Carry
import Derived.Deep.Draws
import Derived.Deep.LoopGhost
import Derived.Deep.QuietTactic
import Derived.Deep.RegionHeld3
import Derived.Deep.Strs
import Derived.JoinedCond
import Derived.KernelRfl
import Derived.Laws.EntriesVeiled
import Derived.Lib.Hide
import Derived.LoopIn
import Derived.LoopNIn
import Derived.Maps.AppendAt
import Derived.Maps.Own
import Derived.Maps.OwnIn
import Derived.OpenShut
import Derived.Outline
import Derived.OwnWalkIn
import Derived.ProofKit
import Derived.RangeFuncBound
import Derived.RangeFuncCalls
import Derived.RangeFuncLeaves
import Derived.RangeFuncNested
import Derived.Recover
import Derived.StillTailTactics
import Derived.Stop.RegionWithIn
import Derived.TacticsInMore
import Derived.Test.YtepnmejahbiacaaGreatProg
import Derived.Test.YtepnmejahbiacaaGreatRows
import Derived.WalkKit
import Derived.WalkSpells
import Derived.WideKeyArgs
import Derived.Test.YtepnmejahbiacaaGreatL20
import Derived.Test.YtepnmejahbiacaaGreatL33
import Derived.Test.YtepnmejahbiacaaGreatL21
import Derived.Test.YtepnmejahbiacaaGreatL34
import Derived.Test.YtepnmejahbiacaaGreatL08
import Derived.Test.YtepnmejahbiacaaGreatL35
import Derived.Test.YtepnmejahbiacaaGreatL32
import Derived.Test.YtepnmejahbiacaaGreatL26
import Derived.Test.YtepnmejahbiacaaGreatL29
import Derived.Test.YtepnmejahbiacaaGreatL36
import Derived.Test.YtepnmejahbiacaaGreatL31
import Derived.Deep.AppendLies
import Derived.Deep.CutBlock
import Derived.Deep.DeepCutAuto
import Derived.Deep.DrawnRows
import Derived.Deep.RegionHeldLaw
import Derived.Deep.RegionLaw
import Derived.Deep.RegionWith
import Derived.Deep.Slices
import Derived.Laws.Cover1
import Derived.Lib.SliceRun
import Derived.Shelf.SlSortCmp.NoneTotal
import Derived.Shelf.SlSortCmp.WholeK
import Derived.Shelf.Spec.SlicesGrow
set_option linter.unusedVariables false
set_option linter.unusedSimpArgs false
namespace Go.Proofs.YtepnmejahbiacaaGreat
open Go.RowKit Go.ChangeShapes Go.WideShapes Go.Deep
theorem int_wf {n : Int} (h : (Lit.int .i64 n).wf = true) : -9223372036854775808 ≤ n ∧ n ≤ 9223372036854775807 := by
  simp [Lit.wf, IntKind.wrap_i64] at h
  have e1 : IntKind.i64.min = -9223372036854775808 := rfl
  have e2 : IntKind.i64.max = 9223372036854775807 := rfl
  omega
/-- A type, and its numbers' bounds. -/
theorem read_typB {H : Type} {enc : TypeId × Value → H} {W : World} {sp : Nat → Bool} : ∀ (q n : Nat) (cs : List Value) (x : DataW H × List MemPlace), Rows.uptoBulk x.1 ≤ q → DataW.trod enc Tryz.prog W 0 sp true n 36 cs = some x →
    cs.length = 5 ∧ 2 ≤ Rows.uptoBulk x.1 ∧ ∃ y : Ty, typR y cs W ∧ 2 * y.count ≤ Rows.uptoBulk x.1 ∧ y.all bnd0 = true := by
  intro q
  induction q with
  | zero => intro n cs x hq; have := bulk_one x.1; omega
  | succ q ih =>
    intro n cs x hq h
    obtain ⟨xs, m, rfl, hl, hx, hf⟩ := read_fields struct_typ h
    rw [cells_typ] at hl
    obtain ⟨y0, e0, f0⟩ := hf 0 3 0 1 rfl cells_int
    obtain ⟨y1, e1, f1⟩ := hf 1 9 1 1 rfl cells_str
    obtain ⟨y2, e2, f2⟩ := hf 2 3 2 1 rfl cells_int
    obtain ⟨y3, e3, f3⟩ := hf 3 3 3 1 rfl cells_int
    obtain ⟨y4, e4, f4⟩ := hf 4 34 4 1 rfl cells_typs
    have hb2 := bulk_agg (List.mem_map_of_mem (f := (·.1)) (List.mem_of_getElem? e4))
    have hb4 : Rows.uptoBulk y4.1 ≤ q := by
      have := bulk_mem (List.mem_map_of_mem (f := (·.1)) (List.mem_of_getElem? e4))
      simp only [Rows.uptoBulk] at hq
      omega
    match cs, hl with
    | [v0, v1, v2, v3, v4], _ =>
      obtain ⟨s0, q0, _⟩ := DataW.trod_int Tryz.underlying3 f0
      obtain ⟨s1, q1, _, _⟩ := DataW.trod_string Tryz.underlying9 f1
      obtain ⟨s2, q2, _, w2⟩ := DataW.trod_int Tryz.underlying3 f2
      obtain ⟨s3, q3, _, w3⟩ := DataW.trod_int Tryz.underlying3 f3
      obtain ⟨A, l, c, q4, r1, _, r2, r4, _, r5⟩ := read_slc (R := typR) (k := 5) Tryz.underlying34 cells_typ (by decide) (fun y d => 2 * y.count ≤ Rows.uptoBulk d ∧ y.all bnd0 = true) (fun m cs d hd h => by
        obtain ⟨a1, a3, y, a2, a4⟩ := ih m cs d (by omega) h
        exact ⟨a1, a3, y, a2, a4⟩) f4
      simp at q0 q1 q2 q3 q4
      subst q0 q1 q2 q3 q4
      have r6 := r5 (fun y => 2 * y.count) fun y d h => h.1
      rw [sum_two] at r6
      refine ⟨rfl, hb2, .mk s0 s1 s2 s3 l, typR_iff.2 ⟨A, c, rfl, r1, r2⟩, ?_, ?_⟩
      · have r7 := bulk_mem (List.mem_map_of_mem (f := (·.1)) (List.mem_of_getElem? e4))
        rw [Ty.count, Ty.counts_eq]
        simp only [Rows.uptoBulk]
        omega
      · rw [Ty.all_args]
        refine Bool.and_eq_true_iff.2 ⟨?_, List.all_eq_true.2 fun y hy => ?_⟩
        · unfold bnd0
          exact Bool.and_eq_true_iff.2 ⟨decide_eq_true (int_wf w2).1, decide_eq_true (int_wf w3).2⟩
        · obtain ⟨d, _, h2⟩ := r4 y hy
          exact h2.2
end Go.Proofs.YtepnmejahbiacaaGreat
