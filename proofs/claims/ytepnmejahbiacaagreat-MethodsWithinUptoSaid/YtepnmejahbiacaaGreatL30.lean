/- Part 30 of the proof: Rz. -/
import Derived.Test.YtepnmejahbiacaaGreatL04
import Derived.Test.YtepnmejahbiacaaGreatL05
import Derived.Test.YtepnmejahbiacaaGreatL07
import Derived.Test.YtepnmejahbiacaaGreatL12
import Derived.Test.YtepnmejahbiacaaGreatL13
import Derived.Test.YtepnmejahbiacaaGreatL14
import Derived.Test.YtepnmejahbiacaaGreatL15
import Derived.Test.YtepnmejahbiacaaGreatL17
import Derived.Test.YtepnmejahbiacaaGreatL16
import Derived.Test.YtepnmejahbiacaaGreatL06
import Derived.Test.YtepnmejahbiacaaGreatL10
import Derived.Test.YtepnmejahbiacaaGreatL11
import Derived.Test.YtepnmejahbiacaaGreatL28
import Derived.Test.YtepnmejahbiacaaGreatL09
import Derived.Test.YtepnmejahbiacaaGreatL03
import Derived.Test.YtepnmejahbiacaaGreatL02
import Derived.Test.YtepnmejahbiacaaGreatL01
import Derived.BigQuiet
import Derived.Carry
import Derived.Deep.Draws
import Derived.Deep.LoopGhost
import Derived.Deep.QuietTactic
import Derived.Deep.Strs
import Derived.JoinedCond
import Derived.KernelRfl
import Derived.Laws.EntriesVeiled
import Derived.Lib.Hide
import Derived.LoopIn
import Derived.LoopNIn
import Derived.Maps.AppendAt
import Derived.Maps.Own
import Derived.Maps.OwnIn
import Derived.OpenShut
import Derived.Outline
import Derived.OwnWalkIn
import Derived.ProofKit
import Derived.RangeFuncBound
import Derived.RangeFuncCalls
import Derived.RangeFuncLeaves
import Derived.RangeFuncNested
import Derived.Recover
import Derived.StillTailTactics
import Derived.Stop.RegionWithIn
import Derived.TacticsInMore
import Derived.Test.YtepnmejahbiacaaGreatProg
import Derived.Test.YtepnmejahbiacaaGreatRows
import Derived.WalkKit
import Derived.WalkSpells
import Derived.WideKeyArgs
import Derived.Test.YtepnmejahbiacaaGreatL18
import Derived.Test.YtepnmejahbiacaaGreatL19
import Derived.Deep.RegionHeld3
set_option linter.unusedVariables false
set_option linter.unusedSimpArgs false
namespace Go.Proofs.YtepnmejahbiacaaGreat
open Go.RowKit Go.ChangeShapes Go.WideShapes Go.Deep
theorem bulk_mem {H : Type} {d : DataW H} : ∀ {l : List (DataW H)}, d ∈ l → Rows.uptoBulk d ≤ Rows.uptoBulkAll l
  | [], h => by cases h
  | x :: l, h => by
    simp only [Rows.uptoBulkAll]
    rcases List.mem_cons.1 h with rfl | h
    · omega
    · have := bulk_mem h; omega
theorem bulk_sum {H : Type} (D : Nat → DataW H) (g : Nat → Nat) : ∀ L : List Nat, (∀ i ∈ L, g i ≤ Rows.uptoBulk (D i)) → (L.map g).sum ≤ Rows.uptoBulkAll (L.map D)
  | [], _ => by simp
  | i :: L, h => by
    have h1 := h i (by simp)
    have h2 := bulk_sum D g L fun j hj => h j (List.mem_cons_of_mem _ hj)
    simp only [List.map_cons, List.sum_cons, Rows.uptoBulkAll]
    omega
theorem sum_two {α : Type} (f : α → Nat) : ∀ l : List α, (l.map fun x => 2 * f x).sum = 2 * (l.map f).sum
  | [] => rfl
  | x :: l => by simp only [List.map_cons, List.sum_cons, sum_two f l]; omega
theorem bulk_agg {H : Type} {L : List (DataW H)} {d : DataW H} (h : d ∈ L) : 2 ≤ Rows.uptoBulk (DataW.agg L) := by
  have h1 := bulk_mem h
  have h2 := bulk_one d
  simp only [Rows.uptoBulk]
  omega
/-- A slice read element by element. -/
theorem read_slc {H : Type} {enc : TypeId × Value → H} {W : World} {sp : Nat → Bool} {n : Nat} {cs : List Value} {x : DataW H × List MemPlace} {α : Type} [Inhabited α] {R : α → List Value → World → Prop} {T TS k : Nat}
    (hu : Tryz.prog.underlying TS = some (.slice T)) (hk : Tryz.prog.cellsOf T = k) (hk0 : 0 < k) (Q : α → DataW H → Prop)
    (hel : ∀ m cs d, Rows.uptoBulk d.1 < Rows.uptoBulk x.1 → DataW.trod enc Tryz.prog W 0 sp true m T cs = some d → cs.length = k ∧ 2 ≤ Rows.uptoBulk d.1 ∧ ∃ y, R y cs W ∧ Q y d.1)
    (h : DataW.trod enc Tryz.prog W 0 sp true n TS cs = some x) :
    ∃ (A : Option Addr) (l : List α) (c : Nat), cs = [.slice A l.length c] ∧ l.length ≤ c ∧ c ≤ maxLen ∧ Slc R k A l W ∧ (∀ y ∈ l, ∃ d, Rows.uptoBulk d ≤ Rows.uptoBulk x.1 ∧ Q y d) ∧ 2 * l.length ≤ Rows.uptoBulk x.1 ∧ ∀ f : α → Nat, (∀ y d, Q y d → f y ≤ Rows.uptoBulk d) → (l.map f).sum + 1 ≤ Rows.uptoBulk x.1 := by
  rcases open_slice hu h with ⟨rfl, rfl⟩ | ⟨a, len, cap, m, n', D, Pl, rfl, _, hl, hm, hmm, rfl, hx⟩
  · exact ⟨none, [], 0, rfl, Nat.le_refl _, Nat.zero_le _, Slc.nil _ _ _ _, by simp, by simp, fun f _ => by simp [Rows.uptoBulk]⟩
  · have hlm : len ≤ m := by rw [hmm]; split <;> omega
    rw [hk] at hx
    have hbD : ∀ i, i < len → Rows.uptoBulk (D i) < Rows.uptoBulk (DataW.slice ((List.range len).map D) ((List.range (m - len)).map fun j => D (len + j))) := fun i hi => by
      have := bulk_mem (List.mem_map_of_mem (f := D) (List.mem_range.2 hi))
      simp only [Rows.uptoBulk]
      omega
    obtain ⟨Y, hY⟩ := choose_lt (α := α) (n := len) (p := fun i y => ∃ cs', W.cells? 0 (a.add (i * k)) k = some cs' ∧ cs'.length = k ∧ R y cs' W ∧ Q y (D i) ∧ 2 ≤ Rows.uptoBulk (D i)) (fun i hi => by
      obtain ⟨cs', h1, h2⟩ := hx i (by omega)
      obtain ⟨h3, h6, y, h4, h5⟩ := hel n' cs' _ (hbD i hi) h2
      exact ⟨y, cs', h1, h3, h4, h5, h6⟩)
    refine ⟨some a, (List.range len).map Y, cap, by simp, by simpa using hl, hm, fun i y hy => ?_, fun y hy => ?_, ?_, fun f hf => ?_⟩
    · have hi : i < len := by have := (List.getElem?_eq_some_iff.1 hy).1; simpa using this
      rw [List.getElem?_map, List.getElem?_range hi] at hy
      cases hy
      obtain ⟨cs', h1, h2, h3, _⟩ := hY i hi
      obtain ⟨_, _, hc⟩ := World.cells?_some h1
      have hsp : a.spot = none := by
        obtain ⟨cs0, k1, k2, _⟩ := hY 0 (by omega)
        obtain ⟨_, _, kc⟩ := World.cells?_some k1
        have e := kc 0 (by omega)
        rw [List.getElem?_eq_getElem (by omega)] at e
        simpa [Addr.add] using World.cell?_spot e
      obtain ⟨b, off, spot⟩ := a
      have hsp' : spot = none := hsp
      subst hsp'
      refine ⟨b, off, cs', rfl, h2, h3, fun j v hv => ?_⟩
      have hj : j < k := by have := (List.getElem?_eq_some_iff.1 hv).1; omega
      have e := hc j hj
      rw [add_plain, add_plain, hv] at e
      exact e
    · obtain ⟨i, hi, rfl⟩ := List.mem_map.1 hy
      exact ⟨D i, Nat.le_of_lt (hbD i (List.mem_range.1 hi)), (hY i (List.mem_range.1 hi)).choose_spec.2.2.2.1⟩
    · have := bulk_all (k := 2) ((List.range len).map D) fun d hd => by
        obtain ⟨i, hi, rfl⟩ := List.mem_map.1 hd
        exact (hY i (List.mem_range.1 hi)).choose_spec.2.2.2.2
      rw [List.length_map, List.length_range] at this
      rw [List.length_map, List.length_range]
      simp only [Rows.uptoBulk]
      omega
    · have := bulk_sum D (fun i => f (Y i)) (List.range len) fun i hi => hf _ _ (hY i (List.mem_range.1 hi)).choose_spec.2.2.2.1
      rw [List.map_map]
      simp only [Rows.uptoBulk]
      simp only [Function.comp_def]
      omega
theorem cells_typ : Tryz.prog.cellsOf 36 = 5 := by kernel_rfl
theorem cells_typs : Tryz.prog.cellsOf 34 = 1 := by kernel_rfl
theorem struct_typ : ∃ fs, Tryz.prog.underlying 36 = some (.struct fs) ∧ (fs.map fun f => (f.type, f.offset)) = #[(3, 0), (9, 1), (3, 2), (3, 3), (34, 4)] := by
  have h : (match Tryz.prog.underlying 36 with | some (.struct fs) => decide ((fs.map fun f => (f.type, f.offset)) = #[(3, 0), (9, 1), (3, 2), (3, 3), (34, 4)]) | _ => false) = true := by kernel_rfl
  split at h
  · rename_i fs e
    exact ⟨fs, e, of_decide_eq_true h⟩
  · cases h
instance : Inhabited Ty := ⟨.mk 0 ⟨#[]⟩ 0 0 []⟩
instance : Inhabited Par := ⟨⟨⟨#[]⟩, default⟩⟩
instance : Inhabited Meth := ⟨⟨0, ⟨#[]⟩, [], default⟩⟩
instance : Inhabited Tag := ⟨⟨0, 0, ⟨#[]⟩⟩⟩
/-- A type that lies within the bulk is small. -/
theorem small_count {t : Ty} (h : 2 * t.count ≤ 1048576) : TySmall t := ⟨Ty.all_small t 1000000 (by omega), by omega⟩
end Go.Proofs.YtepnmejahbiacaaGreat
