/- Part 37 of the proof: Rz, Ry. -/
import Derived.Test.YtepnmejahbiacaaGreatK05
import Derived.Test.YtepnmejahbiacaaGreatK06
import Derived.Test.YtepnmejahbiacaaGreatK07
import Derived.Test.YtepnmejahbiacaaGreatK12
import Derived.Test.YtepnmejahbiacaaGreatK13
import Derived.Test.YtepnmejahbiacaaGreatK14
import Derived.Test.YtepnmejahbiacaaGreatK15
import Derived.Test.YtepnmejahbiacaaGreatK18
import Derived.Test.YtepnmejahbiacaaGreatK17
import Derived.Test.YtepnmejahbiacaaGreatK04
import Derived.Test.YtepnmejahbiacaaGreatK10
import Derived.Test.YtepnmejahbiacaaGreatK11
import Derived.Test.YtepnmejahbiacaaGreatK30
import Derived.Test.YtepnmejahbiacaaGreatK09
import Derived.Test.YtepnmejahbiacaaGreatK03
import Derived.Test.YtepnmejahbiacaaGreatK16
import Derived.Test.YtepnmejahbiacaaGreatK02
import Derived.Test.YtepnmejahbiacaaGreatK01
import Derived.BigQuiet
import Derived.Carry
import Derived.Deep.Draws
import Derived.Deep.LoopGhost
import Derived.Deep.QuietTactic
import Derived.Deep.Strs
import Derived.JoinedCond
import Derived.KernelRfl
import Derived.Laws.EntriesVeiled
import Derived.Lib.Hide
import Derived.LoopIn
import Derived.LoopNIn
import Derived.Maps.AppendAt
import Derived.Maps.Own
import Derived.Maps.OwnIn
import Derived.OpenShut
import Derived.Outline
import Derived.OwnWalkIn
import Derived.ProofKit
import Derived.RangeFuncBound
import Derived.RangeFuncCalls
import Derived.RangeFuncLeaves
import Derived.RangeFuncNested
import Derived.Recover
import Derived.StillTailTactics
import Derived.Stop.RegionWithIn
import Derived.TacticsInMore
import Derived.Test.YtepnmejahbiacaaGreatProg
import Derived.Test.YtepnmejahbiacaaGreatRows
import Derived.WalkKit
import Derived.WalkSpells
import Derived.WideKeyArgs
import Derived.Test.YtepnmejahbiacaaGreatK19
import Derived.Test.YtepnmejahbiacaaGreatK21
import Derived.Test.YtepnmejahbiacaaGreatK20
import Derived.Deep.RegionHeld3
set_option linter.unusedVariables false
set_option linter.unusedSimpArgs false
namespace Go.Proofs.YtepnmejahbiacaaGreat
open Go.RowKit Go.ChangeShapes Go.WideShapes Go.Deep
theorem bulk_mem {H : Type} {d : DataW H} : ∀ {l : List (DataW H)}, d ∈ l → Rows.uptoBulk d ≤ Rows.uptoBulkAll l
  | [], h => by cases h
  | x :: l, h => by
    simp only [Rows.uptoBulkAll]
    rcases List.mem_cons.1 h with rfl | h
    · omega
    · have := bulk_mem h; omega
theorem bulk_sum {H : Type} (D : Nat → DataW H) (g : Nat → Nat) : ∀ L : List Nat, (∀ i ∈ L, g i ≤ Rows.uptoBulk (D i)) → (L.map g).sum ≤ Rows.uptoBulkAll (L.map D)
  | [], _ => by simp
  | i :: L, h => by
    have h1 := h i (by simp)
    have h2 := bulk_sum D g L fun j hj => h j (List.mem_cons_of_mem _ hj)
    simp only [List.map_cons, List.sum_cons, Rows.uptoBulkAll]
    omega
theorem sum_two {α : Type} (f : α → Nat) : ∀ l : List α, (l.map fun x => 2 * f x).sum = 2 * (l.map f).sum
  | [] => rfl
  | x :: l => by simp only [List.map_cons, List.sum_cons, sum_two f l]; omega
theorem bulk_agg {H : Type} {L : List (DataW H)} {d : DataW H} (h : d ∈ L) : 2 ≤ Rows.uptoBulk (DataW.agg L) := by
  have h1 := bulk_mem h
  have h2 := bulk_one d
  simp only [Rows.uptoBulk]
  omega
/-- A slice read element by element. -/
theorem read_slc {H : Type} {enc : TypeId × Value → H} {W : World} {sp : Nat → Bool} {n : Nat} {cs : List Value} {x : DataW H × List MemPlace} {α : Type} [Inhabited α] {R : α → List Value → World → Prop} {T TS k : Nat}
    (hu : Tryz.prog.underlying TS = some (.slice T)) (hk : Tryz.prog.cellsOf T = k) (hk0 : 0 < k) (Q : α → DataW H → Prop)
    (hel : ∀ m cs d, Rows.uptoBulk d.1 < Rows.uptoBulk x.1 → DataW.trod enc Tryz.prog W 0 sp true m T cs = some d → cs.length = k ∧ 2 ≤ Rows.uptoBulk d.1 ∧ ∃ y, R y cs W ∧ Q y d.1)
    (h : DataW.trod enc Tryz.prog W 0 sp true n TS cs = some x) :
    ∃ (A : Option Addr) (l : List α) (c : Nat), cs = [.slice A l.length c] ∧ l.length ≤ c ∧ c ≤ maxLen ∧ Slc R k A l W ∧ (∀ y ∈ l, ∃ d, Rows.uptoBulk d ≤ Rows.uptoBulk x.1 ∧ Q y d) ∧ 2 * l.length ≤ Rows.uptoBulk x.1 ∧ ∀ f : α → Nat, (∀ y d, Q y d → f y ≤ Rows.uptoBulk d) → (l.map f).sum + 1 ≤ Rows.uptoBulk x.1 := by
  rcases open_slice hu h with ⟨rfl, rfl⟩ | ⟨a, len, cap, m, n', D, Pl, rfl, _, hl, hm, hmm, rfl, hx⟩
  · exact ⟨none, [], 0, rfl, Nat.le_refl _, Nat.zero_le _, Slc.nil _ _ _ _, by simp, by simp, fun f _ => by simp [Rows.uptoBulk]⟩
  · have hlm : len ≤ m := by rw [hmm]; split <;> omega
    rw [hk] at hx
    have hbD : ∀ i, i < len → Rows.uptoBulk (D i) < Rows.uptoBulk (DataW.slice ((List.range len).map D) ((List.range (m - len)).map fun j => D (len + j))) := fun i hi => by
      have := bulk_mem (List.mem_map_of_mem (f := D) (List.mem_range.2 hi))
      simp only [Rows.uptoBulk]
      omega
    obtain ⟨Y, hY⟩ := choose_lt (α := α) (n := len) (p := fun i y => ∃ cs', W.cells? 0 (a.add (i * k)) k = some cs' ∧ cs'.length = k ∧ R y cs' W ∧ Q y (D i) ∧ 2 ≤ Rows.uptoBulk (D i)) (fun i hi => by
      obtain ⟨cs', h1, h2⟩ := hx i (by omega)
      obtain ⟨h3, h6, y, h4, h5⟩ := hel n' cs' _ (hbD i hi) h2
      exact ⟨y, cs', h1, h3, h4, h5, h6⟩)
    refine ⟨some a, (List.range len).map Y, cap, by simp, by simpa using hl, hm, fun i y hy => ?_, fun y hy => ?_, ?_, fun f hf => ?_⟩
    · have hi : i < len := by have := (List.getElem?_eq_some_iff.1 hy).1; simpa using this
      rw [List.getElem?_map, List.getElem?_range hi] at hy
      cases hy
      obtain ⟨cs', h1, h2, h3, _⟩ := hY i hi
      obtain ⟨_, _, hc⟩ := World.cells?_some h1
      have hsp : a.spot = none := by
        obtain ⟨cs0, k1, k2, _⟩ := hY 0 (by omega)
        obtain ⟨_, _, kc⟩ := World.cells?_some k1
        have e := kc 0 (by omega)
        rw [List.getElem?_eq_getElem (by omega)] at e
        simpa [Addr.add] using World.cell?_spot e
      obtain ⟨b, off, spot⟩ := a
      have hsp' : spot = none := hsp
      subst hsp'
      refine ⟨b, off, cs', rfl, h2, h3, fun j v hv => ?_⟩
      have hj : j < k := by have := (List.getElem?_eq_some_iff.1 hv).1; omega
      have e := hc j hj
      rw [add_plain, add_plain, hv] at e
      exact e
    · obtain ⟨i, hi, rfl⟩ := List.mem_map.1 hy
      exact ⟨D i, Nat.le_of_lt (hbD i (List.mem_range.1 hi)), (hY i (List.mem_range.1 hi)).choose_spec.2.2.2.1⟩
    · have := bulk_all (k := 2) ((List.range len).map D) fun d hd => by
        obtain ⟨i, hi, rfl⟩ := List.mem_map.1 hd
        exact (hY i (List.mem_range.1 hi)).choose_spec.2.2.2.2
      rw [List.length_map, List.length_range] at this
      rw [List.length_map, List.length_range]
      simp only [Rows.uptoBulk]
      omega
    · have := bulk_sum D (fun i => f (Y i)) (List.range len) fun i hi => hf _ _ (hY i (List.mem_range.1 hi)).choose_spec.2.2.2.1
      rw [List.map_map]
      simp only [Rows.uptoBulk]
      simp only [Function.comp_def]
      omega
theorem cells_typ : Tryz.prog.cellsOf 36 = 5 := by kernel_rfl
theorem cells_typs : Tryz.prog.cellsOf 34 = 1 := by kernel_rfl
theorem cells_par : Tryz.prog.cellsOf 76 = 6 := by kernel_rfl
theorem cells_pars : Tryz.prog.cellsOf 66 = 1 := by kernel_rfl
theorem cells_met : Tryz.prog.cellsOf 68 = 8 := by kernel_rfl
theorem struct_typ : ∃ fs, Tryz.prog.underlying 36 = some (.struct fs) ∧ (fs.map fun f => (f.type, f.offset)) = #[(3, 0), (9, 1), (3, 2), (3, 3), (34, 4)] := by
  have h : (match Tryz.prog.underlying 36 with | some (.struct fs) => decide ((fs.map fun f => (f.type, f.offset)) = #[(3, 0), (9, 1), (3, 2), (3, 3), (34, 4)]) | _ => false) = true := by kernel_rfl
  split at h
  · rename_i fs e
    exact ⟨fs, e, of_decide_eq_true h⟩
  · cases h
theorem struct_par : ∃ fs, Tryz.prog.underlying 76 = some (.struct fs) ∧ (fs.map fun f => (f.type, f.offset)) = #[(9, 0), (36, 1)] := by
  have h : (match Tryz.prog.underlying 76 with | some (.struct fs) => decide ((fs.map fun f => (f.type, f.offset)) = #[(9, 0), (36, 1)]) | _ => false) = true := by kernel_rfl
  split at h
  · rename_i fs e
    exact ⟨fs, e, of_decide_eq_true h⟩
  · cases h
theorem struct_met : ∃ fs, Tryz.prog.underlying 68 = some (.struct fs) ∧ (fs.map fun f => (f.type, f.offset)) = #[(3, 0), (9, 1), (66, 2), (36, 3)] := by
  have h : (match Tryz.prog.underlying 68 with | some (.struct fs) => decide ((fs.map fun f => (f.type, f.offset)) = #[(3, 0), (9, 1), (66, 2), (36, 3)]) | _ => false) = true := by kernel_rfl
  split at h
  · rename_i fs e
    exact ⟨fs, e, of_decide_eq_true h⟩
  · cases h
instance : Inhabited Ty := ⟨.mk 0 ⟨#[]⟩ 0 0 []⟩
instance : Inhabited Par := ⟨⟨⟨#[]⟩, default⟩⟩
instance : Inhabited Meth := ⟨⟨0, ⟨#[]⟩, [], default⟩⟩
instance : Inhabited Tag := ⟨⟨0, 0, ⟨#[]⟩⟩⟩
/-- A type that lies within the bulk is small. -/
theorem small_count {t : Ty} (h : 2 * t.count ≤ 1048576) : TySmall t := ⟨Ty.all_small t 1000000 (by omega), by omega⟩
/-- A type. -/
theorem read_typ {H : Type} {enc : TypeId × Value → H} {W : World} {sp : Nat → Bool} : ∀ (q n : Nat) (cs : List Value) (x : DataW H × List MemPlace), Rows.uptoBulk x.1 ≤ q → DataW.trod enc Tryz.prog W 0 sp true n 36 cs = some x →
    cs.length = 5 ∧ 2 ≤ Rows.uptoBulk x.1 ∧ ∃ y : Ty, typR y cs W ∧ 2 * y.count ≤ Rows.uptoBulk x.1 := by
  intro q
  induction q with
  | zero => intro n cs x hq; have := bulk_one x.1; omega
  | succ q ih =>
    intro n cs x hq h
    obtain ⟨xs, m, rfl, hl, hx, hf⟩ := read_fields struct_typ h
    rw [cells_typ] at hl
    obtain ⟨y0, e0, f0⟩ := hf 0 3 0 1 rfl cells_int
    obtain ⟨y1, e1, f1⟩ := hf 1 9 1 1 rfl cells_str
    obtain ⟨y2, e2, f2⟩ := hf 2 3 2 1 rfl cells_int
    obtain ⟨y3, e3, f3⟩ := hf 3 3 3 1 rfl cells_int
    obtain ⟨y4, e4, f4⟩ := hf 4 34 4 1 rfl cells_typs
    have hb2 := bulk_agg (List.mem_map_of_mem (f := (·.1)) (List.mem_of_getElem? e4))
    have hb4 : Rows.uptoBulk y4.1 ≤ q := by
      have := bulk_mem (List.mem_map_of_mem (f := (·.1)) (List.mem_of_getElem? e4))
      simp only [Rows.uptoBulk] at hq
      omega
    match cs, hl with
    | [v0, v1, v2, v3, v4], _ =>
      obtain ⟨s0, q0, _⟩ := DataW.trod_int Tryz.underlying3 f0
      obtain ⟨s1, q1, _, _⟩ := DataW.trod_string Tryz.underlying9 f1
      obtain ⟨s2, q2, _⟩ := DataW.trod_int Tryz.underlying3 f2
      obtain ⟨s3, q3, _⟩ := DataW.trod_int Tryz.underlying3 f3
      obtain ⟨A, l, c, q4, r1, _, r2, _, _, r5⟩ := read_slc (R := typR) (k := 5) Tryz.underlying34 cells_typ (by decide) (fun y d => 2 * y.count ≤ Rows.uptoBulk d) (fun m cs d hd h => by
        obtain ⟨a1, a3, y, a2, a4⟩ := ih m cs d (by omega) h
        exact ⟨a1, a3, y, a2, a4⟩) f4
      simp at q0 q1 q2 q3 q4
      subst q0 q1 q2 q3 q4
      have r6 := r5 (fun y => 2 * y.count) fun y d h => h
      rw [sum_two] at r6
      refine ⟨rfl, hb2, .mk s0 s1 s2 s3 l, typR_iff.2 ⟨A, c, rfl, r1, r2⟩, ?_⟩
      have r7 := bulk_mem (List.mem_map_of_mem (f := (·.1)) (List.mem_of_getElem? e4))
      rw [Ty.count, Ty.counts_eq]
      simp only [Rows.uptoBulk]
      omega
/-- A parameter. -/
theorem read_par {H : Type} {enc : TypeId × Value → H} {W : World} {sp : Nat → Bool} {n : Nat} {cs : List Value} {x : DataW H × List MemPlace} (h : DataW.trod enc Tryz.prog W 0 sp true n 76 cs = some x) :
    cs.length = 6 ∧ 2 ≤ Rows.uptoBulk x.1 ∧ ∃ y : Par, parR y cs W ∧ 2 * y.type.count ≤ Rows.uptoBulk x.1 := by
  obtain ⟨xs, m, rfl, hl, hx, hf⟩ := read_fields struct_par h
  rw [cells_par] at hl
  obtain ⟨y0, e0, f0⟩ := hf 0 9 0 1 rfl cells_str
  obtain ⟨y1, e1, f1⟩ := hf 1 36 1 5 rfl cells_typ
  have hb2 := bulk_agg (List.mem_map_of_mem (f := (·.1)) (List.mem_of_getElem? e1))
  match cs, hl with
  | [v0, v1, v2, v3, v4, v5], _ =>
    obtain ⟨s0, q0, _, _⟩ := DataW.trod_string Tryz.underlying9 f0
    obtain ⟨a1, _, y, a2, a3⟩ := read_typ _ _ _ _ (Nat.le_refl _) f1
    simp at q0
    subst q0
    refine ⟨rfl, hb2, ⟨s0, y⟩, ⟨_, rfl, a1, a2⟩, ?_⟩
    have r7 := bulk_mem (List.mem_map_of_mem (f := (·.1)) (List.mem_of_getElem? e1))
    show 2 * y.count ≤ _
    simp only [Rows.uptoBulk]
    omega
theorem read_pars {H : Type} {enc : TypeId × Value → H} {W : World} {sp : Nat → Bool} {n : Nat} {cs : List Value} {x : DataW H × List MemPlace} (h : DataW.trod enc Tryz.prog W 0 sp true n 66 cs = some x) :
    ∃ (A : Option Addr) (l : List Par) (c : Nat), cs = [.slice A l.length c] ∧ l.length ≤ c ∧ Pars A l W ∧ 2 * l.length ≤ Rows.uptoBulk x.1 ∧ ∀ p ∈ l, 2 * p.type.count ≤ Rows.uptoBulk x.1 := by
  obtain ⟨A, l, c, r0, r1, _, r2, r4, r3, _⟩ := read_slc (R := parR) (k := 6) Tryz.underlying66 cells_par (by decide) (fun y d => 2 * y.type.count ≤ Rows.uptoBulk d) (fun m cs d hd h => by
    obtain ⟨a1, a3, y, a2, a4⟩ := read_par h
    exact ⟨a1, a3, y, a2, a4⟩) h
  exact ⟨A, l, c, r0, r1, r2, r3, fun y hy => by
    obtain ⟨d, h1, h2⟩ := r4 y hy
    omega⟩
/-- A method. -/
theorem read_met {H : Type} {enc : TypeId × Value → H} {W : World} {sp : Nat → Bool} {n : Nat} {cs : List Value} {x : DataW H × List MemPlace} (h : DataW.trod enc Tryz.prog W 0 sp true n 68 cs = some x) :
    cs.length = 8 ∧ 2 ≤ Rows.uptoBulk x.1 ∧ ∃ y : Meth, metR y cs W ∧ 2 * y.pars.length ≤ Rows.uptoBulk x.1 ∧ ∀ p ∈ y.pars, 2 * p.type.count ≤ Rows.uptoBulk x.1 := by
  obtain ⟨xs, m, rfl, hl, hx, hf⟩ := read_fields struct_met h
  rw [cells_met] at hl
  obtain ⟨y0, e0, f0⟩ := hf 0 3 0 1 rfl cells_int
  obtain ⟨y1, e1, f1⟩ := hf 1 9 1 1 rfl cells_str
  obtain ⟨y2, e2, f2⟩ := hf 2 66 2 1 rfl cells_pars
  obtain ⟨y3, e3, f3⟩ := hf 3 36 3 5 rfl cells_typ
  have hb2 := bulk_mem (List.mem_map_of_mem (f := (·.1)) (List.mem_of_getElem? e2))
  have hb3 := bulk_agg (List.mem_map_of_mem (f := (·.1)) (List.mem_of_getElem? e2))
  match cs, hl with
  | [v0, v1, v2, v3, v4, v5, v6, v7], _ =>
    obtain ⟨s0, q0, _⟩ := DataW.trod_int Tryz.underlying3 f0
    obtain ⟨s1, q1, _, _⟩ := DataW.trod_string Tryz.underlying9 f1
    obtain ⟨A2, l2, c2, q2, r1, r2, r3, r4⟩ := read_pars f2
    obtain ⟨a1, _, y, a2, _⟩ := read_typ _ _ _ _ (Nat.le_refl _) f3
    simp at q0 q1 q2
    subst q0 q1 q2
    refine ⟨rfl, hb3, ⟨s0, s1, l2, y⟩, ⟨A2, c2, _, rfl, a1, r1, r2, a2⟩, ?_, fun p hp => ?_⟩
    · show 2 * l2.length ≤ _
      simp only [Rows.uptoBulk]
      omega
    · have := r4 p hp
      simp only [Rows.uptoBulk]
      omega
theorem read_mets {H : Type} {enc : TypeId × Value → H} {W : World} {sp : Nat → Bool} {n : Nat} {cs : List Value} {x : DataW H × List MemPlace} (h : DataW.trod enc Tryz.prog W 0 sp true n 23 cs = some x) :
    ∃ (A : Option Addr) (l : List Meth) (c : Nat), cs = [.slice A l.length c] ∧ l.length ≤ c ∧ Meths A l W ∧ 2 * l.length ≤ Rows.uptoBulk x.1 ∧ ∀ y ∈ l, 2 * y.pars.length ≤ Rows.uptoBulk x.1 ∧ ∀ p ∈ y.pars, 2 * p.type.count ≤ Rows.uptoBulk x.1 := by
  obtain ⟨A, l, c, r0, r1, _, r2, r4, r3, _⟩ := read_slc (R := metR) (k := 8) Tryz.underlying23 cells_met (by decide) (fun y d => 2 * y.pars.length ≤ Rows.uptoBulk d ∧ ∀ p ∈ y.pars, 2 * p.type.count ≤ Rows.uptoBulk d) (fun m cs d hd h => by
    obtain ⟨a1, a4, y, a2, a3⟩ := read_met h
    exact ⟨a1, a4, y, a2, a3⟩) h
  exact ⟨A, l, c, r0, r1, r2, r3, fun y hy => by
    obtain ⟨d, h1, h2, h3⟩ := r4 y hy
    exact ⟨by omega, fun p hp => by have := h3 p hp; omega⟩⟩
theorem tag_bulk {H : Type} {enc : TypeId × Value → H} {W : World} {sp : Nat → Bool} {n : Nat} {cs : List Value} {x : DataW H × List MemPlace} (h : DataW.trod enc Tryz.prog W 0 sp true n 39 cs = some x) : 2 ≤ Rows.uptoBulk x.1 := by
  obtain ⟨xs, m, rfl, hl, hx, hf⟩ := read_fields struct_tag h
  obtain ⟨y0, e0, f0⟩ := hf 0 3 0 1 rfl cells_int
  exact bulk_agg (List.mem_map_of_mem (f := (·.1)) (List.mem_of_getElem? e0))
theorem read_tags {H : Type} {enc : TypeId × Value → H} {W : World} {sp : Nat → Bool} {n : Nat} {cs : List Value} {x : DataW H × List MemPlace} (h : DataW.trod enc Tryz.prog W 0 sp true n 24 cs = some x) :
    ∃ (A : Option Addr) (l : List Tag) (c : Nat), cs = [.slice A l.length c] ∧ l.length ≤ c ∧ Tags A l W ∧ 2 * l.length ≤ Rows.uptoBulk x.1 := by
  obtain ⟨A, l, c, r0, r1, _, r2, _, r3, _⟩ := read_slc (R := tagR) (k := 3) Tryz.underlying24 cells_tag (by decide) (fun _ _ => True) (fun m cs d hd h => by
    have h1 := (tag_bulk h)
    obtain ⟨t, rfl⟩ := read_tag h
    exact ⟨rfl, h1, t, rfl, trivial⟩) h
  exact ⟨A, l, c, r0, r1, r2, r3⟩
end Go.Proofs.YtepnmejahbiacaaGreat
set_option linter.unusedVariables false
set_option linter.unusedSimpArgs false
namespace Go.Proofs.YtepnmejahbiacaaGreat
open Go.RowKit Go.ChangeShapes Go.WideShapes Go.Deep
/-- A slice read element by element. -/
theorem read_slc1 {H : Type} {enc : TypeId × Value → H} {W : World} {sp : Nat → Bool} {n : Nat} {cs : List Value} {x : DataW H × List MemPlace} {α : Type} [Inhabited α] {R : α → List Value → World → Prop} {T TS k : Nat}
    (hu : Tryz.prog.underlying TS = some (.slice T)) (hk : Tryz.prog.cellsOf T = k) (hk0 : 0 < k) (Q : α → DataW H → Prop)
    (hel : ∀ m cs d, Rows.uptoBulk d.1 < Rows.uptoBulk x.1 → DataW.trod enc Tryz.prog W 0 sp true m T cs = some d → cs.length = k ∧ ∃ y, R y cs W ∧ Q y d.1)
    (h : DataW.trod enc Tryz.prog W 0 sp true n TS cs = some x) :
    ∃ (A : Option Addr) (l : List α) (c : Nat), cs = [.slice A l.length c] ∧ l.length ≤ c ∧ c ≤ maxLen ∧ Slc R k A l W ∧ (∀ y ∈ l, ∃ d, Rows.uptoBulk d ≤ Rows.uptoBulk x.1 ∧ Q y d) ∧ l.length ≤ Rows.uptoBulk x.1 := by
  rcases open_slice hu h with ⟨rfl, rfl⟩ | ⟨a, len, cap, m, n', D, Pl, rfl, _, hl, hm, hmm, rfl, hx⟩
  · exact ⟨none, [], 0, rfl, Nat.le_refl _, Nat.zero_le _, Slc.nil _ _ _ _, by simp, by simp⟩
  · have hlm : len ≤ m := by rw [hmm]; split <;> omega
    rw [hk] at hx
    have hbD : ∀ i, i < len → Rows.uptoBulk (D i) < Rows.uptoBulk (DataW.slice ((List.range len).map D) ((List.range (m - len)).map fun j => D (len + j))) := fun i hi => by
      have := bulk_mem (List.mem_map_of_mem (f := D) (List.mem_range.2 hi))
      simp only [Rows.uptoBulk]
      omega
    obtain ⟨Y, hY⟩ := choose_lt (α := α) (n := len) (p := fun i y => ∃ cs', W.cells? 0 (a.add (i * k)) k = some cs' ∧ cs'.length = k ∧ R y cs' W ∧ Q y (D i)) (fun i hi => by
      obtain ⟨cs', h1, h2⟩ := hx i (by omega)
      obtain ⟨h3, y, h4, h5⟩ := hel n' cs' _ (hbD i hi) h2
      exact ⟨y, cs', h1, h3, h4, h5⟩)
    refine ⟨some a, (List.range len).map Y, cap, by simp, by simpa using hl, hm, fun i y hy => ?_, fun y hy => ?_, ?_⟩
    · have hi : i < len := by have := (List.getElem?_eq_some_iff.1 hy).1; simpa using this
      rw [List.getElem?_map, List.getElem?_range hi] at hy
      cases hy
      obtain ⟨cs', h1, h2, h3, _⟩ := hY i hi
      obtain ⟨_, _, hc⟩ := World.cells?_some h1
      have hsp : a.spot = none := by
        obtain ⟨cs0, k1, k2, _⟩ := hY 0 (by omega)
        obtain ⟨_, _, kc⟩ := World.cells?_some k1
        have e := kc 0 (by omega)
        rw [List.getElem?_eq_getElem (by omega)] at e
        simpa [Addr.add] using World.cell?_spot e
      obtain ⟨b, off, spot⟩ := a
      have hsp' : spot = none := hsp
      subst hsp'
      refine ⟨b, off, cs', rfl, h2, h3, fun j v hv => ?_⟩
      have hj : j < k := by have := (List.getElem?_eq_some_iff.1 hv).1; omega
      have e := hc j hj
      rw [add_plain, add_plain, hv] at e
      exact e
    · obtain ⟨i, hi, rfl⟩ := List.mem_map.1 hy
      exact ⟨D i, Nat.le_of_lt (hbD i (List.mem_range.1 hi)), (hY i (List.mem_range.1 hi)).choose_spec.2.2.2⟩
    · have := bulk_all (k := 1) ((List.range len).map D) fun d _ => bulk_one d
      rw [List.length_map, List.length_range] at this
      rw [List.length_map, List.length_range]
      simp only [Rows.uptoBulk]
      omega
theorem read_ints {H : Type} {enc : TypeId × Value → H} {W : World} {sp : Nat → Bool} {n : Nat} {cs : List Value} {x : DataW H × List MemPlace} (h : DataW.trod enc Tryz.prog W 0 sp true n 27 cs = some x) :
    ∃ (A : Option Addr) (l : List Int) (c : Nat), cs = [.slice A l.length c] ∧ l.length ≤ c ∧ Ints A l W ∧ l.length ≤ Rows.uptoBulk x.1 := by
  obtain ⟨A, l, c, r0, r1, _, r2, _, r3⟩ := read_slc1 (R := intR) (k := 1) Tryz.underlying27 cells_int (by decide) (fun _ _ => True) (fun m cs d hd h => by
    obtain ⟨t, q, _⟩ := DataW.trod_int Tryz.underlying3 h
    subst q
    exact ⟨rfl, t, rfl, trivial⟩) h
  exact ⟨A, l, c, r0, r1, r2, r3⟩
theorem cells_ints : Tryz.prog.cellsOf 27 = 1 := by kernel_rfl
theorem cells_mets : Tryz.prog.cellsOf 23 = 1 := by kernel_rfl
theorem cells_tags : Tryz.prog.cellsOf 24 = 1 := by kernel_rfl
theorem cells_call : Tryz.prog.cellsOf 45 = 2 := by kernel_rfl
theorem cells_ord : Tryz.prog.cellsOf 47 = 3 := by kernel_rfl
theorem struct_call : ∃ fs, Tryz.prog.underlying 45 = some (.struct fs) ∧ (fs.map fun f => (f.type, f.offset)) = #[(23, 0), (24, 1)] := by
  have h : (match Tryz.prog.underlying 45 with | some (.struct fs) => decide ((fs.map fun f => (f.type, f.offset)) = #[(23, 0), (24, 1)]) | _ => false) = true := by kernel_rfl
  split at h
  · rename_i fs e
    exact ⟨fs, e, of_decide_eq_true h⟩
  · cases h
theorem struct_ord : ∃ fs, Tryz.prog.underlying 47 = some (.struct fs) ∧ (fs.map fun f => (f.type, f.offset)) = #[(27, 0), (4, 1), (27, 2)] := by
  have h : (match Tryz.prog.underlying 47 with | some (.struct fs) => decide ((fs.map fun f => (f.type, f.offset)) = #[(27, 0), (4, 1), (27, 2)]) | _ => false) = true := by kernel_rfl
  split at h
  · rename_i fs e
    exact ⟨fs, e, of_decide_eq_true h⟩
  · cases h
/-- Methods and arguments. -/
theorem read_call {H : Type} {enc : TypeId × Value → H} {W : World} {sp : Nat → Bool} {n : Nat} {cs : List Value} {x : DataW H × List MemPlace} (h : DataW.trod enc Tryz.prog W 0 sp true n 45 cs = some x) :
    ∃ (A : Option Addr) (ms : List Meth) (c : Nat) (AT : Option Addr) (ts : List Tag) (cT : Nat), cs = [.slice A ms.length c, .slice AT ts.length cT] ∧ ms.length ≤ c ∧ Meths A ms W ∧ Tags AT ts W ∧ 2 * ms.length ≤ Rows.uptoBulk x.1 ∧ (∀ y ∈ ms, 2 * y.pars.length ≤ Rows.uptoBulk x.1 ∧ ∀ p ∈ y.pars, 2 * p.type.count ≤ Rows.uptoBulk x.1) ∧ 2 * ts.length ≤ Rows.uptoBulk x.1 := by
  obtain ⟨xs, m, rfl, hl, hx, hf⟩ := read_fields struct_call h
  rw [cells_call] at hl
  obtain ⟨y0, e0, f0⟩ := hf 0 23 0 1 rfl cells_mets
  obtain ⟨y1, e1, f1⟩ := hf 1 24 1 1 rfl cells_tags
  have hb0 := bulk_mem (List.mem_map_of_mem (f := (·.1)) (List.mem_of_getElem? e0))
  have hb1 := bulk_mem (List.mem_map_of_mem (f := (·.1)) (List.mem_of_getElem? e1))
  match cs, hl with
  | [v0, v1], _ =>
    obtain ⟨A, ms, c, q0, r1, r2, r3, r4⟩ := read_mets f0
    obtain ⟨AT, ts, cT, q1, s1, s2, s3⟩ := read_tags f1
    simp at q0 q1
    subst q0 q1
    refine ⟨A, ms, c, AT, ts, cT, rfl, r1, r2, s2, ?_, fun y hy => ⟨?_, fun p hp => ?_⟩, ?_⟩
    · simp only [Rows.uptoBulk]; omega
    · have := (r4 y hy).1; simp only [Rows.uptoBulk]; omega
    · have := (r4 y hy).2 p hp; simp only [Rows.uptoBulk]; omega
    · simp only [Rows.uptoBulk]; omega
/-- An order. -/
theorem read_ord {H : Type} {enc : TypeId × Value → H} {W : World} {sp : Nat → Bool} {n : Nat} {cs : List Value} {x : DataW H × List MemPlace} (h : DataW.trod enc Tryz.prog W 0 sp true n 47 cs = some x) :
    ∃ (A : Option Addr) (o : List Int) (c : Nat) (amb : Bool) (AL : Option Addr) (lf : List Int) (cL : Nat), cs = [.slice A o.length c, .bool amb, .slice AL lf.length cL] ∧ Ints A o W ∧ o.length ≤ Rows.uptoBulk x.1 := by
  obtain ⟨xs, m, rfl, hl, hx, hf⟩ := read_fields struct_ord h
  rw [cells_ord] at hl
  obtain ⟨y0, e0, f0⟩ := hf 0 27 0 1 rfl cells_ints
  obtain ⟨y1, e1, f1⟩ := hf 1 4 1 1 rfl cells_bool
  obtain ⟨y2, e2, f2⟩ := hf 2 27 2 1 rfl cells_ints
  have hb0 := bulk_mem (List.mem_map_of_mem (f := (·.1)) (List.mem_of_getElem? e0))
  match cs, hl with
  | [v0, v1, v2], _ =>
    obtain ⟨A, o, c, q0, r1, r2, r3⟩ := read_ints f0
    obtain ⟨b, q1, _⟩ := DataW.trod_bool Tryz.underlying4 f1
    obtain ⟨AL, lf, cL, q2, _, _, _⟩ := read_ints f2
    simp at q0 q1 q2
    subst q0 q1 q2
    refine ⟨A, o, c, b, AL, lf, cL, rfl, r2, ?_⟩
    simp only [Rows.uptoBulk]; omega
end Go.Proofs.YtepnmejahbiacaaGreat
