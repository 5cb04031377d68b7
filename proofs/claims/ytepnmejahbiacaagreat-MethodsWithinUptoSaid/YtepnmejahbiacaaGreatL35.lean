/- Part 35 of the proof: Gc, Gd, Ph. -/
import Derived.Test.YtepnmejahbiacaaGreatL20
import Derived.Test.YtepnmejahbiacaaGreatL04
import Derived.Test.YtepnmejahbiacaaGreatL05
import Derived.Test.YtepnmejahbiacaaGreatL18
import Derived.Test.YtepnmejahbiacaaGreatL07
import Derived.Test.YtepnmejahbiacaaGreatL12
import Derived.Test.YtepnmejahbiacaaGreatL13
import Derived.Test.YtepnmejahbiacaaGreatL14
import Derived.Test.YtepnmejahbiacaaGreatL15
import Derived.Test.YtepnmejahbiacaaGreatL17
import Derived.Test.YtepnmejahbiacaaGreatL33
import Derived.Test.YtepnmejahbiacaaGreatL21
import Derived.Test.YtepnmejahbiacaaGreatL08
import Derived.Test.YtepnmejahbiacaaGreatL16
import Derived.Test.YtepnmejahbiacaaGreatL32
import Derived.Test.YtepnmejahbiacaaGreatL06
import Derived.Test.YtepnmejahbiacaaGreatL10
import Derived.Test.YtepnmejahbiacaaGreatL11
import Derived.Test.YtepnmejahbiacaaGreatL26
import Derived.Test.YtepnmejahbiacaaGreatL29
import Derived.Test.YtepnmejahbiacaaGreatL09
import Derived.Test.YtepnmejahbiacaaGreatL03
import Derived.Test.YtepnmejahbiacaaGreatL31
import Derived.Test.YtepnmejahbiacaaGreatL02
import Derived.Test.YtepnmejahbiacaaGreatL01
import Derived.BigQuiet
import Derived.Carry
import Derived.Deep.AppendLies
import Derived.Deep.DrawnRows
import Derived.Deep.Draws
import Derived.Deep.LoopGhost
import Derived.Deep.QuietTactic
import Derived.Deep.RegionHeld3
import Derived.Deep.RegionHeldLaw
import Derived.Deep.RegionLaw
import Derived.Deep.RegionWith
import Derived.Deep.Slices
import Derived.KernelRfl
import Derived.Laws.Cover1
import Derived.Laws.EntriesVeiled
import Derived.Lib.Hide
import Derived.Lib.SliceRun
import Derived.LoopIn
import Derived.LoopNIn
import Derived.Maps.AppendAt
import Derived.Maps.Own
import Derived.Maps.OwnIn
import Derived.Outline
import Derived.OwnWalkIn
import Derived.RangeFuncBound
import Derived.RangeFuncCalls
import Derived.RangeFuncLeaves
import Derived.RangeFuncNested
import Derived.Recover
import Derived.Shelf.SlSortCmp.NoneTotal
import Derived.Shelf.SlSortCmp.WholeK
import Derived.StillTailTactics
import Derived.Stop.RegionWithIn
import Derived.TacticsInMore
import Derived.Test.YtepnmejahbiacaaGreatProg
import Derived.WalkKit
import Derived.WalkSpells
import Derived.Shelf.Spec.SlicesGrow
import Derived.Test.YtepnmejahbiacaaGreatL34
set_option linter.unusedVariables false
set_option linter.unusedSimpArgs false
namespace Go.Proofs.YtepnmejahbiacaaGreat
open Go.RowKit Go.Deep
attribute [local go_sem ↓] Go.wp_at_zero Go.wp_at_succ
def growRen : Go.Shelf.Ren := ⟨fun | 4 => 183 | n => n, fun | 0 => 0 | 3 => 3 | 4 => 4 | 9 => 9 | 20 => 20 | 22 => 34 | 25 => 36 | n => n, fun n => n⟩
theorem growLay : Lays8.n4 Tryz.prog growRen where
  mixed := by kernel_rfl
  f4 := ⟨ "slices.Grow[[]skerry/api.Type,skerry/api.Type]", by decide, Tryz.func183.trans (congrArg some (by kernel_rfl))⟩
  t0 := Tryz.underlying0
  a0 := Tryz.isAgg0
  z0 := Tryz.sizeOf0
  v0 := Tryz.zeroValue0
  t3 := Tryz.underlying3
  a3 := Tryz.isAgg3
  z3 := Tryz.sizeOf3
  v3 := Tryz.zeroValue3
  t4 := Tryz.underlying4
  a4 := Tryz.isAgg4
  z4 := Tryz.sizeOf4
  v4 := Tryz.zeroValue4
  t9 := Tryz.underlying9
  a9 := Tryz.isAgg9
  z9 := Tryz.sizeOf9
  v9 := Tryz.zeroValue9
  t20 := Tryz.underlying20
  a20 := Tryz.isAgg20
  z20 := Tryz.sizeOf20
  v20 := Tryz.zeroValue20
  t22 := Tryz.underlying34
  a22 := Tryz.isAgg34
  z22 := Tryz.sizeOf34
  v22 := Tryz.zeroValue34
theorem infoT5 : ∃ i, Tryz.prog.info? 36 = some i ∧ i.zero = some (.agg #[.int .i64 0, .string ⟨#[]⟩, .int .i64 0, .int .i64 0, .slice none 0 0]) ∧ i.size = 5 ∧ i.bytes = 64 := by
  obtain ⟨i0, hi, hzz⟩ := Option.map_eq_some_iff.1 infoTyp
  simp only [Prod.mk.injEq] at hzz
  exact ⟨i0, hi, hzz.1, hzz.2.1, hzz.2.2⟩
theorem growNil_calls (n : Nat) (hn : n ≤ 10000000) (w : World) : Calls Tryz.prog 183 #[.slice none 0 0, .int .i64 n] w fun e w' => ∃ v, e = .returned v ∧ (∀ G, Own typR 36 5 w.heap.size G v [] w') ∧ Below w.heap.size w w' := by
  by_cases h0 : n = 0
  · subst h0
    refine Calls.mono (Any8.slices_Grow_room growLay none 0 0 0 w (Nat.le_refl _) (by decide) (by decide) (Nat.le_refl _)) ?_
    rintro e w' ⟨rfl, rfl⟩
    exact ⟨_, rfl, fun G => Own.nil _ _ _ _ _ _, Below.refl _ _⟩
  · obtain ⟨i0, hi, hz, hs, hb⟩ := infoT5
    refine Calls.mono (Any8.slices_Grow_grow growLay i0 _ hi hz (by rw [hs]; decide) none 0 0 n [] w (Nat.le_refl _) (by omega) (by rw [hb]; omega) (by omega) (by simp) (fun _ => rfl) (fun a e => by cases e)) ?_
    rintro e w' ⟨rfl, rfl⟩
    rw [Nat.zero_add, Nat.sub_zero]
    obtain ⟨cap, hcap⟩ : ∃ cap, cap = grownCap w n 0 (growRen.t 25) := ⟨_, rfl⟩
    have h1 : n ≤ cap := by rw [hcap]; exact grownCap_ge w n 0 _
    have h2 : cap ≤ maxLen := by rw [hcap]; exact grownCap_le_maxLen w n 0 _ (by simp only [maxLen]; omega)
    rw [← hcap]
    refine ⟨_, rfl, fun G => ⟨[], ⟨rfl, .inr ⟨w.heap.size, cap, _, rfl, Nat.le_refl _, heap_alloc_new w.drew _, Nat.zero_le _, h2, ?_, rfl⟩⟩, .nil⟩, (Below.refl _ w).drew.alloc (by simp) _⟩
    simp only [Array.size_append, size_zeroCells]
    show 0 + n * 5 + (cap - n) * 5 = cap * 5
    rw [Nat.sub_mul]
    have := Nat.mul_le_mul_right 5 h1
    omega
theorem leafR_held {A : Option Addr} {d : List Leaf} {w : World} (h : Slc leafR 5 A d w) : Held (fun b => b < w.heap.size) (Typs A (d.map Leaf.ty)) w := fun w' k =>
  leafR_typ (leafR_keep h fun b off _ o v hv => cell_keep hv k (cell_lt hv))
theorem Own.free {T base : Nat} {G G' : Nat → Prop} {v : Value} {L : List Ty} {w : World} (h : Own typR T 5 base G v L w) (hl : ∀ t ∈ L, t.args = []) : Own typR T 5 base G' v L w := by
  obtain ⟨xs, h1, h2⟩ := h
  refine ⟨xs, h1, ?_⟩
  clear h1
  induction h2 with
  | nil => exact .nil
  | @snoc l xs x cs _ hx hc ih =>
    refine .snoc (ih fun t ht => hl t (List.mem_append.2 (.inl ht))) ?_ hc
    have ha := hl x (List.mem_append.2 (.inr (List.mem_singleton.2 rfl)))
    obtain ⟨A, c, rfl, _⟩ := typR_iff.1 hx.now
    obtain ⟨k, s, lo, hi, args⟩ := x
    have ha : args = [] := ha
    subst ha
    exact typR_leaf k s lo hi A c
end Go.Proofs.YtepnmejahbiacaaGreat
set_option linter.unusedVariables false
set_option linter.unusedSimpArgs false
namespace Go.Proofs.YtepnmejahbiacaaGreat
open Go.RowKit Go.Deep
attribute [local go_sem ↓] Go.wp_at_zero Go.wp_at_succ
abbrev Rw := Option Addr × Nat × List Leaf
def lenSum (rs : List Rw) : Nat := (rs.map fun r => r.2.2.length).sum
def rowsTy (rs : List Rw) : List Ty := rs.flatMap fun r => r.2.2.map Leaf.ty
theorem lenSum_take {rs : List Rw} {k : Nat} {r : Rw} (h : rs[k]? = some r) : lenSum (rs.take (k + 1)) = lenSum (rs.take k) + r.2.2.length := by
  unfold lenSum; rw [take_snoc h, List.map_append, List.sum_append]; simp
theorem lenSum_le (rs : List Rw) (k : Nat) : lenSum (rs.take k) ≤ lenSum rs := by
  unfold lenSum
  conv => rhs; rw [← List.take_append_drop k rs]
  rw [List.map_append, List.sum_append]; omega
theorem rowsTy_take {rs : List Rw} {k : Nat} {r : Rw} (h : rs[k]? = some r) : rowsTy (rs.take (k + 1)) = rowsTy (rs.take k) ++ r.2.2.map Leaf.ty := by
  unfold rowsTy; rw [take_snoc h, List.flatMap_append]; simp
theorem rowsTy_len (rs : List Rw) : (rowsTy rs).length = lenSum rs := by
  unfold rowsTy lenSum
  rw [List.length_flatMap]
  congr 1
  apply List.map_congr_left
  intro r _
  simp
theorem rowsTy_leaf (rs : List Rw) : ∀ t ∈ rowsTy rs, t.args = [] := fun t ht => by
  obtain ⟨r, _, h⟩ := List.mem_flatMap.1 ht
  obtain ⟨x, _, rfl⟩ := List.mem_map.1 h
  rfl
set_option maxHeartbeats 16000000 in
set_option maxRecDepth 100000 in
theorem concat_calls (ab cc : Nat) (rs : List Rw) (w : World) (hcell : ∀ i r, rs[i]? = some r → w.cell? ⟨ab, i, none⟩ = some (.slice r.1 r.2.2.length r.2.1)) (hrow : ∀ r ∈ rs, Slc leafR 5 r.1 r.2.2 w) (hlen : rs.length ≤ 100) (hsum : lenSum rs ≤ 1000000) :
    Calls Tryz.prog 147 #[.slice (some ⟨ab, 0, none⟩) rs.length cc] w fun e w' => ∃ v, e = .returned v ∧ Own typR 36 5 w.heap.size (fun _ => False) v (rowsTy rs) w' ∧ Below w.heap.size w w' := by
  have HC := Lib.hid hcell
  have HR : Hid (∀ r ∈ rs, Held (fun b => b < w.heap.size) (Typs r.1 (r.2.2.map Leaf.ty)) w) := Lib.hid (fun r hr => leafR_held (hrow r hr))
  have HS := Lib.hid hsum
  have HG := Lib.hid (fun n (hn : n ≤ 10000000) => growNil_calls n hn w)
  have HLE := Lib.hid (fun k => lenSum_le rs k)
  clear hcell hrow hsum
  go_enter Tryz.func147, Tryz.ntmps147
  go_wp2_with (fail)
  go_loopw [3, 11] (fun s i wr => ∃ k : Nat, k ≤ rs.length ∧ s = .int .i64 (lenSum (rs.take k) : Nat) ∧ i = .int .i64 k ∧ w = wr) (fun _ i _ => rs.length - (intOf i).toNat)
  case atStart => exact ⟨0, Nat.zero_le _, rfl, rfl, rfl⟩
  case round =>
    obtain ⟨k, hk, rfl, rfl, rfl⟩ := hrel
    by_cases hlt : k < rs.length
    · have hx : rs[k]? = some rs[k] := List.getElem?_eq_getElem hlt
      generalize rs[k] = r at hx
      have c0 := HC.out k r hx
      have HN := Lib.hid (lenSum_take hx)
      have hb1 : lenSum (rs.take k) + r.2.2.length ≤ 1000000 := by rw [← HN.out]; have := HLE.out (k + 1); have := HS.out; omega
      generalize lenSum (rs.take k) = sk at HN hb1
      generalize r.2.2.length = rl at HN hb1 c0
      clear hx
      go_wp2
      go_roundw
      case rel => exact ⟨k + 1, by omega, by rw [HN.out]; go_num, by go_num, by first | rfl | trivial⟩
      case measure => simp [intOf]; omega
    · obtain rfl : k = rs.length := by omega
      rw [List.take_length]
      have HGN := Lib.hid (HG.out (lenSum rs) (by have := HS.out; omega))
      have hs0 : lenSum rs ≤ 1000000 := HS.out
      generalize lenSum rs = sn at HGN hs0
      go_wp2_with (go_at_call 183; refine HGN.out.mono ?_; rintro e V ⟨v, rfl, hown0, hbV⟩)
      have HO0 := Lib.hid (hown0 fun b => b < w.heap.size)
      clear hown0
      go_loopw [6, 27] (fun v i w2 => ∃ k : Nat, k ≤ rs.length ∧ i = .int .i64 k ∧ Own typR 36 5 w.heap.size (fun b => b < w.heap.size) v (rowsTy (rs.take k)) w2 ∧ Below w.heap.size w w2) (fun _ i _ => rs.length - (intOf i).toNat)
      case atStart => exact ⟨0, Nat.zero_le _, rfl, HO0.out, hbV⟩
      case round =>
        obtain ⟨k, hk2, rfl, hown, hbw⟩ := hrel
        by_cases hlt2 : k < rs.length
        · have hx : rs[k]? = some rs[k] := List.getElem?_eq_getElem hlt2
          generalize rs[k] = r at hx
          have c0 := cell_all (HC.out k r hx) hbw
          have HST : Hid (rowsTy (rs.take (k + 1)) = rowsTy (rs.take k) ++ r.2.2.map Leaf.ty) := Lib.hid (rowsTy_take hx)
          have hbz := hbw.size
          have HSR := Lib.hid ((HR.out r (List.mem_of_getElem? hx)).keep (Keep.all hbw))
          have HLN : Hid (((rowsTy (rs.take k)).length + (r.2.2.map Leaf.ty).length) * 64 ≤ 140737488355328) := Lib.hid (by
            rw [rowsTy_len, List.length_map, ← lenSum_take hx]
            have h1 := HLE.out (k + 1)
            have h2 := HS.out
            omega)
          clear hx
          generalize rowsTy (rs.take k) = fl at hown HST HLN
          go_wp2_with (at_builtin; refine Classical.byContradiction fun hneg => ?_)
          apply hneg
          refine wp_append_all typR typR_one 36 5 w.heap.size 64 (fun b => b < w.heap.size) _ rfl _ _ 34 _ rfl Tryz.underlying34 infoTyp rfl (by decide) (by decide) u6 fl (r.2.2.map Leaf.ty) rfl hown r.1 r.2.1 r.2.2.length rfl (by simp) HSR.out (fun b hb e => by have := (hown.lt b e).1; omega) hbw.size HLN.out ?_
          intro v' w3 hown1 hg1 _
          have hb3 : Below w.heap.size w w3 := hbw.grown hg1 hbw.size fun k' e => (hown.lt _ e).1
          clear hown
          go_wp2
          go_roundw
          case rel => exact ⟨k + 1, by omega, by go_num, by rw [HST.out]; exact hown1, hb3⟩
          case measure => simp [intOf]; omega
        · obtain rfl : k = rs.length := by omega
          rw [List.take_length] at hown
          have HF := Lib.hid (And.intro (Own.free (G' := fun _ => False) hown (rowsTy_leaf rs)) hbw)
          clear hown hbw
          go_wp2
          go_ret
          exact ⟨_, rfl, HF.out.1, HF.out.2⟩
end Go.Proofs.YtepnmejahbiacaaGreat
set_option linter.unusedVariables false
set_option linter.unusedSimpArgs false
namespace Go.Proofs.YtepnmejahbiacaaGreat
open Go.RowKit Go.Deep
def PartsT.setRow (p : PartsT) (i : Fin 3) (M : List Ty) : PartsT := ⟨fun j => if j = i then M else p.row j, p.t0, p.t1⟩
def PRows.set (r : PRows) (i : Fin 3) (A : Option Addr) (c : Nat) : PRows := ⟨fun j => if j = i then A else r.a j, fun j => if j = i then c else r.c j⟩
theorem partsCs_set (hp : Nat) (p : PartsT) (r : PRows) (i : Fin 3) (M : List Ty) (A : Option Addr) (c : Nat) : (partsCs hp p r).set (1 + i.val) (.slice A M.length c) = partsCs hp (p.setRow i M) (r.set i A c) := by
  match i with
  | 0 => simp [partsCs, PRows.v, PartsT.setRow, PRows.set]
  | 1 => simp [partsCs, PRows.v, PartsT.setRow, PRows.set]
  | 2 => simp [partsCs, PRows.v, PartsT.setRow, PRows.set]
/-- A row written anew: the new one lies behind what was there. -/
theorem PartsAt.setRow (S : Nat → Prop) {pb hp : Nat} {p : PartsT} {r : PRows} {W V : World} (h : PartsAt pb hp p r W) (i : Fin 3) (o : Nat) (ho : 1 + i.val = o) (hch : Chg (fun b => (r.v p i).ownBlock = some b) W V) {M : List Ty} {A : Option Addr} {c : Nat} (hown : Own typR 36 5 W.heap.size (fun _ => False) (.slice A M.length c) M V) :
    PartsAt pb hp (p.setRow i M) (r.set i A c) (V.setCell ⟨pb, o, none⟩ (.slice A M.length c)) ∧ PMove S pb r W (r.set i A c) (V.setCell ⟨pb, o, none⟩ (.slice A M.length c)) := by
  subst ho
  have hlt := h.lt
  have hnew : ∀ x, A = some x → W.heap.size ≤ x.block := fun x hx => (hown.lt x.block (by rw [hx]; rfl)).1
  have hsep : ∀ j x, j ≠ i → r.a j = some x → (r.v p i).ownBlock ≠ some x.block := fun j x hj hx e => by
    cases e2 : r.a i with
    | none => unfold PRows.v at e; rw [e2] at e; simp [Value.ownBlock] at e
    | some z =>
      have hz : z.block = x.block := by unfold PRows.v at e; rw [e2] at e; simpa [Value.ownBlock] using e
      exact h.sep _ _ _ _ hj hx e2 hz.symm
  refine ⟨⟨?_, fun j => ?_, fun a b x y hab hx hy => ?_⟩, ?_, fun b hb => ?_⟩
  · rw [← partsCs_set]
    refine Cel.set ?_ _ (by simp [partsCs]; omega) _
    exact h.cel.keep (hch.keep (G := fun b => b = pb) fun b hb e => by subst hb; have := (h.ownLt (PRows.ownOf e)).1; omega) rfl
  · by_cases hj : j = i
    · subst hj
      have : (r.set j A c).v (p.setRow j M) j = .slice A M.length c := by simp [PRows.v, PartsT.setRow, PRows.set]
      rw [this]
      have e2 : (p.setRow j M).row j = M := by simp [PartsT.setRow]
      rw [e2]
      exact (hown.setCell (p := ⟨pb, 1 + j.val, none⟩) (fun _ hb => hb.elim) (fun e => by have := (hown.lt _ e).1; have : W.heap.size ≤ pb := this; omega) _).lower (by omega)
    · have : (r.set i A c).v (p.setRow i M) j = r.v p j := by simp [PRows.v, PartsT.setRow, PRows.set, hj]
      rw [this]
      have e2 : (p.setRow i M).row j = p.row j := by simp [PartsT.setRow, hj]
      rw [e2]
      have o1 := (h.row j).keep (w' := V) ⟨hch.size, fun b _ hb => hb.elim⟩ fun q hq => hch.block q ((h.row j).lt q hq).2 (by
        cases e2 : r.a j with
        | none => unfold PRows.v at hq; rw [e2] at hq; simp [Value.ownBlock] at hq
        | some z =>
          have hz : z.block = q := by unfold PRows.v at hq; rw [e2] at hq; simpa [Value.ownBlock] using hq
          rw [← hz]; exact hsep j z hj e2)
      exact o1.setCell (p := ⟨pb, 1 + i.val, none⟩) (fun _ hb => hb.elim) (fun e => by have := ((h.row j).lt _ e).1; have : pb + 1 ≤ pb := this; omega) _
  · by_cases ha : a = i <;> by_cases hb : b = i
    · exact absurd (ha.trans hb.symm) hab
    · simp [PRows.set, ha, hb] at hx hy
      have h1 := hnew x hx
      have h2 := (h.ownLt ⟨b, y, hy, rfl⟩).2
      omega
    · simp [PRows.set, ha, hb] at hx hy
      have h1 := hnew y hy
      have h2 := (h.ownLt ⟨a, x, hx, rfl⟩).2
      omega
    · simp [PRows.set, ha, hb] at hx hy
      exact h.sep a b x y hab hx hy
  · exact (hch.mono fun b _ e => .inr (.inr (PRows.ownOf e))).trans (Chg.setCell (S := fun b => S b ∨ b = pb ∨ r.own b) V (p := ⟨pb, 1 + i.val, none⟩) (.inr (.inl rfl)) _)
  · obtain ⟨j, x, hx, rfl⟩ := hb
    by_cases hj : j = i
    · simp [PRows.set, hj] at hx
      exact .inr (hnew x hx)
    · simp [PRows.set, hj] at hx
      exact .inl ⟨j, x, hx, rfl⟩
/-- What pieces holds on its way: the parts, since the world w. -/
structure PcAt (hp M1 : Nat) (AH : Option Addr) (cH : Nat) (l : List CI) (pb : Nat) (w : World) (p : PartsT) (V : World) : Prop where
  ex : ∃ r, PartsAt pb hp p r V ∧ ∀ b, r.own b → w.heap.size ≤ b
  H : HierAt hp M1 AH cH l l.length V
  ch : Chg (Memo M1) w V
end Go.Proofs.YtepnmejahbiacaaGreat
