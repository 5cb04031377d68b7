/- Part 27 of the proof: Wr, Wu, Wv. -/
import Derived.Test.YtepnmejahbiacaaGreatL20
import Derived.Test.YtepnmejahbiacaaGreatL04
import Derived.Test.YtepnmejahbiacaaGreatL05
import Derived.Test.YtepnmejahbiacaaGreatL18
import Derived.Test.YtepnmejahbiacaaGreatL07
import Derived.Test.YtepnmejahbiacaaGreatL12
import Derived.Test.YtepnmejahbiacaaGreatL13
import Derived.Test.YtepnmejahbiacaaGreatL14
import Derived.Test.YtepnmejahbiacaaGreatL15
import Derived.Test.YtepnmejahbiacaaGreatL17
import Derived.Test.YtepnmejahbiacaaGreatL21
import Derived.Test.YtepnmejahbiacaaGreatL08
import Derived.Test.YtepnmejahbiacaaGreatL16
import Derived.Test.YtepnmejahbiacaaGreatL06
import Derived.Test.YtepnmejahbiacaaGreatL10
import Derived.Test.YtepnmejahbiacaaGreatL11
import Derived.Test.YtepnmejahbiacaaGreatL26
import Derived.Test.YtepnmejahbiacaaGreatL09
import Derived.Test.YtepnmejahbiacaaGreatL03
import Derived.Test.YtepnmejahbiacaaGreatL02
import Derived.Test.YtepnmejahbiacaaGreatL01
import Derived.BigQuiet
import Derived.Carry
import Derived.Deep.AppendLies
import Derived.Deep.DrawnRows
import Derived.Deep.Draws
import Derived.Deep.LoopGhost
import Derived.Deep.QuietTactic
import Derived.Deep.RegionHeld3
import Derived.Deep.RegionLaw
import Derived.Deep.RegionWith
import Derived.KernelRfl
import Derived.Laws.EntriesVeiled
import Derived.Lib.Hide
import Derived.Lib.SliceRun
import Derived.LoopIn
import Derived.LoopNIn
import Derived.Maps.AppendAt
import Derived.Maps.Own
import Derived.Maps.OwnIn
import Derived.Outline
import Derived.OwnWalkIn
import Derived.RangeFuncBound
import Derived.RangeFuncCalls
import Derived.RangeFuncLeaves
import Derived.RangeFuncNested
import Derived.Recover
import Derived.StillTailTactics
import Derived.Stop.RegionWithIn
import Derived.TacticsInMore
import Derived.Test.YtepnmejahbiacaaGreatProg
import Derived.WalkKit
import Derived.WalkSpells
set_option linter.unusedVariables false
set_option linter.unusedSimpArgs false
namespace Go.Proofs.YtepnmejahbiacaaGreat
open Go.RowKit
theorem holds_addC {l : List CI} (p : PartsT) {t : Ty} (hk : t.kind = 1) : Holds1 l (addC l p t) t := by
  unfold Holds1 addC
  rw [if_pos hk]
  split
  · exact List.mem_append.2 (.inr (List.mem_singleton.2 rfl))
  · split
    · exact ⟨rfl, rfl⟩
    · by_cases hv : vdB l t.name = true
      · exact .inl hv
      · rw [if_neg hv]
        exact .inr (List.mem_append.2 (.inr (List.mem_singleton.2 rfl)))
theorem addC_cls {l : List CI} (h : LookOk l) (p : PartsT) : addC l p (clsTy nClass) = p.add 2 (clsTy nClass) := by
  unfold addC
  rw [if_neg (show ¬ (clsTy nClass).name = nInteger by decide), if_neg (show ¬ (clsTy nClass).name = nBoolean by decide), if_neg (by rw [show (clsTy nClass).name = nClass from rfl, vd_cls h]; decide)]
theorem holds_list {l : List CI} {x y : Ty} (hy : ∀ p, Holds1 l (addT l y p) x) : ∀ (L : List Ty) (p : PartsT), y ∈ L → Holds1 l (addTs l L p) x
  | t :: r, p, hm => by
    rw [addTs]
    rcases List.mem_cons.1 hm with rfl | hm
    · exact (hy p).le (PLe.addTs l r _)
    · exact holds_list hy r _ hm
theorem holds_leaf {l : List CI} (h : LookOk l) : ∀ (n : Nat) (t : Ty), t.count ≤ n → formedB l t = true → ∀ x ∈ t.pieces, ∀ p, Holds1 l (addT l t p) x := by
  intro n
  induction n with
  | zero => intro t h; have := t.count_pos; omega
  | succ n ih =>
    intro t hn hf x hx p
    rw [formedB_eq] at hf
    obtain ⟨h0, ha⟩ := Bool.and_eq_true_iff.1 hf
    by_cases hk : t.kind = 5
    · rw [Ty.pieces_union hk] at hx
      obtain ⟨y, hy, hxy⟩ := List.mem_flatMap.1 hx
      have hcn := Ty.count_mem hy
      have hh := holds_list (l := l) (x := x) (y := y) (ih y (by omega) (List.all_eq_true.1 ha y hy) x hxy) t.args p hy
      obtain ⟨k, nm, lo, hi, args⟩ := t
      have hk : k = 5 := hk
      subst hk
      rw [addT, if_neg (by decide), if_neg (by decide), if_neg (by decide), if_neg (by decide)]
      exact hh
    · rw [Ty.pieces_leaf hk] at hx
      simp only [List.mem_singleton] at hx
      subst hx
      obtain ⟨k, nm, lo, hi, args⟩ := x
      have hk : ¬ k = 5 := hk
      rw [addT]
      by_cases k1 : k = 1
      · subst k1
        rw [if_pos rfl]
        exact holds_addC p rfl
      · rw [if_neg k1]
        by_cases k2 : k = 2
        · subst k2
          rw [if_pos rfl]
          exact List.mem_append.2 (.inr (List.mem_singleton.2 rfl))
        · rw [if_neg k2]
          by_cases k3 : k = 3
          · subst k3
            rw [if_pos rfl]
            refine ⟨fun e => ?_, fun e => ?_⟩
            · have e : lo = 0 := e
              show (p.t0 || decide (lo = 0)) = true
              rw [decide_eq_true e, Bool.or_true]
            · have e : lo = 1 := e
              show (p.t1 || decide (lo = 1)) = true
              rw [decide_eq_true e, Bool.or_true]
          · rw [if_neg k3]
            by_cases k4 : k = 4
            · subst k4
              rw [if_pos rfl]
              unfold addM Holds1
              rw [if_neg (show ¬ (Ty.mk 4 nm lo hi args).kind = 1 from (by decide : ¬ (4 : Int) = 1)), if_neg (show ¬ (Ty.mk 4 nm lo hi args).kind = 2 from (by decide : ¬ (4 : Int) = 2)), if_neg (show ¬ (Ty.mk 4 nm lo hi args).kind = 3 from (by decide : ¬ (4 : Int) = 3))]
              by_cases ho : nm = nObject
              · rw [if_pos (show (Ty.mk 4 nm lo hi args).name = nObject from ho), if_pos (show (Ty.mk 4 nm lo hi args).name = nObject from ho), addC_cls h]
                exact List.mem_append.2 (.inr (List.mem_singleton.2 rfl))
              · rw [if_neg (show ¬ (Ty.mk 4 nm lo hi args).name = nObject from ho), if_neg (show ¬ (Ty.mk 4 nm lo hi args).name = nObject from ho)]
                exact List.mem_append.2 (.inr (List.mem_singleton.2 rfl))
            · exfalso
              unfold formed0 at h0
              rw [if_neg (show ¬ ((Ty.mk k nm lo hi args).kind = 1 ∨ (Ty.mk k nm lo hi args).kind = 4) from fun q => q.elim k1 k4), if_neg (show ¬ (Ty.mk k nm lo hi args).kind = 2 from k2), if_neg (show ¬ (Ty.mk k nm lo hi args).kind = 3 from k3), if_neg (show ¬ (Ty.mk k nm lo hi args).kind = 5 from hk)] at h0
              cases h0
/-- What the parts hold comes from the leaves. -/
structure From1 (l : List CI) (S : List Ty) (p : PartsT) : Prop where
  r0 : ∀ y ∈ p.row 0, (y ∈ S ∧ y.kind = 2) ∨ (y = wholeTy ∧ ∃ x ∈ S, x.kind = 1 ∧ x.name = nInteger)
  r1 : ∀ y ∈ p.row 1, y ∈ S ∧ y.kind = 4 ∧ y.name ≠ nObject
  r2 : ∀ y ∈ p.row 2, (y ∈ S ∧ y.kind = 1 ∧ y.name ≠ nInteger ∧ y.name ≠ nBoolean ∧ vdB l y.name = false) ∨ (y = clsTy nClass ∧ ∃ x ∈ S, x.kind = 4 ∧ x.name = nObject)
  t0 : p.t0 = true → ∃ x ∈ S, (x.kind = 3 ∧ x.lo = 0) ∨ (x.kind = 1 ∧ x.name = nBoolean)
  t1 : p.t1 = true → ∃ x ∈ S, (x.kind = 3 ∧ x.lo = 1) ∨ (x.kind = 1 ∧ x.name = nBoolean)
theorem From1.mono {l : List CI} {S S' : List Ty} {p : PartsT} (h : From1 l S p) (hs : ∀ x ∈ S, x ∈ S') : From1 l S' p :=
  ⟨fun y hy => (h.r0 y hy).imp (fun q => ⟨hs y q.1, q.2⟩) fun ⟨e, x, hx, q⟩ => ⟨e, x, hs x hx, q⟩, fun y hy => ⟨hs y (h.r1 y hy).1, (h.r1 y hy).2⟩, fun y hy => (h.r2 y hy).imp (fun q => ⟨hs y q.1, q.2⟩) fun ⟨e, x, hx, q⟩ => ⟨e, x, hs x hx, q⟩, fun q => by obtain ⟨x, hx, e⟩ := h.t0 q; exact ⟨x, hs x hx, e⟩, fun q => by obtain ⟨x, hx, e⟩ := h.t1 q; exact ⟨x, hs x hx, e⟩⟩
theorem mem_add {p : PartsT} {i j : Fin 3} {t y : Ty} (h : y ∈ (p.add i t).row j) : y ∈ p.row j ∨ (j = i ∧ y = t) := by
  have h : y ∈ (if j = i then p.row j ++ [t] else p.row j) := h
  split at h
  · rename_i e
    rcases List.mem_append.1 h with q | q
    · exact .inl q
    · exact .inr ⟨e, List.mem_singleton.1 q⟩
  · exact .inl h
theorem From1.leaf {l : List CI} (hL : LookOk l) {S : List Ty} {p : PartsT} (h : From1 l S p) {t : Ty} (hk : t.kind ≠ 5) (hf : formed0 l t = true) : From1 l (S ++ [t]) (addT l t p) := by
  have h' := h.mono (S' := S ++ [t]) fun x hx => List.mem_append.2 (.inl hx)
  have ht : t ∈ S ++ [t] := List.mem_append.2 (.inr (List.mem_singleton.2 rfl))
  obtain ⟨k, nm, lo, hi, args⟩ := t
  have hk : ¬ k = 5 := hk
  rw [addT]
  by_cases k1 : k = 1
  · subst k1
    rw [if_pos rfl]
    unfold addC
    split
    · rename_i e
      exact ⟨fun y hy => (mem_add hy).elim (h'.r0 y) fun q => .inr ⟨q.2, _, ht, rfl, e⟩, fun y hy => (mem_add hy).elim (h'.r1 y) fun q => absurd q.1 (by decide), fun y hy => (mem_add hy).elim (h'.r2 y) fun q => absurd q.1 (by decide), h'.t0, h'.t1⟩
    · rename_i n1
      split
      · rename_i e
        exact ⟨h'.r0, h'.r1, h'.r2, fun _ => ⟨_, ht, .inr ⟨rfl, e⟩⟩, fun _ => ⟨_, ht, .inr ⟨rfl, e⟩⟩⟩
      · rename_i n2
        split
        · exact h'
        · rename_i hv
          exact ⟨fun y hy => (mem_add hy).elim (h'.r0 y) fun q => absurd q.1 (by decide), fun y hy => (mem_add hy).elim (h'.r1 y) fun q => absurd q.1 (by decide), fun y hy => (mem_add hy).elim (h'.r2 y) fun q => .inl (by rw [q.2]; exact ⟨ht, rfl, n1, n2, by simpa using hv⟩), h'.t0, h'.t1⟩
  · rw [if_neg k1]
    by_cases k2 : k = 2
    · subst k2
      rw [if_pos rfl]
      exact ⟨fun y hy => (mem_add hy).elim (h'.r0 y) fun q => .inl (by rw [q.2]; exact ⟨ht, rfl⟩), fun y hy => (mem_add hy).elim (h'.r1 y) fun q => absurd q.1 (by decide), fun y hy => (mem_add hy).elim (h'.r2 y) fun q => absurd q.1 (by decide), h'.t0, h'.t1⟩
    · rw [if_neg k2]
      by_cases k3 : k = 3
      · subst k3
        rw [if_pos rfl]
        refine ⟨h'.r0, h'.r1, h'.r2, fun q => ?_, fun q => ?_⟩
        · have q : (p.t0 || decide (lo = 0)) = true := q
          rcases Bool.or_eq_true_iff.1 q with q | q
          · exact h'.t0 q
          · exact ⟨_, ht, .inl ⟨rfl, of_decide_eq_true q⟩⟩
        · have q : (p.t1 || decide (lo = 1)) = true := q
          rcases Bool.or_eq_true_iff.1 q with q | q
          · exact h'.t1 q
          · exact ⟨_, ht, .inl ⟨rfl, of_decide_eq_true q⟩⟩
      · rw [if_neg k3]
        by_cases k4 : k = 4
        · subst k4
          rw [if_pos rfl]
          unfold addM
          split
          · rename_i e
            rw [addC_cls hL]
            exact ⟨fun y hy => (mem_add hy).elim (h'.r0 y) fun q => absurd q.1 (by decide), fun y hy => (mem_add hy).elim (h'.r1 y) fun q => absurd q.1 (by decide), fun y hy => (mem_add hy).elim (h'.r2 y) fun q => .inr ⟨q.2, _, ht, rfl, e⟩, h'.t0, h'.t1⟩
          · rename_i e
            exact ⟨fun y hy => (mem_add hy).elim (h'.r0 y) fun q => absurd q.1 (by decide), fun y hy => (mem_add hy).elim (h'.r1 y) fun q => by rw [q.2]; exact ⟨ht, rfl, e⟩, fun y hy => (mem_add hy).elim (h'.r2 y) fun q => absurd q.1 (by decide), h'.t0, h'.t1⟩
        · exfalso
          unfold formed0 at hf
          rw [if_neg (show ¬ ((Ty.mk k nm lo hi args).kind = 1 ∨ (Ty.mk k nm lo hi args).kind = 4) from fun q => q.elim k1 k4), if_neg (show ¬ (Ty.mk k nm lo hi args).kind = 2 from k2), if_neg (show ¬ (Ty.mk k nm lo hi args).kind = 3 from k3), if_neg (show ¬ (Ty.mk k nm lo hi args).kind = 5 from hk)] at hf
          cases hf
mutual
theorem From1.addT {l : List CI} (hL : LookOk l) : ∀ (t : Ty) (S : List Ty) (p : PartsT), From1 l S p → formedB l t = true → From1 l (S ++ t.pieces) (addT l t p)
  | .mk k nm lo hi args, S, p, h, hf => by
    rw [formedB_eq] at hf
    obtain ⟨h0, ha⟩ := Bool.and_eq_true_iff.1 hf
    by_cases hk : k = 5
    · subst hk
      rw [Ty.pieces, if_pos rfl, Go.Proofs.YtepnmejahbiacaaGreat.addT, if_neg (by decide), if_neg (by decide), if_neg (by decide), if_neg (by decide)]
      exact From1.addTs hL args S p h fun x hx => List.all_eq_true.1 ha x hx
    · rw [Ty.pieces, if_neg hk]
      exact h.leaf hL hk h0
theorem From1.addTs {l : List CI} (hL : LookOk l) : ∀ (L : List Ty) (S : List Ty) (p : PartsT), From1 l S p → (∀ x ∈ L, formedB l x = true) → From1 l (S ++ Ty.piecesL L) (addTs l L p)
  | [], S, p, h, _ => by rw [Ty.piecesL, List.append_nil, Go.Proofs.YtepnmejahbiacaaGreat.addTs]; exact h
  | t :: r, S, p, h, hf => by
    rw [Ty.piecesL, ← List.append_assoc, Go.Proofs.YtepnmejahbiacaaGreat.addTs]
    exact From1.addTs hL r _ _ (From1.addT hL t S p h (hf t (by simp))) fun x hx => hf x (List.mem_cons_of_mem _ hx)
end
end Go.Proofs.YtepnmejahbiacaaGreat
set_option linter.unusedVariables false
set_option linter.unusedSimpArgs false
namespace Go.Proofs.YtepnmejahbiacaaGreat
open Go.RowKit
/-- How many classes a class's line has. -/
def lineLen (l : List CI) (s : ByteArray) : Nat := match l.find? fun x => decide (x.name = s) with
  | some x => x.cpl.length
  | none => 0
theorem below_less {l : List CI} (h : LookOk l) {a b : ByteArray} (hb : belowC l a b = true) (hn : a ≠ b) : lineLen l b < lineLen l a := by
  obtain ⟨x, hx, hm⟩ := belowC_iff.1 hb
  obtain ⟨hxl, hxn⟩ := find_mem hx
  obtain ⟨y, hy, e, hf, hs⟩ := cpl_sub h hxl hm
  unfold lineLen
  rw [hx, hf]
  show y.cpl.length < x.cpl.length
  have hle := hs.length_le
  rcases Nat.lt_or_ge y.cpl.length x.cpl.length with q | q
  · exact q
  · exfalso
    have he := hs.eq_of_length (by omega)
    obtain ⟨t, ht⟩ := cpl_head h hxl
    obtain ⟨u, hu⟩ := cpl_head h hy
    rw [ht, hu] at he
    have := (List.cons.inj he).1
    rw [hxn, e] at this
    exact hn this.symm
theorem top_above {l : List CI} (h : LookOk l) (K : List Ty) : ∀ (n : Nat) (s : ByteArray) (y : Ty), lineLen l y.name < n → y ∈ K → belowB l s y.name = true → ∃ z ∈ topL l K, belowB l s z.name = true := by
  intro n
  induction n with
  | zero => intro s y hn; omega
  | succ n ih =>
    intro s y hn hy hs
    by_cases ht : y ∈ topL l K
    · exact ⟨y, ht, hs⟩
    · have hu : (K.any fun u => decide (u.name ≠ y.name) && belowB l y.name u.name) = true := by
        cases hq : (K.any fun u => decide (u.name ≠ y.name) && belowB l y.name u.name) with
        | true => rfl
        | false => exact absurd (List.mem_filter.2 ⟨hy, by rw [hq]; rfl⟩) ht
      obtain ⟨u, huK, hq⟩ := List.any_eq_true.1 hu
      obtain ⟨q1, q2⟩ := Bool.and_eq_true_iff.1 hq
      have q1 : u.name ≠ y.name := of_decide_eq_true q1
      have q3 := q2
      rw [belowB_C h] at q2
      have hl := below_less h q2 fun e => q1 e.symm
      refine ih s u (by omega) huK ?_
      rw [belowB_C h] at hs ⊢
      exact belowC_trans h hs q2
theorem top_sub {l : List CI} {K : List Ty} {z : Ty} (h : z ∈ topL l K) : z ∈ K := (List.mem_filter.1 h).1
end Go.Proofs.YtepnmejahbiacaaGreat
set_option linter.unusedVariables false
set_option linter.unusedSimpArgs false
namespace Go.Proofs.YtepnmejahbiacaaGreat
open Go.RowKit
theorem cls_get {l : List CI} {j : Nat} {s : ByteArray} (h : (names (heirsOf l))[j]? = some s) : ∃ y, l[j]? = some y ∧ y.name = s := by
  rw [heirNames, List.getElem?_map] at h
  obtain ⟨y, hy, e⟩ := Option.map_eq_some_iff.1 h
  exact ⟨y, hy, e⟩
theorem below_super {l : List CI} (h : LookOk l) {b : ByteArray} {k : Nat} {x : CI} (hk : l[k]? = some x) (hb : b ∈ x.cpl) : b = x.name ∨ ∃ s ∈ x.supers, ∃ j y, j < k ∧ l[j]? = some y ∧ y.name = s ∧ b ∈ y.cpl := by
  have hg := (c3Check_zero h.2.2.2.2.1).2
  have hl := h.2.2.2.2.2 k x hk
  have hgx : (heirsOf l)[k]? = some x.heir := heirsOf_get hk
  rw [line_eq hg hgx] at hl
  obtain ⟨ls, hls, hl⟩ := Option.bind_eq_some_iff.1 hl
  obtain ⟨t, ht, e⟩ := Option.map_eq_some_iff.1 hl
  obtain ⟨h1, h2⟩ := allSome_get hls
  rw [← e] at hb
  have key : ∀ (q : Nat) (s : ByteArray), x.heir.supers[q]? = some s → ∃ (j : Nat) (y : CI) (z : List ByteArray), j < k ∧ l[j]? = some y ∧ y.name = s ∧ y.cpl = z ∧ ls[q]? = some z := by
    intro q s hq
    obtain ⟨z', hz', hf⟩ := h2 q s hq
    obtain ⟨j, hj, he⟩ := super_at hg hgx (List.mem_of_getElem? hq)
    unfold lineOf at hf; rw [he] at hf
    obtain ⟨y, hy, hyn⟩ := cls_get (lastAt_some he)
    have := h.2.2.2.2.2 j y hy
    have hf : line (heirsOf l) j = some z' := hf
    rw [this] at hf
    exact ⟨j, y, z', hj, hy, hyn, by injection hf, hz'⟩
  rcases List.mem_cons.1 hb with hb | hb
  · exact .inl hb
  · refine .inr ?_
    obtain ⟨z, hz, hbz⟩ := (merge_mem ht).1 b hb
    rw [List.mem_append, List.mem_singleton] at hz
    rcases hz with hz | rfl
    · obtain ⟨q, hq, e2⟩ := List.getElem_of_mem hz
      have hqs : q < x.heir.supers.length := by omega
      obtain ⟨j, y, z', hj, hy, hyn, hyc, hz'⟩ := key q _ (List.getElem?_eq_getElem hqs)
      rw [List.getElem?_eq_getElem hq, e2] at hz'; cases hz'
      exact ⟨_, List.getElem_mem hqs, j, y, hj, hy, hyn, by rw [hyc]; exact hbz⟩
    · obtain ⟨q, hq⟩ := List.mem_iff_getElem?.1 hbz
      obtain ⟨j, y, z', hj, hy, hyn, hyc, hz'⟩ := key q b hq
      obtain ⟨u, hu⟩ := cpl_head h (List.mem_of_getElem? hy)
      exact ⟨b, List.mem_of_getElem? hq, j, y, hj, hy, hyn, by rw [hu, hyn]; simp⟩
theorem void_at {l : List CI} (h : LookOk l) {b : ByteArray} (hv : vdB l b = true) : ∀ (k : Nat) (x : CI), l[k]? = some x → b ∈ x.cpl → vdB l x.name = true := by
  intro k
  induction k using Nat.strongRecOn with
  | _ k ih =>
    intro x hk hb
    rcases below_super h hk hb with e | ⟨s, hs, j, y, hj, hy, hyn, hby⟩
    · rw [← e]; exact hv
    · have hvy := ih j hj y hy hby
      rw [vdB_eq h] at hvy
      obtain ⟨_, hall⟩ := Bool.and_eq_true_iff.1 hvy
      refine List.all_eq_true.1 hall x.name ?_
      unfold subsL
      exact List.mem_map.2 ⟨x, List.mem_filter.2 ⟨List.mem_of_getElem? hk, hasS_iff.2 (by rw [hyn]; exact hs)⟩, rfl⟩
theorem void_down {l : List CI} (h : LookOk l) {a b : ByteArray} (hv : vdB l b = true) (hb : belowC l a b = true) : vdB l a = true := by
  obtain ⟨x, hx, hm⟩ := belowC_iff.1 hb
  obtain ⟨hxl, hxn⟩ := find_mem hx
  obtain ⟨k, hk⟩ := List.mem_iff_getElem?.1 hxl
  rw [← hxn]
  exact void_at h hv k x hk hm
end Go.Proofs.YtepnmejahbiacaaGreat
