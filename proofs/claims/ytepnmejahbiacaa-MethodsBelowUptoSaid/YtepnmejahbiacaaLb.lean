/- MethodsStrict and MethodsBelow, without the program. -/
import Derived.Test.YtepnmejahbiacaaLo
import Derived.Test.YtepnmejahbiacaaPb
set_option linter.unusedVariables false
set_option linter.unusedSimpArgs false
namespace Go.Proofs.Ytepnmejahbiacaa
open Go.RowKit

theorem precR_iff {l : List CI} {a b : Meth} {ts : List Tag} : precR l a b ts = true ↔ checkAllE l [a, b] ts = 0 ∧ appB l ts a = true ∧ appB l ts b = true ∧ precB l ts a b = true := by
  unfold precR
  rw [Bool.and_eq_true, Bool.and_eq_true, Bool.and_eq_true, decide_eq_true_eq, and_assoc, and_assoc]
/-- Precedes is irreflexive, also by the numbers. -/
theorem precR_irr {l : List CI} {a : Meth} {ts : List Tag} : precR l a a ts = false := by
  cases h : precR l a a ts with
  | false => rfl
  | true =>
    obtain ⟨hz, _⟩ := precR_iff.1 h
    obtain ⟨_, _, h2, _⟩ := checkAllE_zero hz
    have := areMs_nodup h2
    simp at this
theorem precR_asymm {l : List CI} {a b : Meth} {ts : List Tag} (h : precR l a b ts = true) : precR l b a ts = false := by
  cases h2 : precR l b a ts with
  | false => rfl
  | true => exact (precB_asymm (precR_iff.1 h).2.2.2 (precR_iff.1 h2).2.2.2).elim

open Classical in
/-- What TypePrecedes returns. -/
noncomputable def tpR (l : List CI) (v : Tag) (s t : Ty) : Bool := decide (HasOk l v s) && decide (HasOk l v t) && decide (cmpT l (cplAt l v) s t = 1)
theorem tpR_iff {l : List CI} {v : Tag} {s t : Ty} : tpR l v s t = true ↔ HasOk l v s ∧ HasOk l v t ∧ cmpT l (cplAt l v) s t = 1 := by
  unfold tpR
  simp only [Bool.and_eq_true, decide_eq_true_eq, and_assoc]
theorem tpR_trans {l : List CI} {v : Tag} {s t u : Ty} (hs : s.kind = 1) (ht : t.kind = 1) (hu : u.kind = 1) (h1 : tpR l v s t = true) (h2 : tpR l v t u = true) : tpR l v s u = true :=
  tpR_iff.2 ⟨(tpR_iff.1 h1).1, (tpR_iff.1 h2).2.1, cmpT_trans hs ht hu (tpR_iff.1 h1).2.2 (tpR_iff.1 h2).2.2⟩

open Classical in
/-- Within. -/
noncomputable def withinR (l : List CI) (s t : Ty) : Bool := decide (LookOk l) && decide (validErr l s = 0) && decide (validErr l t = 0) && withinB l s t
theorem withinR_ok {l : List CI} {s t : Ty} (h : LookOk l) (hs : validErr l s = 0) (ht : validErr l t = 0) : withinR l s t = withinB l s t := by
  unfold withinR; simp [h, hs, ht]

theorem cls_within {l : List CI} {s t : Ty} (hs : s.kind = 1) (ht : t.kind = 1) : withinB l s t = belowC l s.name t.name := by
  unfold withinB
  rw [Ty.pieces_leaf (by omega), Ty.pieces_leaf (by omega)]
  simp [insideB, ht, topN, hs]
/-- A type that is within another one: equal to it, or ahead of it, for an argument that has both. -/
theorem cmpT_within {l : List CI} (h : LookOk l) {v : Tag} {s t : Ty} (hs : hasTF l v s = true) (hw : withinB l s t = true) :
    (cmpT l (cplAt l v) s t = 0 ∨ cmpT l (cplAt l v) s t = 1) ∧ (withinB l t s = false → cmpT l (cplAt l v) s t = 1) := by
  unfold cmpT
  by_cases hk : s.kind = 1 ∧ t.kind = 1
  · rw [if_pos hk]
    rw [cls_within hk.1 hk.2] at hw
    rw [hasTF_eq, if_pos hk.1, belowB_C h, belowC_cpl, hasS_iff] at hs
    unfold cplAt at hs ⊢
    cases hf : l.find? (fun x => decide (x.name = classOfB v)) with
    | none => rw [hf] at hs; simp at hs
    | some x =>
      rw [hf] at hs
      obtain ⟨hx, _⟩ := find_mem hf
      obtain ⟨_, h1, h2⟩ := idx_le h hx (n := s.name) (m := t.name) hs hw
      simp only [Option.map_some, Option.getD_some]
      rw [if_neg (by omega)]
      by_cases e : idx x.cpl s.name < idx x.cpl t.name
      · rw [if_pos e]; exact ⟨.inr rfl, fun _ => rfl⟩
      · rw [if_neg e]
        refine ⟨.inl rfl, fun hn => ?_⟩
        have := h2 (by omega)
        rw [cls_within hk.2 hk.1, ← this, this] at hn
        rw [this] at hw
        rw [hw] at hn; cases hn
  · rw [if_neg hk, if_pos hw]
    cases hw2 : withinB l t s with
    | true => exact ⟨.inl (by simp), fun q => by simp at q⟩
    | false => exact ⟨.inr (by simp), fun _ => by simp⟩

/-- All types of a method are within those of another one. -/
noncomputable def allIn (l : List CI) (a b : Meth) (j : Nat) : Bool := (List.range j).all fun i => match a.pars[i]?, b.pars[i]? with
  | some p, some q => withinR l p.type q.type
  | _, _ => false
theorem allIn_succ {l : List CI} {a b : Meth} {j : Nat} {p q : Par} (h1 : a.pars[j]? = some p) (h2 : b.pars[j]? = some q) : allIn l a b (j + 1) = (allIn l a b j && withinR l p.type q.type) := by
  unfold allIn
  rw [List.range_succ, List.all_append]
  simp [h1, h2]
theorem allIn_at {l : List CI} {a b : Meth} {n j : Nat} {p q : Par} (h : allIn l a b n = true) (hj : j < n) (h1 : a.pars[j]? = some p) (h2 : b.pars[j]? = some q) : withinR l p.type q.type = true := by
  unfold allIn at h
  have := List.all_eq_true.1 h j (List.mem_range.2 hj)
  simpa [h1, h2] using this
theorem allIn_not {l : List CI} {a b : Meth} {n : Nat} (hn : ∀ j, j < n → ∃ p q, a.pars[j]? = some p ∧ b.pars[j]? = some q) (h : allIn l a b n = false) : ∃ (j : Nat) (p q : Par), j < n ∧ a.pars[j]? = some p ∧ b.pars[j]? = some q ∧ withinR l p.type q.type = false := by
  unfold allIn at h
  rw [List.all_eq_false] at h
  obtain ⟨j, hj, e⟩ := h
  obtain ⟨p, q, h1, h2⟩ := hn j (List.mem_range.1 hj)
  refine ⟨j, p, q, List.mem_range.1 hj, h1, h2, ?_⟩
  simpa [h1, h2] using e
/-- The more special of two applicable methods precedes the other one. -/
theorem below_prec {l : List CI} {ms : List Meth} {ts : List Tag} (hz : checkAllE l ms ts = 0) {i k : Nat} {x y : Int} (hx : (applR l ms ts).1[i]? = some x) (hy : (applR l ms ts).1[k]? = some y) :
    ∃ (p s : Nat) (a b : Meth), findI ms x = p ∧ ms[p]? = some a ∧ findI ms y = s ∧ ms[s]? = some b ∧ a.pars.length = ts.length ∧ b.pars.length = ts.length ∧
      (allIn l a b ts.length = true → allIn l b a ts.length = false → precR l a b ts = true) := by
  obtain ⟨hL, _, h2, _, h5, _⟩ := checkAllE_zero hz
  have hnd := areMs_nodup h2
  rw [applR_ok hz] at hx hy
  rw [List.getElem?_map] at hx hy
  obtain ⟨a, ha, rfl⟩ := Option.map_eq_some_iff.1 hx
  obtain ⟨b, hb, rfl⟩ := Option.map_eq_some_iff.1 hy
  obtain ⟨ham, haa⟩ := List.mem_filter.1 (List.mem_of_getElem? ha)
  obtain ⟨hbm, hbb⟩ := List.mem_filter.1 (List.mem_of_getElem? hb)
  obtain ⟨p, hp⟩ := List.mem_iff_getElem?.1 ham
  obtain ⟨s, hs⟩ := List.mem_iff_getElem?.1 hbm
  have hpl := (List.getElem?_eq_some_iff.1 hp).1
  have hsl := (List.getElem?_eq_some_iff.1 hs).1
  have hal := h5 a ham
  have hbl := h5 b hbm
  refine ⟨p, s, a, b, findI_at hnd hp, hp, findI_at hnd hs, hs, hal, hbl, fun q1 q2 => ?_⟩
  have hne : a.id ≠ b.id := by
    intro e
    obtain rfl : p = s := nodup_inj (l := ms.map (·.id)) hnd (by rw [List.getElem?_map, hp]; rfl) (by rw [List.getElem?_map, hs]; exact congrArg some e.symm)
    rw [hp] at hs
    cases hs
    rw [q1] at q2; cases q2
  have hps : p ≠ s := fun e => by
    subst e
    rw [hp] at hs
    exact hne (by rw [Option.some.inj hs])
  have hchk : checkAllE l [a, b] ts = 0 := any_chk hz (by show 2 ≤ ms.length; omega) (fun m hm => by
    rcases List.mem_cons.1 hm with rfl | hm
    · exact ham
    · rw [List.mem_singleton.1 hm]; exact hbm) (by simp [hne])
  refine precR_iff.2 ⟨hchk, haa, hbb, ?_⟩
  have happ : Applies l ts a := by unfold appB at haa; simpa using haa
  have get : ∀ j, j < ts.length → ∃ (t : Tag) (p q : Par), ts[j]? = some t ∧ a.pars[j]? = some p ∧ b.pars[j]? = some q := fun j hj =>
    ⟨ts[j], a.pars[j], b.pars[j], List.getElem?_eq_getElem hj, List.getElem?_eq_getElem (by omega), List.getElem?_eq_getElem (by omega)⟩
  have val : ∀ {s t : Ty}, withinR l s t = true → validErr l s = 0 ∧ validErr l t = 0 ∧ withinB l s t = true := fun {s t} q => by
    unfold withinR at q
    simp only [Bool.and_eq_true, decide_eq_true_eq] at q
    exact ⟨q.1.1.2, q.1.2, q.2⟩
  unfold precB
  rw [Bool.and_eq_true, List.all_eq_true, List.any_eq_true, hal]
  refine ⟨fun j hj => ?_, ?_⟩
  · obtain ⟨t, p, q, g1, g2, g3⟩ := get j (List.mem_range.1 hj)
    have hw := val (allIn_at q1 (List.mem_range.1 hj) g2 g3)
    have hh := happ j p t g2 g1
    rw [decide_eq_true_eq]
    unfold cmpAt
    rw [g1, g2, g3]
    exact (cmpT_within hL hh.2.2.2 hw.2.2).1
  · obtain ⟨j, q, p, hj, g3, g2, hno⟩ := allIn_not (fun j hj => by
      obtain ⟨t, p, q, g1, g2, g3⟩ := get j hj
      exact ⟨q, p, g3, g2⟩) q2
    obtain ⟨t, p', q', g1, g2', g3'⟩ := get j hj
    rw [g2] at g2'; cases g2'
    rw [g3] at g3'; cases g3'
    have hw := val (allIn_at q1 hj g2 g3)
    have hh := happ j p t g2 g1
    refine ⟨j, List.mem_range.2 hj, ?_⟩
    rw [decide_eq_true_eq]
    unfold cmpAt
    rw [g1, g2, g3]
    refine (cmpT_within hL hh.2.2.2 hw.2.2).2 ?_
    rw [withinR_ok hL hw.2.1 hw.1] at hno
    exact hno
end Go.Proofs.Ytepnmejahbiacaa
