/- The order of linearizations: the line of a class keeps the order of the line of each class in it. No program in sight. -/
import Derived.Test.YtepnmejahbiacaaPs
set_option linter.unusedVariables false
set_option linter.unusedSimpArgs false
namespace Go.Proofs.Ytepnmejahbiacaa
open Go.RowKit

theorem rm1_mem {s : ByteArray} {l : List (List ByteArray)} {y : List ByteArray} (h : y ∈ l) : rm1 s y ∈ rm s l := List.mem_map.2 ⟨y, h, rfl⟩
/-- What is merged keeps the order of each list. -/
theorem merge_sub {l : List (List ByteArray)} : ∀ {out : List ByteArray}, merge l = some out → ∀ y ∈ l, y.Sublist out := by
  generalize hn : total l = n
  induction n using Nat.strongRecOn generalizing l with
  | _ n ih =>
    intro out h y hy
    by_cases ha : anyLeft l = true
    · cases hc : cand l l with
      | none => rw [merge_stuck ha hc] at h; cases h
      | some s =>
        rw [merge_step ha hc] at h
        obtain ⟨t, ht, hg⟩ := cand_mem hc
        have hlt := total_rm_lt ht
        obtain ⟨o, ho, rfl⟩ := Option.map_eq_some_iff.1 h
        have h1 := ih _ (by omega) rfl ho (rm1 s y) (rm1_mem hy)
        cases y with
        | nil => exact List.nil_sublist _
        | cons a r =>
          unfold rm1 at h1
          simp only [] at h1
          by_cases e : a = s
          · subst e
            rw [if_pos rfl] at h1
            exact h1.cons_cons _
          · rw [if_neg e] at h1
            exact h1.cons _
    · rw [merge_done (by simpa using ha)] at h
      cases h
      have : y.isEmpty = true := by
        have h2 : anyLeft l = false := by simpa using ha
        unfold anyLeft at h2
        rw [List.any_eq_false] at h2
        have := h2 y hy
        simpa using this
      rw [List.isEmpty_iff.1 this]
      exact List.Sublist.refl _
/-- The line of a class in the line of another one stands in it in the same order. -/
theorem line_sub {g : List Heir} (h : heirsOk [] g = true) : ∀ (i : Nat) (l : List ByteArray), line g i = some l → ∀ x ∈ l, ∃ (j : Nat) (m : List ByteArray), j ≤ i ∧ (names g)[j]? = some x ∧ line g j = some m ∧ m.Sublist l := by
  intro i
  induction i using Nat.strongRecOn with
  | _ i ih =>
    intro l hl x hx
    have hl0 := hl
    cases hg : g[i]? with
    | none => unfold line at hl; simp only [lineF, hg] at hl; cases hl
    | some c =>
      rw [line_eq h hg] at hl
      obtain ⟨ls, hls, hl⟩ := Option.bind_eq_some_iff.1 hl
      obtain ⟨t, ht, rfl⟩ := Option.map_eq_some_iff.1 hl
      obtain ⟨h1, h2⟩ := allSome_get hls
      have hsub := merge_sub ht
      rcases List.mem_cons.1 hx with rfl | hx
      · exact ⟨i, _, Nat.le_refl _, names_get hg, hl0, List.Sublist.refl _⟩
      · obtain ⟨z, hz, hxz⟩ := (merge_mem ht).1 x hx
        have key : ∀ (k : Nat) (s : ByteArray), c.supers[k]? = some s → ∃ (j : Nat) (z : List ByteArray), j < i ∧ (names g)[j]? = some s ∧ line g j = some z ∧ ls[k]? = some z := by
          intro k s hk
          obtain ⟨z', hz', hf⟩ := h2 k s hk
          obtain ⟨j, hj, he⟩ := super_at h hg (List.mem_of_getElem? hk)
          unfold lineOf at hf; rw [he] at hf
          exact ⟨j, z', hj, lastAt_some he, hf, hz'⟩
        rw [List.mem_append, List.mem_singleton] at hz
        rcases hz with hz | rfl
        · obtain ⟨k, hk, e⟩ := List.getElem_of_mem hz
          have hks : k < c.supers.length := by omega
          obtain ⟨j, z', hj, hn, hf, hz'⟩ := key k _ (List.getElem?_eq_getElem hks)
          rw [List.getElem?_eq_getElem hk, e] at hz'; cases hz'
          obtain ⟨j2, m, hj2, hn2, hm, hs⟩ := ih j hj z hf x hxz
          exact ⟨j2, m, by omega, hn2, hm, (hs.trans (hsub z (List.mem_append.2 (.inl hz)))).cons _⟩
        · obtain ⟨k, hk⟩ := List.mem_iff_getElem?.1 hxz
          obtain ⟨j, z', hj, hn, hf, hz'⟩ := key k x hk
          exact ⟨j, z', by omega, hn, hf, (hsub z' (List.mem_append.2 (.inl (List.mem_of_getElem? hz')))).cons _⟩

/-- A class of a hierarchy: its line begins with it, and keeps the lines of the classes in it. -/
theorem cpl_head {l : List CI} (h : LookOk l) {x : CI} (hx : x ∈ l) : ∃ t, x.cpl = x.name :: t := by
  obtain ⟨j, hj⟩ := List.mem_iff_getElem?.1 hx
  obtain ⟨_, _, y, t, hy, e, _⟩ := line_mem (c3Check_zero h.2.2.2.2.1).2 j x.cpl (h.2.2.2.2.2 j x hj)
  rw [heirsOf_get hj] at hy
  cases hy
  exact ⟨t, e⟩
theorem cpl_sub {l : List CI} (h : LookOk l) {x : CI} (hx : x ∈ l) {n : ByteArray} (hn : n ∈ x.cpl) : ∃ y ∈ l, y.name = n ∧ l.find? (fun z => decide (z.name = n)) = some y ∧ y.cpl.Sublist x.cpl := by
  obtain ⟨j, hj⟩ := List.mem_iff_getElem?.1 hx
  obtain ⟨k, m, hk, hk1, hk2, hs⟩ := line_sub (c3Check_zero h.2.2.2.2.1).2 j x.cpl (h.2.2.2.2.2 j x hj) n hn
  rw [heirNames, List.getElem?_map] at hk1
  obtain ⟨y, hy, e⟩ := Option.map_eq_some_iff.1 hk1
  have := h.2.2.2.2.2 k y hy
  rw [hk2] at this
  cases this
  exact ⟨y, List.mem_of_getElem? hy, e, (find_at h hy e).1, hs⟩
theorem find_mem {l : List CI} {n : ByteArray} {y : CI} (h : l.find? (fun z => decide (z.name = n)) = some y) : y ∈ l ∧ y.name = n := ⟨List.mem_of_find?_eq_some h, by simpa using List.find?_some h⟩
theorem belowC_iff {l : List CI} {a b : ByteArray} : belowC l a b = true ↔ ∃ x, l.find? (fun z => decide (z.name = a)) = some x ∧ b ∈ x.cpl := by
  unfold belowC
  cases hf : l.find? (fun z => decide (z.name = a)) with
  | none => simp
  | some x => simp [hasS_iff]
theorem belowC_trans {l : List CI} (h : LookOk l) {a b c : ByteArray} (h1 : belowC l a b = true) (h2 : belowC l b c = true) : belowC l a c = true := by
  obtain ⟨x, hx, hb⟩ := belowC_iff.1 h1
  obtain ⟨y, hy, hc⟩ := belowC_iff.1 h2
  obtain ⟨y', _, _, hy', hs⟩ := cpl_sub h (find_mem hx).1 hb
  rw [hy] at hy'; cases hy'
  exact belowC_iff.2 ⟨x, hx, hs.subset hc⟩
theorem idx_lt {L : List ByteArray} {n m : ByteArray} (hd : L.Nodup) (h : [n, m].Sublist L) : idx L n < idx L m := by
  induction L with
  | nil => cases h
  | cons a L ih =>
    have hd' := List.nodup_cons.1 hd
    cases h with
    | cons _ h =>
      have hn : n ∈ L := h.subset (by simp)
      have hm : m ∈ L := h.subset (by simp)
      obtain ⟨i, hi, ei⟩ := idx_of_mem hd'.2 hn
      obtain ⟨j, hj, ej⟩ := idx_of_mem hd'.2 hm
      have := ih hd'.2 h
      rw [idx_some hd (i := i + 1) (by simpa using hi), idx_some hd (i := j + 1) (by simpa using hj)]
      omega
    | cons_cons _ h =>
      have hm : m ∈ L := h.subset (by simp)
      obtain ⟨j, hj, ej⟩ := idx_of_mem hd'.2 hm
      rw [idx_some hd (i := 0) rfl, idx_some hd (i := j + 1) (by simpa using hj)]
      omega
/-- In a line a class stands ahead of those that it is below of. -/
theorem idx_le {l : List CI} (h : LookOk l) {x : CI} (hx : x ∈ l) {n m : ByteArray} (hn : n ∈ x.cpl) (hb : belowC l n m = true) : m ∈ x.cpl ∧ idx x.cpl n ≤ idx x.cpl m ∧ (idx x.cpl n = idx x.cpl m → n = m) := by
  obtain ⟨y, hy, hm⟩ := belowC_iff.1 hb
  obtain ⟨y', hy1, hy2, hy', hs⟩ := cpl_sub h hx hn
  rw [hy] at hy'; cases hy'
  obtain ⟨t, ht⟩ := cpl_head h hy1
  have hmx : m ∈ x.cpl := hs.subset hm
  refine ⟨hmx, ?_⟩
  by_cases e : n = m
  · subst e; exact ⟨Int.le_refl _, fun _ => rfl⟩
  · have : [n, m].Sublist x.cpl := by
      refine List.Sublist.trans ?_ hs
      rw [ht, hy2]
      rw [ht, hy2] at hm
      rcases List.mem_cons.1 hm with q | q
      · exact absurd q.symm e
      · exact (List.singleton_sublist.2 q).cons_cons _
    have := idx_lt (cpl_nodup h hx) this
    exact ⟨by omega, fun e => by omega⟩
theorem belowC_self {l : List CI} (h : LookOk l) {a : ByteArray} {x : CI} (hx : l.find? (fun z => decide (z.name = a)) = some x) : belowC l a a = true := by
  obtain ⟨hm, hn⟩ := find_mem hx
  obtain ⟨t, ht⟩ := cpl_head h hm
  exact belowC_iff.2 ⟨x, hx, by rw [ht, hn]; simp⟩
/-- Precedence among classes is transitive. -/
theorem cmpT_trans {l : List CI} {c : List ByteArray} {s t u : Ty} (hs : s.kind = 1) (ht : t.kind = 1) (hu : u.kind = 1) (h1 : cmpT l c s t = 1) (h2 : cmpT l c t u = 1) : cmpT l c s u = 1 := by
  unfold cmpT at *
  rw [if_pos ⟨hs, ht⟩] at h1
  rw [if_pos ⟨ht, hu⟩] at h2
  rw [if_pos ⟨hs, hu⟩]
  have e : ∀ {a b : Int}, (if a < b then (2 : Int) else if b < a then 1 else 0) = 1 → b < a := by
    intro a b q
    split at q
    · simp at q
    · split at q
      · assumption
      · simp at q
  have := e h1
  have := e h2
  rw [if_neg (by omega), if_pos (by omega)]
end Go.Proofs.Ytepnmejahbiacaa
