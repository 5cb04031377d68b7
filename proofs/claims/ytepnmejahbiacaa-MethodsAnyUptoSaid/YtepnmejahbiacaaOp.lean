/- methods.opened: the place of a class. -/
import Derived.Test.YtepnmejahbiacaaCa
import Derived.Test.YtepnmejahbiacaaSf
set_option linter.unusedVariables false
set_option linter.unusedSimpArgs false
namespace Go.Proofs.Ytepnmejahbiacaa
open Go.RowKit

set_option maxHeartbeats 4000000 in
set_option maxRecDepth 100000 in
theorem opened1_calls (x : CI) (A2 A3 : Option Addr) (c2 c3 : Nat) (s : ByteArray) (sb : Nat) (w : World) (hs : w.cell? ⟨sb, 0, none⟩ = some (.string s)) :
    Calls Try.prog 67 #[.agg #[.string x.name, .string x.lib, .slice A2 x.supers.length c2, .slice A3 x.cpl.length c3, .bool x.abs, .bool x.seal_], .pointer (some ⟨sb, 0, none⟩)] w fun e w' => e = .returned (.bool (decide (x.name = s))) ∧ Below w.heap.size w w' := by
  have hl := cell_lt hs
  go_enter Try.func67, Try.ntmps67
  go_wp2
  go_ret
  exact ⟨rfl, (Below.refl _ w).alloc (Nat.le_refl _) _⟩

set_option maxHeartbeats 4000000 in
set_option maxRecDepth 100000 in
theorem place_calls (A : Option Addr) (c : Nat) (l : List CI) (s : ByteArray) (sb : Nat) (w : World) (hs : w.cell? ⟨sb, 0, none⟩ = some (.string s)) (G : Nat → Prop) (h : Held G (CIs A l) w) (hl : l.length ≤ 1000000) :
    Calls Try.prog 66 #[.slice A l.length c, .func (.func 67) #[] #[.pointer (some ⟨sb, 0, none⟩)]] w
      (Found (fun i wr => Below w.heap.size w wr ∧ ∀ j x, j < i → l[j]? = some x → x.name ≠ s) (fun i wr => Below w.heap.size w wr ∧ (∀ j x, j < i → l[j]? = some x → x.name ≠ s) ∧ ∃ x, l[i]? = some x ∧ x.name = s) (Panics fun _ _ => False) l.length) := by
  obtain ⟨b, off, hbo⟩ : ∃ b off, 0 < l.length → A = some ⟨b, off, none⟩ := by
    by_cases h0 : 0 < l.length
    · obtain ⟨b, off, e⟩ := Slc.addrH h h0
      exact ⟨b, off, fun _ => e⟩
    · exact ⟨0, 0, fun h => absurd h h0⟩
  refine indexFuncCls A l.length c 67 _ (fun i => (l[i]?.map fun x => Value.string x.name).getD undef) (fun i => (l[i]?.map fun x => Value.string x.lib).getD undef) (fun i => (w.cell? ⟨b, off + i * 6 + 2, none⟩).getD undef) (fun i => (w.cell? ⟨b, off + i * 6 + 3, none⟩).getD undef)
    (fun i => (l[i]?.map fun x => Value.bool x.abs).getD undef) (fun i => (l[i]?.map fun x => Value.bool x.seal_).getD undef) w (by omega) (enters Try.func67 (by kernel_rfl) rfl) _ _ _ ⟨Below.refl _ _, fun j x hj => absurd hj (by omega)⟩ (fun h0 => ⟨b, off, hbo h0⟩) ?_ ?_
  · rintro i wr b' off' rfl hi ⟨hcw, _⟩
    have hb' := hbo (by omega)
    simp only [Option.some.injEq, Addr.mk.injEq, and_true] at hb'
    obtain ⟨rfl, rfl⟩ := hb'
    have hx : l[i]? = some l[i] := List.getElem?_eq_getElem hi
    obtain ⟨A2, c2, A3, c3, p1, p2, p3, p4, g0, g1, g2, g3, g4, g5⟩ := CIs.atH h hx
    simp only [hx, Option.map_some, Option.getD_some, g2, g3]
    exact ⟨cell_all g0 hcw, cell_all g1 hcw, cell_all g2 hcw, cell_all g3 hcw, cell_all g4 hcw, cell_all g5 hcw⟩
  · rintro i wr hi ⟨hcw, hjw⟩
    have hb' := hbo (by omega)
    subst hb'
    have hx : l[i]? = some l[i] := List.getElem?_eq_getElem hi
    generalize l[i] = x at hx
    obtain ⟨A2, c2, A3, c3, p1, p2, p3, p4, g0, g1, g2, g3, g4, g5⟩ := CIs.atH h hx
    simp only [hx, Option.map_some, Option.getD_some, g2, g3]
    refine (opened1_calls x A2 A3 c2 c3 s sb wr (cell_all hs hcw)).mono ?_
    rintro e w' ⟨rfl, hb2⟩
    have hb3 := hcw.trans (hb2.mono hcw.size)
    by_cases hq : x.name = s
    · exact .inr (.inl ⟨by rw [decide_eq_true hq], hb3, hjw, x, hx, hq⟩)
    · refine .inl ⟨by rw [decide_eq_false hq], hb3, fun j y hj hy => ?_⟩
      rcases Nat.lt_or_ge j i with h | h
      · exact hjw j y h hy
      · obtain rfl : j = i := by omega
        rw [hx] at hy; cases hy; exact hq

/-- The class of a tag is there. -/
theorem classOf_in {l : List CI} (h : LookOk l) {t : Tag} (ht : tagOk l t = true) : ∃ x ∈ l, x.name = classOfB t := by
  have hb : ∀ s : ByteArray, (baseL.any fun y => decide (y.name = s)) = true → ∃ x ∈ l, x.name = s := fun s hs => by
    obtain ⟨x, hx, e⟩ := List.any_eq_true.1 hs
    rw [← h.2.2.1] at hx
    exact ⟨x, List.mem_of_mem_take hx, of_decide_eq_true e⟩
  rcases tagOk_kind ht with k | k | k | k | k
  · exact hb _ (by unfold classOfB; rw [if_pos k]; decide)
  · exact hb _ (by unfold classOfB; rw [if_neg (by omega), if_pos k]; decide)
  · exact hb _ (by unfold classOfB; rw [if_neg (by omega), if_neg (by omega), if_pos k]; decide)
  · exact hb _ (by unfold classOfB; rw [if_neg (by omega), if_neg (by omega), if_neg (by omega), if_pos k]; decide)
  · unfold tagOk at ht
    rw [if_neg (by omega), if_neg (by omega), if_neg (by omega), if_neg (by omega), if_pos k] at ht
    simp only [Bool.and_eq_true] at ht
    have h2 := ht.1.1.2
    unfold hasB at h2
    obtain ⟨i, hi⟩ := Option.isSome_iff_exists.1 h2
    obtain ⟨x, hx, e⟩ := clsAt_get hi
    refine ⟨x, List.mem_of_getElem? hx, ?_⟩
    rw [e]; unfold classOfB
    rw [if_neg (by omega), if_neg (by omega), if_neg (by omega), if_neg (by omega)]
end Go.Proofs.Ytepnmejahbiacaa
