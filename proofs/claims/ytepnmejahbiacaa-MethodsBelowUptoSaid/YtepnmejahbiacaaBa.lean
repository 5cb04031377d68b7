/- types.base, types.Base. -/
import Derived.Test.YtepnmejahbiacaaCl
set_option linter.unusedVariables false
set_option linter.unusedSimpArgs false
namespace Go.Proofs.Ytepnmejahbiacaa
open Go.RowKit

theorem alloc_cell' {W : World} {o : Obj} {a : Addr} {v : Value} (h : W.cell? a = some v) : (W.alloc o).cell? a = some v := cell_all h ((Below.refl _ _).alloc (Nat.le_refl _) _)
theorem alloc_frozen' {W : World} {o : Obj} {a : Addr} {v : Value} (h : W.cell? a = some v) (hf : W.frozen? a = false) : (W.alloc o).frozen? a = false := (World.frozen?_of_block (Below.heap_alloc _ _ _ (cell_lt h))).trans hf
theorem Own.many {α : Type} {R : α → List Value → World → Prop} {T sz base : Nat} {G : Nat → Prop} {w : World} {n : Nat} (hn : n = w.heap.size) (hb : base ≤ n) {l : List α} {xs : List Value} (hs : 0 < sz) (hll : l.length ≤ 1000000) (hx : Enc (fun x cs => Held G (R x cs) w) sz l xs) :
    Own R T sz base G (.slice (some ⟨n, 0, none⟩) l.length l.length) l (w.alloc (.cells xs.toArray T)) := by
  subst hn
  refine ⟨xs, ⟨by simp [hx.length], .inr ⟨_, l.length, xs.toArray, rfl, hb, heap_alloc_new w _, Nat.le_refl _, by simp [maxLen]; omega, by simp [hx.length], by simp [← hx.length]⟩⟩, hx.imp fun x cs h => h.keep (Keep.alloc _ _ _)⟩
theorem Strs.lit (G : Nat → Prop) (w : World) (l : List ByteArray) (T : Nat) (hg : G w.heap.size) : Held G (Strs (some ⟨w.heap.size, 0, none⟩) l) (w.alloc (.cells (l.map Value.string).toArray T)) := by
  refine Slc.held (fun i x hx => ⟨_, 0, [.string x], rfl, rfl, fun _ _ => rfl, fun j v hv => ?_⟩) (fun b off _ e => by cases e; exact hg)
  cases j with
  | zero =>
    simp at hv
    subst hv
    exact cell_new w _ _ _ rfl _ _ (by simp [hx])
  | succ j => simp at hv
theorem ownPure {T base : Nat} {G G' : Nat → Prop} {v : Value} {l : List ByteArray} {w : World} (h : Own strR T 1 base G v l w) : Own strR T 1 base G' v l w := by
  obtain ⟨xs, h1, h2⟩ := h
  exact ⟨xs, h1, h2.imp fun _ _ hx => fun _ _ => hx.now⟩
/-- What base hands back. -/
def baseCI (name : ByteArray) (above : List ByteArray) : CI := ⟨name, ⟨#[]⟩, above.take 1, name :: above, false, false⟩

set_option maxHeartbeats 4000000 in
set_option maxRecDepth 100000 in
theorem base_calls (name : ByteArray) (A : Option Addr) (c : Nat) (above : List ByteArray) (hc : above.length ≤ c) (G : Nat → Prop) (w : World) (h : Held G (Strs A above) w) (hl : above.length ≤ 1000000) :
    Calls Try.prog 77 #[.string name, .slice A above.length c] w fun e w' =>
      ∃ A2 c2 A3 c3, e = .returned (.agg #[.string name, .string ⟨#[]⟩, .slice A2 (baseCI name above).supers.length c2, .slice A3 (baseCI name above).cpl.length c3, .bool false, .bool false]) ∧
        Held (fun b => G b ∨ (w.heap.size ≤ b ∧ b < w'.heap.size)) (ciR (baseCI name above) [.string name, .string ⟨#[]⟩, .slice A2 (baseCI name above).supers.length c2, .slice A3 (baseCI name above).cpl.length c3, .bool false, .bool false]) w' ∧ Below w.heap.size w w' := by
  go_enter Try.func77, Try.ntmps77
  obtain ⟨W1, hW1⟩ : ∃ W1, W1 = w.alloc (.cells #[.string ⟨#[]⟩, .string ⟨#[]⟩, .slice none 0 0, .slice none 0 0, .bool false, .bool false] 80) := ⟨_, rfl⟩
  have hs1 : W1.heap.size = w.heap.size + 1 := by rw [hW1]; simp
  have b1 : Below w.heap.size w W1 := by rw [hW1]; exact (Below.refl _ w).alloc (Nat.le_refl _) _
  have x0 : ∀ j u, [Value.string ⟨#[]⟩, .string ⟨#[]⟩, .slice none 0 0, .slice none 0 0, .bool false, .bool false][j]? = some u → W1.cell? ⟨w.heap.size, j, none⟩ = some u ∧ W1.frozen? ⟨w.heap.size, j, none⟩ = false := fun j u hj => by
    rw [hW1]; exact ⟨cell_new w _ _ _ rfl j u hj, by unfold World.frozen?; rw [heap_alloc_new]; simp⟩
  have hA1 := h.keep (Keep.all (G := G) b1)
  go_wp2_with (at_builtin; refine Classical.byContradiction fun hneg => ?_)
  apply hneg
  clear hneg
  rw [← hW1]
  refine wp_append_all strR strR_one 9 1 (w.heap.size + 1) 16 (fun b => G b ∧ b < W1.heap.size) _ rfl _ _ 23 _ rfl Try.underlying23 info9 rfl (by decide) (by decide) (.slice (some ⟨w.heap.size + 1, 0, none⟩) 1 1) [name] above rfl (Own.single hs1.symm (Nat.le_refl _) rfl (by decide) (fun _ _ => rfl)) A c above.length rfl rfl ?src ?hG ?base ?len ?_
  case src => exact hA1.lt.keep (Keep.alloc _ _ _)
  case hG => rintro b ⟨_, hb⟩ e; simp [Value.ownBlock] at e; omega
  case base => simp; omega
  case len => simp; omega
  intro v' w3 hown hg hat
  obtain ⟨A3, c3, rfl, n1, n2⟩ := hown.out
  have hb3 : Below W1.heap.size W1 w3 := ((Below.refl _ _).alloc (Nat.le_refl _) _).grown hg (by simp) (fun k e => by simp [Value.ownBlock] at e; omega)
  have y0 : ∀ j u, [Value.string ⟨#[]⟩, .string ⟨#[]⟩, .slice none 0 0, .slice none 0 0, .bool false, .bool false][j]? = some u → w3.cell? ⟨w.heap.size, j, none⟩ = some u ∧ w3.frozen? ⟨w.heap.size, j, none⟩ = false := fun j u hj => ⟨(World.cell?_of_block (a := ⟨w.heap.size, j, none⟩) (hb3.block w.heap.size (by omega))).trans (x0 j u hj).1, (World.frozen?_of_block (a := ⟨w.heap.size, j, none⟩) (hb3.block w.heap.size (by omega))).trans (x0 j u hj).2⟩
  have y00 := fun cs T => alloc_cell' (o := .cells cs T) (y0 0 _ rfl).1
  have y01 := fun cs T => alloc_cell' (o := .cells cs T) (y0 1 _ rfl).1
  have y02 := fun cs T => alloc_cell' (o := .cells cs T) (y0 2 _ rfl).1
  have y03 := fun cs T => alloc_cell' (o := .cells cs T) (y0 3 _ rfl).1
  have y04 := fun cs T => alloc_cell' (o := .cells cs T) (y0 4 _ rfl).1
  have y05 := fun cs T => alloc_cell' (o := .cells cs T) (y0 5 _ rfl).1
  have f00 := fun cs T => alloc_frozen' (o := .cells cs T) (y0 0 _ rfl).1 (y0 0 _ rfl).2
  have f01 := fun cs T => alloc_frozen' (o := .cells cs T) (y0 1 _ rfl).1 (y0 1 _ rfl).2
  have f02 := fun cs T => alloc_frozen' (o := .cells cs T) (y0 2 _ rfl).1 (y0 2 _ rfl).2
  have f03 := fun cs T => alloc_frozen' (o := .cells cs T) (y0 3 _ rfl).1 (y0 3 _ rfl).2
  have f04 := fun cs T => alloc_frozen' (o := .cells cs T) (y0 4 _ rfl).1 (y0 4 _ rfl).2
  have f05 := fun cs T => alloc_frozen' (o := .cells cs T) (y0 5 _ rfl).1 (y0 5 _ rfl).2
  have s3 := hb3.size
  clear hA1 hW1 x0 y0
  by_cases hab : 0 < above.length
  · obtain ⟨b, off, rfl⟩ := Slc.addrH h hab
    go_wp2
    refine bodyPost_ret (v := .agg #[.string name, .string ⟨#[]⟩, .slice (some ⟨b, off, none⟩) 1 1, .slice A3 (above.length + 1) c3, .bool false, .bool false]) (by simp [results, Try.results77, go_sem, y00, y01, y02, y03, y04, y05]) rfl ?_
    have hW : ∀ (cs : Array Value) (u0 u1 u2 u3 u4 u5 : Value), ∃ Wf, Wf = (((((((w3.alloc (.cells cs 80)).setCell ⟨w.heap.size, 0, none⟩ u0).setCell ⟨w.heap.size, 1, none⟩ u1).setCell ⟨w.heap.size, 2, none⟩ u2).setCell ⟨w.heap.size, 3, none⟩ u3).setCell ⟨w.heap.size, 4, none⟩ u4).setCell ⟨w.heap.size, 5, none⟩ u5) ∧
        Below w.heap.size w Wf ∧ Keep (fun b => b ≠ w.heap.size) w3 Wf ∧ w3.heap.size ≤ Wf.heap.size := fun cs u0 u1 u2 u3 u4 u5 => by
      have k : ∀ (W : World) (j : Nat) (u : Value), Keep (fun b => b ≠ w.heap.size) W (W.setCell ⟨w.heap.size, j, none⟩ u) := fun W j u => Keep.setCell W (p := ⟨w.heap.size, j, none⟩) (fun b hb => hb) u
      have kk := ((((((Keep.alloc (fun b => b ≠ w.heap.size) w3 (.cells cs 80)).trans (k _ 0 u0)).trans (k _ 1 u1)).trans (k _ 2 u2)).trans (k _ 3 u3)).trans (k _ 4 u4)).trans (k _ 5 u5)
      exact ⟨_, rfl, (((((((b1.trans (hb3.mono (by omega))).alloc (by omega) _).setCell (Nat.le_refl _) _).setCell (Nat.le_refl _) _).setCell (Nat.le_refl _) _).setCell (Nat.le_refl _) _).setCell (Nat.le_refl _) _).setCell (Nat.le_refl _) _, kk, kk.1⟩
    obtain ⟨Wf, hWf, q1, q2, q3⟩ := hW _ _ _ _ _ _ _
    rw [← hWf]
    refine ⟨some ⟨b, off, none⟩, 1, A3, c3, by simp [baseCI]; omega, (ciR.mk (x := baseCI name above) ?_ (by first | exact n1 | (simp [baseCI]; simpa using n1)) ?_ ?_), q1⟩
    · simp [baseCI]; omega
    · exact ((h.keep (Keep.all q1)).imp fun _ _ q => Slc.take q 1).mono fun b _ hb => .inl hb
    · obtain ⟨A3', c3', e, _, hh⟩ := (ownPure (G' := fun _ => False) hown).out
      cases e
      refine (hh.keep (q2.mono fun b hb => ?_)).mono fun b _ hb => ?_
      · rcases hb with hb | hb
        · exact hb.elim
        · have := (hown.lt b hb).1; omega
      · rcases hb with hb | hb
        · exact hb.elim
        · have := hown.lt b hb; exact .inr ⟨by omega, by omega⟩
  · go_wp2
    refine bodyPost_ret (v := .agg #[.string name, .string ⟨#[]⟩, .slice none 0 0, .slice A3 (above.length + 1) c3, .bool false, .bool false]) (by simp [results, Try.results77, go_sem, y00, y01, y02, y03, y04, y05]) rfl ?_
    have hW : ∀ (cs : Array Value) (u0 u1 u2 u3 u4 u5 : Value), ∃ Wf, Wf = (((((((w3.alloc (.cells cs 80)).setCell ⟨w.heap.size, 0, none⟩ u0).setCell ⟨w.heap.size, 1, none⟩ u1).setCell ⟨w.heap.size, 2, none⟩ u2).setCell ⟨w.heap.size, 3, none⟩ u3).setCell ⟨w.heap.size, 4, none⟩ u4).setCell ⟨w.heap.size, 5, none⟩ u5) ∧
        Below w.heap.size w Wf ∧ Keep (fun b => b ≠ w.heap.size) w3 Wf ∧ w3.heap.size ≤ Wf.heap.size := fun cs u0 u1 u2 u3 u4 u5 => by
      have k : ∀ (W : World) (j : Nat) (u : Value), Keep (fun b => b ≠ w.heap.size) W (W.setCell ⟨w.heap.size, j, none⟩ u) := fun W j u => Keep.setCell W (p := ⟨w.heap.size, j, none⟩) (fun b hb => hb) u
      have kk := ((((((Keep.alloc (fun b => b ≠ w.heap.size) w3 (.cells cs 80)).trans (k _ 0 u0)).trans (k _ 1 u1)).trans (k _ 2 u2)).trans (k _ 3 u3)).trans (k _ 4 u4)).trans (k _ 5 u5)
      exact ⟨_, rfl, (((((((b1.trans (hb3.mono (by omega))).alloc (by omega) _).setCell (Nat.le_refl _) _).setCell (Nat.le_refl _) _).setCell (Nat.le_refl _) _).setCell (Nat.le_refl _) _).setCell (Nat.le_refl _) _).setCell (Nat.le_refl _) _, kk, kk.1⟩
    obtain ⟨Wf, hWf, q1, q2, q3⟩ := hW _ _ _ _ _ _ _
    rw [← hWf]
    refine ⟨none, 0, A3, c3, by simp [baseCI]; omega, (ciR.mk (x := baseCI name above) ?_ (by first | exact n1 | (simp [baseCI]; simpa using n1)) ?_ ?_), q1⟩
    · have e : above = [] := List.length_eq_zero_iff.1 (by omega)
      simp [baseCI, e]
    · obtain rfl : above = [] := List.length_eq_zero_iff.1 (by omega)
      exact fun _ _ => Slc.nil _ _ _ _
    · obtain ⟨A3', c3', e, _, hh⟩ := (ownPure (G' := fun _ => False) hown).out
      cases e
      refine (hh.keep (q2.mono fun b hb => ?_)).mono fun b _ hb => ?_
      · rcases hb with hb | hb
        · exact hb.elim
        · have := (hown.lt b hb).1; omega
      · rcases hb with hb | hb
        · exact hb.elim
        · have := hown.lt b hb; exact .inr ⟨by omega, by omega⟩

end Go.Proofs.Ytepnmejahbiacaa
