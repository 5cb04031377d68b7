/- c3.Linearize, where there is a line. -/
import Derived.Test.YtepnmejahbiacaaC3j
import Derived.Test.YtepnmejahbiacaaCl
set_option linter.unusedVariables false
set_option linter.unusedSimpArgs false
namespace Go.Proofs.Ytepnmejahbiacaa
open Go.RowKit

theorem OwnStr.any {T base : Nat} {G G' : Nat → Prop} {v : Value} {l : List ByteArray} {w : World} (h : Own strR T 1 base G v l w) : Own strR T 1 base G' v l w := by
  obtain ⟨xs, a, b⟩ := h
  exact ⟨xs, a, b.imp fun x cs hx _ _ => hx.now⟩

set_option maxHeartbeats 8000000 in
set_option maxRecDepth 100000 in
theorem linearize_calls (A : Option Addr) (c : Nat) (g : List Heir) (name : ByteArray) (w : World) (G : Nat → Prop) (h : Held G (Heirs A g) w) (hl : g.length ≤ 1000000) (hgs : ∀ x ∈ g, x.supers.length ≤ 1000000) (hck : c3Check g = 0) (i : Nat) (hi : lastAt (g.map (·.name)) name = some i) (x : List ByteArray) (hx : line g i = some x) :
    Calls Try.prog 75 #[.slice A g.length c, .string name] w fun e w' => ∃ v, e = .returned (.tuple #[v, .int .i64 0]) ∧ Own strR 9 1 w.heap.size (fun _ => False) v x w' ∧ Below w.heap.size w w' := by
  have H := h.here
  obtain ⟨W0, hW0⟩ : ∃ W0, W0 = w.alloc (.cells #[.int .i64 0] 27) := ⟨_, rfl⟩
  have b0 : Below w.heap.size w W0 := by rw [hW0]; exact (Below.refl _ w).alloc (Nat.le_refl _) _
  have e0 : W0.cell? ⟨w.heap.size, 0, none⟩ = some (.int .i64 0) := by rw [hW0]; exact cell_new w _ _ _ rfl 0 _ rfl
  have f0 : W0.frozen? ⟨w.heap.size, 0, none⟩ = false := by rw [hW0]; unfold World.frozen?; rw [heap_alloc_new]; rfl
  have hsz : W0.heap.size = w.heap.size + 1 := by rw [hW0]; simp
  have HOP := Lib.hid (c3open_calls A c g name W0 ((H.keep (Keep.below b0)).now) hl hgs)
  have hil : i < g.length := by
    have := lastAt_some hi
    rw [List.getElem?_map] at this
    obtain ⟨y, hy, _⟩ := Option.map_eq_some_iff.1 this
    exact (List.getElem?_eq_some_iff.1 hy).1
  have HCK := Lib.hid hck
  have HI := Lib.hid hi
  have HX := Lib.hid hx
  have hxl : x.length ≤ 1000000 := by have := line_length (c3Check_zero hck).2 hx; omega
  clear hck hi hx h
  go_enter_defers Try.func75, Try.ntmps75
  go_wp2_with (fail)
  rw [← hW0]
  refine HOP.out.mono ?_
  clear HOP
  rintro e W1 ⟨hb1, (⟨hne, _⟩ | ⟨_, hp, M1, M2, n1, n2, n3, n4, tr, (⟨i', hi', rfl⟩ | ⟨hno, _⟩)⟩)⟩
  · exact absurd HCK.out hne
  rotate_left
  · rw [HI.out] at hno; cases hno
  obtain rfl : i' = i := by rw [HI.out] at hi'; cases hi'; rfl
  clear hi'
  have e1 := cell_all e0 hb1
  have f1 : W1.frozen? ⟨w.heap.size, 0, none⟩ = false := (World.frozen?_of_block (a := ⟨w.heap.size, 0, none⟩) (hb1.block _ (cell_lt e0))).trans f0
  have bw1 : Below w.heap.size w W1 := b0.trans (hb1.mono b0.size)
  have hsz1 := hb1.size
  have e1s := cell_lt e1
  obtain ⟨W2, hW2⟩ : ∃ W2, W2 = W1.setCell ⟨w.heap.size, 0, none⟩ (.int .i64 0) := ⟨_, rfl⟩
  have e2 : W2.cell? ⟨w.heap.size, 0, none⟩ = some (.int .i64 0) := by rw [hW2]; exact World.cell?_setCell_same' _ _ _ (by rw [e1]; rfl)
  have f2 : W2.frozen? ⟨w.heap.size, 0, none⟩ = false := by rw [hW2, World.frozen?_setCell]; exact f1
  have c12 : Chg (fun b => b = w.heap.size) W1 W2 := by rw [hW2]; exact Chg.setCell (S := fun b => b = w.heap.size) W1 (p := ⟨w.heap.size, 0, none⟩) rfl _
  have bw2 : Below w.heap.size w W2 := bw1.trans (c12.below bw1.size (fun b e => by omega))
  have hTree : TreeInv hp M1 M2 A c g (fun b => b = w.heap.size) W1 := by
    obtain ⟨es, cc, m, hbm, _⟩ := tr.ln
    have hne : hp ≠ M2 := by
      rintro rfl
      have := tr.c0
      unfold World.cell? at this
      rw [show (⟨hp, 0, none⟩ : Addr).block = hp from rfl, hbm] at this
      simp at this
    exact ⟨⟨by omega, by omega, by omega, n4, hne⟩, (H.keep (Keep.below bw1)).mono fun b _ hb => ⟨by omega, by omega⟩, _, tr, fun s v hv => by cases hv⟩
  have hT2 : TreeInv hp M1 M2 A c g (fun b => b = w.heap.size) W2 := hTree.others c12 fun b _ h => .inl h
  have HL := Lib.hid (line_calls hp M1 M2 A c g HCK.out i' hil _ W2 (fun b hb => by have := cell_lt e2; rw [hb]; exact this) hT2)
  clear hTree hT2 tr e0 f0 H hgs
  go_wp2_with (fail)
  rw [← hW2]
  refine HL.out.mono ?_
  clear HL
  rintro e W3 ⟨hch, (⟨y, A', c', q1, rfl, q2, q3, _⟩ | ⟨q1, _⟩)⟩
  rotate_left
  · rw [HX.out] at q1; cases q1
  obtain rfl : y = x := by rw [HX.out] at q1; cases q1; rfl
  have HCL := Lib.hid (cloneStr_calls A' c' y _ W3 q3 (by omega))
  have e2s := cell_lt e2
  have hbk := hch.block w.heap.size e2s (by omega)
  have e3 : W3.cell? ⟨w.heap.size, 0, none⟩ = some (.int .i64 0) := (World.cell?_of_block (a := ⟨w.heap.size, 0, none⟩) hbk).trans e2
  have f3 : W3.frozen? ⟨w.heap.size, 0, none⟩ = false := (World.frozen?_of_block (a := ⟨w.heap.size, 0, none⟩) hbk).trans f2
  have bw3 : Below w.heap.size w W3 := bw2.trans (hch.below (by have := bw2.size; omega) (fun b e => by omega))
  clear q1 q3 hW0 hW2
  go_wp2_with (fail)
  refine HCL.out.mono ?_
  clear HCL
  rintro e W4 ⟨v, rfl, hv, hb4⟩
  have e4 := cell_all e3 hb4
  have f4 : W4.frozen? ⟨w.heap.size, 0, none⟩ = false := (World.frozen?_of_block (a := ⟨w.heap.size, 0, none⟩) (hb4.block _ (cell_lt e3))).trans f3
  have HV := Lib.hid hv
  have hbz := bw3.size
  have e3s : w.heap.size < W3.heap.size := cell_lt e3
  clear hv
  go_wp2
  refine leaves_cons (f := 89) (args := #[.pointer (some ⟨w.heap.size, 0, none⟩)]) (by simp) (by kernel_rfl) ?_
  refine (caught_idle w.heap.size _).mono ?_
  rintro e u' w'' ⟨rfl, rfl, rfl⟩
  have e5 : (W4.setCell ⟨w.heap.size, 0, none⟩ (.int .i64 0)).cell? ⟨w.heap.size, 0, none⟩ = some (.int .i64 0) := World.cell?_setCell_same' _ _ _ (by rw [e4]; rfl)
  refine ⟨.tuple #[v, .int .i64 0], ?_, v, rfl, ?_, ?_⟩
  · simp [results, Try.results75, go_sem, e5]
  · have h1 : Own strR 9 1 W3.heap.size (fun _ => False) v y W4 := OwnStr.any HV.out
    exact (h1.setCell (p := ⟨w.heap.size, 0, none⟩) (fun b hb => hb.elim) (fun e => by have h := (h1.lt _ e).1; have h' : W3.heap.size ≤ w.heap.size := h; omega) _).lower bw3.size
  · exact (bw3.trans (hb4.mono bw3.size)).setCell (p := ⟨w.heap.size, 0, none⟩) (Nat.le_refl _) _
end Go.Proofs.Ytepnmejahbiacaa
