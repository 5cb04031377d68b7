/- Part 9 of the proof: Rf. -/
import Derived.Test.YtepnmejahbiacaaGreatL01
import Derived.BigQuiet
import Derived.Deep.Draws
import Derived.Deep.LoopGhost
import Derived.Deep.QuietTactic
import Derived.KernelRfl
import Derived.Lib.Hide
import Derived.Maps.AppendAt
import Derived.WalkKit
import Derived.Maps.OwnIn
import Derived.RangeFuncNested
import Derived.RangeFuncBound
import Derived.RangeFuncCalls
import Derived.RangeFuncLeaves
import Derived.OwnWalkIn
import Derived.TacticsInMore
set_option linter.unusedVariables false
set_option linter.unusedSimpArgs false
namespace Go.Proofs.YtepnmejahbiacaaGreat
open Go.RowKit
section
variable {F : Fence} {n : Nat} {P : Program} {ops : Array Oper} {rest : List Oper} {o : Oper} {a : Act} {Q : Exit → Act → World → Prop}
/-- 'wp_append_one' in a fence. -/
theorem wpIn_append_one {α : Type} (R : α → List Value → World → Prop) (T sz base bytes : Nat) (G : Nat → Prop) (W : World) (hgd : o.guard = none) (s x : Operand) (t : TypeId) (z : Value)
    (ho : o.op = .call { callee := .builtin .append, args := #[s, x], argTypes := #[t, t] }) (ht : P.underlying t = some (.slice T))
    (hinfo : (P.info? T).map (fun i => (i.zero, i.size, i.bytes)) = some (some z, sz, bytes)) (hz : z.cells.size = sz) (hs0 : 0 < sz) (hb0 : 0 < bytes)
    (v : Value) (l : List α) (hs : a.eval s = v) (hown : Own R T sz base G v l W) (ad : Addr) (c : Nat) (hx : a.eval x = .slice (some ad) 1 c)
    (y : α) (cs : List Value) (hcl : cs.length = sz) (hcs : ∀ j u, cs[j]? = some u → W.cell? (ad.add j) = some u) (h1 : ∀ u ∈ cs, u.oneCell' = true) (hR : Held G (R y cs) W)
    (hG : ∀ b, G b → v.ownBlock ≠ some b) (hbase : base ≤ W.heap.size) (hlen : (l.length + 1) * bytes ≤ 140737488355328)
    (h : ∀ v' w', Own R T sz base G v' (l ++ [y]) w' → W.grownBy w' v.ownBlock → (v'.ownBlock = v.ownBlock ∨ v'.ownBlock = some W.heap.size) → wpListIn F n P ops Q rest (a.put o.dst v') w') : wpListIn F n P ops Q (o :: rest) a W := by
  obtain ⟨i0, hi, hzz⟩ := Option.map_eq_some_iff.1 hinfo
  simp only [Prod.mk.injEq] at hzz
  obtain ⟨hz0, hz1, hz2⟩ := hzz
  obtain ⟨xs, hrow, henc⟩ := hown
  have hl1 : l.length + 1 ≤ 140737488355328 := Nat.le_trans (Nat.le_mul_of_pos_right _ hb0) hlen
  refine wpListIn_append_own_at W hgd s x t ho base T i0 z sz bytes ht hi hz0 hz1 hz2 hz hs0 v l.length xs hs hrow ad 1 c cs hx (by rw [hcl]; simp) hcs h1 (by simp only [maxLen]; omega) hlen hbase ?_
  intro v' w' hrow' hg _ hat
  refine h v' w' ⟨xs ++ cs, by simpa using hrow', ?_⟩ hg hat
  have k : Keep G W w' := Keep.grown hg fun b hb => fun e => hG b hb e.symm
  exact .snoc (henc.imp fun _ _ hx => hx.keep k) (hR.keep k) hcl
end
theorem Own.limit {α : Type} {R : α → List Value → World → Prop} {T sz base : Nat} {G : Nat → Prop} {v : Value} {l : List α} {w : World} (h : Own R T sz base G v l w) : Own R T sz base (fun b => G b ∧ b < w.heap.size) v l w := by
  obtain ⟨xs, h1, h2⟩ := h
  exact ⟨xs, h1, h2.imp fun _ _ hx => hx.lt⟩
theorem Chg.putObj {S : Nat → Prop} (w : World) {l : Nat} (hl : S l) (o : Obj) : Chg S w (w.putObj l o) := ⟨rfl, rfl, rfl, by simp [World.putObj], fun b _ hs => World.putObj_heap_other (fun e => hs (by subst e; exact hl))⟩
theorem Keep.putObj {G : Nat → Prop} (w : World) {l : Nat} (hl : ∀ b, G b → b ≠ l) (o : Obj) : Keep G w (w.putObj l o) := ⟨by simp [World.putObj], fun b _ hs => World.putObj_heap_other (hl b hs)⟩
theorem Own.keepG {α : Type} {R : α → List Value → World → Prop} {T sz base : Nat} {G : Nat → Prop} {v : Value} {l : List α} {w w' : World} (h : Own R T sz base G v l w) (k : Keep (fun b => G b ∨ v.ownBlock = some b) w w') : Own R T sz base G v l w' :=
  h.keep (k.mono fun _ h => .inl h) fun b hb => k.2 b (h.lt b hb).2 (.inr hb)
theorem grown_cell {W w1 : World} {row : Option Nat} (hg : W.grownBy w1 row) {a : Addr} {v : Value} (h : W.cell? a = some v) (hr : row ≠ some a.block) : w1.cell? a = some v :=
  (World.cell?_of_block (hg.block _ (cell_lt h) (fun e => hr e.symm))).trans h
theorem grown_frozen {W w1 : World} {row : Option Nat} (hg : W.grownBy w1 row) {a : Addr} {v : Value} (h : W.cell? a = some v) (hf : W.frozen? a = false) (hr : row ≠ some a.block) : w1.frozen? a = false :=
  (World.frozen?_of_block (hg.block _ (cell_lt h) (fun e => hr e.symm))).trans hf
theorem grown_block {W w1 : World} {row : Option Nat} (hg : W.grownBy w1 row) {b : Nat} {o : Obj} (h : W.heap[b]? = some o) (hr : row ≠ some b) : w1.heap[b]? = some o :=
  (hg.block _ (Array.getElem?_eq_some_iff.1 h).1 (fun e => hr e.symm)).trans h
theorem alloc_cell {W : World} {o : Obj} {a : Addr} {v : Value} (h : W.cell? a = some v) : (W.alloc o).cell? a = some v := cell_all h ((Below.refl _ _).alloc (Nat.le_refl _) _)
theorem alloc_frozen {W : World} {o : Obj} {a : Addr} {v : Value} (h : W.cell? a = some v) (hf : W.frozen? a = false) : (W.alloc o).frozen? a = false := (World.frozen?_of_block (Below.heap_alloc _ _ _ (cell_lt h))).trans hf
theorem alloc_block {W : World} {o o' : Obj} {b : Nat} (h : W.heap[b]? = some o') : (W.alloc o).heap[b]? = some o' := (Below.heap_alloc _ _ _ (Array.getElem?_eq_some_iff.1 h).1).trans h
/-- A loop's record. -/
def lrec (fn : FuncId) (tmps : Array Value) (ps : Array Tmp) (assign body : Code) (d : Nat) (pe : Option Code) (st : LoopState) : Obj := .loop { state := st, pending := pe, fn, tmps, params := ps, assign, body, defers := d }
section
variable {F : Fence} {n : Nat} {P : Program} {a : Act} {w : World} {Q : Exit → Act → World → Prop}
set_option maxHeartbeats 1000000 in
/-- The statement, in a frame that is no round. -/
theorem wpIn_rangeFunc_rec {g : Operand} {ps : Array Tmp} {assign body : Code} (hro : F.round = none) (h1 : F.depth.isSome = true → 1 ≤ n) {gf : Nat} {lb : Array Value} (hg : a.eval g = .func (.func gf) #[] lb) (hFg : F.fn gf)
    (eg : ∀ args w, (callFunc gf args).run P w = .ok (.enter gf args) w)
    (h : ∀ fn, F.fn fn → CallsIn F (n - 1) P gf (#[.func (.yield (w.heap.size + 1)) #[] #[]] ++ lb) ((w.alloc (.deferred (some []))).alloc (lrec fn a.tmps ps assign body w.heap.size none .ready))
        (rangePost F n P (w.heap.size + 1) Q { a with defers := [{ target := .collected w.heap.size, args := #[] }] ++ a.defers })) :
    (Code.rangeFunc g ps assign body).wpIn F n P Q a w := by
  refine wpIn_rangeFunc ?_
  intro fn hfn
  rw [hro]
  have hw := run_enterLoop_outer (P := P) (w := w) fn a.tmps ps assign body
  have hh := h fn hfn
  clear h
  obtain ⟨W1, hW1⟩ : ∃ W1, W1 = (w.alloc (.deferred (some []))).alloc (lrec fn a.tmps ps assign body w.heap.size none .ready) := ⟨_, rfl⟩
  replace hw : (Instr.enterLoop fn a.tmps ps assign body none).run P w = .ok (w.heap.size + 1, [{ target := .collected w.heap.size, args := #[] }]) W1 := by rw [hW1]; exact hw
  rw [← hW1] at hh
  clear hW1
  refine ⟨w.heap.size + 1, [{ target := .collected w.heap.size, args := #[] }], W1, { target := .fn (.func gf) lb, args := #[.func (.yield (w.heap.size + 1)) #[] #[]] }, W1, gf,
    #[.func (.yield (w.heap.size + 1)) #[] #[]] ++ lb, W1, hw, ?_, ?_, ?_, h1, ?_⟩
  · simp only [resolve, hg]
    simp [go_sem]
  · intro f' hf'; simp [Target.leads] at hf'; subst hf'; exact hFg
  · simp [invoke, go_sem, eg]
  · exact hh
/-- What a round's body must bring. -/
def roundEnd (l : Nat) (rec : Option Code → LoopState → Obj) (R : Ending → World → Prop) : Exit → Act → World → Prop
  | .normal, _, w => w.heap[l]? = some (rec none .busy) ∧ R (.returned (.bool true)) (w.putObj l (rec none .ready))
  | .ret, _, w => w.heap[l]? = some (rec none .busy) ∧ R (.returned (.bool false)) (w.putObj l (rec (some .ret) .done))
  | .exit id, _, w => w.heap[l]? = some (rec none .busy) ∧ R (.returned (.bool false)) (w.putObj l (rec (some (.exit id)) .done))
  | _, _, _ => False
set_option maxHeartbeats 1000000 in
/-- A round. -/
theorem yield_round {l : Nat} {fn : FuncId} {d : Nat} {args : Array Value} {W : World} {R : Ending → World → Prop} {tmps : Array Value} {ps : Array Tmp} {assign body : Code}
    {rec : Option Code → LoopState → Obj} (hrec : lrec fn tmps ps assign body d = rec) (hfn : F.fn fn) (hl : W.heap[l]? = some (rec none .ready)) (hs : args.size = ps.size) {tmps' : Array Value} (ht : (ps.zip args).foldl (fun t (p, v) => t.setIfInBounds p v) tmps = tmps')
    (h : assign.wpIn (F.inRound l) n P (Exit.then (fun a₁ w₁ => w₁.heap[l]? = some (rec none .ready) ∧ body.wpIn (F.inRound l) n P (roundEnd l rec R) a₁ (w₁.putObj l (rec none .busy))) (fun _ _ _ => False))
      { tmps := tmps', defers := [] } W) :
    YieldAt F n P l args W R := by
  subst hrec
  subst ht
  refine ⟨_, _, _, _, run_yield hl hs, roundIn_of_wpIn hfn (wpIn_mono h ?_)⟩
  rintro e a₁ w₁ hp
  cases e with
  | normal =>
    obtain ⟨hl1, hb⟩ := hp
    refine ⟨_, run_beginRound hl1 rfl, wpIn_mono hb ?_⟩
    rintro e a₂ w₂ hp
    cases e with
    | normal => exact ⟨_, _, run_endRound none hp.1, hp.2⟩
    | ret => exact ⟨_, _, run_endRound (some .ret) hp.1, hp.2⟩
    | exit id => exact ⟨_, _, run_endRound (some (.exit id)) hp.1, hp.2⟩
    | goto t => exact hp.elim
    | panic c => exact hp.elim
    | outgrown => exact hp.elim
  | ret => exact hp.elim
  | exit id => exact hp.elim
  | goto t => exact hp.elim
  | panic c => exact hp.elim
  | outgrown => exact hp.elim
end
end Go.Proofs.YtepnmejahbiacaaGreat
