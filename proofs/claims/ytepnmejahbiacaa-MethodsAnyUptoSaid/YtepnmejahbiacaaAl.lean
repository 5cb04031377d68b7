/- 'out = append(out, x)' at a step of a region that draws. -/
import Derived.Test.YtepnmejahbiacaaWd
import Derived.Deep.AppendLies
import Derived.Deep.RegionHeld3
set_option linter.unusedVariables false
set_option linter.unusedSimpArgs false
namespace Go.Proofs.Ytepnmejahbiacaa
open Go.RowKit

theorem step_append_one {P : Program} {ops : Array Oper} {o : Oper} {a : Act} {K : Act → World → Prop} {Q : Exit → Act → World → Prop} {E : Prop} {α : Type} (R : α → List Value → World → Prop) (T sz base bytes : Nat) (G : Nat → Prop) (W : World) (hgd : o.guard = none) (s x : Operand) (t : TypeId) (z : Value)
    (ho : o.op = .call { callee := .builtin .append, args := #[s, x], argTypes := #[t, t] }) (ht : P.underlying t = some (.slice T))
    (hinfo : (P.info? T).map (fun i => (i.zero, i.size, i.bytes)) = some (some z, sz, bytes)) (hz : z.cells.size = sz) (hs0 : 0 < sz) (hb0 : 0 < bytes)
    (v : Value) (l : List α) (hs : a.eval s = v) (hown : Own R T sz base G v l W) (ad : Addr) (c : Nat) (hx : a.eval x = .slice (some ad) 1 c)
    (y : α) (cs : List Value) (hcl : cs.length = sz) (hcs : ∀ j u, cs[j]? = some u → W.cell? (ad.add j) = some u) (h1 : ∀ u ∈ cs, u.oneCell' = true) (hR : Held G (R y cs) W)
    (hG : ∀ b, G b → v.ownBlock ≠ some b) (hbase : base ≤ W.heap.size) (hlen : (l.length + 1) * bytes ≤ 140737488355328) (H : Nat) (hH : W.heap.size = H)
    (h : ∀ g cap w', Own R T sz base G (.slice (some ⟨g, 0, none⟩) (l.length + 1) cap) (l ++ [y]) w' → W.grownBy w' v.ownBlock → (v.ownBlock = some g ∨ g = H) → g < w'.heap.size → K (a.put o.dst (.slice (some ⟨g, 0, none⟩) (l.length + 1) cap)) w') :
    if Region.wanted o (yielded ops a.tmps) = true then Oper.wp P o a W K Q else E := by
  obtain ⟨i0, hi, hzz⟩ := Option.map_eq_some_iff.1 hinfo
  simp only [Prod.mk.injEq] at hzz
  obtain ⟨hz0, hz1, hz2⟩ := hzz
  obtain ⟨xs, hrow, henc⟩ := hown
  have hl1 : l.length + 1 ≤ 140737488355328 := Nat.le_trans (Nat.le_mul_of_pos_right _ hb0) hlen
  refine step_append_lies W hgd s x t ho base T i0 z sz bytes ht hi hz0 hz1 hz2 hz hs0 v l.length xs hs hrow ad 1 c cs hx (by rw [hcl]; simp) hcs h1 (by decide) (by simp only [maxLen]; omega) hlen hbase H hH ?_
  intro g cap w' hrow' hg hat hlt
  refine h g cap w' ⟨xs ++ cs, by simpa using hrow', ?_⟩ hg hat hlt
  have k : Keep G W w' := Keep.grown hg fun b hb => fun e => hG b hb e.symm
  exact .snoc (henc.imp fun _ _ hx => hx.keep k) (hR.keep k) hcl
end Go.Proofs.Ytepnmejahbiacaa
