/- Part 2 of the proof: Ty. -/
import Derived.Test.YtepnmejahbiacaaGreatL01
import Derived.BigQuiet
import Derived.Deep.Draws
import Derived.Deep.LoopGhost
import Derived.Deep.QuietTactic
import Derived.KernelRfl
import Derived.Lib.Hide
import Derived.Maps.AppendAt
import Derived.WalkKit
set_option linter.unusedVariables false
set_option linter.unusedSimpArgs false
namespace Go.Proofs.YtepnmejahbiacaaGreat
open Go.RowKit
inductive Ty where
  | mk (kind : Int) (name : ByteArray) (lo hi : Int) (args : List Ty)
namespace Ty
def kind : Ty → Int | .mk k _ _ _ _ => k
def name : Ty → ByteArray | .mk _ n _ _ _ => n
def lo : Ty → Int | .mk _ _ l _ _ => l
def hi : Ty → Int | .mk _ _ _ h _ => h
def args : Ty → List Ty | .mk _ _ _ _ a => a
end Ty
mutual
def typR : Ty → List Value → World → Prop
  | .mk k n lo hi args, cs, w => ∃ A c, cs = [.int .i64 k, .string n, .int .i64 lo, .int .i64 hi, .slice A args.length c] ∧ args.length ≤ c ∧ typsR A 0 args w
def typsR : Option Addr → Nat → List Ty → World → Prop
  | _, _, [], _ => True
  | A, i, t :: r, w => (∃ b off cs, A = some ⟨b, off, none⟩ ∧ cs.length = 5 ∧ typR t cs w ∧ ∀ j v, cs[j]? = some v → w.cell? ⟨b, off + i * 5 + j, none⟩ = some v) ∧ typsR A (i + 1) r w
end
theorem typsR_slc {A : Option Addr} {w : World} : ∀ (l : List Ty) (i : Nat), typsR A i l w ↔ ∀ k x, l[k]? = some x → ∃ b off cs, A = some ⟨b, off, none⟩ ∧ cs.length = 5 ∧ typR x cs w ∧ ∀ j v, cs[j]? = some v → w.cell? ⟨b, off + (i + k) * 5 + j, none⟩ = some v
  | [], i => by simp [typsR]
  | t :: r, i => by
    rw [typsR, typsR_slc r (i + 1)]
    constructor
    · rintro ⟨h1, h2⟩ k x hx
      cases k with
      | zero => simp at hx; subst hx; exact h1
      | succ k =>
        rw [List.getElem?_cons_succ] at hx
        have := h2 k x hx
        rwa [show i + 1 + k = i + (k + 1) by omega] at this
    · intro h
      refine ⟨h 0 t rfl, fun k x hx => ?_⟩
      have := h (k + 1) x (by rwa [List.getElem?_cons_succ])
      rwa [show i + (k + 1) = i + 1 + k by omega] at this
theorem typsR_iff {A : Option Addr} {w : World} {l : List Ty} : typsR A 0 l w ↔ Slc typR 5 A l w := by
  rw [typsR_slc]
  unfold Slc
  simp only [Nat.zero_add]
abbrev Typs (A : Option Addr) (l : List Ty) (w : World) : Prop := Slc typR 5 A l w
theorem typR_iff {t : Ty} {cs : List Value} {w : World} : typR t cs w ↔ ∃ A c, cs = [.int .i64 t.kind, .string t.name, .int .i64 t.lo, .int .i64 t.hi, .slice A t.args.length c] ∧ t.args.length ≤ c ∧ Typs A t.args w := by
  cases t with
  | mk k n lo hi args => rw [typR]; simp only [typsR_iff]; rfl
theorem typR_one : OneR typR := fun x cs _ h u hu => by
  obtain ⟨A, c, rfl, _⟩ := typR_iff.1 h
  simp at hu
  rcases hu with rfl | rfl | rfl | rfl | rfl <;> rfl
mutual
theorem typR_keep : ∀ (t : Ty) (cs : List Value) (w w' : World), typR t cs w → Keep (fun _ => True) w w' → typR t cs w'
  | .mk k n lo hi args, cs, w, w', h, kp => by
    rw [typR] at h ⊢
    obtain ⟨A, c, h1, h2, h3⟩ := h
    exact ⟨A, c, h1, h2, typsR_keep A 0 args w w' h3 kp⟩
theorem typsR_keep : ∀ (A : Option Addr) (i : Nat) (l : List Ty) (w w' : World), typsR A i l w → Keep (fun _ => True) w w' → typsR A i l w'
  | _, _, [], _, _, _, _ => by rw [typsR]; trivial
  | A, i, t :: r, w, w', h, kp => by
    rw [typsR] at h ⊢
    obtain ⟨⟨b, off, cs, h1, h2, h3, h4⟩, h5⟩ := h
    exact ⟨⟨b, off, cs, h1, h2, typR_keep t cs w w' h3 kp, fun j v hv => cell_keep (h4 j v hv) kp trivial⟩, typsR_keep A (i + 1) r w w' h5 kp⟩
end
theorem typR_stable : Stable typR := fun w x cs h => fun w' k => typR_keep x cs w w' h k
theorem typR.openH {G : Nat → Prop} {t : Ty} {cs : List Value} {w : World} (h : Held G (typR t cs) w) :
    ∃ A c, cs = [.int .i64 t.kind, .string t.name, .int .i64 t.lo, .int .i64 t.hi, .slice A t.args.length c] ∧ t.args.length ≤ c ∧ Held G (Typs A t.args) w := by
  obtain ⟨A, c, e, h1, _⟩ := typR_iff.1 h.now
  refine ⟨A, c, e, h1, fun w' k => ?_⟩
  obtain ⟨A', c', e', _, h3⟩ := typR_iff.1 (h w' k)
  rw [e] at e'
  simp only [List.cons.injEq, Value.slice.injEq] at e'
  obtain ⟨_, _, _, _, ⟨rfl, _⟩, _⟩ := e'
  exact h3
theorem typR.mk {G : Nat → Prop} {t : Ty} {w : World} {A : Option Addr} {c : Nat} (h1 : t.args.length ≤ c) (h3 : Held G (Typs A t.args) w) : Held G (typR t [.int .i64 t.kind, .string t.name, .int .i64 t.lo, .int .i64 t.hi, .slice A t.args.length c]) w := fun w' k => typR_iff.2 ⟨A, c, rfl, h1, h3 w' k⟩
theorem Typs.atH {G : Nat → Prop} {b off : Nat} {l : List Ty} {w : World} (h : Held G (Typs (some ⟨b, off, none⟩) l) w) {k : Nat} {x : Ty} (hk : l[k]? = some x) :
    ∃ A c, x.args.length ≤ c ∧ Held G (Typs A x.args) w ∧ w.cell? ⟨b, off + k * 5, none⟩ = some (.int .i64 x.kind) ∧ w.cell? ⟨b, off + k * 5 + 1, none⟩ = some (.string x.name) ∧
      w.cell? ⟨b, off + k * 5 + 2, none⟩ = some (.int .i64 x.lo) ∧ w.cell? ⟨b, off + k * 5 + 3, none⟩ = some (.int .i64 x.hi) ∧ w.cell? ⟨b, off + k * 5 + 4, none⟩ = some (.slice A x.args.length c) := by
  obtain ⟨cs, _, hr, hc⟩ := Slc.atH h (by decide) hk
  obtain ⟨A, c, rfl, h1, h3⟩ := typR.openH hr
  exact ⟨A, c, h1, h3, (hc 0 _ rfl).now, (hc 1 _ rfl).now, (hc 2 _ rfl).now, (hc 3 _ rfl).now, (hc 4 _ rfl).now⟩
/-- A type as a value. -/
abbrev tyV (t : Ty) (A : Option Addr) (c : Nat) : Value := .agg #[.int .i64 t.kind, .string t.name, .int .i64 t.lo, .int .i64 t.hi, .slice A t.args.length c]
mutual
/-- The number of types in a type. -/
def Ty.count : Ty → Nat
  | .mk _ _ _ _ args => 1 + Ty.counts args
def Ty.counts : List Ty → Nat
  | [] => 0
  | t :: r => Ty.count t + Ty.counts r
end
mutual
/-- It is nested deeper than k. -/
def Ty.deep : Nat → Ty → Bool
  | 0, _ => true
  | k + 1, .mk _ _ _ _ args => Ty.deeps k args
def Ty.deeps : Nat → List Ty → Bool
  | _, [] => false
  | k, t :: r => Ty.deep k t || Ty.deeps k r
end
mutual
/-- A property of all types in a type. -/
def Ty.all (p : Ty → Bool) : Ty → Bool
  | .mk k n lo hi args => p (.mk k n lo hi args) && Ty.alls p args
def Ty.alls (p : Ty → Bool) : List Ty → Bool
  | [] => true
  | t :: r => Ty.all p t && Ty.alls p r
end
theorem Ty.counts_eq : ∀ (l : List Ty), Ty.counts l = (l.map Ty.count).sum
  | [] => by simp [Ty.counts]
  | t :: r => by rw [Ty.counts, Ty.counts_eq r]; simp
theorem Ty.alls_eq (p : Ty → Bool) : ∀ (l : List Ty), Ty.alls p l = l.all (Ty.all p)
  | [] => by simp [Ty.alls]
  | t :: r => by rw [Ty.alls, Ty.alls_eq p r]; simp
theorem Ty.deeps_eq (k : Nat) : ∀ (l : List Ty), Ty.deeps k l = l.any (Ty.deep k)
  | [] => by cases k <;> simp [Ty.deeps]
  | t :: r => by rw [Ty.deeps, Ty.deeps_eq k r]; simp
theorem Ty.count_args (t : Ty) : t.count = 1 + (t.args.map Ty.count).sum := by cases t; rw [Ty.count, Ty.counts_eq]; rfl
theorem Ty.deep_args (k : Nat) (t : Ty) : t.deep (k + 1) = t.args.any (Ty.deep k) := by cases t; rw [Ty.deep, Ty.deeps_eq]; rfl
theorem Ty.all_args (p : Ty → Bool) (t : Ty) : t.all p = (p t && t.args.all (Ty.all p)) := by cases t; rw [Ty.all, Ty.alls_eq]; rfl
theorem Ty.count_pos (t : Ty) : 0 < t.count := by rw [Ty.count_args]; omega
theorem Ty.count_mem {t x : Ty} (h : x ∈ t.args) : x.count < t.count := by
  rw [Ty.count_args t]
  have : ∀ l : List Ty, x ∈ l → x.count ≤ (l.map Ty.count).sum := by
    intro l
    induction l with
    | nil => intro h; cases h
    | cons y l ih =>
      intro h
      rw [List.map_cons, List.sum_cons]
      rcases List.mem_cons.1 h with rfl | h
      · omega
      · have := ih h; omega
  have := this _ h
  omega
end Go.Proofs.YtepnmejahbiacaaGreat
namespace Go.Proofs.YtepnmejahbiacaaGreat
open Go.RowKit
structure Par where
  name : ByteArray
  type : Ty
def parR (x : Par) (cs : List Value) (w : World) : Prop := ∃ ts, cs = .string x.name :: ts ∧ ts.length = 5 ∧ typR x.type ts w
abbrev Pars (A : Option Addr) (l : List Par) (w : World) : Prop := Slc parR 6 A l w
theorem parR.openH {G : Nat → Prop} {x : Par} {cs : List Value} {w : World} (h : Held G (parR x cs) w) :
    ∃ A c, cs = [.string x.name, .int .i64 x.type.kind, .string x.type.name, .int .i64 x.type.lo, .int .i64 x.type.hi, .slice A x.type.args.length c] ∧ x.type.args.length ≤ c ∧ Held G (Typs A x.type.args) w := by
  obtain ⟨ts, e, _, _⟩ := h.now
  have h2 : Held G (typR x.type ts) w := fun w' k => by
    obtain ⟨ts', e', _, h3⟩ := h w' k
    rw [e] at e'
    cases e'
    exact h3
  obtain ⟨A, c, e2, h3, h4⟩ := typR.openH h2
  exact ⟨A, c, by rw [e, e2], h3, h4⟩
theorem Pars.atH {G : Nat → Prop} {b off : Nat} {l : List Par} {w : World} (h : Held G (Pars (some ⟨b, off, none⟩) l) w) {k : Nat} {x : Par} (hk : l[k]? = some x) :
    ∃ A c, x.type.args.length ≤ c ∧ Held G (Typs A x.type.args) w ∧ w.cell? ⟨b, off + k * 6, none⟩ = some (.string x.name) ∧ w.cell? ⟨b, off + k * 6 + 1, none⟩ = some (.int .i64 x.type.kind) ∧
      w.cell? ⟨b, off + k * 6 + 2, none⟩ = some (.string x.type.name) ∧ w.cell? ⟨b, off + k * 6 + 3, none⟩ = some (.int .i64 x.type.lo) ∧ w.cell? ⟨b, off + k * 6 + 4, none⟩ = some (.int .i64 x.type.hi) ∧ w.cell? ⟨b, off + k * 6 + 5, none⟩ = some (.slice A x.type.args.length c) := by
  obtain ⟨cs, _, hr, hc⟩ := Slc.atH h (by decide) hk
  obtain ⟨A, c, rfl, h1, h3⟩ := parR.openH hr
  exact ⟨A, c, h1, h3, (hc 0 _ rfl).now, (hc 1 _ rfl).now, (hc 2 _ rfl).now, (hc 3 _ rfl).now, (hc 4 _ rfl).now, (hc 5 _ rfl).now⟩
structure Meth where
  id : Int
  lib : ByteArray
  pars : List Par
  result : Ty
def metR (x : Meth) (cs : List Value) (w : World) : Prop := ∃ A c ts, cs = [.int .i64 x.id, .string x.lib, .slice A x.pars.length c] ++ ts ∧ ts.length = 5 ∧ x.pars.length ≤ c ∧ Pars A x.pars w ∧ typR x.result ts w
theorem metR_one : OneR metR := fun x cs w h u hu => by
  obtain ⟨A, c, ts, rfl, _, _, _, h4⟩ := h
  rcases List.mem_append.1 hu with hu | hu
  · simp at hu
    rcases hu with rfl | rfl | rfl <;> rfl
  · exact typR_one _ _ _ h4 u hu
abbrev Meths (A : Option Addr) (l : List Meth) (w : World) : Prop := Slc metR 8 A l w
theorem metR.openH {G : Nat → Prop} {x : Meth} {cs : List Value} {w : World} (h : Held G (metR x cs) w) :
    ∃ A c A2 c2, cs = [.int .i64 x.id, .string x.lib, .slice A x.pars.length c, .int .i64 x.result.kind, .string x.result.name, .int .i64 x.result.lo, .int .i64 x.result.hi, .slice A2 x.result.args.length c2] ∧ x.pars.length ≤ c ∧ Held G (Pars A x.pars) w ∧
      x.result.args.length ≤ c2 ∧ Held G (Typs A2 x.result.args) w := by
  obtain ⟨A, c, ts, e, _, h2, _, _⟩ := h.now
  have hp : Held G (fun w => Pars A x.pars w ∧ typR x.result ts w) w := fun w' k => by
    obtain ⟨A', c', ts', e', _, _, h3, h4⟩ := h w' k
    rw [e] at e'
    simp only [List.cons_append, List.nil_append, List.cons.injEq, Value.slice.injEq, true_and] at e'
    obtain ⟨⟨rfl, _⟩, rfl⟩ := e'
    exact ⟨h3, h4⟩
  obtain ⟨A2, c2, e2, h5, h6⟩ := typR.openH (fun w' k => (hp w' k).2)
  exact ⟨A, c, A2, c2, by rw [e, e2]; rfl, h2, fun w' k => (hp w' k).1, h5, h6⟩
theorem Meths.atH {G : Nat → Prop} {b off : Nat} {l : List Meth} {w : World} (h : Held G (Meths (some ⟨b, off, none⟩) l) w) {k : Nat} {x : Meth} (hk : l[k]? = some x) :
    ∃ A c A2 c2, x.pars.length ≤ c ∧ Held G (Pars A x.pars) w ∧ x.result.args.length ≤ c2 ∧ Held G (Typs A2 x.result.args) w ∧
      w.cell? ⟨b, off + k * 8, none⟩ = some (.int .i64 x.id) ∧ w.cell? ⟨b, off + k * 8 + 1, none⟩ = some (.string x.lib) ∧ w.cell? ⟨b, off + k * 8 + 2, none⟩ = some (.slice A x.pars.length c) ∧
      w.cell? ⟨b, off + k * 8 + 3, none⟩ = some (.int .i64 x.result.kind) ∧ w.cell? ⟨b, off + k * 8 + 4, none⟩ = some (.string x.result.name) ∧ w.cell? ⟨b, off + k * 8 + 5, none⟩ = some (.int .i64 x.result.lo) ∧
      w.cell? ⟨b, off + k * 8 + 6, none⟩ = some (.int .i64 x.result.hi) ∧ w.cell? ⟨b, off + k * 8 + 7, none⟩ = some (.slice A2 x.result.args.length c2) := by
  obtain ⟨cs, _, hr, hc⟩ := Slc.atH h (by decide) hk
  obtain ⟨A, c, A2, c2, rfl, h1, h2, h3, h4⟩ := metR.openH hr
  exact ⟨A, c, A2, c2, h1, h2, h3, h4, (hc 0 _ rfl).now, (hc 1 _ rfl).now, (hc 2 _ rfl).now, (hc 3 _ rfl).now, (hc 4 _ rfl).now, (hc 5 _ rfl).now, (hc 6 _ rfl).now, (hc 7 _ rfl).now⟩
end Go.Proofs.YtepnmejahbiacaaGreat
