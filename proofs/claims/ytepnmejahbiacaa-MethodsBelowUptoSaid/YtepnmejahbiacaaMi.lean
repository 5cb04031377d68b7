/- types.hier.mayInherit. -/
import Derived.Test.YtepnmejahbiacaaSf
import Derived.Test.YtepnmejahbiacaaC3d
import Derived.Stop.RegionWithIn
set_option linter.unusedVariables false
set_option linter.unusedSimpArgs false
namespace Go.Proofs.Ytepnmejahbiacaa
open Go.RowKit

/-- The hierarchy in memory: its block hp; the map at M1. -/
structure HierAt (hp M1 : Nat) (A : Option Addr) (c : Nat) (l : List CI) (k : Nat) (w : World) : Prop where
  c0 : w.cell? ⟨hp, 0, none⟩ = some (.slice A l.length c)
  c1 : w.cell? ⟨hp, 1, none⟩ = some (.map (some M1))
  at_ : MapF strKey M1 (atMap ((l.take k).map (·.name))) w
theorem HierAt.keep {hp M1 : Nat} {A : Option Addr} {c : Nat} {l : List CI} {k : Nat} {w w' : World} (h : HierAt hp M1 A c l k w) (q : Below w.heap.size w w') : HierAt hp M1 A c l k w' :=
  ⟨cell_all h.c0 q, cell_all h.c1 q, h.at_.keep (Keep.all q (G := fun _ => True)) trivial⟩
/-- A superclass that may not be inherited from. -/
def badSup (l : List CI) (k : Nat) (x : CI) (s : ByteArray) : Bool :=
  match lastAt ((l.take k).map (·.name)) s with
  | none => true
  | some i => (decide (1 ≤ i) && decide (i ≤ 4)) || (match l[i]? with | some y => y.seal_ && !decide (y.lib = x.lib) | none => false)
def mayInh (l : List CI) (k : Nat) (x : CI) : Bool := !(x.supers.any (badSup l k x))

set_option maxHeartbeats 4000000 in
set_option maxRecDepth 100000 in
theorem mayInherit1_calls (hp M1 : Nat) (A : Option Addr) (c : Nat) (l : List CI) (k : Nat) (hk : k ≤ l.length) (hl : l.length ≤ 1000000) (x : CI) (s : ByteArray) (b1 b2 : Nat) (w : World) (H : HierAt hp M1 A c l k w) (G : Nat → Prop) (hA : Held G (CIs A l) w)
    (h1 : w.cell? ⟨b1, 0, none⟩ = some (.pointer (some ⟨hp, 0, none⟩))) (h2 : w.cell? ⟨b2, 1, none⟩ = some (.string x.lib)) :
    Calls Try.prog 79 #[.string s, .pointer (some ⟨b1, 0, none⟩), .pointer (some ⟨b2, 0, none⟩)] w fun e w' => e = .returned (.bool (badSup l k x s)) ∧ Drw w w' := by
  have hlk := run_at H.at_ s true
  have c0 := H.c0
  have c1 := H.c1
  clear H
  cases hla : lastAt ((l.take k).map (·.name)) s with
  | none =>
    rw [hla] at hlk
    have hlk1 : (Instr.lookup 94 (.map (some M1)) (.string s) true).run Try.prog w = .ok (.tuple #[.int .i64 0, .bool false]) w := hlk
    clear hlk
    have HB : Hid (badSup l k x s = true) := Lib.hid (by unfold badSup; rw [hla])
    clear hla
    go_enter Try.func79, Try.ntmps79
    go_wp2
    go_quiet (fail)
    go_wp2
    go_ret
    exact ⟨by rw [HB.out]; rfl, Drw.of _ _⟩
  | some i =>
    rw [hla] at hlk
    have hlk1 : (Instr.lookup 94 (.map (some M1)) (.string s) true).run Try.prog w = .ok (.tuple #[.int .i64 (i : Int), .bool true]) w := hlk
    clear hlk
    have hi : i < l.length := by
      have := (List.getElem?_eq_some_iff.1 (lastAt_some hla)).1
      simp at this; omega
    have hy : l[i]? = some l[i] := List.getElem?_eq_getElem hi
    generalize l[i] = y at hy
    obtain ⟨b, off, rfl⟩ := Slc.addrH hA (by omega)
    obtain ⟨A2, c2, A3, c3, p1, p2, p3, p4, g0, g1, g2, g3, g4, g5⟩ := CIs.atH hA hy
    have HB : Hid (badSup l k x s = ((decide (1 ≤ i) && decide (i ≤ 4)) || (y.seal_ && !decide (y.lib = x.lib)))) := Lib.hid (by unfold badSup; rw [hla]; simp only [hy])
    clear hla hy hA
    by_cases q1 : 1 ≤ i
    · have t1 : decide ((1 : Int) ≤ (i : Int)) = true := decide_eq_true (by omega)
      by_cases q2 : i ≤ 4
      · have t2 : decide ((i : Int) ≤ 4) = true := decide_eq_true (by omega)
        have HB2 : Hid (badSup l k x s = true) := Lib.hid (by rw [HB.out]; simp [q1, q2])
        clear HB
        go_enter Try.func79, Try.ntmps79
        go_wp2
        go_quiet (fail)
        go_wp2
        go_ret
        exact ⟨by rw [HB2.out]; rfl, Drw.of _ _⟩
      · have t2 : decide ((i : Int) ≤ 4) = false := decide_eq_false (by omega)
        cases hs : y.seal_ with
        | false =>
          rw [hs] at g5
          have HB2 : Hid (badSup l k x s = false) := Lib.hid (by rw [HB.out, hs]; simp [q2])
          clear HB hs
          go_enter Try.func79, Try.ntmps79
          go_wp2
          go_quiet (fail)
          go_wp2
          go_ret
          exact ⟨by rw [HB2.out]; rfl, Drw.of _ _⟩
        | true =>
          rw [hs] at g5
          have HB2 : Hid (badSup l k x s = !decide (y.lib = x.lib)) := Lib.hid (by rw [HB.out, hs]; simp [q2])
          clear HB hs
          go_enter Try.func79, Try.ntmps79
          go_wp2
          go_quiet (fail)
          go_wp2
          go_ret
          exact ⟨by rw [HB2.out]; rfl, Drw.of _ _⟩
    · have t1 : decide ((1 : Int) ≤ (i : Int)) = false := decide_eq_false (by omega)
      cases hs : y.seal_ with
      | false =>
        rw [hs] at g5
        have HB2 : Hid (badSup l k x s = false) := Lib.hid (by rw [HB.out, hs]; simp [q1])
        clear HB hs
        go_enter Try.func79, Try.ntmps79
        go_wp2
        go_quiet (fail)
        go_wp2
        go_ret
        exact ⟨by rw [HB2.out]; rfl, Drw.of _ _⟩
      | true =>
        rw [hs] at g5
        have HB2 : Hid (badSup l k x s = !decide (y.lib = x.lib)) := Lib.hid (by rw [HB.out, hs]; simp [q1])
        clear HB hs
        go_enter Try.func79, Try.ntmps79
        go_wp2
        go_quiet (fail)
        go_wp2
        go_ret
        exact ⟨by rw [HB2.out]; rfl, Drw.of _ _⟩

set_option maxHeartbeats 4000000 in
set_option maxRecDepth 100000 in
theorem mayInherit_calls (hp M1 : Nat) (A : Option Addr) (c : Nat) (l : List CI) (k : Nat) (hk : k ≤ l.length) (hl : l.length ≤ 1000000) (x : CI) (A2 A3 : Option Addr) (c2 c3 : Nat) (w : World) (H : HierAt hp M1 A c l k w) (G : Nat → Prop) (hA : Held G (CIs A l) w)
    (G2 : Nat → Prop) (hS : Held G2 (Strs A2 x.supers) w) (hs : x.supers.length ≤ 1000000) :
    Calls Try.prog 53 #[.pointer (some ⟨hp, 0, none⟩), .agg #[.string x.name, .string x.lib, .slice A2 x.supers.length c2, .slice A3 x.cpl.length c3, .bool x.abs, .bool x.seal_]] w fun e w' => e = .returned (.bool (mayInh l k x)) ∧ Below w.heap.size w w' := by
  obtain ⟨W1, hW1⟩ : ∃ W1, W1 = (w.alloc (.cells #[.pointer (some ⟨hp, 0, none⟩)] 69)).alloc (.cells #[.string x.name, .string x.lib, .slice A2 x.supers.length c2, .slice A3 x.cpl.length c3, .bool x.abs, .bool x.seal_] 80) := ⟨_, rfl⟩
  have hb : Below w.heap.size w W1 := by rw [hW1]; exact ((Below.refl _ w).alloc (Nat.le_refl _) _).alloc (by simp) _
  have x1 : W1.cell? ⟨w.heap.size, 0, none⟩ = some (.pointer (some ⟨hp, 0, none⟩)) := by rw [hW1]; exact cell_all (cell_new w _ _ _ rfl 0 _ rfl) ((Below.refl _ _).alloc (Nat.le_refl _) _)
  have x2 : W1.cell? ⟨w.heap.size + 1, 1, none⟩ = some (.string x.lib) := by rw [hW1]; exact cell_new (w.alloc _) _ _ _ (by simp) 1 _ rfl
  have S1 := hS.keep (Keep.all hb)
  have L1 := hA.keep (Keep.all hb)
  have H1 := H.keep hb
  have HC : Hid (Calls Try.prog 78 #[.slice A2 x.supers.length c2, .func (.func 79) #[] #[.pointer (some ⟨w.heap.size, 0, none⟩), .pointer (some ⟨w.heap.size + 1, 0, none⟩)]] W1
      (FoundB (fun i wr => Drw W1 wr ∧ ∀ j s, j < i → x.supers[j]? = some s → badSup l k x s = false) (fun i wr => Drw W1 wr ∧ ∃ s, x.supers[i]? = some s ∧ badSup l k x s = true) (Panics fun _ _ => False) x.supers.length)) := Lib.hid (by
    refine containsFuncStr A2 x.supers.length c2 79 _ (fun i => .string (x.supers.getD i ⟨#[]⟩)) W1 (by omega) (enters Try.func79 (by kernel_rfl) rfl) _ _ _ ⟨Drw.refl _, fun j s hj => absurd hj (by omega)⟩ (fun h0 => Slc.addrH hS h0) ?_ ?_
    · rintro i wr b off rfl hi ⟨hd, _⟩
      have hx := List.getElem?_eq_getElem hi
      have := (Strs.atH (S1.keep (Keep.all (hd.below _))) hx).now
      simp only [List.getD_eq_getElem?_getD, hx, Option.getD_some]
      exact this
    · rintro i wr hi ⟨hd, hj⟩
      have hx := List.getElem?_eq_getElem hi
      simp only [List.getD_eq_getElem?_getD, hx, Option.getD_some]
      have hbd := hd.below W1.heap.size
      refine (mayInherit1_calls hp M1 A c l k hk hl x (x.supers[i]) w.heap.size (w.heap.size + 1) wr (H1.keep hbd) G (L1.keep (Keep.all hbd)) (cell_all x1 hbd) (cell_all x2 hbd)).mono ?_
      rintro e w' ⟨rfl, hd2⟩
      have hd3 : Drw W1 w' := by obtain ⟨n, rfl⟩ := hd2; exact hd.drewN n
      cases hq : badSup l k x x.supers[i] with
      | false => exact .inl ⟨rfl, hd3, fun j s hj' hs => by
          rcases Nat.lt_or_ge j i with h | h
          · exact hj j s h hs
          · obtain rfl : j = i := by omega
            rw [hx] at hs; cases hs; exact hq⟩
      | true => exact .inr (.inl ⟨rfl, hd3, _, hx, hq⟩))
  clear H H1 hA L1 hS S1
  go_enter Try.func53, Try.ntmps53
  go_wp2_with (fail)
  rw [← hW1]
  refine HC.out.mono ?_
  rintro e w' (⟨rfl, hd, hj⟩ | ⟨i, hi, rfl, hd, s, hx, hq⟩ | ⟨_, _, h⟩)
  · go_wp2
    go_ret
    refine ⟨?_, hb.trans ((hd.below _).mono hb.size)⟩
    have : x.supers.any (badSup l k x) = false := by
      rw [List.any_eq_false]
      intro s hs
      obtain ⟨j, hj'⟩ := List.mem_iff_getElem?.1 hs
      rw [hj j s (List.getElem?_eq_some_iff.1 hj').1 hj']; simp
    unfold mayInh; rw [this]; rfl
  · go_wp2
    go_ret
    refine ⟨?_, hb.trans ((hd.below _).mono hb.size)⟩
    have : x.supers.any (badSup l k x) = true := List.any_eq_true.2 ⟨s, List.mem_of_getElem? hx, hq⟩
    unfold mayInh; rw [this]; rfl
  · exact h.elim
end Go.Proofs.Ytepnmejahbiacaa
