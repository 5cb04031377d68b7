/- Part 13 of the proof: Mi, C3g. -/
import Derived.Test.YtepnmejahbiacaaGreatL04
import Derived.Test.YtepnmejahbiacaaGreatL07
import Derived.Test.YtepnmejahbiacaaGreatL12
import Derived.Test.YtepnmejahbiacaaGreatL06
import Derived.Test.YtepnmejahbiacaaGreatL03
import Derived.Test.YtepnmejahbiacaaGreatL01
import Derived.BigQuiet
import Derived.Carry
import Derived.Deep.Draws
import Derived.Deep.LoopGhost
import Derived.Deep.QuietTactic
import Derived.KernelRfl
import Derived.Lib.Hide
import Derived.LoopIn
import Derived.LoopNIn
import Derived.Maps.AppendAt
import Derived.Maps.Own
import Derived.Outline
import Derived.OwnWalkIn
import Derived.RangeFuncBound
import Derived.RangeFuncCalls
import Derived.RangeFuncLeaves
import Derived.RangeFuncNested
import Derived.StillTailTactics
import Derived.TacticsInMore
import Derived.Test.YtepnmejahbiacaaGreatProg
import Derived.WalkKit
import Derived.WalkSpells
import Derived.Stop.RegionWithIn
set_option linter.unusedVariables false
set_option linter.unusedSimpArgs false
namespace Go.Proofs.YtepnmejahbiacaaGreat
open Go.RowKit
/-- The hierarchy in memory: its block hp; the map at M1. -/
structure HierAt (hp M1 : Nat) (A : Option Addr) (c : Nat) (l : List CI) (k : Nat) (w : World) : Prop where
  c0 : w.cell? ⟨hp, 0, none⟩ = some (.slice A l.length c)
  c1 : w.cell? ⟨hp, 1, none⟩ = some (.map (some M1))
  at_ : MapF strKey M1 (atMap ((l.take k).map (·.name))) w
  c2 : w.cell? ⟨hp, 2, none⟩ = some (.map (some (M1 + 1)))
  c3 : w.cell? ⟨hp, 3, none⟩ = some (.map (some (M1 + 1 + 1)))
  m2 : ∃ f, MapF strKey (M1 + 1) f w ∧ ∀ s v, f s = some v → v = .bool (cloB l s)
  m3 : ∃ f, MapF strKey (M1 + 1 + 1) f w ∧ ∀ s v, f s = some v → v = .bool (vdB l s)
  hpe : hp = M1 + 1 + 1 + 1
theorem HierAt.keep {hp M1 : Nat} {A : Option Addr} {c : Nat} {l : List CI} {k : Nat} {w w' : World} (h : HierAt hp M1 A c l k w) (q : Below w.heap.size w w') : HierAt hp M1 A c l k w' :=
  ⟨cell_all h.c0 q, cell_all h.c1 q, h.at_.keep (Keep.all q (G := fun _ => True)) trivial, cell_all h.c2 q, cell_all h.c3 q, h.m2.imp fun f hf => ⟨hf.1.keep (Keep.all q (G := fun _ => True)) trivial, hf.2⟩, h.m3.imp fun f hf => ⟨hf.1.keep (Keep.all q (G := fun _ => True)) trivial, hf.2⟩, h.hpe⟩
/-- A superclass that may not be inherited from. -/
def badSup (l : List CI) (k : Nat) (x : CI) (s : ByteArray) : Bool :=
  match lastAt ((l.take k).map (·.name)) s with
  | none => true
  | some i => (decide (1 ≤ i) && decide (i ≤ 4)) || (match l[i]? with | some y => y.seal_ && !decide (y.lib = x.lib) | none => false)
def mayInh (l : List CI) (k : Nat) (x : CI) : Bool := !(x.supers.any (badSup l k x))
set_option maxHeartbeats 4000000 in
set_option maxRecDepth 100000 in
theorem mayInherit1_calls (hp M1 : Nat) (A : Option Addr) (c : Nat) (l : List CI) (k : Nat) (hk : k ≤ l.length) (hl : l.length ≤ 1000000) (x : CI) (s : ByteArray) (b1 b2 : Nat) (w : World) (H : HierAt hp M1 A c l k w) (G : Nat → Prop) (hA : Held G (CIs A l) w)
    (h1 : w.cell? ⟨b1, 0, none⟩ = some (.pointer (some ⟨hp, 0, none⟩))) (h2 : w.cell? ⟨b2, 1, none⟩ = some (.string x.lib)) :
    Calls Tryz.prog 158 #[.string s, .pointer (some ⟨b1, 0, none⟩), .pointer (some ⟨b2, 0, none⟩)] w fun e w' => e = .returned (.bool (badSup l k x s)) ∧ Drw w w' := by
  have hlk := run_at H.at_ s true
  have c0 := H.c0
  have c1 := H.c1
  clear H
  cases hla : lastAt ((l.take k).map (·.name)) s with
  | none =>
    rw [hla] at hlk
    have hlk1 : (Instr.lookup 140 (.map (some M1)) (.string s) true).run Tryz.prog w = .ok (.tuple #[.int .i64 0, .bool false]) w := hlk
    clear hlk
    have HB : Hid (badSup l k x s = true) := Lib.hid (by unfold badSup; rw [hla])
    clear hla
    go_enter Tryz.func158, Tryz.ntmps158
    go_wp2
    go_quiet (fail)
    go_wp2
    go_ret
    exact ⟨by rw [HB.out]; rfl, Drw.of _ _⟩
  | some i =>
    rw [hla] at hlk
    have hlk1 : (Instr.lookup 140 (.map (some M1)) (.string s) true).run Tryz.prog w = .ok (.tuple #[.int .i64 (i : Int), .bool true]) w := hlk
    clear hlk
    have hi : i < l.length := by
      have := (List.getElem?_eq_some_iff.1 (lastAt_some hla)).1
      simp at this; omega
    have hy : l[i]? = some l[i] := List.getElem?_eq_getElem hi
    generalize l[i] = y at hy
    obtain ⟨b, off, rfl⟩ := Slc.addrH hA (by omega)
    obtain ⟨A2, c2, A3, c3, p1, p2, p3, p4, g0, g1, g2, g3, g4, g5⟩ := CIs.atH hA hy
    have HB : Hid (badSup l k x s = ((decide (1 ≤ i) && decide (i ≤ 4)) || (y.seal_ && !decide (y.lib = x.lib)))) := Lib.hid (by unfold badSup; rw [hla]; simp only [hy])
    clear hla hy hA
    by_cases q1 : 1 ≤ i
    · have t1 : decide ((1 : Int) ≤ (i : Int)) = true := decide_eq_true (by omega)
      by_cases q2 : i ≤ 4
      · have t2 : decide ((i : Int) ≤ 4) = true := decide_eq_true (by omega)
        have HB2 : Hid (badSup l k x s = true) := Lib.hid (by rw [HB.out]; simp [q1, q2])
        clear HB
        go_enter Tryz.func158, Tryz.ntmps158
        go_wp2
        go_quiet (fail)
        go_wp2
        go_ret
        exact ⟨by rw [HB2.out]; rfl, Drw.of _ _⟩
      · have t2 : decide ((i : Int) ≤ 4) = false := decide_eq_false (by omega)
        cases hs : y.seal_ with
        | false =>
          rw [hs] at g5
          have HB2 : Hid (badSup l k x s = false) := Lib.hid (by rw [HB.out, hs]; simp [q2])
          clear HB hs
          go_enter Tryz.func158, Tryz.ntmps158
          go_wp2
          go_quiet (fail)
          go_wp2
          go_ret
          exact ⟨by rw [HB2.out]; rfl, Drw.of _ _⟩
        | true =>
          rw [hs] at g5
          have HB2 : Hid (badSup l k x s = !decide (y.lib = x.lib)) := Lib.hid (by rw [HB.out, hs]; simp [q2])
          clear HB hs
          go_enter Tryz.func158, Tryz.ntmps158
          go_wp2
          go_quiet (fail)
          go_wp2
          go_ret
          exact ⟨by rw [HB2.out]; rfl, Drw.of _ _⟩
    · have t1 : decide ((1 : Int) ≤ (i : Int)) = false := decide_eq_false (by omega)
      cases hs : y.seal_ with
      | false =>
        rw [hs] at g5
        have HB2 : Hid (badSup l k x s = false) := Lib.hid (by rw [HB.out, hs]; simp [q1])
        clear HB hs
        go_enter Tryz.func158, Tryz.ntmps158
        go_wp2
        go_quiet (fail)
        go_wp2
        go_ret
        exact ⟨by rw [HB2.out]; rfl, Drw.of _ _⟩
      | true =>
        rw [hs] at g5
        have HB2 : Hid (badSup l k x s = !decide (y.lib = x.lib)) := Lib.hid (by rw [HB.out, hs]; simp [q1])
        clear HB hs
        go_enter Tryz.func158, Tryz.ntmps158
        go_wp2
        go_quiet (fail)
        go_wp2
        go_ret
        exact ⟨by rw [HB2.out]; rfl, Drw.of _ _⟩
set_option maxHeartbeats 4000000 in
set_option maxRecDepth 100000 in
theorem mayInherit_calls (hp M1 : Nat) (A : Option Addr) (c : Nat) (l : List CI) (k : Nat) (hk : k ≤ l.length) (hl : l.length ≤ 1000000) (x : CI) (A2 A3 : Option Addr) (c2 c3 : Nat) (w : World) (H : HierAt hp M1 A c l k w) (G : Nat → Prop) (hA : Held G (CIs A l) w)
    (G2 : Nat → Prop) (hS : Held G2 (Strs A2 x.supers) w) (hs : x.supers.length ≤ 1000000) :
    Calls Tryz.prog 106 #[.pointer (some ⟨hp, 0, none⟩), .agg #[.string x.name, .string x.lib, .slice A2 x.supers.length c2, .slice A3 x.cpl.length c3, .bool x.abs, .bool x.seal_]] w fun e w' => e = .returned (.bool (mayInh l k x)) ∧ Below w.heap.size w w' := by
  obtain ⟨W1, hW1⟩ : ∃ W1, W1 = (w.alloc (.cells #[.pointer (some ⟨hp, 0, none⟩)] 98)).alloc (.cells #[.string x.name, .string x.lib, .slice A2 x.supers.length c2, .slice A3 x.cpl.length c3, .bool x.abs, .bool x.seal_] 110) := ⟨_, rfl⟩
  have hb : Below w.heap.size w W1 := by rw [hW1]; exact ((Below.refl _ w).alloc (Nat.le_refl _) _).alloc (by simp) _
  have x1 : W1.cell? ⟨w.heap.size, 0, none⟩ = some (.pointer (some ⟨hp, 0, none⟩)) := by rw [hW1]; exact cell_all (cell_new w _ _ _ rfl 0 _ rfl) ((Below.refl _ _).alloc (Nat.le_refl _) _)
  have x2 : W1.cell? ⟨w.heap.size + 1, 1, none⟩ = some (.string x.lib) := by rw [hW1]; exact cell_new (w.alloc _) _ _ _ (by simp) 1 _ rfl
  have S1 := hS.keep (Keep.all hb)
  have L1 := hA.keep (Keep.all hb)
  have H1 := H.keep hb
  have HC : Hid (Calls Tryz.prog 155 #[.slice A2 x.supers.length c2, .func (.func 158) #[] #[.pointer (some ⟨w.heap.size, 0, none⟩), .pointer (some ⟨w.heap.size + 1, 0, none⟩)]] W1
      (FoundB (fun i wr => Drw W1 wr ∧ ∀ j s, j < i → x.supers[j]? = some s → badSup l k x s = false) (fun i wr => Drw W1 wr ∧ ∃ s, x.supers[i]? = some s ∧ badSup l k x s = true) (Panics fun _ _ => False) x.supers.length)) := Lib.hid (by
    refine containsFuncStr A2 x.supers.length c2 158 _ (fun i => .string (x.supers.getD i ⟨#[]⟩)) W1 (by omega) (enters Tryz.func158 (by kernel_rfl) rfl) _ _ _ ⟨Drw.refl _, fun j s hj => absurd hj (by omega)⟩ (fun h0 => Slc.addrH hS h0) ?_ ?_
    · rintro i wr b off rfl hi ⟨hd, _⟩
      have hx := List.getElem?_eq_getElem hi
      have := (Strs.atH (S1.keep (Keep.all (hd.below _))) hx).now
      simp only [List.getD_eq_getElem?_getD, hx, Option.getD_some]
      exact this
    · rintro i wr hi ⟨hd, hj⟩
      have hx := List.getElem?_eq_getElem hi
      simp only [List.getD_eq_getElem?_getD, hx, Option.getD_some]
      have hbd := hd.below W1.heap.size
      refine (mayInherit1_calls hp M1 A c l k hk hl x (x.supers[i]) w.heap.size (w.heap.size + 1) wr (H1.keep hbd) G (L1.keep (Keep.all hbd)) (cell_all x1 hbd) (cell_all x2 hbd)).mono ?_
      rintro e w' ⟨rfl, hd2⟩
      have hd3 : Drw W1 w' := by obtain ⟨n, rfl⟩ := hd2; exact hd.drewN n
      cases hq : badSup l k x x.supers[i] with
      | false => exact .inl ⟨rfl, hd3, fun j s hj' hs => by
          rcases Nat.lt_or_ge j i with h | h
          · exact hj j s h hs
          · obtain rfl : j = i := by omega
            rw [hx] at hs; cases hs; exact hq⟩
      | true => exact .inr (.inl ⟨rfl, hd3, _, hx, hq⟩))
  clear H H1 hA L1 hS S1
  go_enter Tryz.func106, Tryz.ntmps106
  go_wp2_with (fail)
  rw [← hW1]
  refine HC.out.mono ?_
  rintro e w' (⟨rfl, hd, hj⟩ | ⟨i, hi, rfl, hd, s, hx, hq⟩ | ⟨_, _, h⟩)
  · go_wp2
    go_ret
    refine ⟨?_, hb.trans ((hd.below _).mono hb.size)⟩
    have : x.supers.any (badSup l k x) = false := by
      rw [List.any_eq_false]
      intro s hs
      obtain ⟨j, hj'⟩ := List.mem_iff_getElem?.1 hs
      rw [hj j s (List.getElem?_eq_some_iff.1 hj').1 hj']; simp
    unfold mayInh; rw [this]; rfl
  · go_wp2
    go_ret
    refine ⟨?_, hb.trans ((hd.below _).mono hb.size)⟩
    have : x.supers.any (badSup l k x) = true := List.any_eq_true.2 ⟨s, List.mem_of_getElem? hx, hq⟩
    unfold mayInh; rw [this]; rfl
  · exact h.elim
end Go.Proofs.YtepnmejahbiacaaGreat
set_option linter.unusedVariables false
set_option linter.unusedSimpArgs false
namespace Go.Proofs.YtepnmejahbiacaaGreat
open Go.RowKit
/-- What the loop's body does with a list. -/
def Yields1 (P : Program) (l : Nat) (Bo : Nat → Prop) (M2 : Nat) (J : List (List ByteArray) → (Nat → Prop) → World → Prop) : Prop :=
  ∀ (n : Nat) pre Bi y A c W, J pre Bi W → y.length ≤ c → y.length ≤ 1000000 → pre.length ≤ 1000 → Held (fun b => ¬ (Bi b ∨ Bo b) ∧ b ≠ M2) (Strs A y) W →
    YieldAt Fence.wide n P l #[.slice A y.length c] W fun e W' => e = .returned (.bool true) ∧ ∃ Bi', J (pre ++ [y]) Bi' W' ∧ Chg Bi W W' ∧ ∀ b, Bi' b → b < W'.heap.size ∧ (Bi b ∨ W.heap.size ≤ b)
def IterPost (T hp M1 M2 : Nat) (A : Option Addr) (c : Nat) (g : List Heir) (x : Heir) (Bo : Nat → Prop) (N : Nat) (J : List (List ByteArray) → (Nat → Prop) → World → Prop) (W0 : World) (e : Ending) (W' : World) : Prop :=
  Chg (fun b => b = M2 ∨ N ≤ b) W0 W' ∧
  ((∃ xs Bi, allSome (lineOf g) x.supers = some xs ∧ (∃ v, e = .returned v) ∧ J (xs ++ [x.supers]) Bi W' ∧ TreeInv hp M1 M2 A c g (fun b => Bi b ∨ Bo b) W') ∨
   (allSome (lineOf g) x.supers = none ∧ ∃ ch, e = .panicked ch ∧ Stuck T ch ∧ ∃ pre Bi, J pre Bi W'))
set_option maxHeartbeats 4000000 in
set_option maxRecDepth 100000 in
theorem lists1_calls (hp M1 M2 : Nat) (A : Option Addr) (c : Nat) (g : List Heir) (hck : c3Check g = 0) (i : Nat) (x : Heir) (hx : g[i]? = some x) (tb ib : Nat) (Bo : Nat → Prop) (N : Nat)
    (HL : ∀ j, j < i → ∀ B W, (∀ b, B b → b < W.heap.size) → TreeInv hp M1 M2 A c g B W → Calls Tryz.prog 169 #[.pointer (some ⟨hp, 0, none⟩), .int .i64 (j : Int)] W (LinePost 229 hp M1 M2 A c g B j W))
    (l : Nat) (J : List (List ByteArray) → (Nat → Prop) → World → Prop) (hJs : ∀ pre Bi W W', J pre Bi W → Chg (fun b => b = M2) W W' → J pre Bi W') (hY : Yields1 Tryz.prog l Bo M2 J)
    (Bi0 : Nat → Prop) (W0 : World) (h0 : J [] Bi0 W0) (hT : TreeInv hp M1 M2 A c g (fun b => Bi0 b ∨ Bo b) W0) (hN : ∀ b, Bi0 b → N ≤ b ∧ b < W0.heap.size) (hN2 : N ≤ W0.heap.size) (hBo : ∀ b, Bo b → b < N)
    (hG : Held (fun b => b < N ∧ b ≠ M2) (Heirs A g) W0)
    (htb : W0.cell? ⟨tb, 0, none⟩ = some (.pointer (some ⟨hp, 0, none⟩))) (hib : W0.cell? ⟨ib, 0, none⟩ = some (.int .i64 (i : Int))) (htn : tb < N ∧ ib < N ∧ tb ≠ M2 ∧ ib ≠ M2) :
    Calls Tryz.prog 218 #[.func (.yield l) #[] #[], .pointer (some ⟨tb, 0, none⟩), .pointer (some ⟨ib, 0, none⟩)] W0 (IterPost 229 hp M1 M2 A c g x Bo N J W0) := by
  have hok := (c3Check_zero hck).2
  have hi : i < g.length := (List.getElem?_eq_some_iff.1 hx).1
  have HX := Lib.hid hx
  have HOK := Lib.hid hok
  have hxs : x.supers.length ≤ 8 := by
    have := heirsOk_at hok i x hx
    unfold heirOk at this
    simp only [Bool.and_eq_true, decide_eq_true_eq] at this
    exact this.1.2
  have hgl := (c3Check_zero hck).1
  obtain ⟨b, off, rfl⟩ := Slc.addrH hG (by omega)
  obtain ⟨A2, c2, r2, R2, g1, g2⟩ := Heirs.atH hG hx
  obtain ⟨lines, tr, mm⟩ := hT.tr
  have c0 := tr.c0
  have hbl := cell_lt g1
  clear hx hok hck
  go_enter Tryz.func218, Tryz.ntmps218
  go_wp2
  go_quiet (fail)
  go_wp2
  clear c0 tr mm lines
  go_loopw [15] (fun i wr => ∃ k : Nat, k ≤ x.supers.length ∧ i = .int .i64 k ∧ ∃ pre Bi, J pre Bi wr ∧ TreeInv hp M1 M2 (some ⟨b, off, none⟩) c g (fun b => Bi b ∨ Bo b) wr ∧ allSome (lineOf g) (x.supers.take k) = some pre ∧ (∀ b, Bi b → N ≤ b ∧ b < wr.heap.size) ∧ Chg (fun b => b = M2 ∨ N ≤ b) W0 wr) (fun i _ => x.supers.length - (intOf i).toNat)
  case atStart => exact ⟨0, Nat.zero_le _, rfl, [], Bi0, hJs _ _ _ _ h0 (Chg.drewN _ _), hT.all (drewN_below _ _ _), rfl, hN, Chg.drewN _ _⟩
  case round =>
    clear h0 hT hN
    obtain ⟨k, hk, rfl, pre, Bi, hJ, hT, hpre, hBi, hch⟩ := hrel
    have kp : Keep (fun b => b < N ∧ b ≠ M2) W0 wr := hch.keep fun b hb hh => by rcases hh with hh | hh; exact hb.2 hh; omega
    have htb' := cell_keep htb kp ⟨htn.1, htn.2.2.1⟩
    have hib' := cell_keep hib kp ⟨htn.2.1, htn.2.2.2⟩
    have R3 := R2.keep kp
    have g2' := cell_keep g2 kp (Slc.inG hG (by omega) (by decide)).2
    obtain ⟨lines, tr, mm⟩ := hT.tr
    have c0 := tr.c0
    have c1 := tr.c1
    have HPRE := Lib.hid hpre
    clear hpre
    by_cases hlt : k < x.supers.length
    · have HS := Lib.hid (getElem?_lt hlt)
      obtain ⟨j, hj, hla⟩ := super_at HOK.out HX.out (List.getElem_mem hlt)
      generalize x.supers[k] = s at *
      obtain ⟨b2, o2, rfl⟩ := Slc.addrH R3 (by omega)
      have g3 := (Strs.atH R3 HS.out).now
      have hlk1 : (Instr.lookup 140 (.map (some M1)) (.string s) false).run Tryz.prog wr.drew = .ok (.int .i64 (j : Int)) wr.drew := by
        have := run_at (w := wr.drew) (tr.at_.keep (Keep.drew (fun _ => True) _) trivial) s false
        rw [show lastAt (g.map (·.name)) s = some j from hla] at this
        exact this
      have HLA := Lib.hid hla
      have HL1 := Lib.hid (HL j hj (fun b => Bi b ∨ Bo b) wr.drew (fun b hb => by rcases hb with hb | hb; exact (hBi b hb).2; have := hBo b hb; have := hch.size; show b < wr.heap.size; omega) (hT.all ((Below.refl _ wr).drew)))
      clear hla tr mm lines
      go_wp2
      refine (wpIn_wide (n := 9)).1 ?_
      have HNone : line g j = none → allSome (lineOf g) x.supers = none := fun hh => allSome_take_none HS.out (by unfold lineOf; rw [HLA.out]; exact hh)
      have HSome : ∀ y, line g j = some y → allSome (lineOf g) (x.supers.take (k + 1)) = some (pre ++ [y]) := fun y hh => by
        rw [take_snoc HS.out, allSome_snoc, HPRE.out]
        show (some pre).bind _ = _
        have : lineOf g s = some y := by unfold lineOf; rw [HLA.out]; exact hh
        rw [this]; rfl
      have HN1 := Lib.hid HNone
      have HS1 := Lib.hid HSome
      have HpreL := Lib.hid (allSome_get HPRE.out).1
      have HLL := Lib.hid (fun y hh => line_length HOK.out (i := j) (l := y) hh)
      clear HNone HSome
      gi_region_with (first
        | (refine ⟨trivial, ?_⟩; gi_at_call 169; refine (callsIn_wide.2 HL1.out).mono ?_; rintro e W1 ⟨hch1, (⟨y, A3, c3, q1, rfl, q2, q3, q4⟩ | ⟨q1, ch, rfl, q2⟩)⟩; rotate_left; (exact ⟨rfl, (hch.trans (Chg.drew _)).trans (hch1.mono fun b _ hb => .inl hb), .inr ⟨HN1.out q1, ch, rfl, q2, pre, Bi, hJs _ _ _ _ hJ ((Chg.drew _).trans hch1)⟩⟩); obtain ⟨fn, tm, asg, bd, hy, hR⟩ := hY 8 pre Bi y A3 c3 W1 (hJs _ _ _ _ hJ ((Chg.drew _).trans hch1)) q2 (by have := HLL.out y q1; omega) (by have := HpreL.out; rw [List.length_take] at this; omega) q3)
        | (refine hR.mono ?_; rintro e W2 ⟨rfl, Bi2, hJ2, hch2, hB2⟩))
      all_goals go_wp2
      all_goals
        have s1 := hch.size
        have s2 := hch1.size
        have s3 : wr.drew.heap.size = wr.heap.size := rfl
        refine ⟨⟨k + 1, by omega, by go_num, pre ++ [y], Bi2, hJ2, ?_, HS1.out y q1, fun b hb => ⟨?_, (hB2 b hb).1⟩, ((hch.trans (Chg.drew _)).trans (hch1.mono fun b _ hb => .inl hb)).trans (hch2.mono fun b _ hb => .inr (hBi b hb).1)⟩, by simp [intOf]; omega⟩
        · refine q4.others (hch2.mono fun b _ hb => .inl hb) fun b _ hb => ?_
          rcases hb with hb | hb
          · rcases (hB2 b hb).2 with h | h
            · exact .inl (.inl h)
            · exact .inr h
          · exact .inl (.inr hb)
        · rcases (hB2 b hb).2 with h | h
          · exact (hBi b h).1
          · omega
    · obtain rfl : k = x.supers.length := by omega
      rw [List.take_length] at HPRE
      have HpreL := Lib.hid (allSome_get HPRE.out).1
      have hGR : Held (fun b => ¬ (Bi b ∨ Bo b) ∧ b ≠ M2) (Strs A2 x.supers) wr.drew := by
        obtain ⟨A3, c3, _, R4, _, g5⟩ := Heirs.atH hT.gs HX.out
        rw [g2'] at g5
        simp only [Option.some.injEq, Value.slice.injEq, true_and] at g5
        obtain ⟨rfl, _⟩ := g5
        exact R4.keep (Keep.drew _ _)
      have HCl := Lib.hid (cloneStr_calls A2 c2 x.supers (fun b => ¬ (Bi b ∨ Bo b) ∧ b ≠ M2) wr.drew hGR (by omega))
      have hbl2 : b < wr.heap.size := cell_lt g2'
      have HM2 := Lib.hid tr.ln.lt
      clear tr mm lines
      go_wp2
      refine (wpIn_wide (n := 9)).1 ?_
      gi_region_with (first
        | (refine ⟨trivial, ?_⟩; gi_at_call 119; refine (callsIn_wide.2 HCl.out).mono ?_; rintro e W1 ⟨v, rfl, hown, hb1⟩; obtain ⟨A3, c3, rfl, q2, q3⟩ := hown.out; have q4 : Held (fun b => ¬ (Bi b ∨ Bo b) ∧ b ≠ M2) (Strs A3 x.supers) W1 := (by
          have hs0 : wr.drew.heap.size = wr.heap.size := rfl
          refine q3.mono fun b' hb' hh => ⟨fun q => ?_, fun q => ?_⟩
          · rcases hh with hh | hh
            · exact hh.1 q
            · have h1 : wr.drew.heap.size ≤ b' := (hown.lt b' hh).1
              rcases q with q | q
              · have := (hBi b' q).2; omega
              · have := hBo b' q; have := hch.size; omega
          · rcases hh with hh | hh
            · exact hh.2 q
            · have h1 : wr.drew.heap.size ≤ b' := (hown.lt b' hh).1
              have := HM2.out; omega); obtain ⟨fn, tm, asg, bd, hy, hR⟩ := hY 8 pre Bi x.supers A3 c3 W1 (hJs _ _ _ _ hJ ((Chg.drew _).trans (Chg.of hb1))) q2 (by omega) (by have := HpreL.out; omega) q4)
        | (refine hR.mono ?_; rintro e W2 ⟨rfl, Bi2, hJ2, hch2, hB2⟩))
      all_goals go_wp2
      all_goals
        go_end0
        have s1 := hch.size
        have s2 := hb1.size
        have s3 : wr.drew.heap.size = wr.heap.size := rfl
        have cb1 : ∀ B : Nat → Prop, Chg B wr W1 := fun B => (Chg.drew _).trans (Chg.of hb1)
        refine ⟨(hch.trans (cb1 _)).trans (hch2.mono fun b _ hb => .inr (hBi b hb).1), .inl ⟨pre, Bi2, HPRE.out, ⟨_, rfl⟩, hJ2, ?_⟩⟩
        refine ((hT.all ((Below.refl _ wr).drew)).all hb1).others (hch2.mono fun b _ hb => .inl hb) fun b _ hb => ?_
        rcases hb with hb | hb
        · rcases (hB2 b hb).2 with h | h
          · exact .inl (.inl h)
          · exact .inr h
        · exact .inl (.inr hb)
end Go.Proofs.YtepnmejahbiacaaGreat
