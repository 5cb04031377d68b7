/- Part 16 of the proof: Tg. -/
import Derived.Test.YtepnmejahbiacaaGreatK05
import Derived.Test.YtepnmejahbiacaaGreatK06
import Derived.Test.YtepnmejahbiacaaGreatK07
import Derived.Test.YtepnmejahbiacaaGreatK12
import Derived.Test.YtepnmejahbiacaaGreatK13
import Derived.Test.YtepnmejahbiacaaGreatK14
import Derived.Test.YtepnmejahbiacaaGreatK15
import Derived.Test.YtepnmejahbiacaaGreatK04
import Derived.Test.YtepnmejahbiacaaGreatK09
import Derived.Test.YtepnmejahbiacaaGreatK03
import Derived.Test.YtepnmejahbiacaaGreatK01
import Derived.BigQuiet
import Derived.Carry
import Derived.Deep.Draws
import Derived.Deep.LoopGhost
import Derived.Deep.QuietTactic
import Derived.KernelRfl
import Derived.Lib.Hide
import Derived.LoopIn
import Derived.LoopNIn
import Derived.Maps.AppendAt
import Derived.Maps.Own
import Derived.Maps.OwnIn
import Derived.Outline
import Derived.OwnWalkIn
import Derived.RangeFuncBound
import Derived.RangeFuncCalls
import Derived.RangeFuncLeaves
import Derived.RangeFuncNested
import Derived.Recover
import Derived.StillTailTactics
import Derived.Stop.RegionWithIn
import Derived.TacticsInMore
import Derived.Test.YtepnmejahbiacaaGreatProg
import Derived.WalkKit
import Derived.WalkSpells
set_option linter.unusedVariables false
set_option linter.unusedSimpArgs false
namespace Go.Proofs.YtepnmejahbiacaaGreat
open Go.RowKit
structure Tag where
  kind : Int
  num : Int
  name : ByteArray
  deriving DecidableEq
abbrev tagV (t : Tag) : Value := .agg #[.int .i64 t.kind, .int .i64 t.num, .string t.name]
/-- The place of a class. -/
def clsAt (l : List CI) (s : ByteArray) : Option Nat := lastAt (l.map (·.name)) s
def hasB (l : List CI) (s : ByteArray) : Bool := (clsAt l s).isSome
theorem clsAt_get {l : List CI} {s : ByteArray} {i : Nat} (h : clsAt l s = some i) : ∃ x, l[i]? = some x ∧ x.name = s := by
  have := lastAt_some h
  rw [List.getElem?_map] at this
  obtain ⟨x, hx, e⟩ := Option.map_eq_some_iff.1 this
  exact ⟨x, hx, e⟩
def absAt (l : List CI) (s : ByteArray) : Bool := match clsAt l s with
  | some i => (l[i]?.map CI.abs).getD false
  | none => (l[0]?.map CI.abs).getD false
theorem absAt_eq (l : List CI) (s : ByteArray) : absAt l s = (l[(clsAt l s).getD 0]?.map CI.abs).getD false := by
  unfold absAt; cases clsAt l s <;> rfl
def tagOk (l : List CI) (t : Tag) : Bool :=
  if t.kind = 1 then decide (t.name = ⟨#[]⟩)
  else if t.kind = 2 then decide (t.name = ⟨#[]⟩) && (decide (t.num = 0) || decide (t.num = 1))
  else if t.kind = 3 then decide (t.num = 0) && hasB l t.name
  else if t.kind = 4 then decide (t.num = 0) && decide (t.name = ⟨#[]⟩)
  else if t.kind = 5 then decide (t.num = 0) && hasB l t.name && decide (4 < (clsAt l t.name).getD 0) && !absAt l t.name
  else false
def tagErr (l : List CI) (t : Tag) : Int := if tagOk l t then 0 else 82
theorem HierAt.look {hp M1 : Nat} {A : Option Addr} {c : Nat} {l : List CI} {w : World} (H : HierAt hp M1 A c l l.length w) (s : ByteArray) (ok : Bool) :
    (Instr.lookup 140 (.map (some M1)) (.string s) ok).run Tryz.prog w = .ok (if ok then .tuple #[.int .i64 (((clsAt l s).getD 0 : Nat) : Int), .bool (hasB l s)] else .int .i64 (((clsAt l s).getD 0 : Nat) : Int)) w := by
  have := run_at H.at_ s ok
  rw [List.take_length] at this
  exact this
set_option maxHeartbeats 4000000 in
set_option maxRecDepth 100000 in
theorem Check_calls (A : Option Addr) (c : Nat) (l : List CI) (w : World) (hc : l.length ≤ c) (G : Nat → Prop) (h : Held G (CIs A l) w) (ol : ∀ x ∈ l, ciOk x) (hl : l.length ≤ 1000000) :
    Calls Tryz.prog 44 #[.slice A l.length c] w fun e w' => Below w.heap.size w w' ∧ ((LookOk l ∧ e = .returned (.int .i64 0)) ∨ (¬ LookOk l ∧ e = .returned (.int .i64 80))) := by
  have HL := Lib.hid (look_calls A c l w hc G h ol hl)
  clear h ol
  go_enter Tryz.func44, Tryz.ntmps44
  go_wp2_with (fail)
  refine HL.out.mono ?_
  clear HL
  rintro e w1 ⟨hb, (⟨h1, rfl⟩ | ⟨h1, hp, M1, _, _, rfl, _⟩)⟩
  · have H1 := Lib.hid h1
    clear h1
    go_wp2
    go_ret
    exact ⟨hb, .inr ⟨H1.out, rfl⟩⟩
  · have H1 := Lib.hid h1
    clear h1
    go_wp2
    go_ret
    exact ⟨hb, .inl ⟨H1.out, rfl⟩⟩
set_option maxHeartbeats 4000000 in
set_option maxRecDepth 100000 in
theorem has_calls (hp M1 : Nat) (A : Option Addr) (c : Nat) (l : List CI) (s : ByteArray) (w : World) (H : HierAt hp M1 A c l l.length w) :
    Calls Tryz.prog 114 #[.pointer (some ⟨hp, 0, none⟩), .string s] w fun e w' => e = .returned (.bool (hasB l s)) ∧ w' = w := by
  have hlk := H.look s true
  simp only [if_true] at hlk
  have c0 := H.c0
  have c1 := H.c1
  clear H
  go_enter Tryz.func114, Tryz.ntmps114
  go_wp2
  go_ret
  exact ⟨rfl, rfl⟩
set_option maxHeartbeats 4000000 in
set_option maxRecDepth 100000 in
theorem abstract_calls (hp M1 : Nat) (A : Option Addr) (c : Nat) (l : List CI) (s : ByteArray) (w : World) (H : HierAt hp M1 A c l l.length w) (G : Nat → Prop) (hA : Held G (CIs A l) w) (hl : 0 < l.length) :
    Calls Tryz.prog 122 #[.pointer (some ⟨hp, 0, none⟩), .string s] w fun e w' => e = .returned (.bool (absAt l s)) ∧ Drw w w' := by
  have hlk : ∀ n, (Instr.lookup 140 (.map (some M1)) (.string s) false).run Tryz.prog (w.drewN n) = .ok (.int .i64 (((clsAt l s).getD 0 : Nat) : Int)) (w.drewN n) := fun n => (H.keep (drewN_below _ n _)).look s false
  have c0 := H.c0
  have c1 := H.c1
  have hi : (clsAt l s).getD 0 < l.length := by
    cases hq : clsAt l s with
    | none => exact hl
    | some i => obtain ⟨x, hx, _⟩ := clsAt_get hq; exact (List.getElem?_eq_some_iff.1 hx).1
  have hx : l[(clsAt l s).getD 0]? = some (l[(clsAt l s).getD 0]'hi) := List.getElem?_eq_getElem hi
  have HA : Hid (absAt l s = (l[(clsAt l s).getD 0]'hi).abs) := Lib.hid (by rw [absAt_eq, hx]; rfl)
  obtain ⟨b, off, rfl⟩ := Slc.addrH hA hl
  obtain ⟨A2, c2, A3, c3, p1, p2, p3, p4, g0, g1, g2, g3, g4, g5⟩ := CIs.atH hA hx
  generalize (l[(clsAt l s).getD 0]'hi) = x at *
  generalize (clsAt l s).getD 0 = i at *
  clear H hA hx
  go_enter Tryz.func122, Tryz.ntmps122
  go_wp2
  go_quiet (fail)
  go_wp2
  go_ret
  exact ⟨by rw [HA.out]; rfl, Drw.of _ _⟩
set_option maxHeartbeats 4000000 in
set_option maxRecDepth 100000 in
theorem isTag_calls (hp M1 : Nat) (A : Option Addr) (c : Nat) (l : List CI) (t : Tag) (w : World) (H : HierAt hp M1 A c l l.length w) (G : Nat → Prop) (hA : Held G (CIs A l) w) (hl : 0 < l.length) :
    Calls Tryz.prog 78 #[.pointer (some ⟨hp, 0, none⟩), tagV t] w fun e w' => e = .returned (.bool (tagOk l t)) ∧ Below w.heap.size w w' := by
  obtain ⟨kd, nm, s⟩ := t
  have HH := Lib.hid (fun W (h : Below w.heap.size w W) => has_calls hp M1 A c l s W (H.keep h))
  by_cases k1 : kd = 1
  · subst k1
    clear H hA
    go_enter Tryz.func78, Tryz.ntmps78
    go_wp2
    go_ret
    exact ⟨rfl, (Below.refl _ w).alloc (Nat.le_refl _) _⟩
  have t1 : (kd == 1) = false := beq_eq_false_iff_ne.2 k1
  have HA := Lib.hid (fun W (h : Below w.heap.size w W) => abstract_calls hp M1 A c l s W (H.keep h) G (hA.keep (Keep.all h)) hl)
  by_cases k2 : kd = 2
  · subst k2
    clear H hA
    by_cases n0 : nm = 0
    · subst n0
      go_enter Tryz.func78, Tryz.ntmps78
      go_wp2
      all_goals (go_ret; exact ⟨by simp_all [tagOk], (Below.refl _ w).alloc (Nat.le_refl _) _⟩)
    · have t3 : (nm == 0) = false := beq_eq_false_iff_ne.2 n0
      go_enter Tryz.func78, Tryz.ntmps78
      go_wp2
      all_goals (go_ret; exact ⟨by simp_all [tagOk]; try rfl, (Below.refl _ w).alloc (Nat.le_refl _) _⟩)
  have t2 : (kd == 2) = false := beq_eq_false_iff_ne.2 k2
  by_cases k3 : kd = 3
  · subst k3
    clear H hA
    by_cases n0 : nm = 0
    · subst n0
      go_enter Tryz.func78, Tryz.ntmps78
      go_wp2_with (go_at_call 114; refine (HH.out _ ((Below.refl _ w).alloc (Nat.le_refl _) _)).mono ?_; rintro e w' ⟨rfl, rfl⟩)
      go_ret
      exact ⟨by simp [tagOk], (Below.refl _ w).alloc (Nat.le_refl _) _⟩
    · have t3 : (nm == 0) = false := beq_eq_false_iff_ne.2 n0
      go_enter Tryz.func78, Tryz.ntmps78
      go_wp2
      go_ret
      exact ⟨by simp [tagOk, n0], (Below.refl _ w).alloc (Nat.le_refl _) _⟩
  have t4 : (kd == 3) = false := beq_eq_false_iff_ne.2 k3
  by_cases k4 : kd = 4
  · subst k4
    clear H hA
    by_cases n0 : nm = 0
    · subst n0
      go_enter Tryz.func78, Tryz.ntmps78
      go_wp2
      all_goals (go_ret; exact ⟨by simp_all [tagOk], (Below.refl _ w).alloc (Nat.le_refl _) _⟩)
    · have t3 : (nm == 0) = false := beq_eq_false_iff_ne.2 n0
      go_enter Tryz.func78, Tryz.ntmps78
      go_wp2
      all_goals (go_ret; exact ⟨by simp_all [tagOk], (Below.refl _ w).alloc (Nat.le_refl _) _⟩)
  have t5 : (kd == 4) = false := beq_eq_false_iff_ne.2 k4
  by_cases k5 : kd = 5
  · subst k5
    have hlk : ∀ n, (Instr.lookup 140 (.map (some M1)) (.string s) false).run Tryz.prog ((w.alloc (.cells #[.int .i64 5, .int .i64 nm, .string s] 39)).drewN n) = .ok (.int .i64 (((clsAt l s).getD 0 : Nat) : Int)) ((w.alloc (.cells #[.int .i64 5, .int .i64 nm, .string s] 39)).drewN n) := fun n => (H.keep (((Below.refl _ w).alloc (Nat.le_refl _) _).trans (drewN_below _ n _))).look s false
    have c0 := H.c0
    have c1 := H.c1
    have hhp := cell_lt c0
    have HH2 := Lib.hid (fun n => HH.out ((w.alloc (.cells #[.int .i64 5, .int .i64 nm, .string s] 39)).drewN n) (((Below.refl _ w).alloc (Nat.le_refl _) _).trans (drewN_below _ n _)))
    have HA2 := Lib.hid (fun n => HA.out ((w.alloc (.cells #[.int .i64 5, .int .i64 nm, .string s] 39)).drewN n) (((Below.refl _ w).alloc (Nat.le_refl _) _).trans (drewN_below _ n _)))
    clear HH HA H hA
    by_cases n0 : nm = 0
    · subst n0
      cases hb : hasB l s with
      | false =>
        have HB := Lib.hid hb
        rw [hb] at HH2
        clear hb
        go_enter Tryz.func78, Tryz.ntmps78
        go_wp2
        go_quiet ((go_at_call 114; exact (HH2.out _).mono fun _ _ ⟨a, b⟩ => ⟨a, _, b⟩))
        go_wp2
        go_ret
        exact ⟨by simp [tagOk, HB.out], ((Below.refl _ w).alloc (Nat.le_refl _) _).trans (drewN_below _ _ _)⟩
      | true =>
        have HB := Lib.hid hb
        rw [hb] at HH2
        clear hb
        obtain ⟨i, hi⟩ : ∃ i, i = (clsAt l s).getD 0 := ⟨_, rfl⟩
        rw [← hi] at hlk
        have HI := Lib.hid hi
        clear hi
        by_cases q : 4 < i
        · have t7 : decide ((4 : Int) < (i : Int)) = true := decide_eq_true (by omega)
          cases ha : absAt l s with
          | false =>
            have HAB := Lib.hid ha
            rw [ha] at HA2
            clear ha
            go_enter Tryz.func78, Tryz.ntmps78
            go_wp2
            go_quiet ((first | (go_at_call 114; exact (HH2.out _).mono fun _ _ ⟨a, b⟩ => ⟨a, _, b⟩) | (go_at_call 122; exact (HA2.out _).mono fun _ _ ⟨a, b⟩ => ⟨a, by obtain ⟨n, rfl⟩ := b; exact ⟨_, World.drewN_drewN _ _ _⟩⟩)))
            go_wp2
            go_ret
            exact ⟨by simp [tagOk, HB.out, HAB.out, ← HI.out, q], ((Below.refl _ w).alloc (Nat.le_refl _) _).trans (drewN_below _ _ _)⟩
          | true =>
            have HAB := Lib.hid ha
            rw [ha] at HA2
            clear ha
            go_enter Tryz.func78, Tryz.ntmps78
            go_wp2
            go_quiet ((first | (go_at_call 114; exact (HH2.out _).mono fun _ _ ⟨a, b⟩ => ⟨a, _, b⟩) | (go_at_call 122; exact (HA2.out _).mono fun _ _ ⟨a, b⟩ => ⟨a, by obtain ⟨n, rfl⟩ := b; exact ⟨_, World.drewN_drewN _ _ _⟩⟩)))
            go_wp2
            go_ret
            exact ⟨by simp [tagOk, HB.out, HAB.out, ← HI.out, q], ((Below.refl _ w).alloc (Nat.le_refl _) _).trans (drewN_below _ _ _)⟩
        · have t7 : decide ((4 : Int) < (i : Int)) = false := decide_eq_false (by omega)
          go_enter Tryz.func78, Tryz.ntmps78
          go_wp2
          go_quiet ((go_at_call 114; exact (HH2.out _).mono fun _ _ ⟨a, b⟩ => ⟨a, _, b⟩))
          go_wp2
          go_ret
          exact ⟨by simp [tagOk, HB.out, ← HI.out, q], ((Below.refl _ w).alloc (Nat.le_refl _) _).trans (drewN_below _ _ _)⟩
    · have t3 : (nm == 0) = false := beq_eq_false_iff_ne.2 n0
      go_enter Tryz.func78, Tryz.ntmps78
      go_wp2
      go_quiet (fail)
      go_wp2
      go_ret
      exact ⟨by simp [tagOk, n0], ((Below.refl _ w).alloc (Nat.le_refl _) _).trans (drewN_below _ _ _)⟩
  have t6 : (kd == 5) = false := beq_eq_false_iff_ne.2 k5
  clear H hA
  go_enter Tryz.func78, Tryz.ntmps78
  go_wp2
  go_ret
  exact ⟨by simp [tagOk, k1, k2, k3, k4, k5], (Below.refl _ w).alloc (Nat.le_refl _) _⟩
set_option maxHeartbeats 4000000 in
set_option maxRecDepth 100000 in
theorem CheckTag_calls (A : Option Addr) (c : Nat) (l : List CI) (t : Tag) (w : World) (hc : l.length ≤ c) (G : Nat → Prop) (h : Held G (CIs A l) w) (ol : ∀ x ∈ l, ciOk x) (hl : l.length ≤ 1000000) :
    Calls Tryz.prog 46 #[.slice A l.length c, tagV t] w fun e w' => Below w.heap.size w w' ∧ ((¬ LookOk l ∧ e = .returned (.int .i64 80)) ∨ (LookOk l ∧ e = .returned (.int .i64 (tagErr l t)))) := by
  have HL := Lib.hid (fun W (hb : Below w.heap.size w W) => look_calls A c l W hc G (h.keep (Keep.all hb)) ol hl)
  obtain ⟨kd, nm, s⟩ := t
  have bt : Below w.heap.size w (w.alloc (.cells #[.int .i64 kd, .int .i64 nm, .string s] 39)) := (Below.refl _ w).alloc (Nat.le_refl _) _
  go_enter Tryz.func46, Tryz.ntmps46
  go_wp2_with (fail)
  have b0 : (w.alloc (.cells #[.int .i64 kd, .int .i64 nm, .string s] 39)).cell? ⟨w.heap.size, 0, none⟩ = some (.int .i64 kd) := cell_new w _ _ _ rfl 0 _ rfl
  have b1 : (w.alloc (.cells #[.int .i64 kd, .int .i64 nm, .string s] 39)).cell? ⟨w.heap.size, 1, none⟩ = some (.int .i64 nm) := cell_new w _ _ _ rfl 1 _ rfl
  have b2 : (w.alloc (.cells #[.int .i64 kd, .int .i64 nm, .string s] 39)).cell? ⟨w.heap.size, 2, none⟩ = some (.string s) := cell_new w _ _ _ rfl 2 _ rfl
  refine (HL.out _ bt).mono ?_
  clear HL
  rintro e w1 ⟨hb, (⟨h1, rfl⟩ | ⟨h1, hp, M1, _, _, rfl, H⟩)⟩
  · have H1 := Lib.hid h1
    clear h1
    have hb' := bt.trans (hb.mono bt.size)
    go_wp2
    go_ret
    exact ⟨hb', .inl ⟨H1.out, rfl⟩⟩
  · have hb' := bt.trans (hb.mono bt.size)
    have d0 := cell_all b0 hb
    have d1 := cell_all b1 hb
    have d2 := cell_all b2 hb
    have HT := Lib.hid (isTag_calls hp M1 A c l ⟨kd, nm, s⟩ w1 H G (h.keep (Keep.all hb')) (by have := h1.2.1; omega))
    have H1 := Lib.hid h1
    clear h1 H h
    go_wp2_with (fail)
    refine HT.out.mono ?_
    clear HT
    rintro e w2 ⟨rfl, hb2⟩
    have hb3 := hb'.trans (hb2.mono hb'.size)
    cases hq : tagOk l ⟨kd, nm, s⟩ with
    | false =>
      have HQ := Lib.hid hq
      clear hq
      go_wp2
      go_ret
      exact ⟨hb3, .inr ⟨H1.out, by unfold tagErr; rw [HQ.out]; rfl⟩⟩
    | true =>
      have HQ := Lib.hid hq
      clear hq
      go_wp2
      go_ret
      exact ⟨hb3, .inr ⟨H1.out, by unfold tagErr; rw [HQ.out]; rfl⟩⟩
end Go.Proofs.YtepnmejahbiacaaGreat
