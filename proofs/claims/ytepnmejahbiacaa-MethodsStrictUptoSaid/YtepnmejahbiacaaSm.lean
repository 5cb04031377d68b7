/- types.same, and slices.EqualFunc over it; look's last test. -/
import Derived.Test.YtepnmejahbiacaaSf
import Derived.Test.YtepnmejahbiacaaSl
set_option linter.unusedVariables false
set_option linter.unusedSimpArgs false
namespace Go.Proofs.Ytepnmejahbiacaa
open Go.RowKit
theorem retB' {x y : Bool} (h : y = x) : Ending.returned (.bool x) = .returned (.bool y) := by rw [h]

set_option maxHeartbeats 2000000 in
set_option maxRecDepth 100000 in
theorem same_calls (x y : CI) (A2 A3 B2 B3 : Option Addr) (c2 c3 d2 d3 : Nat) (w : World) (hA2 : Strs A2 x.supers w) (hA3 : Strs A3 x.cpl w) (hB2 : Strs B2 y.supers w) (hB3 : Strs B3 y.cpl w)
    (l2 : x.supers.length ≤ 9223372036854775807) (l3 : x.cpl.length ≤ 9223372036854775807) (m2 : y.supers.length ≤ 9223372036854775807) (m3 : y.cpl.length ≤ 9223372036854775807) :
    Calls Try.prog 52 #[.agg #[.string x.name, .string x.lib, .slice A2 x.supers.length c2, .slice A3 x.cpl.length c3, .bool x.abs, .bool x.seal_], .agg #[.string y.name, .string y.lib, .slice B2 y.supers.length d2, .slice B3 y.cpl.length d3, .bool y.abs, .bool y.seal_]] w
      fun e w' => e = .returned (.bool (decide (x = y))) ∧ Below w.heap.size w w' := by
  have k2 := fun W (h : Below w.heap.size w W) => slEqual_calls A2 B2 c2 d2 x.supers y.supers W (Slc.stable strR_stable hA2 W (Keep.all h)) (Slc.stable strR_stable hB2 W (Keep.all h)) l2 m2
  have k3 := fun W (h : Below w.heap.size w W) => slEqual_calls A3 B3 c3 d3 x.cpl y.cpl W (Slc.stable strR_stable hA3 W (Keep.all h)) (Slc.stable strR_stable hB3 W (Keep.all h)) l3 m3
  clear hA2 hA3 hB2 hB3 l2 l3 m2 m3
  obtain ⟨xn, xl, xs, xc, xa, xe⟩ := x
  obtain ⟨yn, yl, ys, yc, ya, ye⟩ := y
  simp only [CI.mk.injEq] at *
  have hB : ∀ o1 o2 : Obj, Below w.heap.size w ((w.alloc o1).alloc o2) := fun o1 o2 => ((Below.refl _ w).alloc (Nat.le_refl _) _).alloc (by simp) _
  have HK := Lib.hid k2
  have HK3 := Lib.hid k3
  clear k2 k3
  by_cases h1 : xn = yn
  · by_cases h2 : xl = yl
    · by_cases h3 : xs = ys
      · by_cases h4 : xc = yc
        · subst h1 h2 h3 h4
          go_enter Try.func52, Try.ntmps52
          go_wp2_with (fail)
          refine (HK.out _ ?hb).mono ?_
          case hb => exact hB _ _
          rintro e w' ⟨rfl, n, rfl⟩
          go_wp2_with (fail)
          refine (HK3.out _ ?hb).mono ?_
          case hb => exact (hB _ _).trans (drewN_below _ _ _)
          rintro e w' ⟨rfl, n', rfl⟩
          cases xa <;> cases ya <;> cases xe <;> cases ye <;> (go_wp2; go_ret; exact ⟨retB (by simp), (hB _ _).trans (by first | exact drewN_below _ _ _ | exact (drewN_below _ _ _).trans (drewN_below _ _ _))⟩)
        · subst h1 h2 h3
          go_enter Try.func52, Try.ntmps52
          go_wp2_with (fail)
          refine (HK.out _ ?hb).mono ?_
          case hb => exact hB _ _
          rintro e w' ⟨rfl, n, rfl⟩
          go_wp2_with (fail)
          refine (HK3.out _ ?hb).mono ?_
          case hb => exact (hB _ _).trans (drewN_below _ _ _)
          rintro e w' ⟨rfl, n', rfl⟩
          go_wp2
          go_ret
          exact ⟨retB (by simp [h4]), (hB _ _).trans (by first | exact drewN_below _ _ _ | exact (drewN_below _ _ _).trans (drewN_below _ _ _))⟩
      · subst h1 h2
        go_enter Try.func52, Try.ntmps52
        go_wp2_with (fail)
        refine (HK.out _ ?hb).mono ?_
        case hb => exact hB _ _
        rintro e w' ⟨rfl, n, rfl⟩
        go_wp2
        go_ret
        exact ⟨retB (by simp [h3]), (hB _ _).trans (drewN_below _ _ _)⟩
    · subst h1
      go_enter Try.func52, Try.ntmps52
      go_wp2
      go_ret
      exact ⟨retB (by simp [h2]), hB _ _⟩
  · go_enter Try.func52, Try.ntmps52
    go_wp2
    go_ret
    exact ⟨retB (by simp [h1]), hB _ _⟩

/-- A list of classes in memory, with all that it names; no list longer than Go's int. -/
def ciOk (x : CI) : Prop := x.supers.length ≤ 9223372036854775807 ∧ x.cpl.length ≤ 9223372036854775807
theorem take_ne {α : Type} {l m : List α} {k : Nat} {x y : α} (hx : l[k]? = some x) (hy : m[k]? = some y) (h : x ≠ y) : l ≠ m := fun e => by subst e; rw [hx] at hy; exact h (Option.some.inj hy)

set_option maxHeartbeats 2000000 in
set_option maxRecDepth 100000 in
theorem equalSame_calls (A B : Option Addr) (c d : Nat) (l m : List CI) (w : World) (hA : CIs A l w) (hB : CIs B m w) (hl : l.length ≤ 9223372036854775807) (hm : m.length ≤ 9223372036854775807) (ol : ∀ x ∈ l, ciOk x) (om : ∀ x ∈ m, ciOk x) :
    Calls Try.prog 51 #[.slice A l.length c, .slice B m.length d, .func (.func 52) #[] #[]] w
      fun e w' => e = .returned (.bool (decide (l = m))) ∧ Below w.heap.size w w' := by
  have GA := (Slc.stable ciR_stable hA).here
  have GB := (Slc.stable ciR_stable hB).here
  by_cases hlen : l.length = m.length
  · have t1 : ((l.length : Int) == (m.length : Int)) = true := beq_iff_eq.2 (by omega)
    have t2 : ((l.length : Int) != (m.length : Int)) = false := bne_eq_false_iff_eq.2 (by omega)
    have HL := Lib.hid hlen
    clear hlen
    go_enter Try.func51, Try.ntmps51
    go_wp2
    go_loopw [17] (fun i wr => ∃ k : Nat, k ≤ l.length ∧ i = .int .i64 k ∧ l.take k = m.take k ∧ Below w.heap.size w wr) (fun i _ => l.length - (intOf i).toNat)
    case atStart => exact ⟨0, Nat.zero_le _, rfl, by simp, Below.refl _ _⟩
    case round =>
      obtain ⟨k, hk, rfl, heq, hb⟩ := hrel
      have HE := Lib.hid heq
      clear heq
      by_cases hlt : k < l.length
      · have hm' : k < m.length := by have := HL.out; omega
        obtain ⟨b, off, rfl⟩ := hA.addr (by omega)
        obtain ⟨b', off', rfl⟩ := hB.addr (by omega)
        have HX := Lib.hid (getElem?_lt hlt)
        have HY := Lib.hid (getElem?_lt hm')
        have ox := ol _ (List.getElem_mem hlt)
        have oy := om _ (List.getElem_mem hm')
        generalize l[k] = x at *
        generalize m[k] = y at *
        have OX := Lib.hid ox
        have OY := Lib.hid oy
        clear ox oy ol om
        obtain ⟨A2, c2, A3, c3, s2, s3, S2, S3, g0, g1, g2, g3, g4, g5⟩ := CIs.atH (GA.below hb) HX.out
        obtain ⟨B2, d2, B3, d3, r2, r3, R2, R3, h0, h1, h2, h3, h4, h5⟩ := CIs.atH (GB.below hb) HY.out
        have hbl := cell_lt g0
        have hbl' := cell_lt h0
        have k1 := fun W (h : Below wr.heap.size wr W) => same_calls x y A2 A3 B2 B3 c2 c3 d2 d3 W (S2.all h).now (S3.all h).now (R2.all h).now (R3.all h).now OX.out.1 OX.out.2 OY.out.1 OY.out.2
        have HK := Lib.hid k1
        clear k1 S2 S3 R2 R3
        go_wp2_with (fail)
        refine (HK.out _ ?hb).mono ?_
        case hb => exact ((Below.refl _ wr).alloc (Nat.le_refl _) _).alloc (by simp) _
        rintro e w' ⟨rfl, hb'⟩
        have hb2 : Below w.heap.size w w' := hb.trans ((((Below.refl _ wr).alloc (Nat.le_refl _) _).alloc (by simp) _).mono hb.size |>.trans (hb'.mono (by have := hb.size; simp; omega)))
        clear hb'
        by_cases hx : x = y
        · have HX' := Lib.hid hx
          clear hx
          have t3 : decide (x = y) = true := decide_eq_true HX'.out
          go_wp2
          go_roundw
          case rel => exact ⟨k + 1, by omega, by go_num, by rw [take_snoc HX.out, take_snoc HY.out, HE.out, HX'.out], hb2⟩
          case measure => simp [intOf]; omega
        · have hne := Lib.hid (take_ne HX.out HY.out hx)
          go_wp2
          go_ret
          exact ⟨retB (decide_eq_false hne.out).symm, hb2⟩
      · obtain rfl : k = l.length := by omega
        have : l = m := by have h := HE.out; rw [List.take_length] at h; rw [h]; exact List.take_of_length_le (by rw [HL.out]; exact Nat.le_refl _)
        have HM := Lib.hid this
        clear this
        go_wp2
        go_ret
        exact ⟨retB (decide_eq_true HM.out).symm, hb⟩
  · have t1 : ((l.length : Int) == (m.length : Int)) = false := beq_eq_false_iff_ne.2 (by omega)
    have t2 : ((l.length : Int) != (m.length : Int)) = true := by rw [bne_iff_ne]; omega
    have HL : Hid (l ≠ m) := Lib.hid (fun e => hlen (by rw [e]))
    clear hlen
    go_enter Try.func51, Try.ntmps51
    go_wp2
    go_ret
    exact ⟨retB (decide_eq_false HL.out).symm, Below.refl _ _⟩

set_option maxHeartbeats 2000000 in
set_option maxRecDepth 100000 in
theorem cplIs_calls (x : CI) (y : List ByteArray) (A2 A3 B : Option Addr) (c2 c3 d : Nat) (w : World) (hA3 : Strs A3 x.cpl w) (hB : Strs B y w) (l3 : x.cpl.length ≤ 9223372036854775807) (m3 : y.length ≤ 9223372036854775807) :
    Calls Try.prog 57 #[.agg #[.string x.name, .string x.lib, .slice A2 x.supers.length c2, .slice A3 x.cpl.length c3, .bool x.abs, .bool x.seal_], .slice B y.length d] w
      fun e w' => e = .returned (.bool (decide (x.cpl = y))) ∧ Below w.heap.size w w' := by
  have k3 := fun W (h : Below w.heap.size w W) => slEqual_calls A3 B c3 d x.cpl y W (Slc.stable strR_stable hA3 W (Keep.all h)) (Slc.stable strR_stable hB W (Keep.all h)) l3 m3
  have HK := Lib.hid k3
  clear k3 hA3 hB
  have hB : ∀ o1 : Obj, Below w.heap.size w (w.alloc o1) := fun o1 => (Below.refl _ w).alloc (Nat.le_refl _) _
  go_enter Try.func57, Try.ntmps57
  go_wp2_with (fail)
  refine (HK.out _ ?hb).mono ?_
  case hb => exact hB _
  rintro e w' ⟨rfl, n, rfl⟩
  go_wp2
  go_ret
  exact ⟨rfl, (hB _).trans (drewN_below _ _ _)⟩

set_option maxHeartbeats 2000000 in
set_option maxRecDepth 100000 in
theorem equalCpl_calls (A B : Option Addr) (c d : Nat) (l : List CI) (m : List (List ByteArray)) (w : World) (hA : CIs A l w) (hB : Lsts B m w) (hl : l.length ≤ 9223372036854775807) (hm : m.length ≤ 9223372036854775807) (ol : ∀ x ∈ l, ciOk x) (om : ∀ x ∈ m, x.length ≤ 9223372036854775807) :
    Calls Try.prog 56 #[.slice A l.length c, .slice B m.length d, .func (.func 57) #[] #[]] w
      fun e w' => e = .returned (.bool (decide (l.map CI.cpl = m))) ∧ Below w.heap.size w w' := by
  have GA := (Slc.stable ciR_stable hA).here
  have GB := (Slc.stable lstR_stable hB).here
  by_cases hlen : l.length = m.length
  · have t1 : ((l.length : Int) == (m.length : Int)) = true := beq_iff_eq.2 (by omega)
    have t2 : ((l.length : Int) != (m.length : Int)) = false := bne_eq_false_iff_eq.2 (by omega)
    have HL := Lib.hid hlen
    clear hlen
    go_enter Try.func56, Try.ntmps56
    go_wp2
    go_loopw [17] (fun i wr => ∃ k : Nat, k ≤ l.length ∧ i = .int .i64 k ∧ (l.take k).map CI.cpl = m.take k ∧ Below w.heap.size w wr) (fun i _ => l.length - (intOf i).toNat)
    case atStart => exact ⟨0, Nat.zero_le _, rfl, by simp, Below.refl _ _⟩
    case round =>
      obtain ⟨k, hk, rfl, heq, hb⟩ := hrel
      have HE := Lib.hid heq
      clear heq
      by_cases hlt : k < l.length
      · have hm' : k < m.length := by have := HL.out; omega
        obtain ⟨b, off, rfl⟩ := hA.addr (by omega)
        obtain ⟨b', off', rfl⟩ := hB.addr (by omega)
        have HX := Lib.hid (getElem?_lt hlt)
        have HY := Lib.hid (getElem?_lt hm')
        have ox := ol _ (List.getElem_mem hlt)
        have oy := om _ (List.getElem_mem hm')
        generalize l[k] = x at *
        generalize m[k] = y at *
        have OX := Lib.hid ox
        have OY := Lib.hid oy
        clear ox oy ol om
        obtain ⟨A2, c2, A3, c3, s2, s3, S2, S3, g0, g1, g2, g3, g4, g5⟩ := CIs.atH (GA.below hb) HX.out
        obtain ⟨B2, d2, r2, R2, h0⟩ := Lsts.atH (GB.below hb) HY.out
        have hbl := cell_lt g0
        have hbl' := cell_lt h0
        have k1 := fun W (h : Below wr.heap.size wr W) => cplIs_calls x y A2 A3 B2 c2 c3 d2 W (S3.all h).now (R2.all h).now OX.out.2 OY.out
        have HK := Lib.hid k1
        clear k1 S2 S3 R2
        go_wp2_with (fail)
        refine (HK.out _ ?hb).mono ?_
        case hb => exact (Below.refl _ wr).alloc (Nat.le_refl _) _
        rintro e w' ⟨rfl, hb'⟩
        have hb2 : Below w.heap.size w w' := hb.trans (((Below.refl _ wr).alloc (Nat.le_refl _) _).mono hb.size |>.trans (hb'.mono (by have := hb.size; simp; omega)))
        clear hb'
        by_cases hx : x.cpl = y
        · have HX' := Lib.hid hx
          clear hx
          have t3 : decide (x.cpl = y) = true := decide_eq_true HX'.out
          go_wp2
          go_roundw
          case rel => exact ⟨k + 1, by omega, by go_num, by rw [take_snoc HX.out, take_snoc HY.out, List.map_append, HE.out, ← HX'.out]; rfl, hb2⟩
          case measure => simp [intOf]; omega
        · have hne := Lib.hid (take_ne (l := l.map CI.cpl) (by rw [List.getElem?_map, HX.out]; rfl) HY.out hx)
          go_wp2
          go_ret
          exact ⟨retB (decide_eq_false hne.out).symm, hb2⟩
      · obtain rfl : k = l.length := by omega
        have : l.map CI.cpl = m := by have h := HE.out; rw [List.take_length] at h; rw [h]; exact List.take_of_length_le (by rw [HL.out]; exact Nat.le_refl _)
        have HM := Lib.hid this
        clear this
        go_wp2
        go_ret
        exact ⟨retB (decide_eq_true HM.out).symm, hb⟩
  · have t1 : ((l.length : Int) == (m.length : Int)) = false := beq_eq_false_iff_ne.2 (by omega)
    have t2 : ((l.length : Int) != (m.length : Int)) = true := by rw [bne_iff_ne]; omega
    have HL : Hid (l.map CI.cpl ≠ m) := Lib.hid (fun e => hlen (by rw [← e]; simp))
    clear hlen
    go_enter Try.func56, Try.ntmps56
    go_wp2
    go_ret
    exact ⟨retB (decide_eq_false HL.out).symm, Below.refl _ _⟩
end Go.Proofs.Ytepnmejahbiacaa
