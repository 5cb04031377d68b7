/- Part 27 of the proof: Qa, Qb. -/
import Derived.Test.YtepnmejahbiacaaGreatK22
import Derived.Test.YtepnmejahbiacaaGreatK19
import Derived.Test.YtepnmejahbiacaaGreatK05
import Derived.Test.YtepnmejahbiacaaGreatK06
import Derived.Test.YtepnmejahbiacaaGreatK07
import Derived.Test.YtepnmejahbiacaaGreatK12
import Derived.Test.YtepnmejahbiacaaGreatK13
import Derived.Test.YtepnmejahbiacaaGreatK14
import Derived.Test.YtepnmejahbiacaaGreatK15
import Derived.Test.YtepnmejahbiacaaGreatK18
import Derived.Test.YtepnmejahbiacaaGreatK24
import Derived.Test.YtepnmejahbiacaaGreatK21
import Derived.Test.YtepnmejahbiacaaGreatK08
import Derived.Test.YtepnmejahbiacaaGreatK17
import Derived.Test.YtepnmejahbiacaaGreatK25
import Derived.Test.YtepnmejahbiacaaGreatK04
import Derived.Test.YtepnmejahbiacaaGreatK10
import Derived.Test.YtepnmejahbiacaaGreatK11
import Derived.Test.YtepnmejahbiacaaGreatK23
import Derived.Test.YtepnmejahbiacaaGreatK09
import Derived.Test.YtepnmejahbiacaaGreatK03
import Derived.Test.YtepnmejahbiacaaGreatK16
import Derived.Test.YtepnmejahbiacaaGreatK02
import Derived.Test.YtepnmejahbiacaaGreatK01
import Derived.Test.YtepnmejahbiacaaGreatK20
import Derived.BigQuiet
import Derived.Carry
import Derived.Deep.AppendLies
import Derived.Deep.Draws
import Derived.Deep.LoopGhost
import Derived.Deep.QuietTactic
import Derived.Deep.RegionHeld3
import Derived.Deep.RegionLaw
import Derived.Deep.RegionWith
import Derived.KernelRfl
import Derived.Laws.EntriesVeiled
import Derived.Lib.Hide
import Derived.Lib.SliceRun
import Derived.LoopIn
import Derived.LoopNIn
import Derived.Maps.AppendAt
import Derived.Maps.Own
import Derived.Maps.OwnIn
import Derived.Outline
import Derived.OwnWalkIn
import Derived.RangeFuncBound
import Derived.RangeFuncCalls
import Derived.RangeFuncLeaves
import Derived.RangeFuncNested
import Derived.Recover
import Derived.StillTailTactics
import Derived.Stop.RegionWithIn
import Derived.TacticsInMore
import Derived.Test.YtepnmejahbiacaaGreatProg
import Derived.WalkKit
import Derived.WalkSpells
import Derived.Deep.DrawnRows
import Derived.Test.YtepnmejahbiacaaGreatK26
set_option linter.unusedVariables false
set_option linter.unusedSimpArgs false
namespace Go.Proofs.YtepnmejahbiacaaGreat
open Go.RowKit
attribute [local go_sem ↓] Go.wp_at_zero Go.wp_at_succ
set_option maxHeartbeats 4000000 in
set_option maxRecDepth 100000 in
theorem same7_calls (A B : Option Addr) (c d : Nat) (l m : List ByteArray) (w : World) (hA : Strs A l w) (hB : Strs B m w) (hl : l.length ≤ 9223372036854775807) (hm : m.length ≤ 9223372036854775807) :
    Calls Tryz.prog 128 #[.slice A l.length c, .slice B m.length d] w fun e w' => e = .returned (.bool (decide (l = m))) ∧ Drw w w' := by
  by_cases hlen : l.length = m.length
  · have t2 : ((l.length : Int) != (m.length : Int)) = false := bne_eq_false_iff_eq.2 (by omega)
    have HL := Lib.hid hlen
    clear hlen
    go_enter Tryz.func128, Tryz.ntmps128
    go_wp2
    go_loopw [5] (fun i wr => ∃ k : Nat, k ≤ l.length ∧ i = .int .i64 k ∧ l.take k = m.take k ∧ Drw w wr) (fun i _ => l.length - (intOf i).toNat)
    case atStart => exact ⟨0, Nat.zero_le _, rfl, by simp, Drw.refl _⟩
    case round =>
      obtain ⟨k, hk, rfl, heq, hd⟩ := hrel
      obtain ⟨n, rfl⟩ := hd
      have HE := Lib.hid heq
      clear heq
      by_cases hlt : k < l.length
      · have hm' : k < m.length := by have := HL.out; omega
        obtain ⟨b, off, rfl⟩ := hA.addr (by omega)
        obtain ⟨b', off', rfl⟩ := hB.addr (by omega)
        have h1 := Strs.at hA (getElem?_lt hlt)
        have h2 := Strs.at hB (getElem?_lt hm')
        by_cases hx : l[k] = m[k]
        · have HX := Lib.hid hx
          rw [hx] at h1
          clear hx
          have HY := Lib.hid (getElem?_lt hm')
          generalize m[k] = y at *
          go_wp2
          go_quiet (fail)
          go_wp2
          go_roundw
          case rel =>
            refine ⟨k + 1, by omega, by go_num, ?_, Drw.of _ _⟩
            rw [List.take_add_one, List.take_add_one, HE.out, getElem?_lt hlt, HY.out, HX.out]
          case measure => simp [intOf]; omega
        · have hne : l ≠ m := by
            intro e; subst e; exact hx rfl
          have HX := Lib.hid hne
          clear hne
          generalize l[k] = x at *
          generalize m[k] = y at *
          go_wp2
          go_quiet (fail)
          go_wp2
          go_ret
          exact ⟨retB (decide_eq_false HX.out).symm, (Drw.of _ _).drewN _⟩
      · obtain rfl : k = l.length := by omega
        have : l = m := by have h := HE.out; rw [List.take_length] at h; rw [h]; exact List.take_of_length_le (by rw [HL.out]; exact Nat.le_refl _)
        have HM := Lib.hid this
        clear this
        go_wp2
        go_ret
        exact ⟨retB (decide_eq_true HM.out).symm, ⟨n, rfl⟩⟩
  · have t2 : ((l.length : Int) != (m.length : Int)) = true := by rw [bne_iff_ne]; omega
    have HL : Hid (l ≠ m) := Lib.hid (fun e => hlen (by rw [e]))
    clear hlen
    go_enter Tryz.func128, Tryz.ntmps128
    go_wp2
    go_ret
    exact ⟨retB (decide_eq_false HL.out).symm, Drw.refl _⟩
theorem idx_at {l : List ByteArray} {x : ByteArray} {k : Nat} (hx : l[k]? = some x) (hno : x ∉ l.take k) : idx l x = k := by
  unfold idx
  have : l.findIdx? (fun z => decide (z = x)) = some k := by
    rw [List.findIdx?_eq_some_iff_getElem]
    obtain ⟨h0, e0⟩ := List.getElem?_eq_some_iff.1 hx
    refine ⟨h0, by simp [e0], fun j hj => ?_⟩
    simp only [decide_eq_true_eq]
    intro e
    exact hno (List.mem_iff_getElem?.2 ⟨j, by rw [List.getElem?_take, if_pos hj, List.getElem?_eq_getElem (by omega), e]⟩)
  rw [this]
set_option maxHeartbeats 4000000 in
set_option maxRecDepth 100000 in
theorem at8_calls (A : Option Addr) (c : Nat) (l : List CI) (s : ByteArray) (W : World) (G : Nat → Prop) (h : Held G (CIs A l) W) (hl : l.length ≤ 1000000) :
    Calls Tryz.prog 82 #[.slice A l.length c, .string s] W fun e W' => e = .returned (.int .i64 (idx (l.map (·.name)) s)) ∧ W = W' := by
  have H := Lib.hid h
  clear h
  go_enter Tryz.func82, Tryz.ntmps82
  go_wp2_with (fail)
  go_loopw [5] (fun i wr => ∃ k : Nat, k ≤ l.length ∧ i = .int .i64 k ∧ s ∉ (l.map (·.name)).take k ∧ W = wr) (fun i _ => l.length - (intOf i).toNat)
  case atStart => exact ⟨0, Nat.zero_le _, rfl, by simp, rfl⟩
  case round =>
    obtain ⟨k, hk, rfl, hno, rfl⟩ := hrel
    have HNO := Lib.hid hno
    clear hno
    by_cases hlt : k < l.length
    · obtain ⟨b, off, rfl⟩ := Slc.addrH H.out (by omega)
      have hy : l[k]? = some l[k] := List.getElem?_eq_getElem hlt
      generalize l[k] = y at hy
      have HY : Hid ((l.map (·.name))[k]? = some y.name) := Lib.hid (by rw [List.getElem?_map, hy]; rfl)
      obtain ⟨A2, c2, A3, c3, _, _, _, _, g0, _, _, _, _, _⟩ := CIs.atH H.out hy
      clear hy
      by_cases hyx : y.name = s
      · have HB : Hid (idx (l.map (·.name)) s = k) := Lib.hid (idx_at (by rw [HY.out, hyx]) HNO.out)
        subst hyx
        go_wp2
        go_ret
        exact ⟨(by rw [HB.out]; try rfl), rfl⟩
      · have HN : Hid (s ∉ (l.map (·.name)).take (k + 1)) := Lib.hid (by
          rw [take_snoc HY.out]
          intro hm
          rcases List.mem_append.1 hm with q | q
          · exact HNO.out q
          · exact hyx (List.mem_singleton.1 q).symm)
        go_wp2
        exact ⟨⟨k + 1, by omega, by go_num, HN.out, trivial⟩, by simp [intOf]; omega⟩
    · obtain rfl : k = l.length := by omega
      have HB : Hid (idx (l.map (·.name)) s = -1) := Lib.hid (idx_neg (by have := HNO.out; rwa [List.take_of_length_le (by simp)] at this))
      go_wp2
      go_ret
      exact ⟨(by rw [HB.out]; try rfl), rfl⟩
set_option maxHeartbeats 4000000 in
set_option maxRecDepth 100000 in
theorem heir7_calls (A : Option Addr) (c : Nat) (l : List Heir) (s : ByteArray) (W : World) (G : Nat → Prop) (h : Held G (Heirs A l) W) (hl : l.length ≤ 1000000) :
    Calls Tryz.prog 205 #[.slice A l.length c, .string s] W fun e W' => e = .returned (.int .i64 (idx (names l) s)) ∧ W = W' := by
  have H := Lib.hid h
  clear h
  go_enter Tryz.func205, Tryz.ntmps205
  go_wp2_with (fail)
  go_loopw [5] (fun i wr => ∃ k : Nat, k ≤ l.length ∧ i = .int .i64 k ∧ s ∉ (names l).take k ∧ W = wr) (fun i _ => l.length - (intOf i).toNat)
  case atStart => exact ⟨0, Nat.zero_le _, rfl, by simp, rfl⟩
  case round =>
    obtain ⟨k, hk, rfl, hno, rfl⟩ := hrel
    have HNO := Lib.hid hno
    clear hno
    by_cases hlt : k < l.length
    · obtain ⟨b, off, rfl⟩ := Slc.addrH H.out (by omega)
      have hy : l[k]? = some l[k] := List.getElem?_eq_getElem hlt
      generalize l[k] = y at hy
      have HY : Hid ((names l)[k]? = some y.name) := Lib.hid (names_get hy)
      obtain ⟨A2, c2, _, _, g0, _⟩ := Heirs.atH H.out hy
      clear hy
      by_cases hyx : y.name = s
      · have HB : Hid (idx (names l) s = k) := Lib.hid (idx_at (by rw [HY.out, hyx]) HNO.out)
        subst hyx
        go_wp2
        go_ret
        exact ⟨(by rw [HB.out]; try rfl), rfl⟩
      · have HN : Hid (s ∉ (names l).take (k + 1)) := Lib.hid (by
          rw [take_snoc HY.out]
          intro hm
          rcases List.mem_append.1 hm with q | q
          · exact HNO.out q
          · exact hyx (List.mem_singleton.1 q).symm)
        go_wp2
        exact ⟨⟨k + 1, by omega, by go_num, HN.out, trivial⟩, by simp [intOf]; omega⟩
    · obtain rfl : k = l.length := by omega
      have HB : Hid (idx (names l) s = -1) := Lib.hid (idx_neg (by have := HNO.out; rwa [List.take_of_length_le (by unfold names; simp)] at this))
      go_wp2
      go_ret
      exact ⟨(by rw [HB.out]; try rfl), rfl⟩
set_option maxHeartbeats 4000000 in
set_option maxRecDepth 100000 in
theorem sameInfo_calls (x y : CI) (A2 A3 B2 B3 : Option Addr) (c2 c3 d2 d3 : Nat) (w : World) (hA2 : Strs A2 x.supers w) (hA3 : Strs A3 x.cpl w) (hB2 : Strs B2 y.supers w) (hB3 : Strs B3 y.cpl w)
    (l2 : x.supers.length ≤ 9223372036854775807) (l3 : x.cpl.length ≤ 9223372036854775807) (m2 : y.supers.length ≤ 9223372036854775807) (m3 : y.cpl.length ≤ 9223372036854775807) :
    Calls Tryz.prog 170 #[.agg #[.string x.name, .string x.lib, .slice A2 x.supers.length c2, .slice A3 x.cpl.length c3, .bool x.abs, .bool x.seal_], .agg #[.string y.name, .string y.lib, .slice B2 y.supers.length d2, .slice B3 y.cpl.length d3, .bool y.abs, .bool y.seal_]] w
      fun e w' => e = .returned (.bool (decide (x = y))) ∧ Below w.heap.size w w' := by
  have k2 := fun W (h : Below w.heap.size w W) => same7_calls A2 B2 c2 d2 x.supers y.supers W (Slc.stable strR_stable hA2 W (Keep.all h)) (Slc.stable strR_stable hB2 W (Keep.all h)) l2 m2
  have k3 := fun W (h : Below w.heap.size w W) => same7_calls A3 B3 c3 d3 x.cpl y.cpl W (Slc.stable strR_stable hA3 W (Keep.all h)) (Slc.stable strR_stable hB3 W (Keep.all h)) l3 m3
  clear hA2 hA3 hB2 hB3 l2 l3 m2 m3
  obtain ⟨xn, xl, xs, xc, xa, xe⟩ := x
  obtain ⟨yn, yl, ys, yc, ya, ye⟩ := y
  simp only [CI.mk.injEq] at *
  have hB : ∀ o1 o2 : Obj, Below w.heap.size w ((w.alloc o1).alloc o2) := fun o1 o2 => ((Below.refl _ w).alloc (Nat.le_refl _) _).alloc (by simp) _
  have HK := Lib.hid k2
  have HK3 := Lib.hid k3
  clear k2 k3
  by_cases h1 : xn = yn
  · by_cases h2 : xl = yl
    · by_cases h5 : xa = ya
      · by_cases h6 : xe = ye
        · by_cases h3 : xs = ys
          · by_cases h4 : xc = yc
            · subst h1 h2 h3 h4 h5 h6
              have t1 : (xa == xa) = true := by simp
              have t2 : (xe == xe) = true := by simp
              go_enter Tryz.func170, Tryz.ntmps170
              go_wp2_with (fail)
              refine (HK.out _ ?hb).mono ?_
              case hb => exact hB _ _
              rintro e w' ⟨rfl, n, rfl⟩
              go_wp2_with (fail)
              refine (HK3.out _ ?hb).mono ?_
              case hb => exact (hB _ _).trans (drewN_below _ _ _)
              rintro e w' ⟨rfl, n', rfl⟩
              go_wp2
              go_ret
              exact ⟨retB (by simp), (hB _ _).trans (by first | exact drewN_below _ _ _ | exact (drewN_below _ _ _).trans (drewN_below _ _ _))⟩
            · subst h1 h2 h3 h5 h6
              have t1 : (xa == xa) = true := by simp
              have t2 : (xe == xe) = true := by simp
              go_enter Tryz.func170, Tryz.ntmps170
              go_wp2_with (fail)
              refine (HK.out _ ?hb).mono ?_
              case hb => exact hB _ _
              rintro e w' ⟨rfl, n, rfl⟩
              go_wp2_with (fail)
              refine (HK3.out _ ?hb).mono ?_
              case hb => exact (hB _ _).trans (drewN_below _ _ _)
              rintro e w' ⟨rfl, n', rfl⟩
              go_wp2
              go_ret
              exact ⟨retB (by simp [h4]), (hB _ _).trans (by first | exact drewN_below _ _ _ | exact (drewN_below _ _ _).trans (drewN_below _ _ _))⟩
          · subst h1 h2 h5 h6
            have t1 : (xa == xa) = true := by simp
            have t2 : (xe == xe) = true := by simp
            go_enter Tryz.func170, Tryz.ntmps170
            go_wp2_with (fail)
            refine (HK.out _ ?hb).mono ?_
            case hb => exact hB _ _
            rintro e w' ⟨rfl, n, rfl⟩
            go_wp2
            go_ret
            exact ⟨retB (by simp [h3]), (hB _ _).trans (drewN_below _ _ _)⟩
        · subst h1 h2 h5
          have t1 : (xa == xa) = true := by simp
          have t2 : (xe == ye) = false := beq_eq_false_iff_ne.2 h6
          have HD : Hid (({ name := xn, lib := xl, supers := xs, cpl := xc, abs := xa, seal_ := xe } : CI) ≠ { name := xn, lib := xl, supers := ys, cpl := yc, abs := xa, seal_ := ye }) := Lib.hid (by simp [h6])
          go_enter Tryz.func170, Tryz.ntmps170
          go_wp2
          go_ret
          exact ⟨retB (by simp [h6]), hB _ _⟩
      · subst h1 h2
        have t1 : (xa == ya) = false := beq_eq_false_iff_ne.2 h5
        go_enter Tryz.func170, Tryz.ntmps170
        go_wp2
        go_ret
        exact ⟨retB (by simp [h5]), hB _ _⟩
    · subst h1
      go_enter Tryz.func170, Tryz.ntmps170
      go_wp2
      go_ret
      exact ⟨retB (by simp [h2]), hB _ _⟩
  · go_enter Tryz.func170, Tryz.ntmps170
    go_wp2
    go_ret
    exact ⟨retB (by simp [h1]), hB _ _⟩
end Go.Proofs.YtepnmejahbiacaaGreat
set_option linter.unusedVariables false
set_option linter.unusedSimpArgs false
namespace Go.Proofs.YtepnmejahbiacaaGreat
open Go.RowKit
attribute [local go_sem ↓] Go.wp_at_zero Go.wp_at_succ
set_option maxHeartbeats 8000000 in
set_option maxRecDepth 100000 in
theorem sameHier_calls (A B : Option Addr) (c d : Nat) (l m : List CI) (w : World) (hA : CIs A l w) (hB : CIs B m w) (hl : l.length ≤ 1000000) (hm : m.length ≤ 1000000) (ol : ∀ x ∈ l, ciOk x) (om : ∀ x ∈ m, ciOk x) :
    Calls Tryz.prog 124 #[.slice A l.length c, .slice B m.length d] w fun e w' => e = .returned (.bool (decide (l = m))) ∧ Below w.heap.size w w' := by
  have GA := (Slc.stable ciR_stable hA).here
  have GB := (Slc.stable ciR_stable hB).here
  by_cases hlen : l.length = m.length
  · have t2 : ((l.length : Int) != (m.length : Int)) = false := bne_eq_false_iff_eq.2 (by omega)
    have HL := Lib.hid hlen
    clear hlen
    go_enter Tryz.func124, Tryz.ntmps124
    go_wp2
    go_loopw [5] (fun i wr => ∃ k : Nat, k ≤ l.length ∧ i = .int .i64 k ∧ l.take k = m.take k ∧ Below w.heap.size w wr) (fun i _ => l.length - (intOf i).toNat)
    case atStart => exact ⟨0, Nat.zero_le _, rfl, by simp, Below.refl _ _⟩
    case round =>
      obtain ⟨k, hk, rfl, heq, hb⟩ := hrel
      have HE := Lib.hid heq
      clear heq
      by_cases hlt : k < l.length
      · have hm' : k < m.length := by have := HL.out; omega
        obtain ⟨b, off, rfl⟩ := hA.addr (by omega)
        obtain ⟨b', off', rfl⟩ := hB.addr (by omega)
        have HX := Lib.hid (getElem?_lt hlt)
        have HY := Lib.hid (getElem?_lt hm')
        have ox := ol _ (List.getElem_mem hlt)
        have oy := om _ (List.getElem_mem hm')
        generalize l[k] = x at *
        generalize m[k] = y at *
        have OX := Lib.hid ox
        have OY := Lib.hid oy
        clear ox oy ol om
        obtain ⟨A2, c2, A3, c3, s2, s3, S2, S3, g0, g1, g2, g3, g4, g5⟩ := CIs.atH (GA.below hb) HX.out
        obtain ⟨B2, d2, B3, d3, r2, r3, R2, R3, h0, h1, h2, h3, h4, h5⟩ := CIs.atH (GB.below hb) HY.out
        have HK := Lib.hid (fun W (h : Below wr.heap.size wr W) => sameInfo_calls x y A2 A3 B2 B3 c2 c3 d2 d3 W (S2.all h).now (S3.all h).now (R2.all h).now (R3.all h).now OX.out.1 OX.out.2 OY.out.1 OY.out.2)
        have w1 : (0 : Int) ≤ (k : Int) := by omega
        have w2 : (k : Int) < (l.length : Int) := by omega
        have w3 : (k : Int) < (m.length : Int) := by omega
        have HD : Hid (decide (x = y) = true ↔ x = y) := Lib.hid decide_eq_true_iff
        have HDF : Hid (decide (x = y) = false ↔ ¬ x = y) := Lib.hid decide_eq_false_iff_not
        generalize hdc : decide (x = y) = dc at HK HD HDF
        clear hdc S2 S3 R2 R3 hA hB GA GB
        go_wp2_with (fail)
        go_region_held3 (fun w' => Below wr.heap.size wr w' ∧ w'.cell? ⟨b, off + k * 6, none⟩ = some (.string x.name) ∧ w'.cell? ⟨b, off + k * 6 + 1, none⟩ = some (.string x.lib) ∧ w'.cell? ⟨b, off + k * 6 + 2, none⟩ = some (.slice A2 x.supers.length c2) ∧ w'.cell? ⟨b, off + k * 6 + 3, none⟩ = some (.slice A3 x.cpl.length c3) ∧ w'.cell? ⟨b, off + k * 6 + 4, none⟩ = some (.bool x.abs) ∧ w'.cell? ⟨b, off + k * 6 + 5, none⟩ = some (.bool x.seal_) ∧
            w'.cell? ⟨b', off' + k * 6, none⟩ = some (.string y.name) ∧ w'.cell? ⟨b', off' + k * 6 + 1, none⟩ = some (.string y.lib) ∧ w'.cell? ⟨b', off' + k * 6 + 2, none⟩ = some (.slice B2 y.supers.length d2) ∧ w'.cell? ⟨b', off' + k * 6 + 3, none⟩ = some (.slice B3 y.cpl.length d3) ∧ w'.cell? ⟨b', off' + k * 6 + 4, none⟩ = some (.bool y.abs) ∧ w'.cell? ⟨b', off' + k * 6 + 5, none⟩ = some (.bool y.seal_))
          (first | exact ⟨(Below.refl _ wr).drew, g0, g1, g2, g3, g4, g5, h0, h1, h2, h3, h4, h5⟩ | (go_split_ands; exact ⟨below_step (by assumption) hbv, cell_all (by assumption) hbv, cell_all (by assumption) hbv, cell_all (by assumption) hbv, cell_all (by assumption) hbv, cell_all (by assumption) hbv, cell_all (by assumption) hbv, cell_all (by assumption) hbv, cell_all (by assumption) hbv, cell_all (by assumption) hbv, cell_all (by assumption) hbv, cell_all (by assumption) hbv, cell_all (by assumption) hbv⟩))
          ((go_at_call 170; refine (HK.out _ (by go_split_ands; assumption)).mono ?_; rintro e V ⟨rfl, hbv⟩))
        have hb5 : Below wr.heap.size wr V := by go_split_ands; assumption
        have hb2 := hb.trans (hb5.mono hb.size)
        go_split_ands
        clear HK
        cases dc with
        | true =>
          have HX' := Lib.hid (HD.out.1 rfl)
          go_wp2
          go_roundw
          case rel => exact ⟨k + 1, by omega, by go_num, by rw [take_snoc HX.out, take_snoc HY.out, HE.out, HX'.out], hb2⟩
          case measure => simp [intOf]; omega
        | false =>
          have hne := Lib.hid (take_ne HX.out HY.out (HDF.out.1 rfl))
          go_wp2
          go_ret
          exact ⟨retB (decide_eq_false hne.out).symm, hb2⟩
      · obtain rfl : k = l.length := by omega
        have : l = m := by have h := HE.out; rw [List.take_length] at h; rw [h]; exact List.take_of_length_le (by rw [HL.out]; exact Nat.le_refl _)
        have HM := Lib.hid this
        clear this
        go_wp2
        go_ret
        exact ⟨retB (decide_eq_true HM.out).symm, hb⟩
  · have t2 : ((l.length : Int) != (m.length : Int)) = true := by rw [bne_iff_ne]; omega
    have HL : Hid (l ≠ m) := Lib.hid (fun e => hlen (by rw [e]))
    clear hlen
    go_enter Tryz.func124, Tryz.ntmps124
    go_wp2
    go_ret
    exact ⟨retB (decide_eq_false HL.out).symm, Below.refl _ _⟩
/-- Lists of strings that are laid one behind the other. -/
def layS (W : World) (ss : List (List ByteArray)) : World := ss.foldl (fun w l => w.alloc (.cells (l.map Value.string).toArray 9)) W
theorem layS_spec : ∀ (ss : List (List ByteArray)) (W : World), (layS W ss).heap.size = W.heap.size + ss.length ∧ Below W.heap.size W (layS W ss) ∧ ∀ i l, ss[i]? = some l → Held (fun _ => True) (Strs (some ⟨W.heap.size + i, 0, none⟩) l) (layS W ss)
  | [], W => ⟨rfl, Below.refl _ _, fun i l h => by simp at h⟩
  | l :: ss, W => by
    obtain ⟨h1, h2, h3⟩ := layS_spec ss (W.alloc (.cells (l.map Value.string).toArray 9))
    have e : layS W (l :: ss) = layS (W.alloc (.cells (l.map Value.string).toArray 9)) ss := rfl
    have hs : (W.alloc (.cells (l.map Value.string).toArray 9)).heap.size = W.heap.size + 1 := by simp
    have b0 : Below W.heap.size W (W.alloc (.cells (l.map Value.string).toArray 9)) := (Below.refl _ W).alloc (Nat.le_refl _) _
    rw [e]
    refine ⟨by rw [h1, hs, List.length_cons]; omega, b0.trans (h2.mono b0.size), fun i x hx => ?_⟩
    cases i with
    | zero =>
      simp only [List.getElem?_cons_zero, Option.some.injEq] at hx
      subst hx
      exact (Strs.lit (fun _ => True) W l 9 trivial).all h2
    | succ i =>
      have := h3 i x (by simpa using hx)
      rw [hs] at this
      have e : W.heap.size + 1 + i = W.heap.size + (i + 1) := by omega
      rw [e] at this
      exact this
def nCond : ByteArray := ⟨#[60, 99, 111, 110, 100, 105, 116, 105, 111, 110, 62]⟩
def nSer : ByteArray := ⟨#[60, 115, 101, 114, 105, 111, 117, 115, 45, 99, 111, 110, 100, 105, 116, 105, 111, 110, 62]⟩
def nErr : ByteArray := ⟨#[60, 101, 114, 114, 111, 114, 62]⟩
def nFau : ByteArray := ⟨#[60, 102, 97, 117, 108, 116, 62]⟩
def nWar : ByteArray := ⟨#[60, 119, 97, 114, 110, 105, 110, 103, 62]⟩
def nRes : ByteArray := ⟨#[60, 114, 101, 115, 116, 97, 114, 116, 62]⟩
/-- The lists of the predefined classes, in the order in which they are laid. -/
def baseS : List (List ByteArray) := [[nObj], [nObj], [nInteger, nObj], [nObj], [nBoolean, nObj], [nObj], [nClass, nObj], [nObj], [nFunction, nObj], [nObj], [nCond, nObj], [nCond], [nSer, nCond, nObj],
  [nCond], [nWar, nCond, nObj], [nCond], [nRes, nCond, nObj], [nSer], [nErr, nSer, nCond, nObj], [nErr], [nFau, nErr, nSer, nCond, nObj]]
theorem baseL_eq : baseL = [⟨nObj, ⟨#[]⟩, [], [nObj], true, false⟩, ⟨nInteger, ⟨#[]⟩, [nObj], [nInteger, nObj], false, true⟩, ⟨nBoolean, ⟨#[]⟩, [nObj], [nBoolean, nObj], false, true⟩, ⟨nClass, ⟨#[]⟩, [nObj], [nClass, nObj], false, true⟩, ⟨nFunction, ⟨#[]⟩, [nObj], [nFunction, nObj], false, true⟩,
    ⟨nCond, ⟨#[]⟩, [nObj], [nCond, nObj], false, false⟩, ⟨nSer, ⟨#[]⟩, [nCond], [nSer, nCond, nObj], false, false⟩, ⟨nWar, ⟨#[]⟩, [nCond], [nWar, nCond, nObj], false, false⟩, ⟨nRes, ⟨#[]⟩, [nCond], [nRes, nCond, nObj], false, false⟩, ⟨nErr, ⟨#[]⟩, [nSer], [nErr, nSer, nCond, nObj], false, false⟩, ⟨nFau, ⟨#[]⟩, [nErr], [nFau, nErr, nSer, nCond, nObj], false, false⟩] := by
  kernel_rfl
theorem base8_world (W : World) : Held (fun _ => True) (CIs (some ⟨W.heap.size + 21, 0, none⟩) baseL) ((layS W baseS).alloc (.cells #[.string nObj, .string ⟨#[]⟩, .slice none 0 0, .slice (some ⟨W.heap.size + 0, 0, none⟩) 1 1, .bool true, .bool false, .string nInteger, .string ⟨#[]⟩, .slice (some ⟨W.heap.size + 1, 0, none⟩) 1 1, .slice (some ⟨W.heap.size + 2, 0, none⟩) 2 2, .bool false, .bool true, .string nBoolean, .string ⟨#[]⟩, .slice (some ⟨W.heap.size + 3, 0, none⟩) 1 1, .slice (some ⟨W.heap.size + 4, 0, none⟩) 2 2, .bool false, .bool true, .string nClass, .string ⟨#[]⟩, .slice (some ⟨W.heap.size + 5, 0, none⟩) 1 1, .slice (some ⟨W.heap.size + 6, 0, none⟩) 2 2, .bool false, .bool true, .string nFunction, .string ⟨#[]⟩, .slice (some ⟨W.heap.size + 7, 0, none⟩) 1 1, .slice (some ⟨W.heap.size + 8, 0, none⟩) 2 2, .bool false, .bool true, .string nCond, .string ⟨#[]⟩, .slice (some ⟨W.heap.size + 9, 0, none⟩) 1 1, .slice (some ⟨W.heap.size + 10, 0, none⟩) 2 2, .bool false, .bool false, .string nSer, .string ⟨#[]⟩, .slice (some ⟨W.heap.size + 11, 0, none⟩) 1 1, .slice (some ⟨W.heap.size + 12, 0, none⟩) 3 3, .bool false, .bool false, .string nWar, .string ⟨#[]⟩, .slice (some ⟨W.heap.size + 13, 0, none⟩) 1 1, .slice (some ⟨W.heap.size + 14, 0, none⟩) 3 3, .bool false, .bool false, .string nRes, .string ⟨#[]⟩, .slice (some ⟨W.heap.size + 15, 0, none⟩) 1 1, .slice (some ⟨W.heap.size + 16, 0, none⟩) 3 3, .bool false, .bool false, .string nErr, .string ⟨#[]⟩, .slice (some ⟨W.heap.size + 17, 0, none⟩) 1 1, .slice (some ⟨W.heap.size + 18, 0, none⟩) 4 4, .bool false, .bool false, .string nFau, .string ⟨#[]⟩, .slice (some ⟨W.heap.size + 19, 0, none⟩) 1 1, .slice (some ⟨W.heap.size + 20, 0, none⟩) 5 5, .bool false, .bool false] 110)) ∧
    Below W.heap.size W ((layS W baseS).alloc (.cells #[.string nObj, .string ⟨#[]⟩, .slice none 0 0, .slice (some ⟨W.heap.size + 0, 0, none⟩) 1 1, .bool true, .bool false, .string nInteger, .string ⟨#[]⟩, .slice (some ⟨W.heap.size + 1, 0, none⟩) 1 1, .slice (some ⟨W.heap.size + 2, 0, none⟩) 2 2, .bool false, .bool true, .string nBoolean, .string ⟨#[]⟩, .slice (some ⟨W.heap.size + 3, 0, none⟩) 1 1, .slice (some ⟨W.heap.size + 4, 0, none⟩) 2 2, .bool false, .bool true, .string nClass, .string ⟨#[]⟩, .slice (some ⟨W.heap.size + 5, 0, none⟩) 1 1, .slice (some ⟨W.heap.size + 6, 0, none⟩) 2 2, .bool false, .bool true, .string nFunction, .string ⟨#[]⟩, .slice (some ⟨W.heap.size + 7, 0, none⟩) 1 1, .slice (some ⟨W.heap.size + 8, 0, none⟩) 2 2, .bool false, .bool true, .string nCond, .string ⟨#[]⟩, .slice (some ⟨W.heap.size + 9, 0, none⟩) 1 1, .slice (some ⟨W.heap.size + 10, 0, none⟩) 2 2, .bool false, .bool false, .string nSer, .string ⟨#[]⟩, .slice (some ⟨W.heap.size + 11, 0, none⟩) 1 1, .slice (some ⟨W.heap.size + 12, 0, none⟩) 3 3, .bool false, .bool false, .string nWar, .string ⟨#[]⟩, .slice (some ⟨W.heap.size + 13, 0, none⟩) 1 1, .slice (some ⟨W.heap.size + 14, 0, none⟩) 3 3, .bool false, .bool false, .string nRes, .string ⟨#[]⟩, .slice (some ⟨W.heap.size + 15, 0, none⟩) 1 1, .slice (some ⟨W.heap.size + 16, 0, none⟩) 3 3, .bool false, .bool false, .string nErr, .string ⟨#[]⟩, .slice (some ⟨W.heap.size + 17, 0, none⟩) 1 1, .slice (some ⟨W.heap.size + 18, 0, none⟩) 4 4, .bool false, .bool false, .string nFau, .string ⟨#[]⟩, .slice (some ⟨W.heap.size + 19, 0, none⟩) 1 1, .slice (some ⟨W.heap.size + 20, 0, none⟩) 5 5, .bool false, .bool false] 110)) := by
  obtain ⟨h1, h2, S⟩ := layS_spec baseS W
  have hn : W.heap.size + 21 = (layS W baseS).heap.size := h1.symm
  refine ⟨?_, h2.trans ((Below.refl _ _).alloc h2.size _)⟩
  rw [baseL_eq]
  have E := (Enc.snoc (Enc.snoc (Enc.snoc (Enc.snoc (Enc.snoc (Enc.snoc (Enc.snoc (Enc.snoc (Enc.snoc (Enc.snoc (Enc.snoc (R := fun x cs => Held (fun _ => True) (ciR x cs) (layS W baseS)) (sz := 6) Enc.nil (ciR.mk (x := ⟨nObj, ⟨#[]⟩, [], [nObj], true, false⟩) (A2 := none) (c2 := 0) (c3 := 1) (by decide) (by decide) (fun _ _ => Slc.nil _ _ _ _) (S 0 _ rfl)) rfl) (ciR.mk (x := ⟨nInteger, ⟨#[]⟩, [nObj], [nInteger, nObj], false, true⟩) (c2 := 1) (c3 := 2) (by decide) (by decide) (S 1 _ rfl) (S 2 _ rfl)) rfl) (ciR.mk (x := ⟨nBoolean, ⟨#[]⟩, [nObj], [nBoolean, nObj], false, true⟩) (c2 := 1) (c3 := 2) (by decide) (by decide) (S 3 _ rfl) (S 4 _ rfl)) rfl) (ciR.mk (x := ⟨nClass, ⟨#[]⟩, [nObj], [nClass, nObj], false, true⟩) (c2 := 1) (c3 := 2) (by decide) (by decide) (S 5 _ rfl) (S 6 _ rfl)) rfl) (ciR.mk (x := ⟨nFunction, ⟨#[]⟩, [nObj], [nFunction, nObj], false, true⟩) (c2 := 1) (c3 := 2) (by decide) (by decide) (S 7 _ rfl) (S 8 _ rfl)) rfl) (ciR.mk (x := ⟨nCond, ⟨#[]⟩, [nObj], [nCond, nObj], false, false⟩) (c2 := 1) (c3 := 2) (by decide) (by decide) (S 9 _ rfl) (S 10 _ rfl)) rfl) (ciR.mk (x := ⟨nSer, ⟨#[]⟩, [nCond], [nSer, nCond, nObj], false, false⟩) (c2 := 1) (c3 := 3) (by decide) (by decide) (S 11 _ rfl) (S 12 _ rfl)) rfl) (ciR.mk (x := ⟨nWar, ⟨#[]⟩, [nCond], [nWar, nCond, nObj], false, false⟩) (c2 := 1) (c3 := 3) (by decide) (by decide) (S 13 _ rfl) (S 14 _ rfl)) rfl) (ciR.mk (x := ⟨nRes, ⟨#[]⟩, [nCond], [nRes, nCond, nObj], false, false⟩) (c2 := 1) (c3 := 3) (by decide) (by decide) (S 15 _ rfl) (S 16 _ rfl)) rfl) (ciR.mk (x := ⟨nErr, ⟨#[]⟩, [nSer], [nErr, nSer, nCond, nObj], false, false⟩) (c2 := 1) (c3 := 4) (by decide) (by decide) (S 17 _ rfl) (S 18 _ rfl)) rfl) (ciR.mk (x := ⟨nFau, ⟨#[]⟩, [nErr], [nFau, nErr, nSer, nCond, nObj], false, false⟩) (c2 := 1) (c3 := 5) (by decide) (by decide) (S 19 _ rfl) (S 20 _ rfl)) rfl)
  exact (rowsE 110 hn E (by decide)).mono fun _ _ _ => trivial
set_option maxHeartbeats 8000000 in
set_option maxRecDepth 100000 in
theorem base8_calls (W : World) : Calls Tryz.prog 123 #[] W fun e W' => ∃ A c, e = .returned (.slice A 11 c) ∧ 11 ≤ c ∧ Held (fun _ => True) (CIs A baseL) W' ∧ Below W.heap.size W W' := by
  have H := Lib.hid (base8_world W)
  go_enter Tryz.func123, Tryz.ntmps123
  go_wp2
  go_ret
  exact ⟨_, _, rfl, Nat.le_refl _, H.out.1, H.out.2⟩
set_option maxHeartbeats 8000000 in
set_option maxRecDepth 100000 in
theorem heirs8_calls (A : Option Addr) (c : Nat) (l : List CI) (W : World) (G : Nat → Prop) (h : Held G (CIs A l) W) (hl : l.length ≤ 1000) :
    Calls Tryz.prog 127 #[.slice A l.length c] W fun e w' => ∃ A' c', e = .returned (.slice A' l.length c') ∧ l.length ≤ c' ∧ Held (fun b => b < w'.heap.size) (Heirs A' (heirsOf l)) w' ∧ Below W.heap.size W w' := by
  have H := h.here
  clear h
  go_enter Tryz.func127, Tryz.ntmps127
  go_wp2
  go_loopw [3, 4] (fun v i wr => ∃ k : Nat, k ≤ l.length ∧ i = .int .i64 k ∧ Own heirR 186 2 W.heap.size (· < W.heap.size) v (heirsOf (l.take k)) wr ∧ Below W.heap.size W wr) (fun _ i _ => l.length - (intOf i).toNat)
  case atStart => exact ⟨0, Nat.zero_le _, rfl, Own.nil _ _ _ _ _ _, Below.refl _ _⟩
  case round =>
    obtain ⟨k, hk, rfl, hown, hb⟩ := hrel
    by_cases hlt : k < l.length
    · have hx := List.getElem?_eq_getElem hlt
      generalize l[k] = x at hx
      have HX := Lib.hid hx
      clear hx
      obtain ⟨b, off, rfl⟩ := Slc.addrH H (by omega)
      obtain ⟨A2, c2, A3, c3, s2, s3, S2, S3, h1, h2, h3, h4, h5, h6⟩ := CIs.atH (H.below hb) HX.out
      have w1 : (0 : Int) ≤ (k : Int) := by omega
      have w2 : (k : Int) < (l.length : Int) := by omega
      have hsz := hb.size
      have hO := Lib.hid ((hown.drew).alloc (.cells #[.string x.name, .slice A2 x.supers.length c2] 186))
      have hC : Hid (∀ j u, [Value.string x.name, .slice A2 x.supers.length c2][j]? = some u → (wr.drew.alloc (.cells #[.string x.name, .slice A2 x.supers.length c2] 186)).cell? ((⟨wr.heap.size, 0, none⟩ : Addr).add j) = some u) := Lib.hid (cells_new wr.drew #[.string x.name, .slice A2 x.supers.length c2] _ _ rfl)
      have h1C : Hid (∀ u ∈ [Value.string x.name, .slice A2 x.supers.length c2], u.oneCell' = true) := Lib.hid (by intro u hu; simp at hu; rcases hu with rfl | rfl <;> rfl)
      have hRR : Hid (Held (· < W.heap.size) (heirR x.heir [.string x.name, .slice A2 x.supers.length c2]) (wr.drew.alloc (.cells #[.string x.name, .slice A2 x.supers.length c2] 186))) := Lib.hid (by
        have S2 := heirR.mk (x := x.heir) s2 S2
        exact (S2.keep (Keep.drew _ _)).keep (Keep.alloc _ _ _))
      have hGG : Hid (∀ b, b < W.heap.size → u3.ownBlock ≠ some b) := Lib.hid (fun b hb' e => by have := (hown.lt _ e).1; omega)
      have HVB : Hid (∀ g, u3.ownBlock = some g → W.heap.size ≤ g) := Lib.hid (fun g e => (hown.lt _ e).1)
      have HS : Hid (heirsOf (l.take (k + 1)) = heirsOf (l.take k) ++ [x.heir]) := Lib.hid (by rw [take_snoc HX.out]; simp [heirsOf])
      have hlen : (heirsOf (l.take k)).length = k := by simp [heirsOf]; omega
      have HK := Lib.hid hlt
      clear hown h2 h4 h5 h6 S2 S3
      go_wp2_with (fail)
      go_region_law (refine step_append_one heirR 186 2 W.heap.size 40 (· < W.heap.size) _ (by rfl) _ _ 146 _ (by rfl) Tryz.underlying146 info186 rfl (by decide) (by decide) u3 (heirsOf (l.take k)) (by rfl) hO.out ⟨wr.heap.size, 0, none⟩ 1 (by rfl) x.heir [.string x.name, .slice A2 x.supers.length c2] rfl hC.out h1C.out hRR.out hGG.out (by simp; omega) (by rw [hlen]; omega) (wr.heap.size + 1) (by simp) ?_; intro g cap w3 hown1 hgrow hat hlt3)
      all_goals
        have bF : Below W.heap.size W w3 := (hb.drew.alloc (by simpa using hsz) _).grown hgrow (by simp; omega) (fun k' e => HVB.out k' e)
        have own2 : Own heirR 186 2 W.heap.size (· < W.heap.size) (.slice (some ⟨g, 0, none⟩) (k + 1) cap) (heirsOf (l.take (k + 1))) w3 := by
          rw [HS.out]
          rw [hlen] at hown1
          exact hown1
        clear hgrow hown1 hO hC h1C hRR hGG HVB
        go_wp2
        first
          | exact ⟨⟨k + 1, by have := HK.out; omega, by go_num, own2, bF⟩, by simp [intOf]; have := HK.out; omega⟩
          | (go_roundw; case rel => exact ⟨k + 1, by have := HK.out; omega, by go_num, own2, bF⟩; case measure => simp [intOf]; have := HK.out; omega)
    · obtain rfl : k = l.length := by omega
      rw [List.take_length] at hown
      obtain ⟨A', c', rfl, hc', S⟩ := hown.out
      go_wp2
      go_ret
      refine ⟨A', c', by simp [heirsOf], by simpa [heirsOf] using hc', S.mono fun b hb1 hb2 => ?_, hb⟩
      exact hb1
end Go.Proofs.YtepnmejahbiacaaGreat
