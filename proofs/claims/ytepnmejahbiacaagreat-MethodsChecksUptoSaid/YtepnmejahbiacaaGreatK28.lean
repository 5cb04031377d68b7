/- Part 28 of the proof: Qh, Qc. -/
import Derived.Test.YtepnmejahbiacaaGreatK22
import Derived.Test.YtepnmejahbiacaaGreatK19
import Derived.Test.YtepnmejahbiacaaGreatK05
import Derived.Test.YtepnmejahbiacaaGreatK06
import Derived.Test.YtepnmejahbiacaaGreatK07
import Derived.Test.YtepnmejahbiacaaGreatK12
import Derived.Test.YtepnmejahbiacaaGreatK13
import Derived.Test.YtepnmejahbiacaaGreatK14
import Derived.Test.YtepnmejahbiacaaGreatK15
import Derived.Test.YtepnmejahbiacaaGreatK18
import Derived.Test.YtepnmejahbiacaaGreatK25
import Derived.Test.YtepnmejahbiacaaGreatK24
import Derived.Test.YtepnmejahbiacaaGreatK21
import Derived.Test.YtepnmejahbiacaaGreatK08
import Derived.Test.YtepnmejahbiacaaGreatK17
import Derived.Test.YtepnmejahbiacaaGreatK04
import Derived.Test.YtepnmejahbiacaaGreatK10
import Derived.Test.YtepnmejahbiacaaGreatK11
import Derived.Test.YtepnmejahbiacaaGreatK23
import Derived.Test.YtepnmejahbiacaaGreatK27
import Derived.Test.YtepnmejahbiacaaGreatK09
import Derived.Test.YtepnmejahbiacaaGreatK26
import Derived.Test.YtepnmejahbiacaaGreatK03
import Derived.Test.YtepnmejahbiacaaGreatK16
import Derived.Test.YtepnmejahbiacaaGreatK02
import Derived.Test.YtepnmejahbiacaaGreatK01
import Derived.Test.YtepnmejahbiacaaGreatK20
import Derived.BigQuiet
import Derived.Carry
import Derived.Deep.AppendLies
import Derived.Deep.DrawnRows
import Derived.Deep.Draws
import Derived.Deep.LoopGhost
import Derived.Deep.QuietTactic
import Derived.Deep.RegionHeld3
import Derived.Deep.RegionLaw
import Derived.Deep.RegionWith
import Derived.KernelRfl
import Derived.Laws.EntriesVeiled
import Derived.Lib.Hide
import Derived.Lib.SliceRun
import Derived.LoopIn
import Derived.LoopNIn
import Derived.Maps.AppendAt
import Derived.Maps.Own
import Derived.Maps.OwnIn
import Derived.Outline
import Derived.OwnWalkIn
import Derived.RangeFuncBound
import Derived.RangeFuncCalls
import Derived.RangeFuncLeaves
import Derived.RangeFuncNested
import Derived.Recover
import Derived.StillTailTactics
import Derived.Stop.RegionWithIn
import Derived.TacticsInMore
import Derived.Test.YtepnmejahbiacaaGreatProg
import Derived.WalkKit
import Derived.WalkSpells
set_option linter.unusedVariables false
set_option linter.unusedSimpArgs false
namespace Go.Proofs.YtepnmejahbiacaaGreat
open Go.RowKit
def nsTo (l : List CI) (k : Nat) : List ByteArray := (l.take k).map (·.name)
/-- A superclass that may not be one, by the reference. -/
def supBad (l : List CI) (k : Nat) (x : CI) (s : ByteArray) : Bool :=
  decide (idx (nsTo l k) s < 0) || (decide (1 ≤ idx (nsTo l k) s) && decide (idx (nsTo l k) s ≤ 4)) || (match l[(idx (nsTo l k) s).toNat]? with | some y => y.seal_ && !decide (y.lib = x.lib) | none => false)
def crHead (l : List CI) (k : Nat) (x : CI) : Bool := !decide (x.name = ⟨#[]⟩) && decide (x.name.size ≤ 100) && !hasS (nsTo l k) x.name && decide (1 ≤ x.supers.length) && decide (x.supers.length ≤ 8) && distinctB x.supers
def crB (l : List CI) (k : Nat) (x : CI) : Bool := crHead l k x && !(x.supers.any (supBad l k x))
theorem idx_cases (l : List CI) (k : Nat) (s : ByteArray) : idx (nsTo l k) s = -1 ∨ ∃ (j : Nat) (y : CI), j < k ∧ l[j]? = some y ∧ idx (nsTo l k) s = j := by
  by_cases h : s ∈ nsTo l k
  · right
    unfold idx
    cases hf : (nsTo l k).findIdx? (fun y => decide (y = s)) with
    | none =>
      have := List.findIdx?_eq_none_iff.1 hf s h
      simp at this
    | some j =>
      obtain ⟨h1, _⟩ := List.findIdx?_eq_some_iff_getElem.1 hf
      have h2 : j < k ∧ j < l.length := by
        unfold nsTo at h1
        rw [List.length_map, List.length_take] at h1
        omega
      exact ⟨j, l[j], h2.1, List.getElem?_eq_getElem h2.2, rfl⟩
  · exact .inl (idx_neg h)
theorem any_take_snoc {α : Type} {p : α → Bool} {l : List α} {k : Nat} {x : α} (hx : l[k]? = some x) (h1 : (l.take k).any p = false) (h2 : p x = false) : (l.take (k + 1)).any p = false := by
  rw [take_snoc hx, List.any_append, h1]; simp [h2]
theorem quietD {W U V : World} (h : Drw W U) (q : Drw U V) : ∃ m, V = W.drewN m := by
  obtain ⟨a, rfl⟩ := h
  obtain ⟨b, rfl⟩ := q
  exact ⟨a + b, World.drewN_drewN _ _ _⟩
set_option maxHeartbeats 32000000 in
set_option maxRecDepth 100000 in
theorem classRight_calls (A : Option Addr) (c : Nat) (l : List CI) (k : Nat) (x : CI) (W : World) (G : Nat → Prop) (hH : Held G (CIs A l) W) (hc : l.length ≤ c) (hl : l.length ≤ 1000) (hx : l[k]? = some x) :
    Calls Tryz.prog 125 #[.slice A l.length c, .int .i64 k] W fun e w' => e = .returned (.bool (crB l k x)) ∧ Below W.heap.size W w' := by
  have hkl := (List.getElem?_eq_some_iff.1 hx).1
  obtain ⟨b, off, rfl⟩ := Slc.addrH hH (by omega)
  have H := Lib.hid hH.here
  have HX := Lib.hid hx
  obtain ⟨A2, c2, A3, c3, p2, p3, S2, S3, g0, g1, g2, g3, g4, g5⟩ := CIs.atH hH.here hx
  have HS2 := Lib.hid S2
  obtain ⟨W1, hW1⟩ : ∃ W1, W1 = W.alloc (.cells #[.string x.name, .string x.lib, .slice A2 x.supers.length c2, .slice A3 x.cpl.length c3, .bool x.abs, .bool x.seal_] 110) := ⟨_, rfl⟩
  have b1 : Below W.heap.size W W1 := by rw [hW1]; exact (Below.refl _ W).alloc (Nat.le_refl _) _
  have xc : ∀ j u, [Value.string x.name, .string x.lib, .slice A2 x.supers.length c2, .slice A3 x.cpl.length c3, .bool x.abs, .bool x.seal_][j]? = some u → W1.cell? ⟨W.heap.size, j, none⟩ = some u := fun j u hj => by rw [hW1]; exact cell_new W _ _ _ rfl j u hj
  have hkc : k ≤ c := by omega
  have w1 : (0 : Int) ≤ (k : Int) := by omega
  have w2 : (k : Int) < (l.length : Int) := by omega
  have hlt : (l.take k).length = k := by rw [List.length_take]; omega
  have HAT : Hid (∀ U s, Drw W1 U → Calls Tryz.prog 82 #[.slice (some ⟨b, off, none⟩) k c, .string s] U fun e w' => e = .returned (.int .i64 (idx (nsTo l k) s)) ∧ U = w') := Lib.hid (fun U s hu => by
    obtain ⟨m, rfl⟩ := hu
    have := at8_calls (some ⟨b, off, none⟩) c (l.take k) s (W1.drewN m) _ ((hH.keep ((Keep.all b1).trans (Keep.drewN _ _ _))).imp fun _ _ q => Slc.take q k) (by omega)
    rw [hlt] at this
    exact this)
  have HDI0 : Hid (x.supers.length ≤ 8 → ∀ U, Drw W1 U → Calls Tryz.prog 171 #[.slice A2 x.supers.length c2] U fun e w' => e = .returned (.bool (distinctB x.supers)) ∧ Drw U w') := Lib.hid (fun h8 U hu => by
    obtain ⟨m, rfl⟩ := hu
    exact distinct_calls A2 c2 x.supers (W1.drewN m) _ ((S2.keep (Keep.all b1)).keep (Keep.drewN _ _ _)) p2 (by omega))
  have HB1 := Lib.hid b1
  clear hH hx S2 S3 hlt b1
  have d0 := xc 0 _ rfl
  have d1 := xc 1 _ rfl
  have d2 := xc 2 _ rfl
  have HSL : Hid (Held (fun b => b < W.heap.size) (Strs A2 x.supers) W1) := Lib.hid (HS2.out.keep (Keep.all HB1.out))
  clear xc
  have HG0 := Lib.hid (idx_ge (l := nsTo l k) (x := x.name))
  go_enter Tryz.func125, Tryz.ntmps125
  go_wp2_with (fail)
  rw [← hW1]
  clear hW1 g0 g1 g2 g3 g4 g5
  by_cases hn0 : x.name = ⟨#[]⟩
  · have HE : Hid (crB l k x = false) := Lib.hid (by unfold crB crHead; rw [decide_eq_true hn0]; rfl)
    clear HAT HDI0 HG0
    rw [hn0] at d0
    go_quiet (fail)
    go_wp2
    go_ret
    exact ⟨(by rw [HE.out]; try rfl), HB1.out.trans (drewN_below _ _ _)⟩
  by_cases hn1 : (100 : Int) < (x.name.size : Int)
  · have HE : Hid (crB l k x = false) := Lib.hid (by unfold crB crHead; rw [decide_eq_false (show ¬ x.name.size ≤ 100 by omega)]; simp)
    clear HAT HDI0 HG0
    go_quiet (fail)
    go_wp2
    go_ret
    exact ⟨(by rw [HE.out]; try rfl), HB1.out.trans (drewN_below _ _ _)⟩
  have HA1 := Lib.hid (fun U hu => HAT.out U x.name hu)
  cases hh : hasS (nsTo l k) x.name with
  | true =>
    have t1 : decide ((0 : Int) ≤ idx (nsTo l k) x.name) = true := HG0.out.trans hh
    have HE : Hid (crB l k x = false) := Lib.hid (by unfold crB crHead; rw [hh]; simp)
    clear HAT hh HG0
    generalize idx (nsTo l k) x.name = ix at HA1 t1
    go_quiet ((first | (go_at_call 82; exact (HA1.out _ (by first | exact Drw.refl _ | exact Drw.of _ _ | exact (Drw.of _ _).drewN _)).mono fun _ _ ⟨a, b⟩ => ⟨a, _, b.symm⟩) | (go_at_call 171; exact (HDI.out _ (by first | exact Drw.refl _ | exact Drw.of _ _ | exact (Drw.of _ _).drewN _)).mono fun _ _ ⟨a, b⟩ => ⟨a, quietD (by first | exact Drw.refl _ | exact Drw.of _ _ | exact (Drw.of _ _).drewN _) b⟩)))
    go_wp2
    go_ret
    exact ⟨(by rw [HE.out]; try rfl), HB1.out.trans (drewN_below _ _ _)⟩
  | false =>
  have t1 : decide ((0 : Int) ≤ idx (nsTo l k) x.name) = false := HG0.out.trans hh
  have HHS := Lib.hid hh
  clear hh HG0
  generalize idx (nsTo l k) x.name = ix at HA1 t1
  by_cases hs0 : (x.supers.length : Int) < 1
  · have HE : Hid (crB l k x = false) := Lib.hid (by unfold crB crHead; rw [decide_eq_false (show ¬ 1 ≤ x.supers.length by omega)]; simp)
    clear HAT
    go_quiet ((first | (go_at_call 82; exact (HA1.out _ (by first | exact Drw.refl _ | exact Drw.of _ _ | exact (Drw.of _ _).drewN _)).mono fun _ _ ⟨a, b⟩ => ⟨a, _, b.symm⟩) | (go_at_call 171; exact (HDI.out _ (by first | exact Drw.refl _ | exact Drw.of _ _ | exact (Drw.of _ _).drewN _)).mono fun _ _ ⟨a, b⟩ => ⟨a, quietD (by first | exact Drw.refl _ | exact Drw.of _ _ | exact (Drw.of _ _).drewN _) b⟩)))
    go_wp2
    go_ret
    exact ⟨(by rw [HE.out]; try rfl), HB1.out.trans (drewN_below _ _ _)⟩
  by_cases hs8 : (8 : Int) < (x.supers.length : Int)
  · have HE : Hid (crB l k x = false) := Lib.hid (by unfold crB crHead; rw [decide_eq_false (show ¬ x.supers.length ≤ 8 by omega)]; simp)
    clear HAT
    go_quiet ((first | (go_at_call 82; exact (HA1.out _ (by first | exact Drw.refl _ | exact Drw.of _ _ | exact (Drw.of _ _).drewN _)).mono fun _ _ ⟨a, b⟩ => ⟨a, _, b.symm⟩) | (go_at_call 171; exact (HDI.out _ (by first | exact Drw.refl _ | exact Drw.of _ _ | exact (Drw.of _ _).drewN _)).mono fun _ _ ⟨a, b⟩ => ⟨a, quietD (by first | exact Drw.refl _ | exact Drw.of _ _ | exact (Drw.of _ _).drewN _) b⟩)))
    go_wp2
    go_ret
    exact ⟨(by rw [HE.out]; try rfl), HB1.out.trans (drewN_below _ _ _)⟩
  have HDI := Lib.hid (HDI0.out (by omega))
  cases hd : distinctB x.supers with
  | false =>
    have HE : Hid (crB l k x = false) := Lib.hid (by unfold crB crHead; rw [hd]; simp)
    rw [hd] at HDI
    clear HAT hd
    go_quiet ((first | (go_at_call 82; exact (HA1.out _ (by first | exact Drw.refl _ | exact Drw.of _ _ | exact (Drw.of _ _).drewN _)).mono fun _ _ ⟨a, b⟩ => ⟨a, _, b.symm⟩) | (go_at_call 171; exact (HDI.out _ (by first | exact Drw.refl _ | exact Drw.of _ _ | exact (Drw.of _ _).drewN _)).mono fun _ _ ⟨a, b⟩ => ⟨a, quietD (by first | exact Drw.refl _ | exact Drw.of _ _ | exact (Drw.of _ _).drewN _) b⟩)))
    go_wp2
    go_ret
    exact ⟨(by rw [HE.out]; try rfl), HB1.out.trans (drewN_below _ _ _)⟩
  | true =>
  have HE : Hid (crHead l k x = true) := Lib.hid (by unfold crHead; rw [hd, HHS.out, decide_eq_false hn0, decide_eq_true (show x.name.size ≤ 100 by omega), decide_eq_true (show 1 ≤ x.supers.length by omega), decide_eq_true (show x.supers.length ≤ 8 by omega)]; rfl)
  rw [hd] at HDI
  clear hd
  go_quiet ((first | (go_at_call 82; exact (HA1.out _ (by first | exact Drw.refl _ | exact Drw.of _ _ | exact (Drw.of _ _).drewN _)).mono fun _ _ ⟨a, b⟩ => ⟨a, _, b.symm⟩) | (go_at_call 171; exact (HDI.out _ (by first | exact Drw.refl _ | exact Drw.of _ _ | exact (Drw.of _ _).drewN _)).mono fun _ _ ⟨a, b⟩ => ⟨a, quietD (by first | exact Drw.refl _ | exact Drw.of _ _ | exact (Drw.of _ _).drewN _) b⟩)))
  clear HA1 HDI t1
  go_wp2_with (fail)
  go_loopw [6] (fun i wr => ∃ j : Nat, j ≤ x.supers.length ∧ i = .int .i64 j ∧ (x.supers.take j).any (supBad l k x) = false ∧ Drw W1 wr) (fun i _ => x.supers.length - (intOf i).toNat)
  case atStart => exact ⟨0, Nat.zero_le _, rfl, rfl, Drw.of _ _⟩
  case round =>
    obtain ⟨j, hj, rfl, hno, hdr⟩ := hrel
    obtain ⟨q, rfl⟩ := hdr
    have HNO := Lib.hid hno
    clear hno
    by_cases hjl : j < x.supers.length
    · have hs : x.supers[j]? = some x.supers[j] := List.getElem?_eq_getElem hjl
      generalize x.supers[j] = s at hs
      have HS := Lib.hid hs
      obtain ⟨b2, o2, rfl⟩ := Slc.addrH HSL.out (by omega)
      have gs : W1.cell? ⟨b2, o2 + j, none⟩ = some (.string s) := (Strs.atH HSL.out hs).now
      have HA1 := Lib.hid (fun U hu => HAT.out U s hu)
      have w3 : (0 : Int) ≤ (j : Int) := by omega
      have w4 : (j : Int) < (x.supers.length : Int) := by omega
      clear hs
      have HBAD : Hid (supBad l k x s = true → crB l k x = false) := Lib.hid (fun h => by
        unfold crB
        have : x.supers.any (supBad l k x) = true := List.any_eq_true.2 ⟨s, List.mem_of_getElem? HS.out, h⟩
        rw [this]; simp)
      rcases idx_cases l k s with hix | ⟨m, y, hmk, hy, hix⟩
      · have HE2 := Lib.hid (HBAD.out (by unfold supBad; rw [hix]; rfl))
        rw [hix] at HA1
        clear hix HBAD
        go_wp2_with (fail)
        go_quiet ((go_at_call 82; exact (HA1.out _ (by first | exact Drw.of _ _ | exact (Drw.of _ _).drewN _)).mono fun _ _ ⟨a, b⟩ => ⟨a, _, b.symm⟩))
        go_wp2_with (fail)
        go_quiet (fail)
        go_wp2
        go_ret
        exact ⟨(by rw [HE2.out]; try rfl), HB1.out.trans (((Drw.of _ _).drewN _).drewN _ |>.below _)⟩
      have HSBE : Hid (supBad l k x s = ((decide (1 ≤ (m : Int)) && decide ((m : Int) ≤ 4)) || (y.seal_ && !decide (y.lib = x.lib)))) := Lib.hid (by
        unfold supBad
        rw [hix, decide_eq_false (show ¬ (m : Int) < 0 by omega), Int.toNat_natCast, hy]; rfl)
      rw [hix] at HA1
      obtain ⟨B2, d2', B3, d3', _, _, _, _, _, f1, _, _, _, f5⟩ := CIs.atH (H.out.keep (Keep.all HB1.out)) hy
      have f1' : W1.cell? ⟨b, off + m * 6 + 1, none⟩ = some (.string y.lib) := f1
      have f5' : W1.cell? ⟨b, off + m * 6 + 5, none⟩ = some (.bool y.seal_) := f5
      have t4 : decide ((m : Int) < 0) = false := decide_eq_false (by omega)
      have w5 : (0 : Int) ≤ (m : Int) := by omega
      have w6 : (m : Int) < (l.length : Int) := by omega
      clear hix hy hmk f1 f5
      by_cases hm1 : 1 ≤ m
      · have t5 : decide ((1 : Int) ≤ (m : Int)) = true := decide_eq_true (by omega)
        by_cases hm4 : m ≤ 4
        · have t6 : decide ((m : Int) ≤ 4) = true := decide_eq_true (by omega)
          have HE2 := Lib.hid (HBAD.out (by rw [HSBE.out, t5, t6]; rfl))
          clear HBAD HSBE w5 w6 hm1 hm4
          go_wp2_with (fail)
          go_quiet ((go_at_call 82; exact (HA1.out _ (by first | exact Drw.of _ _ | exact (Drw.of _ _).drewN _)).mono fun _ _ ⟨a, b⟩ => ⟨a, _, b.symm⟩))
          go_wp2_with (fail)
          go_quiet (fail)
          go_wp2
          go_ret
          exact ⟨(by rw [HE2.out]; try rfl), HB1.out.trans (((Drw.of _ _).drewN _).drewN _ |>.below _)⟩
        have t6 : decide ((m : Int) ≤ 4) = false := decide_eq_false (by omega)
        clear hm1 hm4
        cases hse : y.seal_ with
        | false =>
          have HSB : Hid (supBad l k x s = false) := Lib.hid (by rw [HSBE.out, t6, hse]; simp)
          rw [hse] at f5'
          clear HBAD HSBE hse
          go_wp2_with (fail)
          go_quiet ((go_at_call 82; exact (HA1.out _ (by first | exact Drw.of _ _ | exact (Drw.of _ _).drewN _)).mono fun _ _ ⟨a, b⟩ => ⟨a, _, b.symm⟩))
          go_wp2_with (fail)
          go_quiet (fail)
          go_wp2
          go_roundw
          case rel => exact ⟨j + 1, by omega, by go_num, any_take_snoc HS.out HNO.out HSB.out, Drw.of _ _⟩
          case measure => simp [intOf]; omega
        | true =>
          rw [hse] at f5'
          by_cases hli : y.lib = x.lib
          · have HSB : Hid (supBad l k x s = false) := Lib.hid (by rw [HSBE.out, t6, decide_eq_true hli]; simp)
            rw [hli] at f1'
            clear HBAD HSBE hse
            go_wp2_with (fail)
            go_quiet ((go_at_call 82; exact (HA1.out _ (by first | exact Drw.of _ _ | exact (Drw.of _ _).drewN _)).mono fun _ _ ⟨a, b⟩ => ⟨a, _, b.symm⟩))
            go_wp2_with (fail)
            go_quiet (fail)
            go_wp2
            go_roundw
            case rel => exact ⟨j + 1, by omega, by go_num, any_take_snoc HS.out HNO.out HSB.out, Drw.of _ _⟩
            case measure => simp [intOf]; omega
          · have HE2 := Lib.hid (HBAD.out (by rw [HSBE.out, hse, decide_eq_false hli]; simp))
            clear HBAD HSBE hse
            go_wp2_with (fail)
            go_quiet ((go_at_call 82; exact (HA1.out _ (by first | exact Drw.of _ _ | exact (Drw.of _ _).drewN _)).mono fun _ _ ⟨a, b⟩ => ⟨a, _, b.symm⟩))
            go_wp2_with (fail)
            go_quiet (fail)
            go_wp2
            go_ret
            exact ⟨(by rw [HE2.out]; try rfl), HB1.out.trans (((Drw.of _ _).drewN _).drewN _ |>.below _)⟩
      · have t5 : decide ((1 : Int) ≤ (m : Int)) = false := decide_eq_false (by omega)
        clear hm1
        cases hse : y.seal_ with
        | false =>
          have HSB : Hid (supBad l k x s = false) := Lib.hid (by rw [HSBE.out, t5, hse]; simp)
          rw [hse] at f5'
          clear HBAD HSBE hse
          go_wp2_with (fail)
          go_quiet ((go_at_call 82; exact (HA1.out _ (by first | exact Drw.of _ _ | exact (Drw.of _ _).drewN _)).mono fun _ _ ⟨a, b⟩ => ⟨a, _, b.symm⟩))
          go_wp2_with (fail)
          go_quiet (fail)
          go_wp2
          go_roundw
          case rel => exact ⟨j + 1, by omega, by go_num, any_take_snoc HS.out HNO.out HSB.out, Drw.of _ _⟩
          case measure => simp [intOf]; omega
        | true =>
          rw [hse] at f5'
          by_cases hli : y.lib = x.lib
          · have HSB : Hid (supBad l k x s = false) := Lib.hid (by rw [HSBE.out, t5, decide_eq_true hli]; simp)
            rw [hli] at f1'
            clear HBAD HSBE hse
            go_wp2_with (fail)
            go_quiet ((go_at_call 82; exact (HA1.out _ (by first | exact Drw.of _ _ | exact (Drw.of _ _).drewN _)).mono fun _ _ ⟨a, b⟩ => ⟨a, _, b.symm⟩))
            go_wp2_with (fail)
            go_quiet (fail)
            go_wp2
            go_roundw
            case rel => exact ⟨j + 1, by omega, by go_num, any_take_snoc HS.out HNO.out HSB.out, Drw.of _ _⟩
            case measure => simp [intOf]; omega
          · have HE2 := Lib.hid (HBAD.out (by rw [HSBE.out, hse, decide_eq_false hli]; simp))
            clear HBAD HSBE hse
            go_wp2_with (fail)
            go_quiet ((go_at_call 82; exact (HA1.out _ (by first | exact Drw.of _ _ | exact (Drw.of _ _).drewN _)).mono fun _ _ ⟨a, b⟩ => ⟨a, _, b.symm⟩))
            go_wp2_with (fail)
            go_quiet (fail)
            go_wp2
            go_ret
            exact ⟨(by rw [HE2.out]; try rfl), HB1.out.trans (((Drw.of _ _).drewN _).drewN _ |>.below _)⟩
    · obtain rfl : j = x.supers.length := by omega
      have HF : Hid (crB l k x = true) := Lib.hid (by unfold crB; rw [HE.out]; have := HNO.out; rw [List.take_length] at this; rw [this]; rfl)
      go_wp2
      go_ret
      exact ⟨(by rw [HF.out]; try rfl), HB1.out.trans (drewN_below _ _ _)⟩
end Go.Proofs.YtepnmejahbiacaaGreat
set_option linter.unusedVariables false
set_option linter.unusedSimpArgs false
namespace Go.Proofs.YtepnmejahbiacaaGreat
open Go.RowKit
/-- What is left of lists, of which some elements are removed. -/
def dropsL (L : List (List ByteArray)) (ats : List Nat) : List (List ByteArray) := List.zipWith (fun y n => y.drop n) L ats
theorem dropsL_get {L : List (List ByteArray)} {ats : List Nat} {j : Nat} {y : List ByteArray} {n : Nat} (h1 : L[j]? = some y) (h2 : ats[j]? = some n) : (dropsL L ats)[j]? = some (y.drop n) := by
  unfold dropsL
  rw [List.getElem?_zipWith, h1, h2]
theorem dropsL_len {L : List (List ByteArray)} {ats : List Nat} (h : ats.length = L.length) : (dropsL L ats).length = L.length := by
  unfold dropsL; rw [List.length_zipWith, h, Nat.min_self]
/-- A list whose head is a candidate. -/
def isC (D : List (List ByteArray)) : List ByteArray → Bool
  | [] => false
  | s :: _ => candGood D s
def candIx (D : List (List ByteArray)) : Int := match D.findIdx? (isC D) with
  | some i => i
  | none => -1
theorem cand_first (D : List (List ByteArray)) : ∀ R, cand D R = (R.find? (isC D)).bind List.head?
  | [] => rfl
  | [] :: R => by
    rw [cand, cand_first D R, List.find?_cons_of_neg (by simp [isC])]
  | (s :: t) :: R => by
    rw [cand]
    by_cases h : candGood D s = true
    · rw [if_pos h, List.find?_cons_of_pos (by simpa [isC] using h)]; rfl
    · rw [if_neg h, cand_first D R, List.find?_cons_of_neg (by simpa [isC] using h)]
theorem candIx_some {D : List (List ByteArray)} {k : Nat} {z : List ByteArray} (hz : D[k]? = some z) (hc : isC D z = true) (hno : ∀ (j : Nat) (y : List ByteArray), j < k → D[j]? = some y → isC D y = false) : candIx D = k ∧ cand D D = z.head? := by
  obtain ⟨hk, e⟩ := List.getElem?_eq_some_iff.1 hz
  constructor
  · unfold candIx
    have : D.findIdx? (isC D) = some k := by
      rw [List.findIdx?_eq_some_iff_getElem]
      refine ⟨hk, by rw [e]; exact hc, fun j hj => ?_⟩
      have := hno j _ hj (List.getElem?_eq_getElem (by omega))
      simp [this]
    rw [this]
  · rw [cand_first]
    have : D.find? (isC D) = some z := by
      rw [List.find?_eq_some_iff_getElem]
      refine ⟨hc, k, hk, e, fun j hj => ?_⟩
      have := hno j _ hj (List.getElem?_eq_getElem (by omega))
      simp [this]
    rw [this]; rfl
theorem candIx_none {D : List (List ByteArray)} (hno : ∀ (j : Nat) (y : List ByteArray), D[j]? = some y → isC D y = false) : candIx D = -1 ∧ cand D D = none := by
  constructor
  · unfold candIx
    have : D.findIdx? (isC D) = none := by
      rw [List.findIdx?_eq_none_iff]
      intro y hy
      obtain ⟨j, hj⟩ := List.mem_iff_getElem?.1 hy
      exact hno j y hj
    rw [this]
  · rw [cand_first]
    have : D.find? (isC D) = none := by
      rw [List.find?_eq_none]
      intro y hy
      obtain ⟨j, hj⟩ := List.mem_iff_getElem?.1 hy
      rw [hno j y hj]; simp
    rw [this]; rfl
set_option maxHeartbeats 16000000 in
set_option maxRecDepth 100000 in
theorem cand7_calls (A : Option Addr) (c : Nat) (L : List (List ByteArray)) (AI : Option Addr) (ci : Nat) (ats : List Nat) (w : World) (hlen : ats.length = L.length) (hL : Lsts A L w) (hI : Ints AI (ats.map fun n : Nat => (n : Int)) w)
    (hle : ∀ (j : Nat) y n, L[j]? = some y → ats[j]? = some n → n ≤ y.length) (hl : L.length ≤ 1000000) (hll : ∀ x ∈ L, x.length ≤ 1000000) :
    Calls Tryz.prog 206 #[.slice A L.length c, .slice AI L.length ci] w fun e w' => e = .returned (.int .i64 (candIx (dropsL L ats))) ∧ Drw w w' := by
  have H := Slc.stable lstR_stable hL
  have HI := Slc.stable intR_stable hI
  have get : ∀ k, k < L.length → ∃ y n b off A1 c1 b2 o2, L[k]? = some y ∧ ats[k]? = some n ∧ n ≤ y.length ∧ y.length ≤ 1000000 ∧ A = some ⟨b, off, none⟩ ∧ AI = some ⟨b2, o2, none⟩ ∧ y.length ≤ c1 ∧ Strs A1 y w ∧ w.cell? ⟨b, off + k, none⟩ = some (.slice A1 y.length c1) ∧ w.cell? ⟨b2, o2 + k, none⟩ = some (.int .i64 (n : Int)) := fun k hk => by
    have h1 : L[k]? = some L[k] := List.getElem?_eq_getElem hk
    have h2 : ats[k]? = some ats[k] := List.getElem?_eq_getElem (by omega)
    obtain ⟨b, off, rfl⟩ := hL.addr (by omega)
    obtain ⟨A1, c1, r1, R1, g1⟩ := Lsts.atH H h1
    obtain ⟨b2, o2, rfl⟩ := hI.addr (by simp; omega)
    obtain ⟨b2', o2', cs, e, _, hr, hc⟩ := hI k (ats[k] : Int) (by rw [List.getElem?_map, h2]; rfl)
    cases e
    have e : cs = [.int .i64 (ats[k] : Int)] := hr
    rw [e] at hc
    exact ⟨_, _, b, off, A1, c1, b2, o2, h1, h2, hle k _ _ h1 h2, hll _ (List.getElem_mem hk), rfl, rfl, r1, R1.now, g1, by simpa using hc 0 _ rfl⟩
  have GET := Lib.hid get
  obtain ⟨D, hD⟩ : ∃ D, dropsL L ats = D := ⟨_, rfl⟩
  have DG : Hid (∀ (k : Nat) (y : List ByteArray) (n : Nat), L[k]? = some y → ats[k]? = some n → D[k]? = some (y.drop n)) := Lib.hid (fun k y n h1 h2 => hD ▸ dropsL_get h1 h2)
  have DL : Hid (D.length = L.length) := Lib.hid (hD ▸ dropsL_len hlen)
  rw [hD]
  clear hD get H HI hL hI hle hll hlen
  go_enter Tryz.func206, Tryz.ntmps206
  go_wp2_with (fail)
  go_loopw [5] (fun i wr => ∃ k : Nat, k ≤ L.length ∧ i = .int .i64 k ∧ (∀ (j : Nat) (y : List ByteArray), j < k → D[j]? = some y → isC D y = false) ∧ Drw w wr) (fun i _ => L.length - (intOf i).toNat)
  case atStart => exact ⟨0, Nat.zero_le _, rfl, fun j y h => absurd h (by omega), Drw.refl _⟩
  case round =>
    obtain ⟨k, hk, rfl, hno, hd⟩ := hrel
    obtain ⟨q, rfl⟩ := hd
    have HNO := Lib.hid hno
    clear hno
    by_cases hlt : k < L.length
    · obtain ⟨y, n, b, off, A1, c1, b2, o2, h1, h2, hny, hyl, rfl, rfl, hyc, hS, g1, g2⟩ := GET.out k hlt
      have HZ := Lib.hid (DG.out k y n h1 h2)
      have w1 : (0 : Int) ≤ (k : Int) := by omega
      have w2 : (k : Int) < (L.length : Int) := by omega
      by_cases hn : n = y.length
      · have t1 : ((n : Int) == (y.length : Int)) = true := beq_iff_eq.2 (by omega)
        have HC : Hid (isC D (y.drop n) = false) := Lib.hid (by rw [hn, List.drop_length]; rfl)
        clear hn h1 h2
        go_wp2_with (fail)
        go_quiet (fail)
        go_wp2
        go_roundw
        case rel =>
          refine ⟨k + 1, by omega, by go_num, fun j z hj hz => ?_, Drw.of _ _⟩
          rcases Nat.lt_or_ge j k with p | p
          · exact HNO.out j z p hz
          · obtain rfl : j = k := by omega
            rw [HZ.out] at hz; cases hz; exact HC.out
        case measure => simp [intOf]; omega
      · have t1 : ((n : Int) == (y.length : Int)) = false := beq_eq_false_iff_ne.2 (by omega)
        have hnl : n < y.length := by omega
        have hs : y[n]? = some y[n] := List.getElem?_eq_getElem hnl
        have hdr : y.drop n = y[n] :: y.drop (n + 1) := List.drop_eq_getElem_cons hnl
        generalize y[n] = s at hs hdr
        have HC : Hid (isC D (y.drop n) = candGood D s) := Lib.hid (by rw [hdr]; rfl)
        have HH : Hid ((y.drop n).head? = some s) := Lib.hid (by rw [hdr]; rfl)
        obtain ⟨b1, o1, rfl⟩ := hS.addr (by omega)
        have gs := Strs.at hS hs
        have w3 : (0 : Int) ≤ (n : Int) := by omega
        have w4 : (n : Int) < (y.length : Int) := by omega
        have HK := Lib.hid (And.intro hnl hk)
        clear h1 h2 hs hdr hn hnl
        go_wp2_with (fail)
        go_quiet (fail)
        go_wp2_with (fail)
        go_loopw [6, 7] (fun g m wr => ∃ j : Nat, j ≤ L.length ∧ m = .int .i64 j ∧ (∃ v, g = .bool v ∧ ((v = true ∧ ∀ (i : Nat) (z : List ByteArray), i < j → D[i]? = some z → hasS z.tail s = false) ∨ (v = false ∧ candGood D s = false))) ∧ Drw w wr) (fun _ m _ => L.length - (intOf m).toNat)
        case atStart => exact ⟨0, Nat.zero_le _, rfl, ⟨true, rfl, .inl ⟨rfl, fun i z h => absurd h (Nat.not_lt_zero _)⟩⟩, (Drw.of _ _).drewN _⟩
        case round =>
          obtain ⟨j, hj, rfl, ⟨v, rfl, hv⟩, hd⟩ := hrel
          obtain ⟨q2, rfl⟩ := hd
          rcases hv with ⟨rfl, hgo⟩ | ⟨rfl, hbad⟩
          rotate_left
          · have HC2 : Hid (isC D (y.drop n) = false) := Lib.hid (HC.out.trans hbad)
            have fin : ∀ i z, i < k + 1 → D[i]? = some z → isC D z = false := fun i z hi hz => by
              rcases Nat.lt_or_ge i k with p | p
              · exact HNO.out i z p hz
              · obtain rfl : i = k := by omega
                rw [HZ.out] at hz; cases hz; exact HC2.out
            have FIN := Lib.hid fin
            clear fin hbad
            by_cases hjl : (j : Int) < (L.length : Int)
            · go_wp2
              exact ⟨⟨k + 1, by omega, by go_num, FIN.out, Drw.of _ _⟩, by simp [intOf]; omega⟩
            · go_wp2
              exact ⟨⟨k + 1, by omega, by go_num, FIN.out, Drw.of _ _⟩, by simp [intOf]; omega⟩
          have HGO := Lib.hid hgo
          clear hgo
          by_cases hjl : j < L.length
          · obtain ⟨y2, n2, b', off', A4, c4, b2', o2', e1, e2, hny2, hyl2, e3, e4, hyc2, hS2, g3, g4⟩ := GET.out j hjl
            cases e3
            cases e4
            have HZ2 := Lib.hid (DG.out j y2 n2 e1 e2)
            have w5 : (0 : Int) ≤ (j : Int) := by omega
            have w6 : (j : Int) < (L.length : Int) := by omega
            clear e1 e2
            by_cases hn2 : n2 = y2.length
            · have t2 : ((n2 : Int) == (y2.length : Int)) = true := beq_iff_eq.2 (by omega)
              have HN : Hid (hasS (y2.drop n2).tail s = false) := Lib.hid (by rw [hn2, List.drop_length]; rfl)
              clear hn2
              go_wp2_with (fail)
              go_quiet (fail)
              go_wp2
              go_roundw
              case rel =>
                refine ⟨j + 1, by omega, by go_num, ⟨true, rfl, .inl ⟨rfl, fun i z hi hz => ?_⟩⟩, Drw.of _ _⟩
                rcases Nat.lt_or_ge i j with p | p
                · exact HGO.out i z p hz
                · obtain rfl : i = j := by omega
                  rw [HZ2.out] at hz; cases hz; exact HN.out
              case measure => simp [intOf]; omega
            · have t2 : ((n2 : Int) == (y2.length : Int)) = false := beq_eq_false_iff_ne.2 (by omega)
              have hnl2 : n2 < y2.length := by omega
              obtain ⟨b5, o5, rfl⟩ := hS2.addr (by omega)
              have w7 : IntKind.i64.wrap ((n2 : Int) + 1) = (n2 : Int) + 1 := by first | exact wrap64_in _ ⟨by omega, by omega⟩ | (simp [IntKind.wrap, IntKind.bits, IntKind.signed]; omega)
              have w8 : (0 : Int) ≤ (n2 : Int) + 1 := by omega
              have w9 : (n2 : Int) + 1 ≤ (y2.length : Int) := by omega
              have w10 : ((n2 : Int) + 1).toNat = n2 + 1 := by omega
              have ht : (y2.drop n2).tail = y2.drop (n2 + 1) := by rw [List.tail_drop]
              have hdl : (y2.drop (n2 + 1)).length = y2.length - (n2 + 1) := List.length_drop
              have HIX : Hid (∀ U, Drw w U → Calls Tryz.prog 97 #[.slice (if c4 = n2 + 1 then some ⟨b5, o5, none⟩ else some ⟨b5, o5 + (n2 + 1), none⟩) (y2.length - (n2 + 1)) (c4 - (n2 + 1)), .string s] U fun e w' => e = .returned (.int .i64 (idx (y2.drop (n2 + 1)) s)) ∧ U = w') := Lib.hid (fun U hu => by
                obtain ⟨m, rfl⟩ := hu
                have hSD : Strs (if c4 = n2 + 1 then some ⟨b5, o5, none⟩ else some ⟨b5, o5 + (n2 + 1), none⟩) (y2.drop (n2 + 1)) w := by
                  by_cases q : c4 = n2 + 1
                  · have : y2.drop (n2 + 1) = [] := List.drop_eq_nil_of_le (by omega)
                    rw [this]
                    exact Slc.nil _ _ _ _
                  · rw [if_neg q]
                    simpa using Slc.drop hS2 (n2 + 1)
                have := rIndex_calls _ (c4 - (n2 + 1)) (y2.drop (n2 + 1)) s (w.drewN m) ((Slc.stable strR_stable hSD).keep (Keep.drewN _ _ _)).now (by rw [hdl]; omega)
                rw [hdl] at this
                exact this)
              have HGE : Hid (decide (0 ≤ idx (y2.drop (n2 + 1)) s) = hasS (y2.drop (n2 + 1)) s) := Lib.hid idx_ge
              have HT := Lib.hid ht
              have HJ := Lib.hid hjl
              clear ht hdl hn2
              cases hh : hasS (y2.drop (n2 + 1)) s with
              | true =>
                have t3 : decide (idx (y2.drop (n2 + 1)) s < 0) = false := decide_eq_false (by have := of_decide_eq_true (HGE.out.trans hh); omega)
                have HB : Hid (candGood D s = false) := Lib.hid (candGood_false (List.mem_of_getElem? HZ2.out) (by rw [HT.out]; exact hh))
                generalize idx (y2.drop (n2 + 1)) s = ix at HIX t3
                clear hh HGE
                go_wp2_with (fail)
                go_quiet ((go_at_call 97; exact (HIX.out _ (by first | exact Drw.of _ _ | exact (Drw.of _ _).drewN _)).mono fun _ _ ⟨a, b⟩ => ⟨a, _, b.symm⟩))
                go_wp2
                go_roundw
                case rel => exact ⟨j + 1, HJ.out, by go_num, ⟨false, rfl, .inr ⟨rfl, HB.out⟩⟩, Drw.of _ _⟩
                case measure => have := HJ.out; simp [intOf]; omega
              | false =>
                have t3 : decide (idx (y2.drop (n2 + 1)) s < 0) = true := decide_eq_true (by have := of_decide_eq_false (HGE.out.trans hh); omega)
                have HN : Hid (hasS (y2.drop n2).tail s = false) := Lib.hid (by rw [HT.out]; exact hh)
                generalize idx (y2.drop (n2 + 1)) s = ix at HIX t3
                clear hh HGE
                go_wp2_with (fail)
                go_quiet ((go_at_call 97; exact (HIX.out _ (by first | exact Drw.of _ _ | exact (Drw.of _ _).drewN _)).mono fun _ _ ⟨a, b⟩ => ⟨a, _, b.symm⟩))
                go_wp2
                go_roundw
                case rel =>
                  refine ⟨j + 1, HJ.out, by go_num, ⟨true, rfl, .inl ⟨rfl, fun i z hi hz => ?_⟩⟩, Drw.of _ _⟩
                  rcases Nat.lt_or_ge i j with p | p
                  · exact HGO.out i z p hz
                  · obtain rfl : i = j := by omega
                    rw [HZ2.out] at hz; cases hz; exact HN.out
                case measure => have := HJ.out; simp [intOf]; omega
          · obtain rfl : j = L.length := by omega
            have HG : Hid (candGood D s = true) := Lib.hid (candGood_true fun i z hi hz => HGO.out i z (by have := DL.out; omega) hz)
            have HB := Lib.hid (candIx_some HZ.out (HC.out.trans HG.out) HNO.out)
            go_wp2
            go_ret
            exact ⟨(by rw [HB.out.1]; try rfl), Drw.of _ _⟩
    · obtain rfl : k = L.length := by omega
      have HB := Lib.hid (candIx_none (D := D) (fun j z hz => HNO.out j z (by have := (List.getElem?_eq_some_iff.1 hz).1; have := DL.out; omega) hz))
      go_wp2
      go_ret
      exact ⟨(by rw [HB.out.1]; try rfl), Drw.of _ _⟩
end Go.Proofs.YtepnmejahbiacaaGreat
