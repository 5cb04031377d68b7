/- Part 6 of the proof: Bb, Cm, Vi. -/
import Derived.Test.YtepnmejahbiacaaGreatK05
import Derived.Test.YtepnmejahbiacaaGreatK01
import Derived.BigQuiet
import Derived.Deep.Draws
import Derived.Deep.LoopGhost
import Derived.Deep.QuietTactic
import Derived.KernelRfl
import Derived.Lib.Hide
import Derived.Maps.AppendAt
import Derived.Outline
import Derived.Test.YtepnmejahbiacaaGreatProg
import Derived.WalkKit
import Derived.WalkSpells
import Derived.Test.YtepnmejahbiacaaGreatK02
import Derived.Test.YtepnmejahbiacaaGreatK03
set_option linter.unusedVariables false
set_option linter.unusedSimpArgs false
namespace Go.Proofs.YtepnmejahbiacaaGreat
open Go.RowKit
theorem Own.limit' {α : Type} {R : α → List Value → World → Prop} {T sz base : Nat} {G : Nat → Prop} {v : Value} {l : List α} {w : World} (h : Own R T sz base G v l w) : Own R T sz base (fun b => G b ∧ b < w.heap.size) v l w := by
  obtain ⟨xs, h1, h2⟩ := h
  exact ⟨xs, h1, h2.imp fun _ _ hx => hx.lt⟩
theorem base_step (name : ByteArray) (above : List ByteArray) (W : World) {l : List CI} {xs : List Value} (E : Enc (fun x cs => Held (fun b => b < W.heap.size) (ciR x cs) W) 6 l xs) (hl : above.length ≤ 1000000) :
    Calls Tryz.prog 120 #[.string name, .slice (some ⟨W.heap.size, 0, none⟩) above.length above.length] (W.alloc (.cells (above.map Value.string).toArray 9)) fun e w' =>
      ∃ A2 n2 c2 A3 n3 c3, e = .returned (.agg #[.string name, .string ⟨#[]⟩, .slice A2 n2 c2, .slice A3 n3 c3, .bool false, .bool false]) ∧
        Enc (fun x cs => Held (fun b => b < w'.heap.size) (ciR x cs) w') 6 (l ++ [baseCI name above]) (xs ++ [.string name, .string ⟨#[]⟩, .slice A2 n2 c2, .slice A3 n3 c3, .bool false, .bool false]) ∧ Below W.heap.size W w' := by
  refine (base_calls name _ _ above (Nat.le_refl _) (fun b => b = W.heap.size) _ (Strs.lit _ W above 9 rfl) hl).mono ?_
  rintro e w' ⟨A2, c2, A3, c3, rfl, h, hb⟩
  have b1 : Below W.heap.size W w' := ((Below.refl _ W).alloc (Nat.le_refl _) _).trans (hb.mono (by simp))
  have hs := hb.size
  rw [World.size_alloc] at hs
  refine ⟨A2, _, c2, A3, _, c3, rfl, .snoc (E.imp fun x cs hx => (hx.keep (Keep.all b1)).mono fun b _ hb => Nat.lt_of_lt_of_le hb b1.size) (h.mono fun b hb _ => hb) rfl, b1⟩
theorem base_first (name : ByteArray) (W : World) :
    Calls Tryz.prog 120 #[.string name, .slice none 0 0] W fun e w' =>
      ∃ A2 n2 c2 A3 n3 c3, e = .returned (.agg #[.string name, .string ⟨#[]⟩, .slice A2 n2 c2, .slice A3 n3 c3, .bool false, .bool false]) ∧
        Enc (fun x cs => Held (fun b => b < w'.heap.size) (ciR x cs) w') 6 [baseCI name []] [.string name, .string ⟨#[]⟩, .slice A2 n2 c2, .slice A3 n3 c3, .bool false, .bool false] ∧ Below W.heap.size W w' := by
  refine (base_calls name none 0 [] (Nat.le_refl _) (fun b => False) W (fun _ _ => Slc.nil _ _ _ _) (by simp)).mono ?_
  rintro e w' ⟨A2, c2, A3, c3, rfl, h, hb⟩
  exact ⟨A2, _, c2, A3, _, c3, rfl, .snoc (l := []) (xs := []) .nil (h.mono fun b hb _ => hb) rfl, hb⟩
theorem OwnCI.at {T base : Nat} {G : Nat → Prop} {l : List CI} {w : World} {g c n : Nat} (h : Own ciR T 6 base G (.slice (some ⟨g, 0, none⟩) n c) l w) {i : Nat} {x : CI} (hx : l[i]? = some x) :
    ∃ A2 c2 A3 c3, x.supers.length ≤ c2 ∧ x.cpl.length ≤ c3 ∧ Held G (Strs A2 x.supers) w ∧ Held G (Strs A3 x.cpl) w ∧
      (w.cell? ⟨g, i * 6 + 2, none⟩ = some (.slice A2 x.supers.length c2) ∧ w.frozen? ⟨g, i * 6 + 2, none⟩ = false) ∧
      (w.cell? ⟨g, i * 6 + 4, none⟩ = some (.bool x.abs) ∧ w.frozen? ⟨g, i * 6 + 4, none⟩ = false) ∧
      (w.cell? ⟨g, i * 6 + 5, none⟩ = some (.bool x.seal_) ∧ w.frozen? ⟨g, i * 6 + 5, none⟩ = false) := by
  obtain ⟨cs, _, hr, hc⟩ := h.get hx
  obtain ⟨A2, c2, A3, c3, rfl, h1, h2, h3, h4⟩ := ciR.openH hr
  exact ⟨A2, c2, A3, c3, h1, h2, h3, h4, hc 2 _ rfl, hc 4 _ rfl, hc 5 _ rfl⟩
theorem OwnCI.sealing {T base : Nat} {G : Nat → Prop} {l : List CI} {w : World} {g c n : Nat} (h : Own ciR T 6 base G (.slice (some ⟨g, 0, none⟩) n c) l w) {i : Nat} {x : CI} (hx : l[i]? = some x) (hG : ∀ b, G b → b ≠ g) (v : Bool) :
    Own ciR T 6 base G (.slice (some ⟨g, 0, none⟩) n c) (l.set i { x with seal_ := v }) (w.setCell ⟨g, i * 6 + 5, none⟩ (.bool v)) :=
  h.store (j := 5) rfl hx (by decide) hG fun cs _ hr => by
    obtain ⟨A2, c2, A3, c3, rfl, h1, h2, h3, h4⟩ := ciR.openH hr
    exact ciR.mk (x := { x with seal_ := v }) h1 h2 h3 h4
theorem OwnCI.sup {T base : Nat} {G : Nat → Prop} {l : List CI} {w : World} {g c n : Nat} (h : Own ciR T 6 base G (.slice (some ⟨g, 0, none⟩) n c) l w) {i : Nat} {x : CI} (hx : l[i]? = some x) (hG : ∀ b, G b → b ≠ g) (A : Option Addr) (ca : Nat) (hca : x.supers.length ≤ ca) (hA : Held G (Strs A x.supers) w) :
    Own ciR T 6 base G (.slice (some ⟨g, 0, none⟩) n c) l (w.setCell ⟨g, i * 6 + 2, none⟩ (.slice A x.supers.length ca)) := by
  have := h.store (x' := x) (u := .slice A x.supers.length ca) (j := 2) rfl hx (by decide) hG fun cs _ hr => by
    obtain ⟨A2, c2, A3, c3, rfl, h1, h2, h3, h4⟩ := ciR.openH hr
    exact ciR.mk (x := x) hca h2 hA h4
  rwa [set_same hx] at this
/-- The base classes, as they are made. -/
def base0 : List CI := [baseCI ⟨#[60, 111, 98, 106, 101, 99, 116, 62]⟩ [],
  baseCI ⟨#[60, 105, 110, 116, 101, 103, 101, 114, 62]⟩ [⟨#[60, 111, 98, 106, 101, 99, 116, 62]⟩],
  baseCI ⟨#[60, 98, 111, 111, 108, 101, 97, 110, 62]⟩ [⟨#[60, 111, 98, 106, 101, 99, 116, 62]⟩],
  baseCI ⟨#[60, 99, 108, 97, 115, 115, 62]⟩ [⟨#[60, 111, 98, 106, 101, 99, 116, 62]⟩],
  baseCI ⟨#[60, 102, 117, 110, 99, 116, 105, 111, 110, 62]⟩ [⟨#[60, 111, 98, 106, 101, 99, 116, 62]⟩],
  baseCI ⟨#[60, 99, 111, 110, 100, 105, 116, 105, 111, 110, 62]⟩ [⟨#[60, 111, 98, 106, 101, 99, 116, 62]⟩],
  baseCI ⟨#[60, 115, 101, 114, 105, 111, 117, 115, 45, 99, 111, 110, 100, 105, 116, 105, 111, 110, 62]⟩ [⟨#[60, 99, 111, 110, 100, 105, 116, 105, 111, 110, 62]⟩, ⟨#[60, 111, 98, 106, 101, 99, 116, 62]⟩],
  baseCI ⟨#[60, 119, 97, 114, 110, 105, 110, 103, 62]⟩ [⟨#[60, 99, 111, 110, 100, 105, 116, 105, 111, 110, 62]⟩, ⟨#[60, 111, 98, 106, 101, 99, 116, 62]⟩],
  baseCI ⟨#[60, 114, 101, 115, 116, 97, 114, 116, 62]⟩ [⟨#[60, 99, 111, 110, 100, 105, 116, 105, 111, 110, 62]⟩, ⟨#[60, 111, 98, 106, 101, 99, 116, 62]⟩],
  baseCI ⟨#[60, 101, 114, 114, 111, 114, 62]⟩ [⟨#[60, 115, 101, 114, 105, 111, 117, 115, 45, 99, 111, 110, 100, 105, 116, 105, 111, 110, 62]⟩, ⟨#[60, 99, 111, 110, 100, 105, 116, 105, 111, 110, 62]⟩, ⟨#[60, 111, 98, 106, 101, 99, 116, 62]⟩],
  baseCI ⟨#[60, 102, 97, 117, 108, 116, 62]⟩ [⟨#[60, 101, 114, 114, 111, 114, 62]⟩, ⟨#[60, 115, 101, 114, 105, 111, 117, 115, 45, 99, 111, 110, 100, 105, 116, 105, 111, 110, 62]⟩, ⟨#[60, 99, 111, 110, 100, 105, 116, 105, 111, 110, 62]⟩, ⟨#[60, 111, 98, 106, 101, 99, 116, 62]⟩]]
def sealN : Nat → List CI
  | 0 => match base0 with
    | x :: r => { x with abs := true } :: r
    | [] => []
  | k + 1 => match (sealN k)[1 + k]? with
    | some x => (sealN k).set (1 + k) { x with seal_ := true }
    | none => sealN k
/-- The base classes. -/
def baseL : List CI := sealN 4
theorem sealN_len : ∀ k, (sealN k).length = 11
  | 0 => rfl
  | k + 1 => by
    simp only [sealN]
    split
    · rw [List.length_set]; exact sealN_len k
    · exact sealN_len k
theorem sealN_succ {k : Nat} {x : CI} (h : (sealN k)[1 + k]? = some x) : sealN (k + 1) = (sealN k).set (1 + k) { x with seal_ := true } := by simp only [sealN, h]
theorem getElem?_lt' {α : Type} {l : List α} {i : Nat} (h : i < l.length) : l[i]? = some l[i] := List.getElem?_eq_getElem h
set_option maxHeartbeats 8000000 in
set_option maxRecDepth 100000 in
theorem Base_calls (w : World) : Calls Tryz.prog 76 #[] w fun e w' =>
    ∃ v, e = .returned v ∧ Own ciR 110 6 w.heap.size (fun b => b < w'.heap.size ∧ v.ownBlock ≠ some b) v baseL w' ∧ Below w.heap.size w w' := by
  go_enter Tryz.func76, Tryz.ntmps76
  go_wp2_with (fail)
  refine (base_first _ _).mono ?_
  rintro e W0 ⟨a0, n0, c0, d0, m0, k0, rfl, E0, b0⟩
  go_wp2_with (fail)
  refine (base_step ⟨#[60, 105, 110, 116, 101, 103, 101, 114, 62]⟩ [⟨#[60, 111, 98, 106, 101, 99, 116, 62]⟩] W0 E0 (by decide)).mono ?_
  rintro e W1 ⟨a1, n1, c1, d1, m1, k1, rfl, E1, hb⟩
  have b1 := b0.trans (hb.mono b0.size)
  clear hb b0 E0
  go_wp2_with (fail)
  refine (base_step ⟨#[60, 98, 111, 111, 108, 101, 97, 110, 62]⟩ [⟨#[60, 111, 98, 106, 101, 99, 116, 62]⟩] W1 E1 (by decide)).mono ?_
  rintro e W2 ⟨a2, n2, c2, d2, m2, k2, rfl, E2, hb⟩
  have b2 := b1.trans (hb.mono b1.size)
  clear hb b1 E1
  go_wp2_with (fail)
  refine (base_step ⟨#[60, 99, 108, 97, 115, 115, 62]⟩ [⟨#[60, 111, 98, 106, 101, 99, 116, 62]⟩] W2 E2 (by decide)).mono ?_
  rintro e W3 ⟨a3, n3, c3, d3, m3, k3, rfl, E3, hb⟩
  have b3 := b2.trans (hb.mono b2.size)
  clear hb b2 E2
  go_wp2_with (fail)
  refine (base_step ⟨#[60, 102, 117, 110, 99, 116, 105, 111, 110, 62]⟩ [⟨#[60, 111, 98, 106, 101, 99, 116, 62]⟩] W3 E3 (by decide)).mono ?_
  rintro e W4 ⟨a4, n4, c4, d4, m4, k4, rfl, E4, hb⟩
  have b4 := b3.trans (hb.mono b3.size)
  clear hb b3 E3
  go_wp2_with (fail)
  refine (base_step ⟨#[60, 99, 111, 110, 100, 105, 116, 105, 111, 110, 62]⟩ [⟨#[60, 111, 98, 106, 101, 99, 116, 62]⟩] W4 E4 (by decide)).mono ?_
  rintro e W5 ⟨a5, n5, c5, d5, m5, k5, rfl, E5, hb⟩
  have b5 := b4.trans (hb.mono b4.size)
  clear hb b4 E4
  go_wp2_with (fail)
  refine (base_step ⟨#[60, 115, 101, 114, 105, 111, 117, 115, 45, 99, 111, 110, 100, 105, 116, 105, 111, 110, 62]⟩ [⟨#[60, 99, 111, 110, 100, 105, 116, 105, 111, 110, 62]⟩, ⟨#[60, 111, 98, 106, 101, 99, 116, 62]⟩] W5 E5 (by decide)).mono ?_
  rintro e W6 ⟨a6, n6, c6, d6, m6, k6, rfl, E6, hb⟩
  have b6 := b5.trans (hb.mono b5.size)
  clear hb b5 E5
  go_wp2_with (fail)
  refine (base_step ⟨#[60, 119, 97, 114, 110, 105, 110, 103, 62]⟩ [⟨#[60, 99, 111, 110, 100, 105, 116, 105, 111, 110, 62]⟩, ⟨#[60, 111, 98, 106, 101, 99, 116, 62]⟩] W6 E6 (by decide)).mono ?_
  rintro e W7 ⟨a7, n7, c7, d7, m7, k7, rfl, E7, hb⟩
  have b7 := b6.trans (hb.mono b6.size)
  clear hb b6 E6
  go_wp2_with (fail)
  refine (base_step ⟨#[60, 114, 101, 115, 116, 97, 114, 116, 62]⟩ [⟨#[60, 99, 111, 110, 100, 105, 116, 105, 111, 110, 62]⟩, ⟨#[60, 111, 98, 106, 101, 99, 116, 62]⟩] W7 E7 (by decide)).mono ?_
  rintro e W8 ⟨a8, n8, c8, d8, m8, k8, rfl, E8, hb⟩
  have b8 := b7.trans (hb.mono b7.size)
  clear hb b7 E7
  go_wp2_with (fail)
  refine (base_step ⟨#[60, 101, 114, 114, 111, 114, 62]⟩ [⟨#[60, 115, 101, 114, 105, 111, 117, 115, 45, 99, 111, 110, 100, 105, 116, 105, 111, 110, 62]⟩, ⟨#[60, 99, 111, 110, 100, 105, 116, 105, 111, 110, 62]⟩, ⟨#[60, 111, 98, 106, 101, 99, 116, 62]⟩] W8 E8 (by decide)).mono ?_
  rintro e W9 ⟨a9, n9, c9, d9, m9, k9, rfl, E9, hb⟩
  have b9 := b8.trans (hb.mono b8.size)
  clear hb b8 E8
  go_wp2_with (fail)
  refine (base_step ⟨#[60, 102, 97, 117, 108, 116, 62]⟩ [⟨#[60, 101, 114, 114, 111, 114, 62]⟩, ⟨#[60, 115, 101, 114, 105, 111, 117, 115, 45, 99, 111, 110, 100, 105, 116, 105, 111, 110, 62]⟩, ⟨#[60, 99, 111, 110, 100, 105, 116, 105, 111, 110, 62]⟩, ⟨#[60, 111, 98, 106, 101, 99, 116, 62]⟩] W9 E9 (by decide)).mono ?_
  rintro e W10 ⟨a10, n10, c10, d10, m10, k10, rfl, E10, hb⟩
  have b10 := b9.trans (hb.mono b9.size)
  clear hb b9 E9
  have E11 := Enc.set E10 (x' := { (baseCI ⟨#[60, 111, 98, 106, 101, 99, 116, 62]⟩ []) with abs := true }) (u := .bool true) (j := 4) (by decide) 0 _ rfl (fun cs _ hr => by
    obtain ⟨A2, c2, A3, c3, rfl, h1, h2, h3, h4⟩ := ciR.openH hr
    exact ciR.mk (x := { (baseCI ⟨#[60, 111, 98, 106, 101, 99, 116, 62]⟩ []) with abs := true }) h1 h2 h3 h4)
  have hO1 : Own ciR 110 6 w.heap.size (fun b => b ≠ W10.heap.size) (.slice (some ⟨W10.heap.size, 0, none⟩) 11 11) (sealN 0) _ := ((Own.many (R := ciR) (T := 110) rfl (Nat.le_refl _) (by decide) (by decide) E11).lower b10.size).mono fun b _ hb => Nat.ne_of_lt hb
  clear E10 E11
  go_wp2_with (fail)
  go_loopw [29] (fun i wr => ∃ k : Nat, k ≤ 4 ∧ i = .int .i64 k ∧ Own ciR 110 6 w.heap.size (fun b => b ≠ W10.heap.size) (.slice (some ⟨W10.heap.size, 0, none⟩) 11 11) (sealN k) wr ∧ Below w.heap.size w wr ∧ W10.heap.size < wr.heap.size) (fun i _ => 4 - (intOf i).toNat)
  case atStart => exact ⟨0, by decide, rfl, hO1, b10.alloc b10.size _, by simp⟩
  case round =>
    clear hO1
    obtain ⟨k, hk, rfl, hO, hb, hX⟩ := hrel
    by_cases hlt : k < 4
    · have hx := getElem?_lt' (l := sealN k) (i := 1 + k) (by rw [sealN_len]; omega)
      have HS : Hid (sealN (k + 1) = _) := Lib.hid (sealN_succ hx)
      generalize ((sealN k)[1 + k]'(by rw [sealN_len]; omega)) = x at hx HS
      obtain ⟨A2, q2, A3, q3, _, _, _, _, _, _, g5, f5⟩ := OwnCI.at hO hx
      have hO2 := OwnCI.sealing hO hx (fun b h => h) true
      go_wp2_with (fail)
      have hg : (wr.setCell ⟨W10.heap.size, (1 + k) * 6 + 5, none⟩ (.bool true)).heap.size = wr.heap.size := by simp [World.setCell]
      exact ⟨⟨k + 1, by omega, by go_num, by rw [HS.out]; exact hO2, hb.setCell b10.size _, by rw [hg]; exact hX⟩, by simp [intOf]; omega⟩
    · obtain rfl : k = 4 := by omega
      go_wp2_with (fail)
      go_loopw [40] (fun i wr => ∃ k : Nat, k ≤ 11 ∧ i = .int .i64 k ∧ Own ciR 110 6 w.heap.size (fun b => b ≠ W10.heap.size) (.slice (some ⟨W10.heap.size, 0, none⟩) 11 11) baseL wr ∧ Below w.heap.size w wr ∧ W10.heap.size < wr.heap.size) (fun i _ => 11 - (intOf i).toNat)
      case atStart => exact ⟨0, by decide, rfl, hO, hb, hX⟩
      case round =>
        clear hO hb hX
        obtain ⟨k, hk, rfl, hO, hb, hX⟩ := hrel
        by_cases hlt : k < 11
        · have hx := getElem?_lt' (l := baseL) (i := k) (by rw [show baseL.length = 11 from sealN_len 4]; omega)
          have hsl : ∀ (i : Nat) (y : CI), baseL[i]? = some y → y.supers.length ≤ 1 := by
            have : baseL.all (fun y => decide (y.supers.length ≤ 1)) = true := by decide
            intro i y hy
            exact of_decide_eq_true (List.all_eq_true.1 this y (List.mem_of_getElem? hy))
          have hsl1 := hsl k _ hx
          generalize (baseL[k]'(by rw [show baseL.length = 11 from sealN_len 4]; omega)) = x at hx hsl1
          obtain ⟨A2, q2, A3, q3, p1, _, p3, _, ⟨g2, f2⟩, _, _⟩ := OwnCI.at hO hx
          have HC := Lib.hid (cloneStr_calls A2 q2 x.supers _ wr p3 (by omega))
          clear hsl
          go_wp2_with (fail)
          refine HC.out.mono ?_
          rintro e V ⟨vc, rfl, hown, hbv⟩
          obtain ⟨Ac, cc, rfl, r1, r2⟩ := hown.out
          have g2' := cell_all g2 hbv
          have f2' : V.frozen? ⟨W10.heap.size, k * 6 + 2, none⟩ = false := (World.frozen?_of_block (a := ⟨W10.heap.size, k * 6 + 2, none⟩) (hbv.block W10.heap.size hX)).trans f2
          have sv := hbv.size
          have hO3 := OwnCI.sup (hO.all hbv) hx (fun b h => h) Ac cc r1 (r2.mono fun b _ h => by
            rcases h with h | h
            · exact h
            · have := (hown.lt b h).1; omega)
          have hg : (V.setCell ⟨W10.heap.size, k * 6 + 2, none⟩ (.slice Ac x.supers.length cc)).heap.size = V.heap.size := by simp [World.setCell]
          go_wp2_with (fail)
          go_roundw
          case rel =>
           refine ⟨_, _, _, _, _, _, _, _, _, _, _, _, _, _, _, ?_, rfl⟩
           exact ⟨k + 1, by omega, by go_num, hO3, (hb.trans (hbv.mono hb.size)).setCell (p := ⟨W10.heap.size, k * 6 + 2, none⟩) b10.size _, by rw [hg]; omega⟩
          case measure => simp [intOf]; omega
        · go_wp2_with (fail)
          go_ret
          refine ⟨_, rfl, hO.limit'.mono fun b _ h => ?_, hb⟩
          exact ⟨h.2, fun e => h.1 (by simpa [Value.ownBlock] using e.symm)⟩
end Go.Proofs.YtepnmejahbiacaaGreat
set_option linter.unusedVariables false
set_option linter.unusedSimpArgs false
namespace Go.Proofs.YtepnmejahbiacaaGreat
open Go.RowKit
/-- cmp.Compare of two integers. -/
def cmpI (a b : Int) : Int := if a < b then -1 else if b < a then 1 else 0
theorem isNaN_calls (a : Int) (w : World) : Calls Tryz.prog 137 #[.int .i64 a] w fun e w' => e = .returned (.bool false) ∧ w' = w := by
  have t1 : (a != a) = false := bne_self_eq_false a
  go_enter Tryz.func137, Tryz.ntmps137
  go_wp2
  go_ret
  exact ⟨by first | rfl | simp, rfl⟩
set_option maxRecDepth 100000 in
theorem compare_calls (a b : Int) (w : World) : Calls Tryz.prog 93 #[.int .i64 a, .int .i64 b] w fun e w' => e = .returned (.int .i64 (cmpI a b)) ∧ w' = w := by
  have HN := Lib.hid (fun x => isNaN_calls x w)
  by_cases h1 : a < b
  · have t1 : decide (a < b) = true := decide_eq_true h1
    have HC : Hid (cmpI a b = -1) := Lib.hid (by unfold cmpI; rw [if_pos h1])
    clear h1
    go_enter Tryz.func93, Tryz.ntmps93
    go_wp2_with (go_at_call 137; refine (HN.out _).mono ?_; rintro e w' ⟨rfl, rfl⟩)
    go_ret
    exact ⟨by rw [HC.out]; rfl, rfl⟩
  · have t1 : decide (a < b) = false := decide_eq_false h1
    by_cases h2 : b < a
    · have t2 : decide (b < a) = true := decide_eq_true h2
      have HC : Hid (cmpI a b = 1) := Lib.hid (by unfold cmpI; rw [if_neg h1, if_pos h2])
      clear h1 h2
      go_enter Tryz.func93, Tryz.ntmps93
      go_wp2_with (go_at_call 137; refine (HN.out _).mono ?_; rintro e w' ⟨rfl, rfl⟩)
      go_ret
      exact ⟨by rw [HC.out]; rfl, rfl⟩
    · have t2 : decide (b < a) = false := decide_eq_false h2
      have HC : Hid (cmpI a b = 0) := Lib.hid (by unfold cmpI; rw [if_neg h1, if_neg h2])
      clear h1 h2
      go_enter Tryz.func93, Tryz.ntmps93
      go_wp2_with (go_at_call 137; refine (HN.out _).mono ?_; rintro e w' ⟨rfl, rfl⟩)
      go_ret
      exact ⟨by rw [HC.out]; rfl, rfl⟩
/-- A list of integers. -/
def intR (x : Int) (cs : List Value) (_ : World) : Prop := cs = [.int .i64 x]
theorem intR_one : OneR intR := fun x cs _ h u hu => by
  have e : cs = [Value.int .i64 x] := h
  subst e; simp at hu; subst hu; rfl
theorem intR_stable : Stable intR := fun _ _ _ h _ _ => h
abbrev Ints (A : Option Addr) (l : List Int) (w : World) : Prop := Slc intR 1 A l w
theorem infoInt : (Tryz.prog.info? 3).map (fun i => (i.zero, i.size, i.bytes)) = some (some (.int .i64 0), 1, 8) := by kernel_rfl
set_option maxHeartbeats 4000000 in
set_option maxRecDepth 100000 in
theorem ids_calls (A : Option Addr) (c : Nat) (l : List Meth) (G : Nat → Prop) (w : World) (h : Held G (Meths A l) w) (hl : l.length ≤ 1000000) :
    Calls Tryz.prog 40 #[.slice A l.length c] w fun e w' => ∃ v, e = .returned v ∧ Own intR 3 1 w.heap.size (fun _ => False) v (l.map (·.id)) w' ∧ Below w.heap.size w w' := by
  go_enter Tryz.func40, Tryz.ntmps40
  go_wp2
  go_loopw [3, 8] (fun v i wr => ∃ k : Nat, k ≤ l.length ∧ i = .int .i64 k ∧ Own intR 3 1 w.heap.size (fun _ => False) v ((l.take k).map (·.id)) wr ∧ Below w.heap.size w wr) (fun _ i _ => l.length - (intOf i).toNat)
  case atStart => exact ⟨0, Nat.zero_le _, rfl, Own.nil _ _ _ _ _ _, Below.refl _ _⟩
  case round =>
    obtain ⟨k, hk, rfl, hown, hb⟩ := hrel
    by_cases hlt : k < l.length
    · obtain ⟨b, off, rfl⟩ := Slc.addrH h (by omega)
      have hx : l[k]? = some l[k] := List.getElem?_eq_getElem hlt
      generalize l[k] = x at hx
      have HX := Lib.hid hx
      obtain ⟨A1, c1, A2, c2, p1, p2, p3, p4, g0, g1, g2, g3, g4, g5, g6, g7⟩ := Meths.atH (h.keep (Keep.all hb)) hx
      clear hx
      go_wp2_with (at_builtin; refine Classical.byContradiction fun hneg => ?_)
      apply hneg
      have hbz := hb.size
      refine wp_append_one intR 3 1 w.heap.size 8 (fun _ => False) _ rfl _ _ 27 _ rfl Tryz.underlying27 infoInt rfl (by decide) (by decide) _ ((l.take k).map (·.id)) rfl ?own ⟨wr.heap.size + 1, 0, none⟩ 1 rfl x.id [.int .i64 x.id] rfl ?cells ?one ?held ?hG ?base ?len ?_
      case own => exact (hown.alloc _).alloc _
      case cells => exact fun j u hu => cells_new (wr.alloc _) _ _ _ (by simp) j u hu
      case one => intro u hu; simp at hu; subst hu; rfl
      case held => exact fun _ _ => rfl
      case hG => exact fun b hb _ => hb.elim
      case base => simp; omega
      case len => simp; omega
      intro v' w1 hown1 hg1 _
      go_wp2
      go_roundw
      case rel =>
        refine ⟨k + 1, by omega, by go_num, ?_, ?_⟩
        · have e : (l.take (k + 1)).map (·.id) = (l.take k).map (·.id) ++ [x.id] := by rw [take_snoc HX.out, List.map_append]; rfl
          rw [e]; exact hown1
        · exact ((hb.alloc hb.size _).alloc (by simp; omega) _).grown hg1 (by simp; omega) fun k' e => (hown.lt _ e).1
      case measure => simp [intOf]; omega
    · go_wp2
      have hkl : k = l.length := by omega
      go_ret
      rw [hkl, List.take_length] at hown
      exact ⟨_, rfl, hown, hb⟩
end Go.Proofs.YtepnmejahbiacaaGreat
namespace Go.Proofs.YtepnmejahbiacaaGreat
open Go.RowKit
theorem info68 : (Tryz.prog.info? 68).map (fun i => (i.zero, i.size, i.bytes)) = some (some (.agg #[.int .i64 0, .string ⟨#[]⟩, .slice none 0 0, .int .i64 0, .string ⟨#[]⟩, .int .i64 0, .int .i64 0, .slice none 0 0]), 8, 112) := by kernel_rfl
set_option maxHeartbeats 1000000 in
set_option maxRecDepth 100000 in
theorem cloneMetR_calls (R : Meth → List Value → World → Prop) (h1R : OneR R) (A : Option Addr) (c : Nat) (l : List Meth) (G : Nat → Prop) (w : World) (h : Held G (Slc R 8 A l) w) (hl : l.length ≤ 1000000) :
    Calls Tryz.prog 99 #[.slice A l.length c] w fun e w' => ∃ v, e = .returned v ∧ Own R 68 8 w.heap.size G v l w' ∧ Below w.heap.size w w' := by
  cases A with
  | none =>
    have e : l = [] := by
      rcases l with _ | ⟨x, l⟩
      · rfl
      · obtain ⟨b, off, e⟩ := Slc.addrH h (by simp)
        cases e
    subst e
    have hnil := fun w => Lib.run_eql_slice_nil (P := Tryz.prog) w 23 68 none 0 c 0 0 Tryz.underlying23
    go_enter Tryz.func99, Tryz.ntmps99
    go_wp2
    go_ret
    exact ⟨_, rfl, Own.nil _ _ _ _ _ _, Below.refl _ _⟩
  | some ad =>
    have hnil := fun w => Lib.run_eql_slice_nil (P := Tryz.prog) w 23 68 (some ad) l.length c 0 0 Tryz.underlying23
    go_enter Tryz.func99, Tryz.ntmps99
    go_wp2_with (at_builtin; refine wp_append_all R h1R 68 8 w.heap.size 112 (fun b => G b ∧ b < w.heap.size) _ rfl _ _ 23 _ rfl Tryz.underlying23 info68 rfl (by decide) (by decide) (.slice (some ⟨w.heap.size, 0, none⟩) 0 0) [] l rfl ?own (some ad) c l.length rfl rfl ?src ?hG ?base ?len ?_)
    case own => exact Own.empty _ _ _ _ _ _ _ rfl (Nat.le_refl _)
    case src => exact h.lt.keep (Keep.alloc _ _ _)
    case hG => rintro b ⟨_, hb⟩ e; simp [Value.ownBlock] at e; omega
    case base => simp
    case len => simp; omega
    intro v' w1 hown hg _
    go_wp2
    go_ret
    exact ⟨_, rfl, (show Own R 68 8 w.heap.size (fun b => G b ∧ b < w.heap.size) v' l w1 by simpa using hown).mono (fun _ _ h => h.1), ((Below.refl _ w).alloc (Nat.le_refl _) _).grown hg (by simp) fun k e => by simp [Value.ownBlock] at e; omega⟩
/-- The clone of a row of one's own: its elements ask no more than those of the row. -/
theorem cloneOwn_calls (A : Option Addr) (c base : Nat) (l : List Meth) (G : Nat → Prop) (w : World) (h : Own metR 68 8 base G (.slice A l.length c) l w) (hl : l.length ≤ 1000000) :
    Calls Tryz.prog 99 #[.slice A l.length c] w fun e w' => ∃ v, e = .returned v ∧ Own metR 68 8 w.heap.size G v l w' ∧ Below w.heap.size w w' := by
  have h1 : Own (fun x cs w => Held G (metR x cs) w) 68 8 base G (.slice A l.length c) l w := by
    obtain ⟨xs, a, b⟩ := h
    exact ⟨xs, a, b.imp fun x cs hx w' k => hx.keep k⟩
  obtain ⟨A', c', e, _, h2⟩ := h1.out
  simp only [Value.slice.injEq] at e
  obtain ⟨rfl, _, rfl⟩ := e
  refine (cloneMetR_calls (fun x cs w => Held G (metR x cs) w) (fun x cs w h u hu => metR_one x cs w h.now u hu) A c l _ w h2 hl).mono ?_
  rintro e w' ⟨v, rfl, ⟨xs, a, b⟩, q⟩
  exact ⟨v, rfl, ⟨xs, a, b.imp fun x cs hx => hx.now⟩, q⟩
/-- A row with elements lies in a block. -/
theorem Own.form {α : Type} {R : α → List Value → World → Prop} {T sz base : Nat} {G : Nat → Prop} {v : Value} {l : List α} {w : World} (h : Own R T sz base G v l w) (hl : 0 < l.length) : ∃ g c, v = .slice (some ⟨g, 0, none⟩) l.length c ∧ base ≤ g ∧ g < w.heap.size := by
  obtain ⟨xs, ⟨_, h2⟩, _⟩ := h
  rcases h2 with ⟨_, h0⟩ | ⟨g, cap, cur, rfl, hg, hh, _⟩
  · omega
  · exact ⟨g, cap, rfl, hg, (Array.getElem?_eq_some_iff.1 hh).1⟩
theorem OwnMet.at {T base : Nat} {G : Nat → Prop} {l : List Meth} {w : World} {g c n : Nat} (h : Own metR T 8 base G (.slice (some ⟨g, 0, none⟩) n c) l w) {i : Nat} {x : Meth} (hx : l[i]? = some x) :
    ∃ A1 c1 A2 c2, x.pars.length ≤ c1 ∧ Held G (Pars A1 x.pars) w ∧ x.result.args.length ≤ c2 ∧ Held G (Typs A2 x.result.args) w ∧
      w.cell? ⟨g, i * 8, none⟩ = some (.int .i64 x.id) ∧ w.cell? ⟨g, i * 8 + 1, none⟩ = some (.string x.lib) ∧ w.cell? ⟨g, i * 8 + 2, none⟩ = some (.slice A1 x.pars.length c1) ∧
      w.cell? ⟨g, i * 8 + 3, none⟩ = some (.int .i64 x.result.kind) ∧ w.cell? ⟨g, i * 8 + 4, none⟩ = some (.string x.result.name) ∧ w.cell? ⟨g, i * 8 + 5, none⟩ = some (.int .i64 x.result.lo) ∧
      w.cell? ⟨g, i * 8 + 6, none⟩ = some (.int .i64 x.result.hi) ∧ w.cell? ⟨g, i * 8 + 7, none⟩ = some (.slice A2 x.result.args.length c2) := by
  obtain ⟨cs, _, hr, hc⟩ := h.get hx
  obtain ⟨A1, c1, A2, c2, rfl, h1, h2, h3, h4⟩ := metR.openH hr
  exact ⟨A1, c1, A2, c2, h1, h2, h3, h4, (hc 0 _ rfl).1, (hc 1 _ rfl).1, (hc 2 _ rfl).1, (hc 3 _ rfl).1, (hc 4 _ rfl).1, (hc 5 _ rfl).1, (hc 6 _ rfl).1, (hc 7 _ rfl).1⟩
end Go.Proofs.YtepnmejahbiacaaGreat
set_option linter.unusedVariables false
set_option linter.unusedSimpArgs false
namespace Go.Proofs.YtepnmejahbiacaaGreat
open Go.RowKit
theorem IntsAt {b off : Nat} {l : List Int} {w : World} (h : Ints (some ⟨b, off, none⟩) l w) {k : Nat} {x : Int} (hx : l[k]? = some x) : w.cell? ⟨b, off + k, none⟩ = some (.int .i64 x) := by
  obtain ⟨b', off', cs, e, _, hr, hc⟩ := h k x hx
  simp only [Option.some.injEq, Addr.mk.injEq, and_true] at e
  obtain ⟨rfl, rfl⟩ := e
  have e : cs = [.int .i64 x] := hr
  subst e
  simpa using hc 0 _ rfl
/-- The first place of a number, or -1. -/
def idxI (l : List Int) (x : Int) : Int := match l.findIdx? (fun y => decide (y = x)) with | some i => i | none => -1
set_option maxHeartbeats 1000000 in
set_option maxRecDepth 100000 in
theorem slEqualI_calls (A B : Option Addr) (c d : Nat) (l m : List Int) (w : World) (hA : Ints A l w) (hB : Ints B m w) (hl : l.length ≤ 9223372036854775807) (hm : m.length ≤ 9223372036854775807) :
    Calls Tryz.prog 60 #[.slice A l.length c, .slice B m.length d] w fun e w' => e = .returned (.bool (decide (l = m))) ∧ Drw w w' := by
  by_cases hlen : l.length = m.length
  · have t1 : ((l.length : Int) == (m.length : Int)) = true := beq_iff_eq.2 (by omega)
    have t2 : ((l.length : Int) != (m.length : Int)) = false := bne_eq_false_iff_eq.2 (by omega)
    have HL := Lib.hid hlen
    clear hlen
    go_enter Tryz.func60, Tryz.ntmps60
    go_wp2
    go_loopw [13] (fun i wr => ∃ k : Nat, k ≤ l.length ∧ i = .int .i64 k ∧ l.take k = m.take k ∧ Drw w wr) (fun i _ => l.length - (intOf i).toNat)
    case atStart => exact ⟨0, Nat.zero_le _, rfl, by simp, Drw.refl _⟩
    case round =>
      obtain ⟨k, hk, rfl, heq, hd⟩ := hrel
      obtain ⟨n, rfl⟩ := hd
      have HE := Lib.hid heq
      clear heq
      by_cases hlt : k < l.length
      · have hm' : k < m.length := by have := HL.out; omega
        obtain ⟨b, off, rfl⟩ := hA.addr (by omega)
        obtain ⟨b', off', rfl⟩ := hB.addr (by omega)
        have h1 := IntsAt hA (getElem?_lt hlt)
        have h2 := IntsAt hB (getElem?_lt hm')
        by_cases hx : l[k] = m[k]
        · have HX := Lib.hid hx
          rw [hx] at h1
          clear hx
          go_wp2
          go_quiet (fail)
          go_wp2
          go_roundw
          case rel =>
            refine ⟨k + 1, by omega, by go_num, ?_, Drw.of _ _⟩
            rw [List.take_add_one, List.take_add_one, HE.out, getElem?_lt hlt, getElem?_lt hm', HX.out]
          case measure => simp [intOf]; omega
        · have hne : l ≠ m := by
            intro e; subst e; exact hx rfl
          have HX := Lib.hid hne
          clear hne
          generalize l[k] = x at *
          generalize m[k] = y at *
          go_wp2
          go_quiet (fail)
          go_wp2
          go_ret
          exact ⟨retB (decide_eq_false HX.out).symm, (Drw.of _ _).drewN _⟩
      · obtain rfl : k = l.length := by omega
        have : l = m := by have h := HE.out; rw [List.take_length] at h; rw [h]; exact List.take_of_length_le (by rw [HL.out]; exact Nat.le_refl _)
        have HM := Lib.hid this
        clear this
        go_wp2
        go_ret
        exact ⟨retB (decide_eq_true HM.out).symm, ⟨n, rfl⟩⟩
  · have t1 : ((l.length : Int) == (m.length : Int)) = false := beq_eq_false_iff_ne.2 (by omega)
    have t2 : ((l.length : Int) != (m.length : Int)) = true := by rw [bne_iff_ne]; omega
    have HL : Hid (l ≠ m) := Lib.hid (fun e => hlen (by rw [e]))
    clear hlen
    go_enter Tryz.func60, Tryz.ntmps60
    go_wp2
    go_ret
    exact ⟨retB (decide_eq_false HL.out).symm, Drw.refl _⟩
set_option maxHeartbeats 1000000 in
set_option maxRecDepth 100000 in
theorem slIndexI_calls (A : Option Addr) (c : Nat) (l : List Int) (x : Int) (w : World) (hA : Ints A l w) (hl : l.length ≤ 9223372036854775807) :
    Calls Tryz.prog 62 #[.slice A l.length c, .int .i64 x] w fun e w' => e = .returned (.int .i64 (idxI l x)) ∧ w = w' := by
  go_enter Tryz.func62, Tryz.ntmps62
  go_wp2
  go_loop [8] (fun i => ∃ k : Nat, k ≤ l.length ∧ i = .int .i64 k ∧ ∀ j y, j < k → l[j]? = some y → y ≠ x) (fun i => l.length - (intOf i).toNat)
  case atStart => exact ⟨0, Nat.zero_le _, rfl, fun j y h => absurd h (by omega)⟩
  case round =>
    obtain ⟨k, hk, rfl, heq⟩ := hrel
    have HE := Lib.hid heq
    clear heq
    by_cases hlt : k < l.length
    · obtain ⟨b, off, rfl⟩ := hA.addr (by omega)
      have h1 := IntsAt hA (getElem?_lt hlt)
      have HX := Lib.hid (getElem?_lt hlt)
      generalize l[k] = y at *
      by_cases hx : x = y
      · subst hx
        have HI : Hid (idxI l x = (k : Int)) := Lib.hid (by
          unfold idxI
          have : l.findIdx? (fun y => decide (y = x)) = some k := by
            rw [List.findIdx?_eq_some_iff_getElem]
            refine ⟨hlt, ?_, fun j hj => ?_⟩
            · have := HX.out; rw [getElem?_lt hlt] at this; simpa using this
            · have := HE.out j _ hj (getElem?_lt (by omega)); simpa using this
          rw [this])
        go_wp2
        go_ret
        exact ⟨retI HI.out.symm, rfl⟩
      · go_wp2
        go_round
        case rel =>
          refine ⟨k + 1, by omega, by go_num, fun j z hj hz => ?_⟩
          rcases Nat.lt_or_ge j k with h | h
          · exact HE.out j z h hz
          · obtain rfl : j = k := by omega
            rw [HX.out] at hz
            simp only [Option.some.injEq] at hz
            subst hz
            exact fun e => hx e.symm
        case measure => simp [intOf]; omega
    · have HI : Hid (idxI l x = -1) := Lib.hid (by
        unfold idxI
        have : l.findIdx? (fun y => decide (y = x)) = none := by
          rw [List.findIdx?_eq_none_iff]
          intro y hy
          obtain ⟨j, hj, rfl⟩ := List.getElem_of_mem hy
          simpa using HE.out j _ (by omega) (getElem?_lt hj)
        rw [this])
      go_wp2
      go_ret
      exact ⟨retI HI.out.symm, rfl⟩
set_option maxHeartbeats 1000000 in
set_option maxRecDepth 100000 in
theorem cloneInt_calls (A : Option Addr) (c : Nat) (l : List Int) (G : Nat → Prop) (w : World) (h : Held G (Slc intR 1 A l) w) (hl : l.length ≤ 1000000) :
    Calls Tryz.prog 63 #[.slice A l.length c] w fun e w' => ∃ v, e = .returned v ∧ Own intR 3 1 w.heap.size G v l w' ∧ Below w.heap.size w w' := by
  cases A with
  | none =>
    have e : l = [] := by
      rcases l with _ | ⟨x, l⟩
      · rfl
      · obtain ⟨b, off, e⟩ := Slc.addrH h (by simp)
        cases e
    subst e
    have hnil := fun w => Lib.run_eql_slice_nil (P := Tryz.prog) w 27 3 none 0 c 0 0 Tryz.underlying27
    go_enter Tryz.func63, Tryz.ntmps63
    go_wp2
    go_ret
    exact ⟨_, rfl, Own.nil _ _ _ _ _ _, Below.refl _ _⟩
  | some ad =>
    have hnil := fun w => Lib.run_eql_slice_nil (P := Tryz.prog) w 27 3 (some ad) l.length c 0 0 Tryz.underlying27
    go_enter Tryz.func63, Tryz.ntmps63
    go_wp2_with (at_builtin; refine wp_append_all intR intR_one 3 1 w.heap.size 8 (fun b => G b ∧ b < w.heap.size) _ rfl _ _ 27 _ rfl Tryz.underlying27 infoInt rfl (by decide) (by decide) (.slice (some ⟨w.heap.size, 0, none⟩) 0 0) [] l rfl ?own (some ad) c l.length rfl rfl ?src ?hG ?base ?len ?_)
    case own => exact Own.empty _ _ _ _ _ _ _ rfl (Nat.le_refl _)
    case src => exact h.lt.keep (Keep.alloc _ _ _)
    case hG => rintro b ⟨_, hb⟩ e; simp [Value.ownBlock] at e; omega
    case base => simp
    case len => simp; omega
    intro v' w1 hown hg _
    go_wp2
    go_ret
    exact ⟨_, rfl, (show Own intR 3 1 w.heap.size (fun b => G b ∧ b < w.heap.size) v' l w1 by simpa using hown).mono (fun _ _ h => h.1), ((Below.refl _ w).alloc (Nat.le_refl _) _).grown hg (by simp) fun k e => by simp [Value.ownBlock] at e; omega⟩
theorem ownPureI {T base : Nat} {G G' : Nat → Prop} {v : Value} {l : List Int} {w : World} (h : Own intR T 1 base G v l w) : Own intR T 1 base G' v l w := by
  obtain ⟨xs, h1, h2⟩ := h
  exact ⟨xs, h1, h2.imp fun _ _ hx => fun _ _ => hx.now⟩
end Go.Proofs.YtepnmejahbiacaaGreat
