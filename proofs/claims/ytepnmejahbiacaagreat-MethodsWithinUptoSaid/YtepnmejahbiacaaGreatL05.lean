/- Part 5 of the proof: Bb. -/
import Derived.Test.YtepnmejahbiacaaGreatL04
import Derived.Test.YtepnmejahbiacaaGreatL01
import Derived.BigQuiet
import Derived.Deep.Draws
import Derived.Deep.LoopGhost
import Derived.Deep.QuietTactic
import Derived.KernelRfl
import Derived.Lib.Hide
import Derived.Maps.AppendAt
import Derived.Outline
import Derived.Test.YtepnmejahbiacaaGreatProg
import Derived.WalkKit
import Derived.WalkSpells
set_option linter.unusedVariables false
set_option linter.unusedSimpArgs false
namespace Go.Proofs.YtepnmejahbiacaaGreat
open Go.RowKit
theorem Own.limit' {α : Type} {R : α → List Value → World → Prop} {T sz base : Nat} {G : Nat → Prop} {v : Value} {l : List α} {w : World} (h : Own R T sz base G v l w) : Own R T sz base (fun b => G b ∧ b < w.heap.size) v l w := by
  obtain ⟨xs, h1, h2⟩ := h
  exact ⟨xs, h1, h2.imp fun _ _ hx => hx.lt⟩
theorem base_step (name : ByteArray) (above : List ByteArray) (W : World) {l : List CI} {xs : List Value} (E : Enc (fun x cs => Held (fun b => b < W.heap.size) (ciR x cs) W) 6 l xs) (hl : above.length ≤ 1000000) :
    Calls Tryz.prog 120 #[.string name, .slice (some ⟨W.heap.size, 0, none⟩) above.length above.length] (W.alloc (.cells (above.map Value.string).toArray 9)) fun e w' =>
      ∃ A2 n2 c2 A3 n3 c3, e = .returned (.agg #[.string name, .string ⟨#[]⟩, .slice A2 n2 c2, .slice A3 n3 c3, .bool false, .bool false]) ∧
        Enc (fun x cs => Held (fun b => b < w'.heap.size) (ciR x cs) w') 6 (l ++ [baseCI name above]) (xs ++ [.string name, .string ⟨#[]⟩, .slice A2 n2 c2, .slice A3 n3 c3, .bool false, .bool false]) ∧ Below W.heap.size W w' := by
  refine (base_calls name _ _ above (Nat.le_refl _) (fun b => b = W.heap.size) _ (Strs.lit _ W above 9 rfl) hl).mono ?_
  rintro e w' ⟨A2, c2, A3, c3, rfl, h, hb⟩
  have b1 : Below W.heap.size W w' := ((Below.refl _ W).alloc (Nat.le_refl _) _).trans (hb.mono (by simp))
  have hs := hb.size
  rw [World.size_alloc] at hs
  refine ⟨A2, _, c2, A3, _, c3, rfl, .snoc (E.imp fun x cs hx => (hx.keep (Keep.all b1)).mono fun b _ hb => Nat.lt_of_lt_of_le hb b1.size) (h.mono fun b hb _ => hb) rfl, b1⟩
theorem base_first (name : ByteArray) (W : World) :
    Calls Tryz.prog 120 #[.string name, .slice none 0 0] W fun e w' =>
      ∃ A2 n2 c2 A3 n3 c3, e = .returned (.agg #[.string name, .string ⟨#[]⟩, .slice A2 n2 c2, .slice A3 n3 c3, .bool false, .bool false]) ∧
        Enc (fun x cs => Held (fun b => b < w'.heap.size) (ciR x cs) w') 6 [baseCI name []] [.string name, .string ⟨#[]⟩, .slice A2 n2 c2, .slice A3 n3 c3, .bool false, .bool false] ∧ Below W.heap.size W w' := by
  refine (base_calls name none 0 [] (Nat.le_refl _) (fun b => False) W (fun _ _ => Slc.nil _ _ _ _) (by simp)).mono ?_
  rintro e w' ⟨A2, c2, A3, c3, rfl, h, hb⟩
  exact ⟨A2, _, c2, A3, _, c3, rfl, .snoc (l := []) (xs := []) .nil (h.mono fun b hb _ => hb) rfl, hb⟩
theorem OwnCI.at {T base : Nat} {G : Nat → Prop} {l : List CI} {w : World} {g c n : Nat} (h : Own ciR T 6 base G (.slice (some ⟨g, 0, none⟩) n c) l w) {i : Nat} {x : CI} (hx : l[i]? = some x) :
    ∃ A2 c2 A3 c3, x.supers.length ≤ c2 ∧ x.cpl.length ≤ c3 ∧ Held G (Strs A2 x.supers) w ∧ Held G (Strs A3 x.cpl) w ∧
      (w.cell? ⟨g, i * 6 + 2, none⟩ = some (.slice A2 x.supers.length c2) ∧ w.frozen? ⟨g, i * 6 + 2, none⟩ = false) ∧
      (w.cell? ⟨g, i * 6 + 4, none⟩ = some (.bool x.abs) ∧ w.frozen? ⟨g, i * 6 + 4, none⟩ = false) ∧
      (w.cell? ⟨g, i * 6 + 5, none⟩ = some (.bool x.seal_) ∧ w.frozen? ⟨g, i * 6 + 5, none⟩ = false) := by
  obtain ⟨cs, _, hr, hc⟩ := h.get hx
  obtain ⟨A2, c2, A3, c3, rfl, h1, h2, h3, h4⟩ := ciR.openH hr
  exact ⟨A2, c2, A3, c3, h1, h2, h3, h4, hc 2 _ rfl, hc 4 _ rfl, hc 5 _ rfl⟩
theorem OwnCI.sealing {T base : Nat} {G : Nat → Prop} {l : List CI} {w : World} {g c n : Nat} (h : Own ciR T 6 base G (.slice (some ⟨g, 0, none⟩) n c) l w) {i : Nat} {x : CI} (hx : l[i]? = some x) (hG : ∀ b, G b → b ≠ g) (v : Bool) :
    Own ciR T 6 base G (.slice (some ⟨g, 0, none⟩) n c) (l.set i { x with seal_ := v }) (w.setCell ⟨g, i * 6 + 5, none⟩ (.bool v)) :=
  h.store (j := 5) rfl hx (by decide) hG fun cs _ hr => by
    obtain ⟨A2, c2, A3, c3, rfl, h1, h2, h3, h4⟩ := ciR.openH hr
    exact ciR.mk (x := { x with seal_ := v }) h1 h2 h3 h4
theorem OwnCI.sup {T base : Nat} {G : Nat → Prop} {l : List CI} {w : World} {g c n : Nat} (h : Own ciR T 6 base G (.slice (some ⟨g, 0, none⟩) n c) l w) {i : Nat} {x : CI} (hx : l[i]? = some x) (hG : ∀ b, G b → b ≠ g) (A : Option Addr) (ca : Nat) (hca : x.supers.length ≤ ca) (hA : Held G (Strs A x.supers) w) :
    Own ciR T 6 base G (.slice (some ⟨g, 0, none⟩) n c) l (w.setCell ⟨g, i * 6 + 2, none⟩ (.slice A x.supers.length ca)) := by
  have := h.store (x' := x) (u := .slice A x.supers.length ca) (j := 2) rfl hx (by decide) hG fun cs _ hr => by
    obtain ⟨A2, c2, A3, c3, rfl, h1, h2, h3, h4⟩ := ciR.openH hr
    exact ciR.mk (x := x) hca h2 hA h4
  rwa [set_same hx] at this
/-- The base classes, as they are made. -/
def base0 : List CI := [baseCI ⟨#[60, 111, 98, 106, 101, 99, 116, 62]⟩ [],
  baseCI ⟨#[60, 105, 110, 116, 101, 103, 101, 114, 62]⟩ [⟨#[60, 111, 98, 106, 101, 99, 116, 62]⟩],
  baseCI ⟨#[60, 98, 111, 111, 108, 101, 97, 110, 62]⟩ [⟨#[60, 111, 98, 106, 101, 99, 116, 62]⟩],
  baseCI ⟨#[60, 99, 108, 97, 115, 115, 62]⟩ [⟨#[60, 111, 98, 106, 101, 99, 116, 62]⟩],
  baseCI ⟨#[60, 102, 117, 110, 99, 116, 105, 111, 110, 62]⟩ [⟨#[60, 111, 98, 106, 101, 99, 116, 62]⟩],
  baseCI ⟨#[60, 99, 111, 110, 100, 105, 116, 105, 111, 110, 62]⟩ [⟨#[60, 111, 98, 106, 101, 99, 116, 62]⟩],
  baseCI ⟨#[60, 115, 101, 114, 105, 111, 117, 115, 45, 99, 111, 110, 100, 105, 116, 105, 111, 110, 62]⟩ [⟨#[60, 99, 111, 110, 100, 105, 116, 105, 111, 110, 62]⟩, ⟨#[60, 111, 98, 106, 101, 99, 116, 62]⟩],
  baseCI ⟨#[60, 119, 97, 114, 110, 105, 110, 103, 62]⟩ [⟨#[60, 99, 111, 110, 100, 105, 116, 105, 111, 110, 62]⟩, ⟨#[60, 111, 98, 106, 101, 99, 116, 62]⟩],
  baseCI ⟨#[60, 114, 101, 115, 116, 97, 114, 116, 62]⟩ [⟨#[60, 99, 111, 110, 100, 105, 116, 105, 111, 110, 62]⟩, ⟨#[60, 111, 98, 106, 101, 99, 116, 62]⟩],
  baseCI ⟨#[60, 101, 114, 114, 111, 114, 62]⟩ [⟨#[60, 115, 101, 114, 105, 111, 117, 115, 45, 99, 111, 110, 100, 105, 116, 105, 111, 110, 62]⟩, ⟨#[60, 99, 111, 110, 100, 105, 116, 105, 111, 110, 62]⟩, ⟨#[60, 111, 98, 106, 101, 99, 116, 62]⟩],
  baseCI ⟨#[60, 102, 97, 117, 108, 116, 62]⟩ [⟨#[60, 101, 114, 114, 111, 114, 62]⟩, ⟨#[60, 115, 101, 114, 105, 111, 117, 115, 45, 99, 111, 110, 100, 105, 116, 105, 111, 110, 62]⟩, ⟨#[60, 99, 111, 110, 100, 105, 116, 105, 111, 110, 62]⟩, ⟨#[60, 111, 98, 106, 101, 99, 116, 62]⟩]]
def sealN : Nat → List CI
  | 0 => match base0 with
    | x :: r => { x with abs := true } :: r
    | [] => []
  | k + 1 => match (sealN k)[1 + k]? with
    | some x => (sealN k).set (1 + k) { x with seal_ := true }
    | none => sealN k
/-- The base classes. -/
def baseL : List CI := sealN 4
theorem sealN_len : ∀ k, (sealN k).length = 11
  | 0 => rfl
  | k + 1 => by
    simp only [sealN]
    split
    · rw [List.length_set]; exact sealN_len k
    · exact sealN_len k
theorem sealN_succ {k : Nat} {x : CI} (h : (sealN k)[1 + k]? = some x) : sealN (k + 1) = (sealN k).set (1 + k) { x with seal_ := true } := by simp only [sealN, h]
theorem getElem?_lt' {α : Type} {l : List α} {i : Nat} (h : i < l.length) : l[i]? = some l[i] := List.getElem?_eq_getElem h
set_option maxHeartbeats 8000000 in
set_option maxRecDepth 100000 in
theorem Base_calls (w : World) : Calls Tryz.prog 76 #[] w fun e w' =>
    ∃ v, e = .returned v ∧ Own ciR 110 6 w.heap.size (fun b => b < w'.heap.size ∧ v.ownBlock ≠ some b) v baseL w' ∧ Below w.heap.size w w' := by
  go_enter Tryz.func76, Tryz.ntmps76
  go_wp2_with (fail)
  refine (base_first _ _).mono ?_
  rintro e W0 ⟨a0, n0, c0, d0, m0, k0, rfl, E0, b0⟩
  go_wp2_with (fail)
  refine (base_step ⟨#[60, 105, 110, 116, 101, 103, 101, 114, 62]⟩ [⟨#[60, 111, 98, 106, 101, 99, 116, 62]⟩] W0 E0 (by decide)).mono ?_
  rintro e W1 ⟨a1, n1, c1, d1, m1, k1, rfl, E1, hb⟩
  have b1 := b0.trans (hb.mono b0.size)
  clear hb b0 E0
  go_wp2_with (fail)
  refine (base_step ⟨#[60, 98, 111, 111, 108, 101, 97, 110, 62]⟩ [⟨#[60, 111, 98, 106, 101, 99, 116, 62]⟩] W1 E1 (by decide)).mono ?_
  rintro e W2 ⟨a2, n2, c2, d2, m2, k2, rfl, E2, hb⟩
  have b2 := b1.trans (hb.mono b1.size)
  clear hb b1 E1
  go_wp2_with (fail)
  refine (base_step ⟨#[60, 99, 108, 97, 115, 115, 62]⟩ [⟨#[60, 111, 98, 106, 101, 99, 116, 62]⟩] W2 E2 (by decide)).mono ?_
  rintro e W3 ⟨a3, n3, c3, d3, m3, k3, rfl, E3, hb⟩
  have b3 := b2.trans (hb.mono b2.size)
  clear hb b2 E2
  go_wp2_with (fail)
  refine (base_step ⟨#[60, 102, 117, 110, 99, 116, 105, 111, 110, 62]⟩ [⟨#[60, 111, 98, 106, 101, 99, 116, 62]⟩] W3 E3 (by decide)).mono ?_
  rintro e W4 ⟨a4, n4, c4, d4, m4, k4, rfl, E4, hb⟩
  have b4 := b3.trans (hb.mono b3.size)
  clear hb b3 E3
  go_wp2_with (fail)
  refine (base_step ⟨#[60, 99, 111, 110, 100, 105, 116, 105, 111, 110, 62]⟩ [⟨#[60, 111, 98, 106, 101, 99, 116, 62]⟩] W4 E4 (by decide)).mono ?_
  rintro e W5 ⟨a5, n5, c5, d5, m5, k5, rfl, E5, hb⟩
  have b5 := b4.trans (hb.mono b4.size)
  clear hb b4 E4
  go_wp2_with (fail)
  refine (base_step ⟨#[60, 115, 101, 114, 105, 111, 117, 115, 45, 99, 111, 110, 100, 105, 116, 105, 111, 110, 62]⟩ [⟨#[60, 99, 111, 110, 100, 105, 116, 105, 111, 110, 62]⟩, ⟨#[60, 111, 98, 106, 101, 99, 116, 62]⟩] W5 E5 (by decide)).mono ?_
  rintro e W6 ⟨a6, n6, c6, d6, m6, k6, rfl, E6, hb⟩
  have b6 := b5.trans (hb.mono b5.size)
  clear hb b5 E5
  go_wp2_with (fail)
  refine (base_step ⟨#[60, 119, 97, 114, 110, 105, 110, 103, 62]⟩ [⟨#[60, 99, 111, 110, 100, 105, 116, 105, 111, 110, 62]⟩, ⟨#[60, 111, 98, 106, 101, 99, 116, 62]⟩] W6 E6 (by decide)).mono ?_
  rintro e W7 ⟨a7, n7, c7, d7, m7, k7, rfl, E7, hb⟩
  have b7 := b6.trans (hb.mono b6.size)
  clear hb b6 E6
  go_wp2_with (fail)
  refine (base_step ⟨#[60, 114, 101, 115, 116, 97, 114, 116, 62]⟩ [⟨#[60, 99, 111, 110, 100, 105, 116, 105, 111, 110, 62]⟩, ⟨#[60, 111, 98, 106, 101, 99, 116, 62]⟩] W7 E7 (by decide)).mono ?_
  rintro e W8 ⟨a8, n8, c8, d8, m8, k8, rfl, E8, hb⟩
  have b8 := b7.trans (hb.mono b7.size)
  clear hb b7 E7
  go_wp2_with (fail)
  refine (base_step ⟨#[60, 101, 114, 114, 111, 114, 62]⟩ [⟨#[60, 115, 101, 114, 105, 111, 117, 115, 45, 99, 111, 110, 100, 105, 116, 105, 111, 110, 62]⟩, ⟨#[60, 99, 111, 110, 100, 105, 116, 105, 111, 110, 62]⟩, ⟨#[60, 111, 98, 106, 101, 99, 116, 62]⟩] W8 E8 (by decide)).mono ?_
  rintro e W9 ⟨a9, n9, c9, d9, m9, k9, rfl, E9, hb⟩
  have b9 := b8.trans (hb.mono b8.size)
  clear hb b8 E8
  go_wp2_with (fail)
  refine (base_step ⟨#[60, 102, 97, 117, 108, 116, 62]⟩ [⟨#[60, 101, 114, 114, 111, 114, 62]⟩, ⟨#[60, 115, 101, 114, 105, 111, 117, 115, 45, 99, 111, 110, 100, 105, 116, 105, 111, 110, 62]⟩, ⟨#[60, 99, 111, 110, 100, 105, 116, 105, 111, 110, 62]⟩, ⟨#[60, 111, 98, 106, 101, 99, 116, 62]⟩] W9 E9 (by decide)).mono ?_
  rintro e W10 ⟨a10, n10, c10, d10, m10, k10, rfl, E10, hb⟩
  have b10 := b9.trans (hb.mono b9.size)
  clear hb b9 E9
  have E11 := Enc.set E10 (x' := { (baseCI ⟨#[60, 111, 98, 106, 101, 99, 116, 62]⟩ []) with abs := true }) (u := .bool true) (j := 4) (by decide) 0 _ rfl (fun cs _ hr => by
    obtain ⟨A2, c2, A3, c3, rfl, h1, h2, h3, h4⟩ := ciR.openH hr
    exact ciR.mk (x := { (baseCI ⟨#[60, 111, 98, 106, 101, 99, 116, 62]⟩ []) with abs := true }) h1 h2 h3 h4)
  have hO1 : Own ciR 110 6 w.heap.size (fun b => b ≠ W10.heap.size) (.slice (some ⟨W10.heap.size, 0, none⟩) 11 11) (sealN 0) _ := ((Own.many (R := ciR) (T := 110) rfl (Nat.le_refl _) (by decide) (by decide) E11).lower b10.size).mono fun b _ hb => Nat.ne_of_lt hb
  clear E10 E11
  go_wp2_with (fail)
  go_loopw [29] (fun i wr => ∃ k : Nat, k ≤ 4 ∧ i = .int .i64 k ∧ Own ciR 110 6 w.heap.size (fun b => b ≠ W10.heap.size) (.slice (some ⟨W10.heap.size, 0, none⟩) 11 11) (sealN k) wr ∧ Below w.heap.size w wr ∧ W10.heap.size < wr.heap.size) (fun i _ => 4 - (intOf i).toNat)
  case atStart => exact ⟨0, by decide, rfl, hO1, b10.alloc b10.size _, by simp⟩
  case round =>
    clear hO1
    obtain ⟨k, hk, rfl, hO, hb, hX⟩ := hrel
    by_cases hlt : k < 4
    · have hx := getElem?_lt' (l := sealN k) (i := 1 + k) (by rw [sealN_len]; omega)
      have HS : Hid (sealN (k + 1) = _) := Lib.hid (sealN_succ hx)
      generalize ((sealN k)[1 + k]'(by rw [sealN_len]; omega)) = x at hx HS
      obtain ⟨A2, q2, A3, q3, _, _, _, _, _, _, g5, f5⟩ := OwnCI.at hO hx
      have hO2 := OwnCI.sealing hO hx (fun b h => h) true
      go_wp2_with (fail)
      have hg : (wr.setCell ⟨W10.heap.size, (1 + k) * 6 + 5, none⟩ (.bool true)).heap.size = wr.heap.size := by simp [World.setCell]
      exact ⟨⟨k + 1, by omega, by go_num, by rw [HS.out]; exact hO2, hb.setCell b10.size _, by rw [hg]; exact hX⟩, by simp [intOf]; omega⟩
    · obtain rfl : k = 4 := by omega
      go_wp2_with (fail)
      go_loopw [40] (fun i wr => ∃ k : Nat, k ≤ 11 ∧ i = .int .i64 k ∧ Own ciR 110 6 w.heap.size (fun b => b ≠ W10.heap.size) (.slice (some ⟨W10.heap.size, 0, none⟩) 11 11) baseL wr ∧ Below w.heap.size w wr ∧ W10.heap.size < wr.heap.size) (fun i _ => 11 - (intOf i).toNat)
      case atStart => exact ⟨0, by decide, rfl, hO, hb, hX⟩
      case round =>
        clear hO hb hX
        obtain ⟨k, hk, rfl, hO, hb, hX⟩ := hrel
        by_cases hlt : k < 11
        · have hx := getElem?_lt' (l := baseL) (i := k) (by rw [show baseL.length = 11 from sealN_len 4]; omega)
          have hsl : ∀ (i : Nat) (y : CI), baseL[i]? = some y → y.supers.length ≤ 1 := by
            have : baseL.all (fun y => decide (y.supers.length ≤ 1)) = true := by decide
            intro i y hy
            exact of_decide_eq_true (List.all_eq_true.1 this y (List.mem_of_getElem? hy))
          have hsl1 := hsl k _ hx
          generalize (baseL[k]'(by rw [show baseL.length = 11 from sealN_len 4]; omega)) = x at hx hsl1
          obtain ⟨A2, q2, A3, q3, p1, _, p3, _, ⟨g2, f2⟩, _, _⟩ := OwnCI.at hO hx
          have HC := Lib.hid (cloneStr_calls A2 q2 x.supers _ wr p3 (by omega))
          clear hsl
          go_wp2_with (fail)
          refine HC.out.mono ?_
          rintro e V ⟨vc, rfl, hown, hbv⟩
          obtain ⟨Ac, cc, rfl, r1, r2⟩ := hown.out
          have g2' := cell_all g2 hbv
          have f2' : V.frozen? ⟨W10.heap.size, k * 6 + 2, none⟩ = false := (World.frozen?_of_block (a := ⟨W10.heap.size, k * 6 + 2, none⟩) (hbv.block W10.heap.size hX)).trans f2
          have sv := hbv.size
          have hO3 := OwnCI.sup (hO.all hbv) hx (fun b h => h) Ac cc r1 (r2.mono fun b _ h => by
            rcases h with h | h
            · exact h
            · have := (hown.lt b h).1; omega)
          have hg : (V.setCell ⟨W10.heap.size, k * 6 + 2, none⟩ (.slice Ac x.supers.length cc)).heap.size = V.heap.size := by simp [World.setCell]
          go_wp2_with (fail)
          go_roundw
          case rel =>
           refine ⟨_, _, _, _, _, _, _, _, _, _, _, _, _, _, _, ?_, rfl⟩
           exact ⟨k + 1, by omega, by go_num, hO3, (hb.trans (hbv.mono hb.size)).setCell (p := ⟨W10.heap.size, k * 6 + 2, none⟩) b10.size _, by rw [hg]; omega⟩
          case measure => simp [intOf]; omega
        · go_wp2_with (fail)
          go_ret
          refine ⟨_, rfl, hO.limit'.mono fun b _ h => ?_, hb⟩
          exact ⟨h.2, fun e => h.1 (by simpa [Value.ownBlock] using e.symm)⟩
end Go.Proofs.YtepnmejahbiacaaGreat
