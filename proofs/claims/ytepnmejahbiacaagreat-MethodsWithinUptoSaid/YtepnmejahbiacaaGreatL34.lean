/- Part 34 of the proof: Cw, Dv, Dw, Dx. -/
import Derived.Test.YtepnmejahbiacaaGreatL20
import Derived.Test.YtepnmejahbiacaaGreatL04
import Derived.Test.YtepnmejahbiacaaGreatL05
import Derived.Test.YtepnmejahbiacaaGreatL18
import Derived.Test.YtepnmejahbiacaaGreatL07
import Derived.Test.YtepnmejahbiacaaGreatL12
import Derived.Test.YtepnmejahbiacaaGreatL13
import Derived.Test.YtepnmejahbiacaaGreatL14
import Derived.Test.YtepnmejahbiacaaGreatL15
import Derived.Test.YtepnmejahbiacaaGreatL17
import Derived.Test.YtepnmejahbiacaaGreatL33
import Derived.Test.YtepnmejahbiacaaGreatL21
import Derived.Test.YtepnmejahbiacaaGreatL08
import Derived.Test.YtepnmejahbiacaaGreatL16
import Derived.Test.YtepnmejahbiacaaGreatL32
import Derived.Test.YtepnmejahbiacaaGreatL06
import Derived.Test.YtepnmejahbiacaaGreatL10
import Derived.Test.YtepnmejahbiacaaGreatL11
import Derived.Test.YtepnmejahbiacaaGreatL26
import Derived.Test.YtepnmejahbiacaaGreatL29
import Derived.Test.YtepnmejahbiacaaGreatL09
import Derived.Test.YtepnmejahbiacaaGreatL03
import Derived.Test.YtepnmejahbiacaaGreatL31
import Derived.Test.YtepnmejahbiacaaGreatL02
import Derived.Test.YtepnmejahbiacaaGreatL01
import Derived.BigQuiet
import Derived.Carry
import Derived.Deep.AppendLies
import Derived.Deep.DrawnRows
import Derived.Deep.Draws
import Derived.Deep.LoopGhost
import Derived.Deep.QuietTactic
import Derived.Deep.RegionHeld3
import Derived.Deep.RegionHeldLaw
import Derived.Deep.RegionLaw
import Derived.Deep.RegionWith
import Derived.Deep.Slices
import Derived.KernelRfl
import Derived.Laws.Cover1
import Derived.Laws.EntriesVeiled
import Derived.Lib.Hide
import Derived.Lib.SliceRun
import Derived.LoopIn
import Derived.LoopNIn
import Derived.Maps.AppendAt
import Derived.Maps.Own
import Derived.Maps.OwnIn
import Derived.Outline
import Derived.OwnWalkIn
import Derived.RangeFuncBound
import Derived.RangeFuncCalls
import Derived.RangeFuncLeaves
import Derived.RangeFuncNested
import Derived.Recover
import Derived.Shelf.SlSortCmp.NoneTotal
import Derived.Shelf.SlSortCmp.WholeK
import Derived.StillTailTactics
import Derived.Stop.RegionWithIn
import Derived.TacticsInMore
import Derived.Test.YtepnmejahbiacaaGreatProg
import Derived.WalkKit
import Derived.WalkSpells
set_option linter.unusedVariables false
set_option linter.unusedSimpArgs false
namespace Go.Proofs.YtepnmejahbiacaaGreat
open Go.RowKit Go.Deep
attribute [local go_sem ↓] Go.wp_at_zero Go.wp_at_succ
set_option maxHeartbeats 16000000 in
set_option maxRecDepth 100000 in
theorem covers_calls (hp M1 : Nat) (AH : Option Addr) (cH : Nat) (l : List CI) (ol : ∀ x ∈ l, ciOk x) (hb xb : Nat) (x y : Ty) (A A' : Option Addr) (c c' : Nat) (W : World) (G : Nat → Prop) (H : HierAt hp M1 AH cH l l.length W) (hA : Held G (CIs AH l) W) (h0 : W.cell? ⟨hb, 0, none⟩ = some (.pointer (some ⟨hp, 0, none⟩)))
    (hx : Cel xb [.int .i64 x.kind, .string x.name, .int .i64 x.lo, .int .i64 x.hi, .slice A' 0 c'] W) :
    Calls Tryz.prog 150 #[leafV y A c, .pointer (some ⟨xb, 0, none⟩), .pointer (some ⟨hb, 0, none⟩)] W fun e w' => e = .returned (.bool (covers l x y)) ∧ Below W.heap.size W w' := by
  obtain ⟨W1, hW1⟩ : ∃ W1, W1 = (W.alloc (.cells #[.int .i64 y.kind, .string y.name, .int .i64 y.lo, .int .i64 y.hi, .slice A 0 c] 36)) := ⟨_, rfl⟩
  have b1 : Below W.heap.size W W1 := by rw [hW1]; exact (Below.refl _ W).alloc (Nat.le_refl _) _
  have hy : Cel W.heap.size [.int .i64 y.kind, .string y.name, .int .i64 y.lo, .int .i64 y.hi, .slice A 0 c] W1 := by rw [hW1]; exact Cel.new W _ _ _ rfl
  have HX : Hid (∀ V, Below W1.heap.size W1 V → V.cell? ⟨hb, 0, none⟩ = some (.pointer (some ⟨hp, 0, none⟩)) ∧ (V.cell? ⟨xb, 0, none⟩ = some (.int .i64 x.kind) ∧ V.cell? ⟨xb, 1, none⟩ = some (.string x.name) ∧ V.cell? ⟨xb, 2, none⟩ = some (.int .i64 x.lo) ∧ V.cell? ⟨xb, 3, none⟩ = some (.int .i64 x.hi) ∧ V.cell? ⟨xb, 4, none⟩ = some (.slice A' 0 c')) ∧
      (V.cell? ⟨W.heap.size, 0, none⟩ = some (.int .i64 y.kind) ∧ V.cell? ⟨W.heap.size, 1, none⟩ = some (.string y.name) ∧ V.cell? ⟨W.heap.size, 2, none⟩ = some (.int .i64 y.lo) ∧ V.cell? ⟨W.heap.size, 3, none⟩ = some (.int .i64 y.hi) ∧ V.cell? ⟨W.heap.size, 4, none⟩ = some (.slice A 0 c))) := Lib.hid (fun V hV => by
    have h1 := (hx.all b1).all hV
    have h2 := hy.all hV
    exact ⟨cell_all (cell_all h0 b1) hV, ⟨(h1 0 _ rfl).1, (h1 1 _ rfl).1, (h1 2 _ rfl).1, (h1 3 _ rfl).1, (h1 4 _ rfl).1⟩, ⟨(h2 0 _ rfl).1, (h2 1 _ rfl).1, (h2 2 _ rfl).1, (h2 3 _ rfl).1, (h2 4 _ rfl).1⟩⟩)
  have hU : Below W1.heap.size W1 W1 := Below.refl _ _
  obtain ⟨q0, ⟨x0, x1, x2, x3, x4⟩, ⟨y0, y1, y2, y3, y4⟩⟩ := HX.out W1 hU
  have HI := fun s V => isClass_calls y A 0 c s V
  have HE := Lib.hid (fun V => equalL_calls x y A' A c' c V)
  have HB := Lib.hid (fun V (hV : Below W1.heap.size W1 V) => below_calls hp M1 AH cH l x.name y.name V (H.keep (below_stp b1 hV)) G (hA.keep (Keep.all (below_stp b1 hV))) ol)
  have HB1 := Lib.hid b1
  have HIO : Hid (∀ V, Calls Tryz.prog 151 #[.agg #[.int .i64 y.kind, .string y.name, .int .i64 y.lo, .int .i64 y.hi, .slice A 0 c], .string ⟨#[60, 111, 98, 106, 101, 99, 116, 62]⟩] V fun e w' => e = .returned (.bool (isCls y nObject)) ∧ Below V.heap.size V w') := Lib.hid (HI nObject)
  have HII : Hid (∀ V, Calls Tryz.prog 151 #[.agg #[.int .i64 y.kind, .string y.name, .int .i64 y.lo, .int .i64 y.hi, .slice A 0 c], .string ⟨#[60, 105, 110, 116, 101, 103, 101, 114, 62]⟩] V fun e w' => e = .returned (.bool (isCls y nInteger)) ∧ Below V.heap.size V w') := Lib.hid (HI nInteger)
  have HIB : Hid (∀ V, Calls Tryz.prog 151 #[.agg #[.int .i64 y.kind, .string y.name, .int .i64 y.lo, .int .i64 y.hi, .slice A 0 c], .string ⟨#[60, 98, 111, 111, 108, 101, 97, 110, 62]⟩] V fun e w' => e = .returned (.bool (isCls y nBoolean)) ∧ Below V.heap.size V w') := Lib.hid (HI nBoolean)
  have HIC : Hid (∀ V, Calls Tryz.prog 151 #[.agg #[.int .i64 y.kind, .string y.name, .int .i64 y.lo, .int .i64 y.hi, .slice A 0 c], .string ⟨#[60, 99, 108, 97, 115, 115, 62]⟩] V fun e w' => e = .returned (.bool (isCls y nClass)) ∧ Below V.heap.size V w') := Lib.hid (HI nClass)
  clear H hA h0 hx hy HI b1
  have HU : Hid (∀ r, covers l x y = r → covers l x y = r) := Lib.hid fun _ h => h
  cases hO : isCls y nObject with
  | true =>
    have HR : Hid (covers l x y = true) := Lib.hid (by unfold covers; rw [hO]; rfl)
    rw [hO] at HIO
    go_enter Tryz.func150, Tryz.ntmps150
    go_wp2_with (fail)
    rw [← hW1]
    clear hW1
    go_wp2_with (go_at_call 151; with_reducible refine (HIO.out _).mono ?_; rintro e V ⟨rfl, hbv⟩)
    go_ret
    exact ⟨by rw [HR.out]; try rfl, below_stp HB1.out hbv⟩
  | false =>
    rw [hO] at HIO
    cases hE : eqL x y with
    | true =>
      have HR : Hid (covers l x y = true) := Lib.hid (by unfold covers; rw [hO, hE]; rfl)
      rw [hE] at HE
      go_enter Tryz.func150, Tryz.ntmps150
      go_wp2_with (fail)
      rw [← hW1]
      clear hW1
      go_wp2_with (first
        | (go_at_call 151; with_reducible refine (HIO.out _).mono ?_; rintro e V ⟨rfl, hbv⟩; have hU := below_stp hU hbv; obtain ⟨q0, ⟨x0, x1, x2, x3, x4⟩, ⟨y0, y1, y2, y3, y4⟩⟩ := HX.out _ hU)
        | (go_at_call 142; refine (HE.out _).mono ?_; rintro e V ⟨rfl, hbv⟩; have hU := below_stp hU hbv; obtain ⟨q0, ⟨x0, x1, x2, x3, x4⟩, ⟨y0, y1, y2, y3, y4⟩⟩ := HX.out _ hU))
      go_ret
      exact ⟨by rw [HR.out]; try rfl, below_stp HB1.out hU⟩
    | false =>
      rw [hE] at HE
      by_cases k2 : x.kind = 2
      · have HK : Hid (covers l x y = ((decide (y.kind = 2) && (decide (y.lo ≤ x.lo) && decide (x.hi ≤ y.hi))) || isCls y nInteger)) := Lib.hid (by unfold covers; rw [hO, hE, if_pos k2]; rfl)
        have t2 : (x.kind == 2) = true := beq_iff_eq.2 k2
        generalize isCls y nInteger = r at HII HK
        clear k2
        by_cases j2 : y.kind = 2
        · have u2 : (y.kind == 2) = true := beq_iff_eq.2 j2
          by_cases d1 : y.lo ≤ x.lo
          · have e1 : decide (y.lo ≤ x.lo) = true := decide_eq_true d1
            by_cases d2 : x.hi ≤ y.hi
            · have e2 : decide (x.hi ≤ y.hi) = true := decide_eq_true d2
              have HR : Hid (covers l x y = true) := Lib.hid (by rw [HK.out, decide_eq_true j2, e1, e2]; rfl)
              clear j2 d1 d2
              go_enter Tryz.func150, Tryz.ntmps150
              go_wp2_with (fail)
              rw [← hW1]
              clear hW1
              go_wp2_with (first
                | (go_at_call 151; with_reducible refine (HIO.out _).mono ?_; rintro e V ⟨rfl, hbv⟩; have hU := below_stp hU hbv; obtain ⟨q0, ⟨x0, x1, x2, x3, x4⟩, ⟨y0, y1, y2, y3, y4⟩⟩ := HX.out _ hU)
                | (go_at_call 142; refine (HE.out _).mono ?_; rintro e V ⟨rfl, hbv⟩; have hU := below_stp hU hbv; obtain ⟨q0, ⟨x0, x1, x2, x3, x4⟩, ⟨y0, y1, y2, y3, y4⟩⟩ := HX.out _ hU)
                | (go_at_call 151; with_reducible refine (HII.out _).mono ?_; rintro e V ⟨rfl, hbv⟩; have hU := below_stp hU hbv; obtain ⟨q0, ⟨x0, x1, x2, x3, x4⟩, ⟨y0, y1, y2, y3, y4⟩⟩ := HX.out _ hU))
              go_ret
              exact ⟨by rw [HR.out]; try rfl, below_stp HB1.out hU⟩
            · have e2 : decide (x.hi ≤ y.hi) = false := decide_eq_false d2
              have HR : Hid (covers l x y = r) := Lib.hid (by rw [HK.out, decide_eq_true j2, e1, e2]; rfl)
              clear j2 d1 d2
              go_enter Tryz.func150, Tryz.ntmps150
              go_wp2_with (fail)
              rw [← hW1]
              clear hW1
              go_wp2_with (first
                | (go_at_call 151; with_reducible refine (HIO.out _).mono ?_; rintro e V ⟨rfl, hbv⟩; have hU := below_stp hU hbv; obtain ⟨q0, ⟨x0, x1, x2, x3, x4⟩, ⟨y0, y1, y2, y3, y4⟩⟩ := HX.out _ hU)
                | (go_at_call 142; refine (HE.out _).mono ?_; rintro e V ⟨rfl, hbv⟩; have hU := below_stp hU hbv; obtain ⟨q0, ⟨x0, x1, x2, x3, x4⟩, ⟨y0, y1, y2, y3, y4⟩⟩ := HX.out _ hU)
                | (go_at_call 151; with_reducible refine (HII.out _).mono ?_; rintro e V ⟨rfl, hbv⟩; have hU := below_stp hU hbv; obtain ⟨q0, ⟨x0, x1, x2, x3, x4⟩, ⟨y0, y1, y2, y3, y4⟩⟩ := HX.out _ hU))
              go_ret
              exact ⟨by rw [HR.out]; try rfl, below_stp HB1.out hU⟩
          · have e1 : decide (y.lo ≤ x.lo) = false := decide_eq_false d1
            have HR : Hid (covers l x y = r) := Lib.hid (by rw [HK.out, decide_eq_true j2, e1]; rfl)
            clear j2 d1
            go_enter Tryz.func150, Tryz.ntmps150
            go_wp2_with (fail)
            rw [← hW1]
            clear hW1
            go_wp2_with (first
              | (go_at_call 151; with_reducible refine (HIO.out _).mono ?_; rintro e V ⟨rfl, hbv⟩; have hU := below_stp hU hbv; obtain ⟨q0, ⟨x0, x1, x2, x3, x4⟩, ⟨y0, y1, y2, y3, y4⟩⟩ := HX.out _ hU)
              | (go_at_call 142; refine (HE.out _).mono ?_; rintro e V ⟨rfl, hbv⟩; have hU := below_stp hU hbv; obtain ⟨q0, ⟨x0, x1, x2, x3, x4⟩, ⟨y0, y1, y2, y3, y4⟩⟩ := HX.out _ hU)
              | (go_at_call 151; with_reducible refine (HII.out _).mono ?_; rintro e V ⟨rfl, hbv⟩; have hU := below_stp hU hbv; obtain ⟨q0, ⟨x0, x1, x2, x3, x4⟩, ⟨y0, y1, y2, y3, y4⟩⟩ := HX.out _ hU))
            go_ret
            exact ⟨by rw [HR.out]; try rfl, below_stp HB1.out hU⟩
        · have u2 : (y.kind == 2) = false := beq_eq_false_iff_ne.2 j2
          have HR : Hid (covers l x y = r) := Lib.hid (by rw [HK.out, decide_eq_false j2]; rfl)
          clear j2
          go_enter Tryz.func150, Tryz.ntmps150
          go_wp2_with (fail)
          rw [← hW1]
          clear hW1
          go_wp2_with (first
            | (go_at_call 151; with_reducible refine (HIO.out _).mono ?_; rintro e V ⟨rfl, hbv⟩; have hU := below_stp hU hbv; obtain ⟨q0, ⟨x0, x1, x2, x3, x4⟩, ⟨y0, y1, y2, y3, y4⟩⟩ := HX.out _ hU)
            | (go_at_call 142; refine (HE.out _).mono ?_; rintro e V ⟨rfl, hbv⟩; have hU := below_stp hU hbv; obtain ⟨q0, ⟨x0, x1, x2, x3, x4⟩, ⟨y0, y1, y2, y3, y4⟩⟩ := HX.out _ hU)
            | (go_at_call 151; with_reducible refine (HII.out _).mono ?_; rintro e V ⟨rfl, hbv⟩; have hU := below_stp hU hbv; obtain ⟨q0, ⟨x0, x1, x2, x3, x4⟩, ⟨y0, y1, y2, y3, y4⟩⟩ := HX.out _ hU))
          go_ret
          exact ⟨by rw [HR.out]; try rfl, below_stp HB1.out hU⟩
      have t2 : (x.kind == 2) = false := beq_eq_false_iff_ne.2 k2
      by_cases k3 : x.kind = 3
      · have HR : Hid (covers l x y = isCls y nBoolean) := Lib.hid (by unfold covers; rw [hO, hE, if_neg k2, if_pos k3]; rfl)
        have t3 : (x.kind == 3) = true := beq_iff_eq.2 k3
        generalize isCls y nBoolean = r at HIB HR
        clear k2 k3
        go_enter Tryz.func150, Tryz.ntmps150
        go_wp2_with (fail)
        rw [← hW1]
        clear hW1
        go_wp2_with (first
          | (go_at_call 151; with_reducible refine (HIO.out _).mono ?_; rintro e V ⟨rfl, hbv⟩; have hU := below_stp hU hbv; obtain ⟨q0, ⟨x0, x1, x2, x3, x4⟩, ⟨y0, y1, y2, y3, y4⟩⟩ := HX.out _ hU)
          | (go_at_call 142; refine (HE.out _).mono ?_; rintro e V ⟨rfl, hbv⟩; have hU := below_stp hU hbv; obtain ⟨q0, ⟨x0, x1, x2, x3, x4⟩, ⟨y0, y1, y2, y3, y4⟩⟩ := HX.out _ hU)
          | (go_at_call 151; with_reducible refine (HIB.out _).mono ?_; rintro e V ⟨rfl, hbv⟩; have hU := below_stp hU hbv; obtain ⟨q0, ⟨x0, x1, x2, x3, x4⟩, ⟨y0, y1, y2, y3, y4⟩⟩ := HX.out _ hU))
        go_ret
        exact ⟨by rw [HR.out]; try rfl, below_stp HB1.out hU⟩
      have t3 : (x.kind == 3) = false := beq_eq_false_iff_ne.2 k3
      by_cases k4 : x.kind = 4
      · have HK : Hid (covers l x y = ((decide (y.kind = 4) && belowB l x.name y.name) || isCls y nClass)) := Lib.hid (by unfold covers; rw [hO, hE, if_neg k2, if_neg k3, if_pos k4]; rfl)
        have t4 : (x.kind == 4) = true := beq_iff_eq.2 k4
        generalize isCls y nClass = r at HIC HK
        clear k2 k3 k4
        by_cases j2 : y.kind = 4
        · have u2 : (y.kind == 4) = true := beq_iff_eq.2 j2
          cases hB : belowB l x.name y.name with
          | true =>
            have HR : Hid (covers l x y = true) := Lib.hid (by rw [HK.out, decide_eq_true j2, hB]; rfl)
            rw [hB] at HB
            clear j2 hB
            go_enter Tryz.func150, Tryz.ntmps150
            go_wp2_with (fail)
            rw [← hW1]
            clear hW1
            go_wp2_with (first
              | (go_at_call 151; with_reducible refine (HIO.out _).mono ?_; rintro e V ⟨rfl, hbv⟩; have hU := below_stp hU hbv; obtain ⟨q0, ⟨x0, x1, x2, x3, x4⟩, ⟨y0, y1, y2, y3, y4⟩⟩ := HX.out _ hU)
              | (go_at_call 142; refine (HE.out _).mono ?_; rintro e V ⟨rfl, hbv⟩; have hU := below_stp hU hbv; obtain ⟨q0, ⟨x0, x1, x2, x3, x4⟩, ⟨y0, y1, y2, y3, y4⟩⟩ := HX.out _ hU)
              | (go_at_call 151; with_reducible refine (HIC.out _).mono ?_; rintro e V ⟨rfl, hbv⟩; have hU := below_stp hU hbv; obtain ⟨q0, ⟨x0, x1, x2, x3, x4⟩, ⟨y0, y1, y2, y3, y4⟩⟩ := HX.out _ hU)
              | (go_at_call 134; refine (HB.out _ hU).mono ?_; rintro e V ⟨rfl, rfl⟩))
            go_ret
            exact ⟨by rw [HR.out]; try rfl, below_stp HB1.out hU⟩
          | false =>
            have HR : Hid (covers l x y = r) := Lib.hid (by rw [HK.out, decide_eq_true j2, hB]; rfl)
            rw [hB] at HB
            clear j2 hB
            go_enter Tryz.func150, Tryz.ntmps150
            go_wp2_with (fail)
            rw [← hW1]
            clear hW1
            go_wp2_with (first
              | (go_at_call 151; with_reducible refine (HIO.out _).mono ?_; rintro e V ⟨rfl, hbv⟩; have hU := below_stp hU hbv; obtain ⟨q0, ⟨x0, x1, x2, x3, x4⟩, ⟨y0, y1, y2, y3, y4⟩⟩ := HX.out _ hU)
              | (go_at_call 142; refine (HE.out _).mono ?_; rintro e V ⟨rfl, hbv⟩; have hU := below_stp hU hbv; obtain ⟨q0, ⟨x0, x1, x2, x3, x4⟩, ⟨y0, y1, y2, y3, y4⟩⟩ := HX.out _ hU)
              | (go_at_call 151; with_reducible refine (HIC.out _).mono ?_; rintro e V ⟨rfl, hbv⟩; have hU := below_stp hU hbv; obtain ⟨q0, ⟨x0, x1, x2, x3, x4⟩, ⟨y0, y1, y2, y3, y4⟩⟩ := HX.out _ hU)
              | (go_at_call 134; refine (HB.out _ hU).mono ?_; rintro e V ⟨rfl, rfl⟩))
            go_ret
            exact ⟨by rw [HR.out]; try rfl, below_stp HB1.out hU⟩
        · have u2 : (y.kind == 4) = false := beq_eq_false_iff_ne.2 j2
          have HR : Hid (covers l x y = r) := Lib.hid (by rw [HK.out, decide_eq_false j2]; rfl)
          clear j2
          go_enter Tryz.func150, Tryz.ntmps150
          go_wp2_with (fail)
          rw [← hW1]
          clear hW1
          go_wp2_with (first
            | (go_at_call 151; with_reducible refine (HIO.out _).mono ?_; rintro e V ⟨rfl, hbv⟩; have hU := below_stp hU hbv; obtain ⟨q0, ⟨x0, x1, x2, x3, x4⟩, ⟨y0, y1, y2, y3, y4⟩⟩ := HX.out _ hU)
            | (go_at_call 142; refine (HE.out _).mono ?_; rintro e V ⟨rfl, hbv⟩; have hU := below_stp hU hbv; obtain ⟨q0, ⟨x0, x1, x2, x3, x4⟩, ⟨y0, y1, y2, y3, y4⟩⟩ := HX.out _ hU)
            | (go_at_call 151; with_reducible refine (HIC.out _).mono ?_; rintro e V ⟨rfl, hbv⟩; have hU := below_stp hU hbv; obtain ⟨q0, ⟨x0, x1, x2, x3, x4⟩, ⟨y0, y1, y2, y3, y4⟩⟩ := HX.out _ hU)
            | (go_at_call 134; refine (HB.out _ hU).mono ?_; rintro e V ⟨rfl, rfl⟩))
          go_ret
          exact ⟨by rw [HR.out]; try rfl, below_stp HB1.out hU⟩
      · have HK : Hid (covers l x y = (decide (y.kind = 1) && belowB l x.name y.name)) := Lib.hid (by unfold covers; rw [hO, hE, if_neg k2, if_neg k3, if_neg k4]; rfl)
        have t4 : (x.kind == 4) = false := beq_eq_false_iff_ne.2 k4
        clear k2 k3 k4
        by_cases j2 : y.kind = 1
        · have u2 : (y.kind == 1) = true := beq_iff_eq.2 j2
          have HR : Hid (covers l x y = belowB l x.name y.name) := Lib.hid (by rw [HK.out, decide_eq_true j2]; rfl)
          generalize belowB l x.name y.name = r at HB HR HK
          clear j2
          go_enter Tryz.func150, Tryz.ntmps150
          go_wp2_with (fail)
          rw [← hW1]
          clear hW1
          go_wp2_with (first
            | (go_at_call 151; with_reducible refine (HIO.out _).mono ?_; rintro e V ⟨rfl, hbv⟩; have hU := below_stp hU hbv; obtain ⟨q0, ⟨x0, x1, x2, x3, x4⟩, ⟨y0, y1, y2, y3, y4⟩⟩ := HX.out _ hU)
            | (go_at_call 142; refine (HE.out _).mono ?_; rintro e V ⟨rfl, hbv⟩; have hU := below_stp hU hbv; obtain ⟨q0, ⟨x0, x1, x2, x3, x4⟩, ⟨y0, y1, y2, y3, y4⟩⟩ := HX.out _ hU)
            | (go_at_call 134; refine (HB.out _ hU).mono ?_; rintro e V ⟨rfl, rfl⟩))
          go_ret
          exact ⟨by rw [HR.out]; try rfl, below_stp HB1.out hU⟩
        · have u2 : (y.kind == 1) = false := beq_eq_false_iff_ne.2 j2
          have HR : Hid (covers l x y = false) := Lib.hid (by rw [HK.out, decide_eq_false j2]; rfl)
          clear j2
          go_enter Tryz.func150, Tryz.ntmps150
          go_wp2_with (fail)
          rw [← hW1]
          clear hW1
          go_wp2_with (first
            | (go_at_call 151; with_reducible refine (HIO.out _).mono ?_; rintro e V ⟨rfl, hbv⟩; have hU := below_stp hU hbv; obtain ⟨q0, ⟨x0, x1, x2, x3, x4⟩, ⟨y0, y1, y2, y3, y4⟩⟩ := HX.out _ hU)
            | (go_at_call 142; refine (HE.out _).mono ?_; rintro e V ⟨rfl, hbv⟩; have hU := below_stp hU hbv; obtain ⟨q0, ⟨x0, x1, x2, x3, x4⟩, ⟨y0, y1, y2, y3, y4⟩⟩ := HX.out _ hU)
            | (go_at_call 134; refine (HB.out _ hU).mono ?_; rintro e V ⟨rfl, rfl⟩))
          go_ret
          exact ⟨by rw [HR.out]; try rfl, below_stp HB1.out hU⟩
end Go.Proofs.YtepnmejahbiacaaGreat
set_option linter.unusedVariables false
set_option linter.unusedSimpArgs false
namespace Go.Proofs.YtepnmejahbiacaaGreat
open Go.RowKit Go.Deep
attribute [local go_sem ↓] Go.wp_at_zero Go.wp_at_succ
/-- What asking whether something is covered may change: the memos. -/
def CovS (M1 mb : Nat) (b : Nat) : Prop := Memo M1 b ∨ b = mb
structure Cov1 (hp M1 : Nat) (AH : Option Addr) (cH : Nat) (l : List CI) (mb : Nat) (Y : List Ty) (w w' : World) : Prop where
  H : HierAt hp M1 AH cH l l.length w'
  m : ∃ f, MapF strKey mb f w' ∧ ∀ s v, f s = some v → v = .bool (covS l Y s)
  ch : Chg (CovS M1 mb) w w'
section
variable {hp M1 : Nat} {AH : Option Addr} {cH : Nat} {l : List CI} {mb : Nat} {Y : List Ty} {w w' w2 : World}
theorem Cov1.trans (h : Cov1 hp M1 AH cH l mb Y w w') (k : Cov1 hp M1 AH cH l mb Y w' w2) : Cov1 hp M1 AH cH l mb Y w w2 := ⟨k.H, k.m, h.ch.trans k.ch⟩
theorem Cov1.step (h : Cov1 hp M1 AH cH l mb Y w w') (k : Below w'.heap.size w' w2) : Cov1 hp M1 AH cH l mb Y w w2 :=
  ⟨h.H.keep k, h.m.imp fun f q => ⟨q.1.keep (Keep.all k (G := fun _ => True)) trivial, q.2⟩, h.ch.trans (Chg.of k)⟩
theorem Cov1.refl (h : Cov1 hp M1 AH cH l mb Y w w') : Cov1 hp M1 AH cH l mb Y w' w' := ⟨h.H, h.m, Chg.refl _ _⟩
theorem Cov1.asked {B : Nat → Prop} (h : Cov1 hp M1 AH cH l mb Y w w') (k : Asked1 hp M1 AH cH l B w' w2) (hB : ∀ b, B b → Memo M1 b) (hm : ¬ Memo M1 mb) : Cov1 hp M1 AH cH l mb Y w w2 :=
  ⟨k.H, h.m.imp fun f q => ⟨q.1.keep (k.ch.keep (G := fun b => b = mb) fun b e s => hm (by rw [← (show b = mb from e)]; exact hB b s)) rfl, q.2⟩, h.ch.trans (k.ch.mono fun b _ s => .inl (hB b s))⟩
theorem Cov1.cellB (h : Cov1 hp M1 AH cH l mb Y w w') {b o : Nat} {v : Value} (hc : w.cell? ⟨b, o, none⟩ = some v) (hb : ¬ CovS M1 mb b) : w'.cell? ⟨b, o, none⟩ = some v :=
  cell_keep hc (h.ch.keep (G := fun x => x = b) fun x e s => hb (by rw [← (show x = b from e)]; exact s)) rfl
theorem Cov1.low (h : Cov1 hp M1 AH cH l mb Y w w') (hm : M1 ≤ mb) {R : World → Prop} (hA : Held (fun b => b < M1) R w) : Held (fun b => b < M1) R w' :=
  hA.keep (h.ch.keep fun b hb s => by
    have hb : b < M1 := hb
    rcases s with s | s
    · simp only [Memo] at s; omega
    · omega)
end
set_option maxHeartbeats 8000000 in
set_option maxRecDepth 100000 in
/-- The closure in covered's closure: a subclass is not covered. -/
theorem cov21_calls (hp M1 : Nat) (AH : Option Addr) (cH : Nat) (l : List CI) (mb : Nat) (A : Option Addr) (n c : Nat) (Y : List Ty) (b0 b2 b3 : Nat) (s : ByteArray) (w : World)
    (h0 : w.cell? ⟨b0, 0, none⟩ = some (.pointer (some ⟨hp, 0, none⟩))) (h2 : w.cell? ⟨b2, 0, none⟩ = some (.slice A n c)) (h3 : w.cell? ⟨b3, 0, none⟩ = some (.map (some mb)))
    (ih : ∀ V, Below w.heap.size w V → Calls Tryz.prog 103 #[.pointer (some ⟨hp, 0, none⟩), leafV (clsTy s) none 0, .slice A n c, .map (some mb)] V fun e w' => e = .returned (.bool (covB l Y (clsTy s))) ∧ Cov1 hp M1 AH cH l mb Y w w') :
    Calls Tryz.prog 157 #[.string s, .pointer (some ⟨b0, 0, none⟩), .pointer (some ⟨b2, 0, none⟩), .pointer (some ⟨b3, 0, none⟩)] w fun e w' => e = .returned (.bool (!covB l Y (clsTy s))) ∧ Cov1 hp M1 AH cH l mb Y w w' := by
  have HI := Lib.hid ih
  have HX : Hid (∀ V, Below w.heap.size w V → V.cell? ⟨b0, 0, none⟩ = some (.pointer (some ⟨hp, 0, none⟩)) ∧ V.cell? ⟨b2, 0, none⟩ = some (.slice A n c) ∧ V.cell? ⟨b3, 0, none⟩ = some (.map (some mb))) := Lib.hid (fun V h => ⟨cell_all h0 h, cell_all h2 h, cell_all h3 h⟩)
  have hd : Below w.heap.size w w.drew := (Below.refl _ w).drew
  clear ih
  generalize covB l Y (clsTy s) = v at HI
  go_enter Tryz.func157, Tryz.ntmps157
  go_wp2_with (fail)
  go_region_with (first
    | (go_at_call 140; refine (tclass_calls _ _).mono ?_; rintro e V ⟨rfl, hbv⟩; have hV : Below w.heap.size w V := below_stp hd hbv; obtain ⟨u0, u2, u3⟩ := HX.out V hV)
    | (go_at_call 103; refine (HI.out _ hV).mono ?_; rintro e U ⟨rfl, hq⟩))
  all_goals
    have HQ := Lib.hid hq
    clear hq
    cases v
    all_goals
      go_wp2
      go_ret
      exact ⟨rfl, HQ.out⟩
end Go.Proofs.YtepnmejahbiacaaGreat
set_option linter.unusedVariables false
set_option linter.unusedSimpArgs false
namespace Go.Proofs.YtepnmejahbiacaaGreat
open Go.RowKit Go.Deep
attribute [local go_sem ↓] Go.wp_at_zero Go.wp_at_succ
set_option maxHeartbeats 8000000 in
set_option maxRecDepth 100000 in
theorem cov2_calls (hp M1 : Nat) (AH : Option Addr) (cH : Nat) (l : List CI) (hL : LookOk l) (ol : ∀ x ∈ l, ciOk x) (mb : Nat) (A : Option Addr) (n c : Nat) (Y : List Ty) (b0 b1 b2 b3 : Nat) (s : ByteArray) (w : World) (hW : Cov1 hp M1 AH cH l mb Y w w) (hA : Held (fun b => b < M1) (CIs AH l) w) (hmM : M1 + 1 + 1 < mb)
    (h0 : w.cell? ⟨b0, 0, none⟩ = some (.pointer (some ⟨hp, 0, none⟩))) (h1 : w.cell? ⟨b1, 1, none⟩ = some (.string s)) (h2 : w.cell? ⟨b2, 0, none⟩ = some (.slice A n c)) (h3 : w.cell? ⟨b3, 0, none⟩ = some (.map (some mb)))
    (n0 : ¬ CovS M1 mb b0) (n2 : ¬ CovS M1 mb b2) (n3 : ¬ CovS M1 mb b3)
    (ih : ∀ t ∈ subsL l s, ∀ V, Cov1 hp M1 AH cH l mb Y w V → Calls Tryz.prog 103 #[.pointer (some ⟨hp, 0, none⟩), leafV (clsTy t) none 0, .slice A n c, .map (some mb)] V fun e w' => e = .returned (.bool (covB l Y (clsTy t))) ∧ Cov1 hp M1 AH cH l mb Y V w') :
    Calls Tryz.prog 154 #[.pointer (some ⟨b0, 0, none⟩), .pointer (some ⟨b1, 0, none⟩), .pointer (some ⟨b2, 0, none⟩), .pointer (some ⟨b3, 0, none⟩)] w fun e w' => e = .returned (.bool (covS l Y s)) ∧ Cov1 hp M1 AH cH l mb Y w w' := by
  have hmf : ∀ (fn : Fn) (first cap : Array Value) (w : World), (Instr.makeFunc fn first cap).run Tryz.prog w = .ok (.func fn first cap) w := fun _ _ _ _ => rfl
  have h120 := hL.1
  have HIH := Lib.hid ih
  have HW := Lib.hid hW
  have HSB := Lib.hid (subs_calls hp M1 AH cH l s w hW.H.c0 _ hA ol (by omega))
  have HMB : Hid (mb < w.heap.size) := Lib.hid (by obtain ⟨f, hf, _⟩ := hW.m; exact hf.lt)
  have HMM := Lib.hid hmM
  have HLS : Hid ((subsL l s).length ≤ 1000000) := Lib.hid (by
    unfold subsL; rw [List.length_map]
    have := List.length_filter_le (fun x => hasS x.supers s) l
    omega)
  have HB : Hid (covS l Y s = (subsL l s).all fun t => covB l Y (clsTy t)) := Lib.hid rfl
  have g0 := h0
  have g2 := h2
  have g3 := h3
  have l0 : b0 < w.heap.size := cell_lt h0
  have HC0 := Lib.hid (And.intro h0 (And.intro h2 h3))
  clear ih hA hW hmM g0 g2 g3
  go_enter Tryz.func154, Tryz.ntmps154
  go_wp2_with (fail)
  refine HSB.out.mono ?_
  clear HSB
  rintro e X ⟨v, rfl, hown, hbx⟩
  obtain ⟨A5, c5, rfl, _, k5⟩ := hown.out
  have HLT : Hid (∀ q, (Value.slice A5 (subsL l s).length c5).ownBlock = some q → w.heap.size ≤ q) := Lib.hid (fun q e => (hown.lt q e).1)
  have HX : Hid (Cov1 hp M1 AH cH l mb Y w X) := Lib.hid (HW.out.step hbx)
  have HCF : Hid (Calls Tryz.prog 155 #[.slice A5 (subsL l s).length c5, .func (.func 157) #[] #[.pointer (some ⟨b0, 0, none⟩), .pointer (some ⟨b2, 0, none⟩), .pointer (some ⟨b3, 0, none⟩)]] X fun e w' => e = .returned (.bool (!(subsL l s).all fun t => covB l Y (clsTy t))) ∧ Cov1 hp M1 AH cH l mb Y X w') := Lib.hid (by
    refine anyNot_calls 157 _ (enters Tryz.func157 (by kernel_rfl) rfl) A5 c5 (subsL l s) (fun t => covB l Y (clsTy t)) (fun wr => Cov1 hp M1 AH cH l mb Y X wr) X HX.out.refl (fun wr hr => ?_) HLS.out (fun t ht wr hr => ?_)
    · refine (k5.keep (hr.ch.keep fun b hb q => ?_)).now
      rcases hb with hb | hb
      · exact hb.elim
      · have := HLT.out b hb; have := HMB.out; have := HMM.out
        rcases q with q | q
        · simp only [Memo] at q; omega
        · omega
    · have hwr := HX.out.trans hr
      refine (cov21_calls hp M1 AH cH l mb A n c Y b0 b2 b3 t wr (hwr.cellB HC0.out.1 n0) (hwr.cellB HC0.out.2.1 n2) (hwr.cellB HC0.out.2.2 n3) (fun V hV => ?_)).mono ?_
      · refine (HIH.out t ht V (hwr.step hV)).mono ?_
        rintro e w' ⟨rfl, hq⟩
        exact ⟨rfl, (hwr.refl.step hV).trans hq⟩
      · rintro e w' ⟨rfl, hq⟩
        exact ⟨rfl, hr.trans hq⟩)
  clear hown k5
  go_wp2_with (fail)
  refine HCF.out.mono ?_
  clear HCF
  rintro e Z ⟨rfl, hZ⟩
  have HZ := Lib.hid (HX.out.trans hZ)
  clear hZ
  generalize ((subsL l s).all fun t => covB l Y (clsTy t)) = al at HB
  cases al
  all_goals
    go_wp2
    go_ret
    exact ⟨by rw [HB.out]; try rfl, HZ.out⟩
end Go.Proofs.YtepnmejahbiacaaGreat
set_option linter.unusedVariables false
set_option linter.unusedSimpArgs false
namespace Go.Proofs.YtepnmejahbiacaaGreat
open Go.RowKit Go.Deep
attribute [local go_sem ↓] Go.wp_at_zero Go.wp_at_succ
theorem leafR_chg {M1 mb : Nat} {A : Option Addr} {d : List Leaf} {w w' : World} (h : Slc leafR 5 A d w) (hA : ∀ b off, A = some ⟨b, off, none⟩ → ¬ CovS M1 mb b) (k : Chg (CovS M1 mb) w w') : Slc leafR 5 A d w' :=
  leafR_keep h fun b off e o v hv => cell_keep hv (k.keep (G := fun x => x = b) fun x q s => hA b off e (by rw [← (show x = b from q)]; exact s)) rfl
set_option maxHeartbeats 16000000 in
set_option maxRecDepth 100000 in
theorem covered_calls (hp M1 : Nat) (AH : Option Addr) (cH : Nat) (l : List CI) (hL : LookOk l) (ol : ∀ x ∈ l, ciOk x) (mb : Nat) (hmh : hp < mb) (A : Option Addr) (c : Nat) (d : List Leaf) (hd6 : d.length ≤ 1000000) (hAb : ∀ b off, A = some ⟨b, off, none⟩ → ¬ CovS M1 mb b) :
    ∀ (q : Nat) (x : Ty), rankC l x.name < q → ∀ (A' : Option Addr) (c' : Nat) (w : World), Cov1 hp M1 AH cH l mb (d.map Leaf.ty) w w → Held (fun b => b < M1) (CIs AH l) w → Slc leafR 5 A d w →
    Calls Tryz.prog 103 #[.pointer (some ⟨hp, 0, none⟩), leafV x A' c', .slice A d.length c, .map (some mb)] w fun e w' => e = .returned (.bool (covB l (d.map Leaf.ty) x)) ∧ Cov1 hp M1 AH cH l mb (d.map Leaf.ty) w w' := by
  intro q
  induction q with
  | zero => intro x h; omega
  | succ q ih =>
    intro x hrk A' c' w hW hA hd
    have hmf : ∀ (fn : Fn) (first cap : Array Value) (w : World), (Instr.makeFunc fn first cap).run Tryz.prog w = .ok (.func fn first cap) w := fun _ _ _ _ => rfl
    have hpe := hW.H.hpe
    have hmw : mb < w.heap.size := by obtain ⟨f, hf, _⟩ := hW.m; exact hf.lt
    obtain ⟨W1, hW1⟩ : ∃ W1, W1 = (((w.alloc (.cells #[.pointer (some ⟨hp, 0, none⟩)] 98)).alloc (.cells #[.int .i64 x.kind, .string x.name, .int .i64 x.lo, .int .i64 x.hi, .slice A' 0 c'] 36)).alloc (.cells #[.slice A d.length c] 34)).alloc (.cells #[.map (some mb)] 134) := ⟨_, rfl⟩
    have b1 : Below w.heap.size w W1 := by rw [hW1]; exact ((((Below.refl _ w).alloc (Nat.le_refl _) _).alloc (by simp) _).alloc (by simp; omega) _).alloc (by simp; omega) _
    have x0 : W1.cell? ⟨w.heap.size, 0, none⟩ = some (.pointer (some ⟨hp, 0, none⟩)) := by rw [hW1]; exact alloc_cell' (alloc_cell' (alloc_cell' (cell_new w _ _ _ rfl 0 _ rfl)))
    have hx1 : Cel (w.heap.size + 1) [.int .i64 x.kind, .string x.name, .int .i64 x.lo, .int .i64 x.hi, .slice A' 0 c'] W1 := by
      rw [hW1]
      exact ((Cel.new (w.alloc _) _ _ _ (by simp)).all ((Below.refl _ _).alloc (Nat.le_refl _) _)).all ((Below.refl _ _).alloc (Nat.le_refl _) _)
    have x2 : W1.cell? ⟨w.heap.size + 2, 0, none⟩ = some (.slice A d.length c) := by rw [hW1]; exact alloc_cell' (cell_new ((w.alloc _).alloc _) _ _ _ (by simp) 0 _ rfl)
    have x3 : W1.cell? ⟨w.heap.size + 3, 0, none⟩ = some (.map (some mb)) := by rw [hW1]; exact cell_new (((w.alloc _).alloc _).alloc _) _ _ _ (by simp) 0 _ rfl
    have HW1 : Hid (Cov1 hp M1 AH cH l mb (d.map Leaf.ty) w W1) := Lib.hid (hW.step b1)
    have hnb : ∀ j, ¬ CovS M1 mb (w.heap.size + j) := fun j s => by
      rcases s with s | s
      · simp only [Memo] at s; omega
      · omega
    have HNB := Lib.hid hnb
    have HA := Lib.hid hA
    have HD := Lib.hid hd
    have HPE := Lib.hid hpe
    have HCV := Lib.hid (covB_eq hL (d.map Leaf.ty) x)
    have HRK := Lib.hid hrk
    have HIH := Lib.hid ih
    have h120 := hL.1
    have h11 := hL.2.1
    have HMH := Lib.hid hmh
    have hmm : M1 ≤ mb := by omega
    have HCF : Hid (Calls Tryz.prog 101 #[.slice A d.length c, .func (.func 150) #[] #[.pointer (some ⟨w.heap.size + 1, 0, none⟩), .pointer (some ⟨w.heap.size, 0, none⟩)]] W1 fun e w' => e = .returned (.bool ((d.map Leaf.ty).any (covers l x))) ∧ Below W1.heap.size W1 w') := Lib.hid (by
      refine anyLeaf_calls 150 _ (enters Tryz.func150 (by kernel_rfl) rfl) A c d (covers l x) (fun V => Below W1.heap.size W1 V) W1 (Below.refl _ _) (fun wr hI => leafR_all (leafR_all hd b1) hI) hd6 (fun y _ wr hI => ?_)
      have bw := below_stp b1 hI
      refine (covers_calls hp M1 AH cH l ol w.heap.size (w.heap.size + 1) x y.ty y.A A' y.c c' wr _ (hW.H.keep bw) (hA.keep (Keep.all bw)) (cell_all x0 hI) (hx1.all hI)).mono ?_
      rintro e w' ⟨rfl, hb'⟩
      exact ⟨rfl, below_stp hI hb'⟩)
    obtain ⟨x10, _⟩ := hx1 0 _ rfl
    obtain ⟨x11, _⟩ := hx1 1 _ rfl
    have HC := Lib.hid (And.intro x0 (And.intro x10 (And.intro x11 (And.intro x2 x3))))
    clear hW hA hd hx1 hnb hpe ih hrk hmw b1 hmh
    generalize (d.map Leaf.ty).any (covers l x) = an at HCF HCV
    cases an with
    | true =>
      have HR : Hid (covB l (d.map Leaf.ty) x = true) := Lib.hid (by rw [HCV.out]; rfl)
      go_enter Tryz.func103, Tryz.ntmps103
      go_wp2_with (fail)
      rw [← hW1]
      clear hW1
      refine HCF.out.mono ?_
      rintro e V ⟨rfl, hbv⟩
      have HF := Lib.hid (HW1.out.step hbv)
      clear hbv
      go_wp2
      go_ret
      exact ⟨by rw [HR.out]; try rfl, HF.out⟩
    | false =>
      go_enter Tryz.func103, Tryz.ntmps103
      go_wp2_with (fail)
      rw [← hW1]
      clear hW1
      refine HCF.out.mono ?_
      clear HCF
      rintro e V ⟨rfl, hbv⟩
      have HV := Lib.hid (HW1.out.step hbv)
      have v0 := cell_all x0 hbv
      have v10 := cell_all x10 hbv
      have v11 := cell_all x11 hbv
      have HC2 := Lib.hid (And.intro v0 (And.intro v11 (And.intro (cell_all x2 hbv) (cell_all x3 hbv))))
      clear hbv x0 x10 x11 x2 x3
      by_cases hk : x.kind = 1
      rotate_left
      · have HR : Hid (covB l (d.map Leaf.ty) x = false) := Lib.hid (by rw [HCV.out, decide_eq_false hk]; rfl)
        have t1 : (x.kind != 1) = true := bne_iff_ne.2 hk
        clear hk
        go_wp2
        go_ret
        exact ⟨by rw [HR.out]; try rfl, HV.out⟩
      have t1 : (x.kind != 1) = false := bne_eq_false_iff_eq.2 hk
      have HCV2 : Hid (covB l (d.map Leaf.ty) x = (cloB l x.name && (absAt l x.name && covS l (d.map Leaf.ty) x.name))) := Lib.hid (by rw [HCV.out, decide_eq_true hk]; rfl)
      clear hk HCV
      have HCL := Lib.hid (closed_calls hp M1 AH cH l hL ol x.name V HV.out.H (HV.out.low hmm HA.out))
      generalize cloB l x.name = cl at HCL HCV2
      go_wp2_with (fail)
      refine HCL.out.mono ?_
      clear HCL
      rintro e V2 ⟨rfl, hq2⟩
      have hm2 : ¬ Memo M1 mb := fun m => by simp only [Memo] at m; have := HPE.out; have := HMH.out; omega
      have HV2 := Lib.hid (HV.out.asked hq2 (fun b e => .inl e) hm2)
      have HQ2 : Hid (Cov1 hp M1 AH cH l mb (d.map Leaf.ty) V V2) := Lib.hid (HV.out.refl.asked hq2 (fun b e => .inl e) hm2)
      have u0 := HQ2.out.cellB v0 (HNB.out 0)
      have u11 := HQ2.out.cellB v11 (HNB.out 1)
      have HC3 := Lib.hid (And.intro u0 (And.intro u11 (And.intro (HQ2.out.cellB HC2.out.2.2.1 (HNB.out 2)) (HQ2.out.cellB HC2.out.2.2.2 (HNB.out 3)))))
      clear hq2 hm2 v0 v10 v11 HC2 HQ2
      cases cl with
      | false =>
        have HR : Hid (covB l (d.map Leaf.ty) x = false) := Lib.hid (by rw [HCV2.out]; rfl)
        go_wp2
        go_ret
        exact ⟨by rw [HR.out]; try rfl, HV2.out⟩
      | true =>
      have HAB := Lib.hid (abstract_calls hp M1 AH cH l x.name V2 HV2.out.H _ (HV2.out.low hmm HA.out) (by omega))
      generalize absAt l x.name = ab at HAB HCV2
      go_wp2_with (fail)
      refine HAB.out.mono ?_
      clear HAB
      rintro e U ⟨rfl, hdr⟩
      have bU := hdr.below V2.heap.size
      have HU := Lib.hid (HV2.out.step bU)
      have z0 := cell_all u0 bU
      have z11 := cell_all u11 bU
      have z2 := cell_all HC3.out.2.2.1 bU
      have z3 := cell_all HC3.out.2.2.2 bU
      have HC4 := Lib.hid (And.intro z0 (And.intro z11 (And.intro z2 z3)))
      clear hdr bU u0 u11 HC3
      cases ab with
      | false =>
        have HR : Hid (covB l (d.map Leaf.ty) x = false) := Lib.hid (by rw [HCV2.out]; rfl)
        go_wp2
        go_ret
        exact ⟨by rw [HR.out]; try rfl, HU.out⟩
      | true =>
      have HR : Hid (covB l (d.map Leaf.ty) x = covS l (d.map Leaf.ty) x.name) := Lib.hid (by rw [HCV2.out]; rfl)
      obtain ⟨f, hf, hok⟩ := HU.out.m
      have HRM : Hid (Calls Tryz.prog 153 #[.map (some mb), .string x.name, .func (.func 154) #[] #[.pointer (some ⟨w.heap.size, 0, none⟩), .pointer (some ⟨w.heap.size + 1, 0, none⟩), .pointer (some ⟨w.heap.size + 2, 0, none⟩), .pointer (some ⟨w.heap.size + 3, 0, none⟩)]] U fun e w' => e = .returned (.bool (covS l (d.map Leaf.ty) x.name)) ∧ Cov1 hp M1 AH cH l mb (d.map Leaf.ty) w w') := Lib.hid (by
        have hcl := cov2_calls hp M1 AH cH l hL ol mb A d.length c (d.map Leaf.ty) w.heap.size (w.heap.size + 1) (w.heap.size + 2) (w.heap.size + 3) x.name U HU.out.refl (HU.out.low hmm HA.out) (by have := HPE.out; have := HMH.out; omega) HC4.out.1 HC4.out.2.1 HC4.out.2.2.1 HC4.out.2.2.2 (HNB.out 0) (HNB.out 2) (HNB.out 3) (fun t ht V hV => by
          have hVw := HU.out.trans hV
          have hrk := subs_rank hL ht
          have := HRK.out
          exact HIH.out (clsTy t) (by show rankC l t < q; omega) none 0 V hVw.refl (hVw.low hmm HA.out) (leafR_chg HD.out hAb hVw.ch))
        refine (remembered_calls 154 _ (enters Tryz.func154 (by kernel_rfl) rfl) mb x.name _ f U hf (fun u hu => hok _ _ hu) (fun f' w1 => HierAt hp M1 AH cH l l.length w1 ∧ (∀ s v, f' s = some v → v = .bool (covS l (d.map Leaf.ty) s)) ∧ Chg (CovS M1 mb) U w1) (fun _ => hcl.mono ?_)).mono ?_
        · rintro e w' ⟨rfl, hq⟩
          obtain ⟨f', hf', hok'⟩ := hq.m
          exact ⟨rfl, f', hf', hq.H, hok', hq.ch⟩
        · rintro e w' ⟨rfl, hw'⟩
          rcases hw' with rfl | ⟨f', w1, ⟨r1, r2, r3⟩, hm', hg⟩
          · exact ⟨rfl, HU.out⟩
          · have hcg : Chg (fun b => b = mb) w1 w' := Chg.grown hg fun b e => by cases e; rfl
            refine ⟨rfl, r1.chg hcg (fun b e => ?_), ⟨_, hm', fun s v hv => ?_⟩, (HU.out.ch.trans r3).trans (hcg.mono fun b _ e => .inr e)⟩
            · have := HPE.out; have := HMH.out
              subst e
              exact ⟨by omega, by omega, fun m => by simp only [Memo] at m; omega⟩
            · by_cases q : s = x.name
              · subst q; simp at hv; exact hv.symm
              · simp [q] at hv; exact r2 s v hv)
      clear hf hok
      go_wp2_with (fail)
      refine HRM.out.mono ?_
      clear HRM
      rintro e Z ⟨rfl, hZ⟩
      have HZ := Lib.hid hZ
      clear hZ
      go_wp2
      go_ret
      exact ⟨by rw [HR.out]; try rfl, HZ.out⟩
end Go.Proofs.YtepnmejahbiacaaGreat
