/- Part 34 of the proof: Qp, Qq, Qr. -/
import Derived.Test.YtepnmejahbiacaaGreatJ22
import Derived.Test.YtepnmejahbiacaaGreatJ20
import Derived.Test.YtepnmejahbiacaaGreatJ05
import Derived.Test.YtepnmejahbiacaaGreatJ06
import Derived.Test.YtepnmejahbiacaaGreatJ19
import Derived.Test.YtepnmejahbiacaaGreatJ07
import Derived.Test.YtepnmejahbiacaaGreatJ12
import Derived.Test.YtepnmejahbiacaaGreatJ13
import Derived.Test.YtepnmejahbiacaaGreatJ14
import Derived.Test.YtepnmejahbiacaaGreatJ15
import Derived.Test.YtepnmejahbiacaaGreatJ18
import Derived.Test.YtepnmejahbiacaaGreatJ25
import Derived.Test.YtepnmejahbiacaaGreatJ24
import Derived.Test.YtepnmejahbiacaaGreatJ21
import Derived.Test.YtepnmejahbiacaaGreatJ08
import Derived.Test.YtepnmejahbiacaaGreatJ17
import Derived.Test.YtepnmejahbiacaaGreatJ04
import Derived.Test.YtepnmejahbiacaaGreatJ10
import Derived.Test.YtepnmejahbiacaaGreatJ11
import Derived.Test.YtepnmejahbiacaaGreatJ23
import Derived.Test.YtepnmejahbiacaaGreatJ28
import Derived.Test.YtepnmejahbiacaaGreatJ29
import Derived.Test.YtepnmejahbiacaaGreatJ31
import Derived.Test.YtepnmejahbiacaaGreatJ32
import Derived.Test.YtepnmejahbiacaaGreatJ33
import Derived.Test.YtepnmejahbiacaaGreatJ09
import Derived.Test.YtepnmejahbiacaaGreatJ26
import Derived.Test.YtepnmejahbiacaaGreatJ03
import Derived.Test.YtepnmejahbiacaaGreatJ16
import Derived.Test.YtepnmejahbiacaaGreatJ02
import Derived.Test.YtepnmejahbiacaaGreatJ01
import Derived.BigQuiet
import Derived.Carry
import Derived.Deep.AppendLies
import Derived.Deep.DrawnRows
import Derived.Deep.Draws
import Derived.Deep.LoopGhost
import Derived.Deep.QuietTactic
import Derived.Deep.RegionHeld3
import Derived.Deep.RegionLaw
import Derived.Deep.RegionWith
import Derived.KernelRfl
import Derived.Laws.EntriesVeiled
import Derived.Laws.OwnMore
import Derived.Lib.Hide
import Derived.Lib.SliceRun
import Derived.LoopIn
import Derived.LoopNIn
import Derived.Maps.AppendAt
import Derived.Maps.Own
import Derived.Maps.OwnIn
import Derived.Outline
import Derived.OwnWalkIn
import Derived.RangeFuncBound
import Derived.RangeFuncCalls
import Derived.RangeFuncLeaves
import Derived.RangeFuncNested
import Derived.Recover
import Derived.StillTailTactics
import Derived.Stop.RegionWithIn
import Derived.TacticsInMore
import Derived.Test.YtepnmejahbiacaaGreatProg
import Derived.WalkKit
import Derived.WalkSpells
set_option linter.unusedVariables false
set_option linter.unusedSimpArgs false
namespace Go.Proofs.YtepnmejahbiacaaGreat
open Go.RowKit
attribute [local go_sem ↓] Go.wp_at_zero Go.wp_at_succ
set_option maxHeartbeats 32000000 in
set_option maxRecDepth 100000 in
theorem fits8_calls (AH : Option Addr) (cH : Nat) (l : List CI) (hl : l.length ≤ 1000000) (hcp : ∀ x ∈ l, x.cpl.length ≤ 1000000) (hL : LookOk l) (v : Tag) : ∀ (q : Nat) (t : Ty), t.count ≤ q → ∀ (A : Option Addr) (c : Nat) (W : World) (G GH : Nat → Prop), Held GH (CIs AH l) W → t.all (fun x => decide (x.args.length ≤ 1000000)) = true → Held G (Typs A t.args) W →
    Calls Tryz.prog 77 #[.slice AH l.length cH, tagV v, tyV t A c] W fun e W' => e = .returned (.bool (hasTF l v t)) ∧ Below W.heap.size W W' := by
  intro q
  induction q with
  | zero => intro t hq; have := t.count_pos; omega
  | succ q ih =>
    intro t hq A c W G GH hH hall hT
    have HIH : Hid (∀ (x : Ty), x ∈ t.args → ∀ (A : Option Addr) (c : Nat) (V : World), Below W.heap.size W V → (∃ G, Held G (Typs A x.args) V) → Calls Tryz.prog 77 #[.slice AH l.length cH, tagV v, tyV x A c] V fun e W' => e = .returned (.bool (hasTF l v x)) ∧ Below V.heap.size V W') :=
      Lib.hid (fun x hx A c V hv ⟨G, hG⟩ => ih x (by have := Ty.count_mem hx; omega) A c V G GH (hH.keep (Keep.all hv)) (all_at hall hx) hG)
    have hlen := all_len hall
    have HT := Lib.hid hT
    have HUN : Hid (∀ V a b, Below W.heap.size W V → Calls Tryz.prog 121 #[.slice AH l.length cH, .string a, .string b] V fun e V' => e = .returned (.bool (belowB l a b)) ∧ Below V.heap.size V V') := Lib.hid (fun V a b hv => by
      refine (under8_calls AH cH l a b V GH (hH.keep (Keep.all hv)) hl hcp).mono ?_
      rintro e V' ⟨rfl, rfl⟩
      exact ⟨by rw [belowB_C hL], Below.refl _ _⟩)
    have HTC := Lib.hid (fun V => tagClass8_calls v V)
    obtain ⟨r, hr⟩ : ∃ r, hasTF l v t = r := ⟨_, rfl⟩
    rw [hr]
    have HF : Hid (hasTF l v t = r) := Lib.hid hr
    rw [hasTF_eq] at HF
    clear hr ih hq hH hall hT hcp hL
    obtain ⟨W1, hW1⟩ : ∃ W1, W1 = (W.alloc (.cells #[.int .i64 v.kind, .int .i64 v.num, .string v.name] 39)).alloc (.cells #[.int .i64 t.kind, .string t.name, .int .i64 t.lo, .int .i64 t.hi, .slice A t.args.length c] 36) := ⟨_, rfl⟩
    have b1 : Below W.heap.size W W1 := by rw [hW1]; exact ((Below.refl _ W).alloc (Nat.le_refl _) _).alloc (by simp) _
    have xv : ∀ j u, [Value.int .i64 v.kind, .int .i64 v.num, .string v.name][j]? = some u → W1.cell? ⟨W.heap.size, j, none⟩ = some u := fun j u hj => by rw [hW1]; exact alloc_cell' (cell_new W _ _ _ rfl j u hj)
    have xt : ∀ j u, [Value.int .i64 t.kind, .string t.name, .int .i64 t.lo, .int .i64 t.hi, .slice A t.args.length c][j]? = some u → W1.cell? ⟨W.heap.size + 1, j, none⟩ = some u := fun j u hj => by rw [hW1]; exact cell_new (W.alloc _) _ _ _ (by simp) j u hj
    have v0 := xv 0 _ rfl
    have v1 := xv 1 _ rfl
    have v2 := xv 2 _ rfl
    have t0 := xt 0 _ rfl
    have t1 := xt 1 _ rfl
    have t2 := xt 2 _ rfl
    have t3 := xt 3 _ rfl
    have t4 := xt 4 _ rfl
    clear xv xt
    by_cases k1 : t.kind = 1
    · have HFB : Hid (r = belowB l (classOfB v) t.name) := Lib.hid (by rw [← HF.out, if_pos k1])
      have e1 : (t.kind == 1) = true := beq_iff_eq.2 k1
      clear k1
      have HTC1 := Lib.hid (HTC.out W1.drew)
      go_enter Tryz.func77, Tryz.ntmps77
      go_wp2_with (fail)
      rw [← hW1]
      clear hW1
      go_region_held3 (fun w' => Below W1.heap.size W1 w' ∧ w'.cell? ⟨W.heap.size, 0, none⟩ = some (.int .i64 v.kind) ∧ w'.cell? ⟨W.heap.size, 1, none⟩ = some (.int .i64 v.num) ∧ w'.cell? ⟨W.heap.size, 2, none⟩ = some (.string v.name) ∧ w'.cell? ⟨W.heap.size + 1, 1, none⟩ = some (.string t.name))
        (first | exact ⟨(Below.refl _ W1).drew, v0, v1, v2, t1⟩ | (go_split_ands; exact ⟨below_step (by assumption) hbu, cell_all (by assumption) hbu, cell_all (by assumption) hbu, cell_all (by assumption) hbu, cell_all (by assumption) hbu⟩))
        (first
          | ((go_at_call 96; refine (HTC.out _).mono ?_; rintro e U ⟨rfl, hbu⟩))
          | ((go_at_call 121; refine (HUN.out _ _ _ (below_step b1 (by go_split_ands; assumption))).mono ?_; rintro e U2 ⟨rfl, hbu⟩)))
      all_goals
        have qe : Below W1.heap.size W1 U2 := by go_split_ands; assumption
        have qf := below_step b1 qe
        clear HTC HTC1 HUN
        go_wp2
        go_ret
        exact ⟨(by rw [HFB.out]; try rfl), qf⟩
    have e1 : (t.kind == 1) = false := beq_eq_false_iff_ne.2 k1
    by_cases k2 : t.kind = 2
    · have HFB0 : Hid (r = (decide (v.kind = 1) && decide (t.lo ≤ v.num) && decide (v.num ≤ t.hi))) := Lib.hid (by rw [← HF.out, if_neg k1, if_pos k2])
      have e2 : (t.kind == 2) = true := beq_iff_eq.2 k2
      clear k1 k2
      by_cases h1 : v.kind = 1
      rotate_left
      · have HFB : Hid (r = false) := Lib.hid (by rw [HFB0.out, decide_eq_false h1]; rfl)
        have x1 : (v.kind == 1) = false := beq_eq_false_iff_ne.2 h1
        clear h1
        go_enter Tryz.func77, Tryz.ntmps77
        go_wp2
        go_ret
        exact ⟨by rw [HFB.out]; try rfl, by rw [← hW1]; exact b1⟩
      have x1 : (v.kind == 1) = true := beq_iff_eq.2 h1
      by_cases h2 : t.lo ≤ v.num
      rotate_left
      · have HFB : Hid (r = false) := Lib.hid (by rw [HFB0.out, decide_eq_false h2]; simp)
        clear h1
        go_enter Tryz.func77, Tryz.ntmps77
        go_wp2
        go_ret
        exact ⟨by rw [HFB.out]; try rfl, by rw [← hW1]; exact b1⟩
      by_cases h3 : v.num ≤ t.hi
      · have HFB : Hid (r = true) := Lib.hid (by rw [HFB0.out, decide_eq_true h1, decide_eq_true h2, decide_eq_true h3]; rfl)
        clear h1
        go_enter Tryz.func77, Tryz.ntmps77
        go_wp2
        go_ret
        exact ⟨by rw [HFB.out]; try rfl, by rw [← hW1]; exact b1⟩
      · have HFB : Hid (r = false) := Lib.hid (by rw [HFB0.out, decide_eq_false h3]; simp)
        clear h1
        go_enter Tryz.func77, Tryz.ntmps77
        go_wp2
        go_ret
        exact ⟨by rw [HFB.out]; try rfl, by rw [← hW1]; exact b1⟩
    have e2 : (t.kind == 2) = false := beq_eq_false_iff_ne.2 k2
    by_cases k3 : t.kind = 3
    · have HFB0 : Hid (r = (decide (v.kind = 2) && decide (v.num = t.lo))) := Lib.hid (by rw [← HF.out, if_neg k1, if_neg k2, if_pos k3])
      have e3 : (t.kind == 3) = true := beq_iff_eq.2 k3
      clear k1 k2 k3
      by_cases h1 : v.kind = 2
      rotate_left
      · have HFB : Hid (r = false) := Lib.hid (by rw [HFB0.out, decide_eq_false h1]; rfl)
        have x1 : (v.kind == 2) = false := beq_eq_false_iff_ne.2 h1
        clear h1
        go_enter Tryz.func77, Tryz.ntmps77
        go_wp2
        go_ret
        exact ⟨by rw [HFB.out]; try rfl, by rw [← hW1]; exact b1⟩
      have x1 : (v.kind == 2) = true := beq_iff_eq.2 h1
      by_cases h2 : v.num = t.lo
      · have HFB : Hid (r = true) := Lib.hid (by rw [HFB0.out, decide_eq_true h1, decide_eq_true h2]; rfl)
        have x2 : (v.num == t.lo) = true := beq_iff_eq.2 h2
        clear h1 h2
        go_enter Tryz.func77, Tryz.ntmps77
        go_wp2
        go_ret
        exact ⟨by rw [HFB.out]; try rfl, by rw [← hW1]; exact b1⟩
      · have HFB : Hid (r = false) := Lib.hid (by rw [HFB0.out, decide_eq_false h2]; simp)
        have x2 : (v.num == t.lo) = false := beq_eq_false_iff_ne.2 h2
        clear h1 h2
        go_enter Tryz.func77, Tryz.ntmps77
        go_wp2
        go_ret
        exact ⟨by rw [HFB.out]; try rfl, by rw [← hW1]; exact b1⟩
    have e3 : (t.kind == 3) = false := beq_eq_false_iff_ne.2 k3
    by_cases k4 : t.kind = 4
    · have HFB0 : Hid (r = (decide (v.kind = 3) && belowB l v.name t.name)) := Lib.hid (by rw [← HF.out, if_neg k1, if_neg k2, if_neg k3, if_pos k4])
      have e4 : (t.kind == 4) = true := beq_iff_eq.2 k4
      clear k1 k2 k3 k4
      by_cases h1 : v.kind = 3
      rotate_left
      · have HFB : Hid (r = false) := Lib.hid (by rw [HFB0.out, decide_eq_false h1]; rfl)
        have x1 : (v.kind == 3) = false := beq_eq_false_iff_ne.2 h1
        clear h1
        go_enter Tryz.func77, Tryz.ntmps77
        go_wp2
        go_ret
        exact ⟨by rw [HFB.out]; try rfl, by rw [← hW1]; exact b1⟩
      have x1 : (v.kind == 3) = true := beq_iff_eq.2 h1
      have HFB : Hid (r = belowB l v.name t.name) := Lib.hid (by rw [HFB0.out, decide_eq_true h1]; rfl)
      have HU2 := Lib.hid (HUN.out W1 v.name t.name b1)
      clear h1
      go_enter Tryz.func77, Tryz.ntmps77
      go_wp2_with (fail)
      rw [← hW1]
      clear hW1
      refine HU2.out.mono ?_
      rintro e V ⟨rfl, hb⟩
      have qf := below_step b1 hb
      go_wp2
      go_ret
      exact ⟨by rw [HFB.out]; try rfl, qf⟩
    have e4 : (t.kind == 4) = false := beq_eq_false_iff_ne.2 k4
    have HFB : Hid (r = t.args.any (hasTF l v)) := Lib.hid (by rw [← HF.out, if_neg k1, if_neg k2, if_neg k3, if_neg k4])
    clear k1 k2 k3 k4 HF HUN HTC
    have V0 := Lib.hid (And.intro v0 (And.intro v1 (And.intro v2 t4)))
    go_enter Tryz.func77, Tryz.ntmps77
    go_wp2_with (fail)
    rw [← hW1]
    clear hW1 v0 v1 v2 t0 t1 t2 t3 t4 e1 e2 e3 e4
    go_loopw [7] (fun i wr => ∃ k : Nat, k ≤ t.args.length ∧ i = .int .i64 k ∧ (t.args.take k).any (hasTF l v) = false ∧ Below W1.heap.size W1 wr) (fun i _ => t.args.length - (intOf i).toNat)
    case atStart => exact ⟨0, Nat.zero_le _, rfl, rfl, Below.refl _ _⟩
    case round =>
      obtain ⟨k, hk, rfl, hno, hb⟩ := hrel
      have HNO := Lib.hid hno
      clear hno
      have q1 := below_step b1 hb
      have v0 := cell_all V0.out.1 hb
      have v1 := cell_all V0.out.2.1 hb
      have v2 := cell_all V0.out.2.2.1 hb
      have t4 := cell_all V0.out.2.2.2 hb
      by_cases hlt : k < t.args.length
      · obtain ⟨b, off, rfl⟩ := Slc.addrH HT.out (by omega)
        have hx : t.args[k]? = some t.args[k] := List.getElem?_eq_getElem hlt
        generalize t.args[k] = x at hx
        have HX := Lib.hid hx
        obtain ⟨A3, c3', r1, r2, g0, g1, g2, g3, g4⟩ := Typs.atH (HT.out.all q1) hx
        have HST := Lib.hid (fun V (hv : Below wr.heap.size wr V) => HIH.out x (List.mem_of_getElem? hx) A3 c3' V (below_step q1 hv) ⟨_, r2.keep (Keep.all hv)⟩)
        have w1 : (0 : Int) ≤ (k : Int) := by omega
        have w2 : (k : Int) < (t.args.length : Int) := by omega
        have HK := Lib.hid hlt
        clear hx r1 r2
        have HHX : Hid (∀ y, hasTF l v x = y → hasTF l v x = y) := Lib.hid (fun _ h => h)
        obtain ⟨fx, hfx⟩ : ∃ fx, hasTF l v x = fx := ⟨_, rfl⟩
        have HFX := Lib.hid hfx
        rw [hfx] at HST
        clear hfx HHX
        go_wp2_with (fail)
        go_region_held3 (fun w' => Below wr.heap.size wr w' ∧ w'.cell? ⟨W.heap.size, 0, none⟩ = some (.int .i64 v.kind) ∧ w'.cell? ⟨W.heap.size, 1, none⟩ = some (.int .i64 v.num) ∧ w'.cell? ⟨W.heap.size, 2, none⟩ = some (.string v.name) ∧ w'.cell? ⟨W.heap.size + 1, 4, none⟩ = some (.slice (some ⟨b, off, none⟩) t.args.length c) ∧
            w'.cell? ⟨b, off + k * 5, none⟩ = some (.int .i64 x.kind) ∧ w'.cell? ⟨b, off + k * 5 + 1, none⟩ = some (.string x.name) ∧ w'.cell? ⟨b, off + k * 5 + 2, none⟩ = some (.int .i64 x.lo) ∧ w'.cell? ⟨b, off + k * 5 + 3, none⟩ = some (.int .i64 x.hi) ∧ w'.cell? ⟨b, off + k * 5 + 4, none⟩ = some (.slice A3 x.args.length c3'))
          (first | exact ⟨(Below.refl _ wr).drew, v0, v1, v2, t4, g0, g1, g2, g3, g4⟩ | (go_split_ands; exact ⟨below_step (by assumption) hbu, cell_all (by assumption) hbu, cell_all (by assumption) hbu, cell_all (by assumption) hbu, cell_all (by assumption) hbu, cell_all (by assumption) hbu, cell_all (by assumption) hbu, cell_all (by assumption) hbu, cell_all (by assumption) hbu, cell_all (by assumption) hbu⟩))
          ((go_at_call 77; refine (HST.out _ (by go_split_ands; assumption)).mono ?_; rintro e U ⟨rfl, hbu⟩))
        have hb5 : Below wr.heap.size wr U := by go_split_ands; assumption
        have hb6 := below_step hb hb5
        go_split_ands
        clear HST
        cases fx with
        | true =>
          have HR : Hid (r = true) := Lib.hid (by rw [HFB.out]; exact List.any_eq_true.2 ⟨x, List.mem_of_getElem? HX.out, HFX.out⟩)
          have qf := below_step b1 hb6
          go_wp2
          go_ret
          exact ⟨by rw [HR.out]; try rfl, qf⟩
        | false =>
          have HN2 : Hid ((t.args.take (k + 1)).any (hasTF l v) = false) := Lib.hid (by rw [take_snoc HX.out, List.any_append, HNO.out]; simp [HFX.out])
          go_wp2
          go_roundw
          case rel => exact ⟨k + 1, by have := HK.out; omega, by go_num, HN2.out, hb6⟩
          case measure => have := HK.out; simp [intOf]; omega
      · obtain rfl : k = t.args.length := by omega
        have HR : Hid (r = false) := Lib.hid (by rw [HFB.out]; have := HNO.out; rwa [List.take_length] at this)
        go_wp2
        go_ret
        exact ⟨by rw [HR.out]; try rfl, q1⟩
end Go.Proofs.YtepnmejahbiacaaGreat
set_option linter.unusedVariables false
set_option linter.unusedSimpArgs false
namespace Go.Proofs.YtepnmejahbiacaaGreat
open Go.RowKit
theorem cpl_short {l : List CI} (h : LookOk l) : ∀ x ∈ l, x.cpl.length ≤ 1000000 := by
  intro x hx
  obtain ⟨j, hj⟩ := List.mem_iff_getElem?.1 hx
  have h1 := line_length (c3Check_zero h.2.2.2.2.1).2 (h.2.2.2.2.2 j x hj)
  rw [heirsOf_len] at h1
  have := h.1
  omega
open Classical in
/-- What Has returns. -/
noncomputable def hasR (l : List CI) (v : Tag) (t : Ty) : Bool := decide (HasOk l v t)
theorem hasR_false {l : List CI} {v : Tag} {t : Ty} (h : ¬ HasOk l v t) : hasR l v t = false := by unfold hasR; simp [h]
theorem hasR_true {l : List CI} {v : Tag} {t : Ty} (h : HasOk l v t) : hasR l v t = true := by unfold hasR; simp [h]
set_option maxHeartbeats 16000000 in
set_option maxRecDepth 100000 in
theorem has8_calls (AH : Option Addr) (cH : Nat) (l : List CI) (v : Tag) (t : Ty) (A : Option Addr) (c : Nat) (W : World) (G GH : Nat → Prop) (hH : Held GH (CIs AH l) W) (hc : l.length ≤ cH) (ol : ∀ x ∈ l, ciOk x) (hl : l.length ≤ 1000000) (hs : t.all (fun x => decide (x.args.length ≤ 1000000)) = true) (hA : Held G (Typs A t.args) W) :
    Calls Tryz.prog 58 #[.slice AH l.length cH, tagV v, tyV t A c] W fun e W' => e = .returned (.bool (hasR l v t)) ∧ Below W.heap.size W W' := by
  obtain ⟨W1, hW1⟩ : ∃ W1, W1 = (W.alloc (.cells #[.int .i64 v.kind, .int .i64 v.num, .string v.name] 39)).alloc (.cells #[.int .i64 t.kind, .string t.name, .int .i64 t.lo, .int .i64 t.hi, .slice A t.args.length c] 36) := ⟨_, rfl⟩
  have b1 : Below W.heap.size W W1 := by rw [hW1]; exact ((Below.refl _ W).alloc (Nat.le_refl _) _).alloc (by simp) _
  have xv : ∀ j u, [Value.int .i64 v.kind, .int .i64 v.num, .string v.name][j]? = some u → W1.cell? ⟨W.heap.size, j, none⟩ = some u := fun j u hj => by rw [hW1]; exact alloc_cell' (cell_new W _ _ _ rfl j u hj)
  have xt : ∀ j u, [Value.int .i64 t.kind, .string t.name, .int .i64 t.lo, .int .i64 t.hi, .slice A t.args.length c][j]? = some u → W1.cell? ⟨W.heap.size + 1, j, none⟩ = some u := fun j u hj => by rw [hW1]; exact cell_new (W.alloc _) _ _ _ (by simp) j u hj
  have XV := Lib.hid xv
  have XT := Lib.hid xt
  have HR := Lib.hid (right8_calls AH cH l W1 GH (hH.keep (Keep.all b1)) hc ol hl)
  have HTA : Hid (∀ V, Below W1.heap.size W1 V → LookOk l → Calls Tryz.prog 50 #[.slice AH l.length cH, tagV v] V fun e V' => e = .returned (.bool (tagOk l v)) ∧ Below V.heap.size V V') := Lib.hid (fun V hv hL => tagged8_calls AH cH l hl v V GH ((hH.keep (Keep.all b1)).keep (Keep.all hv)) hL)
  have HSH := Lib.hid (fun V (hv : Below W1.heap.size W1 V) => shaped8_calls AH cH l hl t A c V G GH ((hH.keep (Keep.all b1)).keep (Keep.all hv)) hs ((hA.keep (Keep.all b1)).keep (Keep.all hv)))
  have HFI : Hid (∀ V, Below W1.heap.size W1 V → LookOk l → Calls Tryz.prog 77 #[.slice AH l.length cH, tagV v, tyV t A c] V fun e V' => e = .returned (.bool (hasTF l v t)) ∧ Below V.heap.size V V') := Lib.hid (fun V hv hL => fits8_calls AH cH l hl (cpl_short hL) hL v t.count t (Nat.le_refl _) A c V G GH ((hH.keep (Keep.all b1)).keep (Keep.all hv)) hs ((hA.keep (Keep.all b1)).keep (Keep.all hv)))
  clear xv xt hH ol hs hA
  by_cases hL : LookOk l
  rotate_left
  · have HX : Hid (hasR l v t = false) := Lib.hid (hasR_false fun h => hL h.1)
    rw [lookR_false hL] at HR
    clear hL HTA HSH HFI
    go_enter Tryz.func58, Tryz.ntmps58
    go_wp2_with (fail)
    rw [← hW1]
    clear hW1
    refine HR.out.mono ?_
    rintro e V ⟨rfl, hb⟩
    have q1 := below_step b1 hb
    go_wp2
    go_ret
    exact ⟨by rw [HX.out]; try rfl, q1⟩
  rw [lookR_true hL] at HR
  have HL := Lib.hid hL
  clear hL
  go_enter Tryz.func58, Tryz.ntmps58
  go_wp2_with (fail)
  rw [← hW1]
  clear hW1
  refine HR.out.mono ?_
  clear HR
  rintro e V ⟨rfl, hb⟩
  have q1 := below_step b1 hb
  have HT2 := Lib.hid (HTA.out V hb HL.out)
  have d0 := cell_all (XV.out 0 _ rfl) hb
  have d1 := cell_all (XV.out 1 _ rfl) hb
  have d2 := cell_all (XV.out 2 _ rfl) hb
  clear HTA
  cases htk : tagOk l v with
  | false =>
    have HX : Hid (hasR l v t = false) := Lib.hid (hasR_false fun h => by have := h.2.1; rw [htk] at this; cases this)
    rw [htk] at HT2
    clear htk HSH HFI
    go_wp2_with (fail)
    refine HT2.out.mono ?_
    rintro e V2 ⟨rfl, hb2⟩
    have q2 := below_step q1 hb2
    go_wp2
    go_ret
    exact ⟨by rw [HX.out]; try rfl, q2⟩
  | true =>
  have HTK := Lib.hid htk
  rw [htk] at HT2
  clear htk
  go_wp2_with (fail)
  refine HT2.out.mono ?_
  clear HT2 d0 d1 d2
  rintro e V2 ⟨rfl, hb2⟩
  have q2 := below_step q1 hb2
  have hv2 := below_step hb hb2
  have HS2 := Lib.hid (HSH.out V2 hv2)
  have t0 := cell_all (XT.out 0 _ rfl) hv2
  have t1 := cell_all (XT.out 1 _ rfl) hv2
  have t2 := cell_all (XT.out 2 _ rfl) hv2
  have t3 := cell_all (XT.out 3 _ rfl) hv2
  have t4 := cell_all (XT.out 4 _ rfl) hv2
  clear HSH
  obtain ⟨ve, hve⟩ : ∃ ve, validErr l t = ve := ⟨_, rfl⟩
  rw [hve] at HS2
  have HVE := Lib.hid hve
  clear hve
  go_wp2_with (fail)
  refine HS2.out.mono ?_
  clear HS2 t0 t1 t2 t3 t4
  rintro e V3 ⟨rfl, hb3⟩
  have q3 := below_step q2 hb3
  have hv3 := below_step hv2 hb3
  by_cases hv0 : ve = 0
  rotate_left
  · have HX : Hid (hasR l v t = false) := Lib.hid (hasR_false fun h => hv0 (by rw [← HVE.out]; exact h.2.2.1))
    have e0 : (ve == 0) = false := beq_eq_false_iff_ne.2 hv0
    clear hv0 HFI
    go_wp2
    go_ret
    exact ⟨by rw [HX.out]; try rfl, q3⟩
  have HV0 := Lib.hid hv0
  subst hv0
  have HF2 := Lib.hid (HFI.out V3 hv3 HL.out)
  have d0 := cell_all (XV.out 0 _ rfl) hv3
  have d1 := cell_all (XV.out 1 _ rfl) hv3
  have d2 := cell_all (XV.out 2 _ rfl) hv3
  have t0 := cell_all (XT.out 0 _ rfl) hv3
  have t1 := cell_all (XT.out 1 _ rfl) hv3
  have t2 := cell_all (XT.out 2 _ rfl) hv3
  have t3 := cell_all (XT.out 3 _ rfl) hv3
  have t4 := cell_all (XT.out 4 _ rfl) hv3
  have HX : Hid (hasR l v t = hasTF l v t) := Lib.hid (by
    cases h : hasTF l v t with
    | true => exact hasR_true ⟨HL.out, HTK.out, HVE.out, h⟩
    | false => exact hasR_false fun q => by have := q.2.2.2; rw [h] at this; cases this)
  obtain ⟨fb, hfb⟩ : ∃ fb, hasTF l v t = fb := ⟨_, rfl⟩
  rw [hfb] at HF2 HX
  clear hfb HFI XV XT
  go_wp2_with (fail)
  refine HF2.out.mono ?_
  clear HF2
  rintro e V4 ⟨rfl, hb4⟩
  have q4 := below_step q3 hb4
  go_wp2
  go_ret
  exact ⟨by rw [HX.out]; try rfl, q4⟩
end Go.Proofs.YtepnmejahbiacaaGreat
set_option linter.unusedVariables false
set_option linter.unusedSimpArgs false
namespace Go.Proofs.YtepnmejahbiacaaGreat
open Go.RowKit
attribute [local go_sem ↓] Go.wp_at_zero Go.wp_at_succ
theorem cplOf_short {l : List CI} (hcp : ∀ x ∈ l, x.cpl.length ≤ 1000000) (a : ByteArray) : (((l.find? fun x => decide (x.name = a)).map CI.cpl).getD []).length ≤ 1000000 := by
  cases hf : l.find? (fun x => decide (x.name = a)) with
  | none => simp
  | some x => exact hcp x (List.mem_of_find?_eq_some hf)
theorem belowC_cplOf (l : List CI) (a b : ByteArray) : belowC l a b = hasS (((l.find? fun x => decide (x.name = a)).map CI.cpl).getD []) b := by
  unfold belowC
  cases hf : l.find? (fun x => decide (x.name = a)) with
  | none => rfl
  | some x => rfl
set_option maxHeartbeats 8000000 in
set_option maxRecDepth 100000 in
theorem below10_calls (A : Option Addr) (c : Nat) (l : List CI) (a b : ByteArray) (W : World) (G : Nat → Prop) (h : Held G (CIs A l) W) (hl : l.length ≤ 1000000) (hcp : ∀ x ∈ l, x.cpl.length ≤ 1000000) :
    Calls Tryz.prog 132 #[.slice A l.length c, .string a, .string b] W fun e W' => e = .returned (.bool (belowC l a b)) ∧ W = W' := by
  have HC := Lib.hid (rCpl_calls A c l a W G h hl)
  have hs := cplOf_short hcp a
  have HB : Hid (belowC l a b = hasS (((l.find? fun x => decide (x.name = a)).map CI.cpl).getD []) b) := Lib.hid (belowC_cplOf l a b)
  generalize (((l.find? fun x => decide (x.name = a)).map CI.cpl).getD []) = z at HC hs HB
  have HG := Lib.hid (idx_ge (l := z) (x := b))
  have HS := Lib.hid hs
  clear h hcp hs
  go_enter Tryz.func132, Tryz.ntmps132
  go_wp2_with (fail)
  refine HC.out.mono ?_
  clear HC
  rintro e V ⟨rfl, A', c', rfl, h1, h2⟩
  have HI := Lib.hid (rIndex_calls A' c' z b V h2.now HS.out)
  clear h1 h2
  generalize hasS z b = r at HB HG
  generalize idx z b = ix at HI HG
  go_wp2_with (fail)
  refine HI.out.mono ?_
  rintro e V2 ⟨rfl, rfl⟩
  have t2 := HG.out
  go_wp2
  go_ret
  exact ⟨(by rw [HB.out, ← HG.out]; try rfl), rfl⟩
theorem infoTy : (Tryz.prog.info? 36).map (fun i => (i.zero, i.size, i.bytes)) = some (some (.agg #[.int .i64 0, .string ⟨#[]⟩, .int .i64 0, .int .i64 0, .slice none 0 0]), 5, 64) := by kernel_rfl
/-- A change of old blocks of the first world, and of new ones, is a change of the old ones. -/
theorem Chg.trans2 {S T : Nat → Prop} {a b c : World} (h : Chg S a b) (k : Chg T b c) (hs : ∀ x, T x → S x ∨ a.heap.size ≤ x) : Chg S a c :=
  ⟨k.os.trans h.os, k.tape.trans h.tape, k.output.trans h.output, Nat.le_trans h.size k.size, fun x hx hn => (k.block x (Nat.lt_of_lt_of_le hx h.size) fun q => by rcases hs x q with r | r; exact hn r; omega).trans (h.block x hx hn)⟩
/-- A piece: its kind is one of the first four. -/
def leafK (a : Ty) : Prop := a.kind = 1 ∨ a.kind = 2 ∨ a.kind = 3 ∨ a.kind = 4
set_option maxHeartbeats 8000000 in
set_option maxRecDepth 100000 in
theorem top10_calls (a : Ty) (A : Option Addr) (c : Nat) (w : World) (hk : leafK a) : Calls Tryz.prog 133 #[tyV a A c] w fun e w' => e = .returned (.string (topN a)) ∧ Below w.heap.size w w' := by
  have b1 : ∀ o : Obj, Below w.heap.size w (w.alloc o) := fun o => (Below.refl _ w).alloc (Nat.le_refl _) _
  obtain ⟨kd, nm, lo, hi, ars⟩ := a
  have hk' : kd = 1 ∨ kd = 2 ∨ kd = 3 ∨ kd = 4 := hk
  clear hk
  rcases hk' with rfl | rfl | rfl | rfl
  all_goals
    go_enter Tryz.func133, Tryz.ntmps133
    go_wp2
    go_ret
    exact ⟨rfl, b1 _⟩
set_option maxHeartbeats 16000000 in
set_option maxRecDepth 100000 in
theorem piece10_calls (A : Option Addr) (c : Nat) (l : List CI) (a b : Ty) (Aa Ab : Option Addr) (ca cb : Nat) (W : World) (G : Nat → Prop) (h : Held G (CIs A l) W) (hl : l.length ≤ 1000000) (hcp : ∀ x ∈ l, x.cpl.length ≤ 1000000) (hka : leafK a) :
    Calls Tryz.prog 88 #[.slice A l.length c, tyV a Aa ca, tyV b Ab cb] W fun e W' => e = .returned (.bool (insideB l a b)) ∧ Below W.heap.size W W' := by
  have HUN : Hid (∀ V p q, Below W.heap.size W V → Calls Tryz.prog 132 #[.slice A l.length c, .string p, .string q] V fun e V' => e = .returned (.bool (belowC l p q)) ∧ Below V.heap.size V V') := Lib.hid (fun V p q hv => by
    refine (below10_calls A c l p q V G (h.keep (Keep.all hv)) hl hcp).mono ?_
    rintro e V' ⟨rfl, rfl⟩
    exact ⟨rfl, Below.refl _ _⟩)
  have HTO := Lib.hid (fun V => top10_calls a Aa ca V hka)
  obtain ⟨r, hr⟩ : ∃ r, insideB l a b = r := ⟨_, rfl⟩
  rw [hr]
  have HF : Hid (insideB l a b = r) := Lib.hid hr
  unfold insideB at HF
  have HK := Lib.hid hka
  clear hr h hcp hka
  obtain ⟨W1, hW1⟩ : ∃ W1, W1 = (W.alloc (.cells #[.int .i64 a.kind, .string a.name, .int .i64 a.lo, .int .i64 a.hi, .slice Aa a.args.length ca] 36)).alloc (.cells #[.int .i64 b.kind, .string b.name, .int .i64 b.lo, .int .i64 b.hi, .slice Ab b.args.length cb] 36) := ⟨_, rfl⟩
  have b1 : Below W.heap.size W W1 := by rw [hW1]; exact ((Below.refl _ W).alloc (Nat.le_refl _) _).alloc (by simp) _
  have xa : ∀ j u, [Value.int .i64 a.kind, .string a.name, .int .i64 a.lo, .int .i64 a.hi, .slice Aa a.args.length ca][j]? = some u → W1.cell? ⟨W.heap.size, j, none⟩ = some u := fun j u hj => by rw [hW1]; exact alloc_cell' (cell_new W _ _ _ rfl j u hj)
  have xb : ∀ j u, [Value.int .i64 b.kind, .string b.name, .int .i64 b.lo, .int .i64 b.hi, .slice Ab b.args.length cb][j]? = some u → W1.cell? ⟨W.heap.size + 1, j, none⟩ = some u := fun j u hj => by rw [hW1]; exact cell_new (W.alloc _) _ _ _ (by simp) j u hj
  have a0 := xa 0 _ rfl
  have a1 := xa 1 _ rfl
  have a2 := xa 2 _ rfl
  have a3 := xa 3 _ rfl
  have a4 := xa 4 _ rfl
  have c0 := xb 0 _ rfl
  have c1 := xb 1 _ rfl
  have c2 := xb 2 _ rfl
  have c3 := xb 3 _ rfl
  clear xa xb
  by_cases k1 : b.kind = 1
  · have HFB : Hid (r = belowC l (topN a) b.name) := Lib.hid (by rw [← HF.out, if_pos k1])
    have e1 : (b.kind == 1) = true := beq_iff_eq.2 k1
    clear k1
    go_enter Tryz.func88, Tryz.ntmps88
    go_wp2_with (fail)
    rw [← hW1]
    clear hW1
    go_region_held3 (fun w' => Below W1.heap.size W1 w' ∧ w'.cell? ⟨W.heap.size, 0, none⟩ = some (.int .i64 a.kind) ∧ w'.cell? ⟨W.heap.size, 1, none⟩ = some (.string a.name) ∧ w'.cell? ⟨W.heap.size, 2, none⟩ = some (.int .i64 a.lo) ∧ w'.cell? ⟨W.heap.size, 3, none⟩ = some (.int .i64 a.hi) ∧ w'.cell? ⟨W.heap.size, 4, none⟩ = some (.slice Aa a.args.length ca) ∧ w'.cell? ⟨W.heap.size + 1, 1, none⟩ = some (.string b.name))
      (first | exact ⟨(Below.refl _ W1).drew, a0, a1, a2, a3, a4, c1⟩ | (go_split_ands; exact ⟨below_step (by assumption) hbu, cell_all (by assumption) hbu, cell_all (by assumption) hbu, cell_all (by assumption) hbu, cell_all (by assumption) hbu, cell_all (by assumption) hbu, cell_all (by assumption) hbu⟩))
      (first
        | ((go_at_call 133; refine (HTO.out _).mono ?_; rintro e U ⟨rfl, hbu⟩))
        | ((go_at_call 132; refine (HUN.out _ _ _ (below_step b1 (by go_split_ands; assumption))).mono ?_; rintro e U2 ⟨rfl, hbu⟩)))
    all_goals
      have qe : Below W1.heap.size W1 U2 := by go_split_ands; assumption
      have qf := below_step b1 qe
      clear HTO HUN
      go_wp2
      go_ret
      exact ⟨(by rw [HFB.out]; try rfl), qf⟩
  have e1 : (b.kind == 1) = false := beq_eq_false_iff_ne.2 k1
  by_cases hk2 : a.kind = b.kind
  rotate_left
  · have HD : Hid (r = false) := Lib.hid (by rw [← HF.out, if_neg k1, if_pos hk2])
    have t2 : (a.kind != b.kind) = true := by rw [bne_iff_ne]; exact hk2
    clear k1 hk2
    go_enter Tryz.func88, Tryz.ntmps88
    go_wp2
    go_ret
    exact ⟨(by rw [HD.out]; try rfl), by rw [← hW1]; exact b1⟩
  have t2 : (a.kind != b.kind) = false := bne_eq_false_iff_eq.2 hk2
  by_cases k4 : a.kind = 4
  · have HD : Hid (r = belowC l a.name b.name) := Lib.hid (by
      rw [← HF.out, if_neg k1, if_neg (fun h => h hk2), if_neg (by omega), if_neg (by omega)])
    have e4 : (a.kind == 4) = true := beq_iff_eq.2 k4
    have HU2 := Lib.hid (HUN.out W1 a.name b.name b1)
    clear k1 hk2 k4
    go_enter Tryz.func88, Tryz.ntmps88
    go_wp2_with (fail)
    rw [← hW1]
    clear hW1
    refine HU2.out.mono ?_
    rintro e V ⟨rfl, hb⟩
    have qf := below_step b1 hb
    go_wp2
    go_ret
    exact ⟨by rw [HD.out]; try rfl, qf⟩
  have e4 : (a.kind == 4) = false := beq_eq_false_iff_ne.2 k4
  by_cases k3 : a.kind = 3
  · have HD : Hid (r = (a.lo == b.lo)) := Lib.hid (by
      rw [← HF.out, if_neg k1, if_neg (fun h => h hk2), if_neg (by omega), if_pos k3]
      by_cases e : a.lo = b.lo
      · rw [decide_eq_true e, beq_iff_eq.2 e]
      · rw [decide_eq_false e, beq_eq_false_iff_ne.2 e])
    have e3 : (a.kind == 3) = true := beq_iff_eq.2 k3
    clear k1 hk2 k4 k3
    go_enter Tryz.func88, Tryz.ntmps88
    go_wp2
    go_ret
    exact ⟨(by rw [HD.out]; try rfl), by rw [← hW1]; exact b1⟩
  have e3 : (a.kind == 3) = false := beq_eq_false_iff_ne.2 k3
  have k2 : a.kind = 2 := by rcases HK.out with h | h | h | h <;> first | exact h | omega
  have HD : Hid (r = (decide (b.lo ≤ a.lo) && decide (a.hi ≤ b.hi))) := Lib.hid (by
      rw [← HF.out, if_neg k1, if_neg (fun h => h hk2), if_pos k2])
  clear k1 hk2 k4 k3 k2
  by_cases q1 : b.lo ≤ a.lo
  · by_cases q2 : a.hi ≤ b.hi
    · have HE : Hid (r = true) := Lib.hid (by rw [HD.out, decide_eq_true q1, decide_eq_true q2]; rfl)
      have d1 : decide (b.lo ≤ a.lo) = true := decide_eq_true q1
      have d2 : decide (a.hi ≤ b.hi) = true := decide_eq_true q2
      clear q1 q2
      go_enter Tryz.func88, Tryz.ntmps88
      go_wp2
      go_ret
      exact ⟨(by rw [HE.out]; try rfl), by rw [← hW1]; exact b1⟩
    · have HE : Hid (r = false) := Lib.hid (by rw [HD.out, decide_eq_false q2]; simp)
      have d1 : decide (b.lo ≤ a.lo) = true := decide_eq_true q1
      have d2 : decide (a.hi ≤ b.hi) = false := decide_eq_false q2
      clear q1 q2
      go_enter Tryz.func88, Tryz.ntmps88
      go_wp2
      go_ret
      exact ⟨(by rw [HE.out]; try rfl), by rw [← hW1]; exact b1⟩
  · have HE : Hid (r = false) := Lib.hid (by rw [HD.out, decide_eq_false q1]; rfl)
    have d1 : decide (b.lo ≤ a.lo) = false := decide_eq_false q1
    clear q1
    go_enter Tryz.func88, Tryz.ntmps88
    go_wp2
    go_ret
    exact ⟨(by rw [HE.out]; try rfl), by rw [← hW1]; exact b1⟩
theorem Ty.flat_len : ∀ (n : Nat) (l : List Ty), Ty.counts l ≤ n → (l.flatMap Ty.pieces).length ≤ Ty.counts l
  | n, [], _ => by simp
  | 0, t :: r, h => by rw [Ty.counts] at h; have := t.count_pos; omega
  | n + 1, t :: r, h => by
    rw [Ty.counts] at h ⊢
    have hp := t.count_pos
    have h1 := Ty.flat_len n r (by omega)
    have h2 : t.pieces.length ≤ t.count := by
      by_cases hk : t.kind = 5
      · rw [Ty.pieces_union hk]
        have e : t.count = 1 + Ty.counts t.args := by rw [Ty.count_args, Ty.counts_eq]
        by_cases hr : Ty.counts r = 0
        · have := Ty.flat_len n t.args (by omega)
          omega
        · have := Ty.flat_len n t.args (by omega)
          omega
      · rw [Ty.pieces_leaf hk]; simp; omega
    rw [List.flatMap_cons, List.length_append]
    omega
theorem Ty.pieces_len (t : Ty) : t.pieces.length ≤ t.count := by
  have := Ty.flat_len (Ty.counts [t]) [t] (Nat.le_refl _)
  simpa [Ty.counts] using this
theorem Ty.take_len {t x : Ty} {k : Nat} (h : t.args[k]? = some x) : ((t.args.take k).flatMap Ty.pieces).length + x.count ≤ t.count := by
  have h1 := Ty.flat_len _ (t.args.take k) (Nat.le_refl _)
  have h2 : t.count = 1 + (t.args.map Ty.count).sum := Ty.count_args t
  have h3 : (t.args.map Ty.count).sum = ((t.args.take (k + 1)).map Ty.count).sum + ((t.args.drop (k + 1)).map Ty.count).sum := by
    rw [← List.sum_append, ← List.map_append, List.take_append_drop]
  rw [take_snoc h, List.map_append, List.sum_append] at h3
  rw [Ty.counts_eq] at h1
  simp only [List.map_cons, List.map_nil, List.sum_cons, List.sum_nil, Nat.add_zero] at h3
  omega
set_option maxHeartbeats 32000000 in
set_option maxRecDepth 100000 in
/-- pieces adds to a row of its own. -/
theorem pieces10_calls (N : Nat) : ∀ (q : Nat) (t : Ty), t.count ≤ q → ∀ (A : Option Addr) (c : Nat) (W : World) (l : List Ty) (v : Value), N ≤ W.heap.size → Own typR 36 5 N (· < N) v l W → t.args.length ≤ c → Held (· < N) (Typs A t.args) W → t.all (fun x => decide (x.args.length ≤ 1000000)) = true → l.length + t.count ≤ 1000000000 →
      Calls Tryz.prog 87 #[v, tyV t A c] W fun e W' => ∃ v', e = .returned v' ∧ Own typR 36 5 N (· < N) v' (l ++ t.pieces) W' ∧ Chg (fun b => v.ownBlock = some b) W W' ∧ (v'.ownBlock = v.ownBlock ∨ ∀ b, v'.ownBlock = some b → W.heap.size ≤ b) := by
  intro q
  induction q with
  | zero => intro t hq; have := t.count_pos; omega
  | succ q ih =>
    intro t hq A c W l v hN hO hc hT hall hlen
    have HIH := Lib.hid ih
    clear ih
    have HALL := Lib.hid hall
    have HQ := Lib.hid hq
    have HLEN := Lib.hid hlen
    have HC := Lib.hid hc
    clear hall hq hlen hc
    obtain ⟨W1, hW1⟩ : ∃ W1, W1 = W.alloc (.cells #[.int .i64 t.kind, .string t.name, .int .i64 t.lo, .int .i64 t.hi, .slice A t.args.length c] 36) := ⟨_, rfl⟩
    have b1 : Below W.heap.size W W1 := by rw [hW1]; exact (Below.refl _ W).alloc (Nat.le_refl _) _
    have hs1 : W1.heap.size = W.heap.size + 1 := by rw [hW1]; simp
    have xt : ∀ j u, [Value.int .i64 t.kind, .string t.name, .int .i64 t.lo, .int .i64 t.hi, .slice A t.args.length c][j]? = some u → W1.cell? ⟨W.heap.size, j, none⟩ = some u := fun j u hj => by rw [hW1]; exact cell_new W _ _ _ rfl j u hj
    have XT := Lib.hid xt
    have c0 := xt 0 _ rfl
    have c1 := xt 1 _ rfl
    have c2 := xt 2 _ rfl
    have c3 := xt 3 _ rfl
    have c4 := xt 4 _ rfl
    clear xt
    have HO := Lib.hid hO
    have HO1 := Lib.hid (hO.all b1)
    have HT := Lib.hid hT
    have HT1 := Lib.hid (hT.keep (Keep.all b1))
    clear hO hT
    go_enter Tryz.func87, Tryz.ntmps87
    by_cases hk : t.kind = 5
    · have t1 : (t.kind != 5) = false := bne_eq_false_iff_eq.2 hk
      have HP := Lib.hid (Ty.pieces_union hk)
      have hlen : t.args.length ≤ 1000000 := all_len HALL.out
      clear hk
      go_wp2_with (fail)
      rw [← hW1]
      clear hW1 c0 c1 c2 c3 c4
      go_loopw [0, 5] (fun u i wr => ∃ k : Nat, k ≤ t.args.length ∧ i = .int .i64 k ∧ Own typR 36 5 N (· < N) u (l ++ (t.args.take k).flatMap Ty.pieces) wr ∧ Chg (fun b => v.ownBlock = some b) W1 wr ∧ (u.ownBlock = v.ownBlock ∨ ∀ b, u.ownBlock = some b → W1.heap.size ≤ b)) (fun _ i _ => t.args.length - (intOf i).toNat)
      case atStart => exact ⟨0, Nat.zero_le _, rfl, by simpa using HO1.out, Chg.refl _ _, .inl rfl⟩
      case round =>
        obtain ⟨k, hk, rfl, ho, hch, hob⟩ := hrel
        have HO2 := Lib.hid ho
        have HCH := Lib.hid hch
        have HOB := Lib.hid hob
        have c4 : wr.cell? ⟨W.heap.size, 4, none⟩ = some (.slice A t.args.length c) := cell_keep (XT.out 4 _ rfl) (HCH.out.keep (G := (· = W.heap.size)) (fun b hb e => by have := (HO.out.lt _ e).2; omega)) rfl
        clear ho hch hob
        by_cases hlt : k < t.args.length
        · obtain ⟨b, off, rfl⟩ := Slc.addrH HT.out (by omega)
          have hx : t.args[k]? = some t.args[k] := List.getElem?_eq_getElem hlt
          generalize t.args[k] = x at hx
          have HX := Lib.hid hx
          have bN : Below N W1 wr := HCH.out.below (by omega) (fun b e => (HO.out.lt _ e).1)
          have kN : Keep (· < N) W1 wr := Keep.below bN
          obtain ⟨A3, c3', r1, r2, g0, g1, g2, g3, g4⟩ := Typs.atH (HT1.out.keep kN) hx
          have hxm : x ∈ t.args := List.mem_of_getElem? hx
          have hax := all_at HALL.out hxm
          have hcx : x.count ≤ q := by have := Ty.count_mem hxm; have := HQ.out; omega
          have HST := Lib.hid (fun (hlx : (l ++ (t.args.take k).flatMap Ty.pieces).length + x.count ≤ 1000000000) => HIH.out x hcx A3 c3' wr _ _ (by have := HCH.out.size; omega) HO2.out r1 r2 hax hlx)
          have HLX : Hid ((l ++ (t.args.take k).flatMap Ty.pieces).length + x.count ≤ 1000000000) := Lib.hid (by
            have h1 := Ty.take_len hx
            have h2 := HLEN.out
            rw [List.length_append]
            omega)
          clear hx r1 r2 kN bN hax hcx hxm
          go_wp2_with (fail)
          refine (HST.out HLX.out).mono ?_
          clear HST
          rintro e V ⟨u2, rfl, hou, hcv, hvb⟩
          have HOU := Lib.hid hou
          have HCV := Lib.hid hcv
          have HVB := Lib.hid hvb
          clear hou hcv hvb
          go_wp2
          go_roundw
          case rel =>
            refine ⟨k + 1, by omega, by go_num, ?_, ?_, ?_⟩
            · rw [take_snoc HX.out, List.flatMap_append, ← List.append_assoc]
              have := HOU.out
              simpa using this
            · refine HCH.out.trans2 HCV.out ?_
              intro b e
              rcases HOB.out with h | h
              · exact .inl (by rw [← h]; exact e)
              · exact .inr (h b e)
            · rcases HVB.out with h | h
              · rw [h]; exact HOB.out
              · exact .inr fun b e => by have := h b e; have := HCH.out.size; omega
          case measure => simp [intOf]; omega
        · obtain rfl : k = t.args.length := by omega
          go_wp2
          go_ret
          refine ⟨_, rfl, ?_, (Chg.of b1).trans HCH.out, HOB.out.imp id fun h b e => by have := h b e; omega⟩
          rw [HP.out]
          have := HO2.out
          rwa [List.take_length] at this
    · have t1 : (t.kind != 5) = true := by rw [bne_iff_ne]; exact hk
      have HP := Lib.hid (Ty.pieces_leaf hk)
      clear hk
      have hNs := hN
      go_wp2_with (at_builtin; refine Classical.byContradiction fun hneg => ?_)
      apply hneg
      rw [← hW1]
      refine wp_append_one typR 36 5 N 64 (· < N) _ rfl _ _ 34 _ rfl Tryz.underlying34 infoTy rfl (by decide) (by decide) v l rfl (HO1.out.alloc _) ⟨W.heap.size + 1, 0, none⟩ 1 rfl t [.int .i64 t.kind, .string t.name, .int .i64 t.lo, .int .i64 t.hi, .slice A t.args.length c] rfl ?cells ?one ((typR.mk HC.out HT1.out).keep (Keep.alloc _ _ _)) ?hG ?base ?len ?_
      case cells => exact fun j u hu => cells_new W1 _ _ _ hs1.symm j u hu
      case one => intro u hu; simp at hu; rcases hu with rfl | rfl | rfl | rfl | rfl <;> rfl
      case hG => exact fun b hb e => by have := (HO1.out.lt _ e).1; omega
      case base => simp; omega
      case len => have := HLEN.out; omega
      intro v' w1 hown1 hg1 hob
      have HOF := Lib.hid hown1
      have HCF : Hid (Chg (fun b => v.ownBlock = some b) W w1) := Lib.hid (((Chg.of b1).trans (Chg.alloc _ _)).trans (Chg.grown hg1 fun b e => e))
      have HBF : Hid (v'.ownBlock = v.ownBlock ∨ ∀ b, v'.ownBlock = some b → W.heap.size ≤ b) := Lib.hid (hob.imp id fun h b e => by rw [h] at e; cases e; simp; omega)
      clear hown1 hg1 hob
      go_wp2
      go_ret
      exact ⟨_, rfl, by rw [HP.out]; exact HOF.out, HCF.out, HBF.out⟩
end Go.Proofs.YtepnmejahbiacaaGreat
