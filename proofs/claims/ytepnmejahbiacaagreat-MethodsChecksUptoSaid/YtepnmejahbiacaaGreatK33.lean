/- Part 33 of the proof: Qm, Qn, Qp, Qq. -/
import Derived.Test.YtepnmejahbiacaaGreatK22
import Derived.Test.YtepnmejahbiacaaGreatK19
import Derived.Test.YtepnmejahbiacaaGreatK05
import Derived.Test.YtepnmejahbiacaaGreatK06
import Derived.Test.YtepnmejahbiacaaGreatK07
import Derived.Test.YtepnmejahbiacaaGreatK12
import Derived.Test.YtepnmejahbiacaaGreatK13
import Derived.Test.YtepnmejahbiacaaGreatK14
import Derived.Test.YtepnmejahbiacaaGreatK15
import Derived.Test.YtepnmejahbiacaaGreatK18
import Derived.Test.YtepnmejahbiacaaGreatK25
import Derived.Test.YtepnmejahbiacaaGreatK24
import Derived.Test.YtepnmejahbiacaaGreatK21
import Derived.Test.YtepnmejahbiacaaGreatK08
import Derived.Test.YtepnmejahbiacaaGreatK17
import Derived.Test.YtepnmejahbiacaaGreatK04
import Derived.Test.YtepnmejahbiacaaGreatK10
import Derived.Test.YtepnmejahbiacaaGreatK11
import Derived.Test.YtepnmejahbiacaaGreatK23
import Derived.Test.YtepnmejahbiacaaGreatK27
import Derived.Test.YtepnmejahbiacaaGreatK28
import Derived.Test.YtepnmejahbiacaaGreatK31
import Derived.Test.YtepnmejahbiacaaGreatK32
import Derived.Test.YtepnmejahbiacaaGreatK09
import Derived.Test.YtepnmejahbiacaaGreatK26
import Derived.Test.YtepnmejahbiacaaGreatK03
import Derived.Test.YtepnmejahbiacaaGreatK16
import Derived.Test.YtepnmejahbiacaaGreatK02
import Derived.Test.YtepnmejahbiacaaGreatK01
import Derived.Test.YtepnmejahbiacaaGreatK20
import Derived.BigQuiet
import Derived.Carry
import Derived.Deep.AppendLies
import Derived.Deep.DrawnRows
import Derived.Deep.Draws
import Derived.Deep.LoopGhost
import Derived.Deep.QuietTactic
import Derived.Deep.RegionHeld3
import Derived.Deep.RegionLaw
import Derived.Deep.RegionWith
import Derived.KernelRfl
import Derived.Laws.EntriesVeiled
import Derived.Laws.OwnMore
import Derived.Lib.Hide
import Derived.Lib.SliceRun
import Derived.LoopIn
import Derived.LoopNIn
import Derived.Maps.AppendAt
import Derived.Maps.Own
import Derived.Maps.OwnIn
import Derived.Outline
import Derived.OwnWalkIn
import Derived.RangeFuncBound
import Derived.RangeFuncCalls
import Derived.RangeFuncLeaves
import Derived.RangeFuncNested
import Derived.Recover
import Derived.StillTailTactics
import Derived.Stop.RegionWithIn
import Derived.TacticsInMore
import Derived.Test.YtepnmejahbiacaaGreatProg
import Derived.WalkKit
import Derived.WalkSpells
set_option linter.unusedVariables false
set_option linter.unusedSimpArgs false
namespace Go.Proofs.YtepnmejahbiacaaGreat
open Go.RowKit
set_option maxHeartbeats 32000000 in
set_option maxRecDepth 100000 in
theorem formed8_calls (AH : Option Addr) (cH : Nat) (l : List CI) (hl : l.length ≤ 1000000) : ∀ (q : Nat) (t : Ty), t.count ≤ q → ∀ (A : Option Addr) (c : Nat) (W : World) (G GH : Nat → Prop), Held GH (CIs AH l) W → t.all (fun x => decide (x.args.length ≤ 1000000)) = true → Held G (Typs A t.args) W →
    Calls Tryz.prog 81 #[.slice AH l.length cH, tyV t A c] W fun e W' => e = .returned (.bool (formedB l t)) ∧ Below W.heap.size W W' := by
  intro q
  induction q with
  | zero => intro t hq; have := t.count_pos; omega
  | succ q ih =>
    intro t hq A c W G GH hH hall hT
    have HIH : Hid (∀ (x : Ty), x ∈ t.args → ∀ (A : Option Addr) (c : Nat) (V : World), Below W.heap.size W V → (∃ G, Held G (Typs A x.args) V) → Calls Tryz.prog 81 #[.slice AH l.length cH, tyV x A c] V fun e W' => e = .returned (.bool (formedB l x)) ∧ Below V.heap.size V W') :=
      Lib.hid (fun x hx A c V hv ⟨G, hG⟩ => ih x (by have := Ty.count_mem hx; omega) A c V G GH (hH.keep (Keep.all hv)) (all_at hall hx) hG)
    have hlen := all_len hall
    have HT := Lib.hid hT
    have b1 : ∀ o : Obj, Below W.heap.size W (W.alloc o) := fun o => (Below.refl _ W).alloc (Nat.le_refl _) _
    have HAT : Hid (∀ o, Calls Tryz.prog 82 #[.slice AH l.length cH, .string t.name] (W.alloc o) fun e w' => e = .returned (.int .i64 (idx (l.map (·.name)) t.name)) ∧ W.alloc o = w') := Lib.hid (fun o => at8_calls AH cH l t.name (W.alloc o) GH (hH.keep (Keep.all (b1 o))) hl)
    have HHB := Lib.hid (hasB_idx l t.name)
    obtain ⟨r, hr⟩ : ∃ r, formedB l t = r := ⟨_, rfl⟩
    rw [hr]
    have HF : Hid (r = (formed0 l t && t.args.all (formedB l))) := Lib.hid (by rw [← hr, formedB_eq])
    have HZ : Hid (t.args.length = 0 → t.args.all (formedB l) = true) := Lib.hid (fun h => by rw [List.length_eq_zero_iff.1 h]; rfl)
    have HB1 := Lib.hid b1
    unfold formed0 at HF
    clear hr ih hq hH hall hT b1
    show Calls Tryz.prog 81 #[.slice AH l.length cH, .agg #[.int .i64 t.kind, .string t.name, .int .i64 t.lo, .int .i64 t.hi, .slice A t.args.length c]] W _
    obtain ⟨xs, has⟩ : ∃ xs, t.args = xs := ⟨_, rfl⟩
    rw [has] at HF HZ HT hlen HIH ⊢
    generalize t.kind = kd at HF ⊢
    generalize t.name = nm at HF HAT HHB ⊢
    generalize t.lo = lo at HF ⊢
    generalize t.hi = hi at HF ⊢
    clear has
    obtain ⟨n, hn⟩ : ∃ n, xs.length = n := ⟨_, rfl⟩
    rw [hn] at HF HZ hlen ⊢
    have HN := Lib.hid hn
    clear hn
    generalize hasB l nm = hb at HF HHB
    generalize idx (l.map (·.name)) nm = ix at HAT HHB
    have t9 := HHB.out
    by_cases k1 : kd = 1 ∨ kd = 4
    · by_cases h2 : lo = 0
      · subst h2
        by_cases h3 : hi = 0
        · subst h3
          by_cases h0 : n = 0
          · subst h0
            have HFB : Hid (r = decide (0 ≤ ix)) := Lib.hid (by rw [HF.out, HZ.out rfl, if_pos k1, HHB.out]; simp)
            rcases k1 with rfl | rfl
            all_goals
              go_enter Tryz.func81, Tryz.ntmps81
              go_wp2_with (fail)
              refine (HAT.out _).mono ?_
              rintro e V ⟨rfl, rfl⟩
              go_wp2
              go_ret
              exact ⟨by rw [HFB.out, HHB.out]; try rfl, HB1.out _⟩
          · have HFB : Hid (r = false) := Lib.hid (by rw [HF.out, if_pos k1, decide_eq_false h0]; simp)
            have t0 : ((n : Int) == 0) = false := beq_eq_false_iff_ne.2 (by omega)
            rcases k1 with rfl | rfl
            all_goals
              go_enter Tryz.func81, Tryz.ntmps81
              go_wp2
              go_ret
              exact ⟨by rw [HFB.out]; first | done | rfl | (simp [*]; done) | (simp [*]; omega) | (simp [*]; exact HN0.out) | (simp [*]; have := H2.out; omega), HB1.out _⟩
        · have HFB : Hid (r = false) := Lib.hid (by rw [HF.out, if_pos k1, decide_eq_false h3]; simp)
          have t0 : (hi == 0) = false := beq_eq_false_iff_ne.2 h3
          clear h3
          rcases k1 with rfl | rfl
          all_goals
            go_enter Tryz.func81, Tryz.ntmps81
            go_wp2
            go_ret
            exact ⟨by rw [HFB.out]; first | done | rfl | (simp [*]; done) | (simp [*]; omega) | (simp [*]; exact HN0.out) | (simp [*]; have := H2.out; omega), HB1.out _⟩
      · have HFB : Hid (r = false) := Lib.hid (by rw [HF.out, if_pos k1, decide_eq_false h2]; simp)
        have t0 : (lo == 0) = false := beq_eq_false_iff_ne.2 h2
        clear h2
        rcases k1 with rfl | rfl
        all_goals
          go_enter Tryz.func81, Tryz.ntmps81
          go_wp2
          go_ret
          exact ⟨by rw [HFB.out]; first | done | rfl | (simp [*]; done) | (simp [*]; omega) | (simp [*]; exact HN0.out) | (simp [*]; have := H2.out; omega), HB1.out _⟩
    rw [if_neg k1] at HF
    have e1 : (kd == 1) = false := beq_eq_false_iff_ne.2 fun h => k1 (.inl h)
    have e4 : (kd == 4) = false := beq_eq_false_iff_ne.2 fun h => k1 (.inr h)
    by_cases k2 : kd = 2
    · rw [if_pos k2] at HF
      subst k2
      clear k1 e1 e4
      by_cases h1 : nm = ⟨#[]⟩
      rotate_left
      · have HFB : Hid (r = false) := Lib.hid (by rw [HF.out, decide_eq_false h1]; simp)
        go_enter Tryz.func81, Tryz.ntmps81
        go_wp2
        all_goals
          go_ret
          exact ⟨by rw [HFB.out]; first | done | rfl | (simp [*]; done) | (simp [*]; omega) | (simp [*]; exact HN0.out) | (simp [*]; have := H2.out; omega), HB1.out _⟩
      subst h1
      by_cases h2 : lo ≤ hi
      rotate_left
      · have HFB : Hid (r = false) := Lib.hid (by rw [HF.out, decide_eq_false h2]; simp)
        have H2 := Lib.hid h2
        go_enter Tryz.func81, Tryz.ntmps81
        go_wp2
        all_goals
          go_ret
          exact ⟨by rw [HFB.out]; first | done | rfl | (simp [*]; done) | (simp [*]; omega) | (simp [*]; exact HN0.out) | (simp [*]; have := H2.out; omega), HB1.out _⟩
      have t1 : decide (lo ≤ hi) = true := decide_eq_true h2
      by_cases h0 : n = 0
      · subst h0
        have HFB : Hid (r = true) := Lib.hid (by rw [HF.out, HZ.out rfl, t1]; rfl)
        go_enter Tryz.func81, Tryz.ntmps81
        go_wp2
        all_goals
          go_ret
          exact ⟨by rw [HFB.out]; first | done | rfl | (simp [*]; done) | (simp [*]; omega) | (simp [*]; exact HN0.out) | (simp [*]; have := H2.out; omega), HB1.out _⟩
      · have HN0 := Lib.hid h0
        have HFB : Hid (r = false) := Lib.hid (by rw [HF.out, decide_eq_false h0]; simp)
        have t0 : ((n : Int) == 0) = false := beq_eq_false_iff_ne.2 (by omega)
        go_enter Tryz.func81, Tryz.ntmps81
        go_wp2
        all_goals
          go_ret
          exact ⟨by rw [HFB.out]; first | done | rfl | (simp [*]; done) | (simp [*]; omega) | (simp [*]; exact HN0.out) | (simp [*]; have := H2.out; omega), HB1.out _⟩
    rw [if_neg k2] at HF
    have e2 : (kd == 2) = false := beq_eq_false_iff_ne.2 k2
    by_cases k3 : kd = 3
    · rw [if_pos k3] at HF
      subst k3
      clear k1 e1 e4 k2 e2
      by_cases h1 : nm = ⟨#[]⟩
      rotate_left
      · have HFB : Hid (r = false) := Lib.hid (by rw [HF.out, decide_eq_false h1]; simp)
        go_enter Tryz.func81, Tryz.ntmps81
        go_wp2
        all_goals
          go_ret
          exact ⟨by rw [HFB.out]; first | done | rfl | (simp [*]; done) | (simp [*]; omega) | (simp [*]; exact HN0.out) | (simp [*]; have := H2.out; omega), HB1.out _⟩
      subst h1
      by_cases h3 : hi = 0
      rotate_left
      · have HFB : Hid (r = false) := Lib.hid (by rw [HF.out, decide_eq_false h3]; simp)
        have t0 : (hi == 0) = false := beq_eq_false_iff_ne.2 h3
        clear h3
        go_enter Tryz.func81, Tryz.ntmps81
        go_wp2
        all_goals
          go_ret
          exact ⟨by rw [HFB.out]; first | done | rfl | (simp [*]; done) | (simp [*]; omega) | (simp [*]; exact HN0.out) | (simp [*]; have := H2.out; omega), HB1.out _⟩
      subst h3
      by_cases h2 : lo = 0 ∨ lo = 1
      rotate_left
      · have hn0 : ¬ lo = 0 := fun h => h2 (.inl h)
        have hn1 : ¬ lo = 1 := fun h => h2 (.inr h)
        have HFB : Hid (r = false) := Lib.hid (by rw [HF.out, decide_eq_false hn0, decide_eq_false hn1]; simp)
        have t0 : (lo == 0) = false := beq_eq_false_iff_ne.2 hn0
        have t1 : (lo == 1) = false := beq_eq_false_iff_ne.2 hn1
        clear h2 hn0 hn1
        go_enter Tryz.func81, Tryz.ntmps81
        go_wp2
        all_goals
          go_ret
          exact ⟨by rw [HFB.out]; first | done | rfl | (simp [*]; done) | (simp [*]; omega) | (simp [*]; exact HN0.out) | (simp [*]; have := H2.out; omega), HB1.out _⟩
      by_cases h0 : n = 0
      · subst h0
        have HFB : Hid (r = true) := Lib.hid (by rw [HF.out, HZ.out rfl]; rcases h2 with rfl | rfl <;> rfl)
        rcases h2 with rfl | rfl
        all_goals
          go_enter Tryz.func81, Tryz.ntmps81
          go_wp2
          all_goals
            go_ret
            exact ⟨by rw [HFB.out]; first | done | rfl | (simp [*]; done) | (simp [*]; omega) | (simp [*]; exact HN0.out) | (simp [*]; have := H2.out; omega), HB1.out _⟩
      · have HN0 := Lib.hid h0
        have HFB : Hid (r = false) := Lib.hid (by rw [HF.out, decide_eq_false h0]; simp)
        have t0 : ((n : Int) == 0) = false := beq_eq_false_iff_ne.2 (by omega)
        rcases h2 with rfl | rfl
        all_goals
          go_enter Tryz.func81, Tryz.ntmps81
          go_wp2
          all_goals
            go_ret
            exact ⟨by rw [HFB.out]; first | done | rfl | (simp [*]; done) | (simp [*]; omega) | (simp [*]; exact HN0.out) | (simp [*]; have := H2.out; omega), HB1.out _⟩
    rw [if_neg k3] at HF
    have e3 : (kd == 3) = false := beq_eq_false_iff_ne.2 k3
    by_cases k5 : kd = 5
    rotate_left
    · have HFB : Hid (r = false) := Lib.hid (by rw [HF.out, if_neg k5]; rfl)
      have e5 : (kd == 5) = false := beq_eq_false_iff_ne.2 k5
      clear k1 k2 k3 k5
      go_enter Tryz.func81, Tryz.ntmps81
      go_wp2
      all_goals
        go_ret
        exact ⟨by rw [HFB.out]; first | done | rfl | (simp [*]; done) | (simp [*]; omega) | (simp [*]; exact HN0.out) | (simp [*]; have := H2.out; omega), HB1.out _⟩
    rw [if_pos k5] at HF
    subst k5
    clear k1 e1 e4 k2 e2 k3 e3 HAT HHB t9
    by_cases h1 : nm = ⟨#[]⟩
    rotate_left
    · have HFB : Hid (r = false) := Lib.hid (by rw [HF.out, decide_eq_false h1]; simp)
      go_enter Tryz.func81, Tryz.ntmps81
      go_wp2_with (fail)
      all_goals
        go_loopw [6, 7] (fun v i wr => v = .bool false ∧ i = .int .i64 0 ∧ wr.cell? ⟨W.heap.size, 4, none⟩ = some (.slice A n c) ∧ Below W.heap.size W wr) (fun _ _ _ => 0)
        case atStart => exact ⟨by first | rfl | (simp [*]; done) | (simp [*]; omega) | (simp [*]; exact HN0.out) | (simp [*]; have := H2.out; omega), rfl, cell_new W _ _ _ rfl 4 _ rfl, HB1.out _⟩
        case round =>
          obtain ⟨rfl, rfl, c4, hb⟩ := hrel
          by_cases hn0 : 0 < n
          · go_wp2
            go_ret
            exact ⟨by rw [HFB.out]; first | done | rfl | (simp [*]; done) | (simp [*]; omega) | (simp [*]; exact HN0.out) | (simp [*]; have := H2.out; omega), hb⟩
          · first
            | (exfalso; omega)
            | (go_wp2; go_ret; exact ⟨by rw [HFB.out]; first | done | rfl | (simp [*]; done) | (simp [*]; omega) | (simp [*]; exact HN0.out) | (simp [*]; have := H2.out; omega), hb⟩)
    subst h1
    by_cases h2 : lo = 0
    rotate_left
    · have HFB : Hid (r = false) := Lib.hid (by rw [HF.out, decide_eq_false h2]; simp)
      have t0 : (lo == 0) = false := beq_eq_false_iff_ne.2 h2
      clear h2
      go_enter Tryz.func81, Tryz.ntmps81
      go_wp2_with (fail)
      all_goals
        go_loopw [6, 7] (fun v i wr => v = .bool false ∧ i = .int .i64 0 ∧ wr.cell? ⟨W.heap.size, 4, none⟩ = some (.slice A n c) ∧ Below W.heap.size W wr) (fun _ _ _ => 0)
        case atStart => exact ⟨by first | rfl | (simp [*]; done) | (simp [*]; omega) | (simp [*]; exact HN0.out) | (simp [*]; have := H2.out; omega), rfl, cell_new W _ _ _ rfl 4 _ rfl, HB1.out _⟩
        case round =>
          obtain ⟨rfl, rfl, c4, hb⟩ := hrel
          by_cases hn0 : 0 < n
          · go_wp2
            go_ret
            exact ⟨by rw [HFB.out]; first | done | rfl | (simp [*]; done) | (simp [*]; omega) | (simp [*]; exact HN0.out) | (simp [*]; have := H2.out; omega), hb⟩
          · first
            | (exfalso; omega)
            | (go_wp2; go_ret; exact ⟨by rw [HFB.out]; first | done | rfl | (simp [*]; done) | (simp [*]; omega) | (simp [*]; exact HN0.out) | (simp [*]; have := H2.out; omega), hb⟩)
    subst h2
    by_cases h3 : hi = 0
    rotate_left
    · have HFB : Hid (r = false) := Lib.hid (by rw [HF.out, decide_eq_false h3]; simp)
      have t0 : (hi == 0) = false := beq_eq_false_iff_ne.2 h3
      clear h3
      go_enter Tryz.func81, Tryz.ntmps81
      go_wp2_with (fail)
      all_goals
        go_loopw [6, 7] (fun v i wr => v = .bool false ∧ i = .int .i64 0 ∧ wr.cell? ⟨W.heap.size, 4, none⟩ = some (.slice A n c) ∧ Below W.heap.size W wr) (fun _ _ _ => 0)
        case atStart => exact ⟨by first | rfl | (simp [*]; done) | (simp [*]; omega) | (simp [*]; exact HN0.out) | (simp [*]; have := H2.out; omega), rfl, cell_new W _ _ _ rfl 4 _ rfl, HB1.out _⟩
        case round =>
          obtain ⟨rfl, rfl, c4, hb⟩ := hrel
          by_cases hn0 : 0 < n
          · go_wp2
            go_ret
            exact ⟨by rw [HFB.out]; first | done | rfl | (simp [*]; done) | (simp [*]; omega) | (simp [*]; exact HN0.out) | (simp [*]; have := H2.out; omega), hb⟩
          · first
            | (exfalso; omega)
            | (go_wp2; go_ret; exact ⟨by rw [HFB.out]; first | done | rfl | (simp [*]; done) | (simp [*]; omega) | (simp [*]; exact HN0.out) | (simp [*]; have := H2.out; omega), hb⟩)
    subst h3
    by_cases h4 : n ≤ 16
    rotate_left
    · have HFB : Hid (r = false) := Lib.hid (by rw [HF.out, decide_eq_false h4]; simp)
      have t5 : ¬ (n : Int) ≤ 16 := by omega
      go_enter Tryz.func81, Tryz.ntmps81
      go_wp2_with (fail)
      all_goals
        go_loopw [6, 7] (fun v i wr => v = .bool false ∧ i = .int .i64 0 ∧ wr.cell? ⟨W.heap.size, 4, none⟩ = some (.slice A n c) ∧ Below W.heap.size W wr) (fun _ _ _ => 0)
        case atStart => exact ⟨by first | rfl | (simp [*]; done) | (simp [*]; omega) | (simp [*]; exact HN0.out) | (simp [*]; have := H2.out; omega), rfl, cell_new W _ _ _ rfl 4 _ rfl, HB1.out _⟩
        case round =>
          obtain ⟨rfl, rfl, c4, hb⟩ := hrel
          by_cases hn0 : 0 < n
          · go_wp2
            go_ret
            exact ⟨by rw [HFB.out]; first | done | rfl | (simp [*]; done) | (simp [*]; omega) | (simp [*]; exact HN0.out) | (simp [*]; have := H2.out; omega), hb⟩
          · first
            | (exfalso; omega)
            | (go_wp2; go_ret; exact ⟨by rw [HFB.out]; first | done | rfl | (simp [*]; done) | (simp [*]; omega) | (simp [*]; exact HN0.out) | (simp [*]; have := H2.out; omega), hb⟩)
    have t5 : (n : Int) ≤ 16 := by omega
    have HFB : Hid (r = xs.all (formedB l)) := Lib.hid (by rw [HF.out, decide_eq_true h4]; simp)
    go_enter Tryz.func81, Tryz.ntmps81
    go_wp2_with (fail)
    go_loopw [6, 7] (fun v i wr => ∃ (k : Nat) (u : Bool), k ≤ n ∧ v = .bool u ∧ i = .int .i64 k ∧ u = (xs.take k).all (formedB l) ∧ wr.cell? ⟨W.heap.size, 4, none⟩ = some (.slice A n c) ∧ Below W.heap.size W wr) (fun _ i _ => n - (intOf i).toNat)
    case atStart => exact ⟨0, true, Nat.zero_le _, rfl, rfl, rfl, cell_new W _ _ _ rfl 4 _ rfl, HB1.out _⟩
    case round =>
      obtain ⟨k, u, hk, rfl, rfl, hu, c4, hb⟩ := hrel
      have HU := Lib.hid hu
      have C4 := Lib.hid c4
      clear hu
      cases u with
      | false =>
        have HR : Hid (r = false) := Lib.hid (by
          rw [HFB.out]
          have h := HU.out
          cases hx : xs.all (formedB l) with
          | false => rfl
          | true =>
            rw [List.all_eq_true] at hx
            have : (xs.take k).all (formedB l) = true := List.all_eq_true.2 fun x hx2 => hx x (List.mem_of_mem_take hx2)
            rw [this] at h; cases h)
        by_cases hkn : k < n
        · go_wp2
          go_ret
          exact ⟨by rw [HR.out]; first | done | rfl | (simp [*]; done) | (simp [*]; omega) | (simp [*]; exact HN0.out) | (simp [*]; have := H2.out; omega), hb⟩
        · go_wp2
          go_ret
          exact ⟨by rw [HR.out]; first | done | rfl | (simp [*]; done) | (simp [*]; omega) | (simp [*]; exact HN0.out) | (simp [*]; have := H2.out; omega), hb⟩
      | true =>
        by_cases hkn : k < n
        · have hkx : k < xs.length := by rw [HN.out]; exact hkn
          obtain ⟨b, off, rfl⟩ := Slc.addrH HT.out (by omega)
          have hx : xs[k]? = some xs[k] := List.getElem?_eq_getElem hkx
          generalize xs[k] = x at hx
          obtain ⟨A3, c3', r1, r2, g0, g1, g2, g3, g4⟩ := Typs.atH (HT.out.all hb) hx
          have HST := Lib.hid (HIH.out x (List.mem_of_getElem? hx) A3 c3' wr hb ⟨_, r2⟩)
          have HS : Hid ((xs.take (k + 1)).all (formedB l) = formedB l x) := Lib.hid (by
            rw [take_snoc hx, List.all_append, ← HU.out]; simp)
          have w1 : (0 : Int) ≤ (k : Int) := by omega
          have w2 : (k : Int) < (n : Int) := by omega
          generalize formedB l x = fx at HST HS
          have HKN := Lib.hid hkn
          clear hx r1 r2 hkx
          go_wp2_with (fail)
          refine HST.out.mono ?_
          clear HST
          rintro e V ⟨rfl, hbV⟩
          have c4V := cell_all C4.out hbV
          go_wp2
          exact ⟨⟨k + 1, fx, by have := HKN.out; omega, rfl, by go_num, HS.out.symm, c4V, below_step hb hbV⟩, by have := HKN.out; simp [intOf]; omega⟩
        · obtain rfl : k = n := by omega
          have HR : Hid (r = true) := Lib.hid (by
            rw [HFB.out]
            have h := HU.out
            rw [List.take_of_length_le (by rw [HN.out]; exact Nat.le_refl _)] at h
            exact h.symm)
          go_wp2
          go_ret
          exact ⟨by rw [HR.out]; first | done | rfl | (simp [*]; done) | (simp [*]; omega) | (simp [*]; exact HN0.out) | (simp [*]; have := H2.out; omega), hb⟩
end Go.Proofs.YtepnmejahbiacaaGreat
set_option linter.unusedVariables false
set_option linter.unusedSimpArgs false
namespace Go.Proofs.YtepnmejahbiacaaGreat
open Go.RowKit
set_option maxHeartbeats 8000000 in
set_option maxRecDepth 100000 in
theorem shaped8_calls (AH : Option Addr) (cH : Nat) (l : List CI) (hl : l.length ≤ 1000000) (t : Ty) (A : Option Addr) (c : Nat) (W : World) (G GH : Nat → Prop) (hH : Held GH (CIs AH l) W) (hs : t.all (fun x => decide (x.args.length ≤ 1000000)) = true) (hA : Held G (Typs A t.args) W) :
    Calls Tryz.prog 49 #[.slice AH l.length cH, tyV t A c] W fun e W' => e = .returned (.int .i64 (validErr l t)) ∧ Below W.heap.size W W' := by
  obtain ⟨W1, hW1⟩ : ∃ W1, W1 = W.alloc (.cells #[.int .i64 t.kind, .string t.name, .int .i64 t.lo, .int .i64 t.hi, .slice A t.args.length c] 36) := ⟨_, rfl⟩
  have b1 : Below W.heap.size W W1 := by rw [hW1]; exact (Below.refl _ W).alloc (Nat.le_refl _) _
  have xt : ∀ j u, [Value.int .i64 t.kind, .string t.name, .int .i64 t.lo, .int .i64 t.hi, .slice A t.args.length c][j]? = some u → W1.cell? ⟨W.heap.size, j, none⟩ = some u := fun j u hj => by rw [hW1]; exact cell_new W _ _ _ rfl j u hj
  have XT := Lib.hid xt
  have HS := Lib.hid (sized8_calls t A c W1 G (hA.keep (Keep.all b1)) hs)
  have HFO := Lib.hid (fun V (hv : Below W1.heap.size W1 V) => formed8_calls AH cH l hl t.count t (Nat.le_refl _) A c V G GH ((hH.keep (Keep.all b1)).keep (Keep.all hv)) hs ((hA.keep (Keep.all b1)).keep (Keep.all hv)))
  have HVE : Hid (validErr l t = if limErr t = 0 then (if formedB l t then 0 else 81) else limErr t) := Lib.hid rfl
  have c0 := xt 0 _ rfl
  have c1 := xt 1 _ rfl
  have c2 := xt 2 _ rfl
  have c3 := xt 3 _ rfl
  have c4 := xt 4 _ rfl
  clear xt hH hA hs
  generalize formedB l t = fb at HFO HVE
  generalize limErr t = le at HS HVE
  go_enter Tryz.func49, Tryz.ntmps49
  go_wp2_with (fail)
  rw [← hW1]
  clear hW1
  refine HS.out.mono ?_
  clear HS
  rintro e V ⟨rfl, hb⟩
  have q1 := below_step b1 hb
  clear c0 c1 c2 c3 c4
  by_cases hle : le = 0
  · subst hle
    have HF2 := Lib.hid (HFO.out V hb)
    have d0 := cell_all (XT.out 0 _ rfl) hb
    have d1 := cell_all (XT.out 1 _ rfl) hb
    have d2 := cell_all (XT.out 2 _ rfl) hb
    have d3 := cell_all (XT.out 3 _ rfl) hb
    have d4 := cell_all (XT.out 4 _ rfl) hb
    clear HFO XT
    go_wp2_with (fail)
    refine HF2.out.mono ?_
    clear HF2
    rintro e V2 ⟨rfl, hb2⟩
    have q2 := below_step q1 hb2
    cases fb with
    | true =>
      go_wp2
      go_ret
      exact ⟨(by rw [HVE.out]; try rfl), q2⟩
    | false =>
      go_wp2
      go_ret
      exact ⟨(by rw [HVE.out]; try rfl), q2⟩
  · have t1 : (le == 0) = false := beq_eq_false_iff_ne.2 hle
    have HR : Hid (validErr l t = le) := Lib.hid (by rw [HVE.out, if_neg hle])
    clear hle
    go_wp2
    go_ret
    exact ⟨(by rw [HR.out]; try rfl), q1⟩
set_option maxHeartbeats 16000000 in
set_option maxRecDepth 100000 in
theorem tagged8_calls (AH : Option Addr) (cH : Nat) (l : List CI) (hl : l.length ≤ 1000000) (t : Tag) (W : World) (GH : Nat → Prop) (hH : Held GH (CIs AH l) W) (hL : LookOk l) :
    Calls Tryz.prog 50 #[.slice AH l.length cH, tagV t] W fun e W' => e = .returned (.bool (tagOk l t)) ∧ Below W.heap.size W W' := by
  obtain ⟨kd, nm, s⟩ := t
  have b1 : ∀ o : Obj, Below W.heap.size W (W.alloc o) := fun o => (Below.refl _ W).alloc (Nat.le_refl _) _
  have HB1 := Lib.hid b1
  have HAT : Hid (∀ o, Calls Tryz.prog 82 #[.slice AH l.length cH, .string s] (W.alloc o) fun e w' => e = .returned (.int .i64 (idx (l.map (·.name)) s)) ∧ W.alloc o = w') := Lib.hid (fun o => at8_calls AH cH l s (W.alloc o) GH (hH.keep (Keep.all (b1 o))) hl)
  have HHB := Lib.hid (hasB_idx l s)
  obtain ⟨r, hr⟩ : ∃ r, tagOk l ⟨kd, nm, s⟩ = r := ⟨_, rfl⟩
  rw [hr]
  have HT := Lib.hid hr
  unfold tagOk at HT
  simp only at HT
  clear hr b1
  have t9 := HHB.out
  by_cases k1 : kd = 1
  · rw [if_pos k1] at HT
    subst k1
    by_cases hs : s = ⟨#[]⟩
    · have HFB : Hid (r = true) := Lib.hid (by rw [← HT.out, decide_eq_true hs])
      subst hs
      go_enter Tryz.func50, Tryz.ntmps50
      go_wp2
      all_goals
        go_ret
        exact ⟨by rw [HFB.out]; first | done | rfl | (simp [*]; done) | (simp [*]; omega), HB1.out _⟩
    · have HFB : Hid (r = false) := Lib.hid (by rw [← HT.out, decide_eq_false hs])
      go_enter Tryz.func50, Tryz.ntmps50
      go_wp2
      all_goals
        go_ret
        exact ⟨by rw [HFB.out]; first | done | rfl | (simp [*]; done) | (simp [*]; omega), HB1.out _⟩
  rw [if_neg k1] at HT
  have e1 : (kd == 1) = false := beq_eq_false_iff_ne.2 k1
  by_cases k2 : kd = 2
  · rw [if_pos k2] at HT
    subst k2
    clear k1 e1
    by_cases hs : s = ⟨#[]⟩
    rotate_left
    · have HFB : Hid (r = false) := Lib.hid (by rw [← HT.out, decide_eq_false hs]; rfl)
      go_enter Tryz.func50, Tryz.ntmps50
      go_wp2
      all_goals
        go_ret
        exact ⟨by rw [HFB.out]; first | done | rfl | (simp [*]; done) | (simp [*]; omega), HB1.out _⟩
    by_cases h2 : nm = 0 ∨ nm = 1
    · have HFB : Hid (r = true) := Lib.hid (by rw [← HT.out, decide_eq_true hs]; rcases h2 with rfl | rfl <;> rfl)
      subst hs
      rcases h2 with rfl | rfl
      all_goals
        go_enter Tryz.func50, Tryz.ntmps50
        go_wp2
        all_goals
          go_ret
          exact ⟨by rw [HFB.out]; first | done | rfl | (simp [*]; done) | (simp [*]; omega), HB1.out _⟩
    · have hn0 : ¬ nm = 0 := fun h => h2 (.inl h)
      have hn1 : ¬ nm = 1 := fun h => h2 (.inr h)
      have HFB : Hid (r = false) := Lib.hid (by rw [← HT.out, decide_eq_false hn0, decide_eq_false hn1]; simp)
      have t0 : (nm == 0) = false := beq_eq_false_iff_ne.2 hn0
      have t1 : (nm == 1) = false := beq_eq_false_iff_ne.2 hn1
      subst hs
      clear h2 hn0 hn1
      go_enter Tryz.func50, Tryz.ntmps50
      go_wp2
      all_goals
        go_ret
        exact ⟨by rw [HFB.out]; first | done | rfl | (simp [*]; done) | (simp [*]; omega), HB1.out _⟩
  rw [if_neg k2] at HT
  have e2 : (kd == 2) = false := beq_eq_false_iff_ne.2 k2
  by_cases k3 : kd = 3
  · rw [if_pos k3] at HT
    subst k3
    clear k1 e1 k2 e2
    by_cases h0 : nm = 0
    · subst h0
      have HFB : Hid (r = decide (0 ≤ idx (l.map (·.name)) s)) := Lib.hid (by rw [← HT.out, HHB.out]; rfl)
      generalize idx (l.map (·.name)) s = ix at HAT HFB t9 HHB
      clear t9
      go_enter Tryz.func50, Tryz.ntmps50
      go_wp2_with (fail)
      refine (HAT.out _).mono ?_
      rintro e V ⟨rfl, rfl⟩
      go_wp2
      go_ret
      exact ⟨by rw [HFB.out]; try rfl, HB1.out _⟩
    · have HFB : Hid (r = false) := Lib.hid (by rw [← HT.out, decide_eq_false h0]; rfl)
      have t0 : (nm == 0) = false := beq_eq_false_iff_ne.2 h0
      clear h0
      go_enter Tryz.func50, Tryz.ntmps50
      go_wp2
      all_goals
        go_ret
        exact ⟨by rw [HFB.out]; first | done | rfl | (simp [*]; done) | (simp [*]; omega), HB1.out _⟩
  rw [if_neg k3] at HT
  have e3 : (kd == 3) = false := beq_eq_false_iff_ne.2 k3
  by_cases k4 : kd = 4
  · rw [if_pos k4] at HT
    subst k4
    clear k1 e1 k2 e2 k3 e3
    by_cases h0 : nm = 0
    rotate_left
    · have HFB : Hid (r = false) := Lib.hid (by rw [← HT.out, decide_eq_false h0]; rfl)
      have t0 : (nm == 0) = false := beq_eq_false_iff_ne.2 h0
      clear h0
      go_enter Tryz.func50, Tryz.ntmps50
      go_wp2
      all_goals
        go_ret
        exact ⟨by rw [HFB.out]; first | done | rfl | (simp [*]; done) | (simp [*]; omega), HB1.out _⟩
    by_cases hs : s = ⟨#[]⟩
    · have HFB : Hid (r = true) := Lib.hid (by rw [← HT.out, decide_eq_true h0, decide_eq_true hs]; rfl)
      subst hs h0
      go_enter Tryz.func50, Tryz.ntmps50
      go_wp2
      all_goals
        go_ret
        exact ⟨by rw [HFB.out]; first | done | rfl | (simp [*]; done) | (simp [*]; omega), HB1.out _⟩
    · have HFB : Hid (r = false) := Lib.hid (by rw [← HT.out, decide_eq_false hs]; simp)
      subst h0
      go_enter Tryz.func50, Tryz.ntmps50
      go_wp2
      all_goals
        go_ret
        exact ⟨by rw [HFB.out]; first | done | rfl | (simp [*]; done) | (simp [*]; omega), HB1.out _⟩
  rw [if_neg k4] at HT
  have e4 : (kd == 4) = false := beq_eq_false_iff_ne.2 k4
  by_cases k5 : kd = 5
  rotate_left
  · have HFB : Hid (r = false) := Lib.hid (by rw [← HT.out, if_neg k5])
    have e5 : (kd == 5) = false := beq_eq_false_iff_ne.2 k5
    clear k1 k2 k3 k4 k5
    go_enter Tryz.func50, Tryz.ntmps50
    go_wp2
    all_goals
      go_ret
      exact ⟨by rw [HFB.out]; first | done | rfl | (simp [*]; done) | (simp [*]; omega), HB1.out _⟩
  rw [if_pos k5] at HT
  subst k5
  clear k1 e1 k2 e2 k3 e3 k4 e4 t9
  have hnd := names_of hL
  rcases lastAt_idx hnd s with ⟨h1, h2⟩ | ⟨j, h1, h2, h3⟩
  · have HFB : Hid (r = false) := Lib.hid (by
      rw [← HT.out]
      have : hasB l s = false := by unfold hasB clsAt; rw [h1]; rfl
      rw [this]; simp)
    rw [h2] at HAT
    clear h1 h2
    go_enter Tryz.func50, Tryz.ntmps50
    go_wp2_with (fail)
    refine (HAT.out _).mono ?_
    rintro e V ⟨rfl, rfl⟩
    go_wp2
    all_goals
      go_ret
      exact ⟨by rw [HFB.out]; first | done | rfl | (simp [*]; done) | (simp [*]; omega), HB1.out _⟩
  · rw [h2] at HAT
    rw [List.getElem?_map] at h3
    obtain ⟨x, hx, e⟩ := Option.map_eq_some_iff.1 h3
    have HFB : Hid (r = (decide (nm = 0) && decide (4 < j) && !x.abs)) := Lib.hid (by
      rw [← HT.out]
      have q1 : clsAt l s = some j := h1
      have q2 : hasB l s = true := by unfold hasB; rw [q1]; rfl
      have q3 : absAt l s = x.abs := by rw [absAt_eq, q1]; simp [hx]
      rw [q1, q2, q3]; simp)
    have hjl := (List.getElem?_eq_some_iff.1 hx).1
    obtain ⟨bb, off, rfl⟩ := Slc.addrH hH (by omega)
    have g4 : ∀ o, (W.alloc o).cell? ⟨bb, off + j * 6 + 4, none⟩ = some (.bool x.abs) := fun o => by
      obtain ⟨_, _, _, _, _, _, _, _, _, _, _, _, g4, _⟩ := CIs.atH hH hx
      exact alloc_cell' g4
    have w1 : (0 : Int) ≤ (j : Int) := by omega
    have w2 : (j : Int) < (l.length : Int) := by omega
    have HG4 := Lib.hid g4
    clear h1 h2 h3 hx e hH g4
    have g4 := HG4.out
    by_cases h0 : nm = 0
    rotate_left
    · have HFC : Hid (r = false) := Lib.hid (by rw [HFB.out, decide_eq_false h0]; rfl)
      have t0 : (nm == 0) = false := beq_eq_false_iff_ne.2 h0
      clear h0 hL
      go_enter Tryz.func50, Tryz.ntmps50
      go_wp2_with (fail)
      refine (HAT.out _).mono ?_
      rintro e V ⟨rfl, rfl⟩
      go_wp2
      all_goals
        go_ret
        exact ⟨by rw [HFC.out]; first | done | rfl | (simp [*]; done) | (simp [*]; omega), HB1.out _⟩
    by_cases h5 : 4 < j
    rotate_left
    · have HFC : Hid (r = false) := Lib.hid (by rw [HFB.out, decide_eq_false h5]; simp)
      have t5 : decide ((5 : Int) ≤ (j : Int)) = false := decide_eq_false (by omega)
      subst h0
      clear hL
      go_enter Tryz.func50, Tryz.ntmps50
      go_wp2_with (fail)
      refine (HAT.out _).mono ?_
      rintro e V ⟨rfl, rfl⟩
      go_wp2
      all_goals
        go_ret
        exact ⟨by rw [HFC.out]; first | done | rfl | (simp [*]; done) | (simp [*]; omega), HB1.out _⟩
    have t5 : decide ((5 : Int) ≤ (j : Int)) = true := decide_eq_true (by omega)
    cases hab : x.abs with
    | true =>
      have HFC : Hid (r = false) := Lib.hid (by rw [HFB.out, hab]; simp)
      simp only [hab] at g4
      subst h0
      clear hL hab HG4
      go_enter Tryz.func50, Tryz.ntmps50
      go_wp2_with (fail)
      refine (HAT.out _).mono ?_
      rintro e V ⟨rfl, rfl⟩
      go_wp2
      all_goals
        go_ret
        exact ⟨by rw [HFC.out]; first | done | rfl | (simp [*]; done) | (simp [*]; omega), HB1.out _⟩
    | false =>
      have HFC : Hid (r = true) := Lib.hid (by rw [HFB.out, hab, decide_eq_true h5, decide_eq_true h0]; rfl)
      simp only [hab] at g4
      subst h0
      clear hL hab HG4
      go_enter Tryz.func50, Tryz.ntmps50
      go_wp2_with (fail)
      refine (HAT.out _).mono ?_
      rintro e V ⟨rfl, rfl⟩
      go_wp2
      all_goals
        go_ret
        exact ⟨by rw [HFC.out]; first | done | rfl | (simp [*]; done) | (simp [*]; omega), HB1.out _⟩
end Go.Proofs.YtepnmejahbiacaaGreat
set_option linter.unusedVariables false
set_option linter.unusedSimpArgs false
namespace Go.Proofs.YtepnmejahbiacaaGreat
open Go.RowKit
attribute [local go_sem ↓] Go.wp_at_zero Go.wp_at_succ
set_option maxHeartbeats 32000000 in
set_option maxRecDepth 100000 in
theorem fits8_calls (AH : Option Addr) (cH : Nat) (l : List CI) (hl : l.length ≤ 1000000) (hcp : ∀ x ∈ l, x.cpl.length ≤ 1000000) (hL : LookOk l) (v : Tag) : ∀ (q : Nat) (t : Ty), t.count ≤ q → ∀ (A : Option Addr) (c : Nat) (W : World) (G GH : Nat → Prop), Held GH (CIs AH l) W → t.all (fun x => decide (x.args.length ≤ 1000000)) = true → Held G (Typs A t.args) W →
    Calls Tryz.prog 77 #[.slice AH l.length cH, tagV v, tyV t A c] W fun e W' => e = .returned (.bool (hasTF l v t)) ∧ Below W.heap.size W W' := by
  intro q
  induction q with
  | zero => intro t hq; have := t.count_pos; omega
  | succ q ih =>
    intro t hq A c W G GH hH hall hT
    have HIH : Hid (∀ (x : Ty), x ∈ t.args → ∀ (A : Option Addr) (c : Nat) (V : World), Below W.heap.size W V → (∃ G, Held G (Typs A x.args) V) → Calls Tryz.prog 77 #[.slice AH l.length cH, tagV v, tyV x A c] V fun e W' => e = .returned (.bool (hasTF l v x)) ∧ Below V.heap.size V W') :=
      Lib.hid (fun x hx A c V hv ⟨G, hG⟩ => ih x (by have := Ty.count_mem hx; omega) A c V G GH (hH.keep (Keep.all hv)) (all_at hall hx) hG)
    have hlen := all_len hall
    have HT := Lib.hid hT
    have HUN : Hid (∀ V a b, Below W.heap.size W V → Calls Tryz.prog 121 #[.slice AH l.length cH, .string a, .string b] V fun e V' => e = .returned (.bool (belowB l a b)) ∧ Below V.heap.size V V') := Lib.hid (fun V a b hv => by
      refine (under8_calls AH cH l a b V GH (hH.keep (Keep.all hv)) hl hcp).mono ?_
      rintro e V' ⟨rfl, rfl⟩
      exact ⟨by rw [belowB_C hL], Below.refl _ _⟩)
    have HTC := Lib.hid (fun V => tagClass8_calls v V)
    obtain ⟨r, hr⟩ : ∃ r, hasTF l v t = r := ⟨_, rfl⟩
    rw [hr]
    have HF : Hid (hasTF l v t = r) := Lib.hid hr
    rw [hasTF_eq] at HF
    clear hr ih hq hH hall hT hcp hL
    obtain ⟨W1, hW1⟩ : ∃ W1, W1 = (W.alloc (.cells #[.int .i64 v.kind, .int .i64 v.num, .string v.name] 39)).alloc (.cells #[.int .i64 t.kind, .string t.name, .int .i64 t.lo, .int .i64 t.hi, .slice A t.args.length c] 36) := ⟨_, rfl⟩
    have b1 : Below W.heap.size W W1 := by rw [hW1]; exact ((Below.refl _ W).alloc (Nat.le_refl _) _).alloc (by simp) _
    have xv : ∀ j u, [Value.int .i64 v.kind, .int .i64 v.num, .string v.name][j]? = some u → W1.cell? ⟨W.heap.size, j, none⟩ = some u := fun j u hj => by rw [hW1]; exact alloc_cell' (cell_new W _ _ _ rfl j u hj)
    have xt : ∀ j u, [Value.int .i64 t.kind, .string t.name, .int .i64 t.lo, .int .i64 t.hi, .slice A t.args.length c][j]? = some u → W1.cell? ⟨W.heap.size + 1, j, none⟩ = some u := fun j u hj => by rw [hW1]; exact cell_new (W.alloc _) _ _ _ (by simp) j u hj
    have v0 := xv 0 _ rfl
    have v1 := xv 1 _ rfl
    have v2 := xv 2 _ rfl
    have t0 := xt 0 _ rfl
    have t1 := xt 1 _ rfl
    have t2 := xt 2 _ rfl
    have t3 := xt 3 _ rfl
    have t4 := xt 4 _ rfl
    clear xv xt
    by_cases k1 : t.kind = 1
    · have HFB : Hid (r = belowB l (classOfB v) t.name) := Lib.hid (by rw [← HF.out, if_pos k1])
      have e1 : (t.kind == 1) = true := beq_iff_eq.2 k1
      clear k1
      have HTC1 := Lib.hid (HTC.out W1.drew)
      go_enter Tryz.func77, Tryz.ntmps77
      go_wp2_with (fail)
      rw [← hW1]
      clear hW1
      go_region_held3 (fun w' => Below W1.heap.size W1 w' ∧ w'.cell? ⟨W.heap.size, 0, none⟩ = some (.int .i64 v.kind) ∧ w'.cell? ⟨W.heap.size, 1, none⟩ = some (.int .i64 v.num) ∧ w'.cell? ⟨W.heap.size, 2, none⟩ = some (.string v.name) ∧ w'.cell? ⟨W.heap.size + 1, 1, none⟩ = some (.string t.name))
        (first | exact ⟨(Below.refl _ W1).drew, v0, v1, v2, t1⟩ | (go_split_ands; exact ⟨below_step (by assumption) hbu, cell_all (by assumption) hbu, cell_all (by assumption) hbu, cell_all (by assumption) hbu, cell_all (by assumption) hbu⟩))
        (first
          | ((go_at_call 96; refine (HTC.out _).mono ?_; rintro e U ⟨rfl, hbu⟩))
          | ((go_at_call 121; refine (HUN.out _ _ _ (below_step b1 (by go_split_ands; assumption))).mono ?_; rintro e U2 ⟨rfl, hbu⟩)))
      all_goals
        have qe : Below W1.heap.size W1 U2 := by go_split_ands; assumption
        have qf := below_step b1 qe
        clear HTC HTC1 HUN
        go_wp2
        go_ret
        exact ⟨(by rw [HFB.out]; try rfl), qf⟩
    have e1 : (t.kind == 1) = false := beq_eq_false_iff_ne.2 k1
    by_cases k2 : t.kind = 2
    · have HFB0 : Hid (r = (decide (v.kind = 1) && decide (t.lo ≤ v.num) && decide (v.num ≤ t.hi))) := Lib.hid (by rw [← HF.out, if_neg k1, if_pos k2])
      have e2 : (t.kind == 2) = true := beq_iff_eq.2 k2
      clear k1 k2
      by_cases h1 : v.kind = 1
      rotate_left
      · have HFB : Hid (r = false) := Lib.hid (by rw [HFB0.out, decide_eq_false h1]; rfl)
        have x1 : (v.kind == 1) = false := beq_eq_false_iff_ne.2 h1
        clear h1
        go_enter Tryz.func77, Tryz.ntmps77
        go_wp2
        go_ret
        exact ⟨by rw [HFB.out]; try rfl, by rw [← hW1]; exact b1⟩
      have x1 : (v.kind == 1) = true := beq_iff_eq.2 h1
      by_cases h2 : t.lo ≤ v.num
      rotate_left
      · have HFB : Hid (r = false) := Lib.hid (by rw [HFB0.out, decide_eq_false h2]; simp)
        clear h1
        go_enter Tryz.func77, Tryz.ntmps77
        go_wp2
        go_ret
        exact ⟨by rw [HFB.out]; try rfl, by rw [← hW1]; exact b1⟩
      by_cases h3 : v.num ≤ t.hi
      · have HFB : Hid (r = true) := Lib.hid (by rw [HFB0.out, decide_eq_true h1, decide_eq_true h2, decide_eq_true h3]; rfl)
        clear h1
        go_enter Tryz.func77, Tryz.ntmps77
        go_wp2
        go_ret
        exact ⟨by rw [HFB.out]; try rfl, by rw [← hW1]; exact b1⟩
      · have HFB : Hid (r = false) := Lib.hid (by rw [HFB0.out, decide_eq_false h3]; simp)
        clear h1
        go_enter Tryz.func77, Tryz.ntmps77
        go_wp2
        go_ret
        exact ⟨by rw [HFB.out]; try rfl, by rw [← hW1]; exact b1⟩
    have e2 : (t.kind == 2) = false := beq_eq_false_iff_ne.2 k2
    by_cases k3 : t.kind = 3
    · have HFB0 : Hid (r = (decide (v.kind = 2) && decide (v.num = t.lo))) := Lib.hid (by rw [← HF.out, if_neg k1, if_neg k2, if_pos k3])
      have e3 : (t.kind == 3) = true := beq_iff_eq.2 k3
      clear k1 k2 k3
      by_cases h1 : v.kind = 2
      rotate_left
      · have HFB : Hid (r = false) := Lib.hid (by rw [HFB0.out, decide_eq_false h1]; rfl)
        have x1 : (v.kind == 2) = false := beq_eq_false_iff_ne.2 h1
        clear h1
        go_enter Tryz.func77, Tryz.ntmps77
        go_wp2
        go_ret
        exact ⟨by rw [HFB.out]; try rfl, by rw [← hW1]; exact b1⟩
      have x1 : (v.kind == 2) = true := beq_iff_eq.2 h1
      by_cases h2 : v.num = t.lo
      · have HFB : Hid (r = true) := Lib.hid (by rw [HFB0.out, decide_eq_true h1, decide_eq_true h2]; rfl)
        have x2 : (v.num == t.lo) = true := beq_iff_eq.2 h2
        clear h1 h2
        go_enter Tryz.func77, Tryz.ntmps77
        go_wp2
        go_ret
        exact ⟨by rw [HFB.out]; try rfl, by rw [← hW1]; exact b1⟩
      · have HFB : Hid (r = false) := Lib.hid (by rw [HFB0.out, decide_eq_false h2]; simp)
        have x2 : (v.num == t.lo) = false := beq_eq_false_iff_ne.2 h2
        clear h1 h2
        go_enter Tryz.func77, Tryz.ntmps77
        go_wp2
        go_ret
        exact ⟨by rw [HFB.out]; try rfl, by rw [← hW1]; exact b1⟩
    have e3 : (t.kind == 3) = false := beq_eq_false_iff_ne.2 k3
    by_cases k4 : t.kind = 4
    · have HFB0 : Hid (r = (decide (v.kind = 3) && belowB l v.name t.name)) := Lib.hid (by rw [← HF.out, if_neg k1, if_neg k2, if_neg k3, if_pos k4])
      have e4 : (t.kind == 4) = true := beq_iff_eq.2 k4
      clear k1 k2 k3 k4
      by_cases h1 : v.kind = 3
      rotate_left
      · have HFB : Hid (r = false) := Lib.hid (by rw [HFB0.out, decide_eq_false h1]; rfl)
        have x1 : (v.kind == 3) = false := beq_eq_false_iff_ne.2 h1
        clear h1
        go_enter Tryz.func77, Tryz.ntmps77
        go_wp2
        go_ret
        exact ⟨by rw [HFB.out]; try rfl, by rw [← hW1]; exact b1⟩
      have x1 : (v.kind == 3) = true := beq_iff_eq.2 h1
      have HFB : Hid (r = belowB l v.name t.name) := Lib.hid (by rw [HFB0.out, decide_eq_true h1]; rfl)
      have HU2 := Lib.hid (HUN.out W1 v.name t.name b1)
      clear h1
      go_enter Tryz.func77, Tryz.ntmps77
      go_wp2_with (fail)
      rw [← hW1]
      clear hW1
      refine HU2.out.mono ?_
      rintro e V ⟨rfl, hb⟩
      have qf := below_step b1 hb
      go_wp2
      go_ret
      exact ⟨by rw [HFB.out]; try rfl, qf⟩
    have e4 : (t.kind == 4) = false := beq_eq_false_iff_ne.2 k4
    have HFB : Hid (r = t.args.any (hasTF l v)) := Lib.hid (by rw [← HF.out, if_neg k1, if_neg k2, if_neg k3, if_neg k4])
    clear k1 k2 k3 k4 HF HUN HTC
    have V0 := Lib.hid (And.intro v0 (And.intro v1 (And.intro v2 t4)))
    go_enter Tryz.func77, Tryz.ntmps77
    go_wp2_with (fail)
    rw [← hW1]
    clear hW1 v0 v1 v2 t0 t1 t2 t3 t4 e1 e2 e3 e4
    go_loopw [7] (fun i wr => ∃ k : Nat, k ≤ t.args.length ∧ i = .int .i64 k ∧ (t.args.take k).any (hasTF l v) = false ∧ Below W1.heap.size W1 wr) (fun i _ => t.args.length - (intOf i).toNat)
    case atStart => exact ⟨0, Nat.zero_le _, rfl, rfl, Below.refl _ _⟩
    case round =>
      obtain ⟨k, hk, rfl, hno, hb⟩ := hrel
      have HNO := Lib.hid hno
      clear hno
      have q1 := below_step b1 hb
      have v0 := cell_all V0.out.1 hb
      have v1 := cell_all V0.out.2.1 hb
      have v2 := cell_all V0.out.2.2.1 hb
      have t4 := cell_all V0.out.2.2.2 hb
      by_cases hlt : k < t.args.length
      · obtain ⟨b, off, rfl⟩ := Slc.addrH HT.out (by omega)
        have hx : t.args[k]? = some t.args[k] := List.getElem?_eq_getElem hlt
        generalize t.args[k] = x at hx
        have HX := Lib.hid hx
        obtain ⟨A3, c3', r1, r2, g0, g1, g2, g3, g4⟩ := Typs.atH (HT.out.all q1) hx
        have HST := Lib.hid (fun V (hv : Below wr.heap.size wr V) => HIH.out x (List.mem_of_getElem? hx) A3 c3' V (below_step q1 hv) ⟨_, r2.keep (Keep.all hv)⟩)
        have w1 : (0 : Int) ≤ (k : Int) := by omega
        have w2 : (k : Int) < (t.args.length : Int) := by omega
        have HK := Lib.hid hlt
        clear hx r1 r2
        have HHX : Hid (∀ y, hasTF l v x = y → hasTF l v x = y) := Lib.hid (fun _ h => h)
        obtain ⟨fx, hfx⟩ : ∃ fx, hasTF l v x = fx := ⟨_, rfl⟩
        have HFX := Lib.hid hfx
        rw [hfx] at HST
        clear hfx HHX
        go_wp2_with (fail)
        go_region_held3 (fun w' => Below wr.heap.size wr w' ∧ w'.cell? ⟨W.heap.size, 0, none⟩ = some (.int .i64 v.kind) ∧ w'.cell? ⟨W.heap.size, 1, none⟩ = some (.int .i64 v.num) ∧ w'.cell? ⟨W.heap.size, 2, none⟩ = some (.string v.name) ∧ w'.cell? ⟨W.heap.size + 1, 4, none⟩ = some (.slice (some ⟨b, off, none⟩) t.args.length c) ∧
            w'.cell? ⟨b, off + k * 5, none⟩ = some (.int .i64 x.kind) ∧ w'.cell? ⟨b, off + k * 5 + 1, none⟩ = some (.string x.name) ∧ w'.cell? ⟨b, off + k * 5 + 2, none⟩ = some (.int .i64 x.lo) ∧ w'.cell? ⟨b, off + k * 5 + 3, none⟩ = some (.int .i64 x.hi) ∧ w'.cell? ⟨b, off + k * 5 + 4, none⟩ = some (.slice A3 x.args.length c3'))
          (first | exact ⟨(Below.refl _ wr).drew, v0, v1, v2, t4, g0, g1, g2, g3, g4⟩ | (go_split_ands; exact ⟨below_step (by assumption) hbu, cell_all (by assumption) hbu, cell_all (by assumption) hbu, cell_all (by assumption) hbu, cell_all (by assumption) hbu, cell_all (by assumption) hbu, cell_all (by assumption) hbu, cell_all (by assumption) hbu, cell_all (by assumption) hbu, cell_all (by assumption) hbu⟩))
          ((go_at_call 77; refine (HST.out _ (by go_split_ands; assumption)).mono ?_; rintro e U ⟨rfl, hbu⟩))
        have hb5 : Below wr.heap.size wr U := by go_split_ands; assumption
        have hb6 := below_step hb hb5
        go_split_ands
        clear HST
        cases fx with
        | true =>
          have HR : Hid (r = true) := Lib.hid (by rw [HFB.out]; exact List.any_eq_true.2 ⟨x, List.mem_of_getElem? HX.out, HFX.out⟩)
          have qf := below_step b1 hb6
          go_wp2
          go_ret
          exact ⟨by rw [HR.out]; try rfl, qf⟩
        | false =>
          have HN2 : Hid ((t.args.take (k + 1)).any (hasTF l v) = false) := Lib.hid (by rw [take_snoc HX.out, List.any_append, HNO.out]; simp [HFX.out])
          go_wp2
          go_roundw
          case rel => exact ⟨k + 1, by have := HK.out; omega, by go_num, HN2.out, hb6⟩
          case measure => have := HK.out; simp [intOf]; omega
      · obtain rfl : k = t.args.length := by omega
        have HR : Hid (r = false) := Lib.hid (by rw [HFB.out]; have := HNO.out; rwa [List.take_length] at this)
        go_wp2
        go_ret
        exact ⟨by rw [HR.out]; try rfl, q1⟩
end Go.Proofs.YtepnmejahbiacaaGreat
set_option linter.unusedVariables false
set_option linter.unusedSimpArgs false
namespace Go.Proofs.YtepnmejahbiacaaGreat
open Go.RowKit
theorem cpl_short {l : List CI} (h : LookOk l) : ∀ x ∈ l, x.cpl.length ≤ 1000000 := by
  intro x hx
  obtain ⟨j, hj⟩ := List.mem_iff_getElem?.1 hx
  have h1 := line_length (c3Check_zero h.2.2.2.2.1).2 (h.2.2.2.2.2 j x hj)
  rw [heirsOf_len] at h1
  have := h.1
  omega
end Go.Proofs.YtepnmejahbiacaaGreat
