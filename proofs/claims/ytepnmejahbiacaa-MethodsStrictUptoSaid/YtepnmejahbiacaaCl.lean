/- slices.Clone: a new row that reads as the old one. -/
import Derived.Test.YtepnmejahbiacaaWd
import Derived.Test.YtepnmejahbiacaaProg
import Derived.WalkSpells
import Derived.Outline
set_option linter.unusedVariables false
set_option linter.unusedSimpArgs false
namespace Go.Proofs.Ytepnmejahbiacaa
open Go.RowKit

theorem info9 : (Try.prog.info? 9).map (fun i => (i.zero, i.size, i.bytes)) = some (some (.string ⟨#[]⟩), 1, 16) := by kernel_rfl
set_option maxHeartbeats 1000000 in
set_option maxRecDepth 100000 in
theorem cloneStr_calls (A : Option Addr) (c : Nat) (l : List ByteArray) (G : Nat → Prop) (w : World) (h : Held G (Slc strR 1 A l) w) (hl : l.length ≤ 1000000) :
    Calls Try.prog 76 #[.slice A l.length c] w fun e w' => ∃ v, e = .returned v ∧ Own strR 9 1 w.heap.size G v l w' ∧ Below w.heap.size w w' := by
  cases A with
  | none =>
    have e : l = [] := by
      rcases l with _ | ⟨x, l⟩
      · rfl
      · obtain ⟨b, off, e⟩ := Slc.addrH h (by simp)
        cases e
    subst e
    have hnil := fun w => Lib.run_eql_slice_nil (P := Try.prog) w 23 9 none 0 c 0 0 Try.underlying23
    go_enter Try.func76, Try.ntmps76
    go_wp2
    go_ret
    exact ⟨_, rfl, Own.nil _ _ _ _ _ _, Below.refl _ _⟩
  | some ad =>
    have hnil := fun w => Lib.run_eql_slice_nil (P := Try.prog) w 23 9 (some ad) l.length c 0 0 Try.underlying23
    go_enter Try.func76, Try.ntmps76
    go_wp2_with (at_builtin; refine wp_append_all strR strR_one 9 1 w.heap.size 16 (fun b => G b ∧ b < w.heap.size) _ rfl _ _ 23 _ rfl Try.underlying23 info9 rfl (by decide) (by decide) (.slice (some ⟨w.heap.size, 0, none⟩) 0 0) [] l rfl ?own (some ad) c l.length rfl rfl ?src ?hG ?base ?len ?_)
    case own => exact Own.empty _ _ _ _ _ _ _ rfl (Nat.le_refl _)
    case src => exact h.lt.keep (Keep.alloc _ _ _)
    case hG => rintro b ⟨_, hb⟩ e; simp [Value.ownBlock] at e; omega
    case base => simp
    case len => simp; omega
    intro v' w1 hown hg _
    go_wp2
    go_ret
    exact ⟨_, rfl, (show Own strR 9 1 w.heap.size (fun b => G b ∧ b < w.heap.size) v' l w1 by simpa using hown).mono (fun _ _ h => h.1), ((Below.refl _ w).alloc (Nat.le_refl _) _).grown hg (by simp) fun k e => by simp [Value.ownBlock] at e; omega⟩

theorem info23 : (Try.prog.info? 23).map (fun i => (i.zero, i.size, i.bytes)) = some (some (.slice none 0 0), 1, 24) := by kernel_rfl
set_option maxHeartbeats 1000000 in
set_option maxRecDepth 100000 in
theorem cloneLst_calls (A : Option Addr) (c : Nat) (l : List (List ByteArray)) (G : Nat → Prop) (w : World) (h : Held G (Slc lstR 1 A l) w) (hl : l.length ≤ 1000000) :
    Calls Try.prog 102 #[.slice A l.length c] w fun e w' => ∃ v, e = .returned v ∧ Own lstR 23 1 w.heap.size G v l w' ∧ Below w.heap.size w w' := by
  cases A with
  | none =>
    have e : l = [] := by
      rcases l with _ | ⟨x, l⟩
      · rfl
      · obtain ⟨b, off, e⟩ := Slc.addrH h (by simp)
        cases e
    subst e
    have hnil := fun w => Lib.run_eql_slice_nil (P := Try.prog) w 100 23 none 0 c 0 0 Try.underlying100
    go_enter Try.func102, Try.ntmps102
    go_wp2
    go_ret
    exact ⟨_, rfl, Own.nil _ _ _ _ _ _, Below.refl _ _⟩
  | some ad =>
    have hnil := fun w => Lib.run_eql_slice_nil (P := Try.prog) w 100 23 (some ad) l.length c 0 0 Try.underlying100
    go_enter Try.func102, Try.ntmps102
    go_wp2_with (at_builtin; refine wp_append_all lstR lstR_one 23 1 w.heap.size 24 (fun b => G b ∧ b < w.heap.size) _ rfl _ _ 100 _ rfl Try.underlying100 info23 rfl (by decide) (by decide) (.slice (some ⟨w.heap.size, 0, none⟩) 0 0) [] l rfl ?own (some ad) c l.length rfl rfl ?src ?hG ?base ?len ?_)
    case own => exact Own.empty _ _ _ _ _ _ _ rfl (Nat.le_refl _)
    case src => exact h.lt.keep (Keep.alloc _ _ _)
    case hG => rintro b ⟨_, hb⟩ e; simp [Value.ownBlock] at e; omega
    case base => simp
    case len => simp; omega
    intro v' w1 hown hg _
    go_wp2
    go_ret
    exact ⟨_, rfl, (show Own lstR 23 1 w.heap.size (fun b => G b ∧ b < w.heap.size) v' l w1 by simpa using hown).mono (fun _ _ h => h.1), ((Below.refl _ w).alloc (Nat.le_refl _) _).grown hg (by simp) fun k e => by simp [Value.ownBlock] at e; omega⟩

theorem info80 : (Try.prog.info? 80).map (fun i => (i.zero, i.size, i.bytes)) = some (some (.agg #[.string ⟨#[]⟩, .string ⟨#[]⟩, .slice none 0 0, .slice none 0 0, .bool false, .bool false]), 6, 88) := by kernel_rfl
set_option maxHeartbeats 1000000 in
set_option maxRecDepth 100000 in
theorem cloneCls_calls (A : Option Addr) (c : Nat) (l : List CI) (G : Nat → Prop) (w : World) (h : Held G (Slc ciR 6 A l) w) (hl : l.length ≤ 1000000) :
    Calls Try.prog 74 #[.slice A l.length c] w fun e w' => ∃ v, e = .returned v ∧ Own ciR 80 6 w.heap.size G v l w' ∧ Below w.heap.size w w' := by
  cases A with
  | none =>
    have e : l = [] := by
      rcases l with _ | ⟨x, l⟩
      · rfl
      · obtain ⟨b, off, e⟩ := Slc.addrH h (by simp)
        cases e
    subst e
    have hnil := fun w => Lib.run_eql_slice_nil (P := Try.prog) w 22 80 none 0 c 0 0 Try.underlying22
    go_enter Try.func74, Try.ntmps74
    go_wp2
    go_ret
    exact ⟨_, rfl, Own.nil _ _ _ _ _ _, Below.refl _ _⟩
  | some ad =>
    have hnil := fun w => Lib.run_eql_slice_nil (P := Try.prog) w 22 80 (some ad) l.length c 0 0 Try.underlying22
    go_enter Try.func74, Try.ntmps74
    go_wp2_with (at_builtin; refine wp_append_all ciR ciR_one 80 6 w.heap.size 88 (fun b => G b ∧ b < w.heap.size) _ rfl _ _ 22 _ rfl Try.underlying22 info80 rfl (by decide) (by decide) (.slice (some ⟨w.heap.size, 0, none⟩) 0 0) [] l rfl ?own (some ad) c l.length rfl rfl ?src ?hG ?base ?len ?_)
    case own => exact Own.empty _ _ _ _ _ _ _ rfl (Nat.le_refl _)
    case src => exact h.lt.keep (Keep.alloc _ _ _)
    case hG => rintro b ⟨_, hb⟩ e; simp [Value.ownBlock] at e; omega
    case base => simp
    case len => simp; omega
    intro v' w1 hown hg _
    go_wp2
    go_ret
    exact ⟨_, rfl, (show Own ciR 80 6 w.heap.size (fun b => G b ∧ b < w.heap.size) v' l w1 by simpa using hown).mono (fun _ _ h => h.1), ((Below.refl _ w).alloc (Nat.le_refl _) _).grown hg (by simp) fun k e => by simp [Value.ownBlock] at e; omega⟩
end Go.Proofs.Ytepnmejahbiacaa
