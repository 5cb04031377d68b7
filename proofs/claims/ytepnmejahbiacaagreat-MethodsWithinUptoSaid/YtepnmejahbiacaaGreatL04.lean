/- Part 4 of the proof: Cm, Cl, C3a, Ba. -/
import Derived.Test.YtepnmejahbiacaaGreatL02
import Derived.Test.YtepnmejahbiacaaGreatL01
import Derived.BigQuiet
import Derived.Deep.Draws
import Derived.Deep.LoopGhost
import Derived.Deep.QuietTactic
import Derived.KernelRfl
import Derived.Lib.Hide
import Derived.Maps.AppendAt
import Derived.WalkKit
import Derived.Test.YtepnmejahbiacaaGreatProg
import Derived.WalkSpells
import Derived.Outline
import Derived.Test.YtepnmejahbiacaaGreatL03
set_option linter.unusedVariables false
set_option linter.unusedSimpArgs false
namespace Go.Proofs.YtepnmejahbiacaaGreat
open Go.RowKit
/-- cmp.Compare of two integers. -/
def cmpI (a b : Int) : Int := if a < b then -1 else if b < a then 1 else 0
theorem isNaN_calls (a : Int) (w : World) : Calls Tryz.prog 137 #[.int .i64 a] w fun e w' => e = .returned (.bool false) ∧ w' = w := by
  have t1 : (a != a) = false := bne_self_eq_false a
  go_enter Tryz.func137, Tryz.ntmps137
  go_wp2
  go_ret
  exact ⟨by first | rfl | simp, rfl⟩
set_option maxRecDepth 100000 in
theorem compare_calls (a b : Int) (w : World) : Calls Tryz.prog 93 #[.int .i64 a, .int .i64 b] w fun e w' => e = .returned (.int .i64 (cmpI a b)) ∧ w' = w := by
  have HN := Lib.hid (fun x => isNaN_calls x w)
  by_cases h1 : a < b
  · have t1 : decide (a < b) = true := decide_eq_true h1
    have HC : Hid (cmpI a b = -1) := Lib.hid (by unfold cmpI; rw [if_pos h1])
    clear h1
    go_enter Tryz.func93, Tryz.ntmps93
    go_wp2_with (go_at_call 137; refine (HN.out _).mono ?_; rintro e w' ⟨rfl, rfl⟩)
    go_ret
    exact ⟨by rw [HC.out]; rfl, rfl⟩
  · have t1 : decide (a < b) = false := decide_eq_false h1
    by_cases h2 : b < a
    · have t2 : decide (b < a) = true := decide_eq_true h2
      have HC : Hid (cmpI a b = 1) := Lib.hid (by unfold cmpI; rw [if_neg h1, if_pos h2])
      clear h1 h2
      go_enter Tryz.func93, Tryz.ntmps93
      go_wp2_with (go_at_call 137; refine (HN.out _).mono ?_; rintro e w' ⟨rfl, rfl⟩)
      go_ret
      exact ⟨by rw [HC.out]; rfl, rfl⟩
    · have t2 : decide (b < a) = false := decide_eq_false h2
      have HC : Hid (cmpI a b = 0) := Lib.hid (by unfold cmpI; rw [if_neg h1, if_neg h2])
      clear h1 h2
      go_enter Tryz.func93, Tryz.ntmps93
      go_wp2_with (go_at_call 137; refine (HN.out _).mono ?_; rintro e w' ⟨rfl, rfl⟩)
      go_ret
      exact ⟨by rw [HC.out]; rfl, rfl⟩
/-- A list of integers. -/
def intR (x : Int) (cs : List Value) (_ : World) : Prop := cs = [.int .i64 x]
abbrev Ints (A : Option Addr) (l : List Int) (w : World) : Prop := Slc intR 1 A l w
theorem infoInt : (Tryz.prog.info? 3).map (fun i => (i.zero, i.size, i.bytes)) = some (some (.int .i64 0), 1, 8) := by kernel_rfl
set_option maxHeartbeats 4000000 in
set_option maxRecDepth 100000 in
theorem ids_calls (A : Option Addr) (c : Nat) (l : List Meth) (G : Nat → Prop) (w : World) (h : Held G (Meths A l) w) (hl : l.length ≤ 1000000) :
    Calls Tryz.prog 40 #[.slice A l.length c] w fun e w' => ∃ v, e = .returned v ∧ Own intR 3 1 w.heap.size (fun _ => False) v (l.map (·.id)) w' ∧ Below w.heap.size w w' := by
  go_enter Tryz.func40, Tryz.ntmps40
  go_wp2
  go_loopw [3, 8] (fun v i wr => ∃ k : Nat, k ≤ l.length ∧ i = .int .i64 k ∧ Own intR 3 1 w.heap.size (fun _ => False) v ((l.take k).map (·.id)) wr ∧ Below w.heap.size w wr) (fun _ i _ => l.length - (intOf i).toNat)
  case atStart => exact ⟨0, Nat.zero_le _, rfl, Own.nil _ _ _ _ _ _, Below.refl _ _⟩
  case round =>
    obtain ⟨k, hk, rfl, hown, hb⟩ := hrel
    by_cases hlt : k < l.length
    · obtain ⟨b, off, rfl⟩ := Slc.addrH h (by omega)
      have hx : l[k]? = some l[k] := List.getElem?_eq_getElem hlt
      generalize l[k] = x at hx
      have HX := Lib.hid hx
      obtain ⟨A1, c1, A2, c2, p1, p2, p3, p4, g0, g1, g2, g3, g4, g5, g6, g7⟩ := Meths.atH (h.keep (Keep.all hb)) hx
      clear hx
      go_wp2_with (at_builtin; refine Classical.byContradiction fun hneg => ?_)
      apply hneg
      have hbz := hb.size
      refine wp_append_one intR 3 1 w.heap.size 8 (fun _ => False) _ rfl _ _ 27 _ rfl Tryz.underlying27 infoInt rfl (by decide) (by decide) _ ((l.take k).map (·.id)) rfl ?own ⟨wr.heap.size + 1, 0, none⟩ 1 rfl x.id [.int .i64 x.id] rfl ?cells ?one ?held ?hG ?base ?len ?_
      case own => exact (hown.alloc _).alloc _
      case cells => exact fun j u hu => cells_new (wr.alloc _) _ _ _ (by simp) j u hu
      case one => intro u hu; simp at hu; subst hu; rfl
      case held => exact fun _ _ => rfl
      case hG => exact fun b hb _ => hb.elim
      case base => simp; omega
      case len => simp; omega
      intro v' w1 hown1 hg1 _
      go_wp2
      go_roundw
      case rel =>
        refine ⟨k + 1, by omega, by go_num, ?_, ?_⟩
        · have e : (l.take (k + 1)).map (·.id) = (l.take k).map (·.id) ++ [x.id] := by rw [take_snoc HX.out, List.map_append]; rfl
          rw [e]; exact hown1
        · exact ((hb.alloc hb.size _).alloc (by simp; omega) _).grown hg1 (by simp; omega) fun k' e => (hown.lt _ e).1
      case measure => simp [intOf]; omega
    · go_wp2
      have hkl : k = l.length := by omega
      go_ret
      rw [hkl, List.take_length] at hown
      exact ⟨_, rfl, hown, hb⟩
end Go.Proofs.YtepnmejahbiacaaGreat
namespace Go.Proofs.YtepnmejahbiacaaGreat
open Go.RowKit
theorem info68 : (Tryz.prog.info? 68).map (fun i => (i.zero, i.size, i.bytes)) = some (some (.agg #[.int .i64 0, .string ⟨#[]⟩, .slice none 0 0, .int .i64 0, .string ⟨#[]⟩, .int .i64 0, .int .i64 0, .slice none 0 0]), 8, 112) := by kernel_rfl
set_option maxHeartbeats 1000000 in
set_option maxRecDepth 100000 in
theorem cloneMetR_calls (R : Meth → List Value → World → Prop) (h1R : OneR R) (A : Option Addr) (c : Nat) (l : List Meth) (G : Nat → Prop) (w : World) (h : Held G (Slc R 8 A l) w) (hl : l.length ≤ 1000000) :
    Calls Tryz.prog 99 #[.slice A l.length c] w fun e w' => ∃ v, e = .returned v ∧ Own R 68 8 w.heap.size G v l w' ∧ Below w.heap.size w w' := by
  cases A with
  | none =>
    have e : l = [] := by
      rcases l with _ | ⟨x, l⟩
      · rfl
      · obtain ⟨b, off, e⟩ := Slc.addrH h (by simp)
        cases e
    subst e
    have hnil := fun w => Lib.run_eql_slice_nil (P := Tryz.prog) w 23 68 none 0 c 0 0 Tryz.underlying23
    go_enter Tryz.func99, Tryz.ntmps99
    go_wp2
    go_ret
    exact ⟨_, rfl, Own.nil _ _ _ _ _ _, Below.refl _ _⟩
  | some ad =>
    have hnil := fun w => Lib.run_eql_slice_nil (P := Tryz.prog) w 23 68 (some ad) l.length c 0 0 Tryz.underlying23
    go_enter Tryz.func99, Tryz.ntmps99
    go_wp2_with (at_builtin; refine wp_append_all R h1R 68 8 w.heap.size 112 (fun b => G b ∧ b < w.heap.size) _ rfl _ _ 23 _ rfl Tryz.underlying23 info68 rfl (by decide) (by decide) (.slice (some ⟨w.heap.size, 0, none⟩) 0 0) [] l rfl ?own (some ad) c l.length rfl rfl ?src ?hG ?base ?len ?_)
    case own => exact Own.empty _ _ _ _ _ _ _ rfl (Nat.le_refl _)
    case src => exact h.lt.keep (Keep.alloc _ _ _)
    case hG => rintro b ⟨_, hb⟩ e; simp [Value.ownBlock] at e; omega
    case base => simp
    case len => simp; omega
    intro v' w1 hown hg _
    go_wp2
    go_ret
    exact ⟨_, rfl, (show Own R 68 8 w.heap.size (fun b => G b ∧ b < w.heap.size) v' l w1 by simpa using hown).mono (fun _ _ h => h.1), ((Below.refl _ w).alloc (Nat.le_refl _) _).grown hg (by simp) fun k e => by simp [Value.ownBlock] at e; omega⟩
/-- The clone of a row of one's own: its elements ask no more than those of the row. -/
theorem cloneOwn_calls (A : Option Addr) (c base : Nat) (l : List Meth) (G : Nat → Prop) (w : World) (h : Own metR 68 8 base G (.slice A l.length c) l w) (hl : l.length ≤ 1000000) :
    Calls Tryz.prog 99 #[.slice A l.length c] w fun e w' => ∃ v, e = .returned v ∧ Own metR 68 8 w.heap.size G v l w' ∧ Below w.heap.size w w' := by
  have h1 : Own (fun x cs w => Held G (metR x cs) w) 68 8 base G (.slice A l.length c) l w := by
    obtain ⟨xs, a, b⟩ := h
    exact ⟨xs, a, b.imp fun x cs hx w' k => hx.keep k⟩
  obtain ⟨A', c', e, _, h2⟩ := h1.out
  simp only [Value.slice.injEq] at e
  obtain ⟨rfl, _, rfl⟩ := e
  refine (cloneMetR_calls (fun x cs w => Held G (metR x cs) w) (fun x cs w h u hu => metR_one x cs w h.now u hu) A c l _ w h2 hl).mono ?_
  rintro e w' ⟨v, rfl, ⟨xs, a, b⟩, q⟩
  exact ⟨v, rfl, ⟨xs, a, b.imp fun x cs hx => hx.now⟩, q⟩
/-- A row with elements lies in a block. -/
theorem Own.form {α : Type} {R : α → List Value → World → Prop} {T sz base : Nat} {G : Nat → Prop} {v : Value} {l : List α} {w : World} (h : Own R T sz base G v l w) (hl : 0 < l.length) : ∃ g c, v = .slice (some ⟨g, 0, none⟩) l.length c ∧ base ≤ g ∧ g < w.heap.size := by
  obtain ⟨xs, ⟨_, h2⟩, _⟩ := h
  rcases h2 with ⟨_, h0⟩ | ⟨g, cap, cur, rfl, hg, hh, _⟩
  · omega
  · exact ⟨g, cap, rfl, hg, (Array.getElem?_eq_some_iff.1 hh).1⟩
theorem OwnMet.at {T base : Nat} {G : Nat → Prop} {l : List Meth} {w : World} {g c n : Nat} (h : Own metR T 8 base G (.slice (some ⟨g, 0, none⟩) n c) l w) {i : Nat} {x : Meth} (hx : l[i]? = some x) :
    ∃ A1 c1 A2 c2, x.pars.length ≤ c1 ∧ Held G (Pars A1 x.pars) w ∧ x.result.args.length ≤ c2 ∧ Held G (Typs A2 x.result.args) w ∧
      w.cell? ⟨g, i * 8, none⟩ = some (.int .i64 x.id) ∧ w.cell? ⟨g, i * 8 + 1, none⟩ = some (.string x.lib) ∧ w.cell? ⟨g, i * 8 + 2, none⟩ = some (.slice A1 x.pars.length c1) ∧
      w.cell? ⟨g, i * 8 + 3, none⟩ = some (.int .i64 x.result.kind) ∧ w.cell? ⟨g, i * 8 + 4, none⟩ = some (.string x.result.name) ∧ w.cell? ⟨g, i * 8 + 5, none⟩ = some (.int .i64 x.result.lo) ∧
      w.cell? ⟨g, i * 8 + 6, none⟩ = some (.int .i64 x.result.hi) ∧ w.cell? ⟨g, i * 8 + 7, none⟩ = some (.slice A2 x.result.args.length c2) := by
  obtain ⟨cs, _, hr, hc⟩ := h.get hx
  obtain ⟨A1, c1, A2, c2, rfl, h1, h2, h3, h4⟩ := metR.openH hr
  exact ⟨A1, c1, A2, c2, h1, h2, h3, h4, (hc 0 _ rfl).1, (hc 1 _ rfl).1, (hc 2 _ rfl).1, (hc 3 _ rfl).1, (hc 4 _ rfl).1, (hc 5 _ rfl).1, (hc 6 _ rfl).1, (hc 7 _ rfl).1⟩
end Go.Proofs.YtepnmejahbiacaaGreat
set_option linter.unusedVariables false
set_option linter.unusedSimpArgs false
namespace Go.Proofs.YtepnmejahbiacaaGreat
open Go.RowKit
theorem info9 : (Tryz.prog.info? 9).map (fun i => (i.zero, i.size, i.bytes)) = some (some (.string ⟨#[]⟩), 1, 16) := by kernel_rfl
set_option maxHeartbeats 1000000 in
set_option maxRecDepth 100000 in
theorem cloneStr_calls (A : Option Addr) (c : Nat) (l : List ByteArray) (G : Nat → Prop) (w : World) (h : Held G (Slc strR 1 A l) w) (hl : l.length ≤ 1000000) :
    Calls Tryz.prog 119 #[.slice A l.length c] w fun e w' => ∃ v, e = .returned v ∧ Own strR 9 1 w.heap.size G v l w' ∧ Below w.heap.size w w' := by
  cases A with
  | none =>
    have e : l = [] := by
      rcases l with _ | ⟨x, l⟩
      · rfl
      · obtain ⟨b, off, e⟩ := Slc.addrH h (by simp)
        cases e
    subst e
    have hnil := fun w => Lib.run_eql_slice_nil (P := Tryz.prog) w 108 9 none 0 c 0 0 Tryz.underlying108
    go_enter Tryz.func119, Tryz.ntmps119
    go_wp2
    go_ret
    exact ⟨_, rfl, Own.nil _ _ _ _ _ _, Below.refl _ _⟩
  | some ad =>
    have hnil := fun w => Lib.run_eql_slice_nil (P := Tryz.prog) w 108 9 (some ad) l.length c 0 0 Tryz.underlying108
    go_enter Tryz.func119, Tryz.ntmps119
    go_wp2_with (at_builtin; refine wp_append_all strR strR_one 9 1 w.heap.size 16 (fun b => G b ∧ b < w.heap.size) _ rfl _ _ 108 _ rfl Tryz.underlying108 info9 rfl (by decide) (by decide) (.slice (some ⟨w.heap.size, 0, none⟩) 0 0) [] l rfl ?own (some ad) c l.length rfl rfl ?src ?hG ?base ?len ?_)
    case own => exact Own.empty _ _ _ _ _ _ _ rfl (Nat.le_refl _)
    case src => exact h.lt.keep (Keep.alloc _ _ _)
    case hG => rintro b ⟨_, hb⟩ e; simp [Value.ownBlock] at e; omega
    case base => simp
    case len => simp; omega
    intro v' w1 hown hg _
    go_wp2
    go_ret
    exact ⟨_, rfl, (show Own strR 9 1 w.heap.size (fun b => G b ∧ b < w.heap.size) v' l w1 by simpa using hown).mono (fun _ _ h => h.1), ((Below.refl _ w).alloc (Nat.le_refl _) _).grown hg (by simp) fun k e => by simp [Value.ownBlock] at e; omega⟩
theorem info108 : (Tryz.prog.info? 108).map (fun i => (i.zero, i.size, i.bytes)) = some (some (.slice none 0 0), 1, 24) := by kernel_rfl
set_option maxHeartbeats 1000000 in
set_option maxRecDepth 100000 in
theorem cloneLst_calls (A : Option Addr) (c : Nat) (l : List (List ByteArray)) (G : Nat → Prop) (w : World) (h : Held G (Slc lstR 1 A l) w) (hl : l.length ≤ 1000000) :
    Calls Tryz.prog 213 #[.slice A l.length c] w fun e w' => ∃ v, e = .returned v ∧ Own lstR 108 1 w.heap.size G v l w' ∧ Below w.heap.size w w' := by
  cases A with
  | none =>
    have e : l = [] := by
      rcases l with _ | ⟨x, l⟩
      · rfl
      · obtain ⟨b, off, e⟩ := Slc.addrH h (by simp)
        cases e
    subst e
    have hnil := fun w => Lib.run_eql_slice_nil (P := Tryz.prog) w 111 108 none 0 c 0 0 Tryz.underlying111
    go_enter Tryz.func213, Tryz.ntmps213
    go_wp2
    go_ret
    exact ⟨_, rfl, Own.nil _ _ _ _ _ _, Below.refl _ _⟩
  | some ad =>
    have hnil := fun w => Lib.run_eql_slice_nil (P := Tryz.prog) w 111 108 (some ad) l.length c 0 0 Tryz.underlying111
    go_enter Tryz.func213, Tryz.ntmps213
    go_wp2_with (at_builtin; refine wp_append_all lstR lstR_one 108 1 w.heap.size 24 (fun b => G b ∧ b < w.heap.size) _ rfl _ _ 111 _ rfl Tryz.underlying111 info108 rfl (by decide) (by decide) (.slice (some ⟨w.heap.size, 0, none⟩) 0 0) [] l rfl ?own (some ad) c l.length rfl rfl ?src ?hG ?base ?len ?_)
    case own => exact Own.empty _ _ _ _ _ _ _ rfl (Nat.le_refl _)
    case src => exact h.lt.keep (Keep.alloc _ _ _)
    case hG => rintro b ⟨_, hb⟩ e; simp [Value.ownBlock] at e; omega
    case base => simp
    case len => simp; omega
    intro v' w1 hown hg _
    go_wp2
    go_ret
    exact ⟨_, rfl, (show Own lstR 108 1 w.heap.size (fun b => G b ∧ b < w.heap.size) v' l w1 by simpa using hown).mono (fun _ _ h => h.1), ((Below.refl _ w).alloc (Nat.le_refl _) _).grown hg (by simp) fun k e => by simp [Value.ownBlock] at e; omega⟩
theorem info110 : (Tryz.prog.info? 110).map (fun i => (i.zero, i.size, i.bytes)) = some (some (.agg #[.string ⟨#[]⟩, .string ⟨#[]⟩, .slice none 0 0, .slice none 0 0, .bool false, .bool false]), 6, 88) := by kernel_rfl
set_option maxHeartbeats 1000000 in
set_option maxRecDepth 100000 in
theorem cloneCls_calls (A : Option Addr) (c : Nat) (l : List CI) (G : Nat → Prop) (w : World) (h : Held G (Slc ciR 6 A l) w) (hl : l.length ≤ 1000000) :
    Calls Tryz.prog 117 #[.slice A l.length c] w fun e w' => ∃ v, e = .returned v ∧ Own ciR 110 6 w.heap.size G v l w' ∧ Below w.heap.size w w' := by
  cases A with
  | none =>
    have e : l = [] := by
      rcases l with _ | ⟨x, l⟩
      · rfl
      · obtain ⟨b, off, e⟩ := Slc.addrH h (by simp)
        cases e
    subst e
    have hnil := fun w => Lib.run_eql_slice_nil (P := Tryz.prog) w 22 110 none 0 c 0 0 Tryz.underlying22
    go_enter Tryz.func117, Tryz.ntmps117
    go_wp2
    go_ret
    exact ⟨_, rfl, Own.nil _ _ _ _ _ _, Below.refl _ _⟩
  | some ad =>
    have hnil := fun w => Lib.run_eql_slice_nil (P := Tryz.prog) w 22 110 (some ad) l.length c 0 0 Tryz.underlying22
    go_enter Tryz.func117, Tryz.ntmps117
    go_wp2_with (at_builtin; refine wp_append_all ciR ciR_one 110 6 w.heap.size 88 (fun b => G b ∧ b < w.heap.size) _ rfl _ _ 22 _ rfl Tryz.underlying22 info110 rfl (by decide) (by decide) (.slice (some ⟨w.heap.size, 0, none⟩) 0 0) [] l rfl ?own (some ad) c l.length rfl rfl ?src ?hG ?base ?len ?_)
    case own => exact Own.empty _ _ _ _ _ _ _ rfl (Nat.le_refl _)
    case src => exact h.lt.keep (Keep.alloc _ _ _)
    case hG => rintro b ⟨_, hb⟩ e; simp [Value.ownBlock] at e; omega
    case base => simp
    case len => simp; omega
    intro v' w1 hown hg _
    go_wp2
    go_ret
    exact ⟨_, rfl, (show Own ciR 110 6 w.heap.size (fun b => G b ∧ b < w.heap.size) v' l w1 by simpa using hown).mono (fun _ _ h => h.1), ((Below.refl _ w).alloc (Nat.le_refl _) _).grown hg (by simp) fun k e => by simp [Value.ownBlock] at e; omega⟩
end Go.Proofs.YtepnmejahbiacaaGreat
set_option linter.unusedVariables false
set_option linter.unusedSimpArgs false
namespace Go.Proofs.YtepnmejahbiacaaGreat
open Go.RowKit
def candRet : Option ByteArray → Value
  | some s => .tuple #[.string s, .bool true]
  | none => .tuple #[.string ⟨#[]⟩, .bool false]
theorem cand_skip {l : List (List ByteArray)} {k : Nat} (hk : l[k]? = some []) : cand l (l.drop k) = cand l (l.drop (k + 1)) := by
  rw [List.drop_eq_getElem_cons (List.getElem?_eq_some_iff.1 hk).1]
  have : l[k]'(List.getElem?_eq_some_iff.1 hk).1 = [] := (List.getElem?_eq_some_iff.1 hk).2
  rw [this]; rfl
theorem cand_bad {l : List (List ByteArray)} {k : Nat} {s : ByteArray} {t : List ByteArray} (hk : l[k]? = some (s :: t)) (h : candGood l s = false) : cand l (l.drop k) = cand l (l.drop (k + 1)) := by
  rw [List.drop_eq_getElem_cons (List.getElem?_eq_some_iff.1 hk).1]
  have : l[k]'(List.getElem?_eq_some_iff.1 hk).1 = s :: t := (List.getElem?_eq_some_iff.1 hk).2
  rw [this]; simp [cand, h]
theorem cand_good {l : List (List ByteArray)} {k : Nat} {s : ByteArray} {t : List ByteArray} (hk : l[k]? = some (s :: t)) (h : candGood l s = true) : cand l (l.drop k) = some s := by
  rw [List.drop_eq_getElem_cons (List.getElem?_eq_some_iff.1 hk).1]
  have : l[k]'(List.getElem?_eq_some_iff.1 hk).1 = s :: t := (List.getElem?_eq_some_iff.1 hk).2
  rw [this]; simp [cand, h]
theorem candGood_false {l : List (List ByteArray)} {s : ByteArray} {y : List ByteArray} (hy : y ∈ l) (h : hasS y.tail s = true) : candGood l s = false := by
  unfold candGood; rw [List.all_eq_false]; exact ⟨y, hy, by simp [h]⟩
theorem candGood_true {l : List (List ByteArray)} {s : ByteArray} (h : ∀ j y, j < l.length → l[j]? = some y → hasS y.tail s = false) : candGood l s = true := by
  unfold candGood; rw [List.all_eq_true]
  intro y hy
  obtain ⟨j, hj, rfl⟩ := List.getElem_of_mem hy
  rw [h j _ hj (List.getElem?_eq_getElem hj)]; rfl
set_option maxHeartbeats 4000000 in
set_option maxRecDepth 100000 in
theorem candidate_calls (A : Option Addr) (c : Nat) (l : List (List ByteArray)) (w : World) (h : Lsts A l w) (hl : l.length ≤ 1000000) (hll : ∀ x ∈ l, x.length ≤ 1000000) :
    Calls Tryz.prog 216 #[.slice A l.length c] w fun e w' => e = .returned (candRet (cand l l)) ∧ Drw w w' := by
  have H := Slc.stable lstR_stable h
  go_enter Tryz.func216, Tryz.ntmps216
  go_wp2
  go_step3
  go_wp2
  go_step3
  go_wp2
  go_loopw [10] (fun i wr => ∃ k : Nat, k ≤ l.length ∧ i = .int .i64 k ∧ cand l l = cand l (l.drop k) ∧ Drw w wr) (fun i _ => l.length - (intOf i).toNat)
  case atStart => exact ⟨0, Nat.zero_le _, rfl, rfl, Drw.refl _⟩
  case round =>
    obtain ⟨k, hk, rfl, hc, hd⟩ := hrel
    obtain ⟨n, rfl⟩ := hd
    have HC := Lib.hid hc
    clear hc
    by_cases hlt : k < l.length
    · obtain ⟨b, off, rfl⟩ := h.addr (by omega)
      have HX := Lib.hid (getElem?_lt hlt)
      have hxl := hll _ (List.getElem_mem hlt)
      generalize l[k] = x at *
      obtain ⟨A1, c1, r1, R1, g1⟩ := Lsts.atH H HX.out
      cases x with
      | nil =>
        have t1 : ((([] : List ByteArray).length : Int) == 0) = true := rfl
        go_wp2
        go_roundw
        case rel => exact ⟨k + 1, by omega, by go_num, HC.out.trans (cand_skip HX.out), Drw.of _ _⟩
        case measure => simp [intOf]; omega
      | cons s t =>
        have t1 : ((t.length : Int) + 1 == 0) = false := beq_eq_false_iff_ne.2 (by omega)
        obtain ⟨b1, o1, rfl⟩ := Slc.addrH R1 (by simp)
        have g2 := Strs.at (k := 0) R1.now rfl
        rw [Nat.add_zero] at g2
        clear R1
        simp only [List.length_cons] at *
        go_wp2
        go_loopw [19] (fun i wr => ∃ j : Nat, j ≤ l.length ∧ i = .int .i64 j ∧ (∀ i y, i < j → l[i]? = some y → hasS y.tail s = false) ∧ Drw w wr) (fun i _ => l.length - (intOf i).toNat)
        case atStart => exact ⟨0, Nat.zero_le _, rfl, fun i y h => absurd h (by omega), Drw.of _ _⟩
        case round =>
          obtain ⟨j, hj, rfl, hg, hd⟩ := hrel
          obtain ⟨n', rfl⟩ := hd
          have HG := Lib.hid hg
          clear hg
          by_cases hjl : j < l.length
          · have HY := Lib.hid (getElem?_lt hjl)
            have hyl := hll _ (List.getElem_mem hjl)
            generalize l[j] = y at *
            obtain ⟨A2, c2, r2, R2, g3⟩ := Lsts.atH H HY.out
            cases y with
            | nil =>
              have t2 : decide ((0 : Int) < 0) = false := rfl
              go_wp2
              go_quiet (fail)
              go_wp2
              go_roundw
              case rel =>
                refine ⟨j + 1, by omega, by go_num, fun i z hi hz => ?_, Drw.of _ _⟩
                rcases Nat.lt_or_ge i j with hij | hij
                · exact HG.out i z hij hz
                · obtain rfl : i = j := by omega
                  rw [HY.out] at hz; cases hz; rfl
              case measure => simp [intOf]; omega
            | cons y0 y1 =>
              obtain ⟨b2, o2, rfl⟩ := Slc.addrH R2 (by simp)
              have S2 := Slc.drop R2.now 1
              simp only [List.drop_one, List.tail_cons, Nat.mul_one] at S2
              have t2 : decide ((0 : Int) < (y1.length : Int) + 1) = true := by simp
              have K1 : ∀ W A3 c3, Drw w W → Strs A3 y1 W → Calls Tryz.prog 175 #[.slice A3 y1.length c3, .string s] W fun e w' => e = .returned (.bool (hasS y1 s)) ∧ w' = W := fun W A3 c3 _ hA => (slContains_calls A3 c3 y1 s W hA (by simp at hyl; omega)).mono fun _ _ ⟨a, b⟩ => ⟨a, b.symm⟩
              have HK := Lib.hid K1
              clear K1 R2
              simp only [List.length_cons] at *
              have hcont : hasS y1 s = true → candGood l s = false := fun hh => candGood_false (List.mem_of_getElem? HY.out) hh
              rcases Nat.lt_or_ge 1 c2 with hc2 | hc2
              · have hc3 : ¬ c2 = 1 := by omega
                have hc4 : (1 : Int) ≤ (y1.length : Int) + 1 := by omega
                cases hb : hasS y1 s with
                | true =>
                  have HQ := Lib.hid (hcont hb)
                  clear hcont
                  go_wp2
                  go_quiet ((go_at_call 175; exact (HK.out _ _ _ (Drw.of _ _) S2).mono fun _ _ ⟨a, b⟩ => ⟨a, _, b⟩))
                  go_wp2
                  go_roundw
                  case rel => exact ⟨k + 1, by omega, by go_num, HC.out.trans (cand_bad HX.out HQ.out), by first | exact Drw.of _ _ | exact (Drw.of _ _).drewN _⟩
                  case measure => simp [intOf]; omega
                | false =>
                  have HQ := Lib.hid hb
                  clear hcont
                  go_wp2
                  go_quiet ((go_at_call 175; exact (HK.out _ _ _ (Drw.of _ _) S2).mono fun _ _ ⟨a, b⟩ => ⟨a, _, b⟩))
                  go_wp2
                  go_roundw
                  case rel =>
                    refine ⟨j + 1, by omega, by go_num, fun i z hi hz => ?_, by first | exact Drw.of _ _ | exact (Drw.of _ _).drewN _⟩
                    rcases Nat.lt_or_ge i j with hij | hij
                    · exact HG.out i z hij hz
                    · obtain rfl : i = j := by omega
                      rw [HY.out] at hz; cases hz; exact HQ.out
                  case measure => simp [intOf]; omega
              · obtain rfl : y1 = [] := List.length_eq_zero_iff.1 (by omega)
                obtain rfl : c2 = 1 := by simp at r2; omega
                have S3 : Strs (some ⟨b2, o2, none⟩) [] w := Slc.nil _ _ _ _
                clear hcont
                simp only [List.length_nil, Nat.zero_add] at *
                go_wp2
                go_quiet ((go_at_call 175; exact (HK.out _ _ _ (Drw.of _ _) S3).mono fun _ _ ⟨a, b⟩ => ⟨a, _, b⟩))
                go_wp2
                go_roundw
                case rel =>
                  refine ⟨j + 1, by omega, by go_num, fun i z hi hz => ?_, by first | exact Drw.of _ _ | exact (Drw.of _ _).drewN _⟩
                  rcases Nat.lt_or_ge i j with hij | hij
                  · exact HG.out i z hij hz
                  · obtain rfl : i = j := by omega
                    rw [HY.out] at hz; cases hz; rfl
                case measure => simp [intOf]; omega
          · obtain rfl : j = l.length := by omega
            have HQ := Lib.hid (cand_good HX.out (candGood_true fun i y hi hy => HG.out i y hi hy))
            go_wp2
            rw [Exit.noGoto_ret]
            go_ret2
            exact ⟨retV (by rw [HC.out, HQ.out]; rfl), Drw.of _ _⟩
    · obtain rfl : k = l.length := by omega
      go_wp2
      rw [Exit.noGoto_ret]
      go_ret2
      exact ⟨retV (by rw [HC.out, List.drop_length]; rfl), Drw.of _ _⟩
set_option maxHeartbeats 1000000 in
theorem merged1_calls (A : Option Addr) (n c : Nat) (w : World) (hn : n ≤ 1000000) : Calls Tryz.prog 215 #[.slice A n c] w fun e w' => e = .returned (.bool (decide (0 < n))) ∧ w = w' := by
  go_enter Tryz.func215, Tryz.ntmps215
  go_wp2
  go_ret
  exact ⟨retB (by simp), rfl⟩
theorem merged1_enters : ∀ args w, (callFunc 215 args).run Tryz.prog w = .ok (.enter 215 args) w := enters Tryz.func215 (by kernel_rfl) rfl
/-- Is anything left? -/
theorem anyLeft_calls (A : Option Addr) (c : Nat) (l : List (List ByteArray)) (w : World) (h : Lsts A l w) (hl : l.length ≤ 1000000) (hll : ∀ x ∈ l, x.length ≤ 1000000) :
    Calls Tryz.prog 214 #[.slice A l.length c, .func (.func 215) #[] #[]] w fun e w' => e = .returned (.bool (anyLeft l)) ∧ w = w' := by
  have H := Slc.stable lstR_stable h
  have hc : ∀ i : Nat, ∃ v : Value, ∀ x, l[i]? = some x → ∃ A1 c1, v = .slice A1 x.length c1 ∧ ∀ b off, A = some ⟨b, off, none⟩ → w.cell? ⟨b, off + i, none⟩ = some v := by
    intro i
    by_cases hi : i < l.length
    · obtain ⟨b, off, rfl⟩ := h.addr (by omega)
      obtain ⟨A1, c1, r1, R1, g1⟩ := Lsts.atH H (getElem?_lt hi)
      refine ⟨.slice A1 l[i].length c1, fun x hx => ?_⟩
      rw [getElem?_lt hi] at hx; cases hx
      exact ⟨A1, c1, rfl, fun b' off' e => by cases e; exact g1⟩
    · exact ⟨.nilFunc, fun x hx => by rw [List.getElem?_eq_none (by omega)] at hx; cases hx⟩
  obtain ⟨v, hv⟩ := Classical.axiomOfChoice hc
  refine (containsFuncLst A l.length c 215 #[] v w (by omega) merged1_enters (fun i wr => (∀ j x, j < i → l[j]? = some x → x = []) ∧ wr = w) (fun i wr => (∃ x, l[i]? = some x ∧ x ≠ []) ∧ wr = w) (fun _ _ => False)
    ⟨fun j x hj => absurd hj (by omega), rfl⟩ (fun hn => h.addr hn) (fun i wr b off e hi hJ => ?_) (fun i wr hi hJ => ?_)).mono ?_
  · obtain ⟨_, rfl⟩ := hJ
    obtain ⟨_, _, _, g⟩ := hv i _ (getElem?_lt hi)
    exact g b off e
  · obtain ⟨h0, rfl⟩ := hJ
    obtain ⟨A1, c1, e, _⟩ := hv i _ (getElem?_lt hi)
    rw [e]
    refine (merged1_calls A1 _ c1 wr (hll _ (List.getElem_mem hi))).mono ?_
    rintro e w' ⟨rfl, rfl⟩
    by_cases hx : l[i] = []
    · refine .inl ⟨retB (by rw [hx]; rfl), fun j x hj hjx => ?_, rfl⟩
      rcases Nat.lt_or_ge j i with h | h
      · exact h0 j x h hjx
      · obtain rfl : j = i := by omega
        rw [getElem?_lt hi] at hjx; cases hjx; exact hx
    · exact .inr (.inl ⟨retB (by simpa [List.length_pos_iff] using hx), ⟨_, getElem?_lt hi, hx⟩, rfl⟩)
  · rintro e w' (⟨rfl, hJ, rfl⟩ | ⟨i, hi, rfl, ⟨x, hx, hne⟩, rfl⟩ | ⟨ch, rfl, hX⟩)
    · refine ⟨retB (Eq.symm ?_), rfl⟩
      unfold anyLeft; rw [List.any_eq_false]
      intro x hx
      obtain ⟨j, hj, rfl⟩ := List.getElem_of_mem hx
      rw [hJ j _ hj (getElem?_lt hj)]; simp
    · refine ⟨retB (Eq.symm ?_), rfl⟩
      unfold anyLeft; rw [List.any_eq_true]
      exact ⟨x, List.mem_of_getElem? hx, by cases x <;> simp_all⟩
    · exact hX.elim
end Go.Proofs.YtepnmejahbiacaaGreat
namespace Go.Proofs.YtepnmejahbiacaaGreat
open Go.RowKit
def mergedPost (T : Nat) (l : List (List ByteArray)) (w : World) (e : Ending) (w' : World) : Prop :=
  (merge l = none ∧ e = .returned (.tuple #[.slice none 0 0, .bool false]) ∧ Below w.heap.size w w') ∨
  (∃ out v, merge l = some out ∧ e = .returned (.tuple #[v, .bool true]) ∧ Own strR T 1 w.heap.size (fun _ => False) v out w' ∧ Below w.heap.size w w')
theorem Own.addr {α : Type} {R : α → List Value → World → Prop} {T sz base : Nat} {G : Nat → Prop} {v : Value} {l : List α} {w : World} (h : Own R T sz base G v l w) (hl : 0 < l.length) :
    ∃ g c, v = .slice (some ⟨g, 0, none⟩) l.length c ∧ base ≤ g ∧ g < w.heap.size ∧ l.length ≤ c := by
  obtain ⟨xs, ⟨_, h2⟩, he⟩ := h
  rcases h2 with ⟨rfl, h0⟩ | ⟨g', cap, cur, rfl, hg, hh, hn, hm, hs, ht⟩
  · omega
  · exact ⟨g', cap, rfl, hg, (Array.getElem?_eq_some_iff.1 hh).1, hn⟩
theorem rm_length (s : ByteArray) (l : List (List ByteArray)) : (rm s l).length = l.length := by simp [rm]
theorem rm_take {s : ByteArray} {l : List (List ByteArray)} {i : Nat} {x : List ByteArray} (hx : l[i]? = some x) : (rm s l).take (i + 1) ++ l.drop (i + 1) = ((rm s l).take i ++ l.drop i).set i (rm1 s x) := by
  have hi : i < l.length := (List.getElem?_eq_some_iff.1 hx).1
  have hr : (rm s l)[i]? = some (rm1 s x) := by unfold rm; rw [List.getElem?_map, hx]; rfl
  rw [Go.Proofs.YtepnmejahbiacaaGreat.take_snoc hr, List.set_append_right _ _ (by rw [List.length_take, rm_length]; omega)]
  rw [List.length_take, rm_length, Nat.min_eq_left (by omega), Nat.sub_self, List.drop_eq_getElem_cons hi]
  simp only [List.set_cons_zero, List.append_assoc, List.singleton_append]
theorem mid_get {s : ByteArray} {l : List (List ByteArray)} {i : Nat} {x : List ByteArray} (hx : l[i]? = some x) : ((rm s l).take i ++ l.drop i)[i]? = some x := by
  have hi : i < l.length := (List.getElem?_eq_some_iff.1 hx).1
  rw [List.getElem?_append_right (by rw [List.length_take, rm_length]; omega), List.length_take, rm_length, Nat.min_eq_left (by omega), Nat.sub_self, List.getElem?_drop]
  exact hx
theorem mid_length {s : ByteArray} {l : List (List ByteArray)} {i : Nat} (hi : i ≤ l.length) : ((rm s l).take i ++ l.drop i).length = l.length := by simp [rm_length]; omega
theorem rm_bound {s : ByteArray} {l : List (List ByteArray)} {N : Nat} (h : ∀ x ∈ l, x.length ≤ N) : ∀ x ∈ rm s l, x.length ≤ N := by
  intro x hx; unfold rm at hx; rw [List.mem_map] at hx
  obtain ⟨y, hy, rfl⟩ := hx
  exact Nat.le_trans (rm1_le s y) (h y hy)
set_option maxHeartbeats 4000000 in
set_option maxRecDepth 100000 in
theorem merged_calls (A : Option Addr) (c : Nat) (l : List (List ByteArray)) (G : Nat → Prop) (w : World) (h : Held G (Lsts A l) w) (hl : l.length ≤ 1000000) (hll : ∀ x ∈ l, x.length ≤ 1000000) (htot : total l ≤ 1000000) :
    Calls Tryz.prog 202 #[.slice A l.length c] w (mergedPost 9 l w) := by
  have HCl := Lib.hid (cloneLst_calls A c l (fun b => G b ∧ b < w.heap.size) w h.lt hl)
  obtain ⟨tot, ht0⟩ : ∃ n, n = total l := ⟨_, rfl⟩
  clear h
  go_enter Tryz.func202, Tryz.ntmps202
  go_wp2_with (fail)
  refine HCl.out.mono ?_
  rintro e w1 ⟨v, rfl, hown, hb⟩
  clear HCl
  obtain ⟨A1, c1, rfl, hc1, _⟩ := hown.out
  go_wp2
  go_loopg [4] (total l) (fun gk vo wr => ∃ cur done, total cur = gk ∧ Own lstR 108 1 w.heap.size (fun b => G b ∧ b < w.heap.size) (.slice A1 l.length c1) cur wr ∧ Own strR 9 1 w.heap.size (fun _ => False) vo done wr ∧
    (∀ k, (Value.slice A1 l.length c1).ownBlock = some k → vo.ownBlock ≠ some k) ∧ merge l = (merge cur).map (done ++ ·) ∧ total cur + done.length ≤ total l ∧ (∀ x ∈ cur, x.length ≤ 1000000) ∧ Below w.heap.size w wr)
  case atStart => exact ⟨l, [], rfl, hown, Own.nil _ _ _ _ _ _, (fun k _ e => by cases e), (by cases merge l <;> rfl), Nat.le_refl _, hll, hb⟩
  case round =>
    clear hown hb hll
    obtain ⟨cur, done, hgk, hv, ho, hne, hm, htt, hcb, hbr⟩ := hrel
    obtain ⟨hcl, _, S2⟩ := hv.read
    have HM := Lib.hid hm
    have HCL := Lib.hid hcl
    have HGK := Lib.hid hgk
    clear hm hgk
    have HA := Lib.hid (fun W (hk : Keep (fun _ => True) wr W) => anyLeft_calls A1 c1 cur W (S2.mono (fun _ _ _ => trivial) W hk) (by omega) hcb)
    have HD := Lib.hid (fun W (hk : Keep (fun _ => True) wr W) => candidate_calls A1 c1 cur W (S2.mono (fun _ _ _ => trivial) W hk) (by omega) hcb)
    rw [← hcl] at HA HD
    clear hcl
    cases ha : anyLeft cur with
    | false =>
      have HR := Lib.hid (merge_done ha)
      go_wp2_with (go_at_call 214; refine (HA.out _ (Keep.refl _ _)).mono ?_; rintro e w2 ⟨rfl, rfl⟩)
      go_ret2
      exact .inr ⟨done, _, by rw [HM.out, HR.out]; simp, rfl, ho, hbr⟩
    | true =>
      cases hc : cand cur cur with
      | none =>
        have HR := Lib.hid (merge_stuck ha hc)
        go_wp2_with (first | (go_at_call 214; refine (HA.out _ (Keep.refl _ _)).mono ?_; rintro e w2 ⟨rfl, rfl⟩) | (go_at_call 216; refine (HD.out _ (Keep.refl _ _)).mono ?_; rintro e w2 ⟨rfl, n, rfl⟩; rw [hc]; unfold candRet))
        go_ret2
        exact .inl ⟨by rw [HM.out, HR.out]; rfl, rfl, hbr.trans (drewN_below _ _ _)⟩
      | some s =>
        have HR := Lib.hid (merge_step ha hc)
        have HLT := Lib.hid (show total (rm s cur) < gk ∧ total (rm s cur) + (done ++ [s]).length ≤ total l by
          obtain ⟨t, ht, _⟩ := cand_mem hc
          have := total_rm_lt ht
          have := HGK.out
          simp; omega)
        go_wp2_with (first | (go_at_call 214; refine (HA.out _ (Keep.refl _ _)).mono ?_; rintro e w2 ⟨rfl, rfl⟩) | (go_at_call 216; refine (HD.out _ (Keep.refl _ _)).mono ?_; rintro e w2 ⟨rfl, n, rfl⟩; rw [hc]; unfold candRet) | (at_builtin; refine wp_append_one strR 9 1 w.heap.size 16 (fun _ => False) _ rfl _ _ 108 _ rfl Tryz.underlying108 info9 rfl (by decide) (by decide) _ done rfl ?own ⟨_, 0, none⟩ 1 rfl s [.string s] rfl ?cells ?one ?held ?hG ?base ?len ?_))
        case own => exact (ho.drewN _).alloc _
        case cells => exact cells_new _ _ _ _ (by simp)
        case one => simp [Value.oneCell']
        case held => exact fun _ _ => rfl
        case hG => exact fun _ h => h.elim
        case base => have := hbr.size; simp; omega
        case len => omega
        intro vo w3 ho3 hg3 hat3
        have hb3 : Below w.heap.size w w3 := ((hbr.trans (drewN_below _ _ _)).alloc (by have := hbr.size; simp; omega) _).grown hg3 (by have := hbr.size; simp; omega) fun k' e => (ho.lt _ e).1
        have hv3 : Own lstR 108 1 w.heap.size (fun b => G b ∧ b < w.heap.size) (.slice A1 l.length c1) cur w3 :=
          ((hv.drewN n).alloc _).keep (Keep.grown hg3 fun b hb e => absurd (ho.lt b e.symm).1 (by omega)) fun k hk => hg3.block k (by have := (hv.lt k hk).2; simp; omega) fun e => hne k hk e.symm
        have hne3 : ∀ k, (Value.slice A1 l.length c1).ownBlock = some k → vo.ownBlock ≠ some k := fun k hk e => by
          rcases hat3 with h | h
          · exact hne k hk (h.symm.trans e)
          · rw [h] at e; have := (hv.lt k hk).2; simp at e; omega
        clear hg3 hat3 ho hv hne S2 HA HD hbr ha hc
        go_wp2
        go_loopw [26] (fun i wx => ∃ k : Nat, k ≤ l.length ∧ i = .int .i64 k ∧ Own lstR 108 1 w.heap.size (fun b => G b ∧ b < w.heap.size) (.slice A1 l.length c1) ((rm s cur).take k ++ cur.drop k) wx ∧
          Own strR 9 1 w.heap.size (fun _ => False) vo (done ++ [s]) wx ∧ Below w.heap.size w wx) (fun i _ => l.length - (intOf i).toNat)
        case atStart => exact ⟨0, Nat.zero_le _, rfl, by simpa using hv3, ho3, hb3⟩
        case round =>
          clear hv3 ho3 hb3
          obtain ⟨k, hk, rfl, hv, ho, hb⟩ := hrel
          by_cases hlt : k < l.length
          · have HX := Lib.hid (getElem?_lt (l := cur) (k := k) (by have := HCL.out; omega))
            have hxb := hcb _ (List.getElem_mem (l := cur) (n := k) (by have := HCL.out; omega))
            generalize cur[k]'(by have := HCL.out; omega) = x at *
            have HMG := Lib.hid (mid_get (s := s) HX.out)
            have HRT := Lib.hid (rm_take (s := s) HX.out)
            obtain ⟨g, cc, hve, hg1, hg2, _⟩ := hv.addr (by rw [mid_length (by have := HCL.out; omega)]; have := HCL.out; omega)
            simp only [Value.slice.injEq] at hve
            obtain ⟨rfl, hve2, rfl⟩ := hve
            clear hve2
            obtain ⟨A2, c2, r2, R2, g3, g4⟩ := OwnLst.at hv HMG.out
            have hstep : ∀ W x', Own lstR 108 1 w.heap.size (fun b => G b ∧ b < w.heap.size) (.slice (some ⟨g, 0, none⟩) l.length c1) (((rm s cur).take k ++ cur.drop k).set k x') W → rm1 s x = x' →
              Own lstR 108 1 w.heap.size (fun b => G b ∧ b < w.heap.size) (.slice (some ⟨g, 0, none⟩) l.length c1) ((rm s cur).take (k + 1) ++ cur.drop (k + 1)) W := fun W x' hh e => by rw [HRT.out, e]; exact hh
            have hsame : Own lstR 108 1 w.heap.size (fun b => G b ∧ b < w.heap.size) (.slice (some ⟨g, 0, none⟩) l.length c1) (((rm s cur).take k ++ cur.drop k).set k x) wr := by
              rw [set_same HMG.out]; exact hv
            have HV := Lib.hid hv
            clear hv
            cases x with
            | nil =>
              have t2 : decide ((0 : Int) < 0) = false := rfl
              go_wp2
              go_roundw
              case rel => exact ⟨k + 1, by omega, by go_num, hstep _ _ hsame rfl, ho, hb⟩
              case measure => simp [intOf]; omega
            | cons x0 x1 =>
              obtain ⟨b2, o2, rfl⟩ := Slc.addrH R2 (by simp)
              have g5 := Strs.at (k := 0) R2.now rfl
              rw [Nat.add_zero] at g5
              have R3 := Strs.tail R2
              have hlt2 := cell_lt g5
              simp only [List.length_cons] at *
              have t2 : decide ((0 : Int) < (x1.length : Int) + 1) = true := by simp
              by_cases hs : x0 = s
              · have hrm : rm1 s (x0 :: x1) = x1 := by simp [rm1, hs]
                subst hs
                have HRM := Lib.hid hrm
                clear hrm R2 hsame
                rcases Nat.lt_or_ge 1 c2 with hc2 | hc2
                · have hc3 : ¬ c2 = 1 := by omega
                  have hc4 : (1 : Int) ≤ (x1.length : Int) + 1 := by omega
                  have hst := Lib.hid (OwnLst.store HV.out HMG.out (x' := x1) (u := .slice (some ⟨b2, o2 + 1, none⟩) x1.length (c2 - 1)) (fun b hb e => by omega) (lstR.mk (by omega) R3))
                  go_wp2
                  go_roundw
                  case rel => exact ⟨k + 1, by omega, by go_num, hstep _ _ hst.out HRM.out, ho.setCell (fun _ h => h.elim) (fun e => hne3 g rfl e) _, hb.setCell hg1 _⟩
                  case measure => simp [intOf]; omega
                · obtain rfl : x1 = [] := List.length_eq_zero_iff.1 (by omega)
                  obtain rfl : c2 = 1 := by simp at r2; omega
                  have hst := Lib.hid (OwnLst.store HV.out HMG.out (x' := []) (u := .slice (some ⟨b2, o2, none⟩) 0 0) (fun b hb e => by omega) (fun _ _ => ⟨_, _, rfl, Nat.le_refl _, Slc.nil _ _ _ _⟩))
                  simp only [List.length_nil, Nat.zero_add] at *
                  go_wp2
                  go_roundw
                  case rel => exact ⟨k + 1, by omega, by go_num, hstep _ _ hst.out HRM.out, ho.setCell (fun _ h => h.elim) (fun e => hne3 g rfl e) _, hb.setCell hg1 _⟩
                  case measure => simp [intOf]; omega
              · have HRM := Lib.hid (show rm1 s (x0 :: x1) = x0 :: x1 by simp [rm1, hs])
                go_wp2
                go_roundw
                case rel => exact ⟨k + 1, by omega, by go_num, hstep _ _ hsame HRM.out, ho, hb⟩
                case measure => simp [intOf]; omega
          · obtain rfl : k = l.length := by omega
            have e1 : (rm s cur).take l.length ++ cur.drop l.length = rm s cur := by
              rw [HCL.out, List.drop_length, List.append_nil, List.take_of_length_le (by rw [rm_length]; exact Nat.le_refl _)]
            have HE := Lib.hid e1
            rw [e1] at hv
            clear e1
            have hlt' : total (rm s cur) < gk ∧ total (rm s cur) + (done ++ [s]).length ≤ total l := HLT.out
            go_wp2
            go_roundg (total (rm s cur))
            case measure => exact hlt'.1
            case rel => exact ⟨rm s cur, done ++ [s], rfl, hv, ho, hne3, by rw [HM.out, HR.out]; cases merge (rm s cur) <;> simp, hlt'.2, rm_bound hcb, hb⟩
end Go.Proofs.YtepnmejahbiacaaGreat
set_option linter.unusedVariables false
set_option linter.unusedSimpArgs false
namespace Go.Proofs.YtepnmejahbiacaaGreat
open Go.RowKit
theorem alloc_cell' {W : World} {o : Obj} {a : Addr} {v : Value} (h : W.cell? a = some v) : (W.alloc o).cell? a = some v := cell_all h ((Below.refl _ _).alloc (Nat.le_refl _) _)
theorem alloc_frozen' {W : World} {o : Obj} {a : Addr} {v : Value} (h : W.cell? a = some v) (hf : W.frozen? a = false) : (W.alloc o).frozen? a = false := (World.frozen?_of_block (Below.heap_alloc _ _ _ (cell_lt h))).trans hf
theorem Own.many {α : Type} {R : α → List Value → World → Prop} {T sz base : Nat} {G : Nat → Prop} {w : World} {n : Nat} (hn : n = w.heap.size) (hb : base ≤ n) {l : List α} {xs : List Value} (hs : 0 < sz) (hll : l.length ≤ 1000000) (hx : Enc (fun x cs => Held G (R x cs) w) sz l xs) :
    Own R T sz base G (.slice (some ⟨n, 0, none⟩) l.length l.length) l (w.alloc (.cells xs.toArray T)) := by
  subst hn
  refine ⟨xs, ⟨by simp [hx.length], .inr ⟨_, l.length, xs.toArray, rfl, hb, heap_alloc_new w _, Nat.le_refl _, by simp [maxLen]; omega, by simp [hx.length], by simp [← hx.length]⟩⟩, hx.imp fun x cs h => h.keep (Keep.alloc _ _ _)⟩
theorem Strs.lit (G : Nat → Prop) (w : World) (l : List ByteArray) (T : Nat) (hg : G w.heap.size) : Held G (Strs (some ⟨w.heap.size, 0, none⟩) l) (w.alloc (.cells (l.map Value.string).toArray T)) := by
  refine Slc.held (fun i x hx => ⟨_, 0, [.string x], rfl, rfl, fun _ _ => rfl, fun j v hv => ?_⟩) (fun b off _ e => by cases e; exact hg)
  cases j with
  | zero =>
    simp at hv
    subst hv
    exact cell_new w _ _ _ rfl _ _ (by simp [hx])
  | succ j => simp at hv
theorem ownPure {T base : Nat} {G G' : Nat → Prop} {v : Value} {l : List ByteArray} {w : World} (h : Own strR T 1 base G v l w) : Own strR T 1 base G' v l w := by
  obtain ⟨xs, h1, h2⟩ := h
  exact ⟨xs, h1, h2.imp fun _ _ hx => fun _ _ => hx.now⟩
/-- What base hands back. -/
def baseCI (name : ByteArray) (above : List ByteArray) : CI := ⟨name, ⟨#[]⟩, above.take 1, name :: above, false, false⟩
set_option maxHeartbeats 4000000 in
set_option maxRecDepth 100000 in
theorem base_calls (name : ByteArray) (A : Option Addr) (c : Nat) (above : List ByteArray) (hc : above.length ≤ c) (G : Nat → Prop) (w : World) (h : Held G (Strs A above) w) (hl : above.length ≤ 1000000) :
    Calls Tryz.prog 120 #[.string name, .slice A above.length c] w fun e w' =>
      ∃ A2 c2 A3 c3, e = .returned (.agg #[.string name, .string ⟨#[]⟩, .slice A2 (baseCI name above).supers.length c2, .slice A3 (baseCI name above).cpl.length c3, .bool false, .bool false]) ∧
        Held (fun b => G b ∨ (w.heap.size ≤ b ∧ b < w'.heap.size)) (ciR (baseCI name above) [.string name, .string ⟨#[]⟩, .slice A2 (baseCI name above).supers.length c2, .slice A3 (baseCI name above).cpl.length c3, .bool false, .bool false]) w' ∧ Below w.heap.size w w' := by
  go_enter Tryz.func120, Tryz.ntmps120
  obtain ⟨W1, hW1⟩ : ∃ W1, W1 = w.alloc (.cells #[.string ⟨#[]⟩, .string ⟨#[]⟩, .slice none 0 0, .slice none 0 0, .bool false, .bool false] 110) := ⟨_, rfl⟩
  have hs1 : W1.heap.size = w.heap.size + 1 := by rw [hW1]; simp
  have b1 : Below w.heap.size w W1 := by rw [hW1]; exact (Below.refl _ w).alloc (Nat.le_refl _) _
  have x0 : ∀ j u, [Value.string ⟨#[]⟩, .string ⟨#[]⟩, .slice none 0 0, .slice none 0 0, .bool false, .bool false][j]? = some u → W1.cell? ⟨w.heap.size, j, none⟩ = some u ∧ W1.frozen? ⟨w.heap.size, j, none⟩ = false := fun j u hj => by
    rw [hW1]; exact ⟨cell_new w _ _ _ rfl j u hj, by unfold World.frozen?; rw [heap_alloc_new]; simp⟩
  have hA1 := h.keep (Keep.all (G := G) b1)
  go_wp2_with (at_builtin; refine Classical.byContradiction fun hneg => ?_)
  apply hneg
  clear hneg
  rw [← hW1]
  refine wp_append_all strR strR_one 9 1 (w.heap.size + 1) 16 (fun b => G b ∧ b < W1.heap.size) _ rfl _ _ 108 _ rfl Tryz.underlying108 info9 rfl (by decide) (by decide) (.slice (some ⟨w.heap.size + 1, 0, none⟩) 1 1) [name] above rfl (Own.single hs1.symm (Nat.le_refl _) rfl (by decide) (fun _ _ => rfl)) A c above.length rfl rfl ?src ?hG ?base ?len ?_
  case src => exact hA1.lt.keep (Keep.alloc _ _ _)
  case hG => rintro b ⟨_, hb⟩ e; simp [Value.ownBlock] at e; omega
  case base => simp; omega
  case len => simp; omega
  intro v' w3 hown hg hat
  obtain ⟨A3, c3, rfl, n1, n2⟩ := hown.out
  have hb3 : Below W1.heap.size W1 w3 := ((Below.refl _ _).alloc (Nat.le_refl _) _).grown hg (by simp) (fun k e => by simp [Value.ownBlock] at e; omega)
  have y0 : ∀ j u, [Value.string ⟨#[]⟩, .string ⟨#[]⟩, .slice none 0 0, .slice none 0 0, .bool false, .bool false][j]? = some u → w3.cell? ⟨w.heap.size, j, none⟩ = some u ∧ w3.frozen? ⟨w.heap.size, j, none⟩ = false := fun j u hj => ⟨(World.cell?_of_block (a := ⟨w.heap.size, j, none⟩) (hb3.block w.heap.size (by omega))).trans (x0 j u hj).1, (World.frozen?_of_block (a := ⟨w.heap.size, j, none⟩) (hb3.block w.heap.size (by omega))).trans (x0 j u hj).2⟩
  have y00 := fun cs T => alloc_cell' (o := .cells cs T) (y0 0 _ rfl).1
  have y01 := fun cs T => alloc_cell' (o := .cells cs T) (y0 1 _ rfl).1
  have y02 := fun cs T => alloc_cell' (o := .cells cs T) (y0 2 _ rfl).1
  have y03 := fun cs T => alloc_cell' (o := .cells cs T) (y0 3 _ rfl).1
  have y04 := fun cs T => alloc_cell' (o := .cells cs T) (y0 4 _ rfl).1
  have y05 := fun cs T => alloc_cell' (o := .cells cs T) (y0 5 _ rfl).1
  have f00 := fun cs T => alloc_frozen' (o := .cells cs T) (y0 0 _ rfl).1 (y0 0 _ rfl).2
  have f01 := fun cs T => alloc_frozen' (o := .cells cs T) (y0 1 _ rfl).1 (y0 1 _ rfl).2
  have f02 := fun cs T => alloc_frozen' (o := .cells cs T) (y0 2 _ rfl).1 (y0 2 _ rfl).2
  have f03 := fun cs T => alloc_frozen' (o := .cells cs T) (y0 3 _ rfl).1 (y0 3 _ rfl).2
  have f04 := fun cs T => alloc_frozen' (o := .cells cs T) (y0 4 _ rfl).1 (y0 4 _ rfl).2
  have f05 := fun cs T => alloc_frozen' (o := .cells cs T) (y0 5 _ rfl).1 (y0 5 _ rfl).2
  have s3 := hb3.size
  clear hA1 hW1 x0 y0
  by_cases hab : 0 < above.length
  · obtain ⟨b, off, rfl⟩ := Slc.addrH h hab
    go_wp2
    refine bodyPost_ret (v := .agg #[.string name, .string ⟨#[]⟩, .slice (some ⟨b, off, none⟩) 1 1, .slice A3 (above.length + 1) c3, .bool false, .bool false]) (by simp [results, Tryz.results120, go_sem, y00, y01, y02, y03, y04, y05]) rfl ?_
    have hW : ∀ (cs : Array Value) (u0 u1 u2 u3 u4 u5 : Value), ∃ Wf, Wf = (((((((w3.alloc (.cells cs 110)).setCell ⟨w.heap.size, 0, none⟩ u0).setCell ⟨w.heap.size, 1, none⟩ u1).setCell ⟨w.heap.size, 2, none⟩ u2).setCell ⟨w.heap.size, 3, none⟩ u3).setCell ⟨w.heap.size, 4, none⟩ u4).setCell ⟨w.heap.size, 5, none⟩ u5) ∧
        Below w.heap.size w Wf ∧ Keep (fun b => b ≠ w.heap.size) w3 Wf ∧ w3.heap.size ≤ Wf.heap.size := fun cs u0 u1 u2 u3 u4 u5 => by
      have k : ∀ (W : World) (j : Nat) (u : Value), Keep (fun b => b ≠ w.heap.size) W (W.setCell ⟨w.heap.size, j, none⟩ u) := fun W j u => Keep.setCell W (p := ⟨w.heap.size, j, none⟩) (fun b hb => hb) u
      have kk := ((((((Keep.alloc (fun b => b ≠ w.heap.size) w3 (.cells cs 110)).trans (k _ 0 u0)).trans (k _ 1 u1)).trans (k _ 2 u2)).trans (k _ 3 u3)).trans (k _ 4 u4)).trans (k _ 5 u5)
      exact ⟨_, rfl, (((((((b1.trans (hb3.mono (by omega))).alloc (by omega) _).setCell (Nat.le_refl _) _).setCell (Nat.le_refl _) _).setCell (Nat.le_refl _) _).setCell (Nat.le_refl _) _).setCell (Nat.le_refl _) _).setCell (Nat.le_refl _) _, kk, kk.1⟩
    obtain ⟨Wf, hWf, q1, q2, q3⟩ := hW _ _ _ _ _ _ _
    rw [← hWf]
    refine ⟨some ⟨b, off, none⟩, 1, A3, c3, by simp [baseCI]; omega, (ciR.mk (x := baseCI name above) ?_ (by first | exact n1 | (simp [baseCI]; simpa using n1)) ?_ ?_), q1⟩
    · simp [baseCI]; omega
    · exact ((h.keep (Keep.all q1)).imp fun _ _ q => Slc.take q 1).mono fun b _ hb => .inl hb
    · obtain ⟨A3', c3', e, _, hh⟩ := (ownPure (G' := fun _ => False) hown).out
      cases e
      refine (hh.keep (q2.mono fun b hb => ?_)).mono fun b _ hb => ?_
      · rcases hb with hb | hb
        · exact hb.elim
        · have := (hown.lt b hb).1; omega
      · rcases hb with hb | hb
        · exact hb.elim
        · have := hown.lt b hb; exact .inr ⟨by omega, by omega⟩
  · go_wp2
    refine bodyPost_ret (v := .agg #[.string name, .string ⟨#[]⟩, .slice none 0 0, .slice A3 (above.length + 1) c3, .bool false, .bool false]) (by simp [results, Tryz.results120, go_sem, y00, y01, y02, y03, y04, y05]) rfl ?_
    have hW : ∀ (cs : Array Value) (u0 u1 u2 u3 u4 u5 : Value), ∃ Wf, Wf = (((((((w3.alloc (.cells cs 110)).setCell ⟨w.heap.size, 0, none⟩ u0).setCell ⟨w.heap.size, 1, none⟩ u1).setCell ⟨w.heap.size, 2, none⟩ u2).setCell ⟨w.heap.size, 3, none⟩ u3).setCell ⟨w.heap.size, 4, none⟩ u4).setCell ⟨w.heap.size, 5, none⟩ u5) ∧
        Below w.heap.size w Wf ∧ Keep (fun b => b ≠ w.heap.size) w3 Wf ∧ w3.heap.size ≤ Wf.heap.size := fun cs u0 u1 u2 u3 u4 u5 => by
      have k : ∀ (W : World) (j : Nat) (u : Value), Keep (fun b => b ≠ w.heap.size) W (W.setCell ⟨w.heap.size, j, none⟩ u) := fun W j u => Keep.setCell W (p := ⟨w.heap.size, j, none⟩) (fun b hb => hb) u
      have kk := ((((((Keep.alloc (fun b => b ≠ w.heap.size) w3 (.cells cs 110)).trans (k _ 0 u0)).trans (k _ 1 u1)).trans (k _ 2 u2)).trans (k _ 3 u3)).trans (k _ 4 u4)).trans (k _ 5 u5)
      exact ⟨_, rfl, (((((((b1.trans (hb3.mono (by omega))).alloc (by omega) _).setCell (Nat.le_refl _) _).setCell (Nat.le_refl _) _).setCell (Nat.le_refl _) _).setCell (Nat.le_refl _) _).setCell (Nat.le_refl _) _).setCell (Nat.le_refl _) _, kk, kk.1⟩
    obtain ⟨Wf, hWf, q1, q2, q3⟩ := hW _ _ _ _ _ _ _
    rw [← hWf]
    refine ⟨none, 0, A3, c3, by simp [baseCI]; omega, (ciR.mk (x := baseCI name above) ?_ (by first | exact n1 | (simp [baseCI]; simpa using n1)) ?_ ?_), q1⟩
    · have e : above = [] := List.length_eq_zero_iff.1 (by omega)
      simp [baseCI, e]
    · obtain rfl : above = [] := List.length_eq_zero_iff.1 (by omega)
      exact fun _ _ => Slc.nil _ _ _ _
    · obtain ⟨A3', c3', e, _, hh⟩ := (ownPure (G' := fun _ => False) hown).out
      cases e
      refine (hh.keep (q2.mono fun b hb => ?_)).mono fun b _ hb => ?_
      · rcases hb with hb | hb
        · exact hb.elim
        · have := (hown.lt b hb).1; omega
      · rcases hb with hb | hb
        · exact hb.elim
        · have := hown.lt b hb; exact .inr ⟨by omega, by omega⟩
end Go.Proofs.YtepnmejahbiacaaGreat
