/- Sl + Heirs: texts joined. -/
import Derived.Test.YtepnmejahbiacaaWd
import Derived.Test.YtepnmejahbiacaaProg
import Derived.Outline
/- slices.Equal, Index, Contains, Clone at []string: what they hand back. -/
set_option linter.unusedVariables false
set_option linter.unusedSimpArgs false
namespace Go.Proofs.Ytepnmejahbiacaa
open Go.RowKit

theorem getElem?_lt {α : Type} {l : List α} {k : Nat} (h : k < l.length) : l[k]? = some l[k] := List.getElem?_eq_getElem h

set_option maxHeartbeats 1000000 in
set_option maxRecDepth 100000 in
theorem slEqual_calls (A B : Option Addr) (c d : Nat) (l m : List ByteArray) (w : World) (hA : Strs A l w) (hB : Strs B m w) (hl : l.length ≤ 9223372036854775807) (hm : m.length ≤ 9223372036854775807) :
    Calls Try.prog 58 #[.slice A l.length c, .slice B m.length d] w fun e w' => e = .returned (.bool (decide (l = m))) ∧ Drw w w' := by
  by_cases hlen : l.length = m.length
  · have t1 : ((l.length : Int) == (m.length : Int)) = true := beq_iff_eq.2 (by omega)
    have t2 : ((l.length : Int) != (m.length : Int)) = false := bne_eq_false_iff_eq.2 (by omega)
    have HL := Lib.hid hlen
    clear hlen
    go_enter Try.func58, Try.ntmps58
    go_wp2
    go_loopw [13] (fun i wr => ∃ k : Nat, k ≤ l.length ∧ i = .int .i64 k ∧ l.take k = m.take k ∧ Drw w wr) (fun i _ => l.length - (intOf i).toNat)
    case atStart => exact ⟨0, Nat.zero_le _, rfl, by simp, Drw.refl _⟩
    case round =>
      obtain ⟨k, hk, rfl, heq, hd⟩ := hrel
      obtain ⟨n, rfl⟩ := hd
      have HE := Lib.hid heq
      clear heq
      by_cases hlt : k < l.length
      · have hm' : k < m.length := by have := HL.out; omega
        obtain ⟨b, off, rfl⟩ := hA.addr (by omega)
        obtain ⟨b', off', rfl⟩ := hB.addr (by omega)
        have h1 := Strs.at hA (getElem?_lt hlt)
        have h2 := Strs.at hB (getElem?_lt hm')
        by_cases hx : l[k] = m[k]
        · have HX := Lib.hid hx
          rw [hx] at h1
          clear hx
          go_wp2
          go_quiet (fail)
          go_wp2
          go_roundw
          case rel =>
            refine ⟨k + 1, by omega, by go_num, ?_, Drw.of _ _⟩
            rw [List.take_add_one, List.take_add_one, HE.out, getElem?_lt hlt, getElem?_lt hm', HX.out]
          case measure => simp [intOf]; omega
        · have hne : l ≠ m := by
            intro e; subst e; exact hx rfl
          have HX := Lib.hid hne
          clear hne
          generalize l[k] = x at *
          generalize m[k] = y at *
          go_wp2
          go_quiet (fail)
          go_wp2
          go_ret
          exact ⟨retB (decide_eq_false HX.out).symm, (Drw.of _ _).drewN _⟩
      · obtain rfl : k = l.length := by omega
        have : l = m := by have h := HE.out; rw [List.take_length] at h; rw [h]; exact List.take_of_length_le (by rw [HL.out]; exact Nat.le_refl _)
        have HM := Lib.hid this
        clear this
        go_wp2
        go_ret
        exact ⟨retB (decide_eq_true HM.out).symm, ⟨n, rfl⟩⟩
  · have t1 : ((l.length : Int) == (m.length : Int)) = false := beq_eq_false_iff_ne.2 (by omega)
    have t2 : ((l.length : Int) != (m.length : Int)) = true := by rw [bne_iff_ne]; omega
    have HL : Hid (l ≠ m) := Lib.hid (fun e => hlen (by rw [e]))
    clear hlen
    go_enter Try.func58, Try.ntmps58
    go_wp2
    go_ret
    exact ⟨retB (decide_eq_false HL.out).symm, Drw.refl _⟩

/-- The first place of an element, or -1. -/
def idx (l : List ByteArray) (x : ByteArray) : Int := match l.findIdx? (fun y => decide (y = x)) with | some i => i | none => -1

set_option maxHeartbeats 1000000 in
set_option maxRecDepth 100000 in
theorem slIndex_calls (A : Option Addr) (c : Nat) (l : List ByteArray) (x : ByteArray) (w : World) (hA : Strs A l w) (hl : l.length ≤ 9223372036854775807) :
    Calls Try.prog 69 #[.slice A l.length c, .string x] w fun e w' => e = .returned (.int .i64 (idx l x)) ∧ w = w' := by
  go_enter Try.func69, Try.ntmps69
  go_wp2
  go_loop [8] (fun i => ∃ k : Nat, k ≤ l.length ∧ i = .int .i64 k ∧ ∀ j y, j < k → l[j]? = some y → y ≠ x) (fun i => l.length - (intOf i).toNat)
  case atStart => exact ⟨0, Nat.zero_le _, rfl, fun j y h => absurd h (by omega)⟩
  case round =>
    obtain ⟨k, hk, rfl, heq⟩ := hrel
    have HE := Lib.hid heq
    clear heq
    by_cases hlt : k < l.length
    · obtain ⟨b, off, rfl⟩ := hA.addr (by omega)
      have h1 := Strs.at hA (getElem?_lt hlt)
      have HX := Lib.hid (getElem?_lt hlt)
      generalize l[k] = y at *
      by_cases hx : x = y
      · subst hx
        have HI : Hid (idx l x = (k : Int)) := Lib.hid (by
          unfold idx
          have : l.findIdx? (fun y => decide (y = x)) = some k := by
            rw [List.findIdx?_eq_some_iff_getElem]
            refine ⟨hlt, ?_, fun j hj => ?_⟩
            · have := HX.out; rw [getElem?_lt hlt] at this; simpa using this
            · have := HE.out j _ hj (getElem?_lt (by omega)); simpa using this
          rw [this])
        go_wp2
        go_ret
        exact ⟨retI HI.out.symm, rfl⟩
      · go_wp2
        go_round
        case rel =>
          refine ⟨k + 1, by omega, by go_num, fun j z hj hz => ?_⟩
          rcases Nat.lt_or_ge j k with h | h
          · exact HE.out j z h hz
          · obtain rfl : j = k := by omega
            rw [HX.out] at hz
            simp only [Option.some.injEq] at hz
            subst hz
            exact fun e => hx e.symm
        case measure => simp [intOf]; omega
    · have HI : Hid (idx l x = -1) := Lib.hid (by
        unfold idx
        have : l.findIdx? (fun y => decide (y = x)) = none := by
          rw [List.findIdx?_eq_none_iff]
          intro y hy
          obtain ⟨j, hj, rfl⟩ := List.getElem_of_mem hy
          simpa using HE.out j _ (by omega) (getElem?_lt hj)
        rw [this])
      go_wp2
      go_ret
      exact ⟨retI HI.out.symm, rfl⟩

theorem idx_nonneg (l : List ByteArray) (x : ByteArray) : decide (0 ≤ idx l x) = hasS l x := by
  unfold idx
  cases h : l.findIdx? (fun y => decide (y = x)) with
  | none =>
    rw [List.findIdx?_eq_none_iff] at h
    have : x ∉ l := fun hm => by simpa using h x hm
    rw [hasS_false.2 this]; rfl
  | some i =>
    rw [List.findIdx?_eq_some_iff_getElem] at h
    obtain ⟨hi, hx, _⟩ := h
    have : x ∈ l := by simp at hx; rw [← hx]; exact List.getElem_mem hi
    rw [hasS_iff.2 this]; simp

set_option maxHeartbeats 1000000 in
set_option maxRecDepth 100000 in
theorem slContains_calls (A : Option Addr) (c : Nat) (l : List ByteArray) (x : ByteArray) (w : World) (hA : Strs A l w) (hl : l.length ≤ 9223372036854775807) :
    Calls Try.prog 97 #[.slice A l.length c, .string x] w fun e w' => e = .returned (.bool (hasS l x)) ∧ w = w' := by
  go_enter Try.func97, Try.ntmps97
  have HI := Lib.hid (idx_nonneg l x)
  go_wp2_with (go_at_call 69; refine (slIndex_calls A c l x _ hA hl).mono ?_; rintro e w' ⟨rfl, rfl⟩)
  go_ret
  exact ⟨retB HI.out, rfl⟩
theorem slContains_n (A : Option Addr) (n c : Nat) (l : List ByteArray) (x : ByteArray) (w : World) (hA : Strs A l w) (hn : n = l.length) (hl : l.length ≤ 9223372036854775807) :
    Calls Try.prog 97 #[.slice A n c, .string x] w fun e w' => e = .returned (.bool (hasS l x)) ∧ w = w' := by
  subst hn; exact slContains_calls A c l x w hA hl
end Go.Proofs.Ytepnmejahbiacaa


set_option linter.unusedVariables false
set_option linter.unusedSimpArgs false
namespace Go.Proofs.Ytepnmejahbiacaa
open Go.RowKit

theorem info132 : (Try.prog.info? 132).map (fun i => (i.zero, i.size, i.bytes)) = some (some (.agg #[.string ⟨#[]⟩, .slice none 0 0]), 2, 40) := by kernel_rfl
set_option maxHeartbeats 1000000 in
set_option maxRecDepth 100000 in
theorem heirs_calls (A : Option Addr) (c : Nat) (l : List CI) (w : World) (h : CIs A l w) (hl : l.length ≤ 1000) :
    Calls Try.prog 55 #[.slice A l.length c] w fun e w' => ∃ A' c', e = .returned (.slice A' l.length c') ∧ l.length ≤ c' ∧ Held (fun _ => True) (Heirs A' (heirsOf l)) w' ∧ Below w.heap.size w w' := by
  have H := (Slc.stable ciR_stable h).here
  go_enter Try.func55, Try.ntmps55
  go_wp2
  go_loopw [3, 8] (fun v i wr => ∃ k : Nat, k ≤ l.length ∧ i = .int .i64 k ∧ Own heirR 132 2 w.heap.size (· < w.heap.size) v (heirsOf (l.take k)) wr ∧ Below w.heap.size w wr) (fun _ i _ => l.length - (intOf i).toNat)
  case atStart => exact ⟨0, Nat.zero_le _, rfl, Own.nil _ _ _ _ _ _, Below.refl _ _⟩
  case round =>
    obtain ⟨k, hk, rfl, hown, hb⟩ := hrel
    by_cases hlt : k < l.length
    · have hx := List.getElem?_eq_getElem hlt
      generalize l[k] = x at hx
      have HX := Lib.hid hx
      clear hx
      obtain ⟨b, off, rfl⟩ := h.addr (by omega)
      obtain ⟨A2, c2, A3, c3, s2, s3, S2, S3, h1, h2, h3, h4, h5, h6⟩ := CIs.atH (H.below hb) HX.out
      go_wp2_with (at_builtin; refine wp_append_one heirR 132 2 w.heap.size 40 (· < w.heap.size) _ rfl _ _ 103 _ rfl Try.underlying103 info132 rfl (by decide) (by decide) _ (heirsOf (l.take k)) rfl ?own ⟨_, 0, none⟩ 1 rfl x.heir [.string x.name, .slice A2 x.supers.length c2] rfl ?cells ?one ?held ?hG ?base ?len ?_)
      case own => exact (hown.alloc _).alloc _
      case cells => exact cells_new _ _ _ _ (by simp)
      case one => simp [Value.oneCell']
      case held =>
        have S2 := heirR.mk (x := x.heir) s2 S2
        exact (S2.keep (Keep.alloc _ _ _)).keep (Keep.alloc _ _ _)
      case hG => intro b' hb' e; exact absurd (hown.lt _ e).1 (by omega)
      case base => have := hb.size; simp; omega
      case len => simp [heirsOf]; omega
      intro v' w1 hown1 hg1 _
      go_wp2
      go_roundw
      case rel =>
        refine ⟨k + 1, by omega, by go_num, ?_, ?_⟩
        · have e : heirsOf (l.take (k + 1)) = heirsOf (l.take k) ++ [x.heir] := by rw [List.take_add_one, HX.out]; simp [heirsOf]
          rw [e]; exact hown1
        · exact ((hb.alloc hb.size _).alloc (by have := hb.size; simp; omega) _).grown hg1 (by have := hb.size; simp; omega) fun k' e => (hown.lt _ e).1
      case measure => simp [intOf]; omega
    · go_wp2
      obtain rfl : k = l.length := by omega
      rw [List.take_length] at hown
      obtain ⟨A', c', rfl, hc', S⟩ := hown.out
      go_ret
      refine ⟨A', c', by simp [heirsOf], by simpa [heirsOf] using hc', S.mono fun _ _ _ => trivial, hb⟩
end Go.Proofs.Ytepnmejahbiacaa
