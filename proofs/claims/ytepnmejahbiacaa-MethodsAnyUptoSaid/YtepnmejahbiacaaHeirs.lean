import Derived.Test.YtepnmejahbiacaaWd
import Derived.Test.YtepnmejahbiacaaProg
import Derived.Outline
set_option linter.unusedVariables false
set_option linter.unusedSimpArgs false
namespace Go.Proofs.Ytepnmejahbiacaa
open Go.RowKit

theorem info132 : (Try.prog.info? 132).map (fun i => (i.zero, i.size, i.bytes)) = some (some (.agg #[.string ⟨#[]⟩, .slice none 0 0]), 2, 40) := by kernel_rfl
set_option maxHeartbeats 1000000 in
set_option maxRecDepth 100000 in
theorem heirs_calls (A : Option Addr) (c : Nat) (l : List CI) (w : World) (h : CIs A l w) (hl : l.length ≤ 1000) :
    Calls Try.prog 55 #[.slice A l.length c] w fun e w' => ∃ A' c', e = .returned (.slice A' l.length c') ∧ l.length ≤ c' ∧ Held (fun _ => True) (Heirs A' (heirsOf l)) w' ∧ Below w.heap.size w w' := by
  have H := (Slc.stable ciR_stable h).here
  go_enter Try.func55, Try.ntmps55
  go_wp2
  go_loopw [3, 8] (fun v i wr => ∃ k : Nat, k ≤ l.length ∧ i = .int .i64 k ∧ Own heirR 132 2 w.heap.size (· < w.heap.size) v (heirsOf (l.take k)) wr ∧ Below w.heap.size w wr) (fun _ i _ => l.length - (intOf i).toNat)
  case atStart => exact ⟨0, Nat.zero_le _, rfl, Own.nil _ _ _ _ _ _, Below.refl _ _⟩
  case round =>
    obtain ⟨k, hk, rfl, hown, hb⟩ := hrel
    by_cases hlt : k < l.length
    · have hx := List.getElem?_eq_getElem hlt
      generalize l[k] = x at hx
      have HX := Lib.hid hx
      clear hx
      obtain ⟨b, off, rfl⟩ := h.addr (by omega)
      obtain ⟨A2, c2, A3, c3, s2, s3, S2, S3, h1, h2, h3, h4, h5, h6⟩ := CIs.atH (H.below hb) HX.out
      go_wp2_with (at_builtin; refine wp_append_one heirR 132 2 w.heap.size 40 (· < w.heap.size) _ rfl _ _ 103 _ rfl Try.underlying103 info132 rfl (by decide) (by decide) _ (heirsOf (l.take k)) rfl ?own ⟨_, 0, none⟩ 1 rfl x.heir [.string x.name, .slice A2 x.supers.length c2] rfl ?cells ?one ?held ?hG ?base ?len ?_)
      case own => exact (hown.alloc _).alloc _
      case cells => exact cells_new _ _ _ _ (by simp)
      case one => simp [Value.oneCell']
      case held =>
        have S2 := heirR.mk (x := x.heir) s2 S2
        exact (S2.keep (Keep.alloc _ _ _)).keep (Keep.alloc _ _ _)
      case hG => intro b' hb' e; exact absurd (hown.lt _ e).1 (by omega)
      case base => have := hb.size; simp; omega
      case len => simp [heirsOf]; omega
      intro v' w1 hown1 hg1 _
      go_wp2
      go_roundw
      case rel =>
        refine ⟨k + 1, by omega, by go_num, ?_, ?_⟩
        · have e : heirsOf (l.take (k + 1)) = heirsOf (l.take k) ++ [x.heir] := by rw [List.take_add_one, HX.out]; simp [heirsOf]
          rw [e]; exact hown1
        · exact ((hb.alloc hb.size _).alloc (by have := hb.size; simp; omega) _).grown hg1 (by have := hb.size; simp; omega) fun k' e => (hown.lt _ e).1
      case measure => simp [intOf]; omega
    · go_wp2
      obtain rfl : k = l.length := by omega
      rw [List.take_length] at hown
      obtain ⟨A', c', rfl, hc', S⟩ := hown.out
      go_ret
      refine ⟨A', c', by simp [heirsOf], by simpa [heirsOf] using hc', S.mono fun _ _ _ => trivial, hb⟩
end Go.Proofs.Ytepnmejahbiacaa
