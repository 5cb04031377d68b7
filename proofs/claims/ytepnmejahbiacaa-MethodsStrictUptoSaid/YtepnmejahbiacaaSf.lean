/- slices.IndexFunc and ContainsFunc, whatever the function value: J i: i elements have been asked and none said yes; K i: the i-th one did; X: it panicked. -/
import Derived.Test.YtepnmejahbiacaaWd
import Derived.Test.YtepnmejahbiacaaProg
import Derived.Outline
set_option linter.unusedVariables false
set_option linter.unusedSimpArgs false
namespace Go.Proofs.Ytepnmejahbiacaa
open Go.RowKit
/-- What becomes of asking one element. -/
def Asked (J K : Nat → World → Prop) (X : Ending → World → Prop) (i : Nat) (e : Ending) (w : World) : Prop := (e = .returned (.bool false) ∧ J (i + 1) w) ∨ (e = .returned (.bool true) ∧ K i w) ∨ X e w
def Found (J K : Nat → World → Prop) (X : Ending → World → Prop) (n : Nat) (e : Ending) (w : World) : Prop := (e = .returned (.int .i64 (-1)) ∧ J n w) ∨ (∃ i, i < n ∧ e = .returned (.int .i64 i) ∧ K i w) ∨ X e w
def FoundB (J K : Nat → World → Prop) (X : Ending → World → Prop) (n : Nat) (e : Ending) (w : World) : Prop := (e = .returned (.bool false) ∧ J n w) ∨ (∃ i, i < n ∧ e = .returned (.bool true) ∧ K i w) ∨ X e w
/-- It passes a panic up. -/
def Panics (X : List PanicEntry → World → Prop) (e : Ending) (w : World) : Prop := ∃ ch, e = .panicked ch ∧ X ch w

set_option maxHeartbeats 2000000 in
set_option maxRecDepth 100000 in
theorem indexFuncStr (A : Option Addr) (n c : Nat) (fid : Nat) (cap : Array Value) (v0 : Nat → Value) (w : World) (hn : n ≤ 9223372036854775807) (hfn : ∀ args w, (callFunc fid args).run Try.prog w = .ok (.enter fid args) w)
    (J K : Nat → World → Prop) (X : List PanicEntry → World → Prop) (h0 : J 0 w) (hA : 0 < n → ∃ b off, A = some ⟨b, off, none⟩) (hcell : ∀ i wr b off, A = some ⟨b, off, none⟩ → i < n → J i wr → wr.cell? ⟨b, off + i, none⟩ = some (v0 i))
    (hask : ∀ i wr, i < n → J i wr → Calls Try.prog fid (#[(v0 i)] ++ cap) wr (Asked J K (Panics X) i)) :
    Calls Try.prog 91 #[.slice A n c, .func (.func fid) #[] cap] w (Found J K (Panics X) n) := by
  go_enter Try.func91, Try.ntmps91
  go_wp2
  go_loopw [8] (fun i wr => ∃ k : Nat, k ≤ n ∧ i = .int .i64 k ∧ J k wr) (fun i _ => n - (intOf i).toNat)
  case atStart => exact ⟨0, Nat.zero_le _, rfl, h0⟩
  case round =>
    obtain ⟨k, hk, rfl, hJ⟩ := hrel
    have hfn' := hfn
    by_cases hlt : k < n
    · obtain ⟨b, off, rfl⟩ := hA (by omega)
      have hg := hcell k wr b off rfl hlt hJ
      have ha := hask k wr hlt hJ
      obtain g0 := hg
      have HA := Lib.hid ha
      clear ha hask hcell
      go_wp2_with (fail)
      refine HA.out.mono ?_
      rintro e w' (⟨rfl, hJ'⟩ | ⟨rfl, hK'⟩ | ⟨ch, rfl, hX⟩)
      · go_wp2
        go_roundw
        case rel => exact ⟨k + 1, by omega, by go_num, hJ'⟩
        case measure => simp [intOf]; omega
      · go_wp2
        go_ret
        exact .inr (.inl ⟨k, hlt, rfl, hK'⟩)
      · exact ⟨rfl, .inr (.inr ⟨ch, rfl, hX⟩)⟩
    · obtain rfl : k = n := by omega
      clear hask hcell hfn
      go_wp2
      go_ret
      exact .inl ⟨rfl, hJ⟩

set_option maxHeartbeats 2000000 in
theorem containsFuncStr (A : Option Addr) (n c : Nat) (fid : Nat) (cap : Array Value) (v0 : Nat → Value) (w : World) (hn : n ≤ 9223372036854775807) (hfn : ∀ args w, (callFunc fid args).run Try.prog w = .ok (.enter fid args) w)
    (J K : Nat → World → Prop) (X : List PanicEntry → World → Prop) (h0 : J 0 w) (hA : 0 < n → ∃ b off, A = some ⟨b, off, none⟩) (hcell : ∀ i wr b off, A = some ⟨b, off, none⟩ → i < n → J i wr → wr.cell? ⟨b, off + i, none⟩ = some (v0 i))
    (hask : ∀ i wr, i < n → J i wr → Calls Try.prog fid (#[(v0 i)] ++ cap) wr (Asked J K (Panics X) i)) :
    Calls Try.prog 78 #[.slice A n c, .func (.func fid) #[] cap] w (FoundB J K (Panics X) n) := by
  have HI := Lib.hid (indexFuncStr A n c fid cap v0 w hn hfn J K X h0 hA hcell hask)
  clear hfn h0 hA hcell hask
  go_enter Try.func78, Try.ntmps78
  go_wp2_with (fail)
  refine HI.out.mono ?_
  rintro e w' (⟨rfl, hJ'⟩ | ⟨i, hi, rfl, hK'⟩ | ⟨ch, rfl, hX⟩)
  · go_wp2
    go_ret
    exact .inl ⟨rfl, hJ'⟩
  · go_wp2
    go_ret
    exact .inr (.inl ⟨i, hi, by first | rfl | (simp; done) | (simp; omega), hK'⟩)
  · exact ⟨rfl, .inr (.inr ⟨ch, rfl, hX⟩)⟩

set_option maxHeartbeats 2000000 in
set_option maxRecDepth 100000 in
theorem indexFuncLst (A : Option Addr) (n c : Nat) (fid : Nat) (cap : Array Value) (v0 : Nat → Value) (w : World) (hn : n ≤ 9223372036854775807) (hfn : ∀ args w, (callFunc fid args).run Try.prog w = .ok (.enter fid args) w)
    (J K : Nat → World → Prop) (X : List PanicEntry → World → Prop) (h0 : J 0 w) (hA : 0 < n → ∃ b off, A = some ⟨b, off, none⟩) (hcell : ∀ i wr b off, A = some ⟨b, off, none⟩ → i < n → J i wr → wr.cell? ⟨b, off + i, none⟩ = some (v0 i))
    (hask : ∀ i wr, i < n → J i wr → Calls Try.prog fid (#[(v0 i)] ++ cap) wr (Asked J K (Panics X) i)) :
    Calls Try.prog 108 #[.slice A n c, .func (.func fid) #[] cap] w (Found J K (Panics X) n) := by
  go_enter Try.func108, Try.ntmps108
  go_wp2
  go_loopw [8] (fun i wr => ∃ k : Nat, k ≤ n ∧ i = .int .i64 k ∧ J k wr) (fun i _ => n - (intOf i).toNat)
  case atStart => exact ⟨0, Nat.zero_le _, rfl, h0⟩
  case round =>
    obtain ⟨k, hk, rfl, hJ⟩ := hrel
    have hfn' := hfn
    by_cases hlt : k < n
    · obtain ⟨b, off, rfl⟩ := hA (by omega)
      have hg := hcell k wr b off rfl hlt hJ
      have ha := hask k wr hlt hJ
      obtain g0 := hg
      have HA := Lib.hid ha
      clear ha hask hcell
      go_wp2_with (fail)
      refine HA.out.mono ?_
      rintro e w' (⟨rfl, hJ'⟩ | ⟨rfl, hK'⟩ | ⟨ch, rfl, hX⟩)
      · go_wp2
        go_roundw
        case rel => exact ⟨k + 1, by omega, by go_num, hJ'⟩
        case measure => simp [intOf]; omega
      · go_wp2
        go_ret
        exact .inr (.inl ⟨k, hlt, rfl, hK'⟩)
      · exact ⟨rfl, .inr (.inr ⟨ch, rfl, hX⟩)⟩
    · obtain rfl : k = n := by omega
      clear hask hcell hfn
      go_wp2
      go_ret
      exact .inl ⟨rfl, hJ⟩

set_option maxHeartbeats 2000000 in
theorem containsFuncLst (A : Option Addr) (n c : Nat) (fid : Nat) (cap : Array Value) (v0 : Nat → Value) (w : World) (hn : n ≤ 9223372036854775807) (hfn : ∀ args w, (callFunc fid args).run Try.prog w = .ok (.enter fid args) w)
    (J K : Nat → World → Prop) (X : List PanicEntry → World → Prop) (h0 : J 0 w) (hA : 0 < n → ∃ b off, A = some ⟨b, off, none⟩) (hcell : ∀ i wr b off, A = some ⟨b, off, none⟩ → i < n → J i wr → wr.cell? ⟨b, off + i, none⟩ = some (v0 i))
    (hask : ∀ i wr, i < n → J i wr → Calls Try.prog fid (#[(v0 i)] ++ cap) wr (Asked J K (Panics X) i)) :
    Calls Try.prog 103 #[.slice A n c, .func (.func fid) #[] cap] w (FoundB J K (Panics X) n) := by
  have HI := Lib.hid (indexFuncLst A n c fid cap v0 w hn hfn J K X h0 hA hcell hask)
  clear hfn h0 hA hcell hask
  go_enter Try.func103, Try.ntmps103
  go_wp2_with (fail)
  refine HI.out.mono ?_
  rintro e w' (⟨rfl, hJ'⟩ | ⟨i, hi, rfl, hK'⟩ | ⟨ch, rfl, hX⟩)
  · go_wp2
    go_ret
    exact .inl ⟨rfl, hJ'⟩
  · go_wp2
    go_ret
    exact .inr (.inl ⟨i, hi, by first | rfl | (simp; done) | (simp; omega), hK'⟩)
  · exact ⟨rfl, .inr (.inr ⟨ch, rfl, hX⟩)⟩

set_option maxHeartbeats 2000000 in
set_option maxRecDepth 100000 in
theorem indexFuncCls (A : Option Addr) (n c : Nat) (fid : Nat) (cap : Array Value) (v0 v1 v2 v3 v4 v5 : Nat → Value) (w : World) (hn : n ≤ 9223372036854775807) (hfn : ∀ args w, (callFunc fid args).run Try.prog w = .ok (.enter fid args) w)
    (J K : Nat → World → Prop) (X : List PanicEntry → World → Prop) (h0 : J 0 w) (hA : 0 < n → ∃ b off, A = some ⟨b, off, none⟩) (hcell : ∀ i wr b off, A = some ⟨b, off, none⟩ → i < n → J i wr → wr.cell? ⟨b, off + i * 6, none⟩ = some (v0 i) ∧ wr.cell? ⟨b, off + i * 6 + 1, none⟩ = some (v1 i) ∧ wr.cell? ⟨b, off + i * 6 + 2, none⟩ = some (v2 i) ∧ wr.cell? ⟨b, off + i * 6 + 3, none⟩ = some (v3 i) ∧ wr.cell? ⟨b, off + i * 6 + 4, none⟩ = some (v4 i) ∧ wr.cell? ⟨b, off + i * 6 + 5, none⟩ = some (v5 i))
    (hask : ∀ i wr, i < n → J i wr → Calls Try.prog fid (#[(.agg #[v0 i, v1 i, v2 i, v3 i, v4 i, v5 i])] ++ cap) wr (Asked J K (Panics X) i)) :
    Calls Try.prog 66 #[.slice A n c, .func (.func fid) #[] cap] w (Found J K (Panics X) n) := by
  go_enter Try.func66, Try.ntmps66
  go_wp2
  go_loopw [8] (fun i wr => ∃ k : Nat, k ≤ n ∧ i = .int .i64 k ∧ J k wr) (fun i _ => n - (intOf i).toNat)
  case atStart => exact ⟨0, Nat.zero_le _, rfl, h0⟩
  case round =>
    obtain ⟨k, hk, rfl, hJ⟩ := hrel
    have hfn' := hfn
    by_cases hlt : k < n
    · obtain ⟨b, off, rfl⟩ := hA (by omega)
      have hg := hcell k wr b off rfl hlt hJ
      have ha := hask k wr hlt hJ
      obtain ⟨g0, g1, g2, g3, g4, g5⟩ := hg
      have HA := Lib.hid ha
      clear ha hask hcell
      go_wp2_with (fail)
      refine HA.out.mono ?_
      rintro e w' (⟨rfl, hJ'⟩ | ⟨rfl, hK'⟩ | ⟨ch, rfl, hX⟩)
      · go_wp2
        go_roundw
        case rel => exact ⟨k + 1, by omega, by go_num, hJ'⟩
        case measure => simp [intOf]; omega
      · go_wp2
        go_ret
        exact .inr (.inl ⟨k, hlt, rfl, hK'⟩)
      · exact ⟨rfl, .inr (.inr ⟨ch, rfl, hX⟩)⟩
    · obtain rfl : k = n := by omega
      clear hask hcell hfn
      go_wp2
      go_ret
      exact .inl ⟨rfl, hJ⟩

set_option maxHeartbeats 2000000 in
set_option maxRecDepth 100000 in
theorem indexFuncTyp (A : Option Addr) (n c : Nat) (fid : Nat) (cap : Array Value) (v0 v1 v2 v3 v4 : Nat → Value) (w : World) (hn : n ≤ 9223372036854775807) (hfn : ∀ args w, (callFunc fid args).run Try.prog w = .ok (.enter fid args) w)
    (J K : Nat → World → Prop) (X : List PanicEntry → World → Prop) (h0 : J 0 w) (hA : 0 < n → ∃ b off, A = some ⟨b, off, none⟩) (hcell : ∀ i wr b off, A = some ⟨b, off, none⟩ → i < n → J i wr → wr.cell? ⟨b, off + i * 5, none⟩ = some (v0 i) ∧ wr.cell? ⟨b, off + i * 5 + 1, none⟩ = some (v1 i) ∧ wr.cell? ⟨b, off + i * 5 + 2, none⟩ = some (v2 i) ∧ wr.cell? ⟨b, off + i * 5 + 3, none⟩ = some (v3 i) ∧ wr.cell? ⟨b, off + i * 5 + 4, none⟩ = some (v4 i))
    (hask : ∀ i wr, i < n → J i wr → Calls Try.prog fid (#[(.agg #[v0 i, v1 i, v2 i, v3 i, v4 i])] ++ cap) wr (Asked J K (Panics X) i)) :
    Calls Try.prog 96 #[.slice A n c, .func (.func fid) #[] cap] w (Found J K (Panics X) n) := by
  go_enter Try.func96, Try.ntmps96
  go_wp2
  go_loopw [8] (fun i wr => ∃ k : Nat, k ≤ n ∧ i = .int .i64 k ∧ J k wr) (fun i _ => n - (intOf i).toNat)
  case atStart => exact ⟨0, Nat.zero_le _, rfl, h0⟩
  case round =>
    obtain ⟨k, hk, rfl, hJ⟩ := hrel
    have hfn' := hfn
    by_cases hlt : k < n
    · obtain ⟨b, off, rfl⟩ := hA (by omega)
      have hg := hcell k wr b off rfl hlt hJ
      have ha := hask k wr hlt hJ
      obtain ⟨g0, g1, g2, g3, g4⟩ := hg
      have HA := Lib.hid ha
      clear ha hask hcell
      go_wp2_with (fail)
      refine HA.out.mono ?_
      rintro e w' (⟨rfl, hJ'⟩ | ⟨rfl, hK'⟩ | ⟨ch, rfl, hX⟩)
      · go_wp2
        go_roundw
        case rel => exact ⟨k + 1, by omega, by go_num, hJ'⟩
        case measure => simp [intOf]; omega
      · go_wp2
        go_ret
        exact .inr (.inl ⟨k, hlt, rfl, hK'⟩)
      · exact ⟨rfl, .inr (.inr ⟨ch, rfl, hX⟩)⟩
    · obtain rfl : k = n := by omega
      clear hask hcell hfn
      go_wp2
      go_ret
      exact .inl ⟨rfl, hJ⟩

set_option maxHeartbeats 2000000 in
theorem containsFuncTyp (A : Option Addr) (n c : Nat) (fid : Nat) (cap : Array Value) (v0 v1 v2 v3 v4 : Nat → Value) (w : World) (hn : n ≤ 9223372036854775807) (hfn : ∀ args w, (callFunc fid args).run Try.prog w = .ok (.enter fid args) w)
    (J K : Nat → World → Prop) (X : List PanicEntry → World → Prop) (h0 : J 0 w) (hA : 0 < n → ∃ b off, A = some ⟨b, off, none⟩) (hcell : ∀ i wr b off, A = some ⟨b, off, none⟩ → i < n → J i wr → wr.cell? ⟨b, off + i * 5, none⟩ = some (v0 i) ∧ wr.cell? ⟨b, off + i * 5 + 1, none⟩ = some (v1 i) ∧ wr.cell? ⟨b, off + i * 5 + 2, none⟩ = some (v2 i) ∧ wr.cell? ⟨b, off + i * 5 + 3, none⟩ = some (v3 i) ∧ wr.cell? ⟨b, off + i * 5 + 4, none⟩ = some (v4 i))
    (hask : ∀ i wr, i < n → J i wr → Calls Try.prog fid (#[(.agg #[v0 i, v1 i, v2 i, v3 i, v4 i])] ++ cap) wr (Asked J K (Panics X) i)) :
    Calls Try.prog 83 #[.slice A n c, .func (.func fid) #[] cap] w (FoundB J K (Panics X) n) := by
  have HI := Lib.hid (indexFuncTyp A n c fid cap v0 v1 v2 v3 v4 w hn hfn J K X h0 hA hcell hask)
  clear hfn h0 hA hcell hask
  go_enter Try.func83, Try.ntmps83
  go_wp2_with (fail)
  refine HI.out.mono ?_
  rintro e w' (⟨rfl, hJ'⟩ | ⟨i, hi, rfl, hK'⟩ | ⟨ch, rfl, hX⟩)
  · go_wp2
    go_ret
    exact .inl ⟨rfl, hJ'⟩
  · go_wp2
    go_ret
    exact .inr (.inl ⟨i, hi, by first | rfl | (simp; done) | (simp; omega), hK'⟩)
  · exact ⟨rfl, .inr (.inr ⟨ch, rfl, hX⟩)⟩
end Go.Proofs.Ytepnmejahbiacaa
