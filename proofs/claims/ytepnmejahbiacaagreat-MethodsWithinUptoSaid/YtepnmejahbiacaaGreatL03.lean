/- Part 3 of the proof: Sf, Sl, Sm. -/
import Derived.Test.YtepnmejahbiacaaGreatL01
import Derived.BigQuiet
import Derived.Deep.Draws
import Derived.Deep.LoopGhost
import Derived.Deep.QuietTactic
import Derived.KernelRfl
import Derived.Lib.Hide
import Derived.Maps.AppendAt
import Derived.WalkKit
import Derived.Test.YtepnmejahbiacaaGreatProg
import Derived.Outline
set_option linter.unusedVariables false
set_option linter.unusedSimpArgs false
namespace Go.Proofs.YtepnmejahbiacaaGreat
open Go.RowKit
/-- What becomes of asking one element. -/
def Asked (J K : Nat → World → Prop) (X : Ending → World → Prop) (i : Nat) (e : Ending) (w : World) : Prop := (e = .returned (.bool false) ∧ J (i + 1) w) ∨ (e = .returned (.bool true) ∧ K i w) ∨ X e w
def Found (J K : Nat → World → Prop) (X : Ending → World → Prop) (n : Nat) (e : Ending) (w : World) : Prop := (e = .returned (.int .i64 (-1)) ∧ J n w) ∨ (∃ i, i < n ∧ e = .returned (.int .i64 i) ∧ K i w) ∨ X e w
def FoundB (J K : Nat → World → Prop) (X : Ending → World → Prop) (n : Nat) (e : Ending) (w : World) : Prop := (e = .returned (.bool false) ∧ J n w) ∨ (∃ i, i < n ∧ e = .returned (.bool true) ∧ K i w) ∨ X e w
/-- It passes a panic up. -/
def Panics (X : List PanicEntry → World → Prop) (e : Ending) (w : World) : Prop := ∃ ch, e = .panicked ch ∧ X ch w
set_option maxHeartbeats 2000000 in
set_option maxRecDepth 100000 in
theorem indexFuncStr (A : Option Addr) (n c : Nat) (fid : Nat) (cap : Array Value) (v0 : Nat → Value) (w : World) (hn : n ≤ 9223372036854775807) (hfn : ∀ args w, (callFunc fid args).run Tryz.prog w = .ok (.enter fid args) w)
    (J K : Nat → World → Prop) (X : List PanicEntry → World → Prop) (h0 : J 0 w) (hA : 0 < n → ∃ b off, A = some ⟨b, off, none⟩) (hcell : ∀ i wr b off, A = some ⟨b, off, none⟩ → i < n → J i wr → wr.cell? ⟨b, off + i, none⟩ = some (v0 i))
    (hask : ∀ i wr, i < n → J i wr → Calls Tryz.prog fid (#[(v0 i)] ++ cap) wr (Asked J K (Panics X) i)) :
    Calls Tryz.prog 190 #[.slice A n c, .func (.func fid) #[] cap] w (Found J K (Panics X) n) := by
  go_enter Tryz.func190, Tryz.ntmps190
  go_wp2
  go_loopw [8] (fun i wr => ∃ k : Nat, k ≤ n ∧ i = .int .i64 k ∧ J k wr) (fun i _ => n - (intOf i).toNat)
  case atStart => exact ⟨0, Nat.zero_le _, rfl, h0⟩
  case round =>
    obtain ⟨k, hk, rfl, hJ⟩ := hrel
    have hfn' := hfn
    by_cases hlt : k < n
    · obtain ⟨b, off, rfl⟩ := hA (by omega)
      have hg := hcell k wr b off rfl hlt hJ
      have ha := hask k wr hlt hJ
      obtain g0 := hg
      have HA := Lib.hid ha
      clear ha hask hcell
      go_wp2_with (fail)
      refine HA.out.mono ?_
      rintro e w' (⟨rfl, hJ'⟩ | ⟨rfl, hK'⟩ | ⟨ch, rfl, hX⟩)
      · go_wp2
        go_roundw
        case rel => exact ⟨k + 1, by omega, by go_num, hJ'⟩
        case measure => simp [intOf]; omega
      · go_wp2
        go_ret
        exact .inr (.inl ⟨k, hlt, rfl, hK'⟩)
      · exact ⟨rfl, .inr (.inr ⟨ch, rfl, hX⟩)⟩
    · obtain rfl : k = n := by omega
      clear hask hcell hfn
      go_wp2
      go_ret
      exact .inl ⟨rfl, hJ⟩
set_option maxHeartbeats 2000000 in
theorem containsFuncStr (A : Option Addr) (n c : Nat) (fid : Nat) (cap : Array Value) (v0 : Nat → Value) (w : World) (hn : n ≤ 9223372036854775807) (hfn : ∀ args w, (callFunc fid args).run Tryz.prog w = .ok (.enter fid args) w)
    (J K : Nat → World → Prop) (X : List PanicEntry → World → Prop) (h0 : J 0 w) (hA : 0 < n → ∃ b off, A = some ⟨b, off, none⟩) (hcell : ∀ i wr b off, A = some ⟨b, off, none⟩ → i < n → J i wr → wr.cell? ⟨b, off + i, none⟩ = some (v0 i))
    (hask : ∀ i wr, i < n → J i wr → Calls Tryz.prog fid (#[(v0 i)] ++ cap) wr (Asked J K (Panics X) i)) :
    Calls Tryz.prog 155 #[.slice A n c, .func (.func fid) #[] cap] w (FoundB J K (Panics X) n) := by
  have HI := Lib.hid (indexFuncStr A n c fid cap v0 w hn hfn J K X h0 hA hcell hask)
  clear hfn h0 hA hcell hask
  go_enter Tryz.func155, Tryz.ntmps155
  go_wp2_with (fail)
  refine HI.out.mono ?_
  rintro e w' (⟨rfl, hJ'⟩ | ⟨i, hi, rfl, hK'⟩ | ⟨ch, rfl, hX⟩)
  · go_wp2
    go_ret
    exact .inl ⟨rfl, hJ'⟩
  · go_wp2
    go_ret
    exact .inr (.inl ⟨i, hi, by first | rfl | (simp; done) | (simp; omega), hK'⟩)
  · exact ⟨rfl, .inr (.inr ⟨ch, rfl, hX⟩)⟩
set_option maxHeartbeats 2000000 in
set_option maxRecDepth 100000 in
theorem indexFuncLst (A : Option Addr) (n c : Nat) (fid : Nat) (cap : Array Value) (v0 : Nat → Value) (w : World) (hn : n ≤ 9223372036854775807) (hfn : ∀ args w, (callFunc fid args).run Tryz.prog w = .ok (.enter fid args) w)
    (J K : Nat → World → Prop) (X : List PanicEntry → World → Prop) (h0 : J 0 w) (hA : 0 < n → ∃ b off, A = some ⟨b, off, none⟩) (hcell : ∀ i wr b off, A = some ⟨b, off, none⟩ → i < n → J i wr → wr.cell? ⟨b, off + i, none⟩ = some (v0 i))
    (hask : ∀ i wr, i < n → J i wr → Calls Tryz.prog fid (#[(v0 i)] ++ cap) wr (Asked J K (Panics X) i)) :
    Calls Tryz.prog 231 #[.slice A n c, .func (.func fid) #[] cap] w (Found J K (Panics X) n) := by
  go_enter Tryz.func231, Tryz.ntmps231
  go_wp2
  go_loopw [8] (fun i wr => ∃ k : Nat, k ≤ n ∧ i = .int .i64 k ∧ J k wr) (fun i _ => n - (intOf i).toNat)
  case atStart => exact ⟨0, Nat.zero_le _, rfl, h0⟩
  case round =>
    obtain ⟨k, hk, rfl, hJ⟩ := hrel
    have hfn' := hfn
    by_cases hlt : k < n
    · obtain ⟨b, off, rfl⟩ := hA (by omega)
      have hg := hcell k wr b off rfl hlt hJ
      have ha := hask k wr hlt hJ
      obtain g0 := hg
      have HA := Lib.hid ha
      clear ha hask hcell
      go_wp2_with (fail)
      refine HA.out.mono ?_
      rintro e w' (⟨rfl, hJ'⟩ | ⟨rfl, hK'⟩ | ⟨ch, rfl, hX⟩)
      · go_wp2
        go_roundw
        case rel => exact ⟨k + 1, by omega, by go_num, hJ'⟩
        case measure => simp [intOf]; omega
      · go_wp2
        go_ret
        exact .inr (.inl ⟨k, hlt, rfl, hK'⟩)
      · exact ⟨rfl, .inr (.inr ⟨ch, rfl, hX⟩)⟩
    · obtain rfl : k = n := by omega
      clear hask hcell hfn
      go_wp2
      go_ret
      exact .inl ⟨rfl, hJ⟩
set_option maxHeartbeats 2000000 in
theorem containsFuncLst (A : Option Addr) (n c : Nat) (fid : Nat) (cap : Array Value) (v0 : Nat → Value) (w : World) (hn : n ≤ 9223372036854775807) (hfn : ∀ args w, (callFunc fid args).run Tryz.prog w = .ok (.enter fid args) w)
    (J K : Nat → World → Prop) (X : List PanicEntry → World → Prop) (h0 : J 0 w) (hA : 0 < n → ∃ b off, A = some ⟨b, off, none⟩) (hcell : ∀ i wr b off, A = some ⟨b, off, none⟩ → i < n → J i wr → wr.cell? ⟨b, off + i, none⟩ = some (v0 i))
    (hask : ∀ i wr, i < n → J i wr → Calls Tryz.prog fid (#[(v0 i)] ++ cap) wr (Asked J K (Panics X) i)) :
    Calls Tryz.prog 214 #[.slice A n c, .func (.func fid) #[] cap] w (FoundB J K (Panics X) n) := by
  have HI := Lib.hid (indexFuncLst A n c fid cap v0 w hn hfn J K X h0 hA hcell hask)
  clear hfn h0 hA hcell hask
  go_enter Tryz.func214, Tryz.ntmps214
  go_wp2_with (fail)
  refine HI.out.mono ?_
  rintro e w' (⟨rfl, hJ'⟩ | ⟨i, hi, rfl, hK'⟩ | ⟨ch, rfl, hX⟩)
  · go_wp2
    go_ret
    exact .inl ⟨rfl, hJ'⟩
  · go_wp2
    go_ret
    exact .inr (.inl ⟨i, hi, by first | rfl | (simp; done) | (simp; omega), hK'⟩)
  · exact ⟨rfl, .inr (.inr ⟨ch, rfl, hX⟩)⟩
set_option maxHeartbeats 2000000 in
set_option maxRecDepth 100000 in
theorem indexFuncCls (A : Option Addr) (n c : Nat) (fid : Nat) (cap : Array Value) (v0 v1 v2 v3 v4 v5 : Nat → Value) (w : World) (hn : n ≤ 9223372036854775807) (hfn : ∀ args w, (callFunc fid args).run Tryz.prog w = .ok (.enter fid args) w)
    (J K : Nat → World → Prop) (X : List PanicEntry → World → Prop) (h0 : J 0 w) (hA : 0 < n → ∃ b off, A = some ⟨b, off, none⟩) (hcell : ∀ i wr b off, A = some ⟨b, off, none⟩ → i < n → J i wr → wr.cell? ⟨b, off + i * 6, none⟩ = some (v0 i) ∧ wr.cell? ⟨b, off + i * 6 + 1, none⟩ = some (v1 i) ∧ wr.cell? ⟨b, off + i * 6 + 2, none⟩ = some (v2 i) ∧ wr.cell? ⟨b, off + i * 6 + 3, none⟩ = some (v3 i) ∧ wr.cell? ⟨b, off + i * 6 + 4, none⟩ = some (v4 i) ∧ wr.cell? ⟨b, off + i * 6 + 5, none⟩ = some (v5 i))
    (hask : ∀ i wr, i < n → J i wr → Calls Tryz.prog fid (#[(.agg #[v0 i, v1 i, v2 i, v3 i, v4 i, v5 i])] ++ cap) wr (Asked J K (Panics X) i)) :
    Calls Tryz.prog 91 #[.slice A n c, .func (.func fid) #[] cap] w (Found J K (Panics X) n) := by
  go_enter Tryz.func91, Tryz.ntmps91
  go_wp2
  go_loopw [8] (fun i wr => ∃ k : Nat, k ≤ n ∧ i = .int .i64 k ∧ J k wr) (fun i _ => n - (intOf i).toNat)
  case atStart => exact ⟨0, Nat.zero_le _, rfl, h0⟩
  case round =>
    obtain ⟨k, hk, rfl, hJ⟩ := hrel
    have hfn' := hfn
    by_cases hlt : k < n
    · obtain ⟨b, off, rfl⟩ := hA (by omega)
      have hg := hcell k wr b off rfl hlt hJ
      have ha := hask k wr hlt hJ
      obtain ⟨g0, g1, g2, g3, g4, g5⟩ := hg
      have HA := Lib.hid ha
      clear ha hask hcell
      go_wp2_with (fail)
      refine HA.out.mono ?_
      rintro e w' (⟨rfl, hJ'⟩ | ⟨rfl, hK'⟩ | ⟨ch, rfl, hX⟩)
      · go_wp2
        go_roundw
        case rel => exact ⟨k + 1, by omega, by go_num, hJ'⟩
        case measure => simp [intOf]; omega
      · go_wp2
        go_ret
        exact .inr (.inl ⟨k, hlt, rfl, hK'⟩)
      · exact ⟨rfl, .inr (.inr ⟨ch, rfl, hX⟩)⟩
    · obtain rfl : k = n := by omega
      clear hask hcell hfn
      go_wp2
      go_ret
      exact .inl ⟨rfl, hJ⟩
set_option maxHeartbeats 2000000 in
set_option maxRecDepth 100000 in
theorem indexFuncTyp (A : Option Addr) (n c : Nat) (fid : Nat) (cap : Array Value) (v0 v1 v2 v3 v4 : Nat → Value) (w : World) (hn : n ≤ 9223372036854775807) (hfn : ∀ args w, (callFunc fid args).run Tryz.prog w = .ok (.enter fid args) w)
    (J K : Nat → World → Prop) (X : List PanicEntry → World → Prop) (h0 : J 0 w) (hA : 0 < n → ∃ b off, A = some ⟨b, off, none⟩) (hcell : ∀ i wr b off, A = some ⟨b, off, none⟩ → i < n → J i wr → wr.cell? ⟨b, off + i * 5, none⟩ = some (v0 i) ∧ wr.cell? ⟨b, off + i * 5 + 1, none⟩ = some (v1 i) ∧ wr.cell? ⟨b, off + i * 5 + 2, none⟩ = some (v2 i) ∧ wr.cell? ⟨b, off + i * 5 + 3, none⟩ = some (v3 i) ∧ wr.cell? ⟨b, off + i * 5 + 4, none⟩ = some (v4 i))
    (hask : ∀ i wr, i < n → J i wr → Calls Tryz.prog fid (#[(.agg #[v0 i, v1 i, v2 i, v3 i, v4 i])] ++ cap) wr (Asked J K (Panics X) i)) :
    Calls Tryz.prog 149 #[.slice A n c, .func (.func fid) #[] cap] w (Found J K (Panics X) n) := by
  go_enter Tryz.func149, Tryz.ntmps149
  go_wp2
  go_loopw [8] (fun i wr => ∃ k : Nat, k ≤ n ∧ i = .int .i64 k ∧ J k wr) (fun i _ => n - (intOf i).toNat)
  case atStart => exact ⟨0, Nat.zero_le _, rfl, h0⟩
  case round =>
    obtain ⟨k, hk, rfl, hJ⟩ := hrel
    have hfn' := hfn
    by_cases hlt : k < n
    · obtain ⟨b, off, rfl⟩ := hA (by omega)
      have hg := hcell k wr b off rfl hlt hJ
      have ha := hask k wr hlt hJ
      obtain ⟨g0, g1, g2, g3, g4⟩ := hg
      have HA := Lib.hid ha
      clear ha hask hcell
      go_wp2_with (fail)
      refine HA.out.mono ?_
      rintro e w' (⟨rfl, hJ'⟩ | ⟨rfl, hK'⟩ | ⟨ch, rfl, hX⟩)
      · go_wp2
        go_roundw
        case rel => exact ⟨k + 1, by omega, by go_num, hJ'⟩
        case measure => simp [intOf]; omega
      · go_wp2
        go_ret
        exact .inr (.inl ⟨k, hlt, rfl, hK'⟩)
      · exact ⟨rfl, .inr (.inr ⟨ch, rfl, hX⟩)⟩
    · obtain rfl : k = n := by omega
      clear hask hcell hfn
      go_wp2
      go_ret
      exact .inl ⟨rfl, hJ⟩
set_option maxHeartbeats 2000000 in
theorem containsFuncTyp (A : Option Addr) (n c : Nat) (fid : Nat) (cap : Array Value) (v0 v1 v2 v3 v4 : Nat → Value) (w : World) (hn : n ≤ 9223372036854775807) (hfn : ∀ args w, (callFunc fid args).run Tryz.prog w = .ok (.enter fid args) w)
    (J K : Nat → World → Prop) (X : List PanicEntry → World → Prop) (h0 : J 0 w) (hA : 0 < n → ∃ b off, A = some ⟨b, off, none⟩) (hcell : ∀ i wr b off, A = some ⟨b, off, none⟩ → i < n → J i wr → wr.cell? ⟨b, off + i * 5, none⟩ = some (v0 i) ∧ wr.cell? ⟨b, off + i * 5 + 1, none⟩ = some (v1 i) ∧ wr.cell? ⟨b, off + i * 5 + 2, none⟩ = some (v2 i) ∧ wr.cell? ⟨b, off + i * 5 + 3, none⟩ = some (v3 i) ∧ wr.cell? ⟨b, off + i * 5 + 4, none⟩ = some (v4 i))
    (hask : ∀ i wr, i < n → J i wr → Calls Tryz.prog fid (#[(.agg #[v0 i, v1 i, v2 i, v3 i, v4 i])] ++ cap) wr (Asked J K (Panics X) i)) :
    Calls Tryz.prog 101 #[.slice A n c, .func (.func fid) #[] cap] w (FoundB J K (Panics X) n) := by
  have HI := Lib.hid (indexFuncTyp A n c fid cap v0 v1 v2 v3 v4 w hn hfn J K X h0 hA hcell hask)
  clear hfn h0 hA hcell hask
  go_enter Tryz.func101, Tryz.ntmps101
  go_wp2_with (fail)
  refine HI.out.mono ?_
  rintro e w' (⟨rfl, hJ'⟩ | ⟨i, hi, rfl, hK'⟩ | ⟨ch, rfl, hX⟩)
  · go_wp2
    go_ret
    exact .inl ⟨rfl, hJ'⟩
  · go_wp2
    go_ret
    exact .inr (.inl ⟨i, hi, by first | rfl | (simp; done) | (simp; omega), hK'⟩)
  · exact ⟨rfl, .inr (.inr ⟨ch, rfl, hX⟩)⟩
end Go.Proofs.YtepnmejahbiacaaGreat
set_option linter.unusedVariables false
set_option linter.unusedSimpArgs false
namespace Go.Proofs.YtepnmejahbiacaaGreat
open Go.RowKit
theorem getElem?_lt {α : Type} {l : List α} {k : Nat} (h : k < l.length) : l[k]? = some l[k] := List.getElem?_eq_getElem h
set_option maxHeartbeats 1000000 in
set_option maxRecDepth 100000 in
theorem slEqual_calls (A B : Option Addr) (c d : Nat) (l m : List ByteArray) (w : World) (hA : Strs A l w) (hB : Strs B m w) (hl : l.length ≤ 9223372036854775807) (hm : m.length ≤ 9223372036854775807) :
    Calls Tryz.prog 111 #[.slice A l.length c, .slice B m.length d] w fun e w' => e = .returned (.bool (decide (l = m))) ∧ Drw w w' := by
  by_cases hlen : l.length = m.length
  · have t1 : ((l.length : Int) == (m.length : Int)) = true := beq_iff_eq.2 (by omega)
    have t2 : ((l.length : Int) != (m.length : Int)) = false := bne_eq_false_iff_eq.2 (by omega)
    have HL := Lib.hid hlen
    clear hlen
    go_enter Tryz.func111, Tryz.ntmps111
    go_wp2
    go_loopw [13] (fun i wr => ∃ k : Nat, k ≤ l.length ∧ i = .int .i64 k ∧ l.take k = m.take k ∧ Drw w wr) (fun i _ => l.length - (intOf i).toNat)
    case atStart => exact ⟨0, Nat.zero_le _, rfl, by simp, Drw.refl _⟩
    case round =>
      obtain ⟨k, hk, rfl, heq, hd⟩ := hrel
      obtain ⟨n, rfl⟩ := hd
      have HE := Lib.hid heq
      clear heq
      by_cases hlt : k < l.length
      · have hm' : k < m.length := by have := HL.out; omega
        obtain ⟨b, off, rfl⟩ := hA.addr (by omega)
        obtain ⟨b', off', rfl⟩ := hB.addr (by omega)
        have h1 := Strs.at hA (getElem?_lt hlt)
        have h2 := Strs.at hB (getElem?_lt hm')
        by_cases hx : l[k] = m[k]
        · have HX := Lib.hid hx
          rw [hx] at h1
          clear hx
          go_wp2
          go_quiet (fail)
          go_wp2
          go_roundw
          case rel =>
            refine ⟨k + 1, by omega, by go_num, ?_, Drw.of _ _⟩
            rw [List.take_add_one, List.take_add_one, HE.out, getElem?_lt hlt, getElem?_lt hm', HX.out]
          case measure => simp [intOf]; omega
        · have hne : l ≠ m := by
            intro e; subst e; exact hx rfl
          have HX := Lib.hid hne
          clear hne
          generalize l[k] = x at *
          generalize m[k] = y at *
          go_wp2
          go_quiet (fail)
          go_wp2
          go_ret
          exact ⟨retB (decide_eq_false HX.out).symm, (Drw.of _ _).drewN _⟩
      · obtain rfl : k = l.length := by omega
        have : l = m := by have h := HE.out; rw [List.take_length] at h; rw [h]; exact List.take_of_length_le (by rw [HL.out]; exact Nat.le_refl _)
        have HM := Lib.hid this
        clear this
        go_wp2
        go_ret
        exact ⟨retB (decide_eq_true HM.out).symm, ⟨n, rfl⟩⟩
  · have t1 : ((l.length : Int) == (m.length : Int)) = false := beq_eq_false_iff_ne.2 (by omega)
    have t2 : ((l.length : Int) != (m.length : Int)) = true := by rw [bne_iff_ne]; omega
    have HL : Hid (l ≠ m) := Lib.hid (fun e => hlen (by rw [e]))
    clear hlen
    go_enter Tryz.func111, Tryz.ntmps111
    go_wp2
    go_ret
    exact ⟨retB (decide_eq_false HL.out).symm, Drw.refl _⟩
/-- The first place of an element, or -1. -/
def idx (l : List ByteArray) (x : ByteArray) : Int := match l.findIdx? (fun y => decide (y = x)) with | some i => i | none => -1
set_option maxHeartbeats 1000000 in
set_option maxRecDepth 100000 in
theorem slIndex_calls (A : Option Addr) (c : Nat) (l : List ByteArray) (x : ByteArray) (w : World) (hA : Strs A l w) (hl : l.length ≤ 9223372036854775807) :
    Calls Tryz.prog 94 #[.slice A l.length c, .string x] w fun e w' => e = .returned (.int .i64 (idx l x)) ∧ w = w' := by
  go_enter Tryz.func94, Tryz.ntmps94
  go_wp2
  go_loop [8] (fun i => ∃ k : Nat, k ≤ l.length ∧ i = .int .i64 k ∧ ∀ j y, j < k → l[j]? = some y → y ≠ x) (fun i => l.length - (intOf i).toNat)
  case atStart => exact ⟨0, Nat.zero_le _, rfl, fun j y h => absurd h (by omega)⟩
  case round =>
    obtain ⟨k, hk, rfl, heq⟩ := hrel
    have HE := Lib.hid heq
    clear heq
    by_cases hlt : k < l.length
    · obtain ⟨b, off, rfl⟩ := hA.addr (by omega)
      have h1 := Strs.at hA (getElem?_lt hlt)
      have HX := Lib.hid (getElem?_lt hlt)
      generalize l[k] = y at *
      by_cases hx : x = y
      · subst hx
        have HI : Hid (idx l x = (k : Int)) := Lib.hid (by
          unfold idx
          have : l.findIdx? (fun y => decide (y = x)) = some k := by
            rw [List.findIdx?_eq_some_iff_getElem]
            refine ⟨hlt, ?_, fun j hj => ?_⟩
            · have := HX.out; rw [getElem?_lt hlt] at this; simpa using this
            · have := HE.out j _ hj (getElem?_lt (by omega)); simpa using this
          rw [this])
        go_wp2
        go_ret
        exact ⟨retI HI.out.symm, rfl⟩
      · go_wp2
        go_round
        case rel =>
          refine ⟨k + 1, by omega, by go_num, fun j z hj hz => ?_⟩
          rcases Nat.lt_or_ge j k with h | h
          · exact HE.out j z h hz
          · obtain rfl : j = k := by omega
            rw [HX.out] at hz
            simp only [Option.some.injEq] at hz
            subst hz
            exact fun e => hx e.symm
        case measure => simp [intOf]; omega
    · have HI : Hid (idx l x = -1) := Lib.hid (by
        unfold idx
        have : l.findIdx? (fun y => decide (y = x)) = none := by
          rw [List.findIdx?_eq_none_iff]
          intro y hy
          obtain ⟨j, hj, rfl⟩ := List.getElem_of_mem hy
          simpa using HE.out j _ (by omega) (getElem?_lt hj)
        rw [this])
      go_wp2
      go_ret
      exact ⟨retI HI.out.symm, rfl⟩
theorem idx_nonneg (l : List ByteArray) (x : ByteArray) : decide (0 ≤ idx l x) = hasS l x := by
  unfold idx
  cases h : l.findIdx? (fun y => decide (y = x)) with
  | none =>
    rw [List.findIdx?_eq_none_iff] at h
    have : x ∉ l := fun hm => by simpa using h x hm
    rw [hasS_false.2 this]; rfl
  | some i =>
    rw [List.findIdx?_eq_some_iff_getElem] at h
    obtain ⟨hi, hx, _⟩ := h
    have : x ∈ l := by simp at hx; rw [← hx]; exact List.getElem_mem hi
    rw [hasS_iff.2 this]; simp
set_option maxHeartbeats 1000000 in
set_option maxRecDepth 100000 in
theorem slContains_calls (A : Option Addr) (c : Nat) (l : List ByteArray) (x : ByteArray) (w : World) (hA : Strs A l w) (hl : l.length ≤ 9223372036854775807) :
    Calls Tryz.prog 175 #[.slice A l.length c, .string x] w fun e w' => e = .returned (.bool (hasS l x)) ∧ w = w' := by
  go_enter Tryz.func175, Tryz.ntmps175
  have HI := Lib.hid (idx_nonneg l x)
  go_wp2_with (go_at_call 94; refine (slIndex_calls A c l x _ hA hl).mono ?_; rintro e w' ⟨rfl, rfl⟩)
  go_ret
  exact ⟨retB HI.out, rfl⟩
theorem slContains_n (A : Option Addr) (n c : Nat) (l : List ByteArray) (x : ByteArray) (w : World) (hA : Strs A l w) (hn : n = l.length) (hl : l.length ≤ 9223372036854775807) :
    Calls Tryz.prog 175 #[.slice A n c, .string x] w fun e w' => e = .returned (.bool (hasS l x)) ∧ w = w' := by
  subst hn; exact slContains_calls A c l x w hA hl
end Go.Proofs.YtepnmejahbiacaaGreat
set_option linter.unusedVariables false
set_option linter.unusedSimpArgs false
namespace Go.Proofs.YtepnmejahbiacaaGreat
open Go.RowKit
theorem info186 : (Tryz.prog.info? 186).map (fun i => (i.zero, i.size, i.bytes)) = some (some (.agg #[.string ⟨#[]⟩, .slice none 0 0]), 2, 40) := by kernel_rfl
set_option maxHeartbeats 1000000 in
set_option maxRecDepth 100000 in
theorem heirs_calls (A : Option Addr) (c : Nat) (l : List CI) (w : World) (h : CIs A l w) (hl : l.length ≤ 1000) :
    Calls Tryz.prog 108 #[.slice A l.length c] w fun e w' => ∃ A' c', e = .returned (.slice A' l.length c') ∧ l.length ≤ c' ∧ Held (fun _ => True) (Heirs A' (heirsOf l)) w' ∧ Below w.heap.size w w' := by
  have H := (Slc.stable ciR_stable h).here
  go_enter Tryz.func108, Tryz.ntmps108
  go_wp2
  go_loopw [3, 8] (fun v i wr => ∃ k : Nat, k ≤ l.length ∧ i = .int .i64 k ∧ Own heirR 186 2 w.heap.size (· < w.heap.size) v (heirsOf (l.take k)) wr ∧ Below w.heap.size w wr) (fun _ i _ => l.length - (intOf i).toNat)
  case atStart => exact ⟨0, Nat.zero_le _, rfl, Own.nil _ _ _ _ _ _, Below.refl _ _⟩
  case round =>
    obtain ⟨k, hk, rfl, hown, hb⟩ := hrel
    by_cases hlt : k < l.length
    · have hx := List.getElem?_eq_getElem hlt
      generalize l[k] = x at hx
      have HX := Lib.hid hx
      clear hx
      obtain ⟨b, off, rfl⟩ := h.addr (by omega)
      obtain ⟨A2, c2, A3, c3, s2, s3, S2, S3, h1, h2, h3, h4, h5, h6⟩ := CIs.atH (H.below hb) HX.out
      go_wp2_with (at_builtin; refine wp_append_one heirR 186 2 w.heap.size 40 (· < w.heap.size) _ rfl _ _ 146 _ rfl Tryz.underlying146 info186 rfl (by decide) (by decide) _ (heirsOf (l.take k)) rfl ?own ⟨_, 0, none⟩ 1 rfl x.heir [.string x.name, .slice A2 x.supers.length c2] rfl ?cells ?one ?held ?hG ?base ?len ?_)
      case own => exact (hown.alloc _).alloc _
      case cells => exact cells_new _ _ _ _ (by simp)
      case one => simp [Value.oneCell']
      case held =>
        have S2 := heirR.mk (x := x.heir) s2 S2
        exact (S2.keep (Keep.alloc _ _ _)).keep (Keep.alloc _ _ _)
      case hG => intro b' hb' e; exact absurd (hown.lt _ e).1 (by omega)
      case base => have := hb.size; simp; omega
      case len => simp [heirsOf]; omega
      intro v' w1 hown1 hg1 _
      go_wp2
      go_roundw
      case rel =>
        refine ⟨k + 1, by omega, by go_num, ?_, ?_⟩
        · have e : heirsOf (l.take (k + 1)) = heirsOf (l.take k) ++ [x.heir] := by rw [List.take_add_one, HX.out]; simp [heirsOf]
          rw [e]; exact hown1
        · exact ((hb.alloc hb.size _).alloc (by have := hb.size; simp; omega) _).grown hg1 (by have := hb.size; simp; omega) fun k' e => (hown.lt _ e).1
      case measure => simp [intOf]; omega
    · go_wp2
      obtain rfl : k = l.length := by omega
      rw [List.take_length] at hown
      obtain ⟨A', c', rfl, hc', S⟩ := hown.out
      go_ret
      refine ⟨A', c', by simp [heirsOf], by simpa [heirsOf] using hc', S.mono fun _ _ _ => trivial, hb⟩
end Go.Proofs.YtepnmejahbiacaaGreat
set_option linter.unusedVariables false
set_option linter.unusedSimpArgs false
namespace Go.Proofs.YtepnmejahbiacaaGreat
open Go.RowKit
set_option maxHeartbeats 2000000 in
set_option maxRecDepth 100000 in
theorem same_calls (x y : CI) (A2 A3 B2 B3 : Option Addr) (c2 c3 d2 d3 : Nat) (w : World) (hA2 : Strs A2 x.supers w) (hA3 : Strs A3 x.cpl w) (hB2 : Strs B2 y.supers w) (hB3 : Strs B3 y.cpl w)
    (l2 : x.supers.length ≤ 9223372036854775807) (l3 : x.cpl.length ≤ 9223372036854775807) (m2 : y.supers.length ≤ 9223372036854775807) (m3 : y.cpl.length ≤ 9223372036854775807) :
    Calls Tryz.prog 105 #[.agg #[.string x.name, .string x.lib, .slice A2 x.supers.length c2, .slice A3 x.cpl.length c3, .bool x.abs, .bool x.seal_], .agg #[.string y.name, .string y.lib, .slice B2 y.supers.length d2, .slice B3 y.cpl.length d3, .bool y.abs, .bool y.seal_]] w
      fun e w' => e = .returned (.bool (decide (x = y))) ∧ Below w.heap.size w w' := by
  have k2 := fun W (h : Below w.heap.size w W) => slEqual_calls A2 B2 c2 d2 x.supers y.supers W (Slc.stable strR_stable hA2 W (Keep.all h)) (Slc.stable strR_stable hB2 W (Keep.all h)) l2 m2
  have k3 := fun W (h : Below w.heap.size w W) => slEqual_calls A3 B3 c3 d3 x.cpl y.cpl W (Slc.stable strR_stable hA3 W (Keep.all h)) (Slc.stable strR_stable hB3 W (Keep.all h)) l3 m3
  clear hA2 hA3 hB2 hB3 l2 l3 m2 m3
  obtain ⟨xn, xl, xs, xc, xa, xe⟩ := x
  obtain ⟨yn, yl, ys, yc, ya, ye⟩ := y
  simp only [CI.mk.injEq] at *
  have hB : ∀ o1 o2 : Obj, Below w.heap.size w ((w.alloc o1).alloc o2) := fun o1 o2 => ((Below.refl _ w).alloc (Nat.le_refl _) _).alloc (by simp) _
  have HK := Lib.hid k2
  have HK3 := Lib.hid k3
  clear k2 k3
  by_cases h1 : xn = yn
  · by_cases h2 : xl = yl
    · by_cases h3 : xs = ys
      · by_cases h4 : xc = yc
        · subst h1 h2 h3 h4
          go_enter Tryz.func105, Tryz.ntmps105
          go_wp2_with (fail)
          refine (HK.out _ ?hb).mono ?_
          case hb => exact hB _ _
          rintro e w' ⟨rfl, n, rfl⟩
          go_wp2_with (fail)
          refine (HK3.out _ ?hb).mono ?_
          case hb => exact (hB _ _).trans (drewN_below _ _ _)
          rintro e w' ⟨rfl, n', rfl⟩
          cases xa <;> cases ya <;> cases xe <;> cases ye <;> (go_wp2; go_ret; exact ⟨retB (by simp), (hB _ _).trans (by first | exact drewN_below _ _ _ | exact (drewN_below _ _ _).trans (drewN_below _ _ _))⟩)
        · subst h1 h2 h3
          go_enter Tryz.func105, Tryz.ntmps105
          go_wp2_with (fail)
          refine (HK.out _ ?hb).mono ?_
          case hb => exact hB _ _
          rintro e w' ⟨rfl, n, rfl⟩
          go_wp2_with (fail)
          refine (HK3.out _ ?hb).mono ?_
          case hb => exact (hB _ _).trans (drewN_below _ _ _)
          rintro e w' ⟨rfl, n', rfl⟩
          go_wp2
          go_ret
          exact ⟨retB (by simp [h4]), (hB _ _).trans (by first | exact drewN_below _ _ _ | exact (drewN_below _ _ _).trans (drewN_below _ _ _))⟩
      · subst h1 h2
        go_enter Tryz.func105, Tryz.ntmps105
        go_wp2_with (fail)
        refine (HK.out _ ?hb).mono ?_
        case hb => exact hB _ _
        rintro e w' ⟨rfl, n, rfl⟩
        go_wp2
        go_ret
        exact ⟨retB (by simp [h3]), (hB _ _).trans (drewN_below _ _ _)⟩
    · subst h1
      go_enter Tryz.func105, Tryz.ntmps105
      go_wp2
      go_ret
      exact ⟨retB (by simp [h2]), hB _ _⟩
  · go_enter Tryz.func105, Tryz.ntmps105
    go_wp2
    go_ret
    exact ⟨retB (by simp [h1]), hB _ _⟩
/-- A list of classes in memory, with all that it names; no list longer than Go's int. -/
def ciOk (x : CI) : Prop := x.supers.length ≤ 9223372036854775807 ∧ x.cpl.length ≤ 9223372036854775807
theorem take_ne {α : Type} {l m : List α} {k : Nat} {x y : α} (hx : l[k]? = some x) (hy : m[k]? = some y) (h : x ≠ y) : l ≠ m := fun e => by subst e; rw [hx] at hy; exact h (Option.some.inj hy)
set_option maxHeartbeats 2000000 in
set_option maxRecDepth 100000 in
theorem equalSame_calls (A B : Option Addr) (c d : Nat) (l m : List CI) (w : World) (hA : CIs A l w) (hB : CIs B m w) (hl : l.length ≤ 9223372036854775807) (hm : m.length ≤ 9223372036854775807) (ol : ∀ x ∈ l, ciOk x) (om : ∀ x ∈ m, ciOk x) :
    Calls Tryz.prog 104 #[.slice A l.length c, .slice B m.length d, .func (.func 105) #[] #[]] w
      fun e w' => e = .returned (.bool (decide (l = m))) ∧ Below w.heap.size w w' := by
  have GA := (Slc.stable ciR_stable hA).here
  have GB := (Slc.stable ciR_stable hB).here
  by_cases hlen : l.length = m.length
  · have t1 : ((l.length : Int) == (m.length : Int)) = true := beq_iff_eq.2 (by omega)
    have t2 : ((l.length : Int) != (m.length : Int)) = false := bne_eq_false_iff_eq.2 (by omega)
    have HL := Lib.hid hlen
    clear hlen
    go_enter Tryz.func104, Tryz.ntmps104
    go_wp2
    go_loopw [17] (fun i wr => ∃ k : Nat, k ≤ l.length ∧ i = .int .i64 k ∧ l.take k = m.take k ∧ Below w.heap.size w wr) (fun i _ => l.length - (intOf i).toNat)
    case atStart => exact ⟨0, Nat.zero_le _, rfl, by simp, Below.refl _ _⟩
    case round =>
      obtain ⟨k, hk, rfl, heq, hb⟩ := hrel
      have HE := Lib.hid heq
      clear heq
      by_cases hlt : k < l.length
      · have hm' : k < m.length := by have := HL.out; omega
        obtain ⟨b, off, rfl⟩ := hA.addr (by omega)
        obtain ⟨b', off', rfl⟩ := hB.addr (by omega)
        have HX := Lib.hid (getElem?_lt hlt)
        have HY := Lib.hid (getElem?_lt hm')
        have ox := ol _ (List.getElem_mem hlt)
        have oy := om _ (List.getElem_mem hm')
        generalize l[k] = x at *
        generalize m[k] = y at *
        have OX := Lib.hid ox
        have OY := Lib.hid oy
        clear ox oy ol om
        obtain ⟨A2, c2, A3, c3, s2, s3, S2, S3, g0, g1, g2, g3, g4, g5⟩ := CIs.atH (GA.below hb) HX.out
        obtain ⟨B2, d2, B3, d3, r2, r3, R2, R3, h0, h1, h2, h3, h4, h5⟩ := CIs.atH (GB.below hb) HY.out
        have hbl := cell_lt g0
        have hbl' := cell_lt h0
        have k1 := fun W (h : Below wr.heap.size wr W) => same_calls x y A2 A3 B2 B3 c2 c3 d2 d3 W (S2.all h).now (S3.all h).now (R2.all h).now (R3.all h).now OX.out.1 OX.out.2 OY.out.1 OY.out.2
        have HK := Lib.hid k1
        clear k1 S2 S3 R2 R3
        go_wp2_with (fail)
        refine (HK.out _ ?hb).mono ?_
        case hb => exact ((Below.refl _ wr).alloc (Nat.le_refl _) _).alloc (by simp) _
        rintro e w' ⟨rfl, hb'⟩
        have hb2 : Below w.heap.size w w' := hb.trans ((((Below.refl _ wr).alloc (Nat.le_refl _) _).alloc (by simp) _).mono hb.size |>.trans (hb'.mono (by have := hb.size; simp; omega)))
        clear hb'
        by_cases hx : x = y
        · have HX' := Lib.hid hx
          clear hx
          have t3 : decide (x = y) = true := decide_eq_true HX'.out
          go_wp2
          go_roundw
          case rel => exact ⟨k + 1, by omega, by go_num, by rw [take_snoc HX.out, take_snoc HY.out, HE.out, HX'.out], hb2⟩
          case measure => simp [intOf]; omega
        · have hne := Lib.hid (take_ne HX.out HY.out hx)
          go_wp2
          go_ret
          exact ⟨retB (decide_eq_false hne.out).symm, hb2⟩
      · obtain rfl : k = l.length := by omega
        have : l = m := by have h := HE.out; rw [List.take_length] at h; rw [h]; exact List.take_of_length_le (by rw [HL.out]; exact Nat.le_refl _)
        have HM := Lib.hid this
        clear this
        go_wp2
        go_ret
        exact ⟨retB (decide_eq_true HM.out).symm, hb⟩
  · have t1 : ((l.length : Int) == (m.length : Int)) = false := beq_eq_false_iff_ne.2 (by omega)
    have t2 : ((l.length : Int) != (m.length : Int)) = true := by rw [bne_iff_ne]; omega
    have HL : Hid (l ≠ m) := Lib.hid (fun e => hlen (by rw [e]))
    clear hlen
    go_enter Tryz.func104, Tryz.ntmps104
    go_wp2
    go_ret
    exact ⟨retB (decide_eq_false HL.out).symm, Below.refl _ _⟩
set_option maxHeartbeats 2000000 in
set_option maxRecDepth 100000 in
theorem cplIs_calls (x : CI) (y : List ByteArray) (A2 A3 B : Option Addr) (c2 c3 d : Nat) (w : World) (hA3 : Strs A3 x.cpl w) (hB : Strs B y w) (l3 : x.cpl.length ≤ 9223372036854775807) (m3 : y.length ≤ 9223372036854775807) :
    Calls Tryz.prog 110 #[.agg #[.string x.name, .string x.lib, .slice A2 x.supers.length c2, .slice A3 x.cpl.length c3, .bool x.abs, .bool x.seal_], .slice B y.length d] w
      fun e w' => e = .returned (.bool (decide (x.cpl = y))) ∧ Below w.heap.size w w' := by
  have k3 := fun W (h : Below w.heap.size w W) => slEqual_calls A3 B c3 d x.cpl y W (Slc.stable strR_stable hA3 W (Keep.all h)) (Slc.stable strR_stable hB W (Keep.all h)) l3 m3
  have HK := Lib.hid k3
  clear k3 hA3 hB
  have hB : ∀ o1 : Obj, Below w.heap.size w (w.alloc o1) := fun o1 => (Below.refl _ w).alloc (Nat.le_refl _) _
  go_enter Tryz.func110, Tryz.ntmps110
  go_wp2_with (fail)
  refine (HK.out _ ?hb).mono ?_
  case hb => exact hB _
  rintro e w' ⟨rfl, n, rfl⟩
  go_wp2
  go_ret
  exact ⟨rfl, (hB _).trans (drewN_below _ _ _)⟩
set_option maxHeartbeats 2000000 in
set_option maxRecDepth 100000 in
theorem equalCpl_calls (A B : Option Addr) (c d : Nat) (l : List CI) (m : List (List ByteArray)) (w : World) (hA : CIs A l w) (hB : Lsts B m w) (hl : l.length ≤ 9223372036854775807) (hm : m.length ≤ 9223372036854775807) (ol : ∀ x ∈ l, ciOk x) (om : ∀ x ∈ m, x.length ≤ 9223372036854775807) :
    Calls Tryz.prog 109 #[.slice A l.length c, .slice B m.length d, .func (.func 110) #[] #[]] w
      fun e w' => e = .returned (.bool (decide (l.map CI.cpl = m))) ∧ Below w.heap.size w w' := by
  have GA := (Slc.stable ciR_stable hA).here
  have GB := (Slc.stable lstR_stable hB).here
  by_cases hlen : l.length = m.length
  · have t1 : ((l.length : Int) == (m.length : Int)) = true := beq_iff_eq.2 (by omega)
    have t2 : ((l.length : Int) != (m.length : Int)) = false := bne_eq_false_iff_eq.2 (by omega)
    have HL := Lib.hid hlen
    clear hlen
    go_enter Tryz.func109, Tryz.ntmps109
    go_wp2
    go_loopw [17] (fun i wr => ∃ k : Nat, k ≤ l.length ∧ i = .int .i64 k ∧ (l.take k).map CI.cpl = m.take k ∧ Below w.heap.size w wr) (fun i _ => l.length - (intOf i).toNat)
    case atStart => exact ⟨0, Nat.zero_le _, rfl, by simp, Below.refl _ _⟩
    case round =>
      obtain ⟨k, hk, rfl, heq, hb⟩ := hrel
      have HE := Lib.hid heq
      clear heq
      by_cases hlt : k < l.length
      · have hm' : k < m.length := by have := HL.out; omega
        obtain ⟨b, off, rfl⟩ := hA.addr (by omega)
        obtain ⟨b', off', rfl⟩ := hB.addr (by omega)
        have HX := Lib.hid (getElem?_lt hlt)
        have HY := Lib.hid (getElem?_lt hm')
        have ox := ol _ (List.getElem_mem hlt)
        have oy := om _ (List.getElem_mem hm')
        generalize l[k] = x at *
        generalize m[k] = y at *
        have OX := Lib.hid ox
        have OY := Lib.hid oy
        clear ox oy ol om
        obtain ⟨A2, c2, A3, c3, s2, s3, S2, S3, g0, g1, g2, g3, g4, g5⟩ := CIs.atH (GA.below hb) HX.out
        obtain ⟨B2, d2, r2, R2, h0⟩ := Lsts.atH (GB.below hb) HY.out
        have hbl := cell_lt g0
        have hbl' := cell_lt h0
        have k1 := fun W (h : Below wr.heap.size wr W) => cplIs_calls x y A2 A3 B2 c2 c3 d2 W (S3.all h).now (R2.all h).now OX.out.2 OY.out
        have HK := Lib.hid k1
        clear k1 S2 S3 R2
        go_wp2_with (fail)
        refine (HK.out _ ?hb).mono ?_
        case hb => exact (Below.refl _ wr).alloc (Nat.le_refl _) _
        rintro e w' ⟨rfl, hb'⟩
        have hb2 : Below w.heap.size w w' := hb.trans (((Below.refl _ wr).alloc (Nat.le_refl _) _).mono hb.size |>.trans (hb'.mono (by have := hb.size; simp; omega)))
        clear hb'
        by_cases hx : x.cpl = y
        · have HX' := Lib.hid hx
          clear hx
          have t3 : decide (x.cpl = y) = true := decide_eq_true HX'.out
          go_wp2
          go_roundw
          case rel => exact ⟨k + 1, by omega, by go_num, by rw [take_snoc HX.out, take_snoc HY.out, List.map_append, HE.out, ← HX'.out]; rfl, hb2⟩
          case measure => simp [intOf]; omega
        · have hne := Lib.hid (take_ne (l := l.map CI.cpl) (by rw [List.getElem?_map, HX.out]; rfl) HY.out hx)
          go_wp2
          go_ret
          exact ⟨retB (decide_eq_false hne.out).symm, hb2⟩
      · obtain rfl : k = l.length := by omega
        have : l.map CI.cpl = m := by have h := HE.out; rw [List.take_length] at h; rw [h]; exact List.take_of_length_le (by rw [HL.out]; exact Nat.le_refl _)
        have HM := Lib.hid this
        clear this
        go_wp2
        go_ret
        exact ⟨retB (decide_eq_true HM.out).symm, hb⟩
  · have t1 : ((l.length : Int) == (m.length : Int)) = false := beq_eq_false_iff_ne.2 (by omega)
    have t2 : ((l.length : Int) != (m.length : Int)) = true := by rw [bne_iff_ne]; omega
    have HL : Hid (l.map CI.cpl ≠ m) := Lib.hid (fun e => hlen (by rw [← e]; simp))
    clear hlen
    go_enter Tryz.func109, Tryz.ntmps109
    go_wp2
    go_ret
    exact ⟨retB (decide_eq_false HL.out).symm, Below.refl _ _⟩
end Go.Proofs.YtepnmejahbiacaaGreat
