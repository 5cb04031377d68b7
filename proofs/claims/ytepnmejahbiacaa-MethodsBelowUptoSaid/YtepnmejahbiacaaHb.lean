/- Hb + Hc: texts joined. -/
import Derived.Test.YtepnmejahbiacaaAd
/- The hierarchy of the law's examples: it is one. No program in sight. -/
set_option linter.unusedVariables false
set_option linter.unusedSimpArgs false
namespace Go.Proofs.Ytepnmejahbiacaa
open Go.RowKit

def lookB (l : List CI) : Bool := decide (l.length ≤ 120) && decide (11 ≤ l.length) && decide (l.take 11 = baseL) && ((List.range l.length).all fun k => match l[k]? with | some x => classOk l k x | none => true) &&
  decide (c3Check (heirsOf l) = 0) && ((List.range l.length).all fun k => match l[k]? with | some x => decide (line (heirsOf l) k = some x.cpl) | none => true)
theorem lookB_ok {l : List CI} (h : lookB l = true) : LookOk l := by
  unfold lookB at h
  simp only [Bool.and_eq_true, decide_eq_true_eq] at h
  obtain ⟨⟨⟨⟨⟨h1, h2⟩, h3⟩, h4⟩, h5⟩, h6⟩ := h
  refine ⟨h1, h2, h3, fun k x hx => ?_, h5, fun k x hx => ?_⟩
  · have := List.all_eq_true.1 h4 k (List.mem_range.2 (List.getElem?_eq_some_iff.1 hx).1)
    rw [hx] at this; exact this
  · have := List.all_eq_true.1 h6 k (List.mem_range.2 (List.getElem?_eq_some_iff.1 hx).1)
    rw [hx] at this; exact of_decide_eq_true this
def nObj : ByteArray := ⟨#[60, 111, 98, 106, 101, 99, 116, 62]⟩
def nA : ByteArray := ⟨#[60, 97, 62]⟩
def nB : ByteArray := ⟨#[60, 98, 62]⟩
def nC : ByteArray := ⟨#[60, 99, 62]⟩
def nL : ByteArray := ⟨#[108]⟩
def ciA : CI := ⟨nA, nL, [nObj], [], false, false⟩
def ciB : CI := ⟨nB, nL, [nObj], [], false, false⟩
def ciC : CI := ⟨nC, nL, [nA, nB], [], false, false⟩
def h1L : List CI := addL baseL ciA [nA, nObj]
def h2L : List CI := addL h1L ciB [nB, nObj]
def h3L : List CI := addL h2L ciC [nC, nA, nB, nObj]
theorem look0 : LookOk baseL := lookB_ok (by kernel_rfl)
theorem look1 : LookOk h1L := lookB_ok (by kernel_rfl)
theorem look2 : LookOk h2L := lookB_ok (by kernel_rfl)
theorem look3 : LookOk h3L := lookB_ok (by kernel_rfl)
theorem c3_1 : c3Check (heirsOf (baseL ++ [ciA])) = 0 := by kernel_rfl
theorem c3_2 : c3Check (heirsOf (h1L ++ [ciB])) = 0 := by kernel_rfl
theorem c3_3 : c3Check (heirsOf (h2L ++ [ciC])) = 0 := by kernel_rfl
theorem at_1 : lastAt ((heirsOf (baseL ++ [ciA])).map (·.name)) ciA.name = some baseL.length := by kernel_rfl
theorem at_2 : lastAt ((heirsOf (h1L ++ [ciB])).map (·.name)) ciB.name = some h1L.length := by kernel_rfl
theorem at_3 : lastAt ((heirsOf (h2L ++ [ciC])).map (·.name)) ciC.name = some h2L.length := by kernel_rfl
theorem ln_1 : line (heirsOf (baseL ++ [ciA])) baseL.length = some [nA, nObj] := by kernel_rfl
theorem ln_2 : line (heirsOf (h1L ++ [ciB])) h1L.length = some [nB, nObj] := by kernel_rfl
theorem ln_3 : line (heirsOf (h2L ++ [ciC])) h2L.length = some [nC, nA, nB, nObj] := by kernel_rfl
theorem small0 : (baseL.all fun y => decide (y.supers.length ≤ 1000000) && decide (y.cpl.length ≤ 1000000)) = true := by kernel_rfl
theorem small1 : (h1L.all fun y => decide (y.supers.length ≤ 1000000) && decide (y.cpl.length ≤ 1000000)) = true := by kernel_rfl
theorem small2 : (h2L.all fun y => decide (y.supers.length ≤ 1000000) && decide (y.cpl.length ≤ 1000000)) = true := by kernel_rfl
theorem small3 : (h3L.all fun y => decide (y.supers.length ≤ 1000000) && decide (y.cpl.length ≤ 1000000)) = true := by kernel_rfl
theorem small_of {l : List CI} (h : (l.all fun y => decide (y.supers.length ≤ 1000000) && decide (y.cpl.length ≤ 1000000)) = true) : ∀ y ∈ l, y.supers.length ≤ 1000000 ∧ y.cpl.length ≤ 1000000 := fun y hy => by
  have := List.all_eq_true.1 h y hy
  simpa using this
theorem ciOk_of {l : List CI} (h : (l.all fun y => decide (y.supers.length ≤ 1000000) && decide (y.cpl.length ≤ 1000000)) = true) : ∀ y ∈ l, ciOk y := fun y hy => by
  have := small_of h y hy
  exact ⟨by omega, by omega⟩
end Go.Proofs.Ytepnmejahbiacaa

/- skerrylaw10.hierarchy. -/
namespace Go.Proofs.Ytepnmejahbiacaa
open Go.RowKit

theorem strs_held1 {W : World} {s : ByteArray} {n : Nat} (T : TypeId) (hn : n = W.heap.size) : Held (fun _ => True) (Strs (some ⟨n, 0, none⟩) [s]) (W.alloc (.cells #[.string s] T)) :=
  ((Own.read (Own.single (R := strR) (T := T) (base := 0) (G := fun _ => True) (x := s) (cs := [.string s]) hn (Nat.zero_le _) rfl (by simp) (fun _ _ => rfl))).2.2).mono fun _ _ _ => trivial
theorem strs_held2 {W : World} {s t : ByteArray} {n : Nat} (T : TypeId) (hn : n = W.heap.size) : Held (fun _ => True) (Strs (some ⟨n, 0, none⟩) [s, t]) (W.alloc (.cells #[.string s, .string t] T)) := by
  subst hn
  have h2 : Own strR T 1 0 (fun _ => True) (.slice (some ⟨W.heap.size, 0, none⟩) 2 2) [s, t] (W.alloc (.cells #[.string s, .string t] T)) := by
    refine ⟨[.string s, .string t], ⟨by simp, .inr ⟨_, 2, #[.string s, .string t], rfl, Nat.zero_le _, heap_alloc_new W _, Nat.le_refl _, by simp [maxLen], by simp, by simp⟩⟩, ?_⟩
    have h1 := Enc.snoc (Enc.nil (R := fun x ds => Held (fun _ => True) (strR x ds) (W.alloc (.cells #[.string s, .string t] T))) (sz := 1)) (x := s) (cs := [.string s]) (fun _ _ => rfl) rfl
    exact Enc.snoc h1 (x := t) (cs := [.string t]) (fun _ _ => rfl) rfl
  exact ((Own.read h2).2.2).mono fun _ _ _ => trivial

set_option maxHeartbeats 8000000 in
set_option maxRecDepth 100000 in
theorem hierarchy_calls (W : World) : Calls Try.prog 30 #[] W fun e W' => ∃ A c, e = .returned (.slice A h3L.length c) ∧ h3L.length ≤ c ∧ Held (fun b => b < W'.heap.size) (CIs A h3L) W' ∧ Below W.heap.size W W' := by
  have HB := Lib.hid (Base_calls W)
  have l0 : baseL.length = 11 := baseL_len
  have l1 : h1L.length = 12 := by unfold h1L; rw [addL_len, l0]
  have l2 : h2L.length = 13 := by unfold h2L; rw [addL_len, l1]
  have HS1 := Lib.hid (fun A0 c0 A' (U : World) (G : Nat → Prop) (h : Held G (CIs A0 baseL) U) (hc : baseL.length ≤ c0) (h2 : Held (fun _ => True) (Strs A' [nObj]) U) => add_calls A0 c0 baseL ciA A' none 1 0 U G h hc (ciOk_of small0) (by omega) _ (fun _ => True) h2 (fun _ _ => Slc.nil _ _ _ _) (Nat.le_refl _) (Nat.le_refl _) (fun y hy => (small_of small0 y hy).1) (by decide) (fun y hy => (small_of small0 y hy).2) (by decide) look0 [nA, nObj] c3_1 at_1 ln_1 look1)
  have HS2 := Lib.hid (fun A0 c0 A' (U : World) (G : Nat → Prop) (h : Held G (CIs A0 h1L) U) (hc : h1L.length ≤ c0) (h2 : Held (fun _ => True) (Strs A' [nObj]) U) => add_calls A0 c0 h1L ciB A' none 1 0 U G h hc (ciOk_of small1) (by omega) _ (fun _ => True) h2 (fun _ _ => Slc.nil _ _ _ _) (Nat.le_refl _) (Nat.le_refl _) (fun y hy => (small_of small1 y hy).1) (by decide) (fun y hy => (small_of small1 y hy).2) (by decide) look1 [nB, nObj] c3_2 at_2 ln_2 look2)
  have HS3 := Lib.hid (fun A0 c0 A' (U : World) (G : Nat → Prop) (h : Held G (CIs A0 h2L) U) (hc : h2L.length ≤ c0) (h2 : Held (fun _ => True) (Strs A' [nA, nB]) U) => add_calls A0 c0 h2L ciC A' none 2 0 U G h hc (ciOk_of small2) (by omega) _ (fun _ => True) h2 (fun _ _ => Slc.nil _ _ _ _) (Nat.le_refl _) (Nat.le_refl _) (fun y hy => (small_of small2 y hy).1) (by decide) (fun y hy => (small_of small2 y hy).2) (by decide) look2 [nC, nA, nB, nObj] c3_3 at_3 ln_3 look3)
  go_enter Try.func30, Try.ntmps30
  go_wp2_with (fail)
  refine HB.out.mono ?_
  clear HB
  rintro e V ⟨v, rfl, hown, hb⟩
  obtain ⟨A0, c0, rfl, hc0, h0⟩ := hown.out
  clear hown l0 l1 l2
  have b1 : Below V.heap.size V (V.alloc (.cells #[.string nObj] 9)) := (Below.refl _ V).alloc (Nat.le_refl _) _
  go_wp2_with (fail)
  refine (HS1.out A0 c0 (some ⟨V.heap.size, 0, none⟩) (V.alloc (.cells #[.string nObj] 9)) _ (h0.keep (Keep.all b1)) hc0 (strs_held1 _ rfl)).mono ?_
  clear HS1
  rintro e V1 ⟨A1, c1, rfl, hc1, h1, hb1⟩
  have bV1 := (hb.trans (b1.mono hb.size)).trans (hb1.mono (hb.trans (b1.mono hb.size)).size)
  have h1 : Held (fun b => b < V1.heap.size) (CIs A1 h1L) V1 := h1
  clear h0 hb b1 hb1
  have b2 : Below V1.heap.size V1 (V1.alloc (.cells #[.string nObj] 9)) := (Below.refl _ V1).alloc (Nat.le_refl _) _
  go_wp2_with (fail)
  refine (HS2.out A1 c1 (some ⟨V1.heap.size, 0, none⟩) (V1.alloc (.cells #[.string nObj] 9)) _ (h1.keep (Keep.all b2)) hc1 (strs_held1 _ rfl)).mono ?_
  clear HS2
  rintro e V2 ⟨A2, c2, rfl, hc2, h2, hb2⟩
  have bV2 := (bV1.trans (b2.mono bV1.size)).trans (hb2.mono (bV1.trans (b2.mono bV1.size)).size)
  have h2 : Held (fun b => b < V2.heap.size) (CIs A2 h2L) V2 := h2
  clear h1 bV1 b2 hb2
  have b3 : Below V2.heap.size V2 (V2.alloc (.cells #[.string nA, .string nB] 9)) := (Below.refl _ V2).alloc (Nat.le_refl _) _
  go_wp2_with (fail)
  refine (HS3.out A2 c2 (some ⟨V2.heap.size, 0, none⟩) (V2.alloc (.cells #[.string nA, .string nB] 9)) _ (h2.keep (Keep.all b3)) hc2 (strs_held2 _ rfl)).mono ?_
  clear HS3
  rintro e V3 ⟨A3, c3, rfl, hc3, h3, hb3⟩
  have bV3 := (bV2.trans (b3.mono bV2.size)).trans (hb3.mono (bV2.trans (b3.mono bV2.size)).size)
  have H3 := Lib.hid h3
  have HC3 := Lib.hid hc3
  clear h3 hc3
  go_wp2
  go_ret
  exact ⟨A3, c3, rfl, HC3.out, H3.out, bV3⟩
end Go.Proofs.Ytepnmejahbiacaa
