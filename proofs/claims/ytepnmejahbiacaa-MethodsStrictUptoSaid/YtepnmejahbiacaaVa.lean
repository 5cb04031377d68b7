/- hier.valid, types.Valid. -/
import Derived.Test.YtepnmejahbiacaaFm
set_option linter.unusedVariables false
set_option linter.unusedSimpArgs false
namespace Go.Proofs.Ytepnmejahbiacaa
open Go.RowKit

/-- What the program asks of a type's size: the bounds of its numbers. -/
structure TySmall (t : Ty) : Prop where
  all : t.all (fun x => decide (x.args.length ≤ 1000000)) = true
  count : t.count ≤ 1000000000
def validErr (l : List CI) (t : Ty) : Int := if limErr t = 0 then (if formedB l t then 0 else 81) else limErr t
theorem limErr_cases (t : Ty) : limErr t = 0 ∨ limErr t = 2 ∨ limErr t = 6 := by
  unfold limErr
  split
  · exact .inr (.inr rfl)
  · split
    · exact .inr (.inl rfl)
    · exact .inl rfl

set_option maxHeartbeats 4000000 in
set_option maxRecDepth 100000 in
theorem valid_calls (hp M1 : Nat) (AH : Option Addr) (cH : Nat) (l : List CI) (t : Ty) (A : Option Addr) (c : Nat) (W : World) (G : Nat → Prop) (H : HierAt hp M1 AH cH l l.length W) (hA : Held G (Typs A t.args) W)
    (hc : t.args.length ≤ c) (hs : TySmall t) :
    Calls Try.prog 35 #[.pointer (some ⟨hp, 0, none⟩), tyV t A c] W fun e W' => e = .returned (.int .i64 (validErr l t)) ∧ Below W.heap.size W W' := by
  have hmf : ∀ (fn : Fn) (first cap : Array Value) (w : World), (Instr.makeFunc fn first cap).run Try.prog w = .ok (.func fn first cap) w := fun _ _ _ _ => rfl
  obtain ⟨W1, hW1⟩ : ∃ W1, W1 = W.alloc (.cells #[.int .i64 t.kind, .string t.name, .int .i64 t.lo, .int .i64 t.hi, .slice A t.args.length c] 35) := ⟨_, rfl⟩
  have b1 : Below W.heap.size W W1 := by rw [hW1]; exact (Below.refl _ W).alloc (Nat.le_refl _) _
  have x0 : ∀ j u, [Value.int .i64 t.kind, .string t.name, .int .i64 t.lo, .int .i64 t.hi, .slice A t.args.length c][j]? = some u → W1.cell? ⟨W.heap.size, j, none⟩ = some u := fun j u hj => by rw [hW1]; exact cell_new W _ _ _ rfl j u hj
  have HLm := Lib.hid (limits_calls t A c W1 G (hA.keep (Keep.all b1)) hc hs.all hs.count)
  have HF := Lib.hid (fun V (h : Below W.heap.size W V) => formed_calls hp M1 AH cH l t.count t (Nat.le_refl _) A c V G (H.keep h) (hA.keep (Keep.all h)) hc hs.all)
  clear H hA
  go_enter Try.func35, Try.ntmps35
  go_wp2_with (fail)
  rw [← hW1]
  refine HLm.out.mono ?_
  clear HLm
  rintro e W2 ⟨rfl, hb2⟩
  have b2 := b1.trans (hb2.mono b1.size)
  have c0 := cell_all (x0 0 _ rfl) hb2
  have c1 := cell_all (x0 1 _ rfl) hb2
  have c2 := cell_all (x0 2 _ rfl) hb2
  have c3 := cell_all (x0 3 _ rfl) hb2
  have c4 := cell_all (x0 4 _ rfl) hb2
  clear x0
  rcases limErr_cases t with hq | hq | hq
  · have HQ := Lib.hid hq
    rw [hq]
    clear hq
    go_wp2_with (fail)
    refine (HF.out W2 b2).mono ?_
    clear HF
    rintro e W3 ⟨rfl, hb3⟩
    have b3 := b2.trans (hb3.mono b2.size)
    cases hf : formedB l t with
    | false =>
      have HV : Hid (validErr l t = 81) := Lib.hid (by unfold validErr; rw [HQ.out, hf]; rfl)
      clear hf
      go_wp2
      go_ret
      exact ⟨by rw [HV.out]; rfl, b3⟩
    | true =>
      have HV : Hid (validErr l t = 0) := Lib.hid (by unfold validErr; rw [HQ.out, hf]; rfl)
      clear hf
      go_wp2
      go_ret
      exact ⟨by rw [HV.out]; rfl, b3⟩
  · have HV : Hid (validErr l t = 2) := Lib.hid (by unfold validErr; rw [hq]; rfl)
    rw [hq]
    clear hq HF
    go_wp2
    go_ret
    exact ⟨by rw [HV.out]; rfl, b2⟩
  · have HV : Hid (validErr l t = 6) := Lib.hid (by unfold validErr; rw [hq]; rfl)
    rw [hq]
    clear hq HF
    go_wp2
    go_ret
    exact ⟨by rw [HV.out]; rfl, b2⟩

set_option maxHeartbeats 4000000 in
set_option maxRecDepth 100000 in
theorem Valid_calls (AH : Option Addr) (cH : Nat) (l : List CI) (t : Ty) (A : Option Addr) (c : Nat) (W : World) (hcH : l.length ≤ cH) (GH : Nat → Prop) (h : Held GH (CIs AH l) W) (ol : ∀ x ∈ l, ciOk x) (hl : l.length ≤ 1000000) (G : Nat → Prop) (hA : Held G (Typs A t.args) W)
    (hc : t.args.length ≤ c) (hs : TySmall t) :
    Calls Try.prog 13 #[.slice AH l.length cH, tyV t A c] W fun e W' => Below W.heap.size W W' ∧ ((¬ LookOk l ∧ e = .returned (.int .i64 80)) ∨ (LookOk l ∧ e = .returned (.int .i64 (validErr l t)))) := by
  obtain ⟨W1, hW1⟩ : ∃ W1, W1 = W.alloc (.cells #[.int .i64 t.kind, .string t.name, .int .i64 t.lo, .int .i64 t.hi, .slice A t.args.length c] 35) := ⟨_, rfl⟩
  have b1 : Below W.heap.size W W1 := by rw [hW1]; exact (Below.refl _ W).alloc (Nat.le_refl _) _
  have x0 : ∀ j u, [Value.int .i64 t.kind, .string t.name, .int .i64 t.lo, .int .i64 t.hi, .slice A t.args.length c][j]? = some u → W1.cell? ⟨W.heap.size, j, none⟩ = some u := fun j u hj => by rw [hW1]; exact cell_new W _ _ _ rfl j u hj
  have HL := Lib.hid (look_calls AH cH l W1 hcH GH (h.keep (Keep.all b1)) ol hl)
  go_enter Try.func13, Try.ntmps13
  go_wp2_with (fail)
  rw [← hW1]
  refine HL.out.mono ?_
  clear HL
  rintro e W2 ⟨hb2, (⟨h1, rfl⟩ | ⟨h1, hp, M1, _, _, rfl, H⟩)⟩
  · have b2 := b1.trans (hb2.mono b1.size)
    have H1 := Lib.hid h1
    clear h1
    go_wp2
    go_ret
    exact ⟨b2, .inl ⟨H1.out, rfl⟩⟩
  · have b2 := b1.trans (hb2.mono b1.size)
    have c0 := cell_all (x0 0 _ rfl) hb2
    have c1 := cell_all (x0 1 _ rfl) hb2
    have c2 := cell_all (x0 2 _ rfl) hb2
    have c3 := cell_all (x0 3 _ rfl) hb2
    have c4 := cell_all (x0 4 _ rfl) hb2
    have HV := Lib.hid (valid_calls hp M1 AH cH l t A c W2 G H (hA.keep (Keep.all b2)) hc hs)
    have H1 := Lib.hid h1
    clear h1 H h hA x0
    go_wp2_with (fail)
    refine HV.out.mono ?_
    clear HV
    rintro e W3 ⟨rfl, hb3⟩
    have b3 := b2.trans (hb3.mono b2.size)
    go_wp2
    go_ret
    exact ⟨b3, .inr ⟨H1.out, rfl⟩⟩
end Go.Proofs.Ytepnmejahbiacaa
