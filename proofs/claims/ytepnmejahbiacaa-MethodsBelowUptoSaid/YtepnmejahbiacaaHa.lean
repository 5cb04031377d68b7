/- Ha + Co: texts joined. -/
import Derived.Test.YtepnmejahbiacaaHt
/- types.Has, types.ClassOf. -/
set_option linter.unusedVariables false
set_option linter.unusedSimpArgs false
namespace Go.Proofs.Ytepnmejahbiacaa
open Go.RowKit

theorem tagOk_kind {l : List CI} {t : Tag} (h : tagOk l t = true) : TagKind t := by
  unfold tagOk at h
  unfold TagKind
  split at h
  · exact .inl ‹_›
  · split at h
    · exact .inr (.inl ‹_›)
    · split at h
      · exact .inr (.inr (.inl ‹_›))
      · split at h
        · exact .inr (.inr (.inr (.inl ‹_›)))
        · split at h
          · exact .inr (.inr (.inr (.inr ‹_›)))
          · cases h
/-- types.Has. -/
def HasOk (l : List CI) (v : Tag) (t : Ty) : Prop := LookOk l ∧ tagOk l v = true ∧ validErr l t = 0 ∧ hasTF l v t = true

set_option maxHeartbeats 8000000 in
set_option maxRecDepth 100000 in
theorem Has_calls (AH : Option Addr) (cH : Nat) (l : List CI) (v : Tag) (t : Ty) (A : Option Addr) (c : Nat) (W : World) (hcH : l.length ≤ cH) (GH : Nat → Prop) (h : Held GH (CIs AH l) W) (ol : ∀ x ∈ l, ciOk x) (hl : l.length ≤ 1000000) (G : Nat → Prop) (hA : Held G (Typs A t.args) W)
    (hc : t.args.length ≤ c) (hs : TySmall t) :
    Calls Try.prog 45 #[.slice AH l.length cH, tagV v, tyV t A c] W fun e W' => Below W.heap.size W W' ∧ ((HasOk l v t ∧ e = .returned (.bool true)) ∨ (¬ HasOk l v t ∧ e = .returned (.bool false))) := by
  obtain ⟨W1, hW1⟩ : ∃ W1, W1 = (W.alloc (.cells #[.int .i64 v.kind, .int .i64 v.num, .string v.name] 25)).alloc (.cells #[.int .i64 t.kind, .string t.name, .int .i64 t.lo, .int .i64 t.hi, .slice A t.args.length c] 35) := ⟨_, rfl⟩
  have b1 : Below W.heap.size W W1 := by rw [hW1]; exact ((Below.refl _ W).alloc (Nat.le_refl _) _).alloc (by simp) _
  have xv : ∀ j u, [Value.int .i64 v.kind, .int .i64 v.num, .string v.name][j]? = some u → W1.cell? ⟨W.heap.size, j, none⟩ = some u := fun j u hj => by rw [hW1]; exact alloc_cell (cell_new W _ _ _ rfl j u hj)
  have xt : ∀ j u, [Value.int .i64 t.kind, .string t.name, .int .i64 t.lo, .int .i64 t.hi, .slice A t.args.length c][j]? = some u → W1.cell? ⟨W.heap.size + 1, j, none⟩ = some u := fun j u hj => by rw [hW1]; exact cell_new (W.alloc _) _ _ _ (by simp) j u hj
  have HL := Lib.hid (look_calls AH cH l W1 hcH GH (h.keep (Keep.all b1)) ol hl)
  go_enter Try.func45, Try.ntmps45
  go_wp2_with (fail)
  rw [← hW1]
  refine HL.out.mono ?_
  clear HL
  rintro e W2 ⟨hb2, (⟨h1, rfl⟩ | ⟨h1, hp, M1, _, _, rfl, H⟩)⟩
  · have b2 := b1.trans (hb2.mono b1.size)
    have H1 := Lib.hid h1
    clear h1
    go_wp2
    go_ret
    exact ⟨b2, .inr ⟨fun hh => H1.out hh.1, rfl⟩⟩
  have b2 := b1.trans (hb2.mono b1.size)
  have v0 := cell_all (xv 0 _ rfl) hb2
  have v1 := cell_all (xv 1 _ rfl) hb2
  have v2 := cell_all (xv 2 _ rfl) hb2
  have t0 := cell_all (xt 0 _ rfl) hb2
  have t1 := cell_all (xt 1 _ rfl) hb2
  have t2 := cell_all (xt 2 _ rfl) hb2
  have t3 := cell_all (xt 3 _ rfl) hb2
  have t4 := cell_all (xt 4 _ rfl) hb2
  have hl0 : 0 < l.length := by have := h1.2.1; omega
  have H1 := Lib.hid h1
  have HT := Lib.hid (isTag_calls hp M1 AH cH l v W2 H GH (h.keep (Keep.all b2)) hl0)
  clear h1 xv xt
  go_wp2_with (fail)
  refine HT.out.mono ?_
  clear HT
  rintro e W3 ⟨rfl, hb3⟩
  have b3 := b2.trans (hb3.mono b2.size)
  cases hq : tagOk l v with
  | false =>
    have HQ := Lib.hid hq
    clear hq
    go_wp2
    go_ret
    exact ⟨b3, .inr ⟨fun hh => (by have := hh.2.1; rw [HQ.out] at this; cases this), rfl⟩⟩
  | true =>
    have HQ := Lib.hid hq
    clear hq
    have v0 := cell_all v0 hb3
    have v1 := cell_all v1 hb3
    have v2 := cell_all v2 hb3
    have t0 := cell_all t0 hb3
    have t1 := cell_all t1 hb3
    have t2 := cell_all t2 hb3
    have t3 := cell_all t3 hb3
    have t4 := cell_all t4 hb3
    have HV := Lib.hid (valid_calls hp M1 AH cH l t A c W3 G (H.keep hb3) (hA.keep (Keep.all b3)) hc hs)
    go_wp2_with (fail)
    refine HV.out.mono ?_
    clear HV
    rintro e W4 ⟨rfl, hb4⟩
    have b4 := b3.trans (hb4.mono b3.size)
    by_cases hz : validErr l t = 0
    · have u1 : (validErr l t == 0) = true := beq_iff_eq.2 hz
      have HZ := Lib.hid hz
      clear hz
      have v0 := cell_all v0 hb4
      have v1 := cell_all v1 hb4
      have v2 := cell_all v2 hb4
      have t0 := cell_all t0 hb4
      have t1 := cell_all t1 hb4
      have t2 := cell_all t2 hb4
      have t3 := cell_all t3 hb4
      have t4 := cell_all t4 hb4
      have HY := Lib.hid (hasType_calls hp M1 AH cH l ol v (tagOk_kind HQ.out) t.count t (Nat.le_refl _) A c W4 G GH ((H.keep hb3).keep hb4) (h.keep (Keep.all b4)) (hA.keep (Keep.all b4)) hc hs.all)
      go_wp2_with (fail)
      refine HY.out.mono ?_
      clear HY
      rintro e W5 ⟨rfl, hb5⟩
      have b5 := b4.trans (hb5.mono b4.size)
      cases hy : hasTF l v t with
      | false =>
        have HYY := Lib.hid hy
        clear hy
        go_wp2
        go_ret
        exact ⟨b5, .inr ⟨fun hh => (by have := hh.2.2.2; rw [HYY.out] at this; cases this), rfl⟩⟩
      | true =>
        have HYY := Lib.hid hy
        clear hy
        go_wp2
        go_ret
        exact ⟨b5, .inl ⟨⟨H1.out, HQ.out, HZ.out, HYY.out⟩, rfl⟩⟩
    · have u1 : (validErr l t == 0) = false := beq_eq_false_iff_ne.2 hz
      have HZ := Lib.hid hz
      clear hz
      go_wp2
      go_ret
      exact ⟨b4, .inr ⟨fun hh => HZ.out hh.2.2.1, rfl⟩⟩
end Go.Proofs.Ytepnmejahbiacaa

/- types.ClassOf. -/
namespace Go.Proofs.Ytepnmejahbiacaa
open Go.RowKit

set_option maxHeartbeats 8000000 in
set_option maxRecDepth 100000 in
theorem ClassOf_calls (AH : Option Addr) (cH : Nat) (l : List CI) (v : Tag) (W : World) (hcH : l.length ≤ cH) (GH : Nat → Prop) (h : Held GH (CIs AH l) W) (ol : ∀ x ∈ l, ciOk x) (hl : l.length ≤ 1000000) :
    Calls Try.prog 18 #[.slice AH l.length cH, tagV v] W fun e W' => Below W.heap.size W W' ∧ (((LookOk l ∧ tagOk l v = true) ∧ e = .returned (.string (classOfB v))) ∨ (¬ (LookOk l ∧ tagOk l v = true) ∧ e = .returned (.string ⟨#[]⟩))) := by
  obtain ⟨W1, hW1⟩ : ∃ W1, W1 = W.alloc (.cells #[.int .i64 v.kind, .int .i64 v.num, .string v.name] 25) := ⟨_, rfl⟩
  have b1 : Below W.heap.size W W1 := by rw [hW1]; exact (Below.refl _ W).alloc (Nat.le_refl _) _
  have xv : ∀ j u, [Value.int .i64 v.kind, .int .i64 v.num, .string v.name][j]? = some u → W1.cell? ⟨W.heap.size, j, none⟩ = some u := fun j u hj => by rw [hW1]; exact cell_new W _ _ _ rfl j u hj
  have HL := Lib.hid (look_calls AH cH l W1 hcH GH (h.keep (Keep.all b1)) ol hl)
  go_enter Try.func18, Try.ntmps18
  go_wp2_with (fail)
  rw [← hW1]
  refine HL.out.mono ?_
  clear HL
  rintro e W2 ⟨hb2, (⟨h1, rfl⟩ | ⟨h1, hp, M1, _, _, rfl, H⟩)⟩
  · have b2 := b1.trans (hb2.mono b1.size)
    have H1 := Lib.hid h1
    clear h1
    go_wp2
    go_ret
    exact ⟨b2, .inr ⟨fun hh => H1.out hh.1, rfl⟩⟩
  have b2 := b1.trans (hb2.mono b1.size)
  have v0 := cell_all (xv 0 _ rfl) hb2
  have v1 := cell_all (xv 1 _ rfl) hb2
  have v2 := cell_all (xv 2 _ rfl) hb2
  have hl0 : 0 < l.length := by have := h1.2.1; omega
  have H1 := Lib.hid h1
  have HT := Lib.hid (isTag_calls hp M1 AH cH l v W2 H GH (h.keep (Keep.all b2)) hl0)
  clear h1 xv
  go_wp2_with (fail)
  refine HT.out.mono ?_
  clear HT
  rintro e W3 ⟨rfl, hb3⟩
  have b3 := b2.trans (hb3.mono b2.size)
  cases hq : tagOk l v with
  | false =>
    have HQ := Lib.hid hq
    clear hq
    go_wp2
    go_ret
    exact ⟨b3, .inr ⟨fun hh => (by have := hh.2; rw [HQ.out] at this; cases this), rfl⟩⟩
  | true =>
    have HQ := Lib.hid hq
    clear hq
    have v0 := cell_all v0 hb3
    have v1 := cell_all v1 hb3
    have v2 := cell_all v2 hb3
    have HC := Lib.hid (classOf_calls v (tagOk_kind HQ.out) W3)
    go_wp2_with (fail)
    refine HC.out.mono ?_
    clear HC
    rintro e W4 ⟨rfl, hb4⟩
    have b4 := b3.trans (hb4.mono b3.size)
    go_wp2
    go_ret
    exact ⟨b4, .inl ⟨⟨H1.out, HQ.out⟩, rfl⟩⟩
end Go.Proofs.Ytepnmejahbiacaa
