/- Part 17 of the proof: Ha, Ca, Ps, Lo, Am. -/
import Derived.Test.YtepnmejahbiacaaGreatL04
import Derived.Test.YtepnmejahbiacaaGreatL05
import Derived.Test.YtepnmejahbiacaaGreatL07
import Derived.Test.YtepnmejahbiacaaGreatL12
import Derived.Test.YtepnmejahbiacaaGreatL13
import Derived.Test.YtepnmejahbiacaaGreatL14
import Derived.Test.YtepnmejahbiacaaGreatL15
import Derived.Test.YtepnmejahbiacaaGreatL16
import Derived.Test.YtepnmejahbiacaaGreatL06
import Derived.Test.YtepnmejahbiacaaGreatL10
import Derived.Test.YtepnmejahbiacaaGreatL11
import Derived.Test.YtepnmejahbiacaaGreatL09
import Derived.Test.YtepnmejahbiacaaGreatL03
import Derived.Test.YtepnmejahbiacaaGreatL02
import Derived.Test.YtepnmejahbiacaaGreatL01
import Derived.BigQuiet
import Derived.Carry
import Derived.Deep.Draws
import Derived.Deep.LoopGhost
import Derived.Deep.QuietTactic
import Derived.KernelRfl
import Derived.Laws.EntriesVeiled
import Derived.Lib.Hide
import Derived.LoopIn
import Derived.LoopNIn
import Derived.Maps.AppendAt
import Derived.Maps.Own
import Derived.Maps.OwnIn
import Derived.Outline
import Derived.OwnWalkIn
import Derived.RangeFuncBound
import Derived.RangeFuncCalls
import Derived.RangeFuncLeaves
import Derived.RangeFuncNested
import Derived.Recover
import Derived.StillTailTactics
import Derived.Stop.RegionWithIn
import Derived.TacticsInMore
import Derived.Test.YtepnmejahbiacaaGreatProg
import Derived.WalkKit
import Derived.WalkSpells
set_option linter.unusedVariables false
set_option linter.unusedSimpArgs false
namespace Go.Proofs.YtepnmejahbiacaaGreat
open Go.RowKit
theorem tagOk_kind {l : List CI} {t : Tag} (h : tagOk l t = true) : TagKind t := by
  unfold tagOk at h
  unfold TagKind
  split at h
  · exact .inl ‹_›
  · split at h
    · exact .inr (.inl ‹_›)
    · split at h
      · exact .inr (.inr (.inl ‹_›))
      · split at h
        · exact .inr (.inr (.inr (.inl ‹_›)))
        · split at h
          · exact .inr (.inr (.inr (.inr ‹_›)))
          · cases h
/-- types.Has. -/
def HasOk (l : List CI) (v : Tag) (t : Ty) : Prop := LookOk l ∧ tagOk l v = true ∧ validErr l t = 0 ∧ hasTF l v t = true
set_option maxHeartbeats 8000000 in
set_option maxRecDepth 100000 in
theorem Has_calls (AH : Option Addr) (cH : Nat) (l : List CI) (v : Tag) (t : Ty) (A : Option Addr) (c : Nat) (W : World) (hcH : l.length ≤ cH) (GH : Nat → Prop) (h : Held GH (CIs AH l) W) (ol : ∀ x ∈ l, ciOk x) (hl : l.length ≤ 1000000) (G : Nat → Prop) (hA : Held G (Typs A t.args) W)
    (hc : t.args.length ≤ c) (hs : TySmall t) :
    Calls Tryz.prog 53 #[.slice AH l.length cH, tagV v, tyV t A c] W fun e W' => Below W.heap.size W W' ∧ ((HasOk l v t ∧ e = .returned (.bool true)) ∨ (¬ HasOk l v t ∧ e = .returned (.bool false))) := by
  obtain ⟨W1, hW1⟩ : ∃ W1, W1 = (W.alloc (.cells #[.int .i64 v.kind, .int .i64 v.num, .string v.name] 39)).alloc (.cells #[.int .i64 t.kind, .string t.name, .int .i64 t.lo, .int .i64 t.hi, .slice A t.args.length c] 36) := ⟨_, rfl⟩
  have b1 : Below W.heap.size W W1 := by rw [hW1]; exact ((Below.refl _ W).alloc (Nat.le_refl _) _).alloc (by simp) _
  have xv : ∀ j u, [Value.int .i64 v.kind, .int .i64 v.num, .string v.name][j]? = some u → W1.cell? ⟨W.heap.size, j, none⟩ = some u := fun j u hj => by rw [hW1]; exact alloc_cell (cell_new W _ _ _ rfl j u hj)
  have xt : ∀ j u, [Value.int .i64 t.kind, .string t.name, .int .i64 t.lo, .int .i64 t.hi, .slice A t.args.length c][j]? = some u → W1.cell? ⟨W.heap.size + 1, j, none⟩ = some u := fun j u hj => by rw [hW1]; exact cell_new (W.alloc _) _ _ _ (by simp) j u hj
  have HL := Lib.hid (look_calls AH cH l W1 hcH GH (h.keep (Keep.all b1)) ol hl)
  go_enter Tryz.func53, Tryz.ntmps53
  go_wp2_with (fail)
  rw [← hW1]
  refine HL.out.mono ?_
  clear HL
  rintro e W2 ⟨hb2, (⟨h1, rfl⟩ | ⟨h1, hp, M1, _, _, rfl, H⟩)⟩
  · have b2 := b1.trans (hb2.mono b1.size)
    have H1 := Lib.hid h1
    clear h1
    go_wp2
    go_ret
    exact ⟨b2, .inr ⟨fun hh => H1.out hh.1, rfl⟩⟩
  have b2 := b1.trans (hb2.mono b1.size)
  have v0 := cell_all (xv 0 _ rfl) hb2
  have v1 := cell_all (xv 1 _ rfl) hb2
  have v2 := cell_all (xv 2 _ rfl) hb2
  have t0 := cell_all (xt 0 _ rfl) hb2
  have t1 := cell_all (xt 1 _ rfl) hb2
  have t2 := cell_all (xt 2 _ rfl) hb2
  have t3 := cell_all (xt 3 _ rfl) hb2
  have t4 := cell_all (xt 4 _ rfl) hb2
  have hl0 : 0 < l.length := by have := h1.2.1; omega
  have H1 := Lib.hid h1
  have HT := Lib.hid (isTag_calls hp M1 AH cH l v W2 H GH (h.keep (Keep.all b2)) hl0)
  clear h1 xv xt
  go_wp2_with (fail)
  refine HT.out.mono ?_
  clear HT
  rintro e W3 ⟨rfl, hb3⟩
  have b3 := b2.trans (hb3.mono b2.size)
  cases hq : tagOk l v with
  | false =>
    have HQ := Lib.hid hq
    clear hq
    go_wp2
    go_ret
    exact ⟨b3, .inr ⟨fun hh => (by have := hh.2.1; rw [HQ.out] at this; cases this), rfl⟩⟩
  | true =>
    have HQ := Lib.hid hq
    clear hq
    have v0 := cell_all v0 hb3
    have v1 := cell_all v1 hb3
    have v2 := cell_all v2 hb3
    have t0 := cell_all t0 hb3
    have t1 := cell_all t1 hb3
    have t2 := cell_all t2 hb3
    have t3 := cell_all t3 hb3
    have t4 := cell_all t4 hb3
    have HV := Lib.hid (valid_calls hp M1 AH cH l t A c W3 G (H.keep hb3) (hA.keep (Keep.all b3)) hc hs)
    go_wp2_with (fail)
    refine HV.out.mono ?_
    clear HV
    rintro e W4 ⟨rfl, hb4⟩
    have b4 := b3.trans (hb4.mono b3.size)
    by_cases hz : validErr l t = 0
    · have u1 : (validErr l t == 0) = true := beq_iff_eq.2 hz
      have HZ := Lib.hid hz
      clear hz
      have v0 := cell_all v0 hb4
      have v1 := cell_all v1 hb4
      have v2 := cell_all v2 hb4
      have t0 := cell_all t0 hb4
      have t1 := cell_all t1 hb4
      have t2 := cell_all t2 hb4
      have t3 := cell_all t3 hb4
      have t4 := cell_all t4 hb4
      have HY := Lib.hid (hasType_calls hp M1 AH cH l ol v (tagOk_kind HQ.out) t.count t (Nat.le_refl _) A c W4 G GH ((H.keep hb3).keep hb4) (h.keep (Keep.all b4)) (hA.keep (Keep.all b4)) hc hs.all)
      go_wp2_with (fail)
      refine HY.out.mono ?_
      clear HY
      rintro e W5 ⟨rfl, hb5⟩
      have b5 := b4.trans (hb5.mono b4.size)
      cases hy : hasTF l v t with
      | false =>
        have HYY := Lib.hid hy
        clear hy
        go_wp2
        go_ret
        exact ⟨b5, .inr ⟨fun hh => (by have := hh.2.2.2; rw [HYY.out] at this; cases this), rfl⟩⟩
      | true =>
        have HYY := Lib.hid hy
        clear hy
        go_wp2
        go_ret
        exact ⟨b5, .inl ⟨⟨H1.out, HQ.out, HZ.out, HYY.out⟩, rfl⟩⟩
    · have u1 : (validErr l t == 0) = false := beq_eq_false_iff_ne.2 hz
      have HZ := Lib.hid hz
      clear hz
      go_wp2
      go_ret
      exact ⟨b4, .inr ⟨fun hh => HZ.out hh.2.2.1, rfl⟩⟩
end Go.Proofs.YtepnmejahbiacaaGreat
namespace Go.Proofs.YtepnmejahbiacaaGreat
open Go.RowKit
set_option maxHeartbeats 8000000 in
set_option maxRecDepth 100000 in
theorem ClassOf_calls (AH : Option Addr) (cH : Nat) (l : List CI) (v : Tag) (W : World) (hcH : l.length ≤ cH) (GH : Nat → Prop) (h : Held GH (CIs AH l) W) (ol : ∀ x ∈ l, ciOk x) (hl : l.length ≤ 1000000) :
    Calls Tryz.prog 90 #[.slice AH l.length cH, tagV v] W fun e W' => Below W.heap.size W W' ∧ (((LookOk l ∧ tagOk l v = true) ∧ e = .returned (.string (classOfB v))) ∨ (¬ (LookOk l ∧ tagOk l v = true) ∧ e = .returned (.string ⟨#[]⟩))) := by
  obtain ⟨W1, hW1⟩ : ∃ W1, W1 = W.alloc (.cells #[.int .i64 v.kind, .int .i64 v.num, .string v.name] 39) := ⟨_, rfl⟩
  have b1 : Below W.heap.size W W1 := by rw [hW1]; exact (Below.refl _ W).alloc (Nat.le_refl _) _
  have xv : ∀ j u, [Value.int .i64 v.kind, .int .i64 v.num, .string v.name][j]? = some u → W1.cell? ⟨W.heap.size, j, none⟩ = some u := fun j u hj => by rw [hW1]; exact cell_new W _ _ _ rfl j u hj
  have HL := Lib.hid (look_calls AH cH l W1 hcH GH (h.keep (Keep.all b1)) ol hl)
  go_enter Tryz.func90, Tryz.ntmps90
  go_wp2_with (fail)
  rw [← hW1]
  refine HL.out.mono ?_
  clear HL
  rintro e W2 ⟨hb2, (⟨h1, rfl⟩ | ⟨h1, hp, M1, _, _, rfl, H⟩)⟩
  · have b2 := b1.trans (hb2.mono b1.size)
    have H1 := Lib.hid h1
    clear h1
    go_wp2
    go_ret
    exact ⟨b2, .inr ⟨fun hh => H1.out hh.1, rfl⟩⟩
  have b2 := b1.trans (hb2.mono b1.size)
  have v0 := cell_all (xv 0 _ rfl) hb2
  have v1 := cell_all (xv 1 _ rfl) hb2
  have v2 := cell_all (xv 2 _ rfl) hb2
  have hl0 : 0 < l.length := by have := h1.2.1; omega
  have H1 := Lib.hid h1
  have HT := Lib.hid (isTag_calls hp M1 AH cH l v W2 H GH (h.keep (Keep.all b2)) hl0)
  clear h1 xv
  go_wp2_with (fail)
  refine HT.out.mono ?_
  clear HT
  rintro e W3 ⟨rfl, hb3⟩
  have b3 := b2.trans (hb3.mono b2.size)
  cases hq : tagOk l v with
  | false =>
    have HQ := Lib.hid hq
    clear hq
    go_wp2
    go_ret
    exact ⟨b3, .inr ⟨fun hh => (by have := hh.2; rw [HQ.out] at this; cases this), rfl⟩⟩
  | true =>
    have HQ := Lib.hid hq
    clear hq
    have v0 := cell_all v0 hb3
    have v1 := cell_all v1 hb3
    have v2 := cell_all v2 hb3
    have HC := Lib.hid (classOf_calls v (tagOk_kind HQ.out) W3)
    go_wp2_with (fail)
    refine HC.out.mono ?_
    clear HC
    rintro e W4 ⟨rfl, hb4⟩
    have b4 := b3.trans (hb4.mono b3.size)
    go_wp2
    go_ret
    exact ⟨b4, .inl ⟨⟨H1.out, HQ.out⟩, rfl⟩⟩
end Go.Proofs.YtepnmejahbiacaaGreat
set_option linter.unusedVariables false
set_option linter.unusedSimpArgs false
namespace Go.Proofs.YtepnmejahbiacaaGreat
open Go.RowKit
def tagR (t : Tag) (cs : List Value) (_ : World) : Prop := cs = [.int .i64 t.kind, .int .i64 t.num, .string t.name]
abbrev Tags (A : Option Addr) (l : List Tag) (w : World) : Prop := Slc tagR 3 A l w
theorem Tags.atH {G : Nat → Prop} {b off : Nat} {l : List Tag} {w : World} (h : Held G (Tags (some ⟨b, off, none⟩) l) w) {k : Nat} {x : Tag} (hk : l[k]? = some x) :
    w.cell? ⟨b, off + k * 3, none⟩ = some (.int .i64 x.kind) ∧ w.cell? ⟨b, off + k * 3 + 1, none⟩ = some (.int .i64 x.num) ∧ w.cell? ⟨b, off + k * 3 + 2, none⟩ = some (.string x.name) := by
  obtain ⟨cs, _, hr, hc⟩ := Slc.atH h (by decide) hk
  obtain rfl : cs = _ := hr.now
  exact ⟨(hc 0 _ rfl).now, (hc 1 _ rfl).now, (hc 2 _ rfl).now⟩
/-- The hierarchy and the arguments of a call, at its block. -/
structure CallAt (cp : Nat) (AH : Option Addr) (cH : Nat) (l : List CI) (AT : Option Addr) (cT : Nat) (ts : List Tag) (w : World) : Prop where
  c0 : w.cell? ⟨cp, 0, none⟩ = some (.slice AH l.length cH)
  c1 : w.cell? ⟨cp, 1, none⟩ = some (.slice AT ts.length cT)
theorem CallAt.keep {cp : Nat} {AH : Option Addr} {cH : Nat} {l : List CI} {AT : Option Addr} {cT : Nat} {ts : List Tag} {w w' : World} (h : CallAt cp AH cH l AT cT ts w) (q : Below w.heap.size w w') : CallAt cp AH cH l AT cT ts w' :=
  ⟨cell_all h.c0 q, cell_all h.c1 q⟩
/-- A method applies to the arguments. -/
def Applies (l : List CI) (ts : List Tag) (m : Meth) : Prop := ∀ (i : Nat) (p : Par) (t : Tag), m.pars[i]? = some p → ts[i]? = some t → HasOk l t p.type
end Go.Proofs.YtepnmejahbiacaaGreat
namespace Go.Proofs.YtepnmejahbiacaaGreat
open Go.RowKit
set_option maxHeartbeats 8000000 in
set_option maxRecDepth 100000 in
theorem applies_calls (cp : Nat) (AH : Option Addr) (cH : Nat) (l : List CI) (AT : Option Addr) (cT : Nat) (ts : List Tag) (m : Meth) (A1 A2 : Option Addr) (c1 c2 : Nat) (W : World) (HC : CallAt cp AH cH l AT cT ts W)
    (GH : Nat → Prop) (h : Held GH (CIs AH l) W) (hcH : l.length ≤ cH) (ol : ∀ x ∈ l, ciOk x) (hl : l.length ≤ 1000000) (GT : Nat → Prop) (hT : Held GT (Tags AT ts) W)
    (G : Nat → Prop) (hP : Held G (Pars A1 m.pars) W) (hn : m.pars.length = ts.length) (hn2 : m.pars.length ≤ 1000000) (hs : ∀ p ∈ m.pars, TySmall p.type) :
    Calls Tryz.prog 42 #[.pointer (some ⟨cp, 0, none⟩), .agg #[.int .i64 m.id, .string m.lib, .slice A1 m.pars.length c1, .int .i64 m.result.kind, .string m.result.name, .int .i64 m.result.lo, .int .i64 m.result.hi, .slice A2 m.result.args.length c2]] W
      fun e W' => Below W.heap.size W W' ∧ ((Applies l ts m ∧ e = .returned (.bool true)) ∨ (¬ Applies l ts m ∧ e = .returned (.bool false))) := by
  have HNN := Lib.hid hn
  clear hn
  go_enter Tryz.func42, Tryz.ntmps42
  go_wp2
  go_loopw [10] (fun i wr => ∃ k : Nat, k ≤ m.pars.length ∧ i = .int .i64 k ∧ (∀ (i : Nat) (p : Par) (t : Tag), i < k → m.pars[i]? = some p → ts[i]? = some t → HasOk l t p.type) ∧ Below W.heap.size W wr) (fun i _ => m.pars.length - (intOf i).toNat)
  case atStart => exact ⟨0, Nat.zero_le _, rfl, fun i p t hi => absurd hi (by omega), (Below.refl _ W).alloc (Nat.le_refl _) _⟩
  case round =>
    obtain ⟨k, hk, rfl, hok, hb⟩ := hrel
    have HOK := Lib.hid hok
    clear hok
    by_cases hlt : k < m.pars.length
    · obtain ⟨b, off, rfl⟩ := Slc.addrH hP (by omega)
      obtain ⟨b2, off2, rfl⟩ := Slc.addrH hT (by rw [← HNN.out]; omega)
      have hx : m.pars[k]? = some m.pars[k] := List.getElem?_eq_getElem hlt
      have htk : k < ts.length := by rw [← HNN.out]; exact hlt
      have ht : ts[k]? = some ts[k] := List.getElem?_eq_getElem htk
      generalize m.pars[k] = p at hx
      generalize ts[k] = t at ht
      have HX := Lib.hid hx
      have HT := Lib.hid ht
      have HCr := HC.keep hb
      have q0 := HCr.c0
      have q1 := HCr.c1
      obtain ⟨A3, c3, p1, p2, g0, g1, g2, g3, g4, g5⟩ := Pars.atH (hP.keep (Keep.all hb)) hx
      obtain ⟨d0, d1, d2⟩ := Tags.atH (hT.keep (Keep.all hb)) ht
      have hcpl := cell_lt q0
      have hb2l := cell_lt d0
      have HHas := Lib.hid (fun V (hv : Below wr.heap.size wr V) => Has_calls AH cH l t p.type A3 c3 V hcH GH ((h.keep (Keep.all hb)).keep (Keep.all hv)) ol hl G (p2.keep (Keep.all hv)) p1 (hs p (List.mem_of_getElem? hx)))
      clear hx ht
      by_cases hh : HasOk l t p.type
      · have HO := Lib.hid hh
        have HH2 : Hid (∀ V, Below wr.heap.size wr V → Calls Tryz.prog 53 #[.slice AH l.length cH, tagV t, tyV p.type A3 c3] V fun e V' => Below V.heap.size V V' ∧ e = .returned (.bool true)) := Lib.hid (fun V hv => (HHas.out V hv).mono fun e V' hq => ⟨hq.1, by rcases hq.2 with q | q; exact q.2; exact absurd HO.out q.1⟩)
        clear hh HHas
        go_wp2
        refine (wpIn_wide (n := 9)).1 ?_
        gi_region_with (refine ⟨trivial, ?_⟩; gi_at_call 53; refine (callsIn_wide.2 (HH2.out _ (((Below.refl _ wr).alloc (Nat.le_refl _) _).drew))).mono ?_; rintro e V ⟨hbv, rfl⟩)
        all_goals go_wp2
        all_goals
          have bq := ((Below.refl _ wr).alloc (Nat.le_refl _) (Obj.cells #[.string p.name, .int .i64 p.type.kind, .string p.type.name, .int .i64 p.type.lo, .int .i64 p.type.hi, .slice A3 p.type.args.length c3] 76)).drew
          have bf : Below W.heap.size W V := hb.trans ((bq.trans (hbv.mono bq.size)).mono hb.size)
          refine ⟨⟨k + 1, by omega, by go_num, fun i p' t' hi hp ht => ?_, bf⟩, by simp [intOf]; omega⟩
          rcases Nat.lt_or_ge i k with h | h
          · exact HOK.out i p' t' h hp ht
          · obtain rfl : i = k := by omega
            rw [HX.out] at hp; rw [HT.out] at ht; cases hp; cases ht; exact HO.out
      · have HO := Lib.hid hh
        have HH2 : Hid (∀ V, Below wr.heap.size wr V → Calls Tryz.prog 53 #[.slice AH l.length cH, tagV t, tyV p.type A3 c3] V fun e V' => Below V.heap.size V V' ∧ e = .returned (.bool false)) := Lib.hid (fun V hv => (HHas.out V hv).mono fun e V' hq => ⟨hq.1, by rcases hq.2 with q | q; exact absurd q.1 HO.out; exact q.2⟩)
        clear hh HHas
        go_wp2
        refine (wpIn_wide (n := 9)).1 ?_
        gi_region_with (refine ⟨trivial, ?_⟩; gi_at_call 53; refine (callsIn_wide.2 (HH2.out _ (((Below.refl _ wr).alloc (Nat.le_refl _) _).drew))).mono ?_; rintro e V ⟨hbv, rfl⟩)
        all_goals go_wp2
        all_goals
          have bq := ((Below.refl _ wr).alloc (Nat.le_refl _) (Obj.cells #[.string p.name, .int .i64 p.type.kind, .string p.type.name, .int .i64 p.type.lo, .int .i64 p.type.hi, .slice A3 p.type.args.length c3] 76)).drew
          have bf : Below W.heap.size W V := hb.trans ((bq.trans (hbv.mono bq.size)).mono hb.size)
          go_ret
          exact ⟨bf, .inr ⟨fun hA => HO.out (hA k p t HX.out HT.out), rfl⟩⟩
    · have hkl : k = m.pars.length := by omega
      subst hkl
      go_wp2
      go_ret
      exact ⟨hb, .inl ⟨fun i p t hp ht => HOK.out i p t (List.getElem?_eq_some_iff.1 hp).1 hp ht, rfl⟩⟩
end Go.Proofs.YtepnmejahbiacaaGreat
set_option linter.unusedVariables false
set_option linter.unusedSimpArgs false
namespace Go.Proofs.YtepnmejahbiacaaGreat
open Go.RowKit
set_option maxHeartbeats 4000000 in
set_option maxRecDepth 100000 in
theorem opened1_calls (x : CI) (A2 A3 : Option Addr) (c2 c3 : Nat) (s : ByteArray) (sb : Nat) (w : World) (hs : w.cell? ⟨sb, 0, none⟩ = some (.string s)) :
    Calls Tryz.prog 92 #[.agg #[.string x.name, .string x.lib, .slice A2 x.supers.length c2, .slice A3 x.cpl.length c3, .bool x.abs, .bool x.seal_], .pointer (some ⟨sb, 0, none⟩)] w fun e w' => e = .returned (.bool (decide (x.name = s))) ∧ Below w.heap.size w w' := by
  have hl := cell_lt hs
  go_enter Tryz.func92, Tryz.ntmps92
  go_wp2
  go_ret
  exact ⟨rfl, (Below.refl _ w).alloc (Nat.le_refl _) _⟩
set_option maxHeartbeats 4000000 in
set_option maxRecDepth 100000 in
theorem place_calls (A : Option Addr) (c : Nat) (l : List CI) (s : ByteArray) (sb : Nat) (w : World) (hs : w.cell? ⟨sb, 0, none⟩ = some (.string s)) (G : Nat → Prop) (h : Held G (CIs A l) w) (hl : l.length ≤ 1000000) :
    Calls Tryz.prog 91 #[.slice A l.length c, .func (.func 92) #[] #[.pointer (some ⟨sb, 0, none⟩)]] w
      (Found (fun i wr => Below w.heap.size w wr ∧ ∀ j x, j < i → l[j]? = some x → x.name ≠ s) (fun i wr => Below w.heap.size w wr ∧ (∀ j x, j < i → l[j]? = some x → x.name ≠ s) ∧ ∃ x, l[i]? = some x ∧ x.name = s) (Panics fun _ _ => False) l.length) := by
  obtain ⟨b, off, hbo⟩ : ∃ b off, 0 < l.length → A = some ⟨b, off, none⟩ := by
    by_cases h0 : 0 < l.length
    · obtain ⟨b, off, e⟩ := Slc.addrH h h0
      exact ⟨b, off, fun _ => e⟩
    · exact ⟨0, 0, fun h => absurd h h0⟩
  refine indexFuncCls A l.length c 92 _ (fun i => (l[i]?.map fun x => Value.string x.name).getD undef) (fun i => (l[i]?.map fun x => Value.string x.lib).getD undef) (fun i => (w.cell? ⟨b, off + i * 6 + 2, none⟩).getD undef) (fun i => (w.cell? ⟨b, off + i * 6 + 3, none⟩).getD undef)
    (fun i => (l[i]?.map fun x => Value.bool x.abs).getD undef) (fun i => (l[i]?.map fun x => Value.bool x.seal_).getD undef) w (by omega) (enters Tryz.func92 (by kernel_rfl) rfl) _ _ _ ⟨Below.refl _ _, fun j x hj => absurd hj (by omega)⟩ (fun h0 => ⟨b, off, hbo h0⟩) ?_ ?_
  · rintro i wr b' off' rfl hi ⟨hcw, _⟩
    have hb' := hbo (by omega)
    simp only [Option.some.injEq, Addr.mk.injEq, and_true] at hb'
    obtain ⟨rfl, rfl⟩ := hb'
    have hx : l[i]? = some l[i] := List.getElem?_eq_getElem hi
    obtain ⟨A2, c2, A3, c3, p1, p2, p3, p4, g0, g1, g2, g3, g4, g5⟩ := CIs.atH h hx
    simp only [hx, Option.map_some, Option.getD_some, g2, g3]
    exact ⟨cell_all g0 hcw, cell_all g1 hcw, cell_all g2 hcw, cell_all g3 hcw, cell_all g4 hcw, cell_all g5 hcw⟩
  · rintro i wr hi ⟨hcw, hjw⟩
    have hb' := hbo (by omega)
    subst hb'
    have hx : l[i]? = some l[i] := List.getElem?_eq_getElem hi
    generalize l[i] = x at hx
    obtain ⟨A2, c2, A3, c3, p1, p2, p3, p4, g0, g1, g2, g3, g4, g5⟩ := CIs.atH h hx
    simp only [hx, Option.map_some, Option.getD_some, g2, g3]
    refine (opened1_calls x A2 A3 c2 c3 s sb wr (cell_all hs hcw)).mono ?_
    rintro e w' ⟨rfl, hb2⟩
    have hb3 := hcw.trans (hb2.mono hcw.size)
    by_cases hq : x.name = s
    · exact .inr (.inl ⟨by rw [decide_eq_true hq], hb3, hjw, x, hx, hq⟩)
    · refine .inl ⟨by rw [decide_eq_false hq], hb3, fun j y hj hy => ?_⟩
      rcases Nat.lt_or_ge j i with h | h
      · exact hjw j y h hy
      · obtain rfl : j = i := by omega
        rw [hx] at hy; cases hy; exact hq
/-- The class of a tag is there. -/
theorem classOf_in {l : List CI} (h : LookOk l) {t : Tag} (ht : tagOk l t = true) : ∃ x ∈ l, x.name = classOfB t := by
  have hb : ∀ s : ByteArray, (baseL.any fun y => decide (y.name = s)) = true → ∃ x ∈ l, x.name = s := fun s hs => by
    obtain ⟨x, hx, e⟩ := List.any_eq_true.1 hs
    rw [← h.2.2.1] at hx
    exact ⟨x, List.mem_of_mem_take hx, of_decide_eq_true e⟩
  rcases tagOk_kind ht with k | k | k | k | k
  · exact hb _ (by unfold classOfB; rw [if_pos k]; decide)
  · exact hb _ (by unfold classOfB; rw [if_neg (by omega), if_pos k]; decide)
  · exact hb _ (by unfold classOfB; rw [if_neg (by omega), if_neg (by omega), if_pos k]; decide)
  · exact hb _ (by unfold classOfB; rw [if_neg (by omega), if_neg (by omega), if_neg (by omega), if_pos k]; decide)
  · unfold tagOk at ht
    rw [if_neg (by omega), if_neg (by omega), if_neg (by omega), if_neg (by omega), if_pos k] at ht
    simp only [Bool.and_eq_true] at ht
    have h2 := ht.1.1.2
    unfold hasB at h2
    obtain ⟨i, hi⟩ := Option.isSome_iff_exists.1 h2
    obtain ⟨x, hx, e⟩ := clsAt_get hi
    refine ⟨x, List.mem_of_getElem? hx, ?_⟩
    rw [e]; unfold classOfB
    rw [if_neg (by omega), if_neg (by omega), if_neg (by omega), if_neg (by omega)]
end Go.Proofs.YtepnmejahbiacaaGreat
set_option linter.unusedVariables false
set_option linter.unusedSimpArgs false
namespace Go.Proofs.YtepnmejahbiacaaGreat
open Go.RowKit
/-- The linearization of a tag's class. -/
def cplAt (l : List CI) (t : Tag) : List ByteArray := ((l.find? fun x => decide (x.name = classOfB t)).map CI.cpl).getD []
mutual
/-- The pieces of a type. -/
def Ty.pieces : Ty → List Ty
  | .mk k n lo hi args => if k = 5 then Ty.piecesL args else [.mk k n lo hi args]
def Ty.piecesL : List Ty → List Ty
  | [] => []
  | t :: r => Ty.pieces t ++ Ty.piecesL r
end
theorem Ty.piecesL_eq : ∀ (l : List Ty), Ty.piecesL l = l.flatMap Ty.pieces
  | [] => by simp [Ty.piecesL]
  | t :: r => by rw [Ty.piecesL, Ty.piecesL_eq r]; simp
theorem Ty.pieces_union {t : Ty} (h : t.kind = 5) : t.pieces = t.args.flatMap Ty.pieces := by
  cases t with
  | mk k n lo hi args =>
    have hk : k = 5 := h
    rw [Ty.pieces, if_pos hk, Ty.piecesL_eq]; rfl
theorem Ty.pieces_leaf {t : Ty} (h : t.kind ≠ 5) : t.pieces = [t] := by
  cases t with
  | mk k n lo hi args =>
    have hk : ¬ k = 5 := h
    rw [Ty.pieces, if_neg hk]
def topN (a : Ty) : ByteArray := if a.kind = 2 then nInteger else if a.kind = 3 then nBoolean else if a.kind = 4 then nClass else if a.kind = 1 then a.name else ⟨#[]⟩
/-- A class is below another one (the first of that name). -/
def belowC (l : List CI) (a b : ByteArray) : Bool := match l.find? fun x => decide (x.name = a) with
  | none => false
  | some x => hasS x.cpl b
def insideB (l : List CI) (a b : Ty) : Bool :=
  if b.kind = 1 then belowC l (topN a) b.name
  else if a.kind ≠ b.kind then false
  else if a.kind = 2 then decide (b.lo ≤ a.lo) && decide (a.hi ≤ b.hi)
  else if a.kind = 3 then decide (a.lo = b.lo)
  else belowC l a.name b.name
def withinB (l : List CI) (s t : Ty) : Bool := s.pieces.all fun a => t.pieces.any fun b => insideB l a b
/-- How two types compare: 0 equal, 1 before, 2 behind, 3 neither. -/
def cmpT (l : List CI) (cpl : List ByteArray) (s t : Ty) : Int :=
  if s.kind = 1 ∧ t.kind = 1 then (if idx cpl t.name < idx cpl s.name then 2 else if idx cpl s.name < idx cpl t.name then 1 else 0)
  else if withinB l s t then (if withinB l t s then 0 else 1) else (if withinB l t s then 2 else 3)
def cmpAt (l : List CI) (ts : List Tag) (a b : Meth) (i : Nat) : Int := match ts[i]?, a.pars[i]?, b.pars[i]? with
  | some t, some p, some q => cmpT l (cplAt l t) p.type q.type
  | _, _, _ => 3
def precB (l : List CI) (ts : List Tag) (a b : Meth) : Bool :=
  ((List.range a.pars.length).all fun i => decide (cmpAt l ts a b i = 0 ∨ cmpAt l ts a b i = 1)) && (List.range a.pars.length).any fun i => decide (cmpAt l ts a b i = 1)
open Classical in
noncomputable def appB (l : List CI) (ts : List Tag) (m : Meth) : Bool := decide (Applies l ts m)
noncomputable def ordB (l : List CI) (ts : List Tag) (ms : List Meth) : List Meth × List Meth := orderG (precB l ts) (ms.filter (appB l ts)).length (ms.filter (appB l ts))
/-- A list of methods. -/
def parsOk (l : List CI) (n : Nat) (m : Meth) : Bool := decide (m.pars.length = n) && decide (m.pars.length ≤ 6) && m.pars.all fun p => decide (validErr l p.type = 0)
def AreMs (l : List CI) (ms : List Meth) : Bool := decide ((ms.map (·.id)).Nodup) && ms.all (parsOk l ((ms[0]?.map fun m => m.pars.length).getD 0))
open Classical in
noncomputable def checkAllE (l : List CI) (ms : List Meth) (ts : List Tag) : Int :=
  if ¬ LookOk l then 80 else if 300 < ms.length then 2
  else if AreMs l ms = false ∨ 6 < ts.length ∨ (0 < ms.length ∧ (ms[0]?.map fun m => m.pars.length).getD 0 ≠ ts.length) then 101
  else if ts.all (tagOk l) then 0 else 82
end Go.Proofs.YtepnmejahbiacaaGreat
namespace Go.Proofs.YtepnmejahbiacaaGreat
open Go.RowKit
theorem heirNames (l : List CI) : names (heirsOf l) = l.map (·.name) := by
  unfold names heirsOf; rw [List.map_map]; rfl
theorem names_of {l : List CI} (h : LookOk l) : (l.map (·.name)).Nodup := by
  rw [← heirNames]; exact names_nodup (c3Check_zero h.2.2.2.2.1).2
theorem find_at {l : List CI} (h : LookOk l) {s : ByteArray} {i : Nat} {x : CI} (hx : l[i]? = some x) (hs : x.name = s) : l.find? (fun x => decide (x.name = s)) = some x ∧ clsAt l s = some i := by
  have hn : (l.map (·.name))[i]? = some s := by rw [List.getElem?_map, hx]; simp [hs]
  refine ⟨?_, lastAt_of hn (names_of h)⟩
  cases hf : l.find? (fun x => decide (x.name = s)) with
  | none =>
    have := List.find?_eq_none.1 hf x (List.mem_of_getElem? hx)
    simp [hs] at this
  | some y =>
    have hy := List.find?_some hf
    obtain ⟨j, hj⟩ := List.mem_iff_getElem?.1 (List.mem_of_find?_eq_some hf)
    have hjn : (l.map (·.name))[j]? = some s := by rw [List.getElem?_map, hj]; simpa using hy
    obtain rfl := nodup_inj (names_of h) hjn hn
    rw [hj] at hx; exact hx
theorem find_none {l : List CI} {s : ByteArray} (hf : l.find? (fun x => decide (x.name = s)) = none) : clsAt l s = none := by
  cases h : clsAt l s with
  | none => rfl
  | some i =>
    obtain ⟨x, hx, e⟩ := clsAt_get h
    have := List.find?_eq_none.1 hf x (List.mem_of_getElem? hx)
    simp [e] at this
theorem belowB_C {l : List CI} (h : LookOk l) (a b : ByteArray) : belowB l a b = belowC l a b := by
  unfold belowB belowC
  cases hf : l.find? (fun x => decide (x.name = a)) with
  | none => rw [find_none hf]
  | some x =>
    have hx := List.find?_some hf
    obtain ⟨j, hj⟩ := List.mem_iff_getElem?.1 (List.mem_of_find?_eq_some hf)
    simp only [(find_at h hj (by simpa using hx)).2, hj]
/-- A class as a type. -/
def clsT (n : ByteArray) : Ty := .mk 1 n 0 0 []
end Go.Proofs.YtepnmejahbiacaaGreat
set_option linter.unusedVariables false
set_option linter.unusedSimpArgs false
namespace Go.Proofs.YtepnmejahbiacaaGreat
open Go.RowKit
theorem rm1_mem {s : ByteArray} {l : List (List ByteArray)} {y : List ByteArray} (h : y ∈ l) : rm1 s y ∈ rm s l := List.mem_map.2 ⟨y, h, rfl⟩
/-- What is merged keeps the order of each list. -/
theorem merge_sub {l : List (List ByteArray)} : ∀ {out : List ByteArray}, merge l = some out → ∀ y ∈ l, y.Sublist out := by
  generalize hn : total l = n
  induction n using Nat.strongRecOn generalizing l with
  | _ n ih =>
    intro out h y hy
    by_cases ha : anyLeft l = true
    · cases hc : cand l l with
      | none => rw [merge_stuck ha hc] at h; cases h
      | some s =>
        rw [merge_step ha hc] at h
        obtain ⟨t, ht, hg⟩ := cand_mem hc
        have hlt := total_rm_lt ht
        obtain ⟨o, ho, rfl⟩ := Option.map_eq_some_iff.1 h
        have h1 := ih _ (by omega) rfl ho (rm1 s y) (rm1_mem hy)
        cases y with
        | nil => exact List.nil_sublist _
        | cons a r =>
          unfold rm1 at h1
          simp only [] at h1
          by_cases e : a = s
          · subst e
            rw [if_pos rfl] at h1
            exact h1.cons_cons _
          · rw [if_neg e] at h1
            exact h1.cons _
    · rw [merge_done (by simpa using ha)] at h
      cases h
      have : y.isEmpty = true := by
        have h2 : anyLeft l = false := by simpa using ha
        unfold anyLeft at h2
        rw [List.any_eq_false] at h2
        have := h2 y hy
        simpa using this
      rw [List.isEmpty_iff.1 this]
      exact List.Sublist.refl _
/-- The line of a class in the line of another one stands in it in the same order. -/
theorem line_sub {g : List Heir} (h : heirsOk [] g = true) : ∀ (i : Nat) (l : List ByteArray), line g i = some l → ∀ x ∈ l, ∃ (j : Nat) (m : List ByteArray), j ≤ i ∧ (names g)[j]? = some x ∧ line g j = some m ∧ m.Sublist l := by
  intro i
  induction i using Nat.strongRecOn with
  | _ i ih =>
    intro l hl x hx
    have hl0 := hl
    cases hg : g[i]? with
    | none => unfold line at hl; simp only [lineF, hg] at hl; cases hl
    | some c =>
      rw [line_eq h hg] at hl
      obtain ⟨ls, hls, hl⟩ := Option.bind_eq_some_iff.1 hl
      obtain ⟨t, ht, rfl⟩ := Option.map_eq_some_iff.1 hl
      obtain ⟨h1, h2⟩ := allSome_get hls
      have hsub := merge_sub ht
      rcases List.mem_cons.1 hx with rfl | hx
      · exact ⟨i, _, Nat.le_refl _, names_get hg, hl0, List.Sublist.refl _⟩
      · obtain ⟨z, hz, hxz⟩ := (merge_mem ht).1 x hx
        have key : ∀ (k : Nat) (s : ByteArray), c.supers[k]? = some s → ∃ (j : Nat) (z : List ByteArray), j < i ∧ (names g)[j]? = some s ∧ line g j = some z ∧ ls[k]? = some z := by
          intro k s hk
          obtain ⟨z', hz', hf⟩ := h2 k s hk
          obtain ⟨j, hj, he⟩ := super_at h hg (List.mem_of_getElem? hk)
          unfold lineOf at hf; rw [he] at hf
          exact ⟨j, z', hj, lastAt_some he, hf, hz'⟩
        rw [List.mem_append, List.mem_singleton] at hz
        rcases hz with hz | rfl
        · obtain ⟨k, hk, e⟩ := List.getElem_of_mem hz
          have hks : k < c.supers.length := by omega
          obtain ⟨j, z', hj, hn, hf, hz'⟩ := key k _ (List.getElem?_eq_getElem hks)
          rw [List.getElem?_eq_getElem hk, e] at hz'; cases hz'
          obtain ⟨j2, m, hj2, hn2, hm, hs⟩ := ih j hj z hf x hxz
          exact ⟨j2, m, by omega, hn2, hm, (hs.trans (hsub z (List.mem_append.2 (.inl hz)))).cons _⟩
        · obtain ⟨k, hk⟩ := List.mem_iff_getElem?.1 hxz
          obtain ⟨j, z', hj, hn, hf, hz'⟩ := key k x hk
          exact ⟨j, z', by omega, hn, hf, (hsub z' (List.mem_append.2 (.inl (List.mem_of_getElem? hz')))).cons _⟩
/-- A class of a hierarchy: its line begins with it, and keeps the lines of the classes in it. -/
theorem cpl_head {l : List CI} (h : LookOk l) {x : CI} (hx : x ∈ l) : ∃ t, x.cpl = x.name :: t := by
  obtain ⟨j, hj⟩ := List.mem_iff_getElem?.1 hx
  obtain ⟨_, _, y, t, hy, e, _⟩ := line_mem (c3Check_zero h.2.2.2.2.1).2 j x.cpl (h.2.2.2.2.2 j x hj)
  rw [heirsOf_get hj] at hy
  cases hy
  exact ⟨t, e⟩
theorem cpl_sub {l : List CI} (h : LookOk l) {x : CI} (hx : x ∈ l) {n : ByteArray} (hn : n ∈ x.cpl) : ∃ y ∈ l, y.name = n ∧ l.find? (fun z => decide (z.name = n)) = some y ∧ y.cpl.Sublist x.cpl := by
  obtain ⟨j, hj⟩ := List.mem_iff_getElem?.1 hx
  obtain ⟨k, m, hk, hk1, hk2, hs⟩ := line_sub (c3Check_zero h.2.2.2.2.1).2 j x.cpl (h.2.2.2.2.2 j x hj) n hn
  rw [heirNames, List.getElem?_map] at hk1
  obtain ⟨y, hy, e⟩ := Option.map_eq_some_iff.1 hk1
  have := h.2.2.2.2.2 k y hy
  rw [hk2] at this
  cases this
  exact ⟨y, List.mem_of_getElem? hy, e, (find_at h hy e).1, hs⟩
theorem find_mem {l : List CI} {n : ByteArray} {y : CI} (h : l.find? (fun z => decide (z.name = n)) = some y) : y ∈ l ∧ y.name = n := ⟨List.mem_of_find?_eq_some h, by simpa using List.find?_some h⟩
theorem belowC_iff {l : List CI} {a b : ByteArray} : belowC l a b = true ↔ ∃ x, l.find? (fun z => decide (z.name = a)) = some x ∧ b ∈ x.cpl := by
  unfold belowC
  cases hf : l.find? (fun z => decide (z.name = a)) with
  | none => simp
  | some x => simp [hasS_iff]
theorem belowC_trans {l : List CI} (h : LookOk l) {a b c : ByteArray} (h1 : belowC l a b = true) (h2 : belowC l b c = true) : belowC l a c = true := by
  obtain ⟨x, hx, hb⟩ := belowC_iff.1 h1
  obtain ⟨y, hy, hc⟩ := belowC_iff.1 h2
  obtain ⟨y', _, _, hy', hs⟩ := cpl_sub h (find_mem hx).1 hb
  rw [hy] at hy'; cases hy'
  exact belowC_iff.2 ⟨x, hx, hs.subset hc⟩
theorem belowC_self {l : List CI} (h : LookOk l) {a : ByteArray} {x : CI} (hx : l.find? (fun z => decide (z.name = a)) = some x) : belowC l a a = true := by
  obtain ⟨hm, hn⟩ := find_mem hx
  obtain ⟨t, ht⟩ := cpl_head h hm
  exact belowC_iff.2 ⟨x, hx, by rw [ht, hn]; simp⟩
end Go.Proofs.YtepnmejahbiacaaGreat
set_option linter.unusedVariables false
set_option linter.unusedSimpArgs false
namespace Go.Proofs.YtepnmejahbiacaaGreat
open Go.RowKit
def hasI (l : List Int) (x : Int) : Bool := l.any fun y => decide (y = x)
theorem hasI_iff {l : List Int} {x : Int} : hasI l x = true ↔ x ∈ l := by
  unfold hasI; rw [List.any_eq_true]
  exact ⟨fun ⟨y, hy, e⟩ => by have := of_decide_eq_true e; rwa [← this], fun h => ⟨x, h, decide_eq_true rfl⟩⟩
theorem hasI_false {l : List Int} {x : Int} : hasI l x = false ↔ x ∉ l := by
  rw [← hasI_iff]; cases hasI l x <;> simp
def seenI (seen : List Int) (s : Int) : Option Value := if hasI seen s then some (.bool true) else none
theorem seenI_snoc (seen : List Int) (x : Int) : (fun s => if s = x then some (Value.bool true) else seenI seen s) = seenI (seen ++ [x]) := by
  funext s; unfold seenI hasI
  by_cases h : s = x
  · subst h; simp
  · have : ¬ x = s := fun e => h e.symm
    rw [if_neg h, List.any_append]; simp only [List.any_cons, List.any_nil, decide_eq_false this, Bool.or_false]
theorem seenI_get (seen : List Int) (s : Int) : (seenI seen s).getD (.bool false) = .bool (hasI seen s) := by
  unfold seenI; cases hasI seen s <;> rfl
noncomputable abbrev intKey : KeyKind Tryz.prog 3 Int := KeyKind.int Tryz.underlying3
theorem run_seenI {w : World} {b : Nat} {seen : List Int} (h : MapF intKey b (seenI seen) w) (s : Int) :
    (Instr.lookup 114 (.map (some b)) (.int .i64 s) false).run Tryz.prog w = .ok (.bool (hasI seen s)) w := by
  have := run_lookupF h Tryz.underlying114 (zero_bool w) s false
  rw [seenI_get] at this
  exact this
theorem areMs_dup {l : List CI} {ms : List Meth} {k : Nat} {x : Meth} (hx : ms[k]? = some x) (h : hasI ((ms.take k).map (·.id)) x.id = true) : AreMs l ms = false := by
  unfold AreMs
  rw [decide_eq_false]; rfl
  intro hd
  obtain ⟨hk, rfl⟩ := List.getElem?_eq_some_iff.1 hx
  obtain ⟨y, hy, e⟩ := List.mem_map.1 (hasI_iff.1 h)
  obtain ⟨j, hj⟩ := List.mem_iff_getElem?.1 hy
  rw [List.getElem?_take] at hj
  split at hj
  · have h1 : (ms.map (·.id))[j]? = some ms[k].id := by rw [List.getElem?_map, hj]; exact congrArg some e
    have h2 : (ms.map (·.id))[k]? = some ms[k].id := by rw [List.getElem?_map, hx]; rfl
    have := nodup_inj hd h1 h2
    omega
  · cases hj
theorem areMs_bad {l : List CI} {ms : List Meth} {x : Meth} {n0 : Nat} (hn0 : (ms[0]?.map fun m => m.pars.length).getD 0 = n0) (hx : x ∈ ms) (h : parsOk l n0 x = false) : AreMs l ms = false := by
  unfold AreMs
  rw [hn0, Bool.and_eq_false_iff]
  exact .inr (List.all_eq_false.2 ⟨x, hx, by rw [h]; decide⟩)
theorem parsOk_type {l : List CI} {n0 : Nat} {x : Meth} {p : Par} (hp : p ∈ x.pars) (h : validErr l p.type ≠ 0) : parsOk l n0 x = false := by
  unfold parsOk
  rw [Bool.and_eq_false_iff]
  exact .inr (List.all_eq_false.2 ⟨p, hp, by simpa using h⟩)
set_option maxHeartbeats 16000000 in
set_option maxRecDepth 100000 in
theorem areMethods_calls (AH : Option Addr) (cH : Nat) (l : List CI) (A : Option Addr) (c : Nat) (ms : List Meth) (W : World) (GH : Nat → Prop) (h : Held GH (CIs AH l) W) (hcH : l.length ≤ cH) (ol : ∀ x ∈ l, ciOk x) (hl : l.length ≤ 1000000)
    (G : Nat → Prop) (hM : Held G (Meths A ms) W) (hn : ms.length ≤ 1000000) (hL : LookOk l) (hs : ∀ m ∈ ms, ∀ p ∈ m.pars, TySmall p.type) (hp : ∀ m ∈ ms, m.pars.length ≤ 1000000) :
    Calls Tryz.prog 45 #[.slice AH l.length cH, .slice A ms.length c] W fun e W' => e = .returned (.bool (AreMs l ms)) ∧ Below W.heap.size W W' := by
  obtain ⟨n0, hn0⟩ : ∃ n0, (ms[0]?.map fun m => m.pars.length).getD 0 = n0 := ⟨_, rfl⟩
  have HN0 := Lib.hid hn0
  clear hn0
  have hmm := @run_makeMap Tryz.prog
  have HL := Lib.hid hL
  clear hL
  go_enter Tryz.func45, Tryz.ntmps45
  go_wp2
  clear hmm
  have hM0 := MapF.made intKey W W.heap.size rfl
  go_loopw [13] (fun i wr => ∃ k : Nat, k ≤ ms.length ∧ i = .int .i64 k ∧ MapF intKey W.heap.size (seenI ((ms.take k).map (·.id))) wr ∧ ((ms.take k).map (·.id)).Nodup ∧ (ms.take k).all (parsOk l n0) = true ∧ Below W.heap.size W wr) (fun i _ => ms.length - (intOf i).toNat)
  case atStart => exact ⟨0, Nat.zero_le _, rfl, hM0, by simp, by simp, (Below.refl _ W).alloc (Nat.le_refl _) _⟩
  case round =>
    clear hM0
    obtain ⟨k, hk, rfl, hMk, hnd, hall, hb⟩ := hrel
    have HND := Lib.hid hnd
    have HALL := Lib.hid hall
    clear hnd hall
    by_cases hlt : k < ms.length
    · obtain ⟨b, off, rfl⟩ := Slc.addrH hM (by omega)
      have hx : ms[k]? = some ms[k] := List.getElem?_eq_getElem hlt
      have h0 : ms[0]? = some ms[0] := List.getElem?_eq_getElem (by omega)
      have hxm : ms[k] ∈ ms := List.getElem_mem hlt
      generalize ms[k] = x at hx hxm
      generalize ms[0] = m0 at h0
      have HX := Lib.hid hx
      have HXM := Lib.hid hxm
      have HN : Hid (m0.pars.length = n0) := Lib.hid (by have := HN0.out; rw [h0] at this; simpa using this)
      obtain ⟨A1, c1, A2, c2, p1, p2, p3, p4, g0, g1, g2, g3, g4, g5, g6, g7⟩ := Meths.atH (hM.here.keep (Keep.below hb)) hx
      obtain ⟨B1, d1, B2, d2, _, _, _, _, _, _, q2, _, _, _, _, _⟩ := Meths.atH (hM.keep (Keep.all hb)) h0
      rw [Nat.zero_mul, Nat.add_zero] at q2
      have hpx := hp x hxm
      have hpm := hp m0 (List.mem_of_getElem? h0)
      have HSX := Lib.hid (hs x hxm)
      clear hx h0 hxm
      go_wp2_with (fail)
      obtain ⟨W1, hW1⟩ : ∃ W1, W1 = wr.alloc (.cells #[.int .i64 x.id, .string x.lib, .slice A1 x.pars.length c1, .int .i64 x.result.kind, .string x.result.name, .int .i64 x.result.lo, .int .i64 x.result.hi, .slice A2 x.result.args.length c2] 68) := ⟨_, rfl⟩
      rw [← hW1]
      have b1 : Below wr.heap.size wr W1 := by rw [hW1]; exact (Below.refl _ wr).alloc (Nat.le_refl _) _
      have xm : ∀ j u, [Value.int .i64 x.id, .string x.lib, .slice A1 x.pars.length c1, .int .i64 x.result.kind, .string x.result.name, .int .i64 x.result.lo, .int .i64 x.result.hi, .slice A2 x.result.args.length c2][j]? = some u → W1.cell? ⟨wr.heap.size, j, none⟩ = some u := fun j u hj => by rw [hW1]; exact cell_new wr _ _ _ rfl j u hj
      clear hW1
      have m0' := xm 0 _ rfl
      have m2' := xm 2 _ rfl
      have q2' := cell_all q2 b1
      have hM1 : MapF intKey W.heap.size (seenI ((ms.take k).map (·.id))) W1 := hMk.keep (Keep.all (G := fun _ => True) b1) trivial
      have hlk : ∀ n, (Instr.lookup 114 (.map (some W.heap.size)) (.int .i64 x.id) false).run Tryz.prog (W1.drewN n) = .ok (.bool (hasI ((ms.take k).map (·.id)) x.id)) (W1.drewN n) := fun n => run_seenI (hM1.keep (Keep.drewN (fun _ => True) W1 n) trivial) x.id
      have bW1 := hb.trans (b1.mono hb.size)
      have HM1 := Lib.hid hM1
      have hmlt := hMk.lt
      clear hM1 hMk g0 g1 g2 g3 g4 g5 g6 g7 q2 p3 p4 xm
      generalize hseen : (ms.take k).map (·.id) = seen at hlk
      have HSE := Lib.hid hseen
      clear hseen
      cases n1 : hasI seen x.id with
      | true =>
        have HB : Hid (AreMs l ms = false) := Lib.hid (areMs_dup HX.out (by rw [HSE.out]; exact n1))
        rw [n1] at hlk
        clear n1
        go_quiet (fail)
        go_wp2
        go_ret
        exact ⟨(by rw [HB.out]; try rfl), bW1.trans ((drewN_below _ _ _).mono bW1.size)⟩
      | false =>
        rw [n1] at hlk
        by_cases n2 : x.pars.length = m0.pars.length
        · have t2 : ((x.pars.length : Int) != (m0.pars.length : Int)) = false := bne_eq_false_iff_eq.2 (by omega)
          by_cases n3 : 6 < x.pars.length
          · have n3' : (6 : Int) < (x.pars.length : Int) := by omega
            have HB : Hid (AreMs l ms = false) := Lib.hid (areMs_bad HN0.out HXM.out (by unfold parsOk; rw [decide_eq_false (show ¬ x.pars.length ≤ 6 by omega)]; simp))
            clear n1 n2
            go_quiet (fail)
            go_wp2
            go_ret
            exact ⟨(by rw [HB.out]; try rfl), bW1.trans ((drewN_below _ _ _).mono bW1.size)⟩
          · have n3' : ¬ (6 : Int) < (x.pars.length : Int) := by omega
            have HQ := Lib.hid n1
            have HE := Lib.hid n2
            have N3 := Lib.hid n3
            clear n1 n2
            go_quiet (fail)
            have hMs : MapF intKey W.heap.size (seenI seen) W1 := HSE.out ▸ HM1.out
            go_wp2_with (at_mapUpdate; refine wp_mapUpdate intKey _ rfl 114 4 _ _ _ rfl Tryz.underlying114 W.heap.size (seenI seen) (hMs.keep (Keep.drewN (fun _ => True) W1 _) trivial) rfl x.id rfl (.bool true) rfl ?_)
            intro w3 hM3 hg3
            rw [seenI_snoc] at hM3
            have hbq : Below W.heap.size W w3 := (bW1.trans ((drewN_below _ _ _).mono bW1.size)).grown hg3 (by have := bW1.size; simpa using this) fun k e => by cases e; exact Nat.le_refl _
            have hkq : Keep (fun b => b ≠ W.heap.size) W1 w3 := (Keep.drewN _ W1 _).trans (Keep.grown hg3 fun b hb e => hb (by cases e; rfl))
            have m2q := cell_keep m2' hkq (show wr.heap.size ≠ W.heap.size by omega)
            have p2q : Held (fun b => b < W.heap.size) (Pars A1 x.pars) w3 := p2.keep ((Keep.all b1).trans (hkq.mono fun b hb => by omega))
            clear m0' m2' q2' hMs
            clear hlk n3'
            go_wp2_with (fail)
            go_loopw [44] (fun i w2 => ∃ j : Nat, j ≤ x.pars.length ∧ i = .int .i64 j ∧ (∀ (i : Nat) (p : Par), i < j → x.pars[i]? = some p → validErr l p.type = 0) ∧ Below w3.heap.size w3 w2) (fun i _ => x.pars.length - (intOf i).toNat)
            case atStart => exact ⟨0, Nat.zero_le _, rfl, fun i p h => absurd h (by omega), Below.refl _ _⟩
            case round =>
              obtain ⟨j, hj, rfl, hv, hb2⟩ := hrel
              have HV := Lib.hid hv
              clear hv
              have bW2 := hbq.trans (hb2.mono hbq.size)
              by_cases hjl : j < x.pars.length
              · obtain ⟨bp, offp, rfl⟩ := Slc.addrH p2q (by omega)
                have hy : x.pars[j]? = some x.pars[j] := List.getElem?_eq_getElem hjl
                generalize x.pars[j] = p at hy
                have HY := Lib.hid hy
                obtain ⟨A3, c3, r1, r2, g0, g1, g2, g3, g4, g5⟩ := Pars.atH (p2q.keep (Keep.all hb2)) hy
                have HVal := Lib.hid (fun V (hv : Below wr.heap.size wr V) => Valid_calls AH cH l p.type A3 c3 V hcH GH ((h.keep (Keep.all bW2)).keep (Keep.all hv)) ol hl _ (r2.keep (Keep.all hv)) r1 (HSX.out p (List.mem_of_getElem? hy)))
                have bw2 : Below wr.heap.size wr (wr.alloc (.cells #[.string p.name, .int .i64 p.type.kind, .string p.type.name, .int .i64 p.type.lo, .int .i64 p.type.hi, .slice A3 p.type.args.length c3] 76)) := (Below.refl _ wr).alloc (Nat.le_refl _) _
                clear hy
                go_wp2_with (fail)
                refine (HVal.out _ bw2).mono ?_
                clear HVal
                rintro e V ⟨hbv, (⟨hn', _⟩ | ⟨_, rfl⟩)⟩
                · exact absurd HL.out hn'
                have bV := bw2.trans (hbv.mono bw2.size)
                by_cases hz : validErr l p.type = 0
                · have HZ := Lib.hid hz
                  have t3 : (validErr l p.type != 0) = false := bne_eq_false_iff_eq.2 hz
                  clear hz
                  go_wp2
                  go_roundw
                  case rel =>
                    refine ⟨j + 1, by omega, by go_num, fun i p' hi hp => ?_, hb2.trans (bV.mono hb2.size)⟩
                    rcases Nat.lt_or_ge i j with q | q
                    · exact HV.out i p' q hp
                    · obtain rfl : i = j := by omega
                      rw [HY.out] at hp; cases hp; exact HZ.out
                  case measure => simp [intOf]; omega
                · have t3 : (validErr l p.type != 0) = true := by rw [bne_iff_ne]; exact hz
                  have HB : Hid (AreMs l ms = false) := Lib.hid (areMs_bad HN0.out HXM.out (parsOk_type (List.mem_of_getElem? HY.out) hz))
                  clear hz
                  go_wp2
                  go_ret
                  exact ⟨(by rw [HB.out]; try rfl), bW2.trans (bV.mono bW2.size)⟩
              · obtain rfl : j = x.pars.length := by omega
                have hM2 : MapF intKey W.heap.size (seenI (seen ++ [x.id])) wr := hM3.keep (Keep.all (G := fun _ => True) hb2) trivial
                go_wp2
                go_roundw
                case rel =>
                  refine ⟨k + 1, by omega, by go_num, ?_, ?_, ?_, bW2⟩
                  · rw [take_snoc HX.out, List.map_append, HSE.out]; exact hM2
                  · rw [take_snoc HX.out, List.map_append]
                    refine List.nodup_append.2 ⟨HND.out, by simp, fun a ha b hb e => ?_⟩
                    simp at hb; subst hb; subst e
                    rw [HSE.out] at ha
                    exact hasI_false.1 HQ.out ha
                  · rw [take_snoc HX.out, List.all_append, HALL.out]
                    have hp1 : parsOk l n0 x = true := by
                      unfold parsOk
                      rw [decide_eq_true (show x.pars.length = n0 by rw [HE.out, HN.out]), decide_eq_true (show x.pars.length ≤ 6 by have := N3.out; omega)]
                      simp only [Bool.true_and, List.all_eq_true, decide_eq_true_eq]
                      intro p hp
                      obtain ⟨i, hi⟩ := List.mem_iff_getElem?.1 hp
                      exact HV.out i p (List.getElem?_eq_some_iff.1 hi).1 hi
                    simp [hp1]
                case measure => simp [intOf]; omega
        · have t2 : ((x.pars.length : Int) != (m0.pars.length : Int)) = true := by rw [bne_iff_ne]; omega
          have HB : Hid (AreMs l ms = false) := Lib.hid (areMs_bad HN0.out HXM.out (by unfold parsOk; rw [decide_eq_false (show ¬ x.pars.length = n0 by rw [← HN.out]; exact n2)]; rfl))
          clear n1 n2
          go_quiet (fail)
          go_wp2
          go_ret
          exact ⟨(by rw [HB.out]; try rfl), bW1.trans ((drewN_below _ _ _).mono bW1.size)⟩
    · obtain rfl : k = ms.length := by omega
      have HB : Hid (AreMs l ms = true) := Lib.hid (by
        have h1 := HND.out; have h2 := HALL.out
        rw [List.take_length] at h1 h2
        unfold AreMs; rw [HN0.out, h2, decide_eq_true h1]; rfl)
      go_wp2
      go_ret
      exact ⟨(by rw [HB.out]; try rfl), hb⟩
end Go.Proofs.YtepnmejahbiacaaGreat
