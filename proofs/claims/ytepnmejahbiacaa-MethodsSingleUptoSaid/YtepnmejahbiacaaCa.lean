/- Ca + Op: texts joined. -/
import Derived.Test.YtepnmejahbiacaaCm
import Derived.Test.YtepnmejahbiacaaHa
import Derived.Test.YtepnmejahbiacaaSf
/- Ca + Ap: texts joined. -/
/- A call in memory (methods.call); methods.call.applies. -/
set_option linter.unusedVariables false
set_option linter.unusedSimpArgs false
namespace Go.Proofs.Ytepnmejahbiacaa
open Go.RowKit

def tagR (t : Tag) (cs : List Value) (_ : World) : Prop := cs = [.int .i64 t.kind, .int .i64 t.num, .string t.name]
theorem tagR_one : OneR tagR := fun x cs _ h u hu => by
  have e : cs = [Value.int .i64 x.kind, .int .i64 x.num, .string x.name] := h
  subst e; simp at hu; rcases hu with rfl | rfl | rfl <;> rfl
theorem tagR_stable : Stable tagR := fun _ _ _ h _ _ => h
abbrev Tags (A : Option Addr) (l : List Tag) (w : World) : Prop := Slc tagR 3 A l w
theorem Tags.atH {G : Nat → Prop} {b off : Nat} {l : List Tag} {w : World} (h : Held G (Tags (some ⟨b, off, none⟩) l) w) {k : Nat} {x : Tag} (hk : l[k]? = some x) :
    w.cell? ⟨b, off + k * 3, none⟩ = some (.int .i64 x.kind) ∧ w.cell? ⟨b, off + k * 3 + 1, none⟩ = some (.int .i64 x.num) ∧ w.cell? ⟨b, off + k * 3 + 2, none⟩ = some (.string x.name) := by
  obtain ⟨cs, _, hr, hc⟩ := Slc.atH h (by decide) hk
  obtain rfl : cs = _ := hr.now
  exact ⟨(hc 0 _ rfl).now, (hc 1 _ rfl).now, (hc 2 _ rfl).now⟩
/-- The hierarchy and the arguments of a call, at its block. -/
structure CallAt (cp : Nat) (AH : Option Addr) (cH : Nat) (l : List CI) (AT : Option Addr) (cT : Nat) (ts : List Tag) (w : World) : Prop where
  c0 : w.cell? ⟨cp, 0, none⟩ = some (.slice AH l.length cH)
  c1 : w.cell? ⟨cp, 1, none⟩ = some (.slice AT ts.length cT)
theorem CallAt.keep {cp : Nat} {AH : Option Addr} {cH : Nat} {l : List CI} {AT : Option Addr} {cT : Nat} {ts : List Tag} {w w' : World} (h : CallAt cp AH cH l AT cT ts w) (q : Below w.heap.size w w') : CallAt cp AH cH l AT cT ts w' :=
  ⟨cell_all h.c0 q, cell_all h.c1 q⟩
/-- A method applies to the arguments. -/
def Applies (l : List CI) (ts : List Tag) (m : Meth) : Prop := ∀ (i : Nat) (p : Par) (t : Tag), m.pars[i]? = some p → ts[i]? = some t → HasOk l t p.type
end Go.Proofs.Ytepnmejahbiacaa

/- methods.call.applies. -/
namespace Go.Proofs.Ytepnmejahbiacaa
open Go.RowKit

set_option maxHeartbeats 8000000 in
set_option maxRecDepth 100000 in
theorem applies_calls (cp : Nat) (AH : Option Addr) (cH : Nat) (l : List CI) (AT : Option Addr) (cT : Nat) (ts : List Tag) (m : Meth) (A1 A2 : Option Addr) (c1 c2 : Nat) (W : World) (HC : CallAt cp AH cH l AT cT ts W)
    (GH : Nat → Prop) (h : Held GH (CIs AH l) W) (hcH : l.length ≤ cH) (ol : ∀ x ∈ l, ciOk x) (hl : l.length ≤ 1000000) (GT : Nat → Prop) (hT : Held GT (Tags AT ts) W)
    (G : Nat → Prop) (hP : Held G (Pars A1 m.pars) W) (hn : m.pars.length = ts.length) (hn2 : m.pars.length ≤ 1000000) (hs : ∀ p ∈ m.pars, TySmall p.type) :
    Calls Try.prog 43 #[.pointer (some ⟨cp, 0, none⟩), .agg #[.int .i64 m.id, .string m.lib, .slice A1 m.pars.length c1, .int .i64 m.result.kind, .string m.result.name, .int .i64 m.result.lo, .int .i64 m.result.hi, .slice A2 m.result.args.length c2]] W
      fun e W' => Below W.heap.size W W' ∧ ((Applies l ts m ∧ e = .returned (.bool true)) ∨ (¬ Applies l ts m ∧ e = .returned (.bool false))) := by
  have HNN := Lib.hid hn
  clear hn
  go_enter Try.func43, Try.ntmps43
  go_wp2
  go_loopw [10] (fun i wr => ∃ k : Nat, k ≤ m.pars.length ∧ i = .int .i64 k ∧ (∀ (i : Nat) (p : Par) (t : Tag), i < k → m.pars[i]? = some p → ts[i]? = some t → HasOk l t p.type) ∧ Below W.heap.size W wr) (fun i _ => m.pars.length - (intOf i).toNat)
  case atStart => exact ⟨0, Nat.zero_le _, rfl, fun i p t hi => absurd hi (by omega), (Below.refl _ W).alloc (Nat.le_refl _) _⟩
  case round =>
    obtain ⟨k, hk, rfl, hok, hb⟩ := hrel
    have HOK := Lib.hid hok
    clear hok
    by_cases hlt : k < m.pars.length
    · obtain ⟨b, off, rfl⟩ := Slc.addrH hP (by omega)
      obtain ⟨b2, off2, rfl⟩ := Slc.addrH hT (by rw [← HNN.out]; omega)
      have hx : m.pars[k]? = some m.pars[k] := List.getElem?_eq_getElem hlt
      have htk : k < ts.length := by rw [← HNN.out]; exact hlt
      have ht : ts[k]? = some ts[k] := List.getElem?_eq_getElem htk
      generalize m.pars[k] = p at hx
      generalize ts[k] = t at ht
      have HX := Lib.hid hx
      have HT := Lib.hid ht
      have HCr := HC.keep hb
      have q0 := HCr.c0
      have q1 := HCr.c1
      obtain ⟨A3, c3, p1, p2, g0, g1, g2, g3, g4, g5⟩ := Pars.atH (hP.keep (Keep.all hb)) hx
      obtain ⟨d0, d1, d2⟩ := Tags.atH (hT.keep (Keep.all hb)) ht
      have hcpl := cell_lt q0
      have hb2l := cell_lt d0
      have HHas := Lib.hid (fun V (hv : Below wr.heap.size wr V) => Has_calls AH cH l t p.type A3 c3 V hcH GH ((h.keep (Keep.all hb)).keep (Keep.all hv)) ol hl G (p2.keep (Keep.all hv)) p1 (hs p (List.mem_of_getElem? hx)))
      clear hx ht
      by_cases hh : HasOk l t p.type
      · have HO := Lib.hid hh
        have HH2 : Hid (∀ V, Below wr.heap.size wr V → Calls Try.prog 45 #[.slice AH l.length cH, tagV t, tyV p.type A3 c3] V fun e V' => Below V.heap.size V V' ∧ e = .returned (.bool true)) := Lib.hid (fun V hv => (HHas.out V hv).mono fun e V' hq => ⟨hq.1, by rcases hq.2 with q | q; exact q.2; exact absurd HO.out q.1⟩)
        clear hh HHas
        go_wp2
        refine (wpIn_wide (n := 9)).1 ?_
        gi_region_with (refine ⟨trivial, ?_⟩; gi_at_call 45; refine (callsIn_wide.2 (HH2.out _ (((Below.refl _ wr).alloc (Nat.le_refl _) _).drew))).mono ?_; rintro e V ⟨hbv, rfl⟩)
        all_goals go_wp2
        all_goals
          have bq := ((Below.refl _ wr).alloc (Nat.le_refl _) (Obj.cells #[.string p.name, .int .i64 p.type.kind, .string p.type.name, .int .i64 p.type.lo, .int .i64 p.type.hi, .slice A3 p.type.args.length c3] 62)).drew
          have bf : Below W.heap.size W V := hb.trans ((bq.trans (hbv.mono bq.size)).mono hb.size)
          refine ⟨⟨k + 1, by omega, by go_num, fun i p' t' hi hp ht => ?_, bf⟩, by simp [intOf]; omega⟩
          rcases Nat.lt_or_ge i k with h | h
          · exact HOK.out i p' t' h hp ht
          · obtain rfl : i = k := by omega
            rw [HX.out] at hp; rw [HT.out] at ht; cases hp; cases ht; exact HO.out
      · have HO := Lib.hid hh
        have HH2 : Hid (∀ V, Below wr.heap.size wr V → Calls Try.prog 45 #[.slice AH l.length cH, tagV t, tyV p.type A3 c3] V fun e V' => Below V.heap.size V V' ∧ e = .returned (.bool false)) := Lib.hid (fun V hv => (HHas.out V hv).mono fun e V' hq => ⟨hq.1, by rcases hq.2 with q | q; exact absurd q.1 HO.out; exact q.2⟩)
        clear hh HHas
        go_wp2
        refine (wpIn_wide (n := 9)).1 ?_
        gi_region_with (refine ⟨trivial, ?_⟩; gi_at_call 45; refine (callsIn_wide.2 (HH2.out _ (((Below.refl _ wr).alloc (Nat.le_refl _) _).drew))).mono ?_; rintro e V ⟨hbv, rfl⟩)
        all_goals go_wp2
        all_goals
          have bq := ((Below.refl _ wr).alloc (Nat.le_refl _) (Obj.cells #[.string p.name, .int .i64 p.type.kind, .string p.type.name, .int .i64 p.type.lo, .int .i64 p.type.hi, .slice A3 p.type.args.length c3] 62)).drew
          have bf : Below W.heap.size W V := hb.trans ((bq.trans (hbv.mono bq.size)).mono hb.size)
          go_ret
          exact ⟨bf, .inr ⟨fun hA => HO.out (hA k p t HX.out HT.out), rfl⟩⟩
    · have hkl : k = m.pars.length := by omega
      subst hkl
      go_wp2
      go_ret
      exact ⟨hb, .inl ⟨fun i p t hp ht => HOK.out i p t (List.getElem?_eq_some_iff.1 hp).1 hp ht, rfl⟩⟩
end Go.Proofs.Ytepnmejahbiacaa

/- methods.opened: the place of a class. -/
set_option linter.unusedVariables false
set_option linter.unusedSimpArgs false
namespace Go.Proofs.Ytepnmejahbiacaa
open Go.RowKit

set_option maxHeartbeats 4000000 in
set_option maxRecDepth 100000 in
theorem opened1_calls (x : CI) (A2 A3 : Option Addr) (c2 c3 : Nat) (s : ByteArray) (sb : Nat) (w : World) (hs : w.cell? ⟨sb, 0, none⟩ = some (.string s)) :
    Calls Try.prog 67 #[.agg #[.string x.name, .string x.lib, .slice A2 x.supers.length c2, .slice A3 x.cpl.length c3, .bool x.abs, .bool x.seal_], .pointer (some ⟨sb, 0, none⟩)] w fun e w' => e = .returned (.bool (decide (x.name = s))) ∧ Below w.heap.size w w' := by
  have hl := cell_lt hs
  go_enter Try.func67, Try.ntmps67
  go_wp2
  go_ret
  exact ⟨rfl, (Below.refl _ w).alloc (Nat.le_refl _) _⟩

set_option maxHeartbeats 4000000 in
set_option maxRecDepth 100000 in
theorem place_calls (A : Option Addr) (c : Nat) (l : List CI) (s : ByteArray) (sb : Nat) (w : World) (hs : w.cell? ⟨sb, 0, none⟩ = some (.string s)) (G : Nat → Prop) (h : Held G (CIs A l) w) (hl : l.length ≤ 1000000) :
    Calls Try.prog 66 #[.slice A l.length c, .func (.func 67) #[] #[.pointer (some ⟨sb, 0, none⟩)]] w
      (Found (fun i wr => Below w.heap.size w wr ∧ ∀ j x, j < i → l[j]? = some x → x.name ≠ s) (fun i wr => Below w.heap.size w wr ∧ (∀ j x, j < i → l[j]? = some x → x.name ≠ s) ∧ ∃ x, l[i]? = some x ∧ x.name = s) (Panics fun _ _ => False) l.length) := by
  obtain ⟨b, off, hbo⟩ : ∃ b off, 0 < l.length → A = some ⟨b, off, none⟩ := by
    by_cases h0 : 0 < l.length
    · obtain ⟨b, off, e⟩ := Slc.addrH h h0
      exact ⟨b, off, fun _ => e⟩
    · exact ⟨0, 0, fun h => absurd h h0⟩
  refine indexFuncCls A l.length c 67 _ (fun i => (l[i]?.map fun x => Value.string x.name).getD undef) (fun i => (l[i]?.map fun x => Value.string x.lib).getD undef) (fun i => (w.cell? ⟨b, off + i * 6 + 2, none⟩).getD undef) (fun i => (w.cell? ⟨b, off + i * 6 + 3, none⟩).getD undef)
    (fun i => (l[i]?.map fun x => Value.bool x.abs).getD undef) (fun i => (l[i]?.map fun x => Value.bool x.seal_).getD undef) w (by omega) (enters Try.func67 (by kernel_rfl) rfl) _ _ _ ⟨Below.refl _ _, fun j x hj => absurd hj (by omega)⟩ (fun h0 => ⟨b, off, hbo h0⟩) ?_ ?_
  · rintro i wr b' off' rfl hi ⟨hcw, _⟩
    have hb' := hbo (by omega)
    simp only [Option.some.injEq, Addr.mk.injEq, and_true] at hb'
    obtain ⟨rfl, rfl⟩ := hb'
    have hx : l[i]? = some l[i] := List.getElem?_eq_getElem hi
    obtain ⟨A2, c2, A3, c3, p1, p2, p3, p4, g0, g1, g2, g3, g4, g5⟩ := CIs.atH h hx
    simp only [hx, Option.map_some, Option.getD_some, g2, g3]
    exact ⟨cell_all g0 hcw, cell_all g1 hcw, cell_all g2 hcw, cell_all g3 hcw, cell_all g4 hcw, cell_all g5 hcw⟩
  · rintro i wr hi ⟨hcw, hjw⟩
    have hb' := hbo (by omega)
    subst hb'
    have hx : l[i]? = some l[i] := List.getElem?_eq_getElem hi
    generalize l[i] = x at hx
    obtain ⟨A2, c2, A3, c3, p1, p2, p3, p4, g0, g1, g2, g3, g4, g5⟩ := CIs.atH h hx
    simp only [hx, Option.map_some, Option.getD_some, g2, g3]
    refine (opened1_calls x A2 A3 c2 c3 s sb wr (cell_all hs hcw)).mono ?_
    rintro e w' ⟨rfl, hb2⟩
    have hb3 := hcw.trans (hb2.mono hcw.size)
    by_cases hq : x.name = s
    · exact .inr (.inl ⟨by rw [decide_eq_true hq], hb3, hjw, x, hx, hq⟩)
    · refine .inl ⟨by rw [decide_eq_false hq], hb3, fun j y hj hy => ?_⟩
      rcases Nat.lt_or_ge j i with h | h
      · exact hjw j y h hy
      · obtain rfl : j = i := by omega
        rw [hx] at hy; cases hy; exact hq

/-- The class of a tag is there. -/
theorem classOf_in {l : List CI} (h : LookOk l) {t : Tag} (ht : tagOk l t = true) : ∃ x ∈ l, x.name = classOfB t := by
  have hb : ∀ s : ByteArray, (baseL.any fun y => decide (y.name = s)) = true → ∃ x ∈ l, x.name = s := fun s hs => by
    obtain ⟨x, hx, e⟩ := List.any_eq_true.1 hs
    rw [← h.2.2.1] at hx
    exact ⟨x, List.mem_of_mem_take hx, of_decide_eq_true e⟩
  rcases tagOk_kind ht with k | k | k | k | k
  · exact hb _ (by unfold classOfB; rw [if_pos k]; decide)
  · exact hb _ (by unfold classOfB; rw [if_neg (by omega), if_pos k]; decide)
  · exact hb _ (by unfold classOfB; rw [if_neg (by omega), if_neg (by omega), if_pos k]; decide)
  · exact hb _ (by unfold classOfB; rw [if_neg (by omega), if_neg (by omega), if_neg (by omega), if_pos k]; decide)
  · unfold tagOk at ht
    rw [if_neg (by omega), if_neg (by omega), if_neg (by omega), if_neg (by omega), if_pos k] at ht
    simp only [Bool.and_eq_true] at ht
    have h2 := ht.1.1.2
    unfold hasB at h2
    obtain ⟨i, hi⟩ := Option.isSome_iff_exists.1 h2
    obtain ⟨x, hx, e⟩ := clsAt_get hi
    refine ⟨x, List.mem_of_getElem? hx, ?_⟩
    rw [e]; unfold classOfB
    rw [if_neg (by omega), if_neg (by omega), if_neg (by omega), if_neg (by omega)]
end Go.Proofs.Ytepnmejahbiacaa
