/- methods.below, methods.inside. -/
import Derived.Test.YtepnmejahbiacaaPs
import Derived.Test.YtepnmejahbiacaaC3c
import Derived.Test.YtepnmejahbiacaaSm
import Derived.Laws.EntriesVeiled
set_option linter.unusedVariables false
set_option linter.unusedSimpArgs false
namespace Go.Proofs.Ytepnmejahbiacaa
open Go.RowKit

set_option maxHeartbeats 4000000 in
set_option maxRecDepth 100000 in
theorem below1_calls (x : CI) (A2 A3 : Option Addr) (c2 c3 : Nat) (s : ByteArray) (sb : Nat) (w : World) (hs : w.cell? ⟨sb, 0, none⟩ = some (.string s)) :
    Calls Try.prog 98 #[.agg #[.string x.name, .string x.lib, .slice A2 x.supers.length c2, .slice A3 x.cpl.length c3, .bool x.abs, .bool x.seal_], .pointer (some ⟨sb, 0, none⟩)] w fun e w' => e = .returned (.bool (decide (x.name = s))) ∧ Below w.heap.size w w' := by
  have hl := cell_lt hs
  go_enter Try.func98, Try.ntmps98
  go_wp2
  go_ret
  exact ⟨rfl, (Below.refl _ w).alloc (Nat.le_refl _) _⟩

set_option maxHeartbeats 4000000 in
set_option maxRecDepth 100000 in
theorem belowPlace_calls (A : Option Addr) (c : Nat) (l : List CI) (s : ByteArray) (sb : Nat) (w : World) (hs : w.cell? ⟨sb, 0, none⟩ = some (.string s)) (G : Nat → Prop) (h : Held G (CIs A l) w) (hl : l.length ≤ 1000000) :
    Calls Try.prog 66 #[.slice A l.length c, .func (.func 98) #[] #[.pointer (some ⟨sb, 0, none⟩)]] w
      (Found (fun i wr => Below w.heap.size w wr ∧ ∀ j x, j < i → l[j]? = some x → x.name ≠ s) (fun i wr => Below w.heap.size w wr ∧ (∀ j x, j < i → l[j]? = some x → x.name ≠ s) ∧ ∃ x, l[i]? = some x ∧ x.name = s) (Panics fun _ _ => False) l.length) := by
  obtain ⟨b, off, hbo⟩ : ∃ b off, 0 < l.length → A = some ⟨b, off, none⟩ := by
    by_cases h0 : 0 < l.length
    · obtain ⟨b, off, e⟩ := Slc.addrH h h0
      exact ⟨b, off, fun _ => e⟩
    · exact ⟨0, 0, fun h => absurd h h0⟩
  refine indexFuncCls A l.length c 98 _ (fun i => (l[i]?.map fun x => Value.string x.name).getD undef) (fun i => (l[i]?.map fun x => Value.string x.lib).getD undef) (fun i => (w.cell? ⟨b, off + i * 6 + 2, none⟩).getD undef) (fun i => (w.cell? ⟨b, off + i * 6 + 3, none⟩).getD undef)
    (fun i => (l[i]?.map fun x => Value.bool x.abs).getD undef) (fun i => (l[i]?.map fun x => Value.bool x.seal_).getD undef) w (by omega) (enters Try.func98 (by kernel_rfl) rfl) _ _ _ ⟨Below.refl _ _, fun j x hj => absurd hj (by omega)⟩ (fun h0 => ⟨b, off, hbo h0⟩) ?_ ?_
  · rintro i wr b' off' rfl hi ⟨hcw, _⟩
    have hb' := hbo (by omega)
    simp only [Option.some.injEq, Addr.mk.injEq, and_true] at hb'
    obtain ⟨rfl, rfl⟩ := hb'
    have hx : l[i]? = some l[i] := List.getElem?_eq_getElem hi
    obtain ⟨A2, c2, A3, c3, p1, p2, p3, p4, g0, g1, g2, g3, g4, g5⟩ := CIs.atH h hx
    simp only [hx, Option.map_some, Option.getD_some, g2, g3]
    exact ⟨cell_all g0 hcw, cell_all g1 hcw, cell_all g2 hcw, cell_all g3 hcw, cell_all g4 hcw, cell_all g5 hcw⟩
  · rintro i wr hi ⟨hcw, hjw⟩
    have hb' := hbo (by omega)
    subst hb'
    have hx : l[i]? = some l[i] := List.getElem?_eq_getElem hi
    generalize l[i] = x at hx
    obtain ⟨A2, c2, A3, c3, p1, p2, p3, p4, g0, g1, g2, g3, g4, g5⟩ := CIs.atH h hx
    simp only [hx, Option.map_some, Option.getD_some, g2, g3]
    refine (below1_calls x A2 A3 c2 c3 s sb wr (cell_all hs hcw)).mono ?_
    rintro e w' ⟨rfl, hb2⟩
    have hb3 := hcw.trans (hb2.mono hcw.size)
    by_cases hq : x.name = s
    · exact .inr (.inl ⟨by rw [decide_eq_true hq], hb3, hjw, x, hx, hq⟩)
    · refine .inl ⟨by rw [decide_eq_false hq], hb3, fun j y hj hy => ?_⟩
      rcases Nat.lt_or_ge j i with h | h
      · exact hjw j y h hy
      · obtain rfl : j = i := by omega
        rw [hx] at hy; cases hy; exact hq


set_option maxHeartbeats 8000000 in
set_option maxRecDepth 100000 in
theorem mbelow_calls (A : Option Addr) (c : Nat) (l : List CI) (a b : ByteArray) (W : World) (G : Nat → Prop) (h : Held G (CIs A l) W) (hl : l.length ≤ 1000000) (ol : ∀ x ∈ l, ciOk x) :
    Calls Try.prog 88 #[.slice A l.length c, .string a, .string b] W fun e W' => e = .returned (.bool (belowC l a b)) ∧ Below W.heap.size W W' := by
  have HPL := Lib.hid (fun V (hv : Below W.heap.size W V) (hs : V.cell? ⟨W.heap.size, 0, none⟩ = some (.string a)) => belowPlace_calls A c l a W.heap.size V hs G (h.keep (Keep.all hv)) hl)
  have b1 : Below W.heap.size W (W.alloc (.cells #[.string a] 9)) := (Below.refl _ W).alloc (Nat.le_refl _) _
  go_enter Try.func88, Try.ntmps88
  go_wp2_with (fail)
  refine (HPL.out _ b1 (cell_new W _ _ _ rfl 0 _ rfl)).mono ?_
  rintro e V (⟨rfl, hbv, hno⟩ | ⟨i, hi, rfl, hbv, hfst, x, hx, hxn⟩ | ⟨_, _, hf⟩)
  · have hb0 : decide ((0 : Int) ≤ -1) = false := by decide
    have HB : Hid (belowC l a b = false) := Lib.hid (by
      unfold belowC
      cases hf : l.find? (fun x => decide (x.name = a)) with
      | none => rfl
      | some x =>
        obtain ⟨j, hj⟩ := List.mem_iff_getElem?.1 (List.mem_of_find?_eq_some hf)
        exact absurd (by simpa using List.find?_some hf) (hno j x (List.getElem?_eq_some_iff.1 hj).1 hj))
    have bV := b1.trans (hbv.mono b1.size)
    clear hno
    go_wp2
    go_ret
    exact ⟨(by rw [HB.out]; try rfl), bV⟩
  · have bV := b1.trans (hbv.mono b1.size)
    have HB : Hid (belowC l a b = hasS x.cpl b) := Lib.hid (by
      unfold belowC
      have hf : l.find? (fun x => decide (x.name = a)) = some x := by
        rw [List.find?_eq_some_iff_getElem]
        obtain ⟨hi', hx'⟩ := List.getElem?_eq_some_iff.1 hx
        refine ⟨by simpa using hxn, i, hi', hx', fun j hj => ?_⟩
        have := hfst j _ hj (List.getElem?_eq_getElem (by omega))
        simpa using this
      rw [hf])
    obtain ⟨bh, offh, rfl⟩ := Slc.addrH h (by omega)
    obtain ⟨A2, c2, A3, c3, p1, p2, p3, p4, g0, g1, g2, g3, g4, g5⟩ := CIs.atH (h.keep (Keep.all bV)) hx
    have hcx := (ol x (List.mem_of_getElem? hx)).2
    have HC := Lib.hid (slContains_calls A3 c3 x.cpl b V p4.now (by omega))
    have hi0 : (0 : Int) ≤ (i : Int) := Int.natCast_nonneg _
    clear hx hxn hfst g0 g1 g2 g4 g5
    go_wp2_with (go_at_call 97; refine (HC.out).mono ?_; rintro e w' ⟨rfl, rfl⟩)
    go_ret
    exact ⟨(by rw [HB.out]; try rfl), bV⟩
  · exact hf.elim

/-- What the map 'top' holds. -/
def topM (n : ByteArray) (k : Int) : Option Value := if k = 1 then some (.string n) else if k = 4 then some (.string nClass) else if k = 3 then some (.string nBoolean) else if k = 2 then some (.string nInteger) else none
theorem topM_get (a : Ty) : (topM a.name a.kind).getD (.string ⟨#[]⟩) = .string (topN a) := by
  unfold topM topN
  by_cases h1 : a.kind = 1
  · simp [h1]
  by_cases h2 : a.kind = 2
  · simp [h2]
  by_cases h3 : a.kind = 3
  · simp [h3]
  by_cases h4 : a.kind = 4
  · simp [h4]
  simp [h1, h2, h3, h4]
theorem zero_str (w : World) : (zeroValue 9).run Try.prog w = .ok (.string ⟨#[]⟩) w := by kernel_rfl
noncomputable abbrev intKey2 : KeyKind Try.prog 3 Int := KeyKind.int Try.underlying3
theorem run_top {w : World} {b : Nat} {n : ByteArray} (h : MapF intKey2 b (topM n) w) (a : Ty) (hn : n = a.name) :
    (Instr.lookup 140 (.map (some b)) (.int .i64 a.kind) false).run Try.prog w = .ok (.string (topN a)) w := by
  subst hn
  have := run_lookupF h Try.underlying140 (zero_str w) a.kind false
  rw [topM_get] at this
  exact this

set_option maxHeartbeats 16000000 in
set_option maxRecDepth 100000 in
theorem inside_calls (A : Option Addr) (c : Nat) (l : List CI) (a b : Ty) (Aa Ab : Option Addr) (ca cb : Nat) (W : World) (G : Nat → Prop) (h : Held G (CIs A l) W) (hl : l.length ≤ 1000000) (ol : ∀ x ∈ l, ciOk x) :
    Calls Try.prog 73 #[.slice A l.length c, tyV a Aa ca, tyV b Ab cb] W fun e W' => e = .returned (.bool (insideB l a b)) ∧ Below W.heap.size W W' := by
  obtain ⟨W1, hW1⟩ : ∃ W1, W1 = (W.alloc (.cells #[.int .i64 a.kind, .string a.name, .int .i64 a.lo, .int .i64 a.hi, .slice Aa a.args.length ca] 35)).alloc (.cells #[.int .i64 b.kind, .string b.name, .int .i64 b.lo, .int .i64 b.hi, .slice Ab b.args.length cb] 35) := ⟨_, rfl⟩
  have b1 : Below W.heap.size W W1 := by rw [hW1]; exact ((Below.refl _ W).alloc (Nat.le_refl _) _).alloc (by simp) _
  have xa : ∀ j u, [Value.int .i64 a.kind, .string a.name, .int .i64 a.lo, .int .i64 a.hi, .slice Aa a.args.length ca][j]? = some u → W1.cell? ⟨W.heap.size, j, none⟩ = some u := fun j u hj => by rw [hW1]; exact alloc_cell' (cell_new W _ _ _ rfl j u hj)
  have xb : ∀ j u, [Value.int .i64 b.kind, .string b.name, .int .i64 b.lo, .int .i64 b.hi, .slice Ab b.args.length cb][j]? = some u → W1.cell? ⟨W.heap.size + 1, j, none⟩ = some u := fun j u hj => by rw [hW1]; exact cell_new (W.alloc _) _ _ _ (by simp) j u hj
  obtain ⟨M, hM⟩ : ∃ M, M = W1.heap.size := ⟨_, rfl⟩
  obtain ⟨W2, hW2⟩ : ∃ W2, W2 = W1.alloc (.map #[] 0) := ⟨_, rfl⟩
  have hmk : (Instr.makeMap 140 none).run Try.prog W1 = .ok (.map (some M)) W2 := by rw [hM, hW2]; rfl
  have hM0 : MapF intKey2 M (fun _ => none) W2 := by rw [hM, hW2]; exact MapF.made intKey2 W1 _ rfl
  obtain ⟨w3, hr3, hM3, hg3⟩ := run_updateF hM0 (t := 140) (et := 9) Try.underlying140 2 (.string nInteger)
  obtain ⟨w4, hr4, hM4, hg4⟩ := run_updateF hM3 (t := 140) (et := 9) Try.underlying140 3 (.string nBoolean)
  obtain ⟨w5, hr5, hM5, hg5⟩ := run_updateF hM4 (t := 140) (et := 9) Try.underlying140 4 (.string nClass)
  obtain ⟨w6, hr6, hM6, hg6⟩ := run_updateF hM5 (t := 140) (et := 9) Try.underlying140 1 (.string a.name)
  have hr3' : (Instr.mapUpdate 140 (.map (some M)) (.int .i64 2) (.string ⟨#[60, 105, 110, 116, 101, 103, 101, 114, 62]⟩)).run Try.prog W2 = .ok () w3 := hr3
  have hr4' : (Instr.mapUpdate 140 (.map (some M)) (.int .i64 3) (.string ⟨#[60, 98, 111, 111, 108, 101, 97, 110, 62]⟩)).run Try.prog w3 = .ok () w4 := hr4
  have hr5' : (Instr.mapUpdate 140 (.map (some M)) (.int .i64 4) (.string ⟨#[60, 99, 108, 97, 115, 115, 62]⟩)).run Try.prog w4 = .ok () w5 := hr5
  have hr6' : (Instr.mapUpdate 140 (.map (some M)) (.int .i64 1) (.string a.name)).run Try.prog w5 = .ok () w6 := hr6
  have hMt : MapF intKey2 M (topM a.name) w6 := hM6
  have hlk := run_top hMt a rfl
  have kg : ∀ {u v : World}, u.grownBy v (some M) → Keep (fun b => b ≠ M) u v := fun h => Keep.grown h fun b hb e => hb (by cases e; rfl)
  have k2 : Keep (fun b => b ≠ M) W1 W2 := by rw [hW2]; exact Keep.alloc _ _ _
  have k5 := ((k2.trans (kg hg3)).trans (kg hg4)).trans (kg hg5)
  have k6 := k5.trans (kg hg6)
  have b6 : Below W1.heap.size W1 w6 := by
    have z2 : W1.heap.size ≤ W2.heap.size := k2.1
    have b2 : Below W1.heap.size W1 W2 := by rw [hW2]; exact (Below.refl _ W1).alloc (Nat.le_refl _) _
    have q : ∀ k, some M = some k → W1.heap.size ≤ k := fun k e => by cases e; omega
    exact (((b2.grown hg3 z2 q).grown hg4 (k2.trans (kg hg3)).1 q).grown hg5 ((k2.trans (kg hg3)).trans (kg hg4)).1 q).grown hg6 k5.1 q
  have hlM : W.heap.size + 2 = M := by rw [hM, hW1]; simp
  have an5 := cell_keep (xa 1 _ rfl) k5 (show W.heap.size ≠ M by omega)
  have a0 := cell_keep (xa 0 _ rfl) k6 (show W.heap.size ≠ M by omega)
  have a1 := cell_keep (xa 1 _ rfl) k6 (show W.heap.size ≠ M by omega)
  have a2 := cell_keep (xa 2 _ rfl) k6 (show W.heap.size ≠ M by omega)
  have a3 := cell_keep (xa 3 _ rfl) k6 (show W.heap.size ≠ M by omega)
  have c0 := cell_keep (xb 0 _ rfl) k6 (show W.heap.size + 1 ≠ M by omega)
  have c1 := cell_keep (xb 1 _ rfl) k6 (show W.heap.size + 1 ≠ M by omega)
  have c2 := cell_keep (xb 2 _ rfl) k6 (show W.heap.size + 1 ≠ M by omega)
  have c3 := cell_keep (xb 3 _ rfl) k6 (show W.heap.size + 1 ≠ M by omega)
  have bW6 := b1.trans (b6.mono b1.size)
  have HBE := Lib.hid (fun p q => mbelow_calls A c l p q w6 G (h.keep (Keep.all bW6)) hl ol)
  rw [hW1] at hmk
  clear hW1
  clear hM0 hM3 hM4 hM5 hM6 hg3 hg4 hg5 hg6 hr3 hr4 hr5 hr6 hMt kg k2 k5 k6 xa xb b6 hM hW2 hlM h ol
  go_enter Try.func73, Try.ntmps73
  by_cases hk : b.kind = 1
  · have t1 : (b.kind == 1) = true := beq_iff_eq.2 hk
    have HC : Hid (insideB l a b = belowC l (topN a) b.name) := Lib.hid (by unfold insideB; rw [if_pos hk])
    clear hk
    go_wp2_with (go_at_call 88; refine (HBE.out _ _).mono ?_; rintro e V ⟨rfl, hbv⟩)
    go_ret
    exact ⟨(by rw [HC.out]; try rfl), bW6.trans (hbv.mono bW6.size)⟩
  · have t1 : (b.kind == 1) = false := beq_eq_false_iff_ne.2 hk
    by_cases hk2 : a.kind = b.kind
    · have t2 : (a.kind != b.kind) = false := bne_eq_false_iff_eq.2 hk2
      by_cases hk3 : a.kind = 2
      · have t3 : (a.kind == 2) = true := beq_iff_eq.2 hk3
        have HC : Hid (insideB l a b = (decide (b.lo ≤ a.lo) && decide (a.hi ≤ b.hi))) := Lib.hid (by unfold insideB; rw [if_neg hk, if_neg (fun h => h hk2), if_pos hk3])
        clear hk hk2 hk3
        by_cases q1 : b.lo ≤ a.lo
        · by_cases q2 : a.hi ≤ b.hi
          · have HD : Hid (insideB l a b = true) := Lib.hid (by rw [HC.out, decide_eq_true q1, decide_eq_true q2]; rfl)
            have d1 : decide (b.lo ≤ a.lo) = true := decide_eq_true q1
            have d2 : decide (a.hi ≤ b.hi) = true := decide_eq_true q2
            clear q1 q2
            go_wp2
            go_ret
            exact ⟨(by rw [HD.out]; try rfl), bW6⟩
          · have HD : Hid (insideB l a b = false) := Lib.hid (by rw [HC.out, decide_eq_false q2]; simp)
            have d1 : decide (b.lo ≤ a.lo) = true := decide_eq_true q1
            have d2 : decide (a.hi ≤ b.hi) = false := decide_eq_false q2
            clear q1 q2
            go_wp2
            go_ret
            exact ⟨(by rw [HD.out]; try rfl), bW6⟩
        · have HD : Hid (insideB l a b = false) := Lib.hid (by rw [HC.out, decide_eq_false q1]; rfl)
          have d1 : decide (b.lo ≤ a.lo) = false := decide_eq_false q1
          clear q1
          go_wp2
          go_ret
          exact ⟨(by rw [HD.out]; try rfl), bW6⟩
      · have t3 : (a.kind == 2) = false := beq_eq_false_iff_ne.2 hk3
        by_cases hk4 : a.kind = 3
        · have t4 : (a.kind == 3) = true := beq_iff_eq.2 hk4
          have HC : Hid (insideB l a b = (a.lo == b.lo)) := Lib.hid (by
            unfold insideB; rw [if_neg hk, if_neg (fun h => h hk2), if_neg hk3, if_pos hk4]
            by_cases e : a.lo = b.lo
            · rw [decide_eq_true e, beq_iff_eq.2 e]
            · rw [decide_eq_false e, beq_eq_false_iff_ne.2 e])
          clear hk hk2 hk3 hk4
          go_wp2
          go_ret
          exact ⟨(by rw [HC.out]; try rfl), bW6⟩
        · have t4 : (a.kind == 3) = false := beq_eq_false_iff_ne.2 hk4
          have HC : Hid (insideB l a b = belowC l a.name b.name) := Lib.hid (by unfold insideB; rw [if_neg hk, if_neg (fun h => h hk2), if_neg hk3, if_neg hk4])
          clear hk hk2 hk3 hk4
          go_wp2_with (go_at_call 88; refine (HBE.out _ _).mono ?_; rintro e V ⟨rfl, hbv⟩)
          go_ret
          exact ⟨(by rw [HC.out]; try rfl), bW6.trans (hbv.mono bW6.size)⟩
    · have t2 : (a.kind != b.kind) = true := by rw [bne_iff_ne]; exact hk2
      have HC : Hid (insideB l a b = false) := Lib.hid (by unfold insideB; rw [if_neg hk, if_pos hk2])
      clear hk hk2
      go_wp2
      go_ret
      exact ⟨(by rw [HC.out]; try rfl), bW6⟩
end Go.Proofs.Ytepnmejahbiacaa
