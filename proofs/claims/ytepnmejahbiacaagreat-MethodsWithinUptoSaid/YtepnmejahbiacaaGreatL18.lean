/- Part 18 of the proof: Bw, Wi, Cz. -/
import Derived.Test.YtepnmejahbiacaaGreatL04
import Derived.Test.YtepnmejahbiacaaGreatL05
import Derived.Test.YtepnmejahbiacaaGreatL07
import Derived.Test.YtepnmejahbiacaaGreatL12
import Derived.Test.YtepnmejahbiacaaGreatL13
import Derived.Test.YtepnmejahbiacaaGreatL14
import Derived.Test.YtepnmejahbiacaaGreatL15
import Derived.Test.YtepnmejahbiacaaGreatL17
import Derived.Test.YtepnmejahbiacaaGreatL16
import Derived.Test.YtepnmejahbiacaaGreatL06
import Derived.Test.YtepnmejahbiacaaGreatL10
import Derived.Test.YtepnmejahbiacaaGreatL11
import Derived.Test.YtepnmejahbiacaaGreatL09
import Derived.Test.YtepnmejahbiacaaGreatL03
import Derived.Test.YtepnmejahbiacaaGreatL02
import Derived.Test.YtepnmejahbiacaaGreatL01
import Derived.BigQuiet
import Derived.Carry
import Derived.Deep.Draws
import Derived.Deep.LoopGhost
import Derived.Deep.QuietTactic
import Derived.KernelRfl
import Derived.Laws.EntriesVeiled
import Derived.Lib.Hide
import Derived.LoopIn
import Derived.LoopNIn
import Derived.Maps.AppendAt
import Derived.Maps.Own
import Derived.Maps.OwnIn
import Derived.Outline
import Derived.OwnWalkIn
import Derived.RangeFuncBound
import Derived.RangeFuncCalls
import Derived.RangeFuncLeaves
import Derived.RangeFuncNested
import Derived.Recover
import Derived.StillTailTactics
import Derived.Stop.RegionWithIn
import Derived.TacticsInMore
import Derived.Test.YtepnmejahbiacaaGreatProg
import Derived.WalkKit
import Derived.WalkSpells
set_option linter.unusedVariables false
set_option linter.unusedSimpArgs false
namespace Go.Proofs.YtepnmejahbiacaaGreat
open Go.RowKit
set_option maxHeartbeats 4000000 in
set_option maxRecDepth 100000 in
theorem below1_calls (x : CI) (A2 A3 : Option Addr) (c2 c3 : Nat) (s : ByteArray) (sb : Nat) (w : World) (hs : w.cell? ⟨sb, 0, none⟩ = some (.string s)) :
    Calls Tryz.prog 174 #[.agg #[.string x.name, .string x.lib, .slice A2 x.supers.length c2, .slice A3 x.cpl.length c3, .bool x.abs, .bool x.seal_], .pointer (some ⟨sb, 0, none⟩)] w fun e w' => e = .returned (.bool (decide (x.name = s))) ∧ Below w.heap.size w w' := by
  have hl := cell_lt hs
  go_enter Tryz.func174, Tryz.ntmps174
  go_wp2
  go_ret
  exact ⟨rfl, (Below.refl _ w).alloc (Nat.le_refl _) _⟩
set_option maxHeartbeats 4000000 in
set_option maxRecDepth 100000 in
theorem belowPlace_calls (A : Option Addr) (c : Nat) (l : List CI) (s : ByteArray) (sb : Nat) (w : World) (hs : w.cell? ⟨sb, 0, none⟩ = some (.string s)) (G : Nat → Prop) (h : Held G (CIs A l) w) (hl : l.length ≤ 1000000) :
    Calls Tryz.prog 91 #[.slice A l.length c, .func (.func 174) #[] #[.pointer (some ⟨sb, 0, none⟩)]] w
      (Found (fun i wr => Below w.heap.size w wr ∧ ∀ j x, j < i → l[j]? = some x → x.name ≠ s) (fun i wr => Below w.heap.size w wr ∧ (∀ j x, j < i → l[j]? = some x → x.name ≠ s) ∧ ∃ x, l[i]? = some x ∧ x.name = s) (Panics fun _ _ => False) l.length) := by
  obtain ⟨b, off, hbo⟩ : ∃ b off, 0 < l.length → A = some ⟨b, off, none⟩ := by
    by_cases h0 : 0 < l.length
    · obtain ⟨b, off, e⟩ := Slc.addrH h h0
      exact ⟨b, off, fun _ => e⟩
    · exact ⟨0, 0, fun h => absurd h h0⟩
  refine indexFuncCls A l.length c 174 _ (fun i => (l[i]?.map fun x => Value.string x.name).getD undef) (fun i => (l[i]?.map fun x => Value.string x.lib).getD undef) (fun i => (w.cell? ⟨b, off + i * 6 + 2, none⟩).getD undef) (fun i => (w.cell? ⟨b, off + i * 6 + 3, none⟩).getD undef)
    (fun i => (l[i]?.map fun x => Value.bool x.abs).getD undef) (fun i => (l[i]?.map fun x => Value.bool x.seal_).getD undef) w (by omega) (enters Tryz.func174 (by kernel_rfl) rfl) _ _ _ ⟨Below.refl _ _, fun j x hj => absurd hj (by omega)⟩ (fun h0 => ⟨b, off, hbo h0⟩) ?_ ?_
  · rintro i wr b' off' rfl hi ⟨hcw, _⟩
    have hb' := hbo (by omega)
    simp only [Option.some.injEq, Addr.mk.injEq, and_true] at hb'
    obtain ⟨rfl, rfl⟩ := hb'
    have hx : l[i]? = some l[i] := List.getElem?_eq_getElem hi
    obtain ⟨A2, c2, A3, c3, p1, p2, p3, p4, g0, g1, g2, g3, g4, g5⟩ := CIs.atH h hx
    simp only [hx, Option.map_some, Option.getD_some, g2, g3]
    exact ⟨cell_all g0 hcw, cell_all g1 hcw, cell_all g2 hcw, cell_all g3 hcw, cell_all g4 hcw, cell_all g5 hcw⟩
  · rintro i wr hi ⟨hcw, hjw⟩
    have hb' := hbo (by omega)
    subst hb'
    have hx : l[i]? = some l[i] := List.getElem?_eq_getElem hi
    generalize l[i] = x at hx
    obtain ⟨A2, c2, A3, c3, p1, p2, p3, p4, g0, g1, g2, g3, g4, g5⟩ := CIs.atH h hx
    simp only [hx, Option.map_some, Option.getD_some, g2, g3]
    refine (below1_calls x A2 A3 c2 c3 s sb wr (cell_all hs hcw)).mono ?_
    rintro e w' ⟨rfl, hb2⟩
    have hb3 := hcw.trans (hb2.mono hcw.size)
    by_cases hq : x.name = s
    · exact .inr (.inl ⟨by rw [decide_eq_true hq], hb3, hjw, x, hx, hq⟩)
    · refine .inl ⟨by rw [decide_eq_false hq], hb3, fun j y hj hy => ?_⟩
      rcases Nat.lt_or_ge j i with h | h
      · exact hjw j y h hy
      · obtain rfl : j = i := by omega
        rw [hx] at hy; cases hy; exact hq
set_option maxHeartbeats 8000000 in
set_option maxRecDepth 100000 in
theorem mbelow_calls (A : Option Addr) (c : Nat) (l : List CI) (a b : ByteArray) (W : World) (G : Nat → Prop) (h : Held G (CIs A l) W) (hl : l.length ≤ 1000000) (ol : ∀ x ∈ l, ciOk x) :
    Calls Tryz.prog 131 #[.slice A l.length c, .string a, .string b] W fun e W' => e = .returned (.bool (belowC l a b)) ∧ Below W.heap.size W W' := by
  have HPL := Lib.hid (fun V (hv : Below W.heap.size W V) (hs : V.cell? ⟨W.heap.size, 0, none⟩ = some (.string a)) => belowPlace_calls A c l a W.heap.size V hs G (h.keep (Keep.all hv)) hl)
  have b1 : Below W.heap.size W (W.alloc (.cells #[.string a] 9)) := (Below.refl _ W).alloc (Nat.le_refl _) _
  go_enter Tryz.func131, Tryz.ntmps131
  go_wp2_with (fail)
  refine (HPL.out _ b1 (cell_new W _ _ _ rfl 0 _ rfl)).mono ?_
  rintro e V (⟨rfl, hbv, hno⟩ | ⟨i, hi, rfl, hbv, hfst, x, hx, hxn⟩ | ⟨_, _, hf⟩)
  · have hb0 : decide ((0 : Int) ≤ -1) = false := by decide
    have HB : Hid (belowC l a b = false) := Lib.hid (by
      unfold belowC
      cases hf : l.find? (fun x => decide (x.name = a)) with
      | none => rfl
      | some x =>
        obtain ⟨j, hj⟩ := List.mem_iff_getElem?.1 (List.mem_of_find?_eq_some hf)
        exact absurd (by simpa using List.find?_some hf) (hno j x (List.getElem?_eq_some_iff.1 hj).1 hj))
    have bV := b1.trans (hbv.mono b1.size)
    clear hno
    go_wp2
    go_ret
    exact ⟨(by rw [HB.out]; try rfl), bV⟩
  · have bV := b1.trans (hbv.mono b1.size)
    have HB : Hid (belowC l a b = hasS x.cpl b) := Lib.hid (by
      unfold belowC
      have hf : l.find? (fun x => decide (x.name = a)) = some x := by
        rw [List.find?_eq_some_iff_getElem]
        obtain ⟨hi', hx'⟩ := List.getElem?_eq_some_iff.1 hx
        refine ⟨by simpa using hxn, i, hi', hx', fun j hj => ?_⟩
        have := hfst j _ hj (List.getElem?_eq_getElem (by omega))
        simpa using this
      rw [hf])
    obtain ⟨bh, offh, rfl⟩ := Slc.addrH h (by omega)
    obtain ⟨A2, c2, A3, c3, p1, p2, p3, p4, g0, g1, g2, g3, g4, g5⟩ := CIs.atH (h.keep (Keep.all bV)) hx
    have hcx := (ol x (List.mem_of_getElem? hx)).2
    have HC := Lib.hid (slContains_calls A3 c3 x.cpl b V p4.now (by omega))
    have hi0 : (0 : Int) ≤ (i : Int) := Int.natCast_nonneg _
    clear hx hxn hfst g0 g1 g2 g4 g5
    go_wp2_with (go_at_call 175; refine (HC.out).mono ?_; rintro e w' ⟨rfl, rfl⟩)
    go_ret
    exact ⟨(by rw [HB.out]; try rfl), bV⟩
  · exact hf.elim
/-- What the map 'top' holds. -/
def topM (n : ByteArray) (k : Int) : Option Value := if k = 1 then some (.string n) else if k = 4 then some (.string nClass) else if k = 3 then some (.string nBoolean) else if k = 2 then some (.string nInteger) else none
theorem topM_get (a : Ty) : (topM a.name a.kind).getD (.string ⟨#[]⟩) = .string (topN a) := by
  unfold topM topN
  by_cases h1 : a.kind = 1
  · simp [h1]
  by_cases h2 : a.kind = 2
  · simp [h2]
  by_cases h3 : a.kind = 3
  · simp [h3]
  by_cases h4 : a.kind = 4
  · simp [h4]
  simp [h1, h2, h3, h4]
theorem zero_str (w : World) : (zeroValue 9).run Tryz.prog w = .ok (.string ⟨#[]⟩) w := by kernel_rfl
noncomputable abbrev intKey2 : KeyKind Tryz.prog 3 Int := KeyKind.int Tryz.underlying3
theorem run_top {w : World} {b : Nat} {n : ByteArray} (h : MapF intKey2 b (topM n) w) (a : Ty) (hn : n = a.name) :
    (Instr.lookup 163 (.map (some b)) (.int .i64 a.kind) false).run Tryz.prog w = .ok (.string (topN a)) w := by
  subst hn
  have := run_lookupF h Tryz.underlying163 (zero_str w) a.kind false
  rw [topM_get] at this
  exact this
set_option maxHeartbeats 16000000 in
set_option maxRecDepth 100000 in
theorem inside_calls (A : Option Addr) (c : Nat) (l : List CI) (a b : Ty) (Aa Ab : Option Addr) (ca cb : Nat) (W : World) (G : Nat → Prop) (h : Held G (CIs A l) W) (hl : l.length ≤ 1000000) (ol : ∀ x ∈ l, ciOk x) :
    Calls Tryz.prog 86 #[.slice A l.length c, tyV a Aa ca, tyV b Ab cb] W fun e W' => e = .returned (.bool (insideB l a b)) ∧ Below W.heap.size W W' := by
  obtain ⟨W1, hW1⟩ : ∃ W1, W1 = (W.alloc (.cells #[.int .i64 a.kind, .string a.name, .int .i64 a.lo, .int .i64 a.hi, .slice Aa a.args.length ca] 36)).alloc (.cells #[.int .i64 b.kind, .string b.name, .int .i64 b.lo, .int .i64 b.hi, .slice Ab b.args.length cb] 36) := ⟨_, rfl⟩
  have b1 : Below W.heap.size W W1 := by rw [hW1]; exact ((Below.refl _ W).alloc (Nat.le_refl _) _).alloc (by simp) _
  have xa : ∀ j u, [Value.int .i64 a.kind, .string a.name, .int .i64 a.lo, .int .i64 a.hi, .slice Aa a.args.length ca][j]? = some u → W1.cell? ⟨W.heap.size, j, none⟩ = some u := fun j u hj => by rw [hW1]; exact alloc_cell' (cell_new W _ _ _ rfl j u hj)
  have xb : ∀ j u, [Value.int .i64 b.kind, .string b.name, .int .i64 b.lo, .int .i64 b.hi, .slice Ab b.args.length cb][j]? = some u → W1.cell? ⟨W.heap.size + 1, j, none⟩ = some u := fun j u hj => by rw [hW1]; exact cell_new (W.alloc _) _ _ _ (by simp) j u hj
  obtain ⟨M, hM⟩ : ∃ M, M = W1.heap.size := ⟨_, rfl⟩
  obtain ⟨W2, hW2⟩ : ∃ W2, W2 = W1.alloc (.map #[] 0) := ⟨_, rfl⟩
  have hmk : (Instr.makeMap 163 none).run Tryz.prog W1 = .ok (.map (some M)) W2 := by rw [hM, hW2]; rfl
  have hM0 : MapF intKey2 M (fun _ => none) W2 := by rw [hM, hW2]; exact MapF.made intKey2 W1 _ rfl
  obtain ⟨w3, hr3, hM3, hg3⟩ := run_updateF hM0 (t := 163) (et := 9) Tryz.underlying163 2 (.string nInteger)
  obtain ⟨w4, hr4, hM4, hg4⟩ := run_updateF hM3 (t := 163) (et := 9) Tryz.underlying163 3 (.string nBoolean)
  obtain ⟨w5, hr5, hM5, hg5⟩ := run_updateF hM4 (t := 163) (et := 9) Tryz.underlying163 4 (.string nClass)
  obtain ⟨w6, hr6, hM6, hg6⟩ := run_updateF hM5 (t := 163) (et := 9) Tryz.underlying163 1 (.string a.name)
  have hr3' : (Instr.mapUpdate 163 (.map (some M)) (.int .i64 2) (.string ⟨#[60, 105, 110, 116, 101, 103, 101, 114, 62]⟩)).run Tryz.prog W2 = .ok () w3 := hr3
  have hr4' : (Instr.mapUpdate 163 (.map (some M)) (.int .i64 3) (.string ⟨#[60, 98, 111, 111, 108, 101, 97, 110, 62]⟩)).run Tryz.prog w3 = .ok () w4 := hr4
  have hr5' : (Instr.mapUpdate 163 (.map (some M)) (.int .i64 4) (.string ⟨#[60, 99, 108, 97, 115, 115, 62]⟩)).run Tryz.prog w4 = .ok () w5 := hr5
  have hr6' : (Instr.mapUpdate 163 (.map (some M)) (.int .i64 1) (.string a.name)).run Tryz.prog w5 = .ok () w6 := hr6
  have hMt : MapF intKey2 M (topM a.name) w6 := hM6
  have hlk := run_top hMt a rfl
  have kg : ∀ {u v : World}, u.grownBy v (some M) → Keep (fun b => b ≠ M) u v := fun h => Keep.grown h fun b hb e => hb (by cases e; rfl)
  have k2 : Keep (fun b => b ≠ M) W1 W2 := by rw [hW2]; exact Keep.alloc _ _ _
  have k5 := ((k2.trans (kg hg3)).trans (kg hg4)).trans (kg hg5)
  have k6 := k5.trans (kg hg6)
  have b6 : Below W1.heap.size W1 w6 := by
    have z2 : W1.heap.size ≤ W2.heap.size := k2.1
    have b2 : Below W1.heap.size W1 W2 := by rw [hW2]; exact (Below.refl _ W1).alloc (Nat.le_refl _) _
    have q : ∀ k, some M = some k → W1.heap.size ≤ k := fun k e => by cases e; omega
    exact (((b2.grown hg3 z2 q).grown hg4 (k2.trans (kg hg3)).1 q).grown hg5 ((k2.trans (kg hg3)).trans (kg hg4)).1 q).grown hg6 k5.1 q
  have hlM : W.heap.size + 2 = M := by rw [hM, hW1]; simp
  have an5 := cell_keep (xa 1 _ rfl) k5 (show W.heap.size ≠ M by omega)
  have a0 := cell_keep (xa 0 _ rfl) k6 (show W.heap.size ≠ M by omega)
  have a1 := cell_keep (xa 1 _ rfl) k6 (show W.heap.size ≠ M by omega)
  have a2 := cell_keep (xa 2 _ rfl) k6 (show W.heap.size ≠ M by omega)
  have a3 := cell_keep (xa 3 _ rfl) k6 (show W.heap.size ≠ M by omega)
  have c0 := cell_keep (xb 0 _ rfl) k6 (show W.heap.size + 1 ≠ M by omega)
  have c1 := cell_keep (xb 1 _ rfl) k6 (show W.heap.size + 1 ≠ M by omega)
  have c2 := cell_keep (xb 2 _ rfl) k6 (show W.heap.size + 1 ≠ M by omega)
  have c3 := cell_keep (xb 3 _ rfl) k6 (show W.heap.size + 1 ≠ M by omega)
  have bW6 := b1.trans (b6.mono b1.size)
  have HBE := Lib.hid (fun p q => mbelow_calls A c l p q w6 G (h.keep (Keep.all bW6)) hl ol)
  rw [hW1] at hmk
  clear hW1
  clear hM0 hM3 hM4 hM5 hM6 hg3 hg4 hg5 hg6 hr3 hr4 hr5 hr6 hMt kg k2 k5 k6 xa xb b6 hM hW2 hlM h ol
  go_enter Tryz.func86, Tryz.ntmps86
  by_cases hk : b.kind = 1
  · have t1 : (b.kind == 1) = true := beq_iff_eq.2 hk
    have HC : Hid (insideB l a b = belowC l (topN a) b.name) := Lib.hid (by unfold insideB; rw [if_pos hk])
    clear hk
    go_wp2_with (go_at_call 131; refine (HBE.out _ _).mono ?_; rintro e V ⟨rfl, hbv⟩)
    go_ret
    exact ⟨(by rw [HC.out]; try rfl), bW6.trans (hbv.mono bW6.size)⟩
  · have t1 : (b.kind == 1) = false := beq_eq_false_iff_ne.2 hk
    by_cases hk2 : a.kind = b.kind
    · have t2 : (a.kind != b.kind) = false := bne_eq_false_iff_eq.2 hk2
      by_cases hk3 : a.kind = 2
      · have t3 : (a.kind == 2) = true := beq_iff_eq.2 hk3
        have HC : Hid (insideB l a b = (decide (b.lo ≤ a.lo) && decide (a.hi ≤ b.hi))) := Lib.hid (by unfold insideB; rw [if_neg hk, if_neg (fun h => h hk2), if_pos hk3])
        clear hk hk2 hk3
        by_cases q1 : b.lo ≤ a.lo
        · by_cases q2 : a.hi ≤ b.hi
          · have HD : Hid (insideB l a b = true) := Lib.hid (by rw [HC.out, decide_eq_true q1, decide_eq_true q2]; rfl)
            have d1 : decide (b.lo ≤ a.lo) = true := decide_eq_true q1
            have d2 : decide (a.hi ≤ b.hi) = true := decide_eq_true q2
            clear q1 q2
            go_wp2
            go_ret
            exact ⟨(by rw [HD.out]; try rfl), bW6⟩
          · have HD : Hid (insideB l a b = false) := Lib.hid (by rw [HC.out, decide_eq_false q2]; simp)
            have d1 : decide (b.lo ≤ a.lo) = true := decide_eq_true q1
            have d2 : decide (a.hi ≤ b.hi) = false := decide_eq_false q2
            clear q1 q2
            go_wp2
            go_ret
            exact ⟨(by rw [HD.out]; try rfl), bW6⟩
        · have HD : Hid (insideB l a b = false) := Lib.hid (by rw [HC.out, decide_eq_false q1]; rfl)
          have d1 : decide (b.lo ≤ a.lo) = false := decide_eq_false q1
          clear q1
          go_wp2
          go_ret
          exact ⟨(by rw [HD.out]; try rfl), bW6⟩
      · have t3 : (a.kind == 2) = false := beq_eq_false_iff_ne.2 hk3
        by_cases hk4 : a.kind = 3
        · have t4 : (a.kind == 3) = true := beq_iff_eq.2 hk4
          have HC : Hid (insideB l a b = (a.lo == b.lo)) := Lib.hid (by
            unfold insideB; rw [if_neg hk, if_neg (fun h => h hk2), if_neg hk3, if_pos hk4]
            by_cases e : a.lo = b.lo
            · rw [decide_eq_true e, beq_iff_eq.2 e]
            · rw [decide_eq_false e, beq_eq_false_iff_ne.2 e])
          clear hk hk2 hk3 hk4
          go_wp2
          go_ret
          exact ⟨(by rw [HC.out]; try rfl), bW6⟩
        · have t4 : (a.kind == 3) = false := beq_eq_false_iff_ne.2 hk4
          have HC : Hid (insideB l a b = belowC l a.name b.name) := Lib.hid (by unfold insideB; rw [if_neg hk, if_neg (fun h => h hk2), if_neg hk3, if_neg hk4])
          clear hk hk2 hk3 hk4
          go_wp2_with (go_at_call 131; refine (HBE.out _ _).mono ?_; rintro e V ⟨rfl, hbv⟩)
          go_ret
          exact ⟨(by rw [HC.out]; try rfl), bW6.trans (hbv.mono bW6.size)⟩
    · have t2 : (a.kind != b.kind) = true := by rw [bne_iff_ne]; exact hk2
      have HC : Hid (insideB l a b = false) := Lib.hid (by unfold insideB; rw [if_neg hk, if_pos hk2])
      clear hk hk2
      go_wp2
      go_ret
      exact ⟨(by rw [HC.out]; try rfl), bW6⟩
end Go.Proofs.YtepnmejahbiacaaGreat
set_option linter.unusedVariables false
set_option linter.unusedSimpArgs false
namespace Go.Proofs.YtepnmejahbiacaaGreat
open Go.RowKit
set_option maxHeartbeats 16000000 in
set_option maxRecDepth 100000 in
theorem pieces_calls (fid : Nat) (first cap : Array Value) (hfn : ∀ args w, (callFunc fid args).run Tryz.prog w = .ok (.enter fid args) w) (N : Nat) (W0 : World) (J : List Ty → World → Prop)
    (hJ : ∀ d w w', J d w → Below w.heap.size w w' → J d w') (hJN : ∀ d w, J d w → Below N W0 w)
    (step : ∀ d x A c w, J d w → Calls Tryz.prog fid (first.push (tyV x A c) ++ cap) w fun e w' => e = .returned (.tuple #[]) ∧ J (d ++ [x]) w') :
    ∀ (q : Nat) (t : Ty), t.count ≤ q → ∀ (A : Option Addr) (c : Nat) (W : World) (d : List Ty), J d W → Held (· < N) (Typs A t.args) W0 → t.all (fun x => decide (x.args.length ≤ 1000000)) = true →
      Calls Tryz.prog 83 #[tyV t A c, .func (.func fid) first cap] W fun e W' => e = .returned (.tuple #[]) ∧ J (d ++ t.pieces) W' := by
  have HS := Lib.hid step
  have HJ := Lib.hid hJ
  have HJN := Lib.hid hJN
  clear step hJ hJN
  intro q
  induction q with
  | zero => intro t hq; have := t.count_pos; omega
  | succ q ih =>
    intro t hq A c W d hd hT hall
    have HIH := Lib.hid ih
    clear ih
    have HALL := Lib.hid hall
    have HQ := Lib.hid hq
    clear hall hq
    obtain ⟨W1, hW1⟩ : ∃ W1, W1 = W.alloc (.cells #[.int .i64 t.kind, .string t.name, .int .i64 t.lo, .int .i64 t.hi, .slice A t.args.length c] 36) := ⟨_, rfl⟩
    have b1 : Below W.heap.size W W1 := by rw [hW1]; exact (Below.refl _ W).alloc (Nat.le_refl _) _
    have xt : ∀ j u, [Value.int .i64 t.kind, .string t.name, .int .i64 t.lo, .int .i64 t.hi, .slice A t.args.length c][j]? = some u → W1.cell? ⟨W.heap.size, j, none⟩ = some u := fun j u hj => by rw [hW1]; exact cell_new W _ _ _ rfl j u hj
    have c0 := xt 0 _ rfl
    have c1 := xt 1 _ rfl
    have c2 := xt 2 _ rfl
    have c3 := xt 3 _ rfl
    have c4 := xt 4 _ rfl
    clear xt
    have hd1 := HJ.out d W W1 hd b1
    have HD := Lib.hid hd1
    clear hd hd1
    go_enter Tryz.func83, Tryz.ntmps83
    by_cases hk : t.kind = 5
    · have t1 : (t.kind != 5) = false := bne_eq_false_iff_eq.2 hk
      have HP := Lib.hid (Ty.pieces_union hk)
      have hlen : t.args.length ≤ 1000000 := by
        have := HALL.out; rw [Ty.all_args, Bool.and_eq_true] at this
        exact of_decide_eq_true this.1
      have HK := Lib.hid hk
      clear hk
      go_wp2_with (fail)
      rw [← hW1]
      clear hW1
      go_loopw [15] (fun i wr => ∃ k : Nat, k ≤ t.args.length ∧ i = .int .i64 k ∧ J (d ++ (t.args.take k).flatMap Ty.pieces) wr) (fun i _ => t.args.length - (intOf i).toNat)
      case atStart => exact ⟨0, Nat.zero_le _, rfl, by simpa using HD.out⟩
      case round =>
        obtain ⟨k, hk, rfl, hd⟩ := hrel
        have HDK := Lib.hid hd
        have hbN := HJN.out _ _ hd
        clear hd
        by_cases hlt : k < t.args.length
        · obtain ⟨b, off, rfl⟩ := Slc.addrH hT (by omega)
          have hx : t.args[k]? = some t.args[k] := List.getElem?_eq_getElem hlt
          generalize t.args[k] = x at hx
          have HX := Lib.hid hx
          obtain ⟨A3, c3', r1, r2, g0, g1, g2, g3, g4⟩ := Typs.atH hT hx
          have hbN' : b < N := (Slc.inG hT (by omega) (by decide)).2
          have kN : Keep (· < N) W0 wr := Keep.below hbN
          have e0 := cell_keep g0 kN hbN'
          have e1 := cell_keep g1 kN hbN'
          have e2 := cell_keep g2 kN hbN'
          have e3 := cell_keep g3 kN hbN'
          have e4 := cell_keep g4 kN hbN'
          have hxm : x ∈ t.args := List.mem_of_getElem? hx
          have hax : x.all (fun x => decide (x.args.length ≤ 1000000)) = true := by
            have := HALL.out; rw [Ty.all_args, Bool.and_eq_true] at this
            exact List.all_eq_true.1 this.2 x hxm
          have hcx : x.count ≤ q := by have := Ty.count_mem hxm; have := HQ.out; omega
          have HST := Lib.hid (fun V (hv : Below wr.heap.size wr V) => HIH.out x hcx A3 c3' V _ (HJ.out _ wr V HDK.out hv) r2 hax)
          have bx : Below wr.heap.size wr (wr.alloc (.cells #[.int .i64 x.kind, .string x.name, .int .i64 x.lo, .int .i64 x.hi, .slice A3 x.args.length c3'] 36)) := (Below.refl _ wr).alloc (Nat.le_refl _) _
          clear hx g0 g1 g2 g3 g4 kN c0 c1 c2 c3 c4 hax hcx hxm
          go_wp2_with (fail)
          refine (HST.out _ bx).mono ?_
          clear HST
          rintro e V ⟨rfl, hJV⟩
          have HJV := Lib.hid hJV
          clear hJV
          go_wp2
          go_roundw
          case rel =>
            refine ⟨k + 1, by omega, by go_num, ?_⟩
            rw [take_snoc HX.out, List.flatMap_append]
            have := HJV.out
            simpa using this
          case measure => simp [intOf]; omega
        · obtain rfl : k = t.args.length := by omega
          go_wp2
          go_end0
          exact ⟨rfl, by rw [HP.out]; have := HDK.out; rwa [List.take_length] at this⟩
    · have t1 : (t.kind != 5) = true := by rw [bne_iff_ne]; exact hk
      have HP := Lib.hid (Ty.pieces_leaf hk)
      clear hk
      go_wp2_with (fail)
      refine (HS.out d t A c _ (hW1 ▸ HD.out)).mono ?_
      rintro e V ⟨rfl, hJV⟩
      have HJV := Lib.hid hJV
      clear hJV
      go_wp2
      refine bodyPost_ret (results_none rfl _ _ _) rfl ?_
      exact ⟨rfl, by rw [HP.out]; exact HJV.out⟩
end Go.Proofs.YtepnmejahbiacaaGreat
set_option linter.unusedVariables false
set_option linter.unusedSimpArgs false
namespace Go.Proofs.YtepnmejahbiacaaGreat
open Go.RowKit
/-- The inner function: 'some = some || inside(h, a, b)'. -/
structure InAt (sb hb ab : Nat) (AH : Option Addr) (cH : Nat) (l : List CI) (a : Ty) (Aa : Option Addr) (ca : Nat) (w : World) : Prop where
  hh : w.cell? ⟨hb, 0, none⟩ = some (.slice AH l.length cH)
  a0 : w.cell? ⟨ab, 0, none⟩ = some (.int .i64 a.kind)
  a1 : w.cell? ⟨ab, 1, none⟩ = some (.string a.name)
  a2 : w.cell? ⟨ab, 2, none⟩ = some (.int .i64 a.lo)
  a3 : w.cell? ⟨ab, 3, none⟩ = some (.int .i64 a.hi)
  a4 : w.cell? ⟨ab, 4, none⟩ = some (.slice Aa a.args.length ca)
theorem InAt.keep {sb hb ab : Nat} {AH : Option Addr} {cH : Nat} {l : List CI} {a : Ty} {Aa : Option Addr} {ca : Nat} {w w' : World} (h : InAt sb hb ab AH cH l a Aa ca w) {G : Nat → Prop} (k : Keep G w w') (h1 : G hb) (h2 : G ab) : InAt sb hb ab AH cH l a Aa ca w' :=
  ⟨cell_keep h.hh k h1, cell_keep h.a0 k h2, cell_keep h.a1 k h2, cell_keep h.a2 k h2, cell_keep h.a3 k h2, cell_keep h.a4 k h2⟩
set_option maxHeartbeats 8000000 in
set_option maxRecDepth 100000 in
theorem within11_calls (sb hb ab : Nat) (AH : Option Addr) (cH : Nat) (l : List CI) (a b : Ty) (Aa Ab : Option Addr) (ca cb : Nat) (v : Bool) (W : World) (HI : InAt sb hb ab AH cH l a Aa ca W) (hs : W.cell? ⟨sb, 0, none⟩ = some (.bool v)) (hf : W.frozen? ⟨sb, 0, none⟩ = false)
    (G : Nat → Prop) (h : Held G (CIs AH l) W) (hl : l.length ≤ 1000000) (ol : ∀ x ∈ l, ciOk x) :
    Calls Tryz.prog 85 #[tyV b Ab cb, .pointer (some ⟨sb, 0, none⟩), .pointer (some ⟨hb, 0, none⟩), .pointer (some ⟨ab, 0, none⟩)] W fun e W' => e = .returned (.tuple #[]) ∧ W'.cell? ⟨sb, 0, none⟩ = some (.bool (v || insideB l a b)) ∧ W'.frozen? ⟨sb, 0, none⟩ = false ∧ Chg (· = sb) W W' := by
  obtain ⟨W1, hW1⟩ : ∃ W1, W1 = W.alloc (.cells #[.int .i64 b.kind, .string b.name, .int .i64 b.lo, .int .i64 b.hi, .slice Ab b.args.length cb] 36) := ⟨_, rfl⟩
  have b1 : Below W.heap.size W W1 := by rw [hW1]; exact (Below.refl _ W).alloc (Nat.le_refl _) _
  have xb : ∀ j u, [Value.int .i64 b.kind, .string b.name, .int .i64 b.lo, .int .i64 b.hi, .slice Ab b.args.length cb][j]? = some u → W1.cell? ⟨W.heap.size, j, none⟩ = some u := fun j u hj => by rw [hW1]; exact cell_new W _ _ _ rfl j u hj
  have x0 := xb 0 _ rfl
  have x1 := xb 1 _ rfl
  have x2 := xb 2 _ rfl
  have x3 := xb 3 _ rfl
  have x4 := xb 4 _ rfl
  have I1 := HI.keep (Keep.all (G := fun _ => True) b1) trivial trivial
  have a0 := I1.a0
  have a1 := I1.a1
  have a2 := I1.a2
  have a3 := I1.a3
  have a4 := I1.a4
  have ah := I1.hh
  have s1 := cell_all hs b1
  have hsl := cell_lt hs
  have sf1 : W1.frozen? ⟨sb, 0, none⟩ = false := (World.frozen?_of_block (a := ⟨sb, 0, none⟩) (b1.block sb hsl)).trans hf
  have HIN := Lib.hid (inside_calls AH cH l a b Aa Ab ca cb W1 G (h.keep (Keep.all b1)) hl ol)
  clear xb I1 HI
  have HS0 := Lib.hid hs
  have HF0 := Lib.hid hf
  clear hs hf
  subst hW1
  go_enter Tryz.func85, Tryz.ntmps85
  cases v with
  | true =>
    go_wp2
    go_end0
    have hsl' : sb < (W.setCell ⟨sb, 0, none⟩ (.bool true)).heap.size := by simpa [World.setCell] using hsl
    exact ⟨rfl, alloc_cell' (by rw [World.cell?_setCell_same' _ _ _ (by rw [HS0.out]; rfl)]; try simp), (World.frozen?_of_block (a := ⟨sb, 0, none⟩) (((Below.refl _ (W.setCell ⟨sb, 0, none⟩ (.bool true))).alloc (Nat.le_refl _) _).block sb hsl')).trans (by rw [World.frozen?_setCell]; exact HF0.out), (Chg.setCell (S := (· = sb)) W (p := ⟨sb, 0, none⟩) rfl _).trans (Chg.alloc _ _)⟩
  | false =>
    go_wp2_with (fail)
    refine HIN.out.mono ?_
    rintro e V ⟨rfl, hbv⟩
    have s2 := cell_all s1 hbv
    have sf2 : V.frozen? ⟨sb, 0, none⟩ = false := (World.frozen?_of_block (a := ⟨sb, 0, none⟩) (hbv.block sb (cell_lt s1))).trans sf1
    go_wp2
    go_end0
    exact ⟨rfl, by rw [World.cell?_setCell_same' _ _ _ (by rw [s2]; rfl)]; simp, by rw [World.frozen?_setCell]; exact sf2, ((Chg.of b1).trans (Chg.of hbv)).trans (Chg.setCell (S := (· = sb)) V (p := ⟨sb, 0, none⟩) rfl _)⟩
set_option maxHeartbeats 16000000 in
set_option maxRecDepth 100000 in
theorem within1_calls (tb hb allb : Nat) (AH : Option Addr) (cH : Nat) (l : List CI) (a t : Ty) (Aa At : Option Addr) (ca ct : Nat) (v : Bool) (W : World) (hh : W.cell? ⟨hb, 0, none⟩ = some (.slice AH l.length cH))
    (t0 : W.cell? ⟨tb, 0, none⟩ = some (.int .i64 t.kind)) (t1 : W.cell? ⟨tb, 1, none⟩ = some (.string t.name)) (t2 : W.cell? ⟨tb, 2, none⟩ = some (.int .i64 t.lo)) (t3 : W.cell? ⟨tb, 3, none⟩ = some (.int .i64 t.hi)) (t4 : W.cell? ⟨tb, 4, none⟩ = some (.slice At t.args.length ct))
    (hs : W.cell? ⟨allb, 0, none⟩ = some (.bool v)) (hf : W.frozen? ⟨allb, 0, none⟩ = false) (G : Nat → Prop) (h : Held G (CIs AH l) W) (hl : l.length ≤ 1000000) (ol : ∀ x ∈ l, ciOk x) (Gt : Nat → Prop) (hT : Held Gt (Typs At t.args) W) (ht : t.all (fun x => decide (x.args.length ≤ 1000000)) = true) :
    Calls Tryz.prog 84 #[tyV a Aa ca, .pointer (some ⟨tb, 0, none⟩), .pointer (some ⟨hb, 0, none⟩), .pointer (some ⟨allb, 0, none⟩)] W fun e W' => e = .returned (.tuple #[]) ∧ W'.cell? ⟨allb, 0, none⟩ = some (.bool (v && t.pieces.any fun b => insideB l a b)) ∧ W'.frozen? ⟨allb, 0, none⟩ = false ∧ Chg (· = allb) W W' := by
  obtain ⟨W1, hW1⟩ : ∃ W1, W1 = (W.alloc (.cells #[.int .i64 a.kind, .string a.name, .int .i64 a.lo, .int .i64 a.hi, .slice Aa a.args.length ca] 36)).alloc (.cells #[.bool false] 4) := ⟨_, rfl⟩
  have b1 : Below W.heap.size W W1 := by rw [hW1]; exact ((Below.refl _ W).alloc (Nat.le_refl _) _).alloc (by simp) _
  have xa : ∀ j u, [Value.int .i64 a.kind, .string a.name, .int .i64 a.lo, .int .i64 a.hi, .slice Aa a.args.length ca][j]? = some u → W1.cell? ⟨W.heap.size, j, none⟩ = some u := fun j u hj => by rw [hW1]; exact alloc_cell' (cell_new W _ _ _ rfl j u hj)
  have xs : W1.cell? ⟨W.heap.size + 1, 0, none⟩ = some (.bool false) := by rw [hW1]; exact cell_new (W.alloc _) _ _ _ (by simp) 0 _ rfl
  have xf : W1.frozen? ⟨W.heap.size + 1, 0, none⟩ = false := by
    rw [hW1]; unfold World.frozen?
    have : (W.heap.size + 1) = (W.alloc (.cells #[.int .i64 a.kind, .string a.name, .int .i64 a.lo, .int .i64 a.hi, .slice Aa a.args.length ca] 36)).heap.size := by simp
    simp only [this]
    rw [heap_alloc_new]; simp
  have hsz : W1.heap.size = W.heap.size + 2 := by rw [hW1]; simp
  have hal := cell_lt hs
  have hbl := cell_lt hh
  -- what holds while the inner function is called
  have HP := Lib.hid (pieces_calls 85 #[] #[.pointer (some ⟨W.heap.size + 1, 0, none⟩), .pointer (some ⟨hb, 0, none⟩), .pointer (some ⟨W.heap.size, 0, none⟩)] (enters Tryz.func85 (by kernel_rfl) rfl) W.heap.size W
    (fun d w => Chg (· = W.heap.size + 1) W1 w ∧ w.cell? ⟨W.heap.size + 1, 0, none⟩ = some (.bool (d.any fun b => insideB l a b)) ∧ w.frozen? ⟨W.heap.size + 1, 0, none⟩ = false)
    (fun d w w' ⟨h1, h2, h3⟩ q => ⟨h1.trans (Chg.of q), cell_all h2 q, (World.frozen?_of_block (a := ⟨W.heap.size + 1, 0, none⟩) (q.block _ (cell_lt h2))).trans h3⟩)
    (fun d w ⟨h1, _, _⟩ => b1.trans (h1.below (by omega) (fun b e => by omega)))
    (fun d x A c w ⟨h1, h2, h3⟩ => by
      have k1 : Keep (fun b => b ≠ W.heap.size + 1) W1 w := h1.keep fun b hb => hb
      have bW : Below W.heap.size W w := b1.trans (h1.below (by omega) (fun b e => by omega))
      have I : InAt (W.heap.size + 1) hb W.heap.size AH cH l a Aa ca w := InAt.keep ⟨cell_all hh b1, xa 0 _ rfl, xa 1 _ rfl, xa 2 _ rfl, xa 3 _ rfl, xa 4 _ rfl⟩ k1 (show hb ≠ W.heap.size + 1 by have : hb < W.heap.size := hbl; omega) (show W.heap.size ≠ W.heap.size + 1 by omega)
      refine (within11_calls (W.heap.size + 1) hb W.heap.size AH cH l a x Aa A ca c _ w I h2 h3 G (h.keep (Keep.all bW)) hl ol).mono ?_
      rintro e w' ⟨rfl, q1, q2, q3⟩
      refine ⟨rfl, h1.trans q3, ?_, q2⟩
      rw [q1, List.any_append]; simp)
    t.count t (Nat.le_refl _) At ct)
  have HP2 := Lib.hid (HP.out W1 [] ⟨Chg.refl _ _, xs, xf⟩ hT.here ht)
  have k1 : ∀ {V : World}, Chg (· = W.heap.size + 1) W1 V → Keep (fun b => b ≠ W.heap.size + 1) W1 V := fun h => h.keep fun b hb => hb
  have hbW : Hid (∀ V, Chg (· = W.heap.size + 1) W1 V → Below W.heap.size W V) := Lib.hid (fun V h1 => b1.trans (h1.below (by omega) (fun b e => by omega)))
  have c4 := Lib.hid (fun V (q : Chg (· = W.heap.size + 1) W1 V) => cell_keep (cell_all hs b1) (k1 q) (show allb ≠ W.heap.size + 1 by have : allb < W.heap.size := hal; omega))
  have f4 := Lib.hid (fun V (q : Chg (· = W.heap.size + 1) W1 V) => (World.frozen?_of_block (a := ⟨allb, 0, none⟩) ((k1 q).2 allb (cell_lt (cell_all hs b1)) (show allb ≠ W.heap.size + 1 by have : allb < W.heap.size := hal; omega))).trans ((World.frozen?_of_block (a := ⟨allb, 0, none⟩) (b1.block allb hal)).trans hf))
  have hmf : ∀ (fn : Fn) (first cap : Array Value) (w : World), (Instr.makeFunc fn first cap).run Tryz.prog w = .ok (.func fn first cap) w := fun _ _ _ _ => rfl
  have htb : tb < W.heap.size := cell_lt t0
  clear HP k1 xa xs xf hs hf hT ht h ol hh
  subst hW1
  go_enter Tryz.func84, Tryz.ntmps84
  go_wp2_with (fail)
  refine HP2.out.mono ?_
  clear HP2
  rintro e V ⟨rfl, hch, c2, f2⟩
  have g4 := c4.out V hch
  have gf4 := f4.out V hch
  have bWV := hbW.out V hch
  clear c4 f4 hbW b1 hch t0 t1 t2 t3 t4 hsz
  cases v with
  | true =>
    go_wp2
    go_end0
    exact ⟨rfl, by rw [World.cell?_setCell_same' _ _ _ (by rw [g4]; rfl)]; simp, by rw [World.frozen?_setCell]; exact gf4, (Chg.of bWV).trans (Chg.setCell (S := (· = allb)) V (p := ⟨allb, 0, none⟩) rfl _)⟩
  | false =>
    go_wp2
    go_end0
    exact ⟨rfl, by rw [World.cell?_setCell_same' _ _ _ (by rw [g4]; rfl)]; simp, by rw [World.frozen?_setCell]; exact gf4, (Chg.of bWV).trans (Chg.setCell (S := (· = allb)) V (p := ⟨allb, 0, none⟩) rfl _)⟩
set_option maxHeartbeats 16000000 in
set_option maxRecDepth 100000 in
theorem within_calls (AH : Option Addr) (cH : Nat) (l : List CI) (s t : Ty) (As At : Option Addr) (cs ct : Nat) (W : World) (G : Nat → Prop) (h : Held G (CIs AH l) W) (hl : l.length ≤ 1000000) (ol : ∀ x ∈ l, ciOk x)
    (Gs Gt : Nat → Prop) (hS : Held Gs (Typs As s.args) W) (hT : Held Gt (Typs At t.args) W) (hs : s.all (fun x => decide (x.args.length ≤ 1000000)) = true) (ht : t.all (fun x => decide (x.args.length ≤ 1000000)) = true) :
    Calls Tryz.prog 51 #[.slice AH l.length cH, tyV s As cs, tyV t At ct] W fun e W' => e = .returned (.bool (withinB l s t)) ∧ Below W.heap.size W W' := by
  obtain ⟨Wa, hWa⟩ : ∃ Wa, Wa = W.alloc (.cells #[.slice AH l.length cH] 22) := ⟨_, rfl⟩
  obtain ⟨Wb, hWb⟩ : ∃ Wb, Wb = Wa.alloc (.cells #[.int .i64 s.kind, .string s.name, .int .i64 s.lo, .int .i64 s.hi, .slice As s.args.length cs] 36) := ⟨_, rfl⟩
  obtain ⟨Wc, hWc⟩ : ∃ Wc, Wc = Wb.alloc (.cells #[.int .i64 t.kind, .string t.name, .int .i64 t.lo, .int .i64 t.hi, .slice At t.args.length ct] 36) := ⟨_, rfl⟩
  obtain ⟨W1, hW1⟩ : ∃ W1, W1 = Wc.alloc (.cells #[.bool true] 4) := ⟨_, rfl⟩
  have za : Wa.heap.size = W.heap.size + 1 := by rw [hWa]; simp
  have zb : Wb.heap.size = W.heap.size + 2 := by rw [hWb]; simp [za]
  have zc : Wc.heap.size = W.heap.size + 3 := by rw [hWc]; simp [zb]
  have z1 : W1.heap.size = W.heap.size + 4 := by rw [hW1]; simp [zc]
  have ba : Below Wa.heap.size Wa Wb := by rw [hWb]; exact (Below.refl _ Wa).alloc (Nat.le_refl _) _
  have bb : Below Wb.heap.size Wb Wc := by rw [hWc]; exact (Below.refl _ Wb).alloc (Nat.le_refl _) _
  have bc : Below Wc.heap.size Wc W1 := by rw [hW1]; exact (Below.refl _ Wc).alloc (Nat.le_refl _) _
  have b0 : Below W.heap.size W Wa := by rw [hWa]; exact (Below.refl _ W).alloc (Nat.le_refl _) _
  have b1 : Below W.heap.size W W1 := ((b0.trans (ba.mono (by omega))).trans (bb.mono (by omega))).trans (bc.mono (by omega))
  have bb1 : Below Wb.heap.size Wb W1 := bb.trans (bc.mono (by omega))
  have ba1 : Below Wa.heap.size Wa W1 := ba.trans (bb1.mono (by omega))
  have xh : W1.cell? ⟨W.heap.size, 0, none⟩ = some (.slice AH l.length cH) := cell_all (by rw [hWa]; exact cell_new W _ _ _ rfl 0 _ rfl) ba1
  have xs : ∀ j u, [Value.int .i64 s.kind, .string s.name, .int .i64 s.lo, .int .i64 s.hi, .slice As s.args.length cs][j]? = some u → W1.cell? ⟨W.heap.size + 1, j, none⟩ = some u := fun j u hj => cell_all (by rw [hWb]; exact cell_new Wa _ _ _ za.symm j u hj) bb1
  have xt : ∀ j u, [Value.int .i64 t.kind, .string t.name, .int .i64 t.lo, .int .i64 t.hi, .slice At t.args.length ct][j]? = some u → W1.cell? ⟨W.heap.size + 2, j, none⟩ = some u := fun j u hj => cell_all (by rw [hWc]; exact cell_new Wb _ _ _ zb.symm j u hj) bc
  have xv : W1.cell? ⟨W.heap.size + 3, 0, none⟩ = some (.bool true) := by rw [hW1]; exact cell_new Wc _ _ _ zc.symm 0 _ rfl
  have xf : W1.frozen? ⟨W.heap.size + 3, 0, none⟩ = false := by
    rw [hW1]; unfold World.frozen?
    simp only [← zc]
    rw [heap_alloc_new]; simp
  have HP := Lib.hid (pieces_calls 84 #[] #[.pointer (some ⟨W.heap.size + 2, 0, none⟩), .pointer (some ⟨W.heap.size, 0, none⟩), .pointer (some ⟨W.heap.size + 3, 0, none⟩)] (enters Tryz.func84 (by kernel_rfl) rfl) W.heap.size W
    (fun d w => Chg (· = W.heap.size + 3) W1 w ∧ w.cell? ⟨W.heap.size + 3, 0, none⟩ = some (.bool (d.all fun a => t.pieces.any fun b => insideB l a b)) ∧ w.frozen? ⟨W.heap.size + 3, 0, none⟩ = false)
    (fun d w w' ⟨h1, h2, h3⟩ q => ⟨h1.trans (Chg.of q), cell_all h2 q, (World.frozen?_of_block (a := ⟨W.heap.size + 3, 0, none⟩) (q.block _ (cell_lt h2))).trans h3⟩)
    (fun d w ⟨h1, _, _⟩ => b1.trans (h1.below (by omega) (fun b e => by omega)))
    (fun d x A c w ⟨h1, h2, h3⟩ => by
      have k1 : Keep (fun b => b ≠ W.heap.size + 3) W1 w := h1.keep fun b hb => hb
      have bW : Below W.heap.size W w := b1.trans (h1.below (by omega) (fun b e => by omega))
      have ct : ∀ j u, [Value.int .i64 t.kind, .string t.name, .int .i64 t.lo, .int .i64 t.hi, .slice At t.args.length ct][j]? = some u → w.cell? ⟨W.heap.size + 2, j, none⟩ = some u := fun j u hj => cell_keep (xt j u hj) k1 (show W.heap.size + 2 ≠ W.heap.size + 3 by omega)
      refine (within1_calls (W.heap.size + 2) W.heap.size (W.heap.size + 3) AH cH l x t A At c _ _ w (cell_keep xh k1 (show W.heap.size ≠ W.heap.size + 3 by omega)) (ct 0 _ rfl) (ct 1 _ rfl) (ct 2 _ rfl) (ct 3 _ rfl) (ct 4 _ rfl) h2 h3 G (h.keep (Keep.all bW)) hl ol Gt (hT.keep (Keep.all bW)) ht).mono ?_
      rintro e w' ⟨rfl, q1, q2, q3⟩
      refine ⟨rfl, h1.trans q3, ?_, q2⟩
      rw [q1, List.all_append]; simp)
    s.count s (Nat.le_refl _) As cs)
  have HP2 := Lib.hid (HP.out W1 [] ⟨Chg.refl _ _, xv, xf⟩ hS.here hs)
  have hmf : ∀ (fn : Fn) (first cap : Array Value) (w : World), (Instr.makeFunc fn first cap).run Tryz.prog w = .ok (.func fn first cap) w := fun _ _ _ _ => rfl
  have s0 := xs 0 _ rfl
  have s1 := xs 1 _ rfl
  have s2 := xs 2 _ rfl
  have s3 := xs 3 _ rfl
  have s4 := xs 4 _ rfl
  have hbW : Hid (∀ V, Chg (· = W.heap.size + 3) W1 V → Below W.heap.size W V) := Lib.hid (fun V h1 => b1.trans (h1.below (by omega) (fun b e => by omega)))
  clear HP xh xs xt xv xf h ol hS hT hs ht za zb zc z1 ba bb bc b0 bb1 ba1 b1
  subst hW1 hWc hWb hWa
  go_enter Tryz.func51, Tryz.ntmps51
  go_wp2_with (fail)
  refine HP2.out.mono ?_
  clear HP2
  rintro e V ⟨rfl, hch, c2, f2⟩
  have bWV := hbW.out V hch
  clear hbW hch
  go_wp2
  go_ret
  exact ⟨rfl, bWV⟩
end Go.Proofs.YtepnmejahbiacaaGreat
set_option linter.unusedVariables false
set_option linter.unusedSimpArgs false
namespace Go.Proofs.YtepnmejahbiacaaGreat
open Go.RowKit
/-- How much a class has behind it. -/
def rankC (l : List CI) (s : ByteArray) : Nat := match clsAt l s with
  | none => 0
  | some i => l.length - i
theorem rankC_le (l : List CI) (s : ByteArray) : rankC l s ≤ l.length := by
  unfold rankC; split <;> omega
theorem subs_at {l : List CI} (h : LookOk l) {s t : ByteArray} (ht : t ∈ subsL l s) : ∃ i k : Nat, i < k ∧ clsAt l s = some i ∧ clsAt l t = some k ∧ k < l.length := by
  unfold subsL at ht
  obtain ⟨x, hx, rfl⟩ := List.mem_map.1 ht
  obtain ⟨hx, hs⟩ := List.mem_filter.1 hx
  obtain ⟨k, hk⟩ := List.mem_iff_getElem?.1 hx
  obtain ⟨j, hj, e⟩ := super_at (c3Check_zero h.2.2.2.2.1).2 (heirsOf_get hk) (s := s) (hasS_iff.1 hs)
  rw [heirNames] at e
  exact ⟨j, k, hj, e, (find_at h hk rfl).2, (List.getElem?_eq_some_iff.1 hk).1⟩
theorem subs_rank {l : List CI} (h : LookOk l) {s t : ByteArray} (ht : t ∈ subsL l s) : rankC l t < rankC l s := by
  obtain ⟨i, k, hik, h1, h2, hk⟩ := subs_at h ht
  unfold rankC; rw [h1, h2]
  show l.length - k < l.length - i
  omega
theorem all_congr {α : Type} {p q : α → Bool} : ∀ {l : List α}, (∀ x ∈ l, p x = q x) → l.all p = l.all q
  | [], _ => rfl
  | x :: l, h => by
    simp only [List.all_cons]
    rw [h x (by simp), all_congr fun y hy => h y (List.mem_cons_of_mem _ hy)]
theorem cloN_eq {l : List CI} (h : LookOk l) : ∀ (n m : Nat) (s : ByteArray), rankC l s ≤ n → rankC l s ≤ m → cloN l n s = cloN l m s := by
  intro n
  induction n with
  | zero =>
    intro m s hn hm
    cases m with
    | zero => rfl
    | succ m =>
      rw [cloN, cloN]
      cases hc : clsAt l s with
      | none => rfl
      | some i =>
        obtain ⟨x, hx, _⟩ := clsAt_get hc
        have := (List.getElem?_eq_some_iff.1 hx).1
        unfold rankC at hn; rw [hc] at hn
        have hn : l.length - i ≤ 0 := hn
        omega
  | succ n ih =>
    intro m s hn hm
    cases m with
    | zero =>
      rw [cloN, cloN]
      cases hc : clsAt l s with
      | none => rfl
      | some i =>
        obtain ⟨x, hx, _⟩ := clsAt_get hc
        have := (List.getElem?_eq_some_iff.1 hx).1
        unfold rankC at hm; rw [hc] at hm
        have hm : l.length - i ≤ 0 := hm
        omega
    | succ m =>
      rw [cloN, cloN]
      cases hc : clsAt l s with
      | none => rfl
      | some i =>
        show (sealAt l i && (subsL l s).all (cloN l n)) = (sealAt l i && (subsL l s).all (cloN l m))
        rw [all_congr fun t ht => by have := subs_rank h ht; exact ih m t (by omega) (by omega)]
theorem cloB_eq {l : List CI} (h : LookOk l) (s : ByteArray) : cloB l s = match clsAt l s with
    | none => false
    | some i => sealAt l i && (subsL l s).all (cloB l) := by
  unfold cloB
  have h11 := h.2.1
  rw [cloN_eq h l.length (l.length + 1) s (rankC_le l s) (by have := rankC_le l s; omega), cloN]
  cases clsAt l s <;> rfl
theorem vdN_eq {l : List CI} (h : LookOk l) : ∀ (n m : Nat) (s : ByteArray), rankC l s ≤ n → rankC l s ≤ m → vdN l n s = vdN l m s := by
  have h0 : ∀ s, rankC l s = 0 → cloB l s = false := fun s hs => by
    rw [cloB_eq h]
    cases hc : clsAt l s with
    | none => rfl
    | some i =>
      obtain ⟨x, hx, _⟩ := clsAt_get hc
      have := (List.getElem?_eq_some_iff.1 hx).1
      unfold rankC at hs; rw [hc] at hs
      have hs : l.length - i = 0 := hs
      omega
  intro n
  induction n with
  | zero =>
    intro m s hn hm
    cases m with
    | zero => rfl
    | succ m => rw [vdN, vdN, h0 s (by omega)]; rfl
  | succ n ih =>
    intro m s hn hm
    cases m with
    | zero => rw [vdN, vdN, h0 s (by omega)]; rfl
    | succ m =>
      rw [vdN, vdN, all_congr fun t ht => by have := subs_rank h ht; exact ih m t (by omega) (by omega)]
theorem vdB_eq {l : List CI} (h : LookOk l) (s : ByteArray) : vdB l s = (cloB l s && absAt l s && (subsL l s).all (vdB l)) := by
  unfold vdB
  rw [vdN_eq h l.length (l.length + 1) s (rankC_le l s) (by have := rankC_le l s; omega), vdN]
end Go.Proofs.YtepnmejahbiacaaGreat
