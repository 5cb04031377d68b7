/- Part 25 of the proof: Sn. -/
import Derived.Test.YtepnmejahbiacaaGreatL20
import Derived.Test.YtepnmejahbiacaaGreatL17
import Derived.Test.YtepnmejahbiacaaGreatL04
import Derived.Test.YtepnmejahbiacaaGreatL05
import Derived.Test.YtepnmejahbiacaaGreatL18
import Derived.Test.YtepnmejahbiacaaGreatL07
import Derived.Test.YtepnmejahbiacaaGreatL12
import Derived.Test.YtepnmejahbiacaaGreatL13
import Derived.Test.YtepnmejahbiacaaGreatL14
import Derived.Test.YtepnmejahbiacaaGreatL15
import Derived.Test.YtepnmejahbiacaaGreatL24
import Derived.Test.YtepnmejahbiacaaGreatL23
import Derived.Test.YtepnmejahbiacaaGreatL19
import Derived.Test.YtepnmejahbiacaaGreatL08
import Derived.Test.YtepnmejahbiacaaGreatL16
import Derived.Test.YtepnmejahbiacaaGreatL06
import Derived.Test.YtepnmejahbiacaaGreatL10
import Derived.Test.YtepnmejahbiacaaGreatL11
import Derived.Test.YtepnmejahbiacaaGreatL22
import Derived.Test.YtepnmejahbiacaaGreatL09
import Derived.Test.YtepnmejahbiacaaGreatL03
import Derived.Test.YtepnmejahbiacaaGreatL02
import Derived.Test.YtepnmejahbiacaaGreatL01
import Derived.BigQuiet
import Derived.Carry
import Derived.Deep.AppendLies
import Derived.Deep.Draws
import Derived.Deep.LoopGhost
import Derived.Deep.QuietTactic
import Derived.Deep.RegionHeld3
import Derived.Deep.RegionLaw
import Derived.Deep.RegionWith
import Derived.KernelRfl
import Derived.Laws.EntriesVeiled
import Derived.Lib.Hide
import Derived.Lib.SliceRun
import Derived.LoopIn
import Derived.LoopNIn
import Derived.Maps.AppendAt
import Derived.Maps.Own
import Derived.Maps.OwnIn
import Derived.Outline
import Derived.OwnWalkIn
import Derived.RangeFuncBound
import Derived.RangeFuncCalls
import Derived.RangeFuncLeaves
import Derived.RangeFuncNested
import Derived.Recover
import Derived.StillTailTactics
import Derived.Stop.RegionWithIn
import Derived.TacticsInMore
import Derived.Test.YtepnmejahbiacaaGreatProg
import Derived.WalkKit
import Derived.WalkSpells
set_option linter.unusedVariables false
set_option linter.unusedSimpArgs false
namespace Go.Proofs.YtepnmejahbiacaaGreat
open Go.RowKit
/-- The cells of a method of one parameter. -/
abbrev metL (m : Meth) (n : Nat) : List Value := [.int .i64 m.id, .string m.lib, .slice (some ⟨n, 0, none⟩) m.pars.length 1, .int .i64 m.result.kind, .string m.result.name, .int .i64 m.result.lo, .int .i64 m.result.hi, .slice none m.result.args.length 0]
/-- A method in a box. -/
structure BoxM (m : Meth) (n b : Nat) (w : World) : Prop where
  c : ∀ j u, (metL m n)[j]? = some u → w.cell? ⟨b, j, none⟩ = some u
  p : Held (fun b => b < w.heap.size) (Pars (some ⟨n, 0, none⟩) m.pars) w
theorem BoxM.keep {m : Meth} {n b : Nat} {w w' : World} (h : BoxM m n b w) (k : Below w.heap.size w w') : BoxM m n b w' :=
  ⟨fun j u hj => cell_all (h.c j u hj) k, (h.p.all k).mono fun b _ hb => Nat.lt_of_lt_of_le hb k.size⟩
theorem BoxM.met {i : Int} {t : Ty} {n b : Nat} {w : World} (h : BoxM (met1 i t) n b w) : Held (fun b => b < w.heap.size) (metR (met1 i t) (metL (met1 i t) n)) w :=
  metR.mk (m := met1 i t) (A1 := some ⟨n, 0, none⟩) (A2 := none) (c1 := 1) (c2 := 0) (Nat.le_refl _) h.p (Nat.le_refl _) (fun _ _ => Slc.nil _ _ _ _)
set_option maxHeartbeats 32000000 in
set_option maxRecDepth 100000 in
theorem sane_calls (W : World) : Calls Tryz.prog 8 #[] W fun e W' => e = .returned (.bool true) ∧ Below W.heap.size W W' := by
  go_enter Tryz.func8, Tryz.ntmps8
  go_wp2_with (fail)
  refine (hierarchy_calls W).mono ?_
  rintro e V0 ⟨A, c, rfl, hc, hH, b0⟩
  have HH := Lib.hid hH
  have HC := Lib.hid hc
  clear hH hc
  have q0 : Below V0.heap.size V0 V0 := Below.refl _ _
  go_wp2_with (fail)
  refine (class_calls nA _).mono ?_
  rintro e V1 ⟨rfl, bV1⟩
  have q1 := below_step q0 bV1
  go_wp2_with (fail)
  refine (method_calls 0 (clsT nA) none 0 _ _ (show Held (fun _ => True) (Typs none (clsT nA).args) _ from (fun _ _ => Slc.nil _ _ _ _)) (Nat.le_refl _)).mono ?_
  rintro e V2 ⟨pbA, rfl, _, _, hpA, bV2⟩
  have q2 := below_step q1 bV2
  have aV2 : Below V2.heap.size V2 (V2.alloc (.cells (metL mA pbA).toArray 68)) := (Below.refl _ V2).alloc (Nat.le_refl _) _
  have q3 := below_step q2 aV2
  have XA : Hid (BoxM mA pbA V2.heap.size (V2.alloc (.cells (metL mA pbA).toArray 68))) := Lib.hid ⟨fun j u hj => cell_new V2 _ _ _ rfl j u hj, (hpA.all aV2).mono fun b _ hb => Nat.lt_of_lt_of_le hb aV2.size⟩
  clear hpA
  go_wp2_with (fail)
  refine (class_calls nB _).mono ?_
  rintro e V3 ⟨rfl, bV3⟩
  have q4 := below_step q3 bV3
  have XA := Lib.hid (XA.out.keep bV3)
  go_wp2_with (fail)
  refine (method_calls 1 (clsT nB) none 0 _ _ (show Held (fun _ => True) (Typs none (clsT nB).args) _ from (fun _ _ => Slc.nil _ _ _ _)) (Nat.le_refl _)).mono ?_
  rintro e V4 ⟨pbB, rfl, _, _, hpB, bV4⟩
  have q5 := below_step q4 bV4
  have XA := Lib.hid (XA.out.keep bV4)
  have aV4 : Below V4.heap.size V4 (V4.alloc (.cells (metL mB pbB).toArray 68)) := (Below.refl _ V4).alloc (Nat.le_refl _) _
  have q6 := below_step q5 aV4
  have XA := Lib.hid (XA.out.keep aV4)
  have XB : Hid (BoxM mB pbB V4.heap.size (V4.alloc (.cells (metL mB pbB).toArray 68))) := Lib.hid ⟨fun j u hj => cell_new V4 _ _ _ rfl j u hj, (hpB.all aV4).mono fun b _ hb => Nat.lt_of_lt_of_le hb aV4.size⟩
  clear hpB
  go_wp2_with (fail)
  refine (class_calls nObj _).mono ?_
  rintro e V5 ⟨rfl, bV5⟩
  have q7 := below_step q6 bV5
  have XA := Lib.hid (XA.out.keep bV5)
  have XB := Lib.hid (XB.out.keep bV5)
  go_wp2_with (fail)
  refine (method_calls 2 (clsT nObj) none 0 _ _ (show Held (fun _ => True) (Typs none (clsT nObj).args) _ from (fun _ _ => Slc.nil _ _ _ _)) (Nat.le_refl _)).mono ?_
  rintro e V6 ⟨pbO, rfl, _, _, hpO, bV6⟩
  have q8 := below_step q7 bV6
  have XA := Lib.hid (XA.out.keep bV6)
  have XB := Lib.hid (XB.out.keep bV6)
  have aV6 : Below V6.heap.size V6 (V6.alloc (.cells (metL mO pbO).toArray 68)) := (Below.refl _ V6).alloc (Nat.le_refl _) _
  have q9 := below_step q8 aV6
  have XA := Lib.hid (XA.out.keep aV6)
  have XB := Lib.hid (XB.out.keep aV6)
  have XO : Hid (BoxM mO pbO V6.heap.size (V6.alloc (.cells (metL mO pbO).toArray 68))) := Lib.hid ⟨fun j u hj => cell_new V6 _ _ _ rfl j u hj, (hpO.all aV6).mono fun b _ hb => Nat.lt_of_lt_of_le hb aV6.size⟩
  clear hpO
  go_wp2_with (fail)
  refine (class_calls nA _).mono ?_
  rintro e V7 ⟨rfl, bV7⟩
  have q10 := below_step q9 bV7
  have XA := Lib.hid (XA.out.keep bV7)
  have XB := Lib.hid (XB.out.keep bV7)
  have XO := Lib.hid (XO.out.keep bV7)
  go_wp2_with (fail)
  refine (class_calls nInteger _).mono ?_
  rintro e V8 ⟨rfl, bV8⟩
  have q11 := below_step q10 bV8
  have XA := Lib.hid (XA.out.keep bV8)
  have XB := Lib.hid (XB.out.keep bV8)
  have XO := Lib.hid (XO.out.keep bV8)
  have HT : Hid (Held (fun b => b < V8.heap.size + 1) (Typs (some ⟨V8.heap.size, 0, none⟩) tyU.args) (V8.alloc (.cells #[.int .i64 1, .string nA, .int .i64 0, .int .i64 0, .slice none 0 0, .int .i64 1, .string nInteger, .int .i64 0, .int .i64 0, .slice none 0 0] 36))) := Lib.hid (rows2 (R := typR) (sz := 5) (G := fun _ => True) (x := clsT nA) (y := clsT nInteger) (cx := [.int .i64 1, .string nA, .int .i64 0, .int .i64 0, .slice none 0 0]) (cy := [.int .i64 1, .string nInteger, .int .i64 0, .int .i64 0, .slice none 0 0]) 36 rfl (typR.mk (t := clsT nA) (A := none) (c := 0) (Nat.le_refl _) (fun _ _ => Slc.nil _ _ _ _)) (typR.mk (t := clsT nInteger) (A := none) (c := 0) (Nat.le_refl _) (fun _ _ => Slc.nil _ _ _ _)) rfl rfl)
  have aT : Below V8.heap.size V8 (V8.alloc (.cells #[.int .i64 1, .string nA, .int .i64 0, .int .i64 0, .slice none 0 0, .int .i64 1, .string nInteger, .int .i64 0, .int .i64 0, .slice none 0 0] 36)) := (Below.refl _ V8).alloc (Nat.le_refl _) _
  have q12 := below_step q11 aT
  have XA := Lib.hid (XA.out.keep aT)
  have XB := Lib.hid (XB.out.keep aT)
  have XO := Lib.hid (XO.out.keep aT)
  go_wp2_with (fail)
  refine (method_calls 3 tyU (some ⟨V8.heap.size, 0, none⟩) 2 _ _ HT.out (Nat.le_refl _)).mono ?_
  rintro e V9 ⟨pbU, rfl, _, _, hpU, bV9⟩
  have q13 := below_step q12 bV9
  have XA := Lib.hid (XA.out.keep bV9)
  have XB := Lib.hid (XB.out.keep bV9)
  have XO := Lib.hid (XO.out.keep bV9)
  have fA0 := XA.out.c 0 _ rfl
  have fA1 := XA.out.c 1 _ rfl
  have fA2 := XA.out.c 2 _ rfl
  have fA3 := XA.out.c 3 _ rfl
  have fA4 := XA.out.c 4 _ rfl
  have fA5 := XA.out.c 5 _ rfl
  have fA6 := XA.out.c 6 _ rfl
  have fA7 := XA.out.c 7 _ rfl
  have lA : V2.heap.size < V9.heap.size := cell_lt fA0
  have fB0 := XB.out.c 0 _ rfl
  have fB1 := XB.out.c 1 _ rfl
  have fB2 := XB.out.c 2 _ rfl
  have fB3 := XB.out.c 3 _ rfl
  have fB4 := XB.out.c 4 _ rfl
  have fB5 := XB.out.c 5 _ rfl
  have fB6 := XB.out.c 6 _ rfl
  have fB7 := XB.out.c 7 _ rfl
  have lB : V4.heap.size < V9.heap.size := cell_lt fB0
  have fO0 := XO.out.c 0 _ rfl
  have fO1 := XO.out.c 1 _ rfl
  have fO2 := XO.out.c 2 _ rfl
  have fO3 := XO.out.c 3 _ rfl
  have fO4 := XO.out.c 4 _ rfl
  have fO5 := XO.out.c 5 _ rfl
  have fO6 := XO.out.c 6 _ rfl
  have fO7 := XO.out.c 7 _ rfl
  have lO : V6.heap.size < V9.heap.size := cell_lt fO0
  have aV9 : Below V9.heap.size V9 (V9.alloc (.cells (metL mU pbU).toArray 68)) := (Below.refl _ V9).alloc (Nat.le_refl _) _
  have q14 := below_step q13 aV9
  have XA := Lib.hid (XA.out.keep aV9)
  have XB := Lib.hid (XB.out.keep aV9)
  have XO := Lib.hid (XO.out.keep aV9)
  have XU : Hid (BoxM mU pbU V9.heap.size (V9.alloc (.cells (metL mU pbU).toArray 68))) := Lib.hid ⟨fun j u hj => cell_new V9 _ _ _ rfl j u hj, (hpU.all aV9).mono fun b _ hb => Nat.lt_of_lt_of_le hb aV9.size⟩
  clear hpU
  have HTC := Lib.hid (rows1 (R := tagR) (n := V9.heap.size + 1) (w := (V9.alloc (.cells (metL mU pbU).toArray 68))) (x := tagC) (cx := [.int .i64 5, .int .i64 0, .string nC]) 39 (by simp) (show Held (fun _ => True) (tagR tagC [.int .i64 5, .int .i64 0, .string nC]) _ from fun _ _ => rfl) rfl)
  have aG : Below (V9.alloc (.cells (metL mU pbU).toArray 68)).heap.size (V9.alloc (.cells (metL mU pbU).toArray 68)) ((V9.alloc (.cells (metL mU pbU).toArray 68)).alloc (.cells ([.int .i64 5, .int .i64 0, .string nC] : List Value).toArray 39)) := (Below.refl _ (V9.alloc (.cells (metL mU pbU).toArray 68))).alloc (Nat.le_refl _) _
  have q15 := below_step q14 aG
  have XA := Lib.hid (XA.out.keep aG)
  have XB := Lib.hid (XB.out.keep aG)
  have XO := Lib.hid (XO.out.keep aG)
  have XU := Lib.hid (XU.out.keep aG)
  have HM1 := Lib.hid (rows3 (R := metR) (n := V9.heap.size + 1 + 1) (w := ((V9.alloc (.cells (metL mU pbU).toArray 68)).alloc (.cells ([.int .i64 5, .int .i64 0, .string nC] : List Value).toArray 39))) (x := mA) (y := mB) (z := mO) (cx := (metL mA pbA)) (cy := (metL mB pbB)) (cz := (metL mO pbO)) 68 (by simp) XA.out.met XB.out.met XO.out.met rfl rfl rfl)
  have aM1 : Below ((V9.alloc (.cells (metL mU pbU).toArray 68)).alloc (.cells ([.int .i64 5, .int .i64 0, .string nC] : List Value).toArray 39)).heap.size ((V9.alloc (.cells (metL mU pbU).toArray 68)).alloc (.cells ([.int .i64 5, .int .i64 0, .string nC] : List Value).toArray 39)) (((V9.alloc (.cells (metL mU pbU).toArray 68)).alloc (.cells ([.int .i64 5, .int .i64 0, .string nC] : List Value).toArray 39)).alloc (.cells ((metL mA pbA) ++ (metL mB pbB) ++ (metL mO pbO)).toArray 68)) := (Below.refl _ ((V9.alloc (.cells (metL mU pbU).toArray 68)).alloc (.cells ([.int .i64 5, .int .i64 0, .string nC] : List Value).toArray 39))).alloc (Nat.le_refl _) _
  have q16 := below_step q15 aM1
  have XA := Lib.hid (XA.out.keep aM1)
  have XB := Lib.hid (XB.out.keep aM1)
  have XO := Lib.hid (XO.out.keep aM1)
  have XU := Lib.hid (XU.out.keep aM1)
  have HTC := Lib.hid (HTC.out.all aM1)
  go_wp2_with (fail)
  refine (sane_o [mA, mB, mO] tagC [0, 1, 2] false ex1 A c _ _ _ _ _ (sane_asks ⟨_, HH.out.all q16⟩ HC.out ⟨_, HM1.out⟩ (small_ms (by simp)).1 (by simp) (small_ms (by simp)).2 ⟨_, HTC.out⟩)).mono ?_
  rintro e V10 ⟨A1, c1, rfl, ho1, bV10⟩
  clear fA0 fA1 fA2 fA3 fA4 fA5 fA6 fA7 lA fB0 fB1 fB2 fB3 fB4 fB5 fB6 fB7 lB fO0 fO1 fO2 fO3 fO4 fO5 fO6 fO7 lO
  have q17 := below_step q16 bV10
  have XA := Lib.hid (XA.out.keep bV10)
  have XB := Lib.hid (XB.out.keep bV10)
  have XO := Lib.hid (XO.out.keep bV10)
  have XU := Lib.hid (XU.out.keep bV10)
  have HTC := Lib.hid (HTC.out.all bV10)
  have HM1 := Lib.hid (HM1.out.all bV10)
  have HO1 := Lib.hid ho1
  clear ho1
  have fB0 := XB.out.c 0 _ rfl
  have fB1 := XB.out.c 1 _ rfl
  have fB2 := XB.out.c 2 _ rfl
  have fB3 := XB.out.c 3 _ rfl
  have fB4 := XB.out.c 4 _ rfl
  have fB5 := XB.out.c 5 _ rfl
  have fB6 := XB.out.c 6 _ rfl
  have fB7 := XB.out.c 7 _ rfl
  have lB : V4.heap.size < V10.heap.size := cell_lt fB0
  have fU0 := XU.out.c 0 _ rfl
  have fU1 := XU.out.c 1 _ rfl
  have fU2 := XU.out.c 2 _ rfl
  have fU3 := XU.out.c 3 _ rfl
  have fU4 := XU.out.c 4 _ rfl
  have fU5 := XU.out.c 5 _ rfl
  have fU6 := XU.out.c 6 _ rfl
  have fU7 := XU.out.c 7 _ rfl
  have lU : V9.heap.size < V10.heap.size := cell_lt fU0
  have HM2 := Lib.hid (rows2 (R := metR) (n := V10.heap.size) (w := V10) (x := mB) (y := mU) (cx := (metL mB pbB)) (cy := (metL mU pbU)) 68 (by simp) XB.out.met XU.out.met rfl rfl)
  have aM2 : Below V10.heap.size V10 (V10.alloc (.cells ((metL mB pbB) ++ (metL mU pbU)).toArray 68)) := (Below.refl _ V10).alloc (Nat.le_refl _) _
  have q18 := below_step q17 aM2
  have XA := Lib.hid (XA.out.keep aM2)
  have XB := Lib.hid (XB.out.keep aM2)
  have XO := Lib.hid (XO.out.keep aM2)
  have XU := Lib.hid (XU.out.keep aM2)
  have HTC := Lib.hid (HTC.out.all aM2)
  have HO1 := Lib.hid (HO1.out.all aM2)
  go_wp2_with (fail)
  refine (sane_o [mB, mU] tagC [] true ex2 A c _ _ _ _ _ (sane_asks ⟨_, HH.out.all q18⟩ HC.out ⟨_, HM2.out⟩ (small_ms (by simp)).1 (by simp) (small_ms (by simp)).2 ⟨_, HTC.out⟩)).mono ?_
  rintro e V11 ⟨A2, c2, rfl, ho2, bV11⟩
  clear fB0 fB1 fB2 fB3 fB4 fB5 fB6 fB7 lB fU0 fU1 fU2 fU3 fU4 fU5 fU6 fU7 lU
  have q19 := below_step q18 bV11
  have XA := Lib.hid (XA.out.keep bV11)
  have XB := Lib.hid (XB.out.keep bV11)
  have XO := Lib.hid (XO.out.keep bV11)
  have XU := Lib.hid (XU.out.keep bV11)
  have HTC := Lib.hid (HTC.out.all bV11)
  have HO1 := Lib.hid (HO1.out.all bV11)
  have HM2 := Lib.hid (HM2.out.all bV11)
  have HO2 := Lib.hid ho2
  clear ho2
  have fO0 := XO.out.c 0 _ rfl
  have fO1 := XO.out.c 1 _ rfl
  have fO2 := XO.out.c 2 _ rfl
  have fO3 := XO.out.c 3 _ rfl
  have fO4 := XO.out.c 4 _ rfl
  have fO5 := XO.out.c 5 _ rfl
  have fO6 := XO.out.c 6 _ rfl
  have fO7 := XO.out.c 7 _ rfl
  have lO : V6.heap.size < V11.heap.size := cell_lt fO0
  have fU0 := XU.out.c 0 _ rfl
  have fU1 := XU.out.c 1 _ rfl
  have fU2 := XU.out.c 2 _ rfl
  have fU3 := XU.out.c 3 _ rfl
  have fU4 := XU.out.c 4 _ rfl
  have fU5 := XU.out.c 5 _ rfl
  have fU6 := XU.out.c 6 _ rfl
  have fU7 := XU.out.c 7 _ rfl
  have lU : V9.heap.size < V11.heap.size := cell_lt fU0
  have HM3 := Lib.hid (rows2 (R := metR) (n := V11.heap.size) (w := V11) (x := mO) (y := mU) (cx := (metL mO pbO)) (cy := (metL mU pbU)) 68 (by simp) XO.out.met XU.out.met rfl rfl)
  have aM3 : Below V11.heap.size V11 (V11.alloc (.cells ((metL mO pbO) ++ (metL mU pbU)).toArray 68)) := (Below.refl _ V11).alloc (Nat.le_refl _) _
  have q20 := below_step q19 aM3
  have XA := Lib.hid (XA.out.keep aM3)
  have XB := Lib.hid (XB.out.keep aM3)
  have XO := Lib.hid (XO.out.keep aM3)
  have XU := Lib.hid (XU.out.keep aM3)
  have HTC := Lib.hid (HTC.out.all aM3)
  have HO1 := Lib.hid (HO1.out.all aM3)
  have HTI := Lib.hid (rows1 (R := tagR) (n := V11.heap.size + 1) (w := (V11.alloc (.cells ((metL mO pbO) ++ (metL mU pbU)).toArray 68))) (x := tagI) (cx := [.int .i64 1, .int .i64 5, .string ⟨#[]⟩]) 39 (by simp) (show Held (fun _ => True) (tagR tagI [.int .i64 1, .int .i64 5, .string ⟨#[]⟩]) _ from fun _ _ => rfl) rfl)
  have aTI : Below (V11.alloc (.cells ((metL mO pbO) ++ (metL mU pbU)).toArray 68)).heap.size (V11.alloc (.cells ((metL mO pbO) ++ (metL mU pbU)).toArray 68)) ((V11.alloc (.cells ((metL mO pbO) ++ (metL mU pbU)).toArray 68)).alloc (.cells ([.int .i64 1, .int .i64 5, .string ⟨#[]⟩] : List Value).toArray 39)) := (Below.refl _ (V11.alloc (.cells ((metL mO pbO) ++ (metL mU pbU)).toArray 68))).alloc (Nat.le_refl _) _
  have q21 := below_step q20 aTI
  have XA := Lib.hid (XA.out.keep aTI)
  have XB := Lib.hid (XB.out.keep aTI)
  have XO := Lib.hid (XO.out.keep aTI)
  have XU := Lib.hid (XU.out.keep aTI)
  have HTC := Lib.hid (HTC.out.all aTI)
  have HO1 := Lib.hid (HO1.out.all aTI)
  have HM3 := Lib.hid (HM3.out.all aTI)
  go_wp2_with (fail)
  refine (sane_o [mO, mU] tagI [3, 2] false ex3 A c _ _ _ _ _ (sane_asks ⟨_, HH.out.all q21⟩ HC.out ⟨_, HM3.out⟩ (small_ms (by simp)).1 (by simp) (small_ms (by simp)).2 ⟨_, HTI.out⟩)).mono ?_
  rintro e V12 ⟨A3, c3, rfl, ho3, bV12⟩
  clear fO0 fO1 fO2 fO3 fO4 fO5 fO6 fO7 lO fU0 fU1 fU2 fU3 fU4 fU5 fU6 fU7 lU
  have q22 := below_step q21 bV12
  have XA := Lib.hid (XA.out.keep bV12)
  have XB := Lib.hid (XB.out.keep bV12)
  have XO := Lib.hid (XO.out.keep bV12)
  have XU := Lib.hid (XU.out.keep bV12)
  have HTC := Lib.hid (HTC.out.all bV12)
  have HO1 := Lib.hid (HO1.out.all bV12)
  have HM3 := Lib.hid (HM3.out.all bV12)
  have HTI := Lib.hid (HTI.out.all bV12)
  have HO3 := Lib.hid ho3
  clear ho3
  have fA0 := XA.out.c 0 _ rfl
  have fA1 := XA.out.c 1 _ rfl
  have fA2 := XA.out.c 2 _ rfl
  have fA3 := XA.out.c 3 _ rfl
  have fA4 := XA.out.c 4 _ rfl
  have fA5 := XA.out.c 5 _ rfl
  have fA6 := XA.out.c 6 _ rfl
  have fA7 := XA.out.c 7 _ rfl
  have lA : V2.heap.size < V12.heap.size := cell_lt fA0
  have HM4 := Lib.hid (rows1 (R := metR) (n := V12.heap.size) (w := V12) (x := mA) (cx := (metL mA pbA)) 68 (by simp) XA.out.met rfl)
  have aM4 : Below V12.heap.size V12 (V12.alloc (.cells ((metL mA pbA) : List Value).toArray 68)) := (Below.refl _ V12).alloc (Nat.le_refl _) _
  have q23 := below_step q22 aM4
  have XA := Lib.hid (XA.out.keep aM4)
  have XB := Lib.hid (XB.out.keep aM4)
  have XO := Lib.hid (XO.out.keep aM4)
  have XU := Lib.hid (XU.out.keep aM4)
  have HTC := Lib.hid (HTC.out.all aM4)
  have HO1 := Lib.hid (HO1.out.all aM4)
  have HO3 := Lib.hid (HO3.out.all aM4)
  have HTB := Lib.hid (rows1 (R := tagR) (n := V12.heap.size + 1) (w := (V12.alloc (.cells ((metL mA pbA) : List Value).toArray 68))) (x := tagB) (cx := [.int .i64 2, .int .i64 1, .string ⟨#[]⟩]) 39 (by simp) (show Held (fun _ => True) (tagR tagB [.int .i64 2, .int .i64 1, .string ⟨#[]⟩]) _ from fun _ _ => rfl) rfl)
  have aTB : Below (V12.alloc (.cells ((metL mA pbA) : List Value).toArray 68)).heap.size (V12.alloc (.cells ((metL mA pbA) : List Value).toArray 68)) ((V12.alloc (.cells ((metL mA pbA) : List Value).toArray 68)).alloc (.cells ([.int .i64 2, .int .i64 1, .string ⟨#[]⟩] : List Value).toArray 39)) := (Below.refl _ (V12.alloc (.cells ((metL mA pbA) : List Value).toArray 68))).alloc (Nat.le_refl _) _
  have q24 := below_step q23 aTB
  have XA := Lib.hid (XA.out.keep aTB)
  have XB := Lib.hid (XB.out.keep aTB)
  have XO := Lib.hid (XO.out.keep aTB)
  have XU := Lib.hid (XU.out.keep aTB)
  have HTC := Lib.hid (HTC.out.all aTB)
  have HO1 := Lib.hid (HO1.out.all aTB)
  have HO3 := Lib.hid (HO3.out.all aTB)
  have HM4 := Lib.hid (HM4.out.all aTB)
  go_wp2_with (fail)
  refine (sane_f A c _ _ _ _ _ (sane_asks ⟨_, HH.out.all q24⟩ HC.out ⟨_, HM4.out⟩ (small_ms (by simp)).1 (by simp) (small_ms (by simp)).2 ⟨_, HTB.out⟩)).mono ?_
  rintro e V13 ⟨rfl, bV13⟩
  clear fA0 fA1 fA2 fA3 fA4 fA5 fA6 fA7 lA
  have q25 := below_step q24 bV13
  have XA := Lib.hid (XA.out.keep bV13)
  have XB := Lib.hid (XB.out.keep bV13)
  have XO := Lib.hid (XO.out.keep bV13)
  have XU := Lib.hid (XU.out.keep bV13)
  have HTC := Lib.hid (HTC.out.all bV13)
  have HO1 := Lib.hid (HO1.out.all bV13)
  have HO3 := Lib.hid (HO3.out.all bV13)
  have HM4 := Lib.hid (HM4.out.all bV13)
  have HTB := Lib.hid (HTB.out.all bV13)
  have fB0 := XB.out.c 0 _ rfl
  have fB1 := XB.out.c 1 _ rfl
  have fB2 := XB.out.c 2 _ rfl
  have fB3 := XB.out.c 3 _ rfl
  have fB4 := XB.out.c 4 _ rfl
  have fB5 := XB.out.c 5 _ rfl
  have fB6 := XB.out.c 6 _ rfl
  have fB7 := XB.out.c 7 _ rfl
  have lB : V4.heap.size < V13.heap.size := cell_lt fB0
  have fU0 := XU.out.c 0 _ rfl
  have fU1 := XU.out.c 1 _ rfl
  have fU2 := XU.out.c 2 _ rfl
  have fU3 := XU.out.c 3 _ rfl
  have fU4 := XU.out.c 4 _ rfl
  have fU5 := XU.out.c 5 _ rfl
  have fU6 := XU.out.c 6 _ rfl
  have fU7 := XU.out.c 7 _ rfl
  have lU : V9.heap.size < V13.heap.size := cell_lt fU0
  have HM5 := Lib.hid (rows2 (R := metR) (n := V13.heap.size) (w := V13) (x := mB) (y := mU) (cx := (metL mB pbB)) (cy := (metL mU pbU)) 68 (by simp) XB.out.met XU.out.met rfl rfl)
  have aM5 : Below V13.heap.size V13 (V13.alloc (.cells ((metL mB pbB) ++ (metL mU pbU)).toArray 68)) := (Below.refl _ V13).alloc (Nat.le_refl _) _
  have q26 := below_step q25 aM5
  have XA := Lib.hid (XA.out.keep aM5)
  have XB := Lib.hid (XB.out.keep aM5)
  have XO := Lib.hid (XO.out.keep aM5)
  have XU := Lib.hid (XU.out.keep aM5)
  have HTC := Lib.hid (HTC.out.all aM5)
  have HO1 := Lib.hid (HO1.out.all aM5)
  have HO3 := Lib.hid (HO3.out.all aM5)
  go_wp2_with (fail)
  refine (sane_c A c _ _ _ _ _ (sane_asks ⟨_, HH.out.all q26⟩ HC.out ⟨_, HM5.out⟩ (small_ms (by simp)).1 (by simp) (small_ms (by simp)).2 ⟨_, HTC.out⟩)).mono ?_
  rintro e V14 ⟨A5, c5, rfl, ho5, bV14⟩
  clear fB0 fB1 fB2 fB3 fB4 fB5 fB6 fB7 lB fU0 fU1 fU2 fU3 fU4 fU5 fU6 fU7 lU
  have q27 := below_step q26 bV14
  have XA := Lib.hid (XA.out.keep bV14)
  have XB := Lib.hid (XB.out.keep bV14)
  have XO := Lib.hid (XO.out.keep bV14)
  have XU := Lib.hid (XU.out.keep bV14)
  have HTC := Lib.hid (HTC.out.all bV14)
  have HO1 := Lib.hid (HO1.out.all bV14)
  have HO3 := Lib.hid (HO3.out.all bV14)
  have HM5 := Lib.hid (HM5.out.all bV14)
  have HO5 := Lib.hid ho5
  clear ho5
  have HI := Lib.hid (ints3 (W := V14) (a := 0) (b := 1) (d := 2) 3)
  have aI14 : Below V14.heap.size V14 (V14.alloc (.cells #[.int .i64 0, .int .i64 1, .int .i64 2] 3)) := (Below.refl _ V14).alloc (Nat.le_refl _) _
  have q28 := below_step q27 aI14
  have HO1 := Lib.hid (HO1.out.all aI14)
  have HO3 := Lib.hid (HO3.out.all aI14)
  have HO5 := Lib.hid (HO5.out.all aI14)
  go_wp2_with (fail)
  refine (sameInts_true A1 _ _ _ [0, 1, 2] _ _ _ HO1.out HI.out (by simp)).mono ?_
  rintro e V15 ⟨rfl, bV15⟩
  have q29 := below_step q28 bV15
  have HO1 := Lib.hid (HO1.out.all bV15)
  have HO3 := Lib.hid (HO3.out.all bV15)
  have HO5 := Lib.hid (HO5.out.all bV15)
  have HI := Lib.hid (ints2 (W := V15) (a := 3) (b := 2) 3)
  have aI15 : Below V15.heap.size V15 (V15.alloc (.cells #[.int .i64 3, .int .i64 2] 3)) := (Below.refl _ V15).alloc (Nat.le_refl _) _
  have q30 := below_step q29 aI15
  have HO3 := Lib.hid (HO3.out.all aI15)
  have HO5 := Lib.hid (HO5.out.all aI15)
  go_wp2_with (fail)
  refine (sameInts_true A3 _ _ _ [3, 2] _ _ _ HO3.out HI.out (by simp)).mono ?_
  rintro e V16 ⟨rfl, bV16⟩
  have q31 := below_step q30 bV16
  have HO3 := Lib.hid (HO3.out.all bV16)
  have HO5 := Lib.hid (HO5.out.all bV16)
  have HI := Lib.hid (ints2 (W := V16) (a := 1) (b := 3) 3)
  have aI16 : Below V16.heap.size V16 (V16.alloc (.cells #[.int .i64 1, .int .i64 3] 3)) := (Below.refl _ V16).alloc (Nat.le_refl _) _
  have q32 := below_step q31 aI16
  have HO5 := Lib.hid (HO5.out.all aI16)
  go_wp2_with (fail)
  refine (sameInts_true A5 _ _ _ [1, 3] _ _ _ HO5.out HI.out (by simp)).mono ?_
  rintro e V17 ⟨rfl, bV17⟩
  have q33 := below_step q32 bV17
  have HO5 := Lib.hid (HO5.out.all bV17)
  go_wp2
  go_ret
  exact ⟨rfl, b0.trans (q33.mono b0.size)⟩
end Go.Proofs.YtepnmejahbiacaaGreat
