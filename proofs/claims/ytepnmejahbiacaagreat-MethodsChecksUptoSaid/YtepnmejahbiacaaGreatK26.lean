/- Part 26 of the proof: Sa, Sn, Pa, Pr, Tp. -/
import Derived.Test.YtepnmejahbiacaaGreatK22
import Derived.Test.YtepnmejahbiacaaGreatK05
import Derived.Test.YtepnmejahbiacaaGreatK06
import Derived.Test.YtepnmejahbiacaaGreatK07
import Derived.Test.YtepnmejahbiacaaGreatK12
import Derived.Test.YtepnmejahbiacaaGreatK13
import Derived.Test.YtepnmejahbiacaaGreatK14
import Derived.Test.YtepnmejahbiacaaGreatK15
import Derived.Test.YtepnmejahbiacaaGreatK04
import Derived.Test.YtepnmejahbiacaaGreatK09
import Derived.Test.YtepnmejahbiacaaGreatK03
import Derived.Test.YtepnmejahbiacaaGreatK01
import Derived.BigQuiet
import Derived.Carry
import Derived.Deep.AppendLies
import Derived.Deep.Draws
import Derived.Deep.LoopGhost
import Derived.Deep.QuietTactic
import Derived.Deep.RegionHeld3
import Derived.Deep.RegionWith
import Derived.KernelRfl
import Derived.Lib.Hide
import Derived.LoopIn
import Derived.LoopNIn
import Derived.Maps.AppendAt
import Derived.Maps.Own
import Derived.Maps.OwnIn
import Derived.Outline
import Derived.OwnWalkIn
import Derived.RangeFuncBound
import Derived.RangeFuncCalls
import Derived.RangeFuncLeaves
import Derived.RangeFuncNested
import Derived.Recover
import Derived.StillTailTactics
import Derived.Stop.RegionWithIn
import Derived.TacticsInMore
import Derived.Test.YtepnmejahbiacaaGreatProg
import Derived.WalkKit
import Derived.WalkSpells
import Derived.Test.YtepnmejahbiacaaGreatK19
import Derived.Test.YtepnmejahbiacaaGreatK18
import Derived.Test.YtepnmejahbiacaaGreatK24
import Derived.Test.YtepnmejahbiacaaGreatK21
import Derived.Test.YtepnmejahbiacaaGreatK08
import Derived.Test.YtepnmejahbiacaaGreatK17
import Derived.Test.YtepnmejahbiacaaGreatK25
import Derived.Test.YtepnmejahbiacaaGreatK10
import Derived.Test.YtepnmejahbiacaaGreatK11
import Derived.Test.YtepnmejahbiacaaGreatK23
import Derived.Test.YtepnmejahbiacaaGreatK16
import Derived.Test.YtepnmejahbiacaaGreatK02
import Derived.Test.YtepnmejahbiacaaGreatK20
import Derived.Deep.RegionLaw
import Derived.Laws.EntriesVeiled
import Derived.Lib.SliceRun
set_option linter.unusedVariables false
set_option linter.unusedSimpArgs false
namespace Go.Proofs.YtepnmejahbiacaaGreat
open Go.RowKit
def appC (l : List CI) (ts : List Tag) (m : Meth) : Bool := (List.range m.pars.length).all fun i => match m.pars[i]?, ts[i]? with
  | some p, some t => hasTF l t p.type
  | _, _ => true
theorem appB_eq {l : List CI} {ts : List Tag} {m : Meth} (hL : LookOk l) (ht : ∀ t ∈ ts, tagOk l t = true) (hv : ∀ p ∈ m.pars, validErr l p.type = 0) : appB l ts m = appC l ts m := by
  cases hc : appC l ts m with
  | true =>
    refine appB_true fun i p t hp htt => ?_
    have := List.all_eq_true.1 hc i (List.mem_range.2 (List.getElem?_eq_some_iff.1 hp).1)
    rw [hp, htt] at this
    exact ⟨hL, ht t (List.mem_of_getElem? htt), hv p (List.mem_of_getElem? hp), this⟩
  | false =>
    refine appB_false fun hA => ?_
    obtain ⟨i, hi, e⟩ := List.all_eq_false.1 hc
    have hi' := List.mem_range.1 hi
    rw [List.getElem?_eq_getElem hi'] at e
    cases ht2 : ts[i]? with
    | none => rw [ht2] at e; simp at e
    | some t =>
      rw [ht2] at e
      exact e (hA i _ t (List.getElem?_eq_getElem hi') ht2).2.2.2
def orderC (l : List CI) (ms : List Meth) (ts : List Tag) : List Meth × List Meth := orderG (precB l ts) (ms.filter (appC l ts)).length (ms.filter (appC l ts))
def chkB (l : List CI) (ms : List Meth) (ts : List Tag) : Bool := decide (ms.length ≤ 300) && AreMs l ms && decide (ts.length ≤ 6) && (decide (ms.length = 0) || decide ((ms[0]?.map fun m => m.pars.length).getD 0 = ts.length)) && ts.all (tagOk l)
theorem chk_zero {l : List CI} {ms : List Meth} {ts : List Tag} (hL : LookOk l) (h : chkB l ms ts = true) : checkAllE l ms ts = 0 := by
  unfold chkB at h
  simp only [Bool.and_eq_true, Bool.or_eq_true, decide_eq_true_eq] at h
  obtain ⟨⟨⟨⟨h1, h2⟩, h3⟩, h4⟩, h5⟩ := h
  rw [checkAllE_tags hL (by omega) (by
    rintro (q | q | ⟨q, q2⟩)
    · rw [h2] at q; cases q
    · omega
    · rcases h4 with h4 | h4
      · omega
      · exact q2 h4), h5]; rfl
theorem areMs_valid {l : List CI} {ms : List Meth} (h : AreMs l ms = true) : ∀ m ∈ ms, ∀ p ∈ m.pars, validErr l p.type = 0 := fun m hm p hp => by
  unfold AreMs at h
  rw [Bool.and_eq_true] at h
  have := List.all_eq_true.1 h.2 m hm
  unfold parsOk at this
  rw [Bool.and_eq_true] at this
  have := List.all_eq_true.1 this.2 p hp
  simpa using this
theorem ordB_eq {l : List CI} {ms : List Meth} {ts : List Tag} (hz : checkAllE l ms ts = 0) : ordB l ts ms = orderC l ms ts := by
  obtain ⟨h1, _, h3, _, _, h6⟩ := checkAllE_zero hz
  have e : ms.filter (appB l ts) = ms.filter (appC l ts) := List.filter_congr fun m hm => appB_eq h1 h6 (areMs_valid h3 m hm)
  unfold ordB orderC
  rw [e]
theorem orderR_eq {l : List CI} {ms : List Meth} {ts : List Tag} (hz : checkAllE l ms ts = 0) : orderR l ms ts = ((orderC l ms ts).1.map (·.id), decide (0 < (orderC l ms ts).2.length)) := by
  unfold orderR; rw [if_pos hz, ordB_eq hz]
def tagC : Tag := ⟨5, 0, nC⟩
def tagI : Tag := ⟨1, 5, ⟨#[]⟩⟩
def tagB : Tag := ⟨2, 1, ⟨#[]⟩⟩
def mA : Meth := met1 0 (clsT nA)
def mB : Meth := met1 1 (clsT nB)
def mO : Meth := met1 2 (clsT nObj)
def tyU : Ty := .mk 5 ⟨#[]⟩ 0 0 [clsT nA, clsT nInteger]
def mU : Meth := met1 3 tyU
theorem ex1z : checkAllE h3L [mA, mB, mO] [tagC] = 0 := chk_zero look3 (by kernel_rfl)
theorem ex2z : checkAllE h3L [mB, mU] [tagC] = 0 := chk_zero look3 (by kernel_rfl)
theorem ex3z : checkAllE h3L [mO, mU] [tagI] = 0 := chk_zero look3 (by kernel_rfl)
theorem ex4z : checkAllE h3L [mA] [tagB] = 0 := chk_zero look3 (by kernel_rfl)
theorem ex1 : orderR h3L [mA, mB, mO] [tagC] = ([0, 1, 2], false) := by rw [orderR_eq ex1z]; kernel_rfl
theorem ex2 : orderR h3L [mB, mU] [tagC] = ([], true) := by rw [orderR_eq ex2z]; kernel_rfl
theorem ex3 : orderR h3L [mO, mU] [tagI] = ([3, 2], false) := by rw [orderR_eq ex3z]; kernel_rfl
theorem ex4 : firstR h3L [mA] [tagB] = (0, 1) := by
  have : orderR h3L [mA] [tagB] = ([], false) := by rw [orderR_eq ex4z]; kernel_rfl
  unfold firstR; rw [this]; rfl
theorem ex5p : (orderC h3L [mB, mU] [tagC]).2 = [mB, mU] := by kernel_rfl
theorem ex5c : precB h3L [tagC] mB mU = false ∧ precB h3L [tagC] mU mB = false := ⟨by kernel_rfl, by kernel_rfl⟩
/-- The conflict of the example. -/
theorem ex5e {a b : Meth} (h : Clash (precB h3L [tagC]) (ordB h3L [tagC] [mB, mU]).2 a b) : min a.id b.id = 1 ∧ max a.id b.id = 3 := by
  rw [ordB_eq ex2z, ex5p] at h
  obtain ⟨i, k, hk, h1, h2, _, _⟩ := h
  match i, k with
  | 0, _ => omega
  | 1, 0 => cases h1; cases h2; exact ⟨rfl, rfl⟩
  | 1, _ + 1 => omega
  | _ + 2, _ => simp at h1
theorem ex5h : Clash (precB h3L [tagC]) (ordB h3L [tagC] [mB, mU]).2 mU mB := by
  rw [ordB_eq ex2z, ex5p]
  exact ⟨1, 0, by omega, rfl, rfl, ex5c.2, ex5c.1⟩
theorem tySmall_cls (n : ByteArray) : TySmall (clsT n) := ⟨rfl, by show (clsT n).count ≤ _; simp [clsT, Ty.count, Ty.counts]⟩
theorem tySmall_U : TySmall tyU := ⟨rfl, by show tyU.count ≤ _; simp [tyU, clsT, Ty.count, Ty.counts]⟩
/-- A row that is laid at once. -/
theorem Own.ofEnc {α : Type} {R : α → List Value → World → Prop} {sz n : Nat} {G : Nat → Prop} {L : List α} {xs : List Value} {w : World} (T : TypeId) (hn : n = w.heap.size) (he : Enc (fun x cs => Held G (R x cs) w) sz L xs) (hl : L.length ≤ 1000000) :
    Own R T sz n G (.slice (some ⟨n, 0, none⟩) L.length L.length) L (w.alloc (.cells xs.toArray T)) := by
  subst hn
  refine ⟨xs, ⟨he.length, .inr ⟨_, L.length, xs.toArray, rfl, Nat.le_refl _, heap_alloc_new w _, Nat.le_refl _, by simp only [maxLen]; omega, by simp [he.length], by simp [← he.length]⟩⟩, he.imp fun x cs hx => hx.keep (Keep.alloc _ _ _)⟩
theorem rowsE {α : Type} {R : α → List Value → World → Prop} {sz n : Nat} {G : Nat → Prop} {L : List α} {xs : List Value} {w : World} (T : TypeId) (hn : n = w.heap.size) (he : Enc (fun x cs => Held G (R x cs) w) sz L xs) (hl : L.length ≤ 1000000) : Held (fun b => b < n + 1) (Slc R sz (some ⟨n, 0, none⟩) L) (w.alloc (.cells xs.toArray T)) :=
  (Own.read (Own.ofEnc T hn he hl)).2.2.mono fun b hb _ => by subst hn; simpa using hb
theorem rows1 {α : Type} {R : α → List Value → World → Prop} {sz n : Nat} {G : Nat → Prop} {x : α} {cx : List Value} {w : World} (T : TypeId) (hn : n = w.heap.size) (hx : Held G (R x cx) w) (lx : cx.length = sz) : Held (fun b => b < n + 1) (Slc R sz (some ⟨n, 0, none⟩) [x]) (w.alloc (.cells cx.toArray T)) := by
  have := rowsE T hn (Enc.snoc Enc.nil hx lx) (by simp)
  simpa using this
theorem rows2 {α : Type} {R : α → List Value → World → Prop} {sz n : Nat} {G : Nat → Prop} {x y : α} {cx cy : List Value} {w : World} (T : TypeId) (hn : n = w.heap.size) (hx : Held G (R x cx) w) (hy : Held G (R y cy) w) (lx : cx.length = sz) (ly : cy.length = sz) : Held (fun b => b < n + 1) (Slc R sz (some ⟨n, 0, none⟩) [x, y]) (w.alloc (.cells (cx ++ cy).toArray T)) := by
  have := rowsE T hn (Enc.snoc (Enc.snoc Enc.nil hx lx) hy ly) (by simp)
  simpa using this
theorem rows3 {α : Type} {R : α → List Value → World → Prop} {sz n : Nat} {G : Nat → Prop} {x y z : α} {cx cy cz : List Value} {w : World} (T : TypeId) (hn : n = w.heap.size) (hx : Held G (R x cx) w) (hy : Held G (R y cy) w) (hz : Held G (R z cz) w) (lx : cx.length = sz) (ly : cy.length = sz) (lz : cz.length = sz) : Held (fun b => b < n + 1) (Slc R sz (some ⟨n, 0, none⟩) [x, y, z]) (w.alloc (.cells (cx ++ cy ++ cz).toArray T)) := by
  have := rowsE T hn (Enc.snoc (Enc.snoc (Enc.snoc Enc.nil hx lx) hy ly) hz lz) (by simp)
  simpa using this
theorem sane_o (ms : List Meth) (t : Tag) (l : List Int) (b : Bool) (hr : orderR h3L ms [t] = (l, b)) (A : Option Addr) (c : Nat) (AM : Option Addr) (cM : Nat) (AT : Option Addr) (cT : Nat) (W : World) (q : Asks A c h3L AM ms AT [t] W) :
    Calls Tryz.prog 26 #[.slice A h3L.length c, .slice AM ms.length cM, .slice AT [t].length cT] W fun e W' => ∃ A' c', e = .returned (.tuple #[.slice A' l.length c', .bool b]) ∧ Held (fun b => b < W'.heap.size) (Ints A' l) W' ∧ Below W.heap.size W W' := by
  have := order_calls A c h3L AM cM ms AT cT [t] W q
  rw [hr] at this
  refine this.mono ?_
  rintro e W' ⟨v, rfl, ho, hb⟩
  obtain ⟨A', c', rfl, _, h2⟩ := ho.out
  exact ⟨A', c', rfl, h2.mono fun b hb _ => hb, hb⟩
theorem sane_f (A : Option Addr) (c : Nat) (AM : Option Addr) (cM : Nat) (AT : Option Addr) (cT : Nat) (W : World) (q : Asks A c h3L AM [mA] AT [tagB] W) :
    Calls Tryz.prog 28 #[.slice A h3L.length c, .slice AM 1 cM, .slice AT 1 cT] W fun e W' => e = .returned (.tuple #[.int .i64 0, .int .i64 1]) ∧ Below W.heap.size W W' := by
  have := first_calls A c h3L AM cM [mA] AT cT [tagB] W q
  rw [ex4] at this
  exact this
theorem sane_c (A : Option Addr) (c : Nat) (AM : Option Addr) (cM : Nat) (AT : Option Addr) (cT : Nat) (W : World) (q : Asks A c h3L AM [mB, mU] AT [tagC] W) :
    Calls Tryz.prog 30 #[.slice A h3L.length c, .slice AM 2 cM, .slice AT 1 cT] W fun e W' => ∃ A' c', e = .returned (.tuple #[.slice A' 2 c', .int .i64 0]) ∧ Held (fun b => b < W'.heap.size) (Ints A' [1, 3]) W' ∧ Below W.heap.size W W' := by
  have := conflict_calls A c h3L AM cM [mB, mU] AT cT [tagC] W q
  refine this.mono ?_
  rintro e W' ⟨hb, (⟨h, _⟩ | ⟨_, (⟨h, _⟩ | ⟨a, b, v, h, rfl, ho⟩)⟩)⟩
  · exact absurd ex2z h
  · exact absurd ex5h (h _ _)
  · obtain ⟨h1, h2⟩ := ex5e h
    rw [h1, h2] at ho
    obtain ⟨A', c', rfl, _, h2⟩ := ho.out
    exact ⟨A', c', rfl, h2.mono fun b hb _ => hb, hb⟩
/-- What is asked, of the examples. -/
theorem sane_asks {A : Option Addr} {c : Nat} {AM : Option Addr} {ms : List Meth} {AT : Option Addr} {t : Tag} {W : World} (h : ∃ G, Held G (CIs A h3L) W) (hc : h3L.length ≤ c) (hM : ∃ G, Held G (Meths AM ms) W) (hs : ∀ m ∈ ms, ∀ p ∈ m.pars, TySmall p.type) (hn : ms.length ≤ 300) (hp : ∀ m ∈ ms, m.pars.length ≤ 1000000) (hT : ∃ G, Held G (Tags AT [t]) W) :
    Asks A c h3L AM ms AT [t] W := ⟨h, hc, ciOk_of small3, by have := look3.1; omega, hM, by omega, hs, hp, hT, by simp⟩
theorem small_ms {ms : List Meth} (h : ∀ m ∈ ms, m = mA ∨ m = mB ∨ m = mO ∨ m = mU) : (∀ m ∈ ms, ∀ p ∈ m.pars, TySmall p.type) ∧ ∀ m ∈ ms, m.pars.length ≤ 1000000 := by
  constructor
  · intro m hm p hp
    rcases h m hm with rfl | rfl | rfl | rfl
    · have : p = ⟨nX, clsT nA⟩ := by simpa [mA, met1] using hp
      subst this; exact tySmall_cls _
    · have : p = ⟨nX, clsT nB⟩ := by simpa [mB, met1] using hp
      subst this; exact tySmall_cls _
    · have : p = ⟨nX, clsT nObj⟩ := by simpa [mO, met1] using hp
      subst this; exact tySmall_cls _
    · have : p = ⟨nX, tyU⟩ := by simpa [mU, met1] using hp
      subst this; exact tySmall_U
  · intro m hm
    rcases h m hm with rfl | rfl | rfl | rfl <;> simp [mA, mB, mO, mU, met1]
theorem sameInts_true (A B : Option Addr) (c d : Nat) (l : List Int) (w : World) (GA GB : Nat → Prop) (hA : Held GA (Ints A l) w) (hB : Held GB (Ints B l) w) (hl : l.length ≤ 1000000) :
    Calls Tryz.prog 14 #[.slice A l.length c, .slice B l.length d] w fun e w' => e = .returned (.bool true) ∧ Below w.heap.size w w' :=
  (sameInts_calls A B c d l l w GA GB hA hB hl hl).mono fun e w' ⟨h1, h2⟩ => ⟨by rw [h1, decide_eq_true rfl], h2.below _⟩
theorem ints2 {W : World} {a b : Int} (T : TypeId) : Held (fun x => x < W.heap.size + 1) (Ints (some ⟨W.heap.size, 0, none⟩) [a, b]) (W.alloc (.cells #[.int .i64 a, .int .i64 b] T)) :=
  rows2 (R := intR) (G := fun _ => True) (cx := [.int .i64 a]) (cy := [.int .i64 b]) T rfl (fun _ _ => rfl) (fun _ _ => rfl) rfl rfl
theorem ints3 {W : World} {a b d : Int} (T : TypeId) : Held (fun x => x < W.heap.size + 1) (Ints (some ⟨W.heap.size, 0, none⟩) [a, b, d]) (W.alloc (.cells #[.int .i64 a, .int .i64 b, .int .i64 d] T)) :=
  rows3 (R := intR) (G := fun _ => True) (cx := [.int .i64 a]) (cy := [.int .i64 b]) (cz := [.int .i64 d]) T rfl (fun _ _ => rfl) (fun _ _ => rfl) (fun _ _ => rfl) rfl rfl rfl
end Go.Proofs.YtepnmejahbiacaaGreat
set_option linter.unusedVariables false
set_option linter.unusedSimpArgs false
namespace Go.Proofs.YtepnmejahbiacaaGreat
open Go.RowKit
/-- The cells of a method of one parameter. -/
abbrev metL (m : Meth) (n : Nat) : List Value := [.int .i64 m.id, .string m.lib, .slice (some ⟨n, 0, none⟩) m.pars.length 1, .int .i64 m.result.kind, .string m.result.name, .int .i64 m.result.lo, .int .i64 m.result.hi, .slice none m.result.args.length 0]
/-- A method in a box. -/
structure BoxM (m : Meth) (n b : Nat) (w : World) : Prop where
  c : ∀ j u, (metL m n)[j]? = some u → w.cell? ⟨b, j, none⟩ = some u
  p : Held (fun b => b < w.heap.size) (Pars (some ⟨n, 0, none⟩) m.pars) w
theorem BoxM.keep {m : Meth} {n b : Nat} {w w' : World} (h : BoxM m n b w) (k : Below w.heap.size w w') : BoxM m n b w' :=
  ⟨fun j u hj => cell_all (h.c j u hj) k, (h.p.all k).mono fun b _ hb => Nat.lt_of_lt_of_le hb k.size⟩
theorem BoxM.met {i : Int} {t : Ty} {n b : Nat} {w : World} (h : BoxM (met1 i t) n b w) : Held (fun b => b < w.heap.size) (metR (met1 i t) (metL (met1 i t) n)) w :=
  metR.mk (m := met1 i t) (A1 := some ⟨n, 0, none⟩) (A2 := none) (c1 := 1) (c2 := 0) (Nat.le_refl _) h.p (Nat.le_refl _) (fun _ _ => Slc.nil _ _ _ _)
set_option maxHeartbeats 32000000 in
set_option maxRecDepth 100000 in
theorem sane_calls (W : World) : Calls Tryz.prog 8 #[] W fun e W' => e = .returned (.bool true) ∧ Below W.heap.size W W' := by
  go_enter Tryz.func8, Tryz.ntmps8
  go_wp2_with (fail)
  refine (hierarchy_calls W).mono ?_
  rintro e V0 ⟨A, c, rfl, hc, hH, b0⟩
  have HH := Lib.hid hH
  have HC := Lib.hid hc
  clear hH hc
  have q0 : Below V0.heap.size V0 V0 := Below.refl _ _
  go_wp2_with (fail)
  refine (class_calls nA _).mono ?_
  rintro e V1 ⟨rfl, bV1⟩
  have q1 := below_step q0 bV1
  go_wp2_with (fail)
  refine (method_calls 0 (clsT nA) none 0 _ _ (show Held (fun _ => True) (Typs none (clsT nA).args) _ from (fun _ _ => Slc.nil _ _ _ _)) (Nat.le_refl _)).mono ?_
  rintro e V2 ⟨pbA, rfl, _, _, hpA, bV2⟩
  have q2 := below_step q1 bV2
  have aV2 : Below V2.heap.size V2 (V2.alloc (.cells (metL mA pbA).toArray 68)) := (Below.refl _ V2).alloc (Nat.le_refl _) _
  have q3 := below_step q2 aV2
  have XA : Hid (BoxM mA pbA V2.heap.size (V2.alloc (.cells (metL mA pbA).toArray 68))) := Lib.hid ⟨fun j u hj => cell_new V2 _ _ _ rfl j u hj, (hpA.all aV2).mono fun b _ hb => Nat.lt_of_lt_of_le hb aV2.size⟩
  clear hpA
  go_wp2_with (fail)
  refine (class_calls nB _).mono ?_
  rintro e V3 ⟨rfl, bV3⟩
  have q4 := below_step q3 bV3
  have XA := Lib.hid (XA.out.keep bV3)
  go_wp2_with (fail)
  refine (method_calls 1 (clsT nB) none 0 _ _ (show Held (fun _ => True) (Typs none (clsT nB).args) _ from (fun _ _ => Slc.nil _ _ _ _)) (Nat.le_refl _)).mono ?_
  rintro e V4 ⟨pbB, rfl, _, _, hpB, bV4⟩
  have q5 := below_step q4 bV4
  have XA := Lib.hid (XA.out.keep bV4)
  have aV4 : Below V4.heap.size V4 (V4.alloc (.cells (metL mB pbB).toArray 68)) := (Below.refl _ V4).alloc (Nat.le_refl _) _
  have q6 := below_step q5 aV4
  have XA := Lib.hid (XA.out.keep aV4)
  have XB : Hid (BoxM mB pbB V4.heap.size (V4.alloc (.cells (metL mB pbB).toArray 68))) := Lib.hid ⟨fun j u hj => cell_new V4 _ _ _ rfl j u hj, (hpB.all aV4).mono fun b _ hb => Nat.lt_of_lt_of_le hb aV4.size⟩
  clear hpB
  go_wp2_with (fail)
  refine (class_calls nObj _).mono ?_
  rintro e V5 ⟨rfl, bV5⟩
  have q7 := below_step q6 bV5
  have XA := Lib.hid (XA.out.keep bV5)
  have XB := Lib.hid (XB.out.keep bV5)
  go_wp2_with (fail)
  refine (method_calls 2 (clsT nObj) none 0 _ _ (show Held (fun _ => True) (Typs none (clsT nObj).args) _ from (fun _ _ => Slc.nil _ _ _ _)) (Nat.le_refl _)).mono ?_
  rintro e V6 ⟨pbO, rfl, _, _, hpO, bV6⟩
  have q8 := below_step q7 bV6
  have XA := Lib.hid (XA.out.keep bV6)
  have XB := Lib.hid (XB.out.keep bV6)
  have aV6 : Below V6.heap.size V6 (V6.alloc (.cells (metL mO pbO).toArray 68)) := (Below.refl _ V6).alloc (Nat.le_refl _) _
  have q9 := below_step q8 aV6
  have XA := Lib.hid (XA.out.keep aV6)
  have XB := Lib.hid (XB.out.keep aV6)
  have XO : Hid (BoxM mO pbO V6.heap.size (V6.alloc (.cells (metL mO pbO).toArray 68))) := Lib.hid ⟨fun j u hj => cell_new V6 _ _ _ rfl j u hj, (hpO.all aV6).mono fun b _ hb => Nat.lt_of_lt_of_le hb aV6.size⟩
  clear hpO
  go_wp2_with (fail)
  refine (class_calls nA _).mono ?_
  rintro e V7 ⟨rfl, bV7⟩
  have q10 := below_step q9 bV7
  have XA := Lib.hid (XA.out.keep bV7)
  have XB := Lib.hid (XB.out.keep bV7)
  have XO := Lib.hid (XO.out.keep bV7)
  go_wp2_with (fail)
  refine (class_calls nInteger _).mono ?_
  rintro e V8 ⟨rfl, bV8⟩
  have q11 := below_step q10 bV8
  have XA := Lib.hid (XA.out.keep bV8)
  have XB := Lib.hid (XB.out.keep bV8)
  have XO := Lib.hid (XO.out.keep bV8)
  have HT : Hid (Held (fun b => b < V8.heap.size + 1) (Typs (some ⟨V8.heap.size, 0, none⟩) tyU.args) (V8.alloc (.cells #[.int .i64 1, .string nA, .int .i64 0, .int .i64 0, .slice none 0 0, .int .i64 1, .string nInteger, .int .i64 0, .int .i64 0, .slice none 0 0] 36))) := Lib.hid (rows2 (R := typR) (sz := 5) (G := fun _ => True) (x := clsT nA) (y := clsT nInteger) (cx := [.int .i64 1, .string nA, .int .i64 0, .int .i64 0, .slice none 0 0]) (cy := [.int .i64 1, .string nInteger, .int .i64 0, .int .i64 0, .slice none 0 0]) 36 rfl (typR.mk (t := clsT nA) (A := none) (c := 0) (Nat.le_refl _) (fun _ _ => Slc.nil _ _ _ _)) (typR.mk (t := clsT nInteger) (A := none) (c := 0) (Nat.le_refl _) (fun _ _ => Slc.nil _ _ _ _)) rfl rfl)
  have aT : Below V8.heap.size V8 (V8.alloc (.cells #[.int .i64 1, .string nA, .int .i64 0, .int .i64 0, .slice none 0 0, .int .i64 1, .string nInteger, .int .i64 0, .int .i64 0, .slice none 0 0] 36)) := (Below.refl _ V8).alloc (Nat.le_refl _) _
  have q12 := below_step q11 aT
  have XA := Lib.hid (XA.out.keep aT)
  have XB := Lib.hid (XB.out.keep aT)
  have XO := Lib.hid (XO.out.keep aT)
  go_wp2_with (fail)
  refine (method_calls 3 tyU (some ⟨V8.heap.size, 0, none⟩) 2 _ _ HT.out (Nat.le_refl _)).mono ?_
  rintro e V9 ⟨pbU, rfl, _, _, hpU, bV9⟩
  have q13 := below_step q12 bV9
  have XA := Lib.hid (XA.out.keep bV9)
  have XB := Lib.hid (XB.out.keep bV9)
  have XO := Lib.hid (XO.out.keep bV9)
  have fA0 := XA.out.c 0 _ rfl
  have fA1 := XA.out.c 1 _ rfl
  have fA2 := XA.out.c 2 _ rfl
  have fA3 := XA.out.c 3 _ rfl
  have fA4 := XA.out.c 4 _ rfl
  have fA5 := XA.out.c 5 _ rfl
  have fA6 := XA.out.c 6 _ rfl
  have fA7 := XA.out.c 7 _ rfl
  have lA : V2.heap.size < V9.heap.size := cell_lt fA0
  have fB0 := XB.out.c 0 _ rfl
  have fB1 := XB.out.c 1 _ rfl
  have fB2 := XB.out.c 2 _ rfl
  have fB3 := XB.out.c 3 _ rfl
  have fB4 := XB.out.c 4 _ rfl
  have fB5 := XB.out.c 5 _ rfl
  have fB6 := XB.out.c 6 _ rfl
  have fB7 := XB.out.c 7 _ rfl
  have lB : V4.heap.size < V9.heap.size := cell_lt fB0
  have fO0 := XO.out.c 0 _ rfl
  have fO1 := XO.out.c 1 _ rfl
  have fO2 := XO.out.c 2 _ rfl
  have fO3 := XO.out.c 3 _ rfl
  have fO4 := XO.out.c 4 _ rfl
  have fO5 := XO.out.c 5 _ rfl
  have fO6 := XO.out.c 6 _ rfl
  have fO7 := XO.out.c 7 _ rfl
  have lO : V6.heap.size < V9.heap.size := cell_lt fO0
  have aV9 : Below V9.heap.size V9 (V9.alloc (.cells (metL mU pbU).toArray 68)) := (Below.refl _ V9).alloc (Nat.le_refl _) _
  have q14 := below_step q13 aV9
  have XA := Lib.hid (XA.out.keep aV9)
  have XB := Lib.hid (XB.out.keep aV9)
  have XO := Lib.hid (XO.out.keep aV9)
  have XU : Hid (BoxM mU pbU V9.heap.size (V9.alloc (.cells (metL mU pbU).toArray 68))) := Lib.hid ⟨fun j u hj => cell_new V9 _ _ _ rfl j u hj, (hpU.all aV9).mono fun b _ hb => Nat.lt_of_lt_of_le hb aV9.size⟩
  clear hpU
  have HTC := Lib.hid (rows1 (R := tagR) (n := V9.heap.size + 1) (w := (V9.alloc (.cells (metL mU pbU).toArray 68))) (x := tagC) (cx := [.int .i64 5, .int .i64 0, .string nC]) 39 (by simp) (show Held (fun _ => True) (tagR tagC [.int .i64 5, .int .i64 0, .string nC]) _ from fun _ _ => rfl) rfl)
  have aG : Below (V9.alloc (.cells (metL mU pbU).toArray 68)).heap.size (V9.alloc (.cells (metL mU pbU).toArray 68)) ((V9.alloc (.cells (metL mU pbU).toArray 68)).alloc (.cells ([.int .i64 5, .int .i64 0, .string nC] : List Value).toArray 39)) := (Below.refl _ (V9.alloc (.cells (metL mU pbU).toArray 68))).alloc (Nat.le_refl _) _
  have q15 := below_step q14 aG
  have XA := Lib.hid (XA.out.keep aG)
  have XB := Lib.hid (XB.out.keep aG)
  have XO := Lib.hid (XO.out.keep aG)
  have XU := Lib.hid (XU.out.keep aG)
  have HM1 := Lib.hid (rows3 (R := metR) (n := V9.heap.size + 1 + 1) (w := ((V9.alloc (.cells (metL mU pbU).toArray 68)).alloc (.cells ([.int .i64 5, .int .i64 0, .string nC] : List Value).toArray 39))) (x := mA) (y := mB) (z := mO) (cx := (metL mA pbA)) (cy := (metL mB pbB)) (cz := (metL mO pbO)) 68 (by simp) XA.out.met XB.out.met XO.out.met rfl rfl rfl)
  have aM1 : Below ((V9.alloc (.cells (metL mU pbU).toArray 68)).alloc (.cells ([.int .i64 5, .int .i64 0, .string nC] : List Value).toArray 39)).heap.size ((V9.alloc (.cells (metL mU pbU).toArray 68)).alloc (.cells ([.int .i64 5, .int .i64 0, .string nC] : List Value).toArray 39)) (((V9.alloc (.cells (metL mU pbU).toArray 68)).alloc (.cells ([.int .i64 5, .int .i64 0, .string nC] : List Value).toArray 39)).alloc (.cells ((metL mA pbA) ++ (metL mB pbB) ++ (metL mO pbO)).toArray 68)) := (Below.refl _ ((V9.alloc (.cells (metL mU pbU).toArray 68)).alloc (.cells ([.int .i64 5, .int .i64 0, .string nC] : List Value).toArray 39))).alloc (Nat.le_refl _) _
  have q16 := below_step q15 aM1
  have XA := Lib.hid (XA.out.keep aM1)
  have XB := Lib.hid (XB.out.keep aM1)
  have XO := Lib.hid (XO.out.keep aM1)
  have XU := Lib.hid (XU.out.keep aM1)
  have HTC := Lib.hid (HTC.out.all aM1)
  go_wp2_with (fail)
  refine (sane_o [mA, mB, mO] tagC [0, 1, 2] false ex1 A c _ _ _ _ _ (sane_asks ⟨_, HH.out.all q16⟩ HC.out ⟨_, HM1.out⟩ (small_ms (by simp)).1 (by simp) (small_ms (by simp)).2 ⟨_, HTC.out⟩)).mono ?_
  rintro e V10 ⟨A1, c1, rfl, ho1, bV10⟩
  clear fA0 fA1 fA2 fA3 fA4 fA5 fA6 fA7 lA fB0 fB1 fB2 fB3 fB4 fB5 fB6 fB7 lB fO0 fO1 fO2 fO3 fO4 fO5 fO6 fO7 lO
  have q17 := below_step q16 bV10
  have XA := Lib.hid (XA.out.keep bV10)
  have XB := Lib.hid (XB.out.keep bV10)
  have XO := Lib.hid (XO.out.keep bV10)
  have XU := Lib.hid (XU.out.keep bV10)
  have HTC := Lib.hid (HTC.out.all bV10)
  have HM1 := Lib.hid (HM1.out.all bV10)
  have HO1 := Lib.hid ho1
  clear ho1
  have fB0 := XB.out.c 0 _ rfl
  have fB1 := XB.out.c 1 _ rfl
  have fB2 := XB.out.c 2 _ rfl
  have fB3 := XB.out.c 3 _ rfl
  have fB4 := XB.out.c 4 _ rfl
  have fB5 := XB.out.c 5 _ rfl
  have fB6 := XB.out.c 6 _ rfl
  have fB7 := XB.out.c 7 _ rfl
  have lB : V4.heap.size < V10.heap.size := cell_lt fB0
  have fU0 := XU.out.c 0 _ rfl
  have fU1 := XU.out.c 1 _ rfl
  have fU2 := XU.out.c 2 _ rfl
  have fU3 := XU.out.c 3 _ rfl
  have fU4 := XU.out.c 4 _ rfl
  have fU5 := XU.out.c 5 _ rfl
  have fU6 := XU.out.c 6 _ rfl
  have fU7 := XU.out.c 7 _ rfl
  have lU : V9.heap.size < V10.heap.size := cell_lt fU0
  have HM2 := Lib.hid (rows2 (R := metR) (n := V10.heap.size) (w := V10) (x := mB) (y := mU) (cx := (metL mB pbB)) (cy := (metL mU pbU)) 68 (by simp) XB.out.met XU.out.met rfl rfl)
  have aM2 : Below V10.heap.size V10 (V10.alloc (.cells ((metL mB pbB) ++ (metL mU pbU)).toArray 68)) := (Below.refl _ V10).alloc (Nat.le_refl _) _
  have q18 := below_step q17 aM2
  have XA := Lib.hid (XA.out.keep aM2)
  have XB := Lib.hid (XB.out.keep aM2)
  have XO := Lib.hid (XO.out.keep aM2)
  have XU := Lib.hid (XU.out.keep aM2)
  have HTC := Lib.hid (HTC.out.all aM2)
  have HO1 := Lib.hid (HO1.out.all aM2)
  go_wp2_with (fail)
  refine (sane_o [mB, mU] tagC [] true ex2 A c _ _ _ _ _ (sane_asks ⟨_, HH.out.all q18⟩ HC.out ⟨_, HM2.out⟩ (small_ms (by simp)).1 (by simp) (small_ms (by simp)).2 ⟨_, HTC.out⟩)).mono ?_
  rintro e V11 ⟨A2, c2, rfl, ho2, bV11⟩
  clear fB0 fB1 fB2 fB3 fB4 fB5 fB6 fB7 lB fU0 fU1 fU2 fU3 fU4 fU5 fU6 fU7 lU
  have q19 := below_step q18 bV11
  have XA := Lib.hid (XA.out.keep bV11)
  have XB := Lib.hid (XB.out.keep bV11)
  have XO := Lib.hid (XO.out.keep bV11)
  have XU := Lib.hid (XU.out.keep bV11)
  have HTC := Lib.hid (HTC.out.all bV11)
  have HO1 := Lib.hid (HO1.out.all bV11)
  have HM2 := Lib.hid (HM2.out.all bV11)
  have HO2 := Lib.hid ho2
  clear ho2
  have fO0 := XO.out.c 0 _ rfl
  have fO1 := XO.out.c 1 _ rfl
  have fO2 := XO.out.c 2 _ rfl
  have fO3 := XO.out.c 3 _ rfl
  have fO4 := XO.out.c 4 _ rfl
  have fO5 := XO.out.c 5 _ rfl
  have fO6 := XO.out.c 6 _ rfl
  have fO7 := XO.out.c 7 _ rfl
  have lO : V6.heap.size < V11.heap.size := cell_lt fO0
  have fU0 := XU.out.c 0 _ rfl
  have fU1 := XU.out.c 1 _ rfl
  have fU2 := XU.out.c 2 _ rfl
  have fU3 := XU.out.c 3 _ rfl
  have fU4 := XU.out.c 4 _ rfl
  have fU5 := XU.out.c 5 _ rfl
  have fU6 := XU.out.c 6 _ rfl
  have fU7 := XU.out.c 7 _ rfl
  have lU : V9.heap.size < V11.heap.size := cell_lt fU0
  have HM3 := Lib.hid (rows2 (R := metR) (n := V11.heap.size) (w := V11) (x := mO) (y := mU) (cx := (metL mO pbO)) (cy := (metL mU pbU)) 68 (by simp) XO.out.met XU.out.met rfl rfl)
  have aM3 : Below V11.heap.size V11 (V11.alloc (.cells ((metL mO pbO) ++ (metL mU pbU)).toArray 68)) := (Below.refl _ V11).alloc (Nat.le_refl _) _
  have q20 := below_step q19 aM3
  have XA := Lib.hid (XA.out.keep aM3)
  have XB := Lib.hid (XB.out.keep aM3)
  have XO := Lib.hid (XO.out.keep aM3)
  have XU := Lib.hid (XU.out.keep aM3)
  have HTC := Lib.hid (HTC.out.all aM3)
  have HO1 := Lib.hid (HO1.out.all aM3)
  have HTI := Lib.hid (rows1 (R := tagR) (n := V11.heap.size + 1) (w := (V11.alloc (.cells ((metL mO pbO) ++ (metL mU pbU)).toArray 68))) (x := tagI) (cx := [.int .i64 1, .int .i64 5, .string ⟨#[]⟩]) 39 (by simp) (show Held (fun _ => True) (tagR tagI [.int .i64 1, .int .i64 5, .string ⟨#[]⟩]) _ from fun _ _ => rfl) rfl)
  have aTI : Below (V11.alloc (.cells ((metL mO pbO) ++ (metL mU pbU)).toArray 68)).heap.size (V11.alloc (.cells ((metL mO pbO) ++ (metL mU pbU)).toArray 68)) ((V11.alloc (.cells ((metL mO pbO) ++ (metL mU pbU)).toArray 68)).alloc (.cells ([.int .i64 1, .int .i64 5, .string ⟨#[]⟩] : List Value).toArray 39)) := (Below.refl _ (V11.alloc (.cells ((metL mO pbO) ++ (metL mU pbU)).toArray 68))).alloc (Nat.le_refl _) _
  have q21 := below_step q20 aTI
  have XA := Lib.hid (XA.out.keep aTI)
  have XB := Lib.hid (XB.out.keep aTI)
  have XO := Lib.hid (XO.out.keep aTI)
  have XU := Lib.hid (XU.out.keep aTI)
  have HTC := Lib.hid (HTC.out.all aTI)
  have HO1 := Lib.hid (HO1.out.all aTI)
  have HM3 := Lib.hid (HM3.out.all aTI)
  go_wp2_with (fail)
  refine (sane_o [mO, mU] tagI [3, 2] false ex3 A c _ _ _ _ _ (sane_asks ⟨_, HH.out.all q21⟩ HC.out ⟨_, HM3.out⟩ (small_ms (by simp)).1 (by simp) (small_ms (by simp)).2 ⟨_, HTI.out⟩)).mono ?_
  rintro e V12 ⟨A3, c3, rfl, ho3, bV12⟩
  clear fO0 fO1 fO2 fO3 fO4 fO5 fO6 fO7 lO fU0 fU1 fU2 fU3 fU4 fU5 fU6 fU7 lU
  have q22 := below_step q21 bV12
  have XA := Lib.hid (XA.out.keep bV12)
  have XB := Lib.hid (XB.out.keep bV12)
  have XO := Lib.hid (XO.out.keep bV12)
  have XU := Lib.hid (XU.out.keep bV12)
  have HTC := Lib.hid (HTC.out.all bV12)
  have HO1 := Lib.hid (HO1.out.all bV12)
  have HM3 := Lib.hid (HM3.out.all bV12)
  have HTI := Lib.hid (HTI.out.all bV12)
  have HO3 := Lib.hid ho3
  clear ho3
  have fA0 := XA.out.c 0 _ rfl
  have fA1 := XA.out.c 1 _ rfl
  have fA2 := XA.out.c 2 _ rfl
  have fA3 := XA.out.c 3 _ rfl
  have fA4 := XA.out.c 4 _ rfl
  have fA5 := XA.out.c 5 _ rfl
  have fA6 := XA.out.c 6 _ rfl
  have fA7 := XA.out.c 7 _ rfl
  have lA : V2.heap.size < V12.heap.size := cell_lt fA0
  have HM4 := Lib.hid (rows1 (R := metR) (n := V12.heap.size) (w := V12) (x := mA) (cx := (metL mA pbA)) 68 (by simp) XA.out.met rfl)
  have aM4 : Below V12.heap.size V12 (V12.alloc (.cells ((metL mA pbA) : List Value).toArray 68)) := (Below.refl _ V12).alloc (Nat.le_refl _) _
  have q23 := below_step q22 aM4
  have XA := Lib.hid (XA.out.keep aM4)
  have XB := Lib.hid (XB.out.keep aM4)
  have XO := Lib.hid (XO.out.keep aM4)
  have XU := Lib.hid (XU.out.keep aM4)
  have HTC := Lib.hid (HTC.out.all aM4)
  have HO1 := Lib.hid (HO1.out.all aM4)
  have HO3 := Lib.hid (HO3.out.all aM4)
  have HTB := Lib.hid (rows1 (R := tagR) (n := V12.heap.size + 1) (w := (V12.alloc (.cells ((metL mA pbA) : List Value).toArray 68))) (x := tagB) (cx := [.int .i64 2, .int .i64 1, .string ⟨#[]⟩]) 39 (by simp) (show Held (fun _ => True) (tagR tagB [.int .i64 2, .int .i64 1, .string ⟨#[]⟩]) _ from fun _ _ => rfl) rfl)
  have aTB : Below (V12.alloc (.cells ((metL mA pbA) : List Value).toArray 68)).heap.size (V12.alloc (.cells ((metL mA pbA) : List Value).toArray 68)) ((V12.alloc (.cells ((metL mA pbA) : List Value).toArray 68)).alloc (.cells ([.int .i64 2, .int .i64 1, .string ⟨#[]⟩] : List Value).toArray 39)) := (Below.refl _ (V12.alloc (.cells ((metL mA pbA) : List Value).toArray 68))).alloc (Nat.le_refl _) _
  have q24 := below_step q23 aTB
  have XA := Lib.hid (XA.out.keep aTB)
  have XB := Lib.hid (XB.out.keep aTB)
  have XO := Lib.hid (XO.out.keep aTB)
  have XU := Lib.hid (XU.out.keep aTB)
  have HTC := Lib.hid (HTC.out.all aTB)
  have HO1 := Lib.hid (HO1.out.all aTB)
  have HO3 := Lib.hid (HO3.out.all aTB)
  have HM4 := Lib.hid (HM4.out.all aTB)
  go_wp2_with (fail)
  refine (sane_f A c _ _ _ _ _ (sane_asks ⟨_, HH.out.all q24⟩ HC.out ⟨_, HM4.out⟩ (small_ms (by simp)).1 (by simp) (small_ms (by simp)).2 ⟨_, HTB.out⟩)).mono ?_
  rintro e V13 ⟨rfl, bV13⟩
  clear fA0 fA1 fA2 fA3 fA4 fA5 fA6 fA7 lA
  have q25 := below_step q24 bV13
  have XA := Lib.hid (XA.out.keep bV13)
  have XB := Lib.hid (XB.out.keep bV13)
  have XO := Lib.hid (XO.out.keep bV13)
  have XU := Lib.hid (XU.out.keep bV13)
  have HTC := Lib.hid (HTC.out.all bV13)
  have HO1 := Lib.hid (HO1.out.all bV13)
  have HO3 := Lib.hid (HO3.out.all bV13)
  have HM4 := Lib.hid (HM4.out.all bV13)
  have HTB := Lib.hid (HTB.out.all bV13)
  have fB0 := XB.out.c 0 _ rfl
  have fB1 := XB.out.c 1 _ rfl
  have fB2 := XB.out.c 2 _ rfl
  have fB3 := XB.out.c 3 _ rfl
  have fB4 := XB.out.c 4 _ rfl
  have fB5 := XB.out.c 5 _ rfl
  have fB6 := XB.out.c 6 _ rfl
  have fB7 := XB.out.c 7 _ rfl
  have lB : V4.heap.size < V13.heap.size := cell_lt fB0
  have fU0 := XU.out.c 0 _ rfl
  have fU1 := XU.out.c 1 _ rfl
  have fU2 := XU.out.c 2 _ rfl
  have fU3 := XU.out.c 3 _ rfl
  have fU4 := XU.out.c 4 _ rfl
  have fU5 := XU.out.c 5 _ rfl
  have fU6 := XU.out.c 6 _ rfl
  have fU7 := XU.out.c 7 _ rfl
  have lU : V9.heap.size < V13.heap.size := cell_lt fU0
  have HM5 := Lib.hid (rows2 (R := metR) (n := V13.heap.size) (w := V13) (x := mB) (y := mU) (cx := (metL mB pbB)) (cy := (metL mU pbU)) 68 (by simp) XB.out.met XU.out.met rfl rfl)
  have aM5 : Below V13.heap.size V13 (V13.alloc (.cells ((metL mB pbB) ++ (metL mU pbU)).toArray 68)) := (Below.refl _ V13).alloc (Nat.le_refl _) _
  have q26 := below_step q25 aM5
  have XA := Lib.hid (XA.out.keep aM5)
  have XB := Lib.hid (XB.out.keep aM5)
  have XO := Lib.hid (XO.out.keep aM5)
  have XU := Lib.hid (XU.out.keep aM5)
  have HTC := Lib.hid (HTC.out.all aM5)
  have HO1 := Lib.hid (HO1.out.all aM5)
  have HO3 := Lib.hid (HO3.out.all aM5)
  go_wp2_with (fail)
  refine (sane_c A c _ _ _ _ _ (sane_asks ⟨_, HH.out.all q26⟩ HC.out ⟨_, HM5.out⟩ (small_ms (by simp)).1 (by simp) (small_ms (by simp)).2 ⟨_, HTC.out⟩)).mono ?_
  rintro e V14 ⟨A5, c5, rfl, ho5, bV14⟩
  clear fB0 fB1 fB2 fB3 fB4 fB5 fB6 fB7 lB fU0 fU1 fU2 fU3 fU4 fU5 fU6 fU7 lU
  have q27 := below_step q26 bV14
  have XA := Lib.hid (XA.out.keep bV14)
  have XB := Lib.hid (XB.out.keep bV14)
  have XO := Lib.hid (XO.out.keep bV14)
  have XU := Lib.hid (XU.out.keep bV14)
  have HTC := Lib.hid (HTC.out.all bV14)
  have HO1 := Lib.hid (HO1.out.all bV14)
  have HO3 := Lib.hid (HO3.out.all bV14)
  have HM5 := Lib.hid (HM5.out.all bV14)
  have HO5 := Lib.hid ho5
  clear ho5
  have HI := Lib.hid (ints3 (W := V14) (a := 0) (b := 1) (d := 2) 3)
  have aI14 : Below V14.heap.size V14 (V14.alloc (.cells #[.int .i64 0, .int .i64 1, .int .i64 2] 3)) := (Below.refl _ V14).alloc (Nat.le_refl _) _
  have q28 := below_step q27 aI14
  have HO1 := Lib.hid (HO1.out.all aI14)
  have HO3 := Lib.hid (HO3.out.all aI14)
  have HO5 := Lib.hid (HO5.out.all aI14)
  go_wp2_with (fail)
  refine (sameInts_true A1 _ _ _ [0, 1, 2] _ _ _ HO1.out HI.out (by simp)).mono ?_
  rintro e V15 ⟨rfl, bV15⟩
  have q29 := below_step q28 bV15
  have HO1 := Lib.hid (HO1.out.all bV15)
  have HO3 := Lib.hid (HO3.out.all bV15)
  have HO5 := Lib.hid (HO5.out.all bV15)
  have HI := Lib.hid (ints2 (W := V15) (a := 3) (b := 2) 3)
  have aI15 : Below V15.heap.size V15 (V15.alloc (.cells #[.int .i64 3, .int .i64 2] 3)) := (Below.refl _ V15).alloc (Nat.le_refl _) _
  have q30 := below_step q29 aI15
  have HO3 := Lib.hid (HO3.out.all aI15)
  have HO5 := Lib.hid (HO5.out.all aI15)
  go_wp2_with (fail)
  refine (sameInts_true A3 _ _ _ [3, 2] _ _ _ HO3.out HI.out (by simp)).mono ?_
  rintro e V16 ⟨rfl, bV16⟩
  have q31 := below_step q30 bV16
  have HO3 := Lib.hid (HO3.out.all bV16)
  have HO5 := Lib.hid (HO5.out.all bV16)
  have HI := Lib.hid (ints2 (W := V16) (a := 1) (b := 3) 3)
  have aI16 : Below V16.heap.size V16 (V16.alloc (.cells #[.int .i64 1, .int .i64 3] 3)) := (Below.refl _ V16).alloc (Nat.le_refl _) _
  have q32 := below_step q31 aI16
  have HO5 := Lib.hid (HO5.out.all aI16)
  go_wp2_with (fail)
  refine (sameInts_true A5 _ _ _ [1, 3] _ _ _ HO5.out HI.out (by simp)).mono ?_
  rintro e V17 ⟨rfl, bV17⟩
  have q33 := below_step q32 bV17
  have HO5 := Lib.hid (HO5.out.all bV17)
  go_wp2
  go_ret
  exact ⟨rfl, b0.trans (q33.mono b0.size)⟩
end Go.Proofs.YtepnmejahbiacaaGreat
set_option linter.unusedVariables false
set_option linter.unusedSimpArgs false
namespace Go.Proofs.YtepnmejahbiacaaGreat
open Go.RowKit
/-- The place of a method. -/
def findI (ms : List Meth) (x : Int) : Int := match ms.findIdx? (fun m => decide (m.id = x)) with
  | some i => i
  | none => -1
theorem findI_some {ms : List Meth} {x : Int} {k : Nat} {m : Meth} (hm : ms[k]? = some m) (hx : m.id = x) (hno : hasI ((ms.take k).map (·.id)) x = false) : findI ms x = k := by
  obtain ⟨hk, rfl⟩ := List.getElem?_eq_some_iff.1 hm
  unfold findI
  have : ms.findIdx? (fun m => decide (m.id = x)) = some k := by
    rw [List.findIdx?_eq_some_iff_getElem]
    refine ⟨hk, by simpa using hx, fun j hj => ?_⟩
    simp only [decide_eq_true_eq]
    intro e
    refine hasI_false.1 hno (List.mem_map.2 ⟨ms[j], ?_, e⟩)
    rw [List.mem_iff_getElem?]
    exact ⟨j, by rw [List.getElem?_take, if_pos hj, List.getElem?_eq_getElem (by omega)]⟩
  rw [this]
theorem findI_none {ms : List Meth} {x : Int} (hno : hasI (ms.map (·.id)) x = false) : findI ms x = -1 := by
  unfold findI
  have : ms.findIdx? (fun m => decide (m.id = x)) = none := by
    rw [List.findIdx?_eq_none_iff]
    intro y hy
    simp only [decide_eq_false_iff_not]
    exact fun e => hasI_false.1 hno (List.mem_map.2 ⟨y, hy, e⟩)
  rw [this]
set_option maxHeartbeats 8000000 in
set_option maxRecDepth 100000 in
theorem find_calls (A : Option Addr) (c : Nat) (ms : List Meth) (x : Int) (W : World) (G : Nat → Prop) (h : Held G (Meths A ms) W) (hl : ms.length ≤ 1000000) :
    Calls Tryz.prog 48 #[.slice A ms.length c, .int .i64 x] W fun e W' => e = .returned (.int .i64 (findI ms x)) ∧ W' = W := by
  have H := Lib.hid h
  clear h
  go_enter Tryz.func48, Tryz.ntmps48
  go_wp2_with (fail)
  go_loopw [5] (fun i wr => ∃ k : Nat, k ≤ ms.length ∧ i = .int .i64 k ∧ hasI ((ms.take k).map (·.id)) x = false ∧ wr = W) (fun i _ => ms.length - (intOf i).toNat)
  case atStart => exact ⟨0, Nat.zero_le _, rfl, rfl, rfl⟩
  case round =>
    obtain ⟨k, hk, rfl, hno, rfl⟩ := hrel
    have HNO := Lib.hid hno
    clear hno
    by_cases hlt : k < ms.length
    · obtain ⟨b, off, rfl⟩ := Slc.addrH H.out (by omega)
      have hy : ms[k]? = some ms[k] := List.getElem?_eq_getElem hlt
      generalize ms[k] = y at hy
      have HY := Lib.hid hy
      obtain ⟨A1, c1, A2, c2, _, _, _, _, g0, _, _, _, _, _, _, _⟩ := Meths.atH H.out hy
      clear hy
      by_cases hyx : y.id = x
      · have t1 : (y.id == x) = true := beq_iff_eq.2 hyx
        have HB := Lib.hid (findI_some HY.out hyx HNO.out)
        clear hyx
        go_wp2
        go_ret
        exact ⟨(by rw [HB.out]; try rfl), rfl⟩
      · have t1 : (y.id == x) = false := beq_eq_false_iff_ne.2 hyx
        have HN : Hid (hasI ((ms.take (k + 1)).map (·.id)) x = false) := Lib.hid (by
          rw [take_snoc HY.out, List.map_append]
          have := HNO.out
          unfold hasI at this ⊢
          rw [List.any_append, this]
          simp [hyx])
        clear hyx
        go_wp2
        exact ⟨⟨k + 1, by omega, by go_num, HN.out, trivial⟩, by simp [intOf]; omega⟩
    · obtain rfl : k = ms.length := by omega
      have HB := Lib.hid (findI_none (ms := ms) (x := x) (by have := HNO.out; rwa [List.take_length] at this))
      go_wp2
      go_ret
      exact ⟨(by rw [HB.out]; try rfl), rfl⟩
end Go.Proofs.YtepnmejahbiacaaGreat
namespace Go.Proofs.YtepnmejahbiacaaGreat
open Go.RowKit
theorem areMs_nodup {l : List CI} {ms : List Meth} (h : AreMs l ms = true) : (ms.map (·.id)).Nodup := by
  unfold AreMs at h
  rw [Bool.and_eq_true] at h
  exact of_decide_eq_true h.1
end Go.Proofs.YtepnmejahbiacaaGreat
set_option linter.unusedVariables false
set_option linter.unusedSimpArgs false
namespace Go.Proofs.YtepnmejahbiacaaGreat
open Go.RowKit
/-- A method as an argument: its cells are there. -/
structure MetIn (W : World) (m : Meth) (A1 A2 : Option Addr) (c1 c2 : Nat) : Prop where
  h1 : m.pars.length ≤ c1
  h2 : ∃ G, Held G (Pars A1 m.pars) W
  h3 : m.result.args.length ≤ c2
  h4 : ∃ G, Held G (Typs A2 m.result.args) W
  hs : ∀ p ∈ m.pars, TySmall p.type
  hp : m.pars.length ≤ 1000000
theorem MetIn.keep {W V : World} {m : Meth} {A1 A2 : Option Addr} {c1 c2 : Nat} (h : MetIn W m A1 A2 c1 c2) (b : Below W.heap.size W V) : MetIn V m A1 A2 c1 c2 :=
  ⟨h.h1, h.h2.imp fun _ h => h.keep (Keep.all b), h.h3, h.h4.imp fun _ h => h.keep (Keep.all b), h.hs, h.hp⟩
theorem MetIn.held {W : World} {m : Meth} {A1 A2 : Option Addr} {c1 c2 : Nat} (h : MetIn W m A1 A2 c1 c2) : Held (fun b => b < W.heap.size) (metR m [.int .i64 m.id, .string m.lib, .slice A1 m.pars.length c1, .int .i64 m.result.kind, .string m.result.name, .int .i64 m.result.lo, .int .i64 m.result.hi, .slice A2 m.result.args.length c2]) W := by
  obtain ⟨G1, g1⟩ := h.h2
  obtain ⟨G2, g2⟩ := h.h4
  exact metR.mk h.h1 g1.here h.h3 g2.here
end Go.Proofs.YtepnmejahbiacaaGreat
set_option linter.unusedVariables false
set_option linter.unusedSimpArgs false
namespace Go.Proofs.YtepnmejahbiacaaGreat
open Go.RowKit
/-- A type as an argument: its cells are there. -/
structure TyIn (W : World) (t : Ty) (A : Option Addr) (c : Nat) : Prop where
  h1 : t.args.length ≤ c
  h2 : ∃ G, Held G (Typs A t.args) W
  hs : TySmall t
theorem TyIn.keep {W V : World} {t : Ty} {A : Option Addr} {c : Nat} (h : TyIn W t A c) (b : Below W.heap.size W V) : TyIn V t A c := ⟨h.h1, h.h2.imp fun _ h => h.keep (Keep.all b), h.hs⟩
/-- A hierarchy as an argument. -/
structure HiIn (W : World) (AH : Option Addr) (cH : Nat) (l : List CI) : Prop where
  h : ∃ G, Held G (CIs AH l) W
  hcH : l.length ≤ cH
  ol : ∀ x ∈ l, ciOk x
  hl : l.length ≤ 1000000
theorem HiIn.keep {W V : World} {AH : Option Addr} {cH : Nat} {l : List CI} (h : HiIn W AH cH l) (b : Below W.heap.size W V) : HiIn V AH cH l := ⟨h.h.imp fun _ h => h.keep (Keep.all b), h.hcH, h.ol, h.hl⟩
theorem Asks.hi {AH : Option Addr} {cH : Nat} {l : List CI} {A : Option Addr} {ms : List Meth} {AT : Option Addr} {ts : List Tag} {W : World} (q : Asks AH cH l A ms AT ts W) : HiIn W AH cH l := ⟨q.h, q.hcH, q.ol, q.hl⟩
end Go.Proofs.YtepnmejahbiacaaGreat
