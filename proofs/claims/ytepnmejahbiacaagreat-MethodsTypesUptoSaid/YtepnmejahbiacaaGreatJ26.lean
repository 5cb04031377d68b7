/- Part 26 of the proof: Sa, Pa, Pr, Lb, Tp, Wh. -/
import Derived.Test.YtepnmejahbiacaaGreatJ22
import Derived.Test.YtepnmejahbiacaaGreatJ05
import Derived.Test.YtepnmejahbiacaaGreatJ06
import Derived.Test.YtepnmejahbiacaaGreatJ07
import Derived.Test.YtepnmejahbiacaaGreatJ12
import Derived.Test.YtepnmejahbiacaaGreatJ13
import Derived.Test.YtepnmejahbiacaaGreatJ14
import Derived.Test.YtepnmejahbiacaaGreatJ15
import Derived.Test.YtepnmejahbiacaaGreatJ04
import Derived.Test.YtepnmejahbiacaaGreatJ09
import Derived.Test.YtepnmejahbiacaaGreatJ03
import Derived.Test.YtepnmejahbiacaaGreatJ01
import Derived.BigQuiet
import Derived.Carry
import Derived.Deep.AppendLies
import Derived.Deep.Draws
import Derived.Deep.LoopGhost
import Derived.Deep.QuietTactic
import Derived.Deep.RegionHeld3
import Derived.Deep.RegionWith
import Derived.KernelRfl
import Derived.Lib.Hide
import Derived.LoopIn
import Derived.LoopNIn
import Derived.Maps.AppendAt
import Derived.Maps.Own
import Derived.Maps.OwnIn
import Derived.Outline
import Derived.OwnWalkIn
import Derived.RangeFuncBound
import Derived.RangeFuncCalls
import Derived.RangeFuncLeaves
import Derived.RangeFuncNested
import Derived.Recover
import Derived.StillTailTactics
import Derived.Stop.RegionWithIn
import Derived.TacticsInMore
import Derived.Test.YtepnmejahbiacaaGreatProg
import Derived.WalkKit
import Derived.WalkSpells
import Derived.Test.YtepnmejahbiacaaGreatJ20
import Derived.Test.YtepnmejahbiacaaGreatJ19
import Derived.Test.YtepnmejahbiacaaGreatJ18
import Derived.Test.YtepnmejahbiacaaGreatJ24
import Derived.Test.YtepnmejahbiacaaGreatJ21
import Derived.Test.YtepnmejahbiacaaGreatJ08
import Derived.Test.YtepnmejahbiacaaGreatJ17
import Derived.Test.YtepnmejahbiacaaGreatJ25
import Derived.Test.YtepnmejahbiacaaGreatJ10
import Derived.Test.YtepnmejahbiacaaGreatJ11
import Derived.Test.YtepnmejahbiacaaGreatJ23
import Derived.Test.YtepnmejahbiacaaGreatJ16
import Derived.Test.YtepnmejahbiacaaGreatJ02
import Derived.Deep.RegionLaw
import Derived.Laws.EntriesVeiled
import Derived.Lib.SliceRun
set_option linter.unusedVariables false
set_option linter.unusedSimpArgs false
namespace Go.Proofs.YtepnmejahbiacaaGreat
open Go.RowKit
def appC (l : List CI) (ts : List Tag) (m : Meth) : Bool := (List.range m.pars.length).all fun i => match m.pars[i]?, ts[i]? with
  | some p, some t => hasTF l t p.type
  | _, _ => true
theorem appB_eq {l : List CI} {ts : List Tag} {m : Meth} (hL : LookOk l) (ht : ∀ t ∈ ts, tagOk l t = true) (hv : ∀ p ∈ m.pars, validErr l p.type = 0) : appB l ts m = appC l ts m := by
  cases hc : appC l ts m with
  | true =>
    refine appB_true fun i p t hp htt => ?_
    have := List.all_eq_true.1 hc i (List.mem_range.2 (List.getElem?_eq_some_iff.1 hp).1)
    rw [hp, htt] at this
    exact ⟨hL, ht t (List.mem_of_getElem? htt), hv p (List.mem_of_getElem? hp), this⟩
  | false =>
    refine appB_false fun hA => ?_
    obtain ⟨i, hi, e⟩ := List.all_eq_false.1 hc
    have hi' := List.mem_range.1 hi
    rw [List.getElem?_eq_getElem hi'] at e
    cases ht2 : ts[i]? with
    | none => rw [ht2] at e; simp at e
    | some t =>
      rw [ht2] at e
      exact e (hA i _ t (List.getElem?_eq_getElem hi') ht2).2.2.2
def orderC (l : List CI) (ms : List Meth) (ts : List Tag) : List Meth × List Meth := orderG (precB l ts) (ms.filter (appC l ts)).length (ms.filter (appC l ts))
def chkB (l : List CI) (ms : List Meth) (ts : List Tag) : Bool := decide (ms.length ≤ 300) && AreMs l ms && decide (ts.length ≤ 6) && (decide (ms.length = 0) || decide ((ms[0]?.map fun m => m.pars.length).getD 0 = ts.length)) && ts.all (tagOk l)
theorem chk_zero {l : List CI} {ms : List Meth} {ts : List Tag} (hL : LookOk l) (h : chkB l ms ts = true) : checkAllE l ms ts = 0 := by
  unfold chkB at h
  simp only [Bool.and_eq_true, Bool.or_eq_true, decide_eq_true_eq] at h
  obtain ⟨⟨⟨⟨h1, h2⟩, h3⟩, h4⟩, h5⟩ := h
  rw [checkAllE_tags hL (by omega) (by
    rintro (q | q | ⟨q, q2⟩)
    · rw [h2] at q; cases q
    · omega
    · rcases h4 with h4 | h4
      · omega
      · exact q2 h4), h5]; rfl
theorem areMs_valid {l : List CI} {ms : List Meth} (h : AreMs l ms = true) : ∀ m ∈ ms, ∀ p ∈ m.pars, validErr l p.type = 0 := fun m hm p hp => by
  unfold AreMs at h
  rw [Bool.and_eq_true] at h
  have := List.all_eq_true.1 h.2 m hm
  unfold parsOk at this
  rw [Bool.and_eq_true] at this
  have := List.all_eq_true.1 this.2 p hp
  simpa using this
theorem ordB_eq {l : List CI} {ms : List Meth} {ts : List Tag} (hz : checkAllE l ms ts = 0) : ordB l ts ms = orderC l ms ts := by
  obtain ⟨h1, _, h3, _, _, h6⟩ := checkAllE_zero hz
  have e : ms.filter (appB l ts) = ms.filter (appC l ts) := List.filter_congr fun m hm => appB_eq h1 h6 (areMs_valid h3 m hm)
  unfold ordB orderC
  rw [e]
theorem orderR_eq {l : List CI} {ms : List Meth} {ts : List Tag} (hz : checkAllE l ms ts = 0) : orderR l ms ts = ((orderC l ms ts).1.map (·.id), decide (0 < (orderC l ms ts).2.length)) := by
  unfold orderR; rw [if_pos hz, ordB_eq hz]
def tagC : Tag := ⟨5, 0, nC⟩
def tagI : Tag := ⟨1, 5, ⟨#[]⟩⟩
def tagB : Tag := ⟨2, 1, ⟨#[]⟩⟩
def mA : Meth := met1 0 (clsT nA)
def mB : Meth := met1 1 (clsT nB)
def mO : Meth := met1 2 (clsT nObj)
def tyU : Ty := .mk 5 ⟨#[]⟩ 0 0 [clsT nA, clsT nInteger]
def mU : Meth := met1 3 tyU
theorem ex1z : checkAllE h3L [mA, mB, mO] [tagC] = 0 := chk_zero look3 (by kernel_rfl)
theorem ex2z : checkAllE h3L [mB, mU] [tagC] = 0 := chk_zero look3 (by kernel_rfl)
theorem ex3z : checkAllE h3L [mO, mU] [tagI] = 0 := chk_zero look3 (by kernel_rfl)
theorem ex4z : checkAllE h3L [mA] [tagB] = 0 := chk_zero look3 (by kernel_rfl)
theorem ex1 : orderR h3L [mA, mB, mO] [tagC] = ([0, 1, 2], false) := by rw [orderR_eq ex1z]; kernel_rfl
theorem ex2 : orderR h3L [mB, mU] [tagC] = ([], true) := by rw [orderR_eq ex2z]; kernel_rfl
theorem ex3 : orderR h3L [mO, mU] [tagI] = ([3, 2], false) := by rw [orderR_eq ex3z]; kernel_rfl
theorem ex4 : firstR h3L [mA] [tagB] = (0, 1) := by
  have : orderR h3L [mA] [tagB] = ([], false) := by rw [orderR_eq ex4z]; kernel_rfl
  unfold firstR; rw [this]; rfl
theorem ex5p : (orderC h3L [mB, mU] [tagC]).2 = [mB, mU] := by kernel_rfl
theorem ex5c : precB h3L [tagC] mB mU = false ∧ precB h3L [tagC] mU mB = false := ⟨by kernel_rfl, by kernel_rfl⟩
/-- The conflict of the example. -/
theorem ex5e {a b : Meth} (h : Clash (precB h3L [tagC]) (ordB h3L [tagC] [mB, mU]).2 a b) : min a.id b.id = 1 ∧ max a.id b.id = 3 := by
  rw [ordB_eq ex2z, ex5p] at h
  obtain ⟨i, k, hk, h1, h2, _, _⟩ := h
  match i, k with
  | 0, _ => omega
  | 1, 0 => cases h1; cases h2; exact ⟨rfl, rfl⟩
  | 1, _ + 1 => omega
  | _ + 2, _ => simp at h1
theorem ex5h : Clash (precB h3L [tagC]) (ordB h3L [tagC] [mB, mU]).2 mU mB := by
  rw [ordB_eq ex2z, ex5p]
  exact ⟨1, 0, by omega, rfl, rfl, ex5c.2, ex5c.1⟩
theorem tySmall_cls (n : ByteArray) : TySmall (clsT n) := ⟨rfl, by show (clsT n).count ≤ _; simp [clsT, Ty.count, Ty.counts]⟩
theorem tySmall_U : TySmall tyU := ⟨rfl, by show tyU.count ≤ _; simp [tyU, clsT, Ty.count, Ty.counts]⟩
/-- A row that is laid at once. -/
theorem Own.ofEnc {α : Type} {R : α → List Value → World → Prop} {sz n : Nat} {G : Nat → Prop} {L : List α} {xs : List Value} {w : World} (T : TypeId) (hn : n = w.heap.size) (he : Enc (fun x cs => Held G (R x cs) w) sz L xs) (hl : L.length ≤ 1000000) :
    Own R T sz n G (.slice (some ⟨n, 0, none⟩) L.length L.length) L (w.alloc (.cells xs.toArray T)) := by
  subst hn
  refine ⟨xs, ⟨he.length, .inr ⟨_, L.length, xs.toArray, rfl, Nat.le_refl _, heap_alloc_new w _, Nat.le_refl _, by simp only [maxLen]; omega, by simp [he.length], by simp [← he.length]⟩⟩, he.imp fun x cs hx => hx.keep (Keep.alloc _ _ _)⟩
theorem rowsE {α : Type} {R : α → List Value → World → Prop} {sz n : Nat} {G : Nat → Prop} {L : List α} {xs : List Value} {w : World} (T : TypeId) (hn : n = w.heap.size) (he : Enc (fun x cs => Held G (R x cs) w) sz L xs) (hl : L.length ≤ 1000000) : Held (fun b => b < n + 1) (Slc R sz (some ⟨n, 0, none⟩) L) (w.alloc (.cells xs.toArray T)) :=
  (Own.read (Own.ofEnc T hn he hl)).2.2.mono fun b hb _ => by subst hn; simpa using hb
theorem rows1 {α : Type} {R : α → List Value → World → Prop} {sz n : Nat} {G : Nat → Prop} {x : α} {cx : List Value} {w : World} (T : TypeId) (hn : n = w.heap.size) (hx : Held G (R x cx) w) (lx : cx.length = sz) : Held (fun b => b < n + 1) (Slc R sz (some ⟨n, 0, none⟩) [x]) (w.alloc (.cells cx.toArray T)) := by
  have := rowsE T hn (Enc.snoc Enc.nil hx lx) (by simp)
  simpa using this
theorem rows2 {α : Type} {R : α → List Value → World → Prop} {sz n : Nat} {G : Nat → Prop} {x y : α} {cx cy : List Value} {w : World} (T : TypeId) (hn : n = w.heap.size) (hx : Held G (R x cx) w) (hy : Held G (R y cy) w) (lx : cx.length = sz) (ly : cy.length = sz) : Held (fun b => b < n + 1) (Slc R sz (some ⟨n, 0, none⟩) [x, y]) (w.alloc (.cells (cx ++ cy).toArray T)) := by
  have := rowsE T hn (Enc.snoc (Enc.snoc Enc.nil hx lx) hy ly) (by simp)
  simpa using this
theorem rows3 {α : Type} {R : α → List Value → World → Prop} {sz n : Nat} {G : Nat → Prop} {x y z : α} {cx cy cz : List Value} {w : World} (T : TypeId) (hn : n = w.heap.size) (hx : Held G (R x cx) w) (hy : Held G (R y cy) w) (hz : Held G (R z cz) w) (lx : cx.length = sz) (ly : cy.length = sz) (lz : cz.length = sz) : Held (fun b => b < n + 1) (Slc R sz (some ⟨n, 0, none⟩) [x, y, z]) (w.alloc (.cells (cx ++ cy ++ cz).toArray T)) := by
  have := rowsE T hn (Enc.snoc (Enc.snoc (Enc.snoc Enc.nil hx lx) hy ly) hz lz) (by simp)
  simpa using this
theorem sane_o (ms : List Meth) (t : Tag) (l : List Int) (b : Bool) (hr : orderR h3L ms [t] = (l, b)) (A : Option Addr) (c : Nat) (AM : Option Addr) (cM : Nat) (AT : Option Addr) (cT : Nat) (W : World) (q : Asks A c h3L AM ms AT [t] W) :
    Calls Tryz.prog 26 #[.slice A h3L.length c, .slice AM ms.length cM, .slice AT [t].length cT] W fun e W' => ∃ A' c', e = .returned (.tuple #[.slice A' l.length c', .bool b]) ∧ Held (fun b => b < W'.heap.size) (Ints A' l) W' ∧ Below W.heap.size W W' := by
  have := order_calls A c h3L AM cM ms AT cT [t] W q
  rw [hr] at this
  refine this.mono ?_
  rintro e W' ⟨v, rfl, ho, hb⟩
  obtain ⟨A', c', rfl, _, h2⟩ := ho.out
  exact ⟨A', c', rfl, h2.mono fun b hb _ => hb, hb⟩
theorem sane_f (A : Option Addr) (c : Nat) (AM : Option Addr) (cM : Nat) (AT : Option Addr) (cT : Nat) (W : World) (q : Asks A c h3L AM [mA] AT [tagB] W) :
    Calls Tryz.prog 28 #[.slice A h3L.length c, .slice AM 1 cM, .slice AT 1 cT] W fun e W' => e = .returned (.tuple #[.int .i64 0, .int .i64 1]) ∧ Below W.heap.size W W' := by
  have := first_calls A c h3L AM cM [mA] AT cT [tagB] W q
  rw [ex4] at this
  exact this
theorem sane_c (A : Option Addr) (c : Nat) (AM : Option Addr) (cM : Nat) (AT : Option Addr) (cT : Nat) (W : World) (q : Asks A c h3L AM [mB, mU] AT [tagC] W) :
    Calls Tryz.prog 30 #[.slice A h3L.length c, .slice AM 2 cM, .slice AT 1 cT] W fun e W' => ∃ A' c', e = .returned (.tuple #[.slice A' 2 c', .int .i64 0]) ∧ Held (fun b => b < W'.heap.size) (Ints A' [1, 3]) W' ∧ Below W.heap.size W W' := by
  have := conflict_calls A c h3L AM cM [mB, mU] AT cT [tagC] W q
  refine this.mono ?_
  rintro e W' ⟨hb, (⟨h, _⟩ | ⟨_, (⟨h, _⟩ | ⟨a, b, v, h, rfl, ho⟩)⟩)⟩
  · exact absurd ex2z h
  · exact absurd ex5h (h _ _)
  · obtain ⟨h1, h2⟩ := ex5e h
    rw [h1, h2] at ho
    obtain ⟨A', c', rfl, _, h2⟩ := ho.out
    exact ⟨A', c', rfl, h2.mono fun b hb _ => hb, hb⟩
/-- What is asked, of the examples. -/
theorem sane_asks {A : Option Addr} {c : Nat} {AM : Option Addr} {ms : List Meth} {AT : Option Addr} {t : Tag} {W : World} (h : ∃ G, Held G (CIs A h3L) W) (hc : h3L.length ≤ c) (hM : ∃ G, Held G (Meths AM ms) W) (hs : ∀ m ∈ ms, ∀ p ∈ m.pars, TySmall p.type) (hn : ms.length ≤ 300) (hp : ∀ m ∈ ms, m.pars.length ≤ 1000000) (hT : ∃ G, Held G (Tags AT [t]) W) :
    Asks A c h3L AM ms AT [t] W := ⟨h, hc, ciOk_of small3, by have := look3.1; omega, hM, by omega, hs, hp, hT, by simp⟩
theorem small_ms {ms : List Meth} (h : ∀ m ∈ ms, m = mA ∨ m = mB ∨ m = mO ∨ m = mU) : (∀ m ∈ ms, ∀ p ∈ m.pars, TySmall p.type) ∧ ∀ m ∈ ms, m.pars.length ≤ 1000000 := by
  constructor
  · intro m hm p hp
    rcases h m hm with rfl | rfl | rfl | rfl
    · have : p = ⟨nX, clsT nA⟩ := by simpa [mA, met1] using hp
      subst this; exact tySmall_cls _
    · have : p = ⟨nX, clsT nB⟩ := by simpa [mB, met1] using hp
      subst this; exact tySmall_cls _
    · have : p = ⟨nX, clsT nObj⟩ := by simpa [mO, met1] using hp
      subst this; exact tySmall_cls _
    · have : p = ⟨nX, tyU⟩ := by simpa [mU, met1] using hp
      subst this; exact tySmall_U
  · intro m hm
    rcases h m hm with rfl | rfl | rfl | rfl <;> simp [mA, mB, mO, mU, met1]
theorem sameInts_true (A B : Option Addr) (c d : Nat) (l : List Int) (w : World) (GA GB : Nat → Prop) (hA : Held GA (Ints A l) w) (hB : Held GB (Ints B l) w) (hl : l.length ≤ 1000000) :
    Calls Tryz.prog 14 #[.slice A l.length c, .slice B l.length d] w fun e w' => e = .returned (.bool true) ∧ Below w.heap.size w w' :=
  (sameInts_calls A B c d l l w GA GB hA hB hl hl).mono fun e w' ⟨h1, h2⟩ => ⟨by rw [h1, decide_eq_true rfl], h2.below _⟩
theorem ints2 {W : World} {a b : Int} (T : TypeId) : Held (fun x => x < W.heap.size + 1) (Ints (some ⟨W.heap.size, 0, none⟩) [a, b]) (W.alloc (.cells #[.int .i64 a, .int .i64 b] T)) :=
  rows2 (R := intR) (G := fun _ => True) (cx := [.int .i64 a]) (cy := [.int .i64 b]) T rfl (fun _ _ => rfl) (fun _ _ => rfl) rfl rfl
theorem ints3 {W : World} {a b d : Int} (T : TypeId) : Held (fun x => x < W.heap.size + 1) (Ints (some ⟨W.heap.size, 0, none⟩) [a, b, d]) (W.alloc (.cells #[.int .i64 a, .int .i64 b, .int .i64 d] T)) :=
  rows3 (R := intR) (G := fun _ => True) (cx := [.int .i64 a]) (cy := [.int .i64 b]) (cz := [.int .i64 d]) T rfl (fun _ _ => rfl) (fun _ _ => rfl) (fun _ _ => rfl) rfl rfl rfl
end Go.Proofs.YtepnmejahbiacaaGreat
set_option linter.unusedVariables false
set_option linter.unusedSimpArgs false
namespace Go.Proofs.YtepnmejahbiacaaGreat
open Go.RowKit
/-- What Applicable returns. -/
noncomputable def applR (l : List CI) (ms : List Meth) (ts : List Tag) : List Int × Int := if checkAllE l ms ts = 0 then ((ms.filter (appB l ts)).map (·.id), 0) else ([], checkAllE l ms ts)
theorem applR_ok {l : List CI} {ms : List Meth} {ts : List Tag} (h : checkAllE l ms ts = 0) : applR l ms ts = ((ms.filter (appB l ts)).map (·.id), 0) := by unfold applR; rw [if_pos h]
theorem applR_bad {l : List CI} {ms : List Meth} {ts : List Tag} (h : ¬ checkAllE l ms ts = 0) : applR l ms ts = ([], checkAllE l ms ts) := by unfold applR; rw [if_neg h]
theorem applR_len (l : List CI) (ms : List Meth) (ts : List Tag) : (applR l ms ts).1.length ≤ ms.length := by
  by_cases h : checkAllE l ms ts = 0
  · rw [applR_ok h, List.length_map]; exact List.length_filter_le _ _
  · rw [applR_bad h]; exact Nat.zero_le _
set_option maxHeartbeats 16000000 in
set_option maxRecDepth 100000 in
theorem applicable_calls (AH : Option Addr) (cH : Nat) (l : List CI) (A : Option Addr) (c : Nat) (ms : List Meth) (AT : Option Addr) (cT : Nat) (ts : List Tag) (W : World) (q : Asks AH cH l A ms AT ts W) :
    Calls Tryz.prog 10 #[.slice AH l.length cH, .slice A ms.length c, .slice AT ts.length cT] W fun e W' => ∃ A' c', e = .returned (.tuple #[.slice A' (applR l ms ts).1.length c', .int .i64 (applR l ms ts).2]) ∧ Held (fun b => b < W'.heap.size) (Ints A' (applR l ms ts).1) W' ∧ Below W.heap.size W W' := by
  have HC := Lib.hid (open_calls AH cH l A c ms AT cT ts W q)
  have hmf : ∀ (fn : Fn) (first cap : Array Value) (w : World), (Instr.makeFunc fn first cap).run Tryz.prog w = .ok (.func fn first cap) w := fun _ _ _ _ => rfl
  obtain ⟨GH, h⟩ := q.h
  obtain ⟨GM, hM⟩ := q.hM
  obtain ⟨GT, hT⟩ := q.hT
  have HFI : Hid (∀ V cp A2 c2, Below W.heap.size W V → checkAllE l ms ts = 0 → OpenAt cp AH cH l AT cT ts A2 c2 V → Calls Tryz.prog 41 #[.slice A ms.length c, .func (.func 42) #[.pointer (some ⟨cp, 0, none⟩)] #[]] V fun e W' => ∃ v, e = .returned v ∧
      Own metR 68 8 V.heap.size (fun b => b < V.heap.size) v (ms.filter (appB l ts)) W' ∧ Below V.heap.size V W') :=
    Lib.hid (fun V cp A2 c2 hv he ho => by
      obtain ⟨z1, z2, z3, z4, z5, z6⟩ := checkAllE_zero he
      refine (filter_calls A c ms (fun b => b < V.heap.size) V (hM.keep (Keep.all hv)).here q.hn 42 #[.pointer (some ⟨cp, 0, none⟩)] #[] (appB l ts) (enters Tryz.func42 (by kernel_rfl) rfl)
        (fun m hm A1 c1 A2' c2' wr hb h1 h2 => by
          have hvr := below_step hv hb
          refine (applies_calls cp AH cH l AT cT ts m A1 A2' c1 c2' wr (ho.call.keep hb) GH (h.keep (Keep.all hvr)) q.hcH q.ol q.hl GT (hT.keep (Keep.all hvr)) _ h2 (z5 m hm) (by rw [z5 m hm]; exact q.hts) (q.hs m hm)).mono ?_
          rintro e w' ⟨q, (⟨q1, rfl⟩ | ⟨q1, rfl⟩)⟩
          · exact ⟨by rw [appB_true q1], q⟩
          · exact ⟨by rw [appB_false q1], q⟩)).mono ?_
      rintro e W' ⟨v, rfl, ho2, hb⟩
      exact ⟨v, rfl, ho2.mono fun b _ hb => hb.2, hb⟩)
  have hn := q.hn
  clear h hM hT q
  go_enter Tryz.func10, Tryz.ntmps10
  go_wp2_with (fail)
  refine HC.out.mono ?_
  clear HC
  rintro e V ⟨hbv, (⟨hz, rfl⟩ | ⟨hz, cp, A2, c2, rfl, hcp, ho⟩)⟩
  · have t1 : (checkAllE l ms ts != 0) = true := by rw [bne_iff_ne]; exact hz
    have HR := Lib.hid (applR_bad hz)
    clear hz HFI
    generalize checkAllE l ms ts = ce at t1 HR
    go_wp2
    go_ret2
    exact ⟨none, 0, (by rw [HR.out]; try rfl), (by rw [HR.out]; exact fun _ _ => Slc.nil _ _ _ _), hbv⟩
  · have HF := Lib.hid (HFI.out V cp A2 c2 hbv hz ho)
    have HR := Lib.hid (applR_ok hz)
    have HFL : Hid ((ms.filter (appB l ts)).length ≤ ms.length) := Lib.hid (List.length_filter_le _ _)
    clear hz ho HFI
    generalize ms.filter (appB l ts) = fm at HF HR HFL
    go_wp2_with (fail)
    refine HF.out.mono ?_
    clear HF
    rintro e V2 ⟨v, rfl, hown, hb2⟩
    obtain ⟨A5, c5, rfl, hc5, h5⟩ := hown.out
    have q2 := below_step hbv hb2
    have HI := Lib.hid (ids_calls A5 c5 fm _ V2 h5 (by have := HFL.out; omega))
    clear hown h5
    go_wp2_with (fail)
    refine HI.out.mono ?_
    clear HI
    rintro e V3 ⟨v, rfl, hv, hb3⟩
    obtain ⟨A6, c6, rfl, _, h6⟩ := hv.out
    have H6 := Lib.hid h6
    have q3 := below_step q2 hb3
    have HLE : Hid ((fm.map (·.id)).length = (fm.map (·.id)).length) := Lib.hid rfl
    clear hv h6
    generalize fm.map (·.id) = ids at H6 HR
    go_wp2
    go_ret2
    exact ⟨A6, c6, (by rw [HR.out]; try rfl), (by rw [HR.out]; exact H6.out.mono fun b hb _ => hb), q3⟩
/-- The place of a method. -/
def findI (ms : List Meth) (x : Int) : Int := match ms.findIdx? (fun m => decide (m.id = x)) with
  | some i => i
  | none => -1
theorem findI_some {ms : List Meth} {x : Int} {k : Nat} {m : Meth} (hm : ms[k]? = some m) (hx : m.id = x) (hno : hasI ((ms.take k).map (·.id)) x = false) : findI ms x = k := by
  obtain ⟨hk, rfl⟩ := List.getElem?_eq_some_iff.1 hm
  unfold findI
  have : ms.findIdx? (fun m => decide (m.id = x)) = some k := by
    rw [List.findIdx?_eq_some_iff_getElem]
    refine ⟨hk, by simpa using hx, fun j hj => ?_⟩
    simp only [decide_eq_true_eq]
    intro e
    refine hasI_false.1 hno (List.mem_map.2 ⟨ms[j], ?_, e⟩)
    rw [List.mem_iff_getElem?]
    exact ⟨j, by rw [List.getElem?_take, if_pos hj, List.getElem?_eq_getElem (by omega)]⟩
  rw [this]
theorem findI_none {ms : List Meth} {x : Int} (hno : hasI (ms.map (·.id)) x = false) : findI ms x = -1 := by
  unfold findI
  have : ms.findIdx? (fun m => decide (m.id = x)) = none := by
    rw [List.findIdx?_eq_none_iff]
    intro y hy
    simp only [decide_eq_false_iff_not]
    exact fun e => hasI_false.1 hno (List.mem_map.2 ⟨y, hy, e⟩)
  rw [this]
set_option maxHeartbeats 8000000 in
set_option maxRecDepth 100000 in
theorem find_calls (A : Option Addr) (c : Nat) (ms : List Meth) (x : Int) (W : World) (G : Nat → Prop) (h : Held G (Meths A ms) W) (hl : ms.length ≤ 1000000) :
    Calls Tryz.prog 48 #[.slice A ms.length c, .int .i64 x] W fun e W' => e = .returned (.int .i64 (findI ms x)) ∧ W' = W := by
  have H := Lib.hid h
  clear h
  go_enter Tryz.func48, Tryz.ntmps48
  go_wp2_with (fail)
  go_loopw [5] (fun i wr => ∃ k : Nat, k ≤ ms.length ∧ i = .int .i64 k ∧ hasI ((ms.take k).map (·.id)) x = false ∧ wr = W) (fun i _ => ms.length - (intOf i).toNat)
  case atStart => exact ⟨0, Nat.zero_le _, rfl, rfl, rfl⟩
  case round =>
    obtain ⟨k, hk, rfl, hno, rfl⟩ := hrel
    have HNO := Lib.hid hno
    clear hno
    by_cases hlt : k < ms.length
    · obtain ⟨b, off, rfl⟩ := Slc.addrH H.out (by omega)
      have hy : ms[k]? = some ms[k] := List.getElem?_eq_getElem hlt
      generalize ms[k] = y at hy
      have HY := Lib.hid hy
      obtain ⟨A1, c1, A2, c2, _, _, _, _, g0, _, _, _, _, _, _, _⟩ := Meths.atH H.out hy
      clear hy
      by_cases hyx : y.id = x
      · have t1 : (y.id == x) = true := beq_iff_eq.2 hyx
        have HB := Lib.hid (findI_some HY.out hyx HNO.out)
        clear hyx
        go_wp2
        go_ret
        exact ⟨(by rw [HB.out]; try rfl), rfl⟩
      · have t1 : (y.id == x) = false := beq_eq_false_iff_ne.2 hyx
        have HN : Hid (hasI ((ms.take (k + 1)).map (·.id)) x = false) := Lib.hid (by
          rw [take_snoc HY.out, List.map_append]
          have := HNO.out
          unfold hasI at this ⊢
          rw [List.any_append, this]
          simp [hyx])
        clear hyx
        go_wp2
        exact ⟨⟨k + 1, by omega, by go_num, HN.out, trivial⟩, by simp [intOf]; omega⟩
    · obtain rfl : k = ms.length := by omega
      have HB := Lib.hid (findI_none (ms := ms) (x := x) (by have := HNO.out; rwa [List.take_length] at this))
      go_wp2
      go_ret
      exact ⟨(by rw [HB.out]; try rfl), rfl⟩
end Go.Proofs.YtepnmejahbiacaaGreat
set_option linter.unusedVariables false
set_option linter.unusedSimpArgs false
namespace Go.Proofs.YtepnmejahbiacaaGreat
open Go.RowKit
/-- A method as an argument: its cells are there. -/
structure MetIn (W : World) (m : Meth) (A1 A2 : Option Addr) (c1 c2 : Nat) : Prop where
  h1 : m.pars.length ≤ c1
  h2 : ∃ G, Held G (Pars A1 m.pars) W
  h3 : m.result.args.length ≤ c2
  h4 : ∃ G, Held G (Typs A2 m.result.args) W
  hs : ∀ p ∈ m.pars, TySmall p.type
  hp : m.pars.length ≤ 1000000
theorem MetIn.keep {W V : World} {m : Meth} {A1 A2 : Option Addr} {c1 c2 : Nat} (h : MetIn W m A1 A2 c1 c2) (b : Below W.heap.size W V) : MetIn V m A1 A2 c1 c2 :=
  ⟨h.h1, h.h2.imp fun _ h => h.keep (Keep.all b), h.h3, h.h4.imp fun _ h => h.keep (Keep.all b), h.hs, h.hp⟩
theorem MetIn.held {W : World} {m : Meth} {A1 A2 : Option Addr} {c1 c2 : Nat} (h : MetIn W m A1 A2 c1 c2) : Held (fun b => b < W.heap.size) (metR m [.int .i64 m.id, .string m.lib, .slice A1 m.pars.length c1, .int .i64 m.result.kind, .string m.result.name, .int .i64 m.result.lo, .int .i64 m.result.hi, .slice A2 m.result.args.length c2]) W := by
  obtain ⟨G1, g1⟩ := h.h2
  obtain ⟨G2, g2⟩ := h.h4
  exact metR.mk h.h1 g1.here h.h3 g2.here
end Go.Proofs.YtepnmejahbiacaaGreat
set_option linter.unusedVariables false
set_option linter.unusedSimpArgs false
namespace Go.Proofs.YtepnmejahbiacaaGreat
open Go.RowKit
open Classical in
/-- What TypePrecedes returns. -/
noncomputable def tpR (l : List CI) (v : Tag) (s t : Ty) : Bool := decide (HasOk l v s) && decide (HasOk l v t) && decide (cmpT l (cplAt l v) s t = 1)
theorem tpR_iff {l : List CI} {v : Tag} {s t : Ty} : tpR l v s t = true ↔ HasOk l v s ∧ HasOk l v t ∧ cmpT l (cplAt l v) s t = 1 := by
  unfold tpR
  simp only [Bool.and_eq_true, decide_eq_true_eq, and_assoc]
open Classical in
/-- Within. -/
noncomputable def withinR (l : List CI) (s t : Ty) : Bool := decide (LookOk l) && decide (validErr l s = 0) && decide (validErr l t = 0) && withinB l s t
theorem withinR_ok {l : List CI} {s t : Ty} (h : LookOk l) (hs : validErr l s = 0) (ht : validErr l t = 0) : withinR l s t = withinB l s t := by
  unfold withinR; simp [h, hs, ht]
end Go.Proofs.YtepnmejahbiacaaGreat
set_option linter.unusedVariables false
set_option linter.unusedSimpArgs false
namespace Go.Proofs.YtepnmejahbiacaaGreat
open Go.RowKit
/-- A type as an argument: its cells are there. -/
structure TyIn (W : World) (t : Ty) (A : Option Addr) (c : Nat) : Prop where
  h1 : t.args.length ≤ c
  h2 : ∃ G, Held G (Typs A t.args) W
  hs : TySmall t
theorem TyIn.keep {W V : World} {t : Ty} {A : Option Addr} {c : Nat} (h : TyIn W t A c) (b : Below W.heap.size W V) : TyIn V t A c := ⟨h.h1, h.h2.imp fun _ h => h.keep (Keep.all b), h.hs⟩
/-- A hierarchy as an argument. -/
structure HiIn (W : World) (AH : Option Addr) (cH : Nat) (l : List CI) : Prop where
  h : ∃ G, Held G (CIs AH l) W
  hcH : l.length ≤ cH
  ol : ∀ x ∈ l, ciOk x
  hl : l.length ≤ 1000000
theorem HiIn.keep {W V : World} {AH : Option Addr} {cH : Nat} {l : List CI} (h : HiIn W AH cH l) (b : Below W.heap.size W V) : HiIn V AH cH l := ⟨h.h.imp fun _ h => h.keep (Keep.all b), h.hcH, h.ol, h.hl⟩
theorem Asks.hi {AH : Option Addr} {cH : Nat} {l : List CI} {A : Option Addr} {ms : List Meth} {AT : Option Addr} {ts : List Tag} {W : World} (q : Asks AH cH l A ms AT ts W) : HiIn W AH cH l := ⟨q.h, q.hcH, q.ol, q.hl⟩
set_option maxHeartbeats 16000000 in
set_option maxRecDepth 100000 in
theorem typePrecedes_calls (AH : Option Addr) (cH : Nat) (l : List CI) (s t : Ty) (As At : Option Addr) (cs ct : Nat) (v : Tag) (W : World) (hi : HiIn W AH cH l) (hs : TyIn W s As cs) (ht : TyIn W t At ct) :
    Calls Tryz.prog 18 #[.slice AH l.length cH, tyV s As cs, tyV t At ct, tagV v] W fun e W' => e = .returned (.bool (tpR l v s t)) ∧ Below W.heap.size W W' := by
  obtain ⟨Wa, hWa⟩ : ∃ Wa, Wa = W.alloc (.cells #[.int .i64 s.kind, .string s.name, .int .i64 s.lo, .int .i64 s.hi, .slice As s.args.length cs] 36) := ⟨_, rfl⟩
  obtain ⟨Wb, hWb⟩ : ∃ Wb, Wb = Wa.alloc (.cells #[.int .i64 t.kind, .string t.name, .int .i64 t.lo, .int .i64 t.hi, .slice At t.args.length ct] 36) := ⟨_, rfl⟩
  obtain ⟨W1, hW1⟩ : ∃ W1, W1 = Wb.alloc (.cells #[.int .i64 v.kind, .int .i64 v.num, .string v.name] 39) := ⟨_, rfl⟩
  have za : Wa.heap.size = W.heap.size + 1 := by rw [hWa]; simp
  have zb : Wb.heap.size = W.heap.size + 2 := by rw [hWb]; simp [za]
  have b0 : Below W.heap.size W Wa := by rw [hWa]; exact (Below.refl _ W).alloc (Nat.le_refl _) _
  have ba : Below Wa.heap.size Wa Wb := by rw [hWb]; exact (Below.refl _ Wa).alloc (Nat.le_refl _) _
  have bb : Below Wb.heap.size Wb W1 := by rw [hW1]; exact (Below.refl _ Wb).alloc (Nat.le_refl _) _
  have b1 : Below W.heap.size W W1 := below_step (below_step b0 ba) bb
  have xs : ∀ j u, [Value.int .i64 s.kind, .string s.name, .int .i64 s.lo, .int .i64 s.hi, .slice As s.args.length cs][j]? = some u → W1.cell? ⟨W.heap.size, j, none⟩ = some u := fun j u hj => cell_all (by rw [hWa]; exact cell_new W _ _ _ rfl j u hj) (below_step ba bb)
  have xt : ∀ j u, [Value.int .i64 t.kind, .string t.name, .int .i64 t.lo, .int .i64 t.hi, .slice At t.args.length ct][j]? = some u → W1.cell? ⟨W.heap.size + 1, j, none⟩ = some u := fun j u hj => cell_all (by rw [hWb]; exact cell_new Wa _ _ _ za.symm j u hj) bb
  have xv : ∀ j u, [Value.int .i64 v.kind, .int .i64 v.num, .string v.name][j]? = some u → W1.cell? ⟨W.heap.size + 2, j, none⟩ = some u := fun j u hj => by rw [hW1]; exact cell_new Wb _ _ _ zb.symm j u hj
  have XS := Lib.hid xs
  have XT := Lib.hid xt
  have XV := Lib.hid xv
  have HI := Lib.hid hi
  have HS := Lib.hid hs
  have HT := Lib.hid ht
  have HCT : Hid (∀ V, Below W.heap.size W V → Calls Tryz.prog 46 #[.slice AH l.length cH, tagV v] V fun e V' => Below V.heap.size V V' ∧ ((¬ LookOk l ∧ e = .returned (.int .i64 80)) ∨ (LookOk l ∧ e = .returned (.int .i64 (tagErr l v))))) := Lib.hid (fun V hv => by
    obtain ⟨G, h⟩ := (HI.out.keep hv).h
    exact CheckTag_calls AH cH l v V HI.out.hcH G h HI.out.ol HI.out.hl)
  have HHA : Hid (∀ V x A c, Below W.heap.size W V → TyIn W x A c → Calls Tryz.prog 53 #[.slice AH l.length cH, tagV v, tyV x A c] V fun e V' => Below V.heap.size V V' ∧ ((HasOk l v x ∧ e = .returned (.bool true)) ∨ (¬ HasOk l v x ∧ e = .returned (.bool false)))) := Lib.hid (fun V x A c hv hx => by
    obtain ⟨G, h⟩ := (HI.out.keep hv).h
    obtain ⟨G2, h2⟩ := (hx.keep hv).h2
    exact Has_calls AH cH l v x A c V HI.out.hcH G h HI.out.ol HI.out.hl G2 h2 hx.h1 hx.hs)
  have HR : Hid (tpR l v s t = true ↔ HasOk l v s ∧ HasOk l v t ∧ cmpT l (cplAt l v) s t = 1) := Lib.hid tpR_iff
  have HF : Hid (∀ (P : Prop), (tpR l v s t = true → P) → ¬ P → tpR l v s t = false) := Lib.hid (fun P h1 h2 => by
    cases h : tpR l v s t with
    | false => rfl
    | true => exact (h2 (h1 h)).elim)
  clear xs xt xv hi hs ht b0 ba bb za zb
  subst hW1 hWb hWa
  have c0 := XV.out 0 _ rfl
  have c1 := XV.out 1 _ rfl
  have c2 := XV.out 2 _ rfl
  go_enter Tryz.func18, Tryz.ntmps18
  go_wp2_with (fail)
  refine (HCT.out _ b1).mono ?_
  clear HCT
  rintro e V ⟨hbv, hE⟩
  have q1 := below_step b1 hbv
  by_cases hok : LookOk l ∧ tagOk l v = true
  rotate_left
  · have HE : Hid (tpR l v s t = false) := Lib.hid (HF.out _ (fun h => ⟨(HR.out.1 h).1.1, (HR.out.1 h).1.2.1⟩) hok)
    obtain ⟨ce, rfl, hce⟩ : ∃ ce, e = .returned (.int .i64 ce) ∧ ce ≠ 0 := by
      rcases hE with ⟨_, rfl⟩ | ⟨q, rfl⟩
      · exact ⟨_, rfl, by decide⟩
      · refine ⟨_, rfl, ?_⟩
        unfold tagErr
        rw [if_neg (fun h => hok ⟨q, h⟩)]
        decide
    have t1 : (ce != 0) = true := by rw [bne_iff_ne]; exact hce
    clear hE hok hce
    go_wp2
    go_ret
    exact ⟨(by rw [HE.out]; try rfl), q1⟩
  obtain rfl : e = .returned (.int .i64 0) := by
    rcases hE with ⟨q, rfl⟩ | ⟨q, rfl⟩
    · exact (q hok.1).elim
    · unfold tagErr; rw [if_pos hok.2]
  have HOK := Lib.hid hok
  clear hE hok c0 c1 c2
  have s0 := cell_all (XS.out 0 _ rfl) hbv
  have s1 := cell_all (XS.out 1 _ rfl) hbv
  have s2 := cell_all (XS.out 2 _ rfl) hbv
  have s3 := cell_all (XS.out 3 _ rfl) hbv
  have s4 := cell_all (XS.out 4 _ rfl) hbv
  have c0 := cell_all (XV.out 0 _ rfl) hbv
  have c1 := cell_all (XV.out 1 _ rfl) hbv
  have c2 := cell_all (XV.out 2 _ rfl) hbv
  go_wp2_with (fail)
  refine (HHA.out V s As cs q1 HS.out).mono ?_
  rintro e V2 ⟨hb2, (⟨h1, rfl⟩ | ⟨h1, rfl⟩)⟩
  rotate_left
  · have HE : Hid (tpR l v s t = false) := Lib.hid (HF.out _ (fun h => (HR.out.1 h).1) h1)
    have q2 := below_step q1 hb2
    clear h1
    go_wp2
    go_ret
    exact ⟨(by rw [HE.out]; try rfl), q2⟩
  have H1 := Lib.hid h1
  have q2 := below_step q1 hb2
  have hv2 := below_step hbv hb2
  clear h1 s0 s1 s2 s3 s4 c0 c1 c2
  have t0 := cell_all (XT.out 0 _ rfl) hv2
  have t1 := cell_all (XT.out 1 _ rfl) hv2
  have t2 := cell_all (XT.out 2 _ rfl) hv2
  have t3 := cell_all (XT.out 3 _ rfl) hv2
  have t4 := cell_all (XT.out 4 _ rfl) hv2
  have c0 := cell_all (XV.out 0 _ rfl) hv2
  have c1 := cell_all (XV.out 1 _ rfl) hv2
  have c2 := cell_all (XV.out 2 _ rfl) hv2
  go_wp2_with (fail)
  refine (HHA.out V2 t At ct q2 HT.out).mono ?_
  clear HHA
  rintro e V3 ⟨hb3, (⟨h2, rfl⟩ | ⟨h2, rfl⟩)⟩
  rotate_left
  · have HE : Hid (tpR l v s t = false) := Lib.hid (HF.out _ (fun h => (HR.out.1 h).2.1) h2)
    have q3 := below_step q2 hb3
    clear h2
    go_wp2
    go_ret
    exact ⟨(by rw [HE.out]; try rfl), q3⟩
  have q3 := below_step q2 hb3
  have hv3 := below_step hv2 hb3
  have HE : Hid (tpR l v s t = (cmpT l (cplAt l v) s t == 1)) := Lib.hid (by
    rw [Bool.eq_iff_iff, HR.out, beq_iff_eq]
    exact ⟨fun h => h.2.2, fun h => ⟨H1.out, h2, h⟩⟩)
  clear h2 t0 t1 t2 t3 t4 c0 c1 c2
  have s0 := cell_all (XS.out 0 _ rfl) hv3
  have s1 := cell_all (XS.out 1 _ rfl) hv3
  have s2 := cell_all (XS.out 2 _ rfl) hv3
  have s3 := cell_all (XS.out 3 _ rfl) hv3
  have s4 := cell_all (XS.out 4 _ rfl) hv3
  have t0 := cell_all (XT.out 0 _ rfl) hv3
  have t1 := cell_all (XT.out 1 _ rfl) hv3
  have t2 := cell_all (XT.out 2 _ rfl) hv3
  have t3 := cell_all (XT.out 3 _ rfl) hv3
  have t4 := cell_all (XT.out 4 _ rfl) hv3
  have c0 := cell_all (XV.out 0 _ rfl) hv3
  have c1 := cell_all (XV.out 1 _ rfl) hv3
  have c2 := cell_all (XV.out 2 _ rfl) hv3
  obtain ⟨V4, hV4⟩ : ∃ V4, V4 = (V3.alloc (.cells #[.int .i64 v.kind, .int .i64 v.num, .string v.name] 39)).drew := ⟨_, rfl⟩
  have b4 : Below V3.heap.size V3 V4 := by rw [hV4]; exact ((Below.refl _ V3).alloc (Nat.le_refl _) _).drew
  have HOP : Hid (Calls Tryz.prog 54 #[.slice AH l.length cH, .slice (some ⟨V3.heap.size, 0, none⟩) 1 1] (V3.alloc (.cells #[.int .i64 v.kind, .int .i64 v.num, .string v.name] 39)).drew fun e U' => ∃ cp A2 c2, e = .returned (.pointer (some ⟨cp, 0, none⟩)) ∧ Below V3.heap.size V3 U' ∧ Below V4.heap.size V4 U' ∧ OpenAt cp AH cH l (some ⟨V3.heap.size, 0, none⟩) 1 [v] A2 c2 U') := Lib.hid (by
    have hU := below_step q3 b4
    obtain ⟨G, h⟩ := (HI.out.keep hU).h
    have hT := rows1 (R := tagR) (n := V3.heap.size) (w := V3) (G := fun _ => True) (x := v) 39 rfl (tagR_stable _ _ _ rfl) rfl
    have hT4 := hT.keep (Keep.drew _ _)
    rw [← hV4]
    refine (opened_calls AH cH l (some ⟨V3.heap.size, 0, none⟩) 1 [v] V4 G h HI.out.hcH HI.out.ol HI.out.hl _ (by rw [hV4]; exact hT4) (by simp) HOK.out.1 (by simpa using HOK.out.2)).mono ?_
    rintro e w' ⟨cp, A2, c2, rfl, z1, z2, z3, z4, z5, z6⟩
    exact ⟨cp, A2, c2, rfl, below_step b4 z1, z1, z3, z4, z5, z6⟩)
  rw [hV4] at HOP
  clear hV4
  have HCM : Hid (∀ U cp AT cT A2 c2, Below V3.heap.size V3 U → OpenAt cp AH cH l AT cT [v] A2 c2 U → Calls Tryz.prog 55 #[.pointer (some ⟨cp, 0, none⟩), tyV s As cs, tyV t At ct, .int .i64 0] U fun e U' => e = .returned (.int .i64 (cmpT l (cplAt l v) s t)) ∧ Below U.heap.size U U') := Lib.hid (fun U cp AT cT A2 c2 hu ho => by
    have hU := below_step q3 hu
    obtain ⟨G, h⟩ := (HI.out.keep hU).h
    obtain ⟨Gs, h1⟩ := (HS.out.keep hU).h2
    obtain ⟨Gt, h2⟩ := (HT.out.keep hU).h2
    exact compared_calls cp AH cH l AT cT [v] A2 c2 U ho G h HI.out.hl HI.out.ol (fun t _ => cplAt_short HOK.out.1 t) (by simp) 0 v rfl s t As At cs ct Gs Gt h1 h2 HS.out.hs.1 HT.out.hs.1)
  have HOK' := HOK
  clear HI HS HT HR HF H1 HOK XS XT XV b4
  go_wp2_with (fail)
  go_region_held3 (fun w' => Below V3.heap.size V3 w' ∧ w'.cell? ⟨W.heap.size, 0, none⟩ = some (.int .i64 s.kind) ∧ w'.cell? ⟨W.heap.size, 1, none⟩ = some (.string s.name) ∧ w'.cell? ⟨W.heap.size, 2, none⟩ = some (.int .i64 s.lo) ∧ w'.cell? ⟨W.heap.size, 3, none⟩ = some (.int .i64 s.hi) ∧ w'.cell? ⟨W.heap.size, 4, none⟩ = some (.slice As s.args.length cs) ∧
      w'.cell? ⟨W.heap.size + 1, 0, none⟩ = some (.int .i64 t.kind) ∧ w'.cell? ⟨W.heap.size + 1, 1, none⟩ = some (.string t.name) ∧ w'.cell? ⟨W.heap.size + 1, 2, none⟩ = some (.int .i64 t.lo) ∧ w'.cell? ⟨W.heap.size + 1, 3, none⟩ = some (.int .i64 t.hi) ∧ w'.cell? ⟨W.heap.size + 1, 4, none⟩ = some (.slice At t.args.length ct) ∧
      w'.cell? ⟨W.heap.size + 2, 0, none⟩ = some (.int .i64 v.kind) ∧ w'.cell? ⟨W.heap.size + 2, 1, none⟩ = some (.int .i64 v.num) ∧ w'.cell? ⟨W.heap.size + 2, 2, none⟩ = some (.string v.name))
    (first
      | exact ⟨(Below.refl _ V3).drew, s0, s1, s2, s3, s4, t0, t1, t2, t3, t4, c0, c1, c2⟩
      | (go_split_ands; exact ⟨below_step (by assumption) hbu, cell_all (by assumption) hbu, cell_all (by assumption) hbu, cell_all (by assumption) hbu, cell_all (by assumption) hbu, cell_all (by assumption) hbu, cell_all (by assumption) hbu, cell_all (by assumption) hbu, cell_all (by assumption) hbu, cell_all (by assumption) hbu, cell_all (by assumption) hbu, cell_all (by assumption) hbu, cell_all (by assumption) hbu, cell_all (by assumption) hbu⟩)
      | (go_split_ands; exact ⟨below_step (by assumption) ((Below.refl _ _).alloc (Nat.le_refl _) _), alloc_cell' (by assumption), alloc_cell' (by assumption), alloc_cell' (by assumption), alloc_cell' (by assumption), alloc_cell' (by assumption), alloc_cell' (by assumption), alloc_cell' (by assumption), alloc_cell' (by assumption), alloc_cell' (by assumption), alloc_cell' (by assumption), alloc_cell' (by assumption), alloc_cell' (by assumption), alloc_cell' (by assumption)⟩)
      | (go_split_ands; exact ⟨hbu3, cell_all (by assumption) hbu2, cell_all (by assumption) hbu2, cell_all (by assumption) hbu2, cell_all (by assumption) hbu2, cell_all (by assumption) hbu2, cell_all (by assumption) hbu2, cell_all (by assumption) hbu2, cell_all (by assumption) hbu2, cell_all (by assumption) hbu2, cell_all (by assumption) hbu2, cell_all (by assumption) hbu2, cell_all (by assumption) hbu2, cell_all (by assumption) hbu2⟩))
    (first
      | ((go_at_call 54; refine HOP.out.mono ?_; rintro e U ⟨cp, A3, c3, rfl, hbu3, hbu2, ho⟩))
      | ((go_at_call 55; refine (HCM.out _ cp _ _ A3 c3 (by go_split_ands; assumption) (by assumption)).mono ?_; rintro e U2 ⟨rfl, hbu⟩)))
  all_goals
    have qe : Below V3.heap.size V3 U2 := by go_split_ands; assumption
    have qf := below_step q3 qe
    generalize cmpT l (cplAt l v) s t = cm at HE ⊢
    clear HOP HCM
    go_wp2
    go_ret
    exact ⟨(by rw [HE.out]; try rfl), qf⟩
end Go.Proofs.YtepnmejahbiacaaGreat
set_option linter.unusedVariables false
set_option linter.unusedSimpArgs false
namespace Go.Proofs.YtepnmejahbiacaaGreat
open Go.RowKit
set_option maxHeartbeats 16000000 in
set_option maxRecDepth 100000 in
theorem withinF_calls (AH : Option Addr) (cH : Nat) (l : List CI) (s t : Ty) (As At : Option Addr) (cs ct : Nat) (W : World) (hi : HiIn W AH cH l) (hs : TyIn W s As cs) (ht : TyIn W t At ct) :
    Calls Tryz.prog 16 #[.slice AH l.length cH, tyV s As cs, tyV t At ct] W fun e W' => e = .returned (.bool (withinR l s t)) ∧ Below W.heap.size W W' := by
  obtain ⟨Wa, hWa⟩ : ∃ Wa, Wa = W.alloc (.cells #[.int .i64 s.kind, .string s.name, .int .i64 s.lo, .int .i64 s.hi, .slice As s.args.length cs] 36) := ⟨_, rfl⟩
  obtain ⟨W1, hW1⟩ : ∃ W1, W1 = Wa.alloc (.cells #[.int .i64 t.kind, .string t.name, .int .i64 t.lo, .int .i64 t.hi, .slice At t.args.length ct] 36) := ⟨_, rfl⟩
  have za : Wa.heap.size = W.heap.size + 1 := by rw [hWa]; simp
  have b0 : Below W.heap.size W Wa := by rw [hWa]; exact (Below.refl _ W).alloc (Nat.le_refl _) _
  have ba : Below Wa.heap.size Wa W1 := by rw [hW1]; exact (Below.refl _ Wa).alloc (Nat.le_refl _) _
  have b1 : Below W.heap.size W W1 := below_step b0 ba
  have xs : ∀ j u, [Value.int .i64 s.kind, .string s.name, .int .i64 s.lo, .int .i64 s.hi, .slice As s.args.length cs][j]? = some u → W1.cell? ⟨W.heap.size, j, none⟩ = some u := fun j u hj => cell_all (by rw [hWa]; exact cell_new W _ _ _ rfl j u hj) ba
  have xt : ∀ j u, [Value.int .i64 t.kind, .string t.name, .int .i64 t.lo, .int .i64 t.hi, .slice At t.args.length ct][j]? = some u → W1.cell? ⟨W.heap.size + 1, j, none⟩ = some u := fun j u hj => by rw [hW1]; exact cell_new Wa _ _ _ za.symm j u hj
  have XS := Lib.hid xs
  have XT := Lib.hid xt
  have HI := Lib.hid hi
  have HS := Lib.hid hs
  have HT := Lib.hid ht
  have HVA : Hid (∀ V x A c, Below W.heap.size W V → TyIn W x A c → Calls Tryz.prog 25 #[.slice AH l.length cH, tyV x A c] V fun e V' => ∃ z, e = .returned (.int .i64 z) ∧ Below V.heap.size V V' ∧ (z = 0 ↔ LookOk l ∧ validErr l x = 0)) := Lib.hid (fun V x A c hv hx => by
    obtain ⟨G, h⟩ := (HI.out.keep hv).h
    obtain ⟨G2, h2⟩ := (hx.keep hv).h2
    refine (Valid_calls AH cH l x A c V HI.out.hcH G h HI.out.ol HI.out.hl G2 h2 hx.h1 hx.hs).mono ?_
    rintro e V' ⟨q, (⟨q1, rfl⟩ | ⟨q1, rfl⟩)⟩
    · exact ⟨_, rfl, q, fun e => absurd e (by decide), fun e => (q1 e.1).elim⟩
    · exact ⟨_, rfl, q, fun e => ⟨q1, e⟩, fun e => e.2⟩)
  have HWI : Hid (∀ V, Below W.heap.size W V → Calls Tryz.prog 51 #[.slice AH l.length cH, tyV s As cs, tyV t At ct] V fun e V' => e = .returned (.bool (withinB l s t)) ∧ Below V.heap.size V V') := Lib.hid (fun V hv => by
    obtain ⟨G, h⟩ := (HI.out.keep hv).h
    obtain ⟨G1, h1⟩ := (HS.out.keep hv).h2
    obtain ⟨G2, h2⟩ := (HT.out.keep hv).h2
    exact within_calls AH cH l s t As At cs ct V G h HI.out.hl HI.out.ol G1 G2 h1 h2 HS.out.hs.1 HT.out.hs.1)
  have HR : Hid (withinR l s t = true ↔ LookOk l ∧ validErr l s = 0 ∧ validErr l t = 0 ∧ withinB l s t = true) := Lib.hid (by unfold withinR; simp [and_assoc])
  have HF : Hid (∀ (P : Prop), (withinR l s t = true → P) → ¬ P → withinR l s t = false) := Lib.hid (fun P h1 h2 => by
    cases h : withinR l s t with
    | false => rfl
    | true => exact (h2 (h1 h)).elim)
  clear xs xt hi hs ht b0 ba za
  subst hW1 hWa
  have s0 := XS.out 0 _ rfl
  have s1 := XS.out 1 _ rfl
  have s2 := XS.out 2 _ rfl
  have s3 := XS.out 3 _ rfl
  have s4 := XS.out 4 _ rfl
  go_enter Tryz.func16, Tryz.ntmps16
  go_wp2_with (fail)
  refine (HVA.out _ s As cs b1 HS.out).mono ?_
  rintro e V ⟨z, rfl, hbv, hz⟩
  have q1 := below_step b1 hbv
  clear s0 s1 s2 s3 s4
  by_cases hz0 : z = 0
  rotate_left
  · have HE : Hid (withinR l s t = false) := Lib.hid (HF.out _ (fun h => ⟨(HR.out.1 h).1, (HR.out.1 h).2.1⟩) (fun h => hz0 (hz.2 h)))
    have t1 : (z == 0) = false := beq_eq_false_iff_ne.2 hz0
    clear hz hz0
    go_wp2
    go_ret
    exact ⟨(by rw [HE.out]; try rfl), q1⟩
  have H1 := Lib.hid (hz.1 hz0)
  subst hz0
  clear hz
  have t0 := cell_all (XT.out 0 _ rfl) hbv
  have t1 := cell_all (XT.out 1 _ rfl) hbv
  have t2 := cell_all (XT.out 2 _ rfl) hbv
  have t3 := cell_all (XT.out 3 _ rfl) hbv
  have t4 := cell_all (XT.out 4 _ rfl) hbv
  go_wp2_with (fail)
  refine (HVA.out V t At ct q1 HT.out).mono ?_
  clear HVA
  rintro e V2 ⟨z, rfl, hb2, hz⟩
  have q2 := below_step q1 hb2
  have hv2 := below_step hbv hb2
  clear t0 t1 t2 t3 t4
  by_cases hz0 : z = 0
  rotate_left
  · have HE : Hid (withinR l s t = false) := Lib.hid (HF.out _ (fun h => ⟨(HR.out.1 h).1, (HR.out.1 h).2.2.1⟩) (fun h => hz0 (hz.2 h)))
    have t1 : (z == 0) = false := beq_eq_false_iff_ne.2 hz0
    clear hz hz0
    go_wp2
    go_ret
    exact ⟨(by rw [HE.out]; try rfl), q2⟩
  have H2 := Lib.hid (hz.1 hz0)
  subst hz0
  clear hz
  have HE : Hid (withinR l s t = withinB l s t) := Lib.hid (withinR_ok H1.out.1 H1.out.2 H2.out.2)
  have s0 := cell_all (XS.out 0 _ rfl) hv2
  have s1 := cell_all (XS.out 1 _ rfl) hv2
  have s2 := cell_all (XS.out 2 _ rfl) hv2
  have s3 := cell_all (XS.out 3 _ rfl) hv2
  have s4 := cell_all (XS.out 4 _ rfl) hv2
  have t0 := cell_all (XT.out 0 _ rfl) hv2
  have t1 := cell_all (XT.out 1 _ rfl) hv2
  have t2 := cell_all (XT.out 2 _ rfl) hv2
  have t3 := cell_all (XT.out 3 _ rfl) hv2
  have t4 := cell_all (XT.out 4 _ rfl) hv2
  have HW2 := Lib.hid (HWI.out V2 q2)
  clear HWI HI HS HT HR HF H1 H2
  generalize withinB l s t = wb at HW2 HE
  go_wp2_with (fail)
  refine HW2.out.mono ?_
  clear HW2
  rintro e V3 ⟨rfl, hb3⟩
  have q3 := below_step q2 hb3
  go_wp2
  go_ret
  exact ⟨(by rw [HE.out]; try rfl), q3⟩
end Go.Proofs.YtepnmejahbiacaaGreat
