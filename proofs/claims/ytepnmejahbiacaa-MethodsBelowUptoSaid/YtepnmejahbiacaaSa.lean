/- The law's examples, computed. No program in sight. -/
import Derived.Test.YtepnmejahbiacaaHb
import Derived.Test.YtepnmejahbiacaaHe
import Derived.Test.YtepnmejahbiacaaCf
set_option linter.unusedVariables false
set_option linter.unusedSimpArgs false
namespace Go.Proofs.Ytepnmejahbiacaa
open Go.RowKit

def appC (l : List CI) (ts : List Tag) (m : Meth) : Bool := (List.range m.pars.length).all fun i => match m.pars[i]?, ts[i]? with
  | some p, some t => hasTF l t p.type
  | _, _ => true
theorem appB_eq {l : List CI} {ts : List Tag} {m : Meth} (hL : LookOk l) (ht : ∀ t ∈ ts, tagOk l t = true) (hv : ∀ p ∈ m.pars, validErr l p.type = 0) : appB l ts m = appC l ts m := by
  cases hc : appC l ts m with
  | true =>
    refine appB_true fun i p t hp htt => ?_
    have := List.all_eq_true.1 hc i (List.mem_range.2 (List.getElem?_eq_some_iff.1 hp).1)
    rw [hp, htt] at this
    exact ⟨hL, ht t (List.mem_of_getElem? htt), hv p (List.mem_of_getElem? hp), this⟩
  | false =>
    refine appB_false fun hA => ?_
    obtain ⟨i, hi, e⟩ := List.all_eq_false.1 hc
    have hi' := List.mem_range.1 hi
    rw [List.getElem?_eq_getElem hi'] at e
    cases ht2 : ts[i]? with
    | none => rw [ht2] at e; simp at e
    | some t =>
      rw [ht2] at e
      exact e (hA i _ t (List.getElem?_eq_getElem hi') ht2).2.2.2
def orderC (l : List CI) (ms : List Meth) (ts : List Tag) : List Meth × List Meth := orderG (precB l ts) (ms.filter (appC l ts)).length (ms.filter (appC l ts))
def chkB (l : List CI) (ms : List Meth) (ts : List Tag) : Bool := decide (ms.length ≤ 300) && AreMs l ms && decide (ts.length ≤ 6) && (decide (ms.length = 0) || decide ((ms[0]?.map fun m => m.pars.length).getD 0 = ts.length)) && ts.all (tagOk l)
theorem chk_zero {l : List CI} {ms : List Meth} {ts : List Tag} (hL : LookOk l) (h : chkB l ms ts = true) : checkAllE l ms ts = 0 := by
  unfold chkB at h
  simp only [Bool.and_eq_true, Bool.or_eq_true, decide_eq_true_eq] at h
  obtain ⟨⟨⟨⟨h1, h2⟩, h3⟩, h4⟩, h5⟩ := h
  rw [checkAllE_tags hL (by omega) (by
    rintro (q | q | ⟨q, q2⟩)
    · rw [h2] at q; cases q
    · omega
    · rcases h4 with h4 | h4
      · omega
      · exact q2 h4), h5]; rfl
theorem areMs_valid {l : List CI} {ms : List Meth} (h : AreMs l ms = true) : ∀ m ∈ ms, ∀ p ∈ m.pars, validErr l p.type = 0 := fun m hm p hp => by
  unfold AreMs at h
  rw [Bool.and_eq_true] at h
  have := List.all_eq_true.1 h.2 m hm
  unfold parsOk at this
  rw [Bool.and_eq_true] at this
  have := List.all_eq_true.1 this.2 p hp
  simpa using this
theorem ordB_eq {l : List CI} {ms : List Meth} {ts : List Tag} (hz : checkAllE l ms ts = 0) : ordB l ts ms = orderC l ms ts := by
  obtain ⟨h1, _, h3, _, _, h6⟩ := checkAllE_zero hz
  have e : ms.filter (appB l ts) = ms.filter (appC l ts) := List.filter_congr fun m hm => appB_eq h1 h6 (areMs_valid h3 m hm)
  unfold ordB orderC
  rw [e]
theorem orderR_eq {l : List CI} {ms : List Meth} {ts : List Tag} (hz : checkAllE l ms ts = 0) : orderR l ms ts = ((orderC l ms ts).1.map (·.id), decide (0 < (orderC l ms ts).2.length)) := by
  unfold orderR; rw [if_pos hz, ordB_eq hz]

def tagC : Tag := ⟨5, 0, nC⟩
def tagI : Tag := ⟨1, 5, ⟨#[]⟩⟩
def tagB : Tag := ⟨2, 1, ⟨#[]⟩⟩
def mA : Meth := met1 0 (clsT nA)
def mB : Meth := met1 1 (clsT nB)
def mO : Meth := met1 2 (clsT nObj)
def tyU : Ty := .mk 5 ⟨#[]⟩ 0 0 [clsT nA, clsT nInteger]
def mU : Meth := met1 3 tyU
theorem ex1z : checkAllE h3L [mA, mB, mO] [tagC] = 0 := chk_zero look3 (by kernel_rfl)
theorem ex2z : checkAllE h3L [mB, mU] [tagC] = 0 := chk_zero look3 (by kernel_rfl)
theorem ex3z : checkAllE h3L [mO, mU] [tagI] = 0 := chk_zero look3 (by kernel_rfl)
theorem ex4z : checkAllE h3L [mA] [tagB] = 0 := chk_zero look3 (by kernel_rfl)
theorem ex1 : orderR h3L [mA, mB, mO] [tagC] = ([0, 1, 2], false) := by rw [orderR_eq ex1z]; kernel_rfl
theorem ex2 : orderR h3L [mB, mU] [tagC] = ([], true) := by rw [orderR_eq ex2z]; kernel_rfl
theorem ex3 : orderR h3L [mO, mU] [tagI] = ([3, 2], false) := by rw [orderR_eq ex3z]; kernel_rfl
theorem ex4 : firstR h3L [mA] [tagB] = (0, 1) := by
  have : orderR h3L [mA] [tagB] = ([], false) := by rw [orderR_eq ex4z]; kernel_rfl
  unfold firstR; rw [this]; rfl
theorem ex5 : (ordB h3L [tagC] [mB, mU]).2.map (·.id) = [1, 3] := by rw [ordB_eq ex2z]; kernel_rfl
theorem ex5p : (orderC h3L [mB, mU] [tagC]).2 = [mB, mU] := by kernel_rfl
theorem ex5c : precB h3L [tagC] mB mU = false ∧ precB h3L [tagC] mU mB = false := ⟨by kernel_rfl, by kernel_rfl⟩
/-- The conflict of the example. -/
theorem ex5e {a b : Meth} (h : Clash (precB h3L [tagC]) (ordB h3L [tagC] [mB, mU]).2 a b) : min a.id b.id = 1 ∧ max a.id b.id = 3 := by
  rw [ordB_eq ex2z, ex5p] at h
  obtain ⟨i, k, hk, h1, h2, _, _⟩ := h
  match i, k with
  | 0, _ => omega
  | 1, 0 => cases h1; cases h2; exact ⟨rfl, rfl⟩
  | 1, _ + 1 => omega
  | _ + 2, _ => simp at h1
theorem ex5h : Clash (precB h3L [tagC]) (ordB h3L [tagC] [mB, mU]).2 mU mB := by
  rw [ordB_eq ex2z, ex5p]
  exact ⟨1, 0, by omega, rfl, rfl, ex5c.2, ex5c.1⟩
theorem tySmall_cls (n : ByteArray) : TySmall (clsT n) := ⟨rfl, by show (clsT n).count ≤ _; simp [clsT, Ty.count, Ty.counts]⟩
theorem tySmall_U : TySmall tyU := ⟨rfl, by show tyU.count ≤ _; simp [tyU, clsT, Ty.count, Ty.counts]⟩

/-- A row that is laid at once. -/
theorem Own.ofEnc {α : Type} {R : α → List Value → World → Prop} {sz n : Nat} {G : Nat → Prop} {L : List α} {xs : List Value} {w : World} (T : TypeId) (hn : n = w.heap.size) (he : Enc (fun x cs => Held G (R x cs) w) sz L xs) (hl : L.length ≤ 1000000) :
    Own R T sz n G (.slice (some ⟨n, 0, none⟩) L.length L.length) L (w.alloc (.cells xs.toArray T)) := by
  subst hn
  refine ⟨xs, ⟨he.length, .inr ⟨_, L.length, xs.toArray, rfl, Nat.le_refl _, heap_alloc_new w _, Nat.le_refl _, by simp only [maxLen]; omega, by simp [he.length], by simp [← he.length]⟩⟩, he.imp fun x cs hx => hx.keep (Keep.alloc _ _ _)⟩
theorem rowsE {α : Type} {R : α → List Value → World → Prop} {sz n : Nat} {G : Nat → Prop} {L : List α} {xs : List Value} {w : World} (T : TypeId) (hn : n = w.heap.size) (he : Enc (fun x cs => Held G (R x cs) w) sz L xs) (hl : L.length ≤ 1000000) : Held (fun b => b < n + 1) (Slc R sz (some ⟨n, 0, none⟩) L) (w.alloc (.cells xs.toArray T)) :=
  (Own.read (Own.ofEnc T hn he hl)).2.2.mono fun b hb _ => by subst hn; simpa using hb
theorem rows1 {α : Type} {R : α → List Value → World → Prop} {sz n : Nat} {G : Nat → Prop} {x : α} {cx : List Value} {w : World} (T : TypeId) (hn : n = w.heap.size) (hx : Held G (R x cx) w) (lx : cx.length = sz) : Held (fun b => b < n + 1) (Slc R sz (some ⟨n, 0, none⟩) [x]) (w.alloc (.cells cx.toArray T)) := by
  have := rowsE T hn (Enc.snoc Enc.nil hx lx) (by simp)
  simpa using this
theorem rows2 {α : Type} {R : α → List Value → World → Prop} {sz n : Nat} {G : Nat → Prop} {x y : α} {cx cy : List Value} {w : World} (T : TypeId) (hn : n = w.heap.size) (hx : Held G (R x cx) w) (hy : Held G (R y cy) w) (lx : cx.length = sz) (ly : cy.length = sz) : Held (fun b => b < n + 1) (Slc R sz (some ⟨n, 0, none⟩) [x, y]) (w.alloc (.cells (cx ++ cy).toArray T)) := by
  have := rowsE T hn (Enc.snoc (Enc.snoc Enc.nil hx lx) hy ly) (by simp)
  simpa using this
theorem rows3 {α : Type} {R : α → List Value → World → Prop} {sz n : Nat} {G : Nat → Prop} {x y z : α} {cx cy cz : List Value} {w : World} (T : TypeId) (hn : n = w.heap.size) (hx : Held G (R x cx) w) (hy : Held G (R y cy) w) (hz : Held G (R z cz) w) (lx : cx.length = sz) (ly : cy.length = sz) (lz : cz.length = sz) : Held (fun b => b < n + 1) (Slc R sz (some ⟨n, 0, none⟩) [x, y, z]) (w.alloc (.cells (cx ++ cy ++ cz).toArray T)) := by
  have := rowsE T hn (Enc.snoc (Enc.snoc (Enc.snoc Enc.nil hx lx) hy ly) hz lz) (by simp)
  simpa using this
theorem sane_o (ms : List Meth) (t : Tag) (l : List Int) (b : Bool) (hr : orderR h3L ms [t] = (l, b)) (A : Option Addr) (c : Nat) (AM : Option Addr) (cM : Nat) (AT : Option Addr) (cT : Nat) (W : World) (q : Asks A c h3L AM ms AT [t] W) :
    Calls Try.prog 16 #[.slice A h3L.length c, .slice AM ms.length cM, .slice AT [t].length cT] W fun e W' => ∃ A' c', e = .returned (.tuple #[.slice A' l.length c', .bool b]) ∧ Held (fun b => b < W'.heap.size) (Ints A' l) W' ∧ Below W.heap.size W W' := by
  have := order_calls A c h3L AM cM ms AT cT [t] W q
  rw [hr] at this
  refine this.mono ?_
  rintro e W' ⟨v, rfl, ho, hb⟩
  obtain ⟨A', c', rfl, _, h2⟩ := ho.out
  exact ⟨A', c', rfl, h2.mono fun b hb _ => hb, hb⟩
theorem sane_f (A : Option Addr) (c : Nat) (AM : Option Addr) (cM : Nat) (AT : Option Addr) (cT : Nat) (W : World) (q : Asks A c h3L AM [mA] AT [tagB] W) :
    Calls Try.prog 31 #[.slice A h3L.length c, .slice AM 1 cM, .slice AT 1 cT] W fun e W' => e = .returned (.tuple #[.int .i64 0, .int .i64 1]) ∧ Below W.heap.size W W' := by
  have := first_calls A c h3L AM cM [mA] AT cT [tagB] W q
  rw [ex4] at this
  exact this
theorem sane_c (A : Option Addr) (c : Nat) (AM : Option Addr) (cM : Nat) (AT : Option Addr) (cT : Nat) (W : World) (q : Asks A c h3L AM [mB, mU] AT [tagC] W) :
    Calls Try.prog 32 #[.slice A h3L.length c, .slice AM 2 cM, .slice AT 1 cT] W fun e W' => ∃ A' c', e = .returned (.tuple #[.slice A' 2 c', .int .i64 0]) ∧ Held (fun b => b < W'.heap.size) (Ints A' [1, 3]) W' ∧ Below W.heap.size W W' := by
  have := conflict_calls A c h3L AM cM [mB, mU] AT cT [tagC] W q
  refine this.mono ?_
  rintro e W' ⟨hb, (⟨h, _⟩ | ⟨_, (⟨h, _⟩ | ⟨a, b, v, h, rfl, ho⟩)⟩)⟩
  · exact absurd ex2z h
  · exact absurd ex5h (h _ _)
  · obtain ⟨h1, h2⟩ := ex5e h
    rw [h1, h2] at ho
    obtain ⟨A', c', rfl, _, h2⟩ := ho.out
    exact ⟨A', c', rfl, h2.mono fun b hb _ => hb, hb⟩
/-- What is asked, of the examples. -/
theorem sane_asks {A : Option Addr} {c : Nat} {AM : Option Addr} {ms : List Meth} {AT : Option Addr} {t : Tag} {W : World} (h : ∃ G, Held G (CIs A h3L) W) (hc : h3L.length ≤ c) (hM : ∃ G, Held G (Meths AM ms) W) (hs : ∀ m ∈ ms, ∀ p ∈ m.pars, TySmall p.type) (hn : ms.length ≤ 300) (hp : ∀ m ∈ ms, m.pars.length ≤ 1000000) (hT : ∃ G, Held G (Tags AT [t]) W) :
    Asks A c h3L AM ms AT [t] W := ⟨h, hc, ciOk_of small3, by have := look3.1; omega, hM, by omega, hs, hp, hT, by simp⟩
theorem small_ms {ms : List Meth} (h : ∀ m ∈ ms, m = mA ∨ m = mB ∨ m = mO ∨ m = mU) : (∀ m ∈ ms, ∀ p ∈ m.pars, TySmall p.type) ∧ ∀ m ∈ ms, m.pars.length ≤ 1000000 := by
  constructor
  · intro m hm p hp
    rcases h m hm with rfl | rfl | rfl | rfl
    · have : p = ⟨nX, clsT nA⟩ := by simpa [mA, met1] using hp
      subst this; exact tySmall_cls _
    · have : p = ⟨nX, clsT nB⟩ := by simpa [mB, met1] using hp
      subst this; exact tySmall_cls _
    · have : p = ⟨nX, clsT nObj⟩ := by simpa [mO, met1] using hp
      subst this; exact tySmall_cls _
    · have : p = ⟨nX, tyU⟩ := by simpa [mU, met1] using hp
      subst this; exact tySmall_U
  · intro m hm
    rcases h m hm with rfl | rfl | rfl | rfl <;> simp [mA, mB, mO, mU, met1]
theorem sameInts_true (A B : Option Addr) (c d : Nat) (l : List Int) (w : World) (GA GB : Nat → Prop) (hA : Held GA (Ints A l) w) (hB : Held GB (Ints B l) w) (hl : l.length ≤ 1000000) :
    Calls Try.prog 20 #[.slice A l.length c, .slice B l.length d] w fun e w' => e = .returned (.bool true) ∧ Below w.heap.size w w' :=
  (sameInts_calls A B c d l l w GA GB hA hB hl hl).mono fun e w' ⟨h1, h2⟩ => ⟨by rw [h1, decide_eq_true rfl], h2.below _⟩
theorem ints2 {W : World} {a b : Int} (T : TypeId) : Held (fun x => x < W.heap.size + 1) (Ints (some ⟨W.heap.size, 0, none⟩) [a, b]) (W.alloc (.cells #[.int .i64 a, .int .i64 b] T)) :=
  rows2 (R := intR) (G := fun _ => True) (cx := [.int .i64 a]) (cy := [.int .i64 b]) T rfl (fun _ _ => rfl) (fun _ _ => rfl) rfl rfl
theorem ints3 {W : World} {a b d : Int} (T : TypeId) : Held (fun x => x < W.heap.size + 1) (Ints (some ⟨W.heap.size, 0, none⟩) [a, b, d]) (W.alloc (.cells #[.int .i64 a, .int .i64 b, .int .i64 d] T)) :=
  rows3 (R := intR) (G := fun _ => True) (cx := [.int .i64 a]) (cy := [.int .i64 b]) (cz := [.int .i64 d]) T rfl (fun _ _ => rfl) (fun _ _ => rfl) (fun _ _ => rfl) rfl rfl rfl
end Go.Proofs.Ytepnmejahbiacaa
