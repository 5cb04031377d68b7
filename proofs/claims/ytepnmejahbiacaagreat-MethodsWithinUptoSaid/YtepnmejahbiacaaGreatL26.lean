/- Part 26 of the proof: Pt, Pu, Pb, Pc, Sp, Wp, Wq. -/
import Derived.Test.YtepnmejahbiacaaGreatL04
import Derived.Test.YtepnmejahbiacaaGreatL05
import Derived.Test.YtepnmejahbiacaaGreatL18
import Derived.Test.YtepnmejahbiacaaGreatL07
import Derived.Test.YtepnmejahbiacaaGreatL12
import Derived.Test.YtepnmejahbiacaaGreatL13
import Derived.Test.YtepnmejahbiacaaGreatL14
import Derived.Test.YtepnmejahbiacaaGreatL15
import Derived.Test.YtepnmejahbiacaaGreatL17
import Derived.Test.YtepnmejahbiacaaGreatL21
import Derived.Test.YtepnmejahbiacaaGreatL16
import Derived.Test.YtepnmejahbiacaaGreatL06
import Derived.Test.YtepnmejahbiacaaGreatL10
import Derived.Test.YtepnmejahbiacaaGreatL11
import Derived.Test.YtepnmejahbiacaaGreatL09
import Derived.Test.YtepnmejahbiacaaGreatL03
import Derived.Test.YtepnmejahbiacaaGreatL02
import Derived.Test.YtepnmejahbiacaaGreatL01
import Derived.BigQuiet
import Derived.Carry
import Derived.Deep.DrawnRows
import Derived.Deep.Draws
import Derived.Deep.LoopGhost
import Derived.Deep.QuietTactic
import Derived.Deep.RegionHeld3
import Derived.KernelRfl
import Derived.Laws.EntriesVeiled
import Derived.Lib.Hide
import Derived.LoopIn
import Derived.LoopNIn
import Derived.Maps.AppendAt
import Derived.Maps.Own
import Derived.Maps.OwnIn
import Derived.Outline
import Derived.OwnWalkIn
import Derived.RangeFuncBound
import Derived.RangeFuncCalls
import Derived.RangeFuncLeaves
import Derived.RangeFuncNested
import Derived.Recover
import Derived.StillTailTactics
import Derived.Stop.RegionWithIn
import Derived.TacticsInMore
import Derived.Test.YtepnmejahbiacaaGreatProg
import Derived.WalkKit
import Derived.WalkSpells
import Derived.Test.YtepnmejahbiacaaGreatL20
import Derived.Deep.AppendLies
import Derived.Deep.RegionWith
import Derived.Test.YtepnmejahbiacaaGreatL08
import Derived.Deep.RegionLaw
import Derived.Lib.SliceRun
set_option linter.unusedVariables false
set_option linter.unusedSimpArgs false
namespace Go.Proofs.YtepnmejahbiacaaGreat
open Go.RowKit
theorem Chg.trans3 {S T : Nat → Prop} {a b c : World} (h : Chg S a b) (k : Chg T b c) (hs : ∀ x, T x → S x ∨ a.heap.size ≤ x) : Chg S a c :=
  ⟨k.os.trans h.os, k.tape.trans h.tape, k.output.trans h.output, Nat.le_trans h.size k.size, fun x hx hn => (k.block x (Nat.lt_of_lt_of_le hx h.size) fun q => by rcases hs x q with r | r; exact hn r; omega).trans (h.block x hx hn)⟩
theorem setCell_comm (w : World) {a b : Addr} (h : a.block ≠ b.block) (u v : Value) : (w.setCell a u).setCell b v = (w.setCell b v).setCell a u := by
  simp only [World.setCell]
  congr 1
  apply Array.ext_getElem?
  intro i
  simp only [Array.getElem?_modify]
  by_cases h1 : b.block = i
  · have h2 : ¬ a.block = i := fun e => h (e.trans h1.symm)
    simp [h1, h2]
  · simp [h1]
theorem setCells_comm {a : Addr} {g : Nat} (h : a.block ≠ g) (u : Value) : ∀ (vs : List Value) (o : Nat) (w : World), (w.setCell a u).setCells g o vs = (w.setCells g o vs).setCell a u
  | [], _, _ => rfl
  | v :: r, o, w => by
    rw [World.setCells, World.setCells, setCell_comm w (a := a) (b := ⟨g, o, none⟩) h u v]
    exact setCells_comm h u r (o + 1) _
theorem Enc.unsnoc {α : Type} {R : α → List Value → Prop} {sz : Nat} {l : List α} {z : α} {xs : List Value} (h : Enc R sz (l ++ [z]) xs) : ∃ xs0 cs, xs = xs0 ++ cs ∧ Enc R sz l xs0 ∧ R z cs ∧ cs.length = sz := by
  generalize hm : l ++ [z] = m at h
  cases h with
  | nil => simp at hm
  | snoc h hx hl =>
    obtain ⟨rfl, e⟩ := List.append_inj' hm rfl
    cases e
    exact ⟨_, _, rfl, h, hx, hl⟩
/-- The last element of a row of one's own is written anew. -/
theorem Own.setLast {α : Type} {R : α → List Value → World → Prop} {T sz base : Nat} {G : Nat → Prop} {l : List α} {z y : α} {cs : List Value} {g n c : Nat} {w : World} (h : Own R T sz base G (.slice (some ⟨g, 0, none⟩) n c) (l ++ [z]) w) (hcl : cs.length = sz) (hR : Held G (R y cs) w) (hG : ∀ b, G b → b ≠ g) :
    Own R T sz base G (.slice (some ⟨g, 0, none⟩) n c) (l ++ [y]) (w.setCells g (l.length * sz) cs) := by
  obtain ⟨xs, ⟨hl, h2⟩, he⟩ := h
  obtain ⟨xs0, cz, rfl, he0, _, hcz⟩ := he.unsnoc
  rcases h2 with ⟨hv, _⟩ | ⟨g', cap, cur, hv, hg, hh, hn, hm, hs, ht⟩
  · cases hv
  · simp only [Value.slice.injEq, Option.some.injEq, Addr.mk.injEq, and_true] at hv
    obtain ⟨rfl, rfl, rfl⟩ := hv
    have hlx := he0.length
    simp only [List.length_append, List.length_cons, List.length_nil, Nat.zero_add] at hn hl ht
    have hfit : l.length * sz + cs.length ≤ cur.size := by
      rw [hs, hcl, ← Nat.succ_mul]; exact Nat.mul_le_mul_right _ hn
    obtain ⟨cur', h3, h4⟩ := heap_setCells_row g T cs (l.length * sz) w cur (0, 0) hh hfit
    have k : Keep G w (w.setCells g (l.length * sz) cs) := (Chg.setCells (S := fun b => b = g) g rfl cs (l.length * sz) w).keep fun b hb q => hG b hb q
    have hc2 : cur.toList.length = cur.size := by simp
    refine ⟨xs0 ++ cs, ⟨by rw [List.length_append, hlx, hcl, List.length_append, List.length_singleton, Nat.succ_mul], .inr ⟨g, c, cur', by simp, hg, h3, by rw [List.length_append, List.length_singleton]; exact hn, hm, ?_, ?_⟩⟩, .snoc (he0.imp fun _ _ hx => hx.keep k) (hR.keep k) hcl⟩
    · have := congrArg List.length h4
      simp only [Array.length_toList, List.length_append, List.length_take, List.length_drop] at this
      omega
    · rw [List.length_append, List.length_singleton, h4]
      have e0 : xs0 = cur.toList.take (l.length * sz) := by
        have := congrArg (List.take (l.length * sz)) ht
        rw [List.take_take, Nat.min_eq_left (Nat.mul_le_mul_right _ (Nat.le_succ _)), List.take_left' (by rw [hlx])] at this
        exact this.symm
      rw [← e0]
      have : (l.length + 1) * sz = (xs0 ++ cs).length := by rw [List.length_append, hlx, hcl, Nat.add_mul, Nat.one_mul]
      rw [this]
      exact List.take_left
def zeroTy : Ty := .mk 0 ⟨#[]⟩ 0 0 []
theorem typR_leaf {G : Nat → Prop} {w : World} (k : Int) (s : ByteArray) (lo hi : Int) (A : Option Addr) (c : Nat) : Held G (typR (.mk k s lo hi []) [.int .i64 k, .string s, .int .i64 lo, .int .i64 hi, .slice A 0 c]) w :=
  typR.mk (t := .mk k s lo hi []) (A := A) (c := c) (Nat.zero_le _) (fun _ _ => Slc.nil _ _ _ _)
theorem infoTyp : (Tryz.prog.info? 36).map (fun i => (i.zero, i.size, i.bytes)) = some (some (.agg #[.int .i64 0, .string ⟨#[]⟩, .int .i64 0, .int .i64 0, .slice none 0 0]), 5, 64) := by kernel_rfl
/-- The pieces gathered so far: numbers, classes as values, kinds; the truths. -/
structure PartsT where
  row : Fin 3 → List Ty
  t0 : Bool
  t1 : Bool
/-- The rows of the parts, at some addresses. -/
structure PRows where
  a : Fin 3 → Option Addr
  c : Fin 3 → Nat
def PRows.v (r : PRows) (p : PartsT) (i : Fin 3) : Value := .slice (r.a i) (p.row i).length (r.c i)
def PRows.own (r : PRows) (b : Nat) : Prop := ∃ i x, r.a i = some x ∧ x.block = b
def partsCs (hp : Nat) (p : PartsT) (r : PRows) : List Value := [.pointer (some ⟨hp, 0, none⟩), r.v p 0, r.v p 1, r.v p 2, .bool p.t0, .bool p.t1]
/-- The parts in memory: the record at block pb, its rows in blocks of their own behind it. -/
structure PartsAt (pb hp : Nat) (p : PartsT) (r : PRows) (w : World) : Prop where
  cel : Cel pb (partsCs hp p r) w
  row : ∀ i, Own typR 36 5 (pb + 1) (fun _ => False) (r.v p i) (p.row i) w
  sep : ∀ i j x y, i ≠ j → r.a i = some x → r.a j = some y → x.block ≠ y.block
theorem PRows.ownOf {r : PRows} {p : PartsT} {i : Fin 3} {b : Nat} (h : (r.v p i).ownBlock = some b) : r.own b := by
  unfold PRows.v at h
  cases e : r.a i with
  | none => rw [e] at h; simp [Value.ownBlock] at h
  | some x => rw [e] at h; exact ⟨i, x, e, by simpa [Value.ownBlock] using h⟩
theorem PRows.ownTo {r : PRows} {p : PartsT} {i : Fin 3} {x : Addr} (h : r.a i = some x) : (r.v p i).ownBlock = some x.block := by
  unfold PRows.v; rw [h]; simp [Value.ownBlock]
theorem PartsAt.lt {pb hp : Nat} {p : PartsT} {r : PRows} {w : World} (h : PartsAt pb hp p r w) : pb < w.heap.size := h.cel.lt (by simp [partsCs])
theorem PartsAt.ownLt {pb hp : Nat} {p : PartsT} {r : PRows} {w : World} (h : PartsAt pb hp p r w) {b : Nat} (hb : r.own b) : pb < b ∧ b < w.heap.size := by
  obtain ⟨i, x, hx, rfl⟩ := hb
  have := (h.row i).lt _ (PRows.ownTo hx)
  omega
theorem PartsAt.all {pb hp : Nat} {p : PartsT} {r : PRows} {w w' : World} (h : PartsAt pb hp p r w) (k : Below w.heap.size w w') : PartsAt pb hp p r w' :=
  ⟨h.cel.all k, fun i => (h.row i).all k, h.sep⟩
theorem PartsAt.chg {pb hp : Nat} {p : PartsT} {r : PRows} {S : Nat → Prop} {w w' : World} (h : PartsAt pb hp p r w) (k : Chg S w w') (hS : ∀ b, S b → b ≠ pb ∧ ¬ r.own b) : PartsAt pb hp p r w' := by
  have kk : Keep (fun b => ¬ S b) w w' := k.keep fun b hb q => hb q
  exact ⟨h.cel.keep kk fun s => (hS pb s).1 rfl, fun i => (h.row i).keep (kk.mono fun b hb => hb.elim) fun q hq => kk.2 q ((h.row i).lt q hq).2 fun s => (hS q s).2 (PRows.ownOf hq), h.sep⟩
def PartsT.add (p : PartsT) (i : Fin 3) (y : Ty) : PartsT := ⟨fun j => if j = i then p.row j ++ [y] else p.row j, p.t0, p.t1⟩
def PRows.put (r : PRows) (i : Fin 3) (g cap : Nat) : PRows := ⟨fun j => if j = i then some ⟨g, 0, none⟩ else r.a j, fun j => if j = i then cap else r.c j⟩
theorem partsCs_put (hp : Nat) (p : PartsT) (r : PRows) (i : Fin 3) (y : Ty) (g cap : Nat) : (partsCs hp p r).set (1 + i.val) (.slice (some ⟨g, 0, none⟩) ((p.row i).length + 1) cap) = partsCs hp (p.add i y) (r.put i g cap) := by
  match i with
  | 0 => simp [partsCs, PRows.v, PartsT.add, PRows.put]
  | 1 => simp [partsCs, PRows.v, PartsT.add, PRows.put]
  | 2 => simp [partsCs, PRows.v, PartsT.add, PRows.put]
/-- The parts change from (r, w) to (r', w'); the hierarchy's memo maps may change too. -/
structure PMove (S : Nat → Prop) (pb : Nat) (r : PRows) (w : World) (r' : PRows) (w' : World) : Prop where
  chg : Chg (fun b => S b ∨ b = pb ∨ r.own b) w w'
  own : ∀ b, r'.own b → r.own b ∨ w.heap.size ≤ b
theorem PMove.refl (S : Nat → Prop) (pb : Nat) (r : PRows) (w : World) : PMove S pb r w r w := ⟨Chg.refl _ _, fun _ h => .inl h⟩
theorem PMove.trans {S : Nat → Prop} {pb : Nat} {r r' r'' : PRows} {w w' w'' : World} (h : PMove S pb r w r' w') (k : PMove S pb r' w' r'' w'') : PMove S pb r w r'' w'' :=
  ⟨h.chg.trans3 k.chg fun b hb => by
      rcases hb with q | rfl | hb
      · exact .inl (.inl q)
      · exact .inl (.inr (.inl rfl))
      · exact (h.own b hb).imp (fun q => .inr (.inr q)) id,
   fun b hb => by
      rcases k.own b hb with q | q
      · exact h.own b q
      · exact .inr (Nat.le_trans h.chg.size q)⟩
theorem PMove.of {S : Nat → Prop} {pb : Nat} {r : PRows} {w w' : World} (h : Below w.heap.size w w') : PMove S pb r w r w' := ⟨Chg.of h, fun _ h => .inl h⟩
theorem PMove.memo {S : Nat → Prop} {pb : Nat} {r : PRows} {w w' : World} (h : Chg S w w') : PMove S pb r w r w' := ⟨h.mono fun _ _ q => .inl q, fun _ h => .inl h⟩
theorem PMove.mono {S T : Nat → Prop} {pb : Nat} {r r' : PRows} {w w' : World} (h : PMove S pb r w r' w') (q : ∀ b, S b → T b) : PMove T pb r w r' w' := ⟨h.chg.mono fun b _ x => x.imp (q b) id, h.own⟩
/-- What lies before and is not of the parts stays. -/
theorem PMove.keep {S : Nat → Prop} {pb : Nat} {r r' : PRows} {w w' : World} (h : PMove S pb r w r' w') {G : Nat → Prop} (hG : ∀ b, G b → ¬ S b ∧ b ≠ pb ∧ ¬ r.own b) : Keep G w w' :=
  h.chg.keep fun b hb q => by
    rcases q with q | rfl | q
    · exact (hG _ hb).1 q
    · exact (hG _ hb).2.1 rfl
    · exact (hG _ hb).2.2 q
theorem PartsAt.put (S : Nat → Prop) {pb hp : Nat} {p : PartsT} {r : PRows} {W w3 : World} (h : PartsAt pb hp p r W) (i : Fin 3) {g cap : Nat} (hgr : Chg (fun b => (r.v p i).ownBlock = some b) W w3) (hat : (r.v p i).ownBlock = some g ∨ g = W.heap.size)
    (hown : Own typR 36 5 (pb + 1) (fun _ => False) (.slice (some ⟨g, 0, none⟩) ((p.row i).length + 1) cap) (p.row i ++ [zeroTy]) w3) (k : Int) (s : ByteArray) (lo hi : Int) (A : Option Addr) (c : Nat) :
    PartsAt pb hp (p.add i (.mk k s lo hi [])) (r.put i g cap) ((w3.setCells g ((p.row i).length * 5) [.int .i64 k, .string s, .int .i64 lo, .int .i64 hi, .slice A 0 c]).setCell ⟨pb, 1 + i.val, none⟩ (.slice (some ⟨g, 0, none⟩) ((p.row i).length + 1) cap)) ∧
      PMove S pb r W (r.put i g cap) ((w3.setCells g ((p.row i).length * 5) [.int .i64 k, .string s, .int .i64 lo, .int .i64 hi, .slice A 0 c]).setCell ⟨pb, 1 + i.val, none⟩ (.slice (some ⟨g, 0, none⟩) ((p.row i).length + 1) cap)) := by
  have hlt := h.lt
  have hg1 : pb < g := by
    rcases hat with e | e
    · exact (h.ownLt (PRows.ownOf e)).1
    · omega
  have hgn : g ≠ pb := by omega
  have hown2 := hown.setLast (cs := [.int .i64 k, .string s, .int .i64 lo, .int .i64 hi, .slice A 0 c]) rfl (typR_leaf k s lo hi A c) (fun _ hb => hb.elim)
  have hC : Chg (fun b => b = g) w3 (w3.setCells g ((p.row i).length * 5) [.int .i64 k, .string s, .int .i64 lo, .int .i64 hi, .slice A 0 c]) := Chg.setCells (S := fun b => b = g) g rfl _ _ w3
  have hG : Chg (fun b => (r.v p i).ownBlock = some b) W w3 := hgr
  have hsep : ∀ j x, j ≠ i → r.a j = some x → x.block ≠ g ∧ (r.v p i).ownBlock ≠ some x.block := fun j x hj hx => by
    have hn : (r.v p i).ownBlock ≠ some x.block := fun e => by
      obtain ⟨i', x', hx', e'⟩ : ∃ i' x', r.a i' = some x' ∧ x'.block = x.block ∧ i' = i := by
        unfold PRows.v at e
        cases e2 : r.a i with
        | none => rw [e2] at e; simp [Value.ownBlock] at e
        | some z => rw [e2] at e; exact ⟨i, z, e2, by simpa [Value.ownBlock] using e, rfl⟩
      obtain ⟨e', rfl⟩ := e'
      exact h.sep _ _ _ _ hj hx hx' e'.symm
    refine ⟨fun e => ?_, hn⟩
    rcases hat with q | q
    · exact hn (by rw [e]; exact q)
    · have := (h.ownLt ⟨j, x, hx, rfl⟩).2
      omega
  have hW3 : pb < w3.heap.size := Nat.lt_of_lt_of_le hlt hG.size
  refine ⟨⟨?_, fun j => ?_, fun a b x y hab hx hy => ?_⟩, ?_, fun b hb => ?_⟩
  · rw [← partsCs_put]
    refine Cel.set ?_ _ (by simp [partsCs]; omega) _
    exact (h.cel.keep (hG.keep (G := fun b => b = pb) fun b hb e => by subst hb; have := (h.ownLt (PRows.ownOf e)).1; omega) rfl).keep (hC.keep (G := fun b => b = pb) fun b hb e => hgn (e.symm.trans hb)) rfl
  · by_cases hj : j = i
    · subst hj
      have : (r.put j g cap).v (p.add j (.mk k s lo hi [])) j = .slice (some ⟨g, 0, none⟩) ((p.row j).length + 1) cap := by simp [PRows.v, PartsT.add, PRows.put]
      rw [this]
      have e2 : (p.add j (.mk k s lo hi [])).row j = p.row j ++ [.mk k s lo hi []] := by simp [PartsT.add]
      rw [e2]
      exact hown2.setCell (p := ⟨pb, 1 + j.val, none⟩) (fun _ hb => hb.elim) (by simp [Value.ownBlock]; omega) _
    · have : (r.put i g cap).v (p.add i (.mk k s lo hi [])) j = r.v p j := by simp [PRows.v, PartsT.add, PRows.put, hj]
      rw [this]
      have e2 : (p.add i (.mk k s lo hi [])).row j = p.row j := by simp [PartsT.add, hj]
      rw [e2]
      have hne : ∀ q, (r.v p j).ownBlock = some q → q ≠ pb ∧ q ≠ g ∧ (r.v p i).ownBlock ≠ some q := fun q hq => by
        have := (h.ownLt (PRows.ownOf hq)).1
        cases e2 : r.a j with
        | none => unfold PRows.v at hq; rw [e2] at hq; simp [Value.ownBlock] at hq
        | some z =>
          have hz : z.block = q := by unfold PRows.v at hq; rw [e2] at hq; simpa [Value.ownBlock] using hq
          have := hsep j z hj e2
          rw [hz] at this
          exact ⟨by omega, this⟩
      have o1 := (h.row j).keep (w' := w3) ⟨hG.size, fun b _ hb => hb.elim⟩ fun q hq => hG.block q ((h.row j).lt q hq).2 (hne q hq).2.2
      have o2 := o1.keep (w' := w3.setCells g ((p.row i).length * 5) [.int .i64 k, .string s, .int .i64 lo, .int .i64 hi, .slice A 0 c]) ⟨hC.size, fun b _ hb => hb.elim⟩ fun q hq => hC.block q (o1.lt q hq).2 (hne q hq).2.1
      exact o2.setCell (p := ⟨pb, 1 + i.val, none⟩) (fun _ hb => hb.elim) (fun e => (hne _ e).1 rfl) _
  · by_cases ha : a = i <;> by_cases hb : b = i
    · exact absurd (ha.trans hb.symm) hab
    · simp [PRows.put, ha, hb] at hx hy
      subst hx
      exact fun e => (hsep b y hb hy).1 e.symm
    · simp [PRows.put, ha, hb] at hx hy
      subst hy
      exact (hsep a x ha hx).1
    · simp [PRows.put, ha, hb] at hx hy
      exact h.sep a b x y hab hx hy
  · have c1 : Chg (fun b => S b ∨ b = pb ∨ r.own b) W w3 := hG.mono fun b _ hb => .inr (.inr (PRows.ownOf hb))
    refine (c1.trans3 hC fun b hb => ?_).trans (Chg.setCell (S := fun b => S b ∨ b = pb ∨ r.own b) _ (p := ⟨pb, 1 + i.val, none⟩) (.inr (.inl rfl)) _)
    rcases hat with q | q
    · exact .inl (.inr (.inr (by rw [hb]; exact PRows.ownOf q)))
    · exact .inr (by omega)
  · obtain ⟨j, x, hx, rfl⟩ := hb
    by_cases hj : j = i
    · simp [PRows.put, hj] at hx
      subst hx
      rcases hat with q | q
      · exact .inl (PRows.ownOf q)
      · exact .inr (Nat.le_of_eq q.symm)
    · simp [PRows.put, hj] at hx
      exact .inl ⟨j, x, hx, rfl⟩
/-- 'put' from before the boxes, for both orders of the two stores. -/
theorem PartsAt.put2 (S : Nat → Prop) {pb hp : Nat} {p : PartsT} {r : PRows} {w W w3 : World} (h : PartsAt pb hp p r W) (hb : Below w.heap.size w W) (i : Fin 3) (o : Nat) (ho : 1 + i.val = o) {g cap : Nat} (hgr : Chg (fun b => (r.v p i).ownBlock = some b) W w3) (hat : (r.v p i).ownBlock = some g ∨ g = W.heap.size)
    (hown : Own typR 36 5 (pb + 1) (fun _ => False) (.slice (some ⟨g, 0, none⟩) ((p.row i).length + 1) cap) (p.row i ++ [zeroTy]) w3) (k : Int) (s : ByteArray) (lo hi : Int) (A : Option Addr) (c : Nat) (n : pb ≠ g) :
    (∃ r', PartsAt pb hp (p.add i (.mk k s lo hi [])) r' ((((((w3.setCell ⟨g, (p.row i).length * 5, none⟩ (.int .i64 k)).setCell ⟨g, (p.row i).length * 5 + 1, none⟩ (.string s)).setCell ⟨g, (p.row i).length * 5 + 2, none⟩ (.int .i64 lo)).setCell ⟨g, (p.row i).length * 5 + 3, none⟩ (.int .i64 hi)).setCell ⟨g, (p.row i).length * 5 + 4, none⟩ (.slice A 0 c)).setCell ⟨pb, o, none⟩ (.slice (some ⟨g, 0, none⟩) ((p.row i).length + 1) cap)) ∧ PMove S pb r w r' ((((((w3.setCell ⟨g, (p.row i).length * 5, none⟩ (.int .i64 k)).setCell ⟨g, (p.row i).length * 5 + 1, none⟩ (.string s)).setCell ⟨g, (p.row i).length * 5 + 2, none⟩ (.int .i64 lo)).setCell ⟨g, (p.row i).length * 5 + 3, none⟩ (.int .i64 hi)).setCell ⟨g, (p.row i).length * 5 + 4, none⟩ (.slice A 0 c)).setCell ⟨pb, o, none⟩ (.slice (some ⟨g, 0, none⟩) ((p.row i).length + 1) cap))) ∧
    (∃ r', PartsAt pb hp (p.add i (.mk k s lo hi [])) r' ((((((w3.setCell ⟨pb, o, none⟩ (.slice (some ⟨g, 0, none⟩) ((p.row i).length + 1) cap)).setCell ⟨g, (p.row i).length * 5, none⟩ (.int .i64 k)).setCell ⟨g, (p.row i).length * 5 + 1, none⟩ (.string s)).setCell ⟨g, (p.row i).length * 5 + 2, none⟩ (.int .i64 lo)).setCell ⟨g, (p.row i).length * 5 + 3, none⟩ (.int .i64 hi)).setCell ⟨g, (p.row i).length * 5 + 4, none⟩ (.slice A 0 c)) ∧ PMove S pb r w r' ((((((w3.setCell ⟨pb, o, none⟩ (.slice (some ⟨g, 0, none⟩) ((p.row i).length + 1) cap)).setCell ⟨g, (p.row i).length * 5, none⟩ (.int .i64 k)).setCell ⟨g, (p.row i).length * 5 + 1, none⟩ (.string s)).setCell ⟨g, (p.row i).length * 5 + 2, none⟩ (.int .i64 lo)).setCell ⟨g, (p.row i).length * 5 + 3, none⟩ (.int .i64 hi)).setCell ⟨g, (p.row i).length * 5 + 4, none⟩ (.slice A 0 c))) := by
  subst ho
  have F := h.put S i hgr hat hown k s lo hi A c
  have F2 := (PMove.of (S := S) (pb := pb) (r := r) hb).trans F.2
  refine ⟨⟨_, F.1, F2⟩, ?_⟩
  rw [← setCells_comm (a := ⟨pb, 1 + i.val, none⟩) n] at F F2
  exact ⟨_, F.1, F2⟩
end Go.Proofs.YtepnmejahbiacaaGreat
set_option linter.unusedVariables false
set_option linter.unusedSimpArgs false
namespace Go.Proofs.YtepnmejahbiacaaGreat
open Go.RowKit
attribute [local go_sem ↓] Go.wp_at_zero Go.wp_at_succ
theorem zeroH (W : World) : Held (fun _ => False) (typR zeroTy [.int .i64 0, .string ⟨#[]⟩, .int .i64 0, .int .i64 0, .slice none 0 0]) W := typR_leaf 0 ⟨#[]⟩ 0 0 none 0
theorem zeroOne : ∀ u ∈ [Value.int .i64 0, .string ⟨#[]⟩, .int .i64 0, .int .i64 0, .slice none 0 0], u.oneCell' = true := by
  intro u hu; simp at hu; rcases hu with rfl | rfl | rfl | rfl | rfl <;> rfl
/-- The new element's cells. -/
theorem zeroCells {w3 : World} {g n cap pb : Nat} {l : List Ty} (h : Own typR 36 5 (pb + 1) (fun _ => False) (.slice (some ⟨g, 0, none⟩) n cap) (l ++ [zeroTy]) w3) : 
    (w3.cell? ⟨g, l.length * 5, none⟩ = some (.int .i64 0) ∧ w3.frozen? ⟨g, l.length * 5, none⟩ = false) ∧ (w3.cell? ⟨g, l.length * 5 + 1, none⟩ = some (.string ⟨#[]⟩) ∧ w3.frozen? ⟨g, l.length * 5 + 1, none⟩ = false) ∧
    (w3.cell? ⟨g, l.length * 5 + 2, none⟩ = some (.int .i64 0) ∧ w3.frozen? ⟨g, l.length * 5 + 2, none⟩ = false) ∧ (w3.cell? ⟨g, l.length * 5 + 3, none⟩ = some (.int .i64 0) ∧ w3.frozen? ⟨g, l.length * 5 + 3, none⟩ = false) ∧
    (∃ A c, w3.cell? ⟨g, l.length * 5 + 4, none⟩ = some (.slice A 0 c) ∧ w3.frozen? ⟨g, l.length * 5 + 4, none⟩ = false) := by
  obtain ⟨cs, _, hr, hc⟩ := h.get (i := l.length) (x := zeroTy) (by simp)
  obtain ⟨A, c, rfl, _⟩ := typR_iff.1 (hr w3 (Keep.refl _ _))
  exact ⟨hc 0 _ rfl, hc 1 _ rfl, hc 2 _ rfl, hc 3 _ rfl, A, c, hc 4 _ rfl⟩
set_option maxHeartbeats 16000000 in
set_option maxRecDepth 100000 in
theorem addInt_calls (S : Nat → Prop) (pb hp : Nat) (p : PartsT) (r : PRows) (k : Int) (s : ByteArray) (lo hi : Int) (A : Option Addr) (c : Nat) (w : World) (h : PartsAt pb hp p r w) (hl : (p.row 0).length ≤ 1000000) :
    Calls Tryz.prog 177 #[.pointer (some ⟨pb, 0, none⟩), .agg #[.int .i64 k, .string s, .int .i64 lo, .int .i64 hi, .slice A 0 c]] w fun e w' => e = .returned (.tuple #[]) ∧ ∃ r', PartsAt pb hp (p.add 0 (.mk k s lo hi [])) r' w' ∧ PMove S pb r w r' w' := by
  have hlt := h.lt
  obtain ⟨W1, hW1⟩ : ∃ W1, W1 = (w.alloc (.cells #[.int .i64 k, .string s, .int .i64 lo, .int .i64 hi, .slice A 0 c] 36)) := ⟨_, rfl⟩
  obtain ⟨W2, hW2⟩ : ∃ W2, W2 = (W1.alloc (.cells #[.int .i64 0, .string ⟨#[]⟩, .int .i64 0, .int .i64 0, .slice none 0 0] 36)).drew := ⟨_, rfl⟩
  have b1 : Below w.heap.size w W1 := by rw [hW1]; exact (Below.refl _ w).alloc (Nat.le_refl _) _
  have z1 : W1.heap.size = w.heap.size + 1 := by rw [hW1]; simp
  have b2 : Below w.heap.size w W2 := by rw [hW2]; exact (b1.alloc b1.size _).drew
  have z2 : W2.heap.size = w.heap.size + 2 := by rw [hW2]; simp [z1]
  have p2 := h.all b2
  have box : Cel w.heap.size [.int .i64 k, .string s, .int .i64 lo, .int .i64 hi, .slice A 0 c] W1 := by rw [hW1]; exact Cel.new w _ _ _ rfl
  have box2 : Cel w.heap.size [.int .i64 k, .string s, .int .i64 lo, .int .i64 hi, .slice A 0 c] W2 := box.all (by rw [hW2]; exact ((Below.refl _ W1).alloc (Nat.le_refl _) _).drew)
  have hC : Hid (∀ j u, [Value.int .i64 0, .string ⟨#[]⟩, .int .i64 0, .int .i64 0, .slice none 0 0][j]? = some u → W2.cell? ((⟨w.heap.size + 1, 0, none⟩ : Addr).add j) = some u) := Lib.hid (by rw [hW2, ← z1]; exact cells_new W1 #[.int .i64 0, .string ⟨#[]⟩, .int .i64 0, .int .i64 0, .slice none 0 0] _ _ rfl)
  have q1 : W1.cell? ⟨pb, 1, none⟩ = some (r.v p 0) := ((h.all b1).cel 1 _ rfl).1
  have HP := Lib.hid p2
  have HB := Lib.hid b2
  have HX := Lib.hid box2
  obtain ⟨x0, _⟩ := box 0 _ rfl
  obtain ⟨x1, _⟩ := box 1 _ rfl
  obtain ⟨x2, _⟩ := box 2 _ rfl
  obtain ⟨x3, _⟩ := box 3 _ rfl
  obtain ⟨x4, _⟩ := box 4 _ rfl
  have HV : Hid (r.v p 0 = .slice (r.a 0) (p.row 0).length (r.c 0)) := Lib.hid rfl
  have HZ := Lib.hid z2
  have hne : w.heap.size ≠ pb := by omega
  have wb : ((p.row 0).length : Int) < ((p.row 0).length : Int) + 1 := by omega
  have w0 : (0 : Int) ≤ ((p.row 0).length : Int) := by omega
  have HN : Hid (∀ b, b = pb ∨ b = w.heap.size → (Value.slice (r.a 0) (p.row 0).length (r.c 0)).ownBlock ≠ some b) := Lib.hid (fun b hb e => by
    have := h.ownLt (PRows.ownOf (p := p) (i := 0) e)
    omega)
  clear h box box2 p2 b2
  subst hW2
  unfold PRows.v at q1
  go_enter Tryz.func177, Tryz.ntmps177
  go_wp2_with (fail)
  rw [← hW1]
  clear hW1
  go_region_law (
    refine step_append_one typR 36 5 (pb + 1) 64 (fun _ => False) _ (by rfl) _ _ 34 _ (by rfl) Tryz.underlying34 infoTyp rfl (by decide) (by decide) (.slice (r.a 0) (p.row 0).length (r.c 0)) (p.row 0) (by rfl) (HP.out.row 0) ⟨w.heap.size + 1, 0, none⟩ 1 (by rfl) zeroTy [.int .i64 0, .string ⟨#[]⟩, .int .i64 0, .int .i64 0, .slice none 0 0] rfl hC.out zeroOne (zeroH _) (fun _ hb => hb.elim) (by rw [HZ.out]; omega) (by omega) (w.heap.size + 2) HZ.out ?_
    intro g cap w3 hown hgrow hat hlt3
    obtain ⟨⟨y0, f0⟩, ⟨y1, f1⟩, ⟨y2, f2⟩, ⟨y3, f3⟩, A4, c4, y4, f4⟩ := zeroCells hown
    have v0 := grown_cell hgrow (HX.out 0 _ rfl).1 (HN.out _ (.inr rfl))
    have v1 := grown_cell hgrow (HX.out 1 _ rfl).1 (HN.out _ (.inr rfl))
    have v2 := grown_cell hgrow (HX.out 2 _ rfl).1 (HN.out _ (.inr rfl))
    have v3 := grown_cell hgrow (HX.out 3 _ rfl).1 (HN.out _ (.inr rfl))
    have v4 := grown_cell hgrow (HX.out 4 _ rfl).1 (HN.out _ (.inr rfl))
    have u1 := grown_cell hgrow (HP.out.cel 1 _ rfl).1 (HN.out _ (.inl rfl))
    have g1 := grown_frozen hgrow (HP.out.cel 1 _ rfl).1 (HP.out.cel 1 _ rfl).2 (HN.out _ (.inl rfl))
    have n1 : g ≠ pb := by rcases hat with e | e; exact fun q => HN.out g (.inl q) e; omega
    have n2 : g ≠ w.heap.size := by rcases hat with e | e; exact fun q => HN.out g (.inr q) e; omega)
  all_goals
    have F := HP.out.put2 S HB.out 0 1 rfl (Chg.grown hgrow fun b hb => hb) (hat.imp id fun e => e.trans HZ.out.symm) hown k s lo hi A c (fun e => n1 e.symm)
    clear y0 f0 y1 f1 y2 f2 y3 f3 y4 f4 v0 v1 v2 v3 v4 u1 g1 hown hgrow hat
    refine bodyPost_end (v := .tuple #[]) (by simp [results, Tryz.results177]) rfl ?_
    first
      | with_reducible exact ⟨rfl, F.1⟩
      | with_reducible exact ⟨rfl, F.2⟩
      | trace_state
end Go.Proofs.YtepnmejahbiacaaGreat
set_option linter.unusedVariables false
set_option linter.unusedSimpArgs false
namespace Go.Proofs.YtepnmejahbiacaaGreat
open Go.RowKit
attribute [local go_sem ↓] Go.wp_at_zero Go.wp_at_succ
def PartsT.tru (p : PartsT) (n : Int) : PartsT := ⟨p.row, p.t0 || decide (n = 0), p.t1 || decide (n = 1)⟩
theorem PartsAt.setT (S : Nat → Prop) {pb hp : Nat} {p : PartsT} {r : PRows} {w W : World} (h : PartsAt pb hp p r W) (hb : Below w.heap.size w W) (q : PartsT) (o : Nat) (u : Value) (hr : q.row = p.row) (hc : (partsCs hp p r).set o u = partsCs hp q r) (ho : o < 6) :
    PartsAt pb hp q r (W.setCell ⟨pb, o, none⟩ u) ∧ PMove S pb r w r (W.setCell ⟨pb, o, none⟩ u) := by
  refine ⟨⟨hc ▸ Cel.set h.cel o (by simpa [partsCs] using ho) u, fun i => ?_, h.sep⟩, (PMove.of hb).trans ⟨Chg.setCell _ (p := ⟨pb, o, none⟩) (.inr (.inl rfl)) _, fun b hb => .inl hb⟩⟩
  have : r.v q i = r.v p i := by unfold PRows.v; rw [hr]
  rw [this, hr]
  exact (h.row i).setCell (p := ⟨pb, o, none⟩) (fun _ hb => hb.elim) (fun e => absurd ((h.row i).lt _ e).1 (Nat.not_succ_le_self pb)) _
set_option maxHeartbeats 16000000 in
set_option maxRecDepth 100000 in
theorem addBool_calls (S : Nat → Prop) (pb hp : Nat) (p : PartsT) (r : PRows) (k : Int) (s : ByteArray) (lo hi : Int) (A : Option Addr) (c : Nat) (w : World) (h : PartsAt pb hp p r w) (hlo : lo = 0 ∨ lo = 1) :
    Calls Tryz.prog 178 #[.pointer (some ⟨pb, 0, none⟩), .agg #[.int .i64 k, .string s, .int .i64 lo, .int .i64 hi, .slice A 0 c]] w fun e w' => e = .returned (.tuple #[]) ∧ ∃ r', PartsAt pb hp (p.tru lo) r' w' ∧ PMove S pb r w r' w' := by
  have hlt := h.lt
  obtain ⟨W1, hW1⟩ : ∃ W1, W1 = (w.alloc (.cells #[.int .i64 k, .string s, .int .i64 lo, .int .i64 hi, .slice A 0 c] 36)) := ⟨_, rfl⟩
  have b1 : Below w.heap.size w W1 := by rw [hW1]; exact (Below.refl _ w).alloc (Nat.le_refl _) _
  have b2 := b1.drew
  have p2 := (h.all b1).all (Below.refl _ W1).drew
  have box : Cel w.heap.size [.int .i64 k, .string s, .int .i64 lo, .int .i64 hi, .slice A 0 c] W1 := by rw [hW1]; exact Cel.new w _ _ _ rfl
  obtain ⟨q4, q5⟩ := (h.all b1).cel 4 _ rfl
  obtain ⟨q6, q7⟩ := (h.all b1).cel 5 _ rfl
  obtain ⟨x2, _⟩ := box 2 _ rfl
  have HP := Lib.hid p2
  have HB := Lib.hid b2
  have hne : w.heap.size ≠ pb := by omega
  clear h box p2 b2 b1
  rcases hlo with rfl | rfl
  all_goals
    go_enter Tryz.func178, Tryz.ntmps178
    go_wp2_with (fail)
    rw [← hW1]
    clear hW1
    go_region
  all_goals
    refine bodyPost_end (v := .tuple #[]) (by simp [results, Tryz.results178]) rfl ?_
  all_goals
    have F0 := HP.out.setT S HB.out (p.tru 0) 4 (.bool true) rfl (by simp [partsCs, PRows.v, PartsT.tru]) (by decide)
    have F1 := HP.out.setT S HB.out (p.tru 1) 5 (.bool true) rfl (by simp [partsCs, PRows.v, PartsT.tru]) (by decide)
    first
      | with_reducible exact ⟨rfl, _, F0⟩
      | with_reducible exact ⟨rfl, _, F1⟩
      | trace_state
end Go.Proofs.YtepnmejahbiacaaGreat
set_option linter.unusedVariables false
set_option linter.unusedSimpArgs false
namespace Go.Proofs.YtepnmejahbiacaaGreat
open Go.RowKit
attribute [local go_sem ↓] Go.wp_at_zero Go.wp_at_succ
theorem HierAt.chg {hp M1 : Nat} {A : Option Addr} {c : Nat} {l : List CI} {k : Nat} {S : Nat → Prop} {w w' : World} (h : HierAt hp M1 A c l k w) (q : Chg S w w') (hS : ∀ b, S b → b ≠ hp ∧ b ≠ M1 ∧ ¬ Memo M1 b) : HierAt hp M1 A c l k w' := by
  have kk : Keep (fun b => ¬ S b) w w' := q.keep fun b hb s => hb s
  have nh : ¬ S hp := fun s => (hS _ s).1 rfl
  have n1 : ¬ S M1 := fun s => (hS _ s).2.1 rfl
  have n2 : ¬ S (M1 + 1) := fun s => (hS _ s).2.2 (by first | exact .inl rfl | (simp [Memo]))
  have n3 : ¬ S (M1 + 1 + 1) := fun s => (hS _ s).2.2 (by first | exact .inr rfl | (simp [Memo]))
  exact ⟨cell_keep h.c0 kk nh, cell_keep h.c1 kk nh, h.at_.keep kk n1, cell_keep h.c2 kk nh, cell_keep h.c3 kk nh, h.m2.imp fun f hf => ⟨hf.1.keep kk n2, hf.2⟩, h.m3.imp fun f hf => ⟨hf.1.keep kk n3, hf.2⟩, h.hpe⟩
/-- The parts with a class added. -/
def addC (l : List CI) (p : PartsT) (t : Ty) : PartsT :=
  if t.name = nInteger then p.add 0 (spanTy (-9223372036854775808) 9223372036854775807)
  else if t.name = nBoolean then ⟨p.row, true, true⟩
  else if vdB l t.name then p else p.add 2 t
theorem addC_bool (l : List CI) (p : PartsT) (k lo hi : Int) : addC l p (.mk k nBoolean lo hi []) = ⟨p.row, true, true⟩ := by
  unfold addC
  rw [if_neg (by show ¬ (nBoolean = nInteger); decide), if_pos (by rfl)]
theorem PartsAt.setTT {pb hp : Nat} {p : PartsT} {r : PRows} {w W : World} (S : Nat → Prop) (h : PartsAt pb hp p r W) (hb : Below w.heap.size w W) :
    PartsAt pb hp ⟨p.row, true, true⟩ r ((W.setCell ⟨pb, 4, none⟩ (.bool true)).setCell ⟨pb, 5, none⟩ (.bool true)) ∧ PMove S pb r w r ((W.setCell ⟨pb, 4, none⟩ (.bool true)).setCell ⟨pb, 5, none⟩ (.bool true)) := by
  have a := h.setT S hb ⟨p.row, true, p.t1⟩ 4 (.bool true) rfl (by simp [partsCs, PRows.v]) (by decide)
  have b := a.1.setT S (Below.refl _ _) ⟨p.row, true, true⟩ 5 (.bool true) rfl (by simp [partsCs, PRows.v]) (by decide)
  exact ⟨b.1, a.2.trans b.2⟩
set_option maxHeartbeats 16000000 in
set_option maxRecDepth 100000 in
theorem addClassB_calls (S : Nat → Prop) (pb hp : Nat) (p : PartsT) (r : PRows) (k : Int) (lo hi : Int) (A : Option Addr) (c : Nat) (w : World) (h : PartsAt pb hp p r w) :
    Calls Tryz.prog 176 #[.pointer (some ⟨pb, 0, none⟩), .agg #[.int .i64 k, .string ⟨#[60, 98, 111, 111, 108, 101, 97, 110, 62]⟩, .int .i64 lo, .int .i64 hi, .slice A 0 c]] w fun e w' => e = .returned (.tuple #[]) ∧ ∃ r', PartsAt pb hp ⟨p.row, true, true⟩ r' w' ∧ PMove S pb r w r' w' := by
  have hlt := h.lt
  obtain ⟨W1, hW1⟩ : ∃ W1, W1 = (w.alloc (.cells #[.int .i64 k, .string ⟨#[60, 98, 111, 111, 108, 101, 97, 110, 62]⟩, .int .i64 lo, .int .i64 hi, .slice A 0 c] 36)) := ⟨_, rfl⟩
  have b1 : Below w.heap.size w W1 := by rw [hW1]; exact (Below.refl _ w).alloc (Nat.le_refl _) _
  have box : Cel w.heap.size [.int .i64 k, .string ⟨#[60, 98, 111, 111, 108, 101, 97, 110, 62]⟩, .int .i64 lo, .int .i64 hi, .slice A 0 c] W1 := by rw [hW1]; exact Cel.new w _ _ _ rfl
  obtain ⟨q4, q5⟩ := h.cel 4 _ rfl
  obtain ⟨q6, q7⟩ := h.cel 5 _ rfl
  obtain ⟨x1, _⟩ := box 1 _ rfl
  have F := Lib.hid (h.setTT S (Below.refl _ w))
  have hne : w.heap.size ≠ pb := by omega
  clear h box b1
  go_enter Tryz.func176, Tryz.ntmps176
  subst hW1
  go_wp2
  refine bodyPost_end (v := .tuple #[]) (by simp [results, Tryz.results176]) rfl ?_
  exact ⟨rfl, _, F.out.1.all ((Below.refl _ _).alloc (Nat.le_refl _) _), F.out.2.trans (PMove.of ((Below.refl _ _).alloc (Nat.le_refl _) _))⟩
end Go.Proofs.YtepnmejahbiacaaGreat
set_option linter.unusedVariables false
set_option linter.unusedSimpArgs false
namespace Go.Proofs.YtepnmejahbiacaaGreat
open Go.RowKit
def nObject : ByteArray := ⟨#[60, 111, 98, 106, 101, 99, 116, 62]⟩
def addM (l : List CI) (p : PartsT) (t : Ty) : PartsT := if t.name = nObject then addC l p (clsTy nClass) else p.add 1 t
mutual
/-- The parts with the pieces of a type added. -/
def addT (l : List CI) : Ty → PartsT → PartsT
  | .mk k n lo hi args, p => if k = 1 then addC l p (.mk k n lo hi args) else if k = 2 then p.add 0 (.mk k n lo hi args) else if k = 3 then p.tru lo else if k = 4 then addM l p (.mk k n lo hi args) else addTs l args p
def addTs (l : List CI) : List Ty → PartsT → PartsT
  | [], p => p
  | t :: r, p => addTs l r (addT l t p)
end
def noParts : PartsT := ⟨fun _ => [], false, false⟩
theorem addTs_eq (l : List CI) : ∀ (L : List Ty) (p : PartsT), addTs l L p = L.foldl (fun p t => addT l t p) p
  | [], p => by rw [addTs]; rfl
  | t :: r, p => by rw [addTs, addTs_eq l r]; rfl
def Rng (t : Ty) : Prop := ∃ lo hi, t = spanTy lo hi ∧ lo ≤ hi ∧ -9223372036854775808 ≤ lo ∧ hi ≤ 9223372036854775807
/-- Ranges that neither overlap nor touch, rising. -/
structure Gap (L : List Ty) : Prop where
  pair : L.Pairwise fun a b => a.hi + 1 < b.lo
  rng : ∀ x ∈ L, Rng x
/-- A number is in one of some ranges. -/
def num (L : List Ty) (n : Int) : Prop := ∃ x ∈ L, x.lo ≤ n ∧ n ≤ x.hi
theorem Rng.le {t : Ty} (h : Rng t) : t.lo ≤ t.hi := by obtain ⟨lo, hi, rfl, h, _⟩ := h; exact h
theorem Rng.lo {t : Ty} (h : Rng t) : -9223372036854775808 ≤ t.lo := by obtain ⟨lo, hi, rfl, _, h, _⟩ := h; exact h
theorem Rng.hi {t : Ty} (h : Rng t) : t.hi ≤ 9223372036854775807 := by obtain ⟨lo, hi, rfl, _, _, h⟩ := h; exact h
theorem Rng.eq {t : Ty} (h : Rng t) : t = spanTy t.lo t.hi := by obtain ⟨lo, hi, rfl, _⟩ := h; rfl
theorem Rng.mk {lo hi : Int} (h : lo ≤ hi) (h1 : -9223372036854775808 ≤ lo) (h2 : hi ≤ 9223372036854775807) : Rng (spanTy lo hi) := ⟨lo, hi, rfl, h, h1, h2⟩
/-- One range more, whose least number is not below those of the ranges. -/
def mergeStep (out : List Ty) (t : Ty) : List Ty := match out.getLast? with
  | some z => if z.hi = 9223372036854775807 ∨ t.lo ≤ z.hi + 1 then out.dropLast ++ [spanTy z.lo (max z.hi t.hi)] else out ++ [spanTy t.lo t.hi]
  | none => [spanTy t.lo t.hi]
def mergeL (l : List Ty) : List Ty := l.foldl mergeStep []
theorem mergeStep_nil (t : Ty) : mergeStep [] t = [spanTy t.lo t.hi] := rfl
theorem mergeStep_snoc (l : List Ty) (z t : Ty) : mergeStep (l ++ [z]) t = if z.hi = 9223372036854775807 ∨ t.lo ≤ z.hi + 1 then l ++ [spanTy z.lo (max z.hi t.hi)] else l ++ [z] ++ [spanTy t.lo t.hi] := by
  unfold mergeStep
  rw [List.getLast?_concat, List.dropLast_concat]
theorem num_append (A B : List Ty) (n : Int) : num (A ++ B) n ↔ num A n ∨ num B n := by
  unfold num
  constructor
  · rintro ⟨x, hx, h⟩
    exact (List.mem_append.1 hx).imp (fun q => ⟨x, q, h⟩) (fun q => ⟨x, q, h⟩)
  · rintro (⟨x, hx, h⟩ | ⟨x, hx, h⟩)
    · exact ⟨x, List.mem_append.2 (.inl hx), h⟩
    · exact ⟨x, List.mem_append.2 (.inr hx), h⟩
theorem num_one (x : Ty) (n : Int) : num [x] n ↔ x.lo ≤ n ∧ n ≤ x.hi := by unfold num; simp
theorem snoc_or {α : Type} (l : List α) : l = [] ∨ ∃ i z, l = i ++ [z] := by
  rcases List.eq_nil_or_concat l with h | ⟨i, z, h⟩
  · exact .inl h
  · exact .inr ⟨i, z, by rw [h, List.concat_eq_append]⟩
theorem gap_step {out : List Ty} {t : Ty} (h : Gap out) (ht : Rng t) (hs : ∀ x ∈ out, x.lo ≤ t.lo) : Gap (mergeStep out t) ∧ (∀ n, num (mergeStep out t) n ↔ num out n ∨ num [t] n) ∧ ∀ y ∈ mergeStep out t, y.lo ≤ t.lo := by
  have hle := ht.le
  have hlo := ht.lo
  have hhi := ht.hi
  rcases snoc_or out with rfl | ⟨i, z, rfl⟩
  · rw [mergeStep_nil]
    refine ⟨⟨by simp, fun x hx => ?_⟩, fun n => ?_, fun y hy => ?_⟩
    · simp at hx; subst hx; exact Rng.mk hle hlo hhi
    · rw [num_one, num_one]; unfold num; simp [spanTy, Ty.lo, Ty.hi]
    · simp at hy; subst hy; exact Int.le_refl _
  · have hz := h.rng z (by simp)
    have hzl := hz.le
    have hzlo := hz.lo
    have hzhi := hz.hi
    have hst := hs z (by simp)
    have hp := List.pairwise_append.1 h.pair
    rw [mergeStep_snoc]
    split
    · rename_i hc
      have hm1 : z.hi ≤ max z.hi t.hi := Int.le_max_left _ _
      have hm2 : t.hi ≤ max z.hi t.hi := Int.le_max_right _ _
      have hm3 : max z.hi t.hi ≤ 9223372036854775807 := Int.max_le.2 ⟨hzhi, hhi⟩
      refine ⟨⟨List.pairwise_append.2 ⟨hp.1, by simp, fun a ha b hb => ?_⟩, fun x hx => ?_⟩, fun n => ?_, fun y hy => ?_⟩
      · simp at hb; subst hb
        exact hp.2.2 a ha z (by simp)
      · rcases List.mem_append.1 hx with q | q
        · exact h.rng x (List.mem_append.2 (.inl q))
        · simp at q; subst q
          exact Rng.mk (Int.le_trans hzl hm1) hzlo hm3
      · rw [num_append, num_append, num_one, num_one, num_one]
        show _ ∨ (z.lo ≤ n ∧ n ≤ max z.hi t.hi) ↔ _
        have : (z.lo ≤ n ∧ n ≤ max z.hi t.hi) ↔ (z.lo ≤ n ∧ n ≤ z.hi) ∨ (t.lo ≤ n ∧ n ≤ t.hi) := by
          constructor
          · rintro ⟨a, b⟩
            by_cases q : n ≤ z.hi
            · exact .inl ⟨a, q⟩
            · refine .inr ⟨?_, ?_⟩
              · rcases hc with c | c <;> omega
              · rcases Int.le_total z.hi t.hi with e | e
                · rw [Int.max_eq_right e] at b; exact b
                · rw [Int.max_eq_left e] at b; omega
          · rintro (⟨a, b⟩ | ⟨a, b⟩)
            · exact ⟨a, Int.le_trans b hm1⟩
            · exact ⟨Int.le_trans hst a, Int.le_trans b hm2⟩
        rw [this, or_assoc]
      · rcases List.mem_append.1 hy with q | q
        · exact hs y (List.mem_append.2 (.inl q))
        · simp at q; subst q; exact hst
    · rename_i hc
      have hc2 : z.hi + 1 < t.lo := by omega
      refine ⟨⟨List.pairwise_append.2 ⟨h.pair, by simp, fun a ha b hb => ?_⟩, fun x hx => ?_⟩, fun n => ?_, fun y hy => ?_⟩
      · simp only [List.mem_singleton] at hb; subst hb
        show a.hi + 1 < t.lo
        rcases List.mem_append.1 ha with q | q
        · have := hp.2.2 a q z (by simp)
          omega
        · simp at q; subst q; exact hc2
      · rcases List.mem_append.1 hx with q | q
        · exact h.rng x q
        · simp only [List.mem_singleton] at q; subst q
          exact Rng.mk hle hlo hhi
      · rw [num_append]
        show num (i ++ [z]) n ∨ num [spanTy t.lo t.hi] n ↔ _
        rw [num_one (spanTy t.lo t.hi), num_one t]; exact Iff.rfl
      · rcases List.mem_append.1 hy with q | q
        · exact hs y q
        · simp only [List.mem_singleton] at q; subst q; exact Int.le_refl _
theorem gap_fold : ∀ (l out : List Ty), Gap out → (∀ x ∈ out, ∀ t ∈ l, x.lo ≤ t.lo) → l.Pairwise (fun a b => a.lo ≤ b.lo) → (∀ x ∈ l, Rng x) → Gap (l.foldl mergeStep out) ∧ ∀ n, num (l.foldl mergeStep out) n ↔ num out n ∨ num l n
  | [], out, h, _, _, _ => ⟨h, fun n => ⟨.inl, fun q => q.elim id fun ⟨x, hx, _⟩ => by cases hx⟩⟩
  | t :: r, out, h, hs, hp, hr => by
    obtain ⟨h1, h2, h3⟩ := gap_step h (hr t (by simp)) fun x hx => hs x hx t (by simp)
    have hp' := List.pairwise_cons.1 hp
    obtain ⟨k1, k2⟩ := gap_fold r (mergeStep out t) h1 (fun x hx u hu => Int.le_trans (h3 x hx) (hp'.1 u hu)) hp'.2 fun x hx => hr x (List.mem_cons_of_mem _ hx)
    refine ⟨k1, fun n => ?_⟩
    rw [List.foldl_cons, k2, h2, or_assoc, ← num_append]
    rfl
theorem mergeL_ok {l : List Ty} (hp : l.Pairwise fun a b => a.lo ≤ b.lo) (hr : ∀ x ∈ l, Rng x) : Gap (mergeL l) ∧ ∀ n, num (mergeL l) n ↔ num l n := by
  obtain ⟨h1, h2⟩ := gap_fold l [] ⟨.nil, fun x hx => by cases hx⟩ (fun x hx => by cases hx) hp hr
  exact ⟨h1, fun n => (h2 n).trans ⟨fun q => q.elim (fun ⟨x, hx, _⟩ => by cases hx) id, .inr⟩⟩
theorem pair_or {α : Type} {R : α → α → Prop} : ∀ {l : List α}, l.Pairwise R → ∀ x ∈ l, ∀ y ∈ l, x = y ∨ R x y ∨ R y x
  | [], _, x, hx, _, _ => by cases hx
  | a :: r, h, x, hx, y, hy => by
    obtain ⟨h1, h2⟩ := List.pairwise_cons.1 h
    rcases List.mem_cons.1 hx with ex | hx' <;> rcases List.mem_cons.1 hy with ey | hy'
    · exact .inl (ex.trans ey.symm)
    · exact .inr (.inl (ex ▸ h1 y hy'))
    · exact .inr (.inr (ey ▸ h1 x hx'))
    · exact pair_or h2 x hx' y hy'
/-- A range all of whose numbers are in ranges that do not touch is within one of them. -/
theorem Gap.inside {L : List Ty} (h : Gap L) {lo hi : Int} (hle : lo ≤ hi) (hn : ∀ n, lo ≤ n → n ≤ hi → num L n) : ∃ x ∈ L, x.lo ≤ lo ∧ hi ≤ x.hi := by
  obtain ⟨x, hx, h1, h2⟩ := hn lo (Int.le_refl _) hle
  refine ⟨x, hx, h1, ?_⟩
  by_cases q : hi ≤ x.hi
  · exact q
  · obtain ⟨y, hy, h3, h4⟩ := hn (x.hi + 1) (by omega) (by omega)
    have := (h.rng x hx).le
    rcases pair_or h.pair x hx y hy with rfl | e | e <;> omega
/-- Ranges that do not touch are told by their numbers. -/
theorem Gap.mem_iff {L M : List Ty} (h : Gap L) (k : Gap M) (e : ∀ n, num L n ↔ num M n) (x : Ty) : x ∈ L ↔ x ∈ M := by
  have half : ∀ {L M : List Ty}, Gap L → Gap M → (∀ n, num L n ↔ num M n) → x ∈ L → x ∈ M := by
    intro L M h k e hx
    have hxr := h.rng x hx
    have hle := hxr.le
    obtain ⟨y, hy, h1, h2⟩ := k.inside (lo := x.lo) (hi := x.hi) hle fun n a b => (e n).1 ⟨x, hx, a, b⟩
    have hyr := k.rng y hy
    obtain ⟨z, hz, h3, h4⟩ := h.inside (lo := y.lo) (hi := y.hi) hyr.le fun n a b => (e n).2 ⟨y, hy, a, b⟩
    have : x = z := by
      rcases pair_or h.pair x hx z hz with q | q | q
      · exact q
      · omega
      · omega
    subst this
    have e1 : x.lo = y.lo := by omega
    have e2 : x.hi = y.hi := by omega
    rw [hxr.eq, e1, e2, ← hyr.eq]; exact hy
  exact ⟨half h k e, half k h fun n => (e n).symm⟩
def wholeTy : Ty := spanTy (-9223372036854775808) 9223372036854775807
/-- All numbers. -/
def wholeB (M : List Ty) : Bool := match M with | [x] => eqL x wholeTy | _ => false
theorem Gap.whole {L : List Ty} (h : Gap L) : wholeB L = true ↔ wholeTy ∈ L := by
  constructor
  · match L, h with
    | [], _ => intro q; cases q
    | [x], h =>
      intro q
      unfold wholeB at q
      have hx := (h.rng x (by simp)).eq
      unfold eqL at q
      simp only [Bool.and_eq_true, decide_eq_true_eq] at q
      have e1 : x.lo = -9223372036854775808 := q.2.2.1
      have e2 : x.hi = 9223372036854775807 := q.2.2.2
      rw [e1, e2] at hx
      rw [hx]; exact List.mem_singleton.2 rfl
    | _ :: _ :: _, _ => intro q; cases q
  · intro hw
    have key : ∀ y ∈ L, y = wholeTy := fun y hy => by
      have h1 := (h.rng y hy).lo
      have h2 := (h.rng y hy).hi
      have h3 := (h.rng y hy).le
      rcases pair_or h.pair y hy _ hw with q | q | q
      · exact q
      · have e : wholeTy.lo = -9223372036854775808 := rfl
        omega
      · have e : wholeTy.hi = 9223372036854775807 := rfl
        omega
    match L, h, hw, key with
    | [x], _, _, key => rw [key x (by simp)]; rfl
    | x :: y :: r, h, _, key =>
      have hp := (List.pairwise_cons.1 h.pair).1 y (by simp)
      rw [key x (by simp), key y (by simp)] at hp
      have e : wholeTy.lo = -9223372036854775808 := rfl
      have e2 : wholeTy.hi = 9223372036854775807 := rfl
      omega
/-- Those that no other one covers. -/
def topL (l : List CI) (L : List Ty) : List Ty := L.filter fun t => !(L.any fun u => decide (u.name ≠ t.name) && belowB l t.name u.name)
/-- One of some types bears a name. -/
def hasN (L : List Ty) (s : ByteArray) : Bool := L.any fun t => decide (t.name = s)
def kindsP (p : PartsT) (M : List Ty) : List Ty := (p.row 2 ++ if wholeB M = true then [clsTy nInteger] else []) ++ if p.t0 = true ∧ p.t1 = true then [clsTy nBoolean] else []
def truthsP (p : PartsT) : List Ty := if p.t0 = true ∧ p.t1 = true then [] else if p.t0 = true then [truthTy 0] else if p.t1 = true then [truthTy 1] else []
def IsPieces (l : List CI) (p : PartsT) (L : List Ty) : Prop :=
  if hasN (p.row 2) nObject = true then L = [clsTy nObject]
  else ∃ M, Gap M ∧ (∀ n, num M n ↔ num (p.row 0) n) ∧ ∀ x, x ∈ L ↔ x ∈ truthsP p ∨ (x ∈ M ∧ wholeB M = false) ∨ (x ∈ topL l (p.row 1) ∧ hasN (kindsP p M) nClass = false) ∨ x ∈ topL l (kindsP p M)
def covers (l : List CI) (x y : Ty) : Bool := isCls y nObject || (eqL x y || (if x.kind = 2 then (decide (y.kind = 2) && (decide (y.lo ≤ x.lo) && decide (x.hi ≤ y.hi))) || isCls y nInteger else if x.kind = 3 then isCls y nBoolean else if x.kind = 4 then (decide (y.kind = 4) && belowB l x.name y.name) || isCls y nClass else decide (y.kind = 1) && belowB l x.name y.name))
def covN (l : List CI) (Y : List Ty) : Nat → Ty → Bool
  | 0, _ => false
  | n + 1, x => Y.any (covers l x) || (decide (x.kind = 1) && (cloB l x.name && (absAt l x.name && (subsL l x.name).all fun s => covN l Y n (clsTy s))))
def covB (l : List CI) (Y : List Ty) (x : Ty) : Bool := covN l Y (l.length + 1) x
theorem covN_eq {l : List CI} (h : LookOk l) (Y : List Ty) : ∀ (n m : Nat) (x : Ty), rankC l x.name < n → rankC l x.name < m → covN l Y n x = covN l Y m x := by
  intro n
  induction n with
  | zero => intro m x hn; omega
  | succ n ih =>
    intro m x hn hm
    cases m with
    | zero => omega
    | succ m =>
      rw [covN, covN, all_congr fun s hs => by have := subs_rank h hs; exact ih m (clsTy s) (by show rankC l s < n; omega) (by show rankC l s < m; omega)]
/-- Whether all subclasses are covered. -/
def covS (l : List CI) (Y : List Ty) (s : ByteArray) : Bool := (subsL l s).all fun t => covB l Y (clsTy t)
theorem covB_eq {l : List CI} (h : LookOk l) (Y : List Ty) (x : Ty) : covB l Y x = (Y.any (covers l x) || (decide (x.kind = 1) && (cloB l x.name && (absAt l x.name && covS l Y x.name)))) := by
  unfold covB covS
  have := rankC_le l x.name
  rw [covN_eq h Y (l.length + 1) (l.length + 2) x (by omega) (by omega), covN]
  rfl
def subB (l : List CI) (X Y : List Ty) : Bool := X.all (covB l Y)
end Go.Proofs.YtepnmejahbiacaaGreat
set_option linter.unusedVariables false
set_option linter.unusedSimpArgs false
namespace Go.Proofs.YtepnmejahbiacaaGreat
open Go.RowKit
theorem pieces_formed {l : List CI} : ∀ (n : Nat) (t : Ty), t.count ≤ n → formedB l t = true → ∀ x ∈ t.pieces, formed0 l x = true ∧ x.kind ≠ 5 := by
  intro n
  induction n with
  | zero => intro t h; have := t.count_pos; omega
  | succ n ih =>
    intro t hn hf x hx
    rw [formedB_eq] at hf
    obtain ⟨h0, ha⟩ := Bool.and_eq_true_iff.1 hf
    by_cases hk : t.kind = 5
    · rw [Ty.pieces_union hk] at hx
      obtain ⟨y, hy, hxy⟩ := List.mem_flatMap.1 hx
      have := Ty.count_mem hy
      exact ih y (by omega) (List.all_eq_true.1 ha y hy) x hxy
    · rw [Ty.pieces_leaf hk] at hx
      simp only [List.mem_singleton] at hx
      subst hx
      exact ⟨h0, hk⟩
theorem topN_cls {a : Ty} (h : a.kind = 1) : topN a = a.name := by unfold topN; rw [h]; rfl
theorem topN_kind {a b : Ty} (h : a.kind = b.kind) (h1 : a.kind ≠ 1) : topN a = topN b := by
  unfold topN; rw [← h]
  by_cases h2 : a.kind = 2
  · rw [if_pos h2, if_pos h2]
  · rw [if_neg h2, if_neg h2]
    by_cases h3 : a.kind = 3
    · rw [if_pos h3, if_pos h3]
    · rw [if_neg h3, if_neg h3]
      by_cases h4 : a.kind = 4
      · rw [if_pos h4, if_pos h4]
      · rw [if_neg h4, if_neg h4, if_neg h1, if_neg h1]
theorem insideB_trans {l : List CI} (h : LookOk l) {a b c : Ty} (h1 : insideB l a b = true) (h2 : insideB l b c = true) : insideB l a c = true := by
  unfold insideB at h1 h2 ⊢
  by_cases c1 : c.kind = 1
  · rw [if_pos c1] at h2 ⊢
    by_cases b1 : b.kind = 1
    · rw [if_pos b1] at h1
      rw [topN_cls b1] at h2
      exact belowC_trans h h1 h2
    · rw [if_neg b1] at h1
      by_cases hab : a.kind = b.kind
      · rw [topN_kind hab (by rw [hab]; exact b1)]; exact h2
      · rw [if_pos hab] at h1; cases h1
  · rw [if_neg c1] at h2 ⊢
    by_cases hbc : b.kind = c.kind
    · rw [if_neg (fun q => q hbc)] at h2
      have b1 : b.kind ≠ 1 := by rw [hbc]; exact c1
      rw [if_neg b1] at h1
      by_cases hab : a.kind = b.kind
      · rw [if_neg (fun q => q hab)] at h1
        rw [if_neg (fun q => q (hab.trans hbc))]
        by_cases a2 : a.kind = 2
        · rw [if_pos a2] at h1 ⊢
          rw [if_pos (hab ▸ a2)] at h2
          simp only [Bool.and_eq_true, decide_eq_true_eq] at h1 h2 ⊢
          exact ⟨by omega, by omega⟩
        · rw [if_neg a2] at h1 ⊢
          rw [if_neg (hab ▸ a2)] at h2
          by_cases a3 : a.kind = 3
          · rw [if_pos a3] at h1 ⊢
            rw [if_pos (hab ▸ a3)] at h2
            simp only [decide_eq_true_eq] at h1 h2 ⊢
            omega
          · rw [if_neg a3] at h1 ⊢
            rw [if_neg (hab ▸ a3)] at h2
            exact belowC_trans h h1 h2
      · rw [if_pos hab] at h1; cases h1
    · rw [if_pos hbc] at h2; cases h2
theorem insideB_refl {l : List CI} (h : LookOk l) {a : Ty} (hf : formed0 l a = true) (hk : a.kind ≠ 5) : insideB l a a = true := by
  have hcls : ∀ {s : ByteArray}, hasB l s = true → belowC l s s = true := fun {s} hs => by
    unfold hasB at hs
    cases hc : clsAt l s with
    | none => rw [hc] at hs; cases hs
    | some i =>
      obtain ⟨x, hx, hn⟩ := clsAt_get hc
      exact belowC_self h (find_at h hx hn).1
  unfold formed0 at hf
  unfold insideB
  by_cases a1 : a.kind = 1
  · rw [if_pos a1, topN_cls a1]
    rw [if_pos (.inl a1)] at hf
    simp only [Bool.and_eq_true] at hf
    exact hcls hf.1.1.1
  · rw [if_neg a1, if_neg (fun q => q rfl)]
    by_cases a2 : a.kind = 2
    · rw [if_pos a2]; simp
    · rw [if_neg a2]
      by_cases a3 : a.kind = 3
      · rw [if_pos a3]; simp
      · rw [if_neg a3]
        by_cases a4 : a.kind = 4
        · rw [if_pos (.inr a4)] at hf
          simp only [Bool.and_eq_true] at hf
          exact hcls hf.1.1.1
        · rw [if_neg (by omega), if_neg a2, if_neg a3, if_neg hk] at hf
          cases hf
theorem withinB_trans {l : List CI} (h : LookOk l) {a b c : Ty} (h1 : withinB l a b = true) (h2 : withinB l b c = true) : withinB l a c = true := by
  unfold withinB at *
  rw [List.all_eq_true] at *
  intro x hx
  obtain ⟨y, hy, hxy⟩ := List.any_eq_true.1 (h1 x hx)
  obtain ⟨z, hz, hyz⟩ := List.any_eq_true.1 (h2 y hy)
  exact List.any_eq_true.2 ⟨z, hz, insideB_trans h hxy hyz⟩
theorem withinB_refl {l : List CI} (h : LookOk l) {a : Ty} (hf : formedB l a = true) : withinB l a a = true := by
  unfold withinB
  rw [List.all_eq_true]
  intro x hx
  obtain ⟨h0, hk⟩ := pieces_formed a.count a (Nat.le_refl _) hf x hx
  exact List.any_eq_true.2 ⟨x, hx, insideB_refl h h0 hk⟩
end Go.Proofs.YtepnmejahbiacaaGreat
set_option linter.unusedVariables false
set_option linter.unusedSimpArgs false
namespace Go.Proofs.YtepnmejahbiacaaGreat
open Go.RowKit
theorem base_get {l : List CI} (h : LookOk l) {i : Nat} {x : CI} (hx : baseL[i]? = some x) : l[i]? = some x := by
  have hb := h.2.2.1
  have hi : i < 11 := by
    have := (List.getElem?_eq_some_iff.1 hx).1
    rw [baseL_len] at this; exact this
  rw [← hb, List.getElem?_take, if_pos hi] at hx
  exact hx
theorem base0_obj : ∃ x, baseL[0]? = some x ∧ x.name = nObject ∧ x.cpl = [nObject] ∧ x.seal_ = false := ⟨_, rfl, rfl, rfl, rfl⟩
theorem base0_int : ∃ x, baseL[1]? = some x ∧ x.name = nInteger ∧ x.cpl = [nInteger, nObject] ∧ x.abs = false := ⟨_, rfl, rfl, rfl, rfl⟩
theorem base0_bool : ∃ x, baseL[2]? = some x ∧ x.name = nBoolean ∧ x.cpl = [nBoolean, nObject] ∧ x.abs = false := ⟨_, rfl, rfl, rfl, rfl⟩
theorem base0_cls : ∃ x, baseL[3]? = some x ∧ x.name = nClass ∧ x.cpl = [nClass, nObject] ∧ x.abs = false := ⟨_, rfl, rfl, rfl, rfl⟩
theorem below_base {l : List CI} (h : LookOk l) {i : Nat} {x : CI} (hx : baseL[i]? = some x) (s : ByteArray) : belowC l x.name s = true ↔ s ∈ x.cpl := by
  rw [belowC_iff]
  have hf := (find_at h (base_get h hx) rfl).1
  constructor
  · rintro ⟨y, hy, hs⟩
    rw [hf] at hy; cases hy; exact hs
  · intro hs; exact ⟨x, hf, hs⟩
theorem vd_abs {l : List CI} (h : LookOk l) {i : Nat} {x : CI} (hx : baseL[i]? = some x) (ha : x.abs = false ∨ x.seal_ = false) : vdB l x.name = false := by
  have hc := (find_at h (base_get h hx) rfl).2
  rw [vdB_eq h]
  rcases ha with ha | ha
  · have : absAt l x.name = false := by
      unfold absAt; rw [hc]
      show (l[i]?.map CI.abs).getD false = false
      rw [base_get h hx]; exact ha
    rw [this]; simp
  · have : cloB l x.name = false := by
      rw [cloB_eq h, hc]
      show (sealAt l i && _) = false
      unfold sealAt
      rw [base_get h hx]
      show (x.seal_ && _) = false
      rw [ha]; rfl
    rw [this]; rfl
theorem vd_obj {l : List CI} (h : LookOk l) : vdB l nObject = false := by obtain ⟨x, hx, e, _, ha⟩ := base0_obj; rw [← e]; exact vd_abs h hx (.inr ha)
theorem vd_cls {l : List CI} (h : LookOk l) : vdB l nClass = false := by obtain ⟨x, hx, e, _, ha⟩ := base0_cls; rw [← e]; exact vd_abs h hx (.inl ha)
theorem below_obj {l : List CI} (h : LookOk l) {s : ByteArray} : belowC l nObject s = true ↔ s = nObject := by
  obtain ⟨x, hx, e, hc, _⟩ := base0_obj; rw [← e, below_base h hx, hc, e]; simp
theorem below_int {l : List CI} (h : LookOk l) {s : ByteArray} : belowC l nInteger s = true ↔ s = nInteger ∨ s = nObject := by
  obtain ⟨x, hx, e, hc, _⟩ := base0_int; rw [← e, below_base h hx, hc, e]; simp
theorem below_bool {l : List CI} (h : LookOk l) {s : ByteArray} : belowC l nBoolean s = true ↔ s = nBoolean ∨ s = nObject := by
  obtain ⟨x, hx, e, hc, _⟩ := base0_bool; rw [← e, below_base h hx, hc, e]; simp
theorem below_cls {l : List CI} (h : LookOk l) {s : ByteArray} : belowC l nClass s = true ↔ s = nClass ∨ s = nObject := by
  obtain ⟨x, hx, e, hc, _⟩ := base0_cls; rw [← e, below_base h hx, hc, e]; simp
/-- A leaf is in the parts. -/
def Holds1 (l : List CI) (p : PartsT) (x : Ty) : Prop :=
  if x.kind = 1 then (if x.name = nInteger then wholeTy ∈ p.row 0 else if x.name = nBoolean then p.t0 = true ∧ p.t1 = true else vdB l x.name = true ∨ x ∈ p.row 2)
  else if x.kind = 2 then x ∈ p.row 0 else if x.kind = 3 then (x.lo = 0 → p.t0 = true) ∧ (x.lo = 1 → p.t1 = true) else if x.name = nObject then clsTy nClass ∈ p.row 2 else x ∈ p.row 1
structure PLe (p q : PartsT) : Prop where
  row : ∀ i x, x ∈ p.row i → x ∈ q.row i
  t0 : p.t0 = true → q.t0 = true
  t1 : p.t1 = true → q.t1 = true
theorem PLe.refl (p : PartsT) : PLe p p := ⟨fun _ _ h => h, id, id⟩
theorem PLe.trans {p q r : PartsT} (h : PLe p q) (k : PLe q r) : PLe p r := ⟨fun i x a => k.row i x (h.row i x a), fun a => k.t0 (h.t0 a), fun a => k.t1 (h.t1 a)⟩
theorem PLe.add (p : PartsT) (i : Fin 3) (y : Ty) : PLe p (p.add i y) := ⟨fun j x h => by
  show x ∈ if j = i then p.row j ++ [y] else p.row j
  split
  · exact List.mem_append.2 (.inl h)
  · exact h, id, id⟩
theorem PLe.addC (l : List CI) (p : PartsT) (t : Ty) : PLe p (addC l p t) := by
  unfold Go.Proofs.YtepnmejahbiacaaGreat.addC
  split
  · exact PLe.add _ _ _
  · split
    · exact ⟨fun _ _ h => h, fun _ => rfl, fun _ => rfl⟩
    · split
      · exact PLe.refl p
      · exact PLe.add _ _ _
theorem PLe.tru (p : PartsT) (n : Int) : PLe p (p.tru n) := ⟨fun _ _ h => h, fun h => by show (p.t0 || _) = true; rw [h]; rfl, fun h => by show (p.t1 || _) = true; rw [h]; rfl⟩
mutual
theorem PLe.addT (l : List CI) : ∀ (t : Ty) (p : PartsT), PLe p (addT l t p)
  | .mk k n lo hi args, p => by
    rw [Go.Proofs.YtepnmejahbiacaaGreat.addT]
    split
    · exact PLe.addC _ _ _
    · split
      · exact PLe.add _ _ _
      · split
        · exact PLe.tru _ _
        · split
          · unfold addM
            split
            · exact PLe.addC _ _ _
            · exact PLe.add _ _ _
          · exact PLe.addTs l args p
theorem PLe.addTs (l : List CI) : ∀ (L : List Ty) (p : PartsT), PLe p (addTs l L p)
  | [], p => by rw [Go.Proofs.YtepnmejahbiacaaGreat.addTs]; exact PLe.refl p
  | t :: r, p => by rw [Go.Proofs.YtepnmejahbiacaaGreat.addTs]; exact (PLe.addT l t p).trans (PLe.addTs l r _)
end
theorem Holds1.le {l : List CI} {p q : PartsT} {x : Ty} (h : Holds1 l p x) (k : PLe p q) : Holds1 l q x := by
  unfold Holds1 at *
  split
  · rename_i h1
    rw [if_pos h1] at h
    split
    · rename_i h2
      rw [if_pos h2] at h
      exact k.row 0 _ h
    · rename_i h2
      rw [if_neg h2] at h
      split
      · rename_i h3
        rw [if_pos h3] at h
        exact ⟨k.t0 h.1, k.t1 h.2⟩
      · rename_i h3
        rw [if_neg h3] at h
        exact h.imp id (k.row 2 _)
  · rename_i h1
    rw [if_neg h1] at h
    split
    · rename_i h2
      rw [if_pos h2] at h
      exact k.row 0 _ h
    · rename_i h2
      rw [if_neg h2] at h
      split
      · rename_i h3
        rw [if_pos h3] at h
        exact ⟨fun a => k.t0 (h.1 a), fun a => k.t1 (h.2 a)⟩
      · rename_i h3
        rw [if_neg h3] at h
        split
        · rename_i h4
          rw [if_pos h4] at h
          exact k.row 2 _ h
        · rename_i h4
          rw [if_neg h4] at h
          exact k.row 1 _ h
end Go.Proofs.YtepnmejahbiacaaGreat
