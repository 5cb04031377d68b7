/- Part 19 of the proof: Ps, Am, Bw. -/
import Derived.Test.YtepnmejahbiacaaGreatK05
import Derived.Test.YtepnmejahbiacaaGreatK06
import Derived.Test.YtepnmejahbiacaaGreatK07
import Derived.Test.YtepnmejahbiacaaGreatK12
import Derived.Test.YtepnmejahbiacaaGreatK13
import Derived.Test.YtepnmejahbiacaaGreatK14
import Derived.Test.YtepnmejahbiacaaGreatK15
import Derived.Test.YtepnmejahbiacaaGreatK18
import Derived.Test.YtepnmejahbiacaaGreatK17
import Derived.Test.YtepnmejahbiacaaGreatK04
import Derived.Test.YtepnmejahbiacaaGreatK10
import Derived.Test.YtepnmejahbiacaaGreatK11
import Derived.Test.YtepnmejahbiacaaGreatK09
import Derived.Test.YtepnmejahbiacaaGreatK03
import Derived.Test.YtepnmejahbiacaaGreatK16
import Derived.Test.YtepnmejahbiacaaGreatK02
import Derived.Test.YtepnmejahbiacaaGreatK01
import Derived.BigQuiet
import Derived.Carry
import Derived.Deep.Draws
import Derived.Deep.LoopGhost
import Derived.Deep.QuietTactic
import Derived.KernelRfl
import Derived.Laws.EntriesVeiled
import Derived.Lib.Hide
import Derived.LoopIn
import Derived.LoopNIn
import Derived.Maps.AppendAt
import Derived.Maps.Own
import Derived.Maps.OwnIn
import Derived.Outline
import Derived.OwnWalkIn
import Derived.RangeFuncBound
import Derived.RangeFuncCalls
import Derived.RangeFuncLeaves
import Derived.RangeFuncNested
import Derived.Recover
import Derived.StillTailTactics
import Derived.Stop.RegionWithIn
import Derived.TacticsInMore
import Derived.Test.YtepnmejahbiacaaGreatProg
import Derived.WalkKit
import Derived.WalkSpells
set_option linter.unusedVariables false
set_option linter.unusedSimpArgs false
namespace Go.Proofs.YtepnmejahbiacaaGreat
open Go.RowKit
/-- The linearization of a tag's class. -/
def cplAt (l : List CI) (t : Tag) : List ByteArray := ((l.find? fun x => decide (x.name = classOfB t)).map CI.cpl).getD []
mutual
/-- The pieces of a type. -/
def Ty.pieces : Ty → List Ty
  | .mk k n lo hi args => if k = 5 then Ty.piecesL args else [.mk k n lo hi args]
def Ty.piecesL : List Ty → List Ty
  | [] => []
  | t :: r => Ty.pieces t ++ Ty.piecesL r
end
theorem Ty.piecesL_eq : ∀ (l : List Ty), Ty.piecesL l = l.flatMap Ty.pieces
  | [] => by simp [Ty.piecesL]
  | t :: r => by rw [Ty.piecesL, Ty.piecesL_eq r]; simp
theorem Ty.pieces_union {t : Ty} (h : t.kind = 5) : t.pieces = t.args.flatMap Ty.pieces := by
  cases t with
  | mk k n lo hi args =>
    have hk : k = 5 := h
    rw [Ty.pieces, if_pos hk, Ty.piecesL_eq]; rfl
theorem Ty.pieces_leaf {t : Ty} (h : t.kind ≠ 5) : t.pieces = [t] := by
  cases t with
  | mk k n lo hi args =>
    have hk : ¬ k = 5 := h
    rw [Ty.pieces, if_neg hk]
def topN (a : Ty) : ByteArray := if a.kind = 2 then nInteger else if a.kind = 3 then nBoolean else if a.kind = 4 then nClass else if a.kind = 1 then a.name else ⟨#[]⟩
/-- A class is below another one (the first of that name). -/
def belowC (l : List CI) (a b : ByteArray) : Bool := match l.find? fun x => decide (x.name = a) with
  | none => false
  | some x => hasS x.cpl b
def insideB (l : List CI) (a b : Ty) : Bool :=
  if b.kind = 1 then belowC l (topN a) b.name
  else if a.kind ≠ b.kind then false
  else if a.kind = 2 then decide (b.lo ≤ a.lo) && decide (a.hi ≤ b.hi)
  else if a.kind = 3 then decide (a.lo = b.lo)
  else belowC l a.name b.name
def withinB (l : List CI) (s t : Ty) : Bool := s.pieces.all fun a => t.pieces.any fun b => insideB l a b
/-- How two types compare: 0 equal, 1 before, 2 behind, 3 neither. -/
def cmpT (l : List CI) (cpl : List ByteArray) (s t : Ty) : Int :=
  if s.kind = 1 ∧ t.kind = 1 then (if idx cpl t.name < idx cpl s.name then 2 else if idx cpl s.name < idx cpl t.name then 1 else 0)
  else if withinB l s t then (if withinB l t s then 0 else 1) else (if withinB l t s then 2 else 3)
def cmpAt (l : List CI) (ts : List Tag) (a b : Meth) (i : Nat) : Int := match ts[i]?, a.pars[i]?, b.pars[i]? with
  | some t, some p, some q => cmpT l (cplAt l t) p.type q.type
  | _, _, _ => 3
def precB (l : List CI) (ts : List Tag) (a b : Meth) : Bool :=
  ((List.range a.pars.length).all fun i => decide (cmpAt l ts a b i = 0 ∨ cmpAt l ts a b i = 1)) && (List.range a.pars.length).any fun i => decide (cmpAt l ts a b i = 1)
open Classical in
noncomputable def appB (l : List CI) (ts : List Tag) (m : Meth) : Bool := decide (Applies l ts m)
noncomputable def ordB (l : List CI) (ts : List Tag) (ms : List Meth) : List Meth × List Meth := orderG (precB l ts) (ms.filter (appB l ts)).length (ms.filter (appB l ts))
/-- A list of methods. -/
def parsOk (l : List CI) (n : Nat) (m : Meth) : Bool := decide (m.pars.length = n) && decide (m.pars.length ≤ 6) && m.pars.all fun p => decide (validErr l p.type = 0)
def AreMs (l : List CI) (ms : List Meth) : Bool := decide ((ms.map (·.id)).Nodup) && ms.all (parsOk l ((ms[0]?.map fun m => m.pars.length).getD 0))
open Classical in
noncomputable def checkAllE (l : List CI) (ms : List Meth) (ts : List Tag) : Int :=
  if ¬ LookOk l then 80 else if 300 < ms.length then 2
  else if AreMs l ms = false ∨ 6 < ts.length ∨ (0 < ms.length ∧ (ms[0]?.map fun m => m.pars.length).getD 0 ≠ ts.length) then 101
  else if ts.all (tagOk l) then 0 else 82
end Go.Proofs.YtepnmejahbiacaaGreat
namespace Go.Proofs.YtepnmejahbiacaaGreat
open Go.RowKit
theorem idx_some {l : List ByteArray} {x : ByteArray} {i : Nat} (hd : l.Nodup) (h : l[i]? = some x) : idx l x = i := by
  unfold idx
  have : l.findIdx? (fun y => decide (y = x)) = some i := by
    obtain ⟨hi, rfl⟩ := List.getElem?_eq_some_iff.1 h
    rw [List.findIdx?_eq_some_iff_getElem]
    refine ⟨hi, by simp, fun j hj => ?_⟩
    simp only [decide_eq_true_eq]
    intro e
    have := nodup_inj hd (i := j) (j := i) (List.getElem?_eq_getElem (by omega)) (by rw [e]; exact h)
    omega
  rw [this]
theorem idx_neg {l : List ByteArray} {x : ByteArray} (h : x ∉ l) : idx l x = -1 := by
  unfold idx
  have : l.findIdx? (fun y => decide (y = x)) = none := by
    rw [List.findIdx?_eq_none_iff]
    intro y hy
    simp only [decide_eq_false_iff_not]
    intro e; exact h (e ▸ hy)
  rw [this]
theorem heirNames (l : List CI) : names (heirsOf l) = l.map (·.name) := by
  unfold names heirsOf; rw [List.map_map]; rfl
theorem names_of {l : List CI} (h : LookOk l) : (l.map (·.name)).Nodup := by
  rw [← heirNames]; exact names_nodup (c3Check_zero h.2.2.2.2.1).2
theorem find_at {l : List CI} (h : LookOk l) {s : ByteArray} {i : Nat} {x : CI} (hx : l[i]? = some x) (hs : x.name = s) : l.find? (fun x => decide (x.name = s)) = some x ∧ clsAt l s = some i := by
  have hn : (l.map (·.name))[i]? = some s := by rw [List.getElem?_map, hx]; simp [hs]
  refine ⟨?_, lastAt_of hn (names_of h)⟩
  cases hf : l.find? (fun x => decide (x.name = s)) with
  | none =>
    have := List.find?_eq_none.1 hf x (List.mem_of_getElem? hx)
    simp [hs] at this
  | some y =>
    have hy := List.find?_some hf
    obtain ⟨j, hj⟩ := List.mem_iff_getElem?.1 (List.mem_of_find?_eq_some hf)
    have hjn : (l.map (·.name))[j]? = some s := by rw [List.getElem?_map, hj]; simpa using hy
    obtain rfl := nodup_inj (names_of h) hjn hn
    rw [hj] at hx; exact hx
theorem find_none {l : List CI} {s : ByteArray} (hf : l.find? (fun x => decide (x.name = s)) = none) : clsAt l s = none := by
  cases h : clsAt l s with
  | none => rfl
  | some i =>
    obtain ⟨x, hx, e⟩ := clsAt_get h
    have := List.find?_eq_none.1 hf x (List.mem_of_getElem? hx)
    simp [e] at this
theorem belowB_C {l : List CI} (h : LookOk l) (a b : ByteArray) : belowB l a b = belowC l a b := by
  unfold belowB belowC
  cases hf : l.find? (fun x => decide (x.name = a)) with
  | none => rw [find_none hf]
  | some x =>
    have hx := List.find?_some hf
    obtain ⟨j, hj⟩ := List.mem_iff_getElem?.1 (List.mem_of_find?_eq_some hf)
    simp only [(find_at h hj (by simpa using hx)).2, hj]
/-- A class as a type. -/
def clsT (n : ByteArray) : Ty := .mk 1 n 0 0 []
end Go.Proofs.YtepnmejahbiacaaGreat
set_option linter.unusedVariables false
set_option linter.unusedSimpArgs false
namespace Go.Proofs.YtepnmejahbiacaaGreat
open Go.RowKit
def hasI (l : List Int) (x : Int) : Bool := l.any fun y => decide (y = x)
theorem hasI_iff {l : List Int} {x : Int} : hasI l x = true ↔ x ∈ l := by
  unfold hasI; rw [List.any_eq_true]
  exact ⟨fun ⟨y, hy, e⟩ => by have := of_decide_eq_true e; rwa [← this], fun h => ⟨x, h, decide_eq_true rfl⟩⟩
theorem hasI_false {l : List Int} {x : Int} : hasI l x = false ↔ x ∉ l := by
  rw [← hasI_iff]; cases hasI l x <;> simp
def seenI (seen : List Int) (s : Int) : Option Value := if hasI seen s then some (.bool true) else none
theorem seenI_snoc (seen : List Int) (x : Int) : (fun s => if s = x then some (Value.bool true) else seenI seen s) = seenI (seen ++ [x]) := by
  funext s; unfold seenI hasI
  by_cases h : s = x
  · subst h; simp
  · have : ¬ x = s := fun e => h e.symm
    rw [if_neg h, List.any_append]; simp only [List.any_cons, List.any_nil, decide_eq_false this, Bool.or_false]
theorem seenI_get (seen : List Int) (s : Int) : (seenI seen s).getD (.bool false) = .bool (hasI seen s) := by
  unfold seenI; cases hasI seen s <;> rfl
noncomputable abbrev intKey : KeyKind Tryz.prog 3 Int := KeyKind.int Tryz.underlying3
theorem run_seenI {w : World} {b : Nat} {seen : List Int} (h : MapF intKey b (seenI seen) w) (s : Int) :
    (Instr.lookup 114 (.map (some b)) (.int .i64 s) false).run Tryz.prog w = .ok (.bool (hasI seen s)) w := by
  have := run_lookupF h Tryz.underlying114 (zero_bool w) s false
  rw [seenI_get] at this
  exact this
theorem areMs_dup {l : List CI} {ms : List Meth} {k : Nat} {x : Meth} (hx : ms[k]? = some x) (h : hasI ((ms.take k).map (·.id)) x.id = true) : AreMs l ms = false := by
  unfold AreMs
  rw [decide_eq_false]; rfl
  intro hd
  obtain ⟨hk, rfl⟩ := List.getElem?_eq_some_iff.1 hx
  obtain ⟨y, hy, e⟩ := List.mem_map.1 (hasI_iff.1 h)
  obtain ⟨j, hj⟩ := List.mem_iff_getElem?.1 hy
  rw [List.getElem?_take] at hj
  split at hj
  · have h1 : (ms.map (·.id))[j]? = some ms[k].id := by rw [List.getElem?_map, hj]; exact congrArg some e
    have h2 : (ms.map (·.id))[k]? = some ms[k].id := by rw [List.getElem?_map, hx]; rfl
    have := nodup_inj hd h1 h2
    omega
  · cases hj
theorem areMs_bad {l : List CI} {ms : List Meth} {x : Meth} {n0 : Nat} (hn0 : (ms[0]?.map fun m => m.pars.length).getD 0 = n0) (hx : x ∈ ms) (h : parsOk l n0 x = false) : AreMs l ms = false := by
  unfold AreMs
  rw [hn0, Bool.and_eq_false_iff]
  exact .inr (List.all_eq_false.2 ⟨x, hx, by rw [h]; decide⟩)
theorem parsOk_type {l : List CI} {n0 : Nat} {x : Meth} {p : Par} (hp : p ∈ x.pars) (h : validErr l p.type ≠ 0) : parsOk l n0 x = false := by
  unfold parsOk
  rw [Bool.and_eq_false_iff]
  exact .inr (List.all_eq_false.2 ⟨p, hp, by simpa using h⟩)
set_option maxHeartbeats 16000000 in
set_option maxRecDepth 100000 in
theorem areMethods_calls (AH : Option Addr) (cH : Nat) (l : List CI) (A : Option Addr) (c : Nat) (ms : List Meth) (W : World) (GH : Nat → Prop) (h : Held GH (CIs AH l) W) (hcH : l.length ≤ cH) (ol : ∀ x ∈ l, ciOk x) (hl : l.length ≤ 1000000)
    (G : Nat → Prop) (hM : Held G (Meths A ms) W) (hn : ms.length ≤ 1000000) (hL : LookOk l) (hs : ∀ m ∈ ms, ∀ p ∈ m.pars, TySmall p.type) (hp : ∀ m ∈ ms, m.pars.length ≤ 1000000) :
    Calls Tryz.prog 45 #[.slice AH l.length cH, .slice A ms.length c] W fun e W' => e = .returned (.bool (AreMs l ms)) ∧ Below W.heap.size W W' := by
  obtain ⟨n0, hn0⟩ : ∃ n0, (ms[0]?.map fun m => m.pars.length).getD 0 = n0 := ⟨_, rfl⟩
  have HN0 := Lib.hid hn0
  clear hn0
  have hmm := @run_makeMap Tryz.prog
  have HL := Lib.hid hL
  clear hL
  go_enter Tryz.func45, Tryz.ntmps45
  go_wp2
  clear hmm
  have hM0 := MapF.made intKey W W.heap.size rfl
  go_loopw [13] (fun i wr => ∃ k : Nat, k ≤ ms.length ∧ i = .int .i64 k ∧ MapF intKey W.heap.size (seenI ((ms.take k).map (·.id))) wr ∧ ((ms.take k).map (·.id)).Nodup ∧ (ms.take k).all (parsOk l n0) = true ∧ Below W.heap.size W wr) (fun i _ => ms.length - (intOf i).toNat)
  case atStart => exact ⟨0, Nat.zero_le _, rfl, hM0, by simp, by simp, (Below.refl _ W).alloc (Nat.le_refl _) _⟩
  case round =>
    clear hM0
    obtain ⟨k, hk, rfl, hMk, hnd, hall, hb⟩ := hrel
    have HND := Lib.hid hnd
    have HALL := Lib.hid hall
    clear hnd hall
    by_cases hlt : k < ms.length
    · obtain ⟨b, off, rfl⟩ := Slc.addrH hM (by omega)
      have hx : ms[k]? = some ms[k] := List.getElem?_eq_getElem hlt
      have h0 : ms[0]? = some ms[0] := List.getElem?_eq_getElem (by omega)
      have hxm : ms[k] ∈ ms := List.getElem_mem hlt
      generalize ms[k] = x at hx hxm
      generalize ms[0] = m0 at h0
      have HX := Lib.hid hx
      have HXM := Lib.hid hxm
      have HN : Hid (m0.pars.length = n0) := Lib.hid (by have := HN0.out; rw [h0] at this; simpa using this)
      obtain ⟨A1, c1, A2, c2, p1, p2, p3, p4, g0, g1, g2, g3, g4, g5, g6, g7⟩ := Meths.atH (hM.here.keep (Keep.below hb)) hx
      obtain ⟨B1, d1, B2, d2, _, _, _, _, _, _, q2, _, _, _, _, _⟩ := Meths.atH (hM.keep (Keep.all hb)) h0
      rw [Nat.zero_mul, Nat.add_zero] at q2
      have hpx := hp x hxm
      have hpm := hp m0 (List.mem_of_getElem? h0)
      have HSX := Lib.hid (hs x hxm)
      clear hx h0 hxm
      go_wp2_with (fail)
      obtain ⟨W1, hW1⟩ : ∃ W1, W1 = wr.alloc (.cells #[.int .i64 x.id, .string x.lib, .slice A1 x.pars.length c1, .int .i64 x.result.kind, .string x.result.name, .int .i64 x.result.lo, .int .i64 x.result.hi, .slice A2 x.result.args.length c2] 68) := ⟨_, rfl⟩
      rw [← hW1]
      have b1 : Below wr.heap.size wr W1 := by rw [hW1]; exact (Below.refl _ wr).alloc (Nat.le_refl _) _
      have xm : ∀ j u, [Value.int .i64 x.id, .string x.lib, .slice A1 x.pars.length c1, .int .i64 x.result.kind, .string x.result.name, .int .i64 x.result.lo, .int .i64 x.result.hi, .slice A2 x.result.args.length c2][j]? = some u → W1.cell? ⟨wr.heap.size, j, none⟩ = some u := fun j u hj => by rw [hW1]; exact cell_new wr _ _ _ rfl j u hj
      clear hW1
      have m0' := xm 0 _ rfl
      have m2' := xm 2 _ rfl
      have q2' := cell_all q2 b1
      have hM1 : MapF intKey W.heap.size (seenI ((ms.take k).map (·.id))) W1 := hMk.keep (Keep.all (G := fun _ => True) b1) trivial
      have hlk : ∀ n, (Instr.lookup 114 (.map (some W.heap.size)) (.int .i64 x.id) false).run Tryz.prog (W1.drewN n) = .ok (.bool (hasI ((ms.take k).map (·.id)) x.id)) (W1.drewN n) := fun n => run_seenI (hM1.keep (Keep.drewN (fun _ => True) W1 n) trivial) x.id
      have bW1 := hb.trans (b1.mono hb.size)
      have HM1 := Lib.hid hM1
      have hmlt := hMk.lt
      clear hM1 hMk g0 g1 g2 g3 g4 g5 g6 g7 q2 p3 p4 xm
      generalize hseen : (ms.take k).map (·.id) = seen at hlk
      have HSE := Lib.hid hseen
      clear hseen
      cases n1 : hasI seen x.id with
      | true =>
        have HB : Hid (AreMs l ms = false) := Lib.hid (areMs_dup HX.out (by rw [HSE.out]; exact n1))
        rw [n1] at hlk
        clear n1
        go_quiet (fail)
        go_wp2
        go_ret
        exact ⟨(by rw [HB.out]; try rfl), bW1.trans ((drewN_below _ _ _).mono bW1.size)⟩
      | false =>
        rw [n1] at hlk
        by_cases n2 : x.pars.length = m0.pars.length
        · have t2 : ((x.pars.length : Int) != (m0.pars.length : Int)) = false := bne_eq_false_iff_eq.2 (by omega)
          by_cases n3 : 6 < x.pars.length
          · have n3' : (6 : Int) < (x.pars.length : Int) := by omega
            have HB : Hid (AreMs l ms = false) := Lib.hid (areMs_bad HN0.out HXM.out (by unfold parsOk; rw [decide_eq_false (show ¬ x.pars.length ≤ 6 by omega)]; simp))
            clear n1 n2
            go_quiet (fail)
            go_wp2
            go_ret
            exact ⟨(by rw [HB.out]; try rfl), bW1.trans ((drewN_below _ _ _).mono bW1.size)⟩
          · have n3' : ¬ (6 : Int) < (x.pars.length : Int) := by omega
            have HQ := Lib.hid n1
            have HE := Lib.hid n2
            have N3 := Lib.hid n3
            clear n1 n2
            go_quiet (fail)
            have hMs : MapF intKey W.heap.size (seenI seen) W1 := HSE.out ▸ HM1.out
            go_wp2_with (at_mapUpdate; refine wp_mapUpdate intKey _ rfl 114 4 _ _ _ rfl Tryz.underlying114 W.heap.size (seenI seen) (hMs.keep (Keep.drewN (fun _ => True) W1 _) trivial) rfl x.id rfl (.bool true) rfl ?_)
            intro w3 hM3 hg3
            rw [seenI_snoc] at hM3
            have hbq : Below W.heap.size W w3 := (bW1.trans ((drewN_below _ _ _).mono bW1.size)).grown hg3 (by have := bW1.size; simpa using this) fun k e => by cases e; exact Nat.le_refl _
            have hkq : Keep (fun b => b ≠ W.heap.size) W1 w3 := (Keep.drewN _ W1 _).trans (Keep.grown hg3 fun b hb e => hb (by cases e; rfl))
            have m2q := cell_keep m2' hkq (show wr.heap.size ≠ W.heap.size by omega)
            have p2q : Held (fun b => b < W.heap.size) (Pars A1 x.pars) w3 := p2.keep ((Keep.all b1).trans (hkq.mono fun b hb => by omega))
            clear m0' m2' q2' hMs
            clear hlk n3'
            go_wp2_with (fail)
            go_loopw [44] (fun i w2 => ∃ j : Nat, j ≤ x.pars.length ∧ i = .int .i64 j ∧ (∀ (i : Nat) (p : Par), i < j → x.pars[i]? = some p → validErr l p.type = 0) ∧ Below w3.heap.size w3 w2) (fun i _ => x.pars.length - (intOf i).toNat)
            case atStart => exact ⟨0, Nat.zero_le _, rfl, fun i p h => absurd h (by omega), Below.refl _ _⟩
            case round =>
              obtain ⟨j, hj, rfl, hv, hb2⟩ := hrel
              have HV := Lib.hid hv
              clear hv
              have bW2 := hbq.trans (hb2.mono hbq.size)
              by_cases hjl : j < x.pars.length
              · obtain ⟨bp, offp, rfl⟩ := Slc.addrH p2q (by omega)
                have hy : x.pars[j]? = some x.pars[j] := List.getElem?_eq_getElem hjl
                generalize x.pars[j] = p at hy
                have HY := Lib.hid hy
                obtain ⟨A3, c3, r1, r2, g0, g1, g2, g3, g4, g5⟩ := Pars.atH (p2q.keep (Keep.all hb2)) hy
                have HVal := Lib.hid (fun V (hv : Below wr.heap.size wr V) => Valid_calls AH cH l p.type A3 c3 V hcH GH ((h.keep (Keep.all bW2)).keep (Keep.all hv)) ol hl _ (r2.keep (Keep.all hv)) r1 (HSX.out p (List.mem_of_getElem? hy)))
                have bw2 : Below wr.heap.size wr (wr.alloc (.cells #[.string p.name, .int .i64 p.type.kind, .string p.type.name, .int .i64 p.type.lo, .int .i64 p.type.hi, .slice A3 p.type.args.length c3] 76)) := (Below.refl _ wr).alloc (Nat.le_refl _) _
                clear hy
                go_wp2_with (fail)
                refine (HVal.out _ bw2).mono ?_
                clear HVal
                rintro e V ⟨hbv, (⟨hn', _⟩ | ⟨_, rfl⟩)⟩
                · exact absurd HL.out hn'
                have bV := bw2.trans (hbv.mono bw2.size)
                by_cases hz : validErr l p.type = 0
                · have HZ := Lib.hid hz
                  have t3 : (validErr l p.type != 0) = false := bne_eq_false_iff_eq.2 hz
                  clear hz
                  go_wp2
                  go_roundw
                  case rel =>
                    refine ⟨j + 1, by omega, by go_num, fun i p' hi hp => ?_, hb2.trans (bV.mono hb2.size)⟩
                    rcases Nat.lt_or_ge i j with q | q
                    · exact HV.out i p' q hp
                    · obtain rfl : i = j := by omega
                      rw [HY.out] at hp; cases hp; exact HZ.out
                  case measure => simp [intOf]; omega
                · have t3 : (validErr l p.type != 0) = true := by rw [bne_iff_ne]; exact hz
                  have HB : Hid (AreMs l ms = false) := Lib.hid (areMs_bad HN0.out HXM.out (parsOk_type (List.mem_of_getElem? HY.out) hz))
                  clear hz
                  go_wp2
                  go_ret
                  exact ⟨(by rw [HB.out]; try rfl), bW2.trans (bV.mono bW2.size)⟩
              · obtain rfl : j = x.pars.length := by omega
                have hM2 : MapF intKey W.heap.size (seenI (seen ++ [x.id])) wr := hM3.keep (Keep.all (G := fun _ => True) hb2) trivial
                go_wp2
                go_roundw
                case rel =>
                  refine ⟨k + 1, by omega, by go_num, ?_, ?_, ?_, bW2⟩
                  · rw [take_snoc HX.out, List.map_append, HSE.out]; exact hM2
                  · rw [take_snoc HX.out, List.map_append]
                    refine List.nodup_append.2 ⟨HND.out, by simp, fun a ha b hb e => ?_⟩
                    simp at hb; subst hb; subst e
                    rw [HSE.out] at ha
                    exact hasI_false.1 HQ.out ha
                  · rw [take_snoc HX.out, List.all_append, HALL.out]
                    have hp1 : parsOk l n0 x = true := by
                      unfold parsOk
                      rw [decide_eq_true (show x.pars.length = n0 by rw [HE.out, HN.out]), decide_eq_true (show x.pars.length ≤ 6 by have := N3.out; omega)]
                      simp only [Bool.true_and, List.all_eq_true, decide_eq_true_eq]
                      intro p hp
                      obtain ⟨i, hi⟩ := List.mem_iff_getElem?.1 hp
                      exact HV.out i p (List.getElem?_eq_some_iff.1 hi).1 hi
                    simp [hp1]
                case measure => simp [intOf]; omega
        · have t2 : ((x.pars.length : Int) != (m0.pars.length : Int)) = true := by rw [bne_iff_ne]; omega
          have HB : Hid (AreMs l ms = false) := Lib.hid (areMs_bad HN0.out HXM.out (by unfold parsOk; rw [decide_eq_false (show ¬ x.pars.length = n0 by rw [← HN.out]; exact n2)]; rfl))
          clear n1 n2
          go_quiet (fail)
          go_wp2
          go_ret
          exact ⟨(by rw [HB.out]; try rfl), bW1.trans ((drewN_below _ _ _).mono bW1.size)⟩
    · obtain rfl : k = ms.length := by omega
      have HB : Hid (AreMs l ms = true) := Lib.hid (by
        have h1 := HND.out; have h2 := HALL.out
        rw [List.take_length] at h1 h2
        unfold AreMs; rw [HN0.out, h2, decide_eq_true h1]; rfl)
      go_wp2
      go_ret
      exact ⟨(by rw [HB.out]; try rfl), hb⟩
end Go.Proofs.YtepnmejahbiacaaGreat
set_option linter.unusedVariables false
set_option linter.unusedSimpArgs false
namespace Go.Proofs.YtepnmejahbiacaaGreat
open Go.RowKit
set_option maxHeartbeats 4000000 in
set_option maxRecDepth 100000 in
theorem below1_calls (x : CI) (A2 A3 : Option Addr) (c2 c3 : Nat) (s : ByteArray) (sb : Nat) (w : World) (hs : w.cell? ⟨sb, 0, none⟩ = some (.string s)) :
    Calls Tryz.prog 174 #[.agg #[.string x.name, .string x.lib, .slice A2 x.supers.length c2, .slice A3 x.cpl.length c3, .bool x.abs, .bool x.seal_], .pointer (some ⟨sb, 0, none⟩)] w fun e w' => e = .returned (.bool (decide (x.name = s))) ∧ Below w.heap.size w w' := by
  have hl := cell_lt hs
  go_enter Tryz.func174, Tryz.ntmps174
  go_wp2
  go_ret
  exact ⟨rfl, (Below.refl _ w).alloc (Nat.le_refl _) _⟩
set_option maxHeartbeats 4000000 in
set_option maxRecDepth 100000 in
theorem belowPlace_calls (A : Option Addr) (c : Nat) (l : List CI) (s : ByteArray) (sb : Nat) (w : World) (hs : w.cell? ⟨sb, 0, none⟩ = some (.string s)) (G : Nat → Prop) (h : Held G (CIs A l) w) (hl : l.length ≤ 1000000) :
    Calls Tryz.prog 91 #[.slice A l.length c, .func (.func 174) #[] #[.pointer (some ⟨sb, 0, none⟩)]] w
      (Found (fun i wr => Below w.heap.size w wr ∧ ∀ j x, j < i → l[j]? = some x → x.name ≠ s) (fun i wr => Below w.heap.size w wr ∧ (∀ j x, j < i → l[j]? = some x → x.name ≠ s) ∧ ∃ x, l[i]? = some x ∧ x.name = s) (Panics fun _ _ => False) l.length) := by
  obtain ⟨b, off, hbo⟩ : ∃ b off, 0 < l.length → A = some ⟨b, off, none⟩ := by
    by_cases h0 : 0 < l.length
    · obtain ⟨b, off, e⟩ := Slc.addrH h h0
      exact ⟨b, off, fun _ => e⟩
    · exact ⟨0, 0, fun h => absurd h h0⟩
  refine indexFuncCls A l.length c 174 _ (fun i => (l[i]?.map fun x => Value.string x.name).getD undef) (fun i => (l[i]?.map fun x => Value.string x.lib).getD undef) (fun i => (w.cell? ⟨b, off + i * 6 + 2, none⟩).getD undef) (fun i => (w.cell? ⟨b, off + i * 6 + 3, none⟩).getD undef)
    (fun i => (l[i]?.map fun x => Value.bool x.abs).getD undef) (fun i => (l[i]?.map fun x => Value.bool x.seal_).getD undef) w (by omega) (enters Tryz.func174 (by kernel_rfl) rfl) _ _ _ ⟨Below.refl _ _, fun j x hj => absurd hj (by omega)⟩ (fun h0 => ⟨b, off, hbo h0⟩) ?_ ?_
  · rintro i wr b' off' rfl hi ⟨hcw, _⟩
    have hb' := hbo (by omega)
    simp only [Option.some.injEq, Addr.mk.injEq, and_true] at hb'
    obtain ⟨rfl, rfl⟩ := hb'
    have hx : l[i]? = some l[i] := List.getElem?_eq_getElem hi
    obtain ⟨A2, c2, A3, c3, p1, p2, p3, p4, g0, g1, g2, g3, g4, g5⟩ := CIs.atH h hx
    simp only [hx, Option.map_some, Option.getD_some, g2, g3]
    exact ⟨cell_all g0 hcw, cell_all g1 hcw, cell_all g2 hcw, cell_all g3 hcw, cell_all g4 hcw, cell_all g5 hcw⟩
  · rintro i wr hi ⟨hcw, hjw⟩
    have hb' := hbo (by omega)
    subst hb'
    have hx : l[i]? = some l[i] := List.getElem?_eq_getElem hi
    generalize l[i] = x at hx
    obtain ⟨A2, c2, A3, c3, p1, p2, p3, p4, g0, g1, g2, g3, g4, g5⟩ := CIs.atH h hx
    simp only [hx, Option.map_some, Option.getD_some, g2, g3]
    refine (below1_calls x A2 A3 c2 c3 s sb wr (cell_all hs hcw)).mono ?_
    rintro e w' ⟨rfl, hb2⟩
    have hb3 := hcw.trans (hb2.mono hcw.size)
    by_cases hq : x.name = s
    · exact .inr (.inl ⟨by rw [decide_eq_true hq], hb3, hjw, x, hx, hq⟩)
    · refine .inl ⟨by rw [decide_eq_false hq], hb3, fun j y hj hy => ?_⟩
      rcases Nat.lt_or_ge j i with h | h
      · exact hjw j y h hy
      · obtain rfl : j = i := by omega
        rw [hx] at hy; cases hy; exact hq
set_option maxHeartbeats 8000000 in
set_option maxRecDepth 100000 in
theorem mbelow_calls (A : Option Addr) (c : Nat) (l : List CI) (a b : ByteArray) (W : World) (G : Nat → Prop) (h : Held G (CIs A l) W) (hl : l.length ≤ 1000000) (ol : ∀ x ∈ l, ciOk x) :
    Calls Tryz.prog 131 #[.slice A l.length c, .string a, .string b] W fun e W' => e = .returned (.bool (belowC l a b)) ∧ Below W.heap.size W W' := by
  have HPL := Lib.hid (fun V (hv : Below W.heap.size W V) (hs : V.cell? ⟨W.heap.size, 0, none⟩ = some (.string a)) => belowPlace_calls A c l a W.heap.size V hs G (h.keep (Keep.all hv)) hl)
  have b1 : Below W.heap.size W (W.alloc (.cells #[.string a] 9)) := (Below.refl _ W).alloc (Nat.le_refl _) _
  go_enter Tryz.func131, Tryz.ntmps131
  go_wp2_with (fail)
  refine (HPL.out _ b1 (cell_new W _ _ _ rfl 0 _ rfl)).mono ?_
  rintro e V (⟨rfl, hbv, hno⟩ | ⟨i, hi, rfl, hbv, hfst, x, hx, hxn⟩ | ⟨_, _, hf⟩)
  · have hb0 : decide ((0 : Int) ≤ -1) = false := by decide
    have HB : Hid (belowC l a b = false) := Lib.hid (by
      unfold belowC
      cases hf : l.find? (fun x => decide (x.name = a)) with
      | none => rfl
      | some x =>
        obtain ⟨j, hj⟩ := List.mem_iff_getElem?.1 (List.mem_of_find?_eq_some hf)
        exact absurd (by simpa using List.find?_some hf) (hno j x (List.getElem?_eq_some_iff.1 hj).1 hj))
    have bV := b1.trans (hbv.mono b1.size)
    clear hno
    go_wp2
    go_ret
    exact ⟨(by rw [HB.out]; try rfl), bV⟩
  · have bV := b1.trans (hbv.mono b1.size)
    have HB : Hid (belowC l a b = hasS x.cpl b) := Lib.hid (by
      unfold belowC
      have hf : l.find? (fun x => decide (x.name = a)) = some x := by
        rw [List.find?_eq_some_iff_getElem]
        obtain ⟨hi', hx'⟩ := List.getElem?_eq_some_iff.1 hx
        refine ⟨by simpa using hxn, i, hi', hx', fun j hj => ?_⟩
        have := hfst j _ hj (List.getElem?_eq_getElem (by omega))
        simpa using this
      rw [hf])
    obtain ⟨bh, offh, rfl⟩ := Slc.addrH h (by omega)
    obtain ⟨A2, c2, A3, c3, p1, p2, p3, p4, g0, g1, g2, g3, g4, g5⟩ := CIs.atH (h.keep (Keep.all bV)) hx
    have hcx := (ol x (List.mem_of_getElem? hx)).2
    have HC := Lib.hid (slContains_calls A3 c3 x.cpl b V p4.now (by omega))
    have hi0 : (0 : Int) ≤ (i : Int) := Int.natCast_nonneg _
    clear hx hxn hfst g0 g1 g2 g4 g5
    go_wp2_with (go_at_call 175; refine (HC.out).mono ?_; rintro e w' ⟨rfl, rfl⟩)
    go_ret
    exact ⟨(by rw [HB.out]; try rfl), bV⟩
  · exact hf.elim
/-- What the map 'top' holds. -/
def topM (n : ByteArray) (k : Int) : Option Value := if k = 1 then some (.string n) else if k = 4 then some (.string nClass) else if k = 3 then some (.string nBoolean) else if k = 2 then some (.string nInteger) else none
theorem topM_get (a : Ty) : (topM a.name a.kind).getD (.string ⟨#[]⟩) = .string (topN a) := by
  unfold topM topN
  by_cases h1 : a.kind = 1
  · simp [h1]
  by_cases h2 : a.kind = 2
  · simp [h2]
  by_cases h3 : a.kind = 3
  · simp [h3]
  by_cases h4 : a.kind = 4
  · simp [h4]
  simp [h1, h2, h3, h4]
theorem zero_str (w : World) : (zeroValue 9).run Tryz.prog w = .ok (.string ⟨#[]⟩) w := by kernel_rfl
noncomputable abbrev intKey2 : KeyKind Tryz.prog 3 Int := KeyKind.int Tryz.underlying3
theorem run_top {w : World} {b : Nat} {n : ByteArray} (h : MapF intKey2 b (topM n) w) (a : Ty) (hn : n = a.name) :
    (Instr.lookup 163 (.map (some b)) (.int .i64 a.kind) false).run Tryz.prog w = .ok (.string (topN a)) w := by
  subst hn
  have := run_lookupF h Tryz.underlying163 (zero_str w) a.kind false
  rw [topM_get] at this
  exact this
set_option maxHeartbeats 16000000 in
set_option maxRecDepth 100000 in
theorem inside_calls (A : Option Addr) (c : Nat) (l : List CI) (a b : Ty) (Aa Ab : Option Addr) (ca cb : Nat) (W : World) (G : Nat → Prop) (h : Held G (CIs A l) W) (hl : l.length ≤ 1000000) (ol : ∀ x ∈ l, ciOk x) :
    Calls Tryz.prog 86 #[.slice A l.length c, tyV a Aa ca, tyV b Ab cb] W fun e W' => e = .returned (.bool (insideB l a b)) ∧ Below W.heap.size W W' := by
  obtain ⟨W1, hW1⟩ : ∃ W1, W1 = (W.alloc (.cells #[.int .i64 a.kind, .string a.name, .int .i64 a.lo, .int .i64 a.hi, .slice Aa a.args.length ca] 36)).alloc (.cells #[.int .i64 b.kind, .string b.name, .int .i64 b.lo, .int .i64 b.hi, .slice Ab b.args.length cb] 36) := ⟨_, rfl⟩
  have b1 : Below W.heap.size W W1 := by rw [hW1]; exact ((Below.refl _ W).alloc (Nat.le_refl _) _).alloc (by simp) _
  have xa : ∀ j u, [Value.int .i64 a.kind, .string a.name, .int .i64 a.lo, .int .i64 a.hi, .slice Aa a.args.length ca][j]? = some u → W1.cell? ⟨W.heap.size, j, none⟩ = some u := fun j u hj => by rw [hW1]; exact alloc_cell' (cell_new W _ _ _ rfl j u hj)
  have xb : ∀ j u, [Value.int .i64 b.kind, .string b.name, .int .i64 b.lo, .int .i64 b.hi, .slice Ab b.args.length cb][j]? = some u → W1.cell? ⟨W.heap.size + 1, j, none⟩ = some u := fun j u hj => by rw [hW1]; exact cell_new (W.alloc _) _ _ _ (by simp) j u hj
  obtain ⟨M, hM⟩ : ∃ M, M = W1.heap.size := ⟨_, rfl⟩
  obtain ⟨W2, hW2⟩ : ∃ W2, W2 = W1.alloc (.map #[] 0) := ⟨_, rfl⟩
  have hmk : (Instr.makeMap 163 none).run Tryz.prog W1 = .ok (.map (some M)) W2 := by rw [hM, hW2]; rfl
  have hM0 : MapF intKey2 M (fun _ => none) W2 := by rw [hM, hW2]; exact MapF.made intKey2 W1 _ rfl
  obtain ⟨w3, hr3, hM3, hg3⟩ := run_updateF hM0 (t := 163) (et := 9) Tryz.underlying163 2 (.string nInteger)
  obtain ⟨w4, hr4, hM4, hg4⟩ := run_updateF hM3 (t := 163) (et := 9) Tryz.underlying163 3 (.string nBoolean)
  obtain ⟨w5, hr5, hM5, hg5⟩ := run_updateF hM4 (t := 163) (et := 9) Tryz.underlying163 4 (.string nClass)
  obtain ⟨w6, hr6, hM6, hg6⟩ := run_updateF hM5 (t := 163) (et := 9) Tryz.underlying163 1 (.string a.name)
  have hr3' : (Instr.mapUpdate 163 (.map (some M)) (.int .i64 2) (.string ⟨#[60, 105, 110, 116, 101, 103, 101, 114, 62]⟩)).run Tryz.prog W2 = .ok () w3 := hr3
  have hr4' : (Instr.mapUpdate 163 (.map (some M)) (.int .i64 3) (.string ⟨#[60, 98, 111, 111, 108, 101, 97, 110, 62]⟩)).run Tryz.prog w3 = .ok () w4 := hr4
  have hr5' : (Instr.mapUpdate 163 (.map (some M)) (.int .i64 4) (.string ⟨#[60, 99, 108, 97, 115, 115, 62]⟩)).run Tryz.prog w4 = .ok () w5 := hr5
  have hr6' : (Instr.mapUpdate 163 (.map (some M)) (.int .i64 1) (.string a.name)).run Tryz.prog w5 = .ok () w6 := hr6
  have hMt : MapF intKey2 M (topM a.name) w6 := hM6
  have hlk := run_top hMt a rfl
  have kg : ∀ {u v : World}, u.grownBy v (some M) → Keep (fun b => b ≠ M) u v := fun h => Keep.grown h fun b hb e => hb (by cases e; rfl)
  have k2 : Keep (fun b => b ≠ M) W1 W2 := by rw [hW2]; exact Keep.alloc _ _ _
  have k5 := ((k2.trans (kg hg3)).trans (kg hg4)).trans (kg hg5)
  have k6 := k5.trans (kg hg6)
  have b6 : Below W1.heap.size W1 w6 := by
    have z2 : W1.heap.size ≤ W2.heap.size := k2.1
    have b2 : Below W1.heap.size W1 W2 := by rw [hW2]; exact (Below.refl _ W1).alloc (Nat.le_refl _) _
    have q : ∀ k, some M = some k → W1.heap.size ≤ k := fun k e => by cases e; omega
    exact (((b2.grown hg3 z2 q).grown hg4 (k2.trans (kg hg3)).1 q).grown hg5 ((k2.trans (kg hg3)).trans (kg hg4)).1 q).grown hg6 k5.1 q
  have hlM : W.heap.size + 2 = M := by rw [hM, hW1]; simp
  have an5 := cell_keep (xa 1 _ rfl) k5 (show W.heap.size ≠ M by omega)
  have a0 := cell_keep (xa 0 _ rfl) k6 (show W.heap.size ≠ M by omega)
  have a1 := cell_keep (xa 1 _ rfl) k6 (show W.heap.size ≠ M by omega)
  have a2 := cell_keep (xa 2 _ rfl) k6 (show W.heap.size ≠ M by omega)
  have a3 := cell_keep (xa 3 _ rfl) k6 (show W.heap.size ≠ M by omega)
  have c0 := cell_keep (xb 0 _ rfl) k6 (show W.heap.size + 1 ≠ M by omega)
  have c1 := cell_keep (xb 1 _ rfl) k6 (show W.heap.size + 1 ≠ M by omega)
  have c2 := cell_keep (xb 2 _ rfl) k6 (show W.heap.size + 1 ≠ M by omega)
  have c3 := cell_keep (xb 3 _ rfl) k6 (show W.heap.size + 1 ≠ M by omega)
  have bW6 := b1.trans (b6.mono b1.size)
  have HBE := Lib.hid (fun p q => mbelow_calls A c l p q w6 G (h.keep (Keep.all bW6)) hl ol)
  rw [hW1] at hmk
  clear hW1
  clear hM0 hM3 hM4 hM5 hM6 hg3 hg4 hg5 hg6 hr3 hr4 hr5 hr6 hMt kg k2 k5 k6 xa xb b6 hM hW2 hlM h ol
  go_enter Tryz.func86, Tryz.ntmps86
  by_cases hk : b.kind = 1
  · have t1 : (b.kind == 1) = true := beq_iff_eq.2 hk
    have HC : Hid (insideB l a b = belowC l (topN a) b.name) := Lib.hid (by unfold insideB; rw [if_pos hk])
    clear hk
    go_wp2_with (go_at_call 131; refine (HBE.out _ _).mono ?_; rintro e V ⟨rfl, hbv⟩)
    go_ret
    exact ⟨(by rw [HC.out]; try rfl), bW6.trans (hbv.mono bW6.size)⟩
  · have t1 : (b.kind == 1) = false := beq_eq_false_iff_ne.2 hk
    by_cases hk2 : a.kind = b.kind
    · have t2 : (a.kind != b.kind) = false := bne_eq_false_iff_eq.2 hk2
      by_cases hk3 : a.kind = 2
      · have t3 : (a.kind == 2) = true := beq_iff_eq.2 hk3
        have HC : Hid (insideB l a b = (decide (b.lo ≤ a.lo) && decide (a.hi ≤ b.hi))) := Lib.hid (by unfold insideB; rw [if_neg hk, if_neg (fun h => h hk2), if_pos hk3])
        clear hk hk2 hk3
        by_cases q1 : b.lo ≤ a.lo
        · by_cases q2 : a.hi ≤ b.hi
          · have HD : Hid (insideB l a b = true) := Lib.hid (by rw [HC.out, decide_eq_true q1, decide_eq_true q2]; rfl)
            have d1 : decide (b.lo ≤ a.lo) = true := decide_eq_true q1
            have d2 : decide (a.hi ≤ b.hi) = true := decide_eq_true q2
            clear q1 q2
            go_wp2
            go_ret
            exact ⟨(by rw [HD.out]; try rfl), bW6⟩
          · have HD : Hid (insideB l a b = false) := Lib.hid (by rw [HC.out, decide_eq_false q2]; simp)
            have d1 : decide (b.lo ≤ a.lo) = true := decide_eq_true q1
            have d2 : decide (a.hi ≤ b.hi) = false := decide_eq_false q2
            clear q1 q2
            go_wp2
            go_ret
            exact ⟨(by rw [HD.out]; try rfl), bW6⟩
        · have HD : Hid (insideB l a b = false) := Lib.hid (by rw [HC.out, decide_eq_false q1]; rfl)
          have d1 : decide (b.lo ≤ a.lo) = false := decide_eq_false q1
          clear q1
          go_wp2
          go_ret
          exact ⟨(by rw [HD.out]; try rfl), bW6⟩
      · have t3 : (a.kind == 2) = false := beq_eq_false_iff_ne.2 hk3
        by_cases hk4 : a.kind = 3
        · have t4 : (a.kind == 3) = true := beq_iff_eq.2 hk4
          have HC : Hid (insideB l a b = (a.lo == b.lo)) := Lib.hid (by
            unfold insideB; rw [if_neg hk, if_neg (fun h => h hk2), if_neg hk3, if_pos hk4]
            by_cases e : a.lo = b.lo
            · rw [decide_eq_true e, beq_iff_eq.2 e]
            · rw [decide_eq_false e, beq_eq_false_iff_ne.2 e])
          clear hk hk2 hk3 hk4
          go_wp2
          go_ret
          exact ⟨(by rw [HC.out]; try rfl), bW6⟩
        · have t4 : (a.kind == 3) = false := beq_eq_false_iff_ne.2 hk4
          have HC : Hid (insideB l a b = belowC l a.name b.name) := Lib.hid (by unfold insideB; rw [if_neg hk, if_neg (fun h => h hk2), if_neg hk3, if_neg hk4])
          clear hk hk2 hk3 hk4
          go_wp2_with (go_at_call 131; refine (HBE.out _ _).mono ?_; rintro e V ⟨rfl, hbv⟩)
          go_ret
          exact ⟨(by rw [HC.out]; try rfl), bW6.trans (hbv.mono bW6.size)⟩
    · have t2 : (a.kind != b.kind) = true := by rw [bne_iff_ne]; exact hk2
      have HC : Hid (insideB l a b = false) := Lib.hid (by unfold insideB; rw [if_neg hk, if_pos hk2])
      clear hk hk2
      go_wp2
      go_ret
      exact ⟨(by rw [HC.out]; try rfl), bW6⟩
end Go.Proofs.YtepnmejahbiacaaGreat
