/- Part 38 of the proof: Ww, Wc, Sw, Mn. -/
import Derived.Test.YtepnmejahbiacaaGreatL20
import Derived.Test.YtepnmejahbiacaaGreatL04
import Derived.Test.YtepnmejahbiacaaGreatL05
import Derived.Test.YtepnmejahbiacaaGreatL18
import Derived.Test.YtepnmejahbiacaaGreatL07
import Derived.Test.YtepnmejahbiacaaGreatL12
import Derived.Test.YtepnmejahbiacaaGreatL13
import Derived.Test.YtepnmejahbiacaaGreatL14
import Derived.Test.YtepnmejahbiacaaGreatL15
import Derived.Test.YtepnmejahbiacaaGreatL17
import Derived.Test.YtepnmejahbiacaaGreatL33
import Derived.Test.YtepnmejahbiacaaGreatL21
import Derived.Test.YtepnmejahbiacaaGreatL34
import Derived.Test.YtepnmejahbiacaaGreatL08
import Derived.Test.YtepnmejahbiacaaGreatL16
import Derived.Test.YtepnmejahbiacaaGreatL35
import Derived.Test.YtepnmejahbiacaaGreatL32
import Derived.Test.YtepnmejahbiacaaGreatL06
import Derived.Test.YtepnmejahbiacaaGreatL10
import Derived.Test.YtepnmejahbiacaaGreatL11
import Derived.Test.YtepnmejahbiacaaGreatL26
import Derived.Test.YtepnmejahbiacaaGreatL29
import Derived.Test.YtepnmejahbiacaaGreatL36
import Derived.Test.YtepnmejahbiacaaGreatL09
import Derived.Test.YtepnmejahbiacaaGreatL03
import Derived.Test.YtepnmejahbiacaaGreatL31
import Derived.Test.YtepnmejahbiacaaGreatL02
import Derived.Test.YtepnmejahbiacaaGreatL01
import Derived.BigQuiet
import Derived.Carry
import Derived.Deep.AppendLies
import Derived.Deep.CutBlock
import Derived.Deep.DeepCutAuto
import Derived.Deep.DrawnRows
import Derived.Deep.Draws
import Derived.Deep.LoopGhost
import Derived.Deep.QuietTactic
import Derived.Deep.RegionHeld3
import Derived.Deep.RegionHeldLaw
import Derived.Deep.RegionLaw
import Derived.Deep.RegionWith
import Derived.Deep.Slices
import Derived.KernelRfl
import Derived.Laws.Cover1
import Derived.Laws.EntriesVeiled
import Derived.Lib.Hide
import Derived.Lib.SliceRun
import Derived.LoopIn
import Derived.LoopNIn
import Derived.Maps.AppendAt
import Derived.Maps.Own
import Derived.Maps.OwnIn
import Derived.Outline
import Derived.OwnWalkIn
import Derived.RangeFuncBound
import Derived.RangeFuncCalls
import Derived.RangeFuncLeaves
import Derived.RangeFuncNested
import Derived.Recover
import Derived.Shelf.SlSortCmp.NoneTotal
import Derived.Shelf.SlSortCmp.WholeK
import Derived.Shelf.Spec.SlicesGrow
import Derived.StillTailTactics
import Derived.Stop.RegionWithIn
import Derived.TacticsInMore
import Derived.Test.YtepnmejahbiacaaGreatProg
import Derived.WalkKit
import Derived.WalkSpells
import Derived.Test.YtepnmejahbiacaaGreatL27
import Derived.Test.YtepnmejahbiacaaGreatL37
import Derived.Test.YtepnmejahbiacaaGreatL24
import Derived.Test.YtepnmejahbiacaaGreatL23
import Derived.Test.YtepnmejahbiacaaGreatL19
import Derived.Test.YtepnmejahbiacaaGreatL22
import Derived.Test.YtepnmejahbiacaaGreatL25
set_option linter.unusedVariables false
set_option linter.unusedSimpArgs false
namespace Go.Proofs.YtepnmejahbiacaaGreat
open Go.RowKit
theorem From1.none (l : List CI) : From1 l [] noParts := ⟨fun y hy => (by cases hy), fun y hy => (by cases hy), fun y hy => (by cases hy), fun q => (by cases q), fun q => (by cases q)⟩
theorem covB_of {l : List CI} (h : LookOk l) {Y : List Ty} {x : Ty} (hc : ∃ z ∈ Y, covers l x z = true) : covB l Y x = true := by
  rw [covB_eq h, List.any_eq_true.2 hc]; rfl
theorem isCls_iff {t : Ty} {s : ByteArray} : isCls t s = true ↔ t.kind = 1 ∧ t.name = s := by
  unfold isCls
  rw [Bool.and_eq_true]
  exact ⟨fun q => ⟨of_decide_eq_true q.1, of_decide_eq_true q.2⟩, fun q => ⟨decide_eq_true q.1, decide_eq_true q.2⟩⟩
/-- What stands on the other side: the parts of b, and what pieces makes of them. -/
structure Side (l : List CI) (b : Ty) (p : PartsT) (M : List Ty) (Lb : List Ty) : Prop where
  hL : LookOk l
  fr : From1 l b.pieces p
  hold : ∀ z ∈ b.pieces, Holds1 l p z
  nob : hasN (p.row 2) nObject = false
  gap : Gap M
  num : ∀ n, num M n ↔ num (p.row 0) n
  mem : ∀ x, x ∈ Lb ↔ x ∈ truthsP p ∨ (x ∈ M ∧ wholeB M = false) ∨ (x ∈ topL l (p.row 1) ∧ hasN (kindsP p M) nClass = false) ∨ x ∈ topL l (kindsP p M)
namespace Side
variable {l : List CI} {b : Ty} {p : PartsT} {M Lb : List Ty}
theorem row2_not (S : Side l b p M Lb) : ∀ y ∈ p.row 2, y.name ≠ nObject := fun y hy e => by
  have := S.nob
  unfold hasN at this
  rw [List.any_eq_false] at this
  exact this y hy (decide_eq_true e)
theorem memK {p : PartsT} {M : List Ty} {y : Ty} : y ∈ kindsP p M ↔ y ∈ p.row 2 ∨ (y = clsTy nInteger ∧ wholeB M = true) ∨ (y = clsTy nBoolean ∧ p.t0 = true ∧ p.t1 = true) := by
  unfold kindsP
  rw [List.mem_append, List.mem_append, or_assoc]
  have e1 : (y ∈ if wholeB M = true then [clsTy nInteger] else []) ↔ (y = clsTy nInteger ∧ wholeB M = true) := by cases wholeB M <;> simp
  have e2 : (y ∈ if p.t0 = true ∧ p.t1 = true then [clsTy nBoolean] else []) ↔ (y = clsTy nBoolean ∧ p.t0 = true ∧ p.t1 = true) := by
    cases p.t0 <;> cases p.t1 <;> simp
  rw [e1, e2]
theorem kindK (S : Side l b p M Lb) : ∀ y ∈ kindsP p M, y.kind = 1 ∧ y.name ≠ nObject := fun y hy => by
  rcases memK.1 hy with q | ⟨q, _⟩ | ⟨q, _⟩
  · refine ⟨?_, S.row2_not y q⟩
    rcases S.fr.r2 y q with r | ⟨r, _⟩
    · exact r.2.1
    · rw [r]; rfl
  · rw [q]; exact ⟨rfl, show nInteger ≠ nObject by decide⟩
  · rw [q]; exact ⟨rfl, show nBoolean ≠ nObject by decide⟩
theorem noObj (S : Side l b p M Lb) : ∀ z ∈ b.pieces, z.kind = 1 → z.name ≠ nObject := fun z hz hk e => by
  have := S.hold z hz
  unfold Holds1 at this
  rw [if_pos hk, if_neg (by rw [e]; decide), if_neg (by rw [e]; decide), e, vd_obj S.hL] at this
  rcases this with q | q
  · cases q
  · exact S.row2_not z q e
/-- One of the kinds above a name gives a class in the list above it. -/
theorem up (S : Side l b p M Lb) {s : ByteArray} {y : Ty} (hy : y ∈ kindsP p M) (hs : belowB l s y.name = true) : ∃ z ∈ Lb, z.kind = 1 ∧ z.name ≠ nObject ∧ belowB l s z.name = true := by
  obtain ⟨z, hz, hb⟩ := top_above S.hL (kindsP p M) _ s y (Nat.lt_succ_self _) hy hs
  exact ⟨z, (S.mem z).2 (.inr (.inr (.inr hz))), (S.kindK z (top_sub hz)).1, (S.kindK z (top_sub hz)).2, hb⟩
theorem forced (S : Side l b p M Lb) {s : ByteArray} (hs : ∀ t, belowC l s t = true ↔ t = s ∨ t = nObject) {y : Ty} (hy : y ∈ kindsP p M) (hn : y.name = s) : ∃ z ∈ Lb, isCls z s = true := by
  obtain ⟨z, hz, h1, h2, h3⟩ := S.up (s := s) hy (by rw [belowB_C S.hL, hn]; exact (hs s).2 (.inl rfl))
  rw [belowB_C S.hL] at h3
  rcases (hs _).1 h3 with q | q
  · exact ⟨z, hz, isCls_iff.2 ⟨h1, q⟩⟩
  · exact absurd q h2
theorem whole (S : Side l b p M Lb) (h : wholeTy ∈ p.row 0) : wholeB M = true := by
  rw [S.gap.whole]
  obtain ⟨y, hy, h1, h2⟩ := S.gap.inside (lo := -9223372036854775808) (hi := 9223372036854775807) (by decide) fun n a c => (S.num n).2 ⟨wholeTy, h, a, c⟩
  have hr := S.gap.rng y hy
  have e1 : y.lo = -9223372036854775808 := by have := hr.lo; omega
  have e2 : y.hi = 9223372036854775807 := by have := hr.hi; omega
  have := hr.eq
  rw [e1, e2] at this
  have e3 : y = wholeTy := this
  rw [← e3]; exact hy
theorem intK (S : Side l b p M Lb) (h : wholeB M = true) : ∃ z ∈ Lb, isCls z nInteger = true := S.forced (fun t => below_int S.hL) (memK.2 (.inr (.inl ⟨rfl, h⟩))) rfl
theorem boolK (S : Side l b p M Lb) (h0 : p.t0 = true) (h1 : p.t1 = true) : ∃ z ∈ Lb, isCls z nBoolean = true := S.forced (fun t => below_bool S.hL) (memK.2 (.inr (.inr ⟨rfl, h0, h1⟩))) rfl
theorem holdI (S : Side l b p M Lb) {z : Ty} (hz : z ∈ b.pieces) (hk : z.kind = 1) (hn : z.name = nInteger) : wholeTy ∈ p.row 0 := by
  have := S.hold z hz
  unfold Holds1 at this
  rw [if_pos hk, if_pos hn] at this; exact this
theorem holdB (S : Side l b p M Lb) {z : Ty} (hz : z ∈ b.pieces) (hk : z.kind = 1) (hn : z.name = nBoolean) : p.t0 = true ∧ p.t1 = true := by
  have := S.hold z hz
  unfold Holds1 at this
  rw [if_pos hk, if_neg (by rw [hn]; decide), if_pos hn] at this; exact this
theorem holdC (S : Side l b p M Lb) {z : Ty} (hz : z ∈ b.pieces) (hk : z.kind = 1) (h1 : z.name ≠ nInteger) (h2 : z.name ≠ nBoolean) (hv : vdB l z.name = false) : z ∈ p.row 2 := by
  have := S.hold z hz
  unfold Holds1 at this
  rw [if_pos hk, if_neg h1, if_neg h2, hv] at this
  exact this.resolve_left (by decide)
/-- A leaf that is a range: its numbers. -/
theorem nums (S : Side l b p M Lb) {x z : Ty} (hx : Rng x) (hk : x.kind = 2) (hz : z ∈ b.pieces) (hi : insideB l x z = true) (n : Int) (h1 : x.lo ≤ n) (h2 : n ≤ x.hi) : Go.Proofs.YtepnmejahbiacaaGreat.num (p.row 0) n := by
  unfold insideB at hi
  by_cases z1 : z.kind = 1
  · rw [if_pos z1, show topN x = nInteger by unfold topN; rw [if_pos hk]] at hi
    rcases (below_int S.hL).1 hi with q | q
    · refine ⟨wholeTy, S.holdI hz z1 q, ?_, ?_⟩
      · have := hx.lo; show (-9223372036854775808 : Int) ≤ n; omega
      · have := hx.hi; show n ≤ (9223372036854775807 : Int); omega
    · exact absurd q (S.noObj z hz z1)
  · rw [if_neg z1] at hi
    by_cases hxz : x.kind = z.kind
    · rw [if_neg (fun q => q hxz), if_pos hk] at hi
      simp only [Bool.and_eq_true, decide_eq_true_eq] at hi
      have hh := S.hold z hz
      unfold Holds1 at hh
      rw [if_neg z1, if_pos (hxz ▸ hk)] at hh
      exact ⟨z, hh, by omega, by omega⟩
    · rw [if_pos hxz] at hi; cases hi
theorem bools (S : Side l b p M Lb) {x z : Ty} (hz : z ∈ b.pieces) (hi : insideB l x z = true) (v : Int) (hx : (x.kind = 3 ∧ x.lo = v) ∨ (x.kind = 1 ∧ x.name = nBoolean)) : (v = 0 → p.t0 = true) ∧ (v = 1 → p.t1 = true) := by
  have both : belowC l nBoolean z.name = true → z.kind = 1 → (v = 0 → p.t0 = true) ∧ (v = 1 → p.t1 = true) := fun hb z1 => by
    rcases (below_bool S.hL).1 hb with q | q
    · have := S.holdB hz z1 q; exact ⟨fun _ => this.1, fun _ => this.2⟩
    · exact absurd q (S.noObj z hz z1)
  unfold insideB at hi
  by_cases z1 : z.kind = 1
  · rw [if_pos z1] at hi
    rcases hx with ⟨k3, _⟩ | ⟨k1, hn⟩
    · rw [show topN x = nBoolean by unfold topN; rw [if_neg (by rw [k3]; decide), if_pos k3]] at hi
      exact both hi z1
    · rw [topN_cls k1, hn] at hi
      exact both hi z1
  · rw [if_neg z1] at hi
    by_cases hxz : x.kind = z.kind
    · rw [if_neg (fun q => q hxz)] at hi
      rcases hx with ⟨k3, hv⟩ | ⟨k1, _⟩
      · rw [if_neg (by rw [k3]; decide), if_pos k3] at hi
        have hi : x.lo = z.lo := of_decide_eq_true hi
        have hh := S.hold z hz
        unfold Holds1 at hh
        rw [if_neg z1, if_neg (by rw [← hxz, k3]; decide), if_pos (hxz ▸ k3)] at hh
        rw [← hv, hi]; exact hh
      · exact absurd (hxz ▸ k1) z1
    · rw [if_pos hxz] at hi; cases hi
theorem clsK (S : Side l b p M Lb) {s : ByteArray} {z : Ty} (hz : z ∈ b.pieces) (z1 : z.kind = 1) (hb : belowC l s z.name = true) (hv : vdB l s = false) : ∃ y ∈ kindsP p M, belowB l s y.name = true := by
  by_cases n1 : z.name = nInteger
  · exact ⟨clsTy nInteger, memK.2 (.inr (.inl ⟨rfl, S.whole (S.holdI hz z1 n1)⟩)), by rw [belowB_C S.hL, show (clsTy nInteger).name = nInteger from rfl, ← n1]; exact hb⟩
  by_cases n2 : z.name = nBoolean
  · exact ⟨clsTy nBoolean, memK.2 (.inr (.inr ⟨rfl, S.holdB hz z1 n2⟩)), by rw [belowB_C S.hL, show (clsTy nBoolean).name = nBoolean from rfl, ← n2]; exact hb⟩
  have hvz : vdB l z.name = false := by
    cases q : vdB l z.name with
    | false => rfl
    | true => rw [void_down S.hL q hb] at hv; cases hv
  exact ⟨z, memK.2 (.inl (S.holdC hz z1 n1 n2 hvz)), by rw [belowB_C S.hL]; exact hb⟩
theorem metaO (S : Side l b p M Lb) {z : Ty} (hz : z ∈ b.pieces) (k4 : z.kind = 4) (hn : z.name = nObject) : clsTy nClass ∈ kindsP p M := by
  have hh := S.hold z hz
  unfold Holds1 at hh
  rw [if_neg (by rw [k4]; decide), if_neg (by rw [k4]; decide), if_neg (by rw [k4]; decide), if_pos hn] at hh
  exact memK.2 (.inl hh)
theorem metas (S : Side l b p M Lb) {x z : Ty} (k4 : x.kind = 4) (hz : z ∈ b.pieces) (hi : insideB l x z = true) : (∃ y ∈ kindsP p M, y.name = nClass) ∨ (x.name ≠ nObject ∧ ∃ y ∈ p.row 1, belowB l x.name y.name = true) := by
  unfold insideB at hi
  by_cases z1 : z.kind = 1
  · rw [if_pos z1, show topN x = nClass by unfold topN; rw [if_neg (by rw [k4]; decide), if_neg (by rw [k4]; decide), if_pos k4]] at hi
    rcases (below_cls S.hL).1 hi with q | q
    · exact .inl ⟨z, memK.2 (.inl (S.holdC hz z1 (by rw [q]; decide) (by rw [q]; decide) (by rw [q]; exact vd_cls S.hL))), q⟩
    · exact absurd q (S.noObj z hz z1)
  · rw [if_neg z1] at hi
    by_cases hxz : x.kind = z.kind
    · rw [if_neg (fun q => q hxz), if_neg (by rw [k4]; decide), if_neg (by rw [k4]; decide)] at hi
      have z4 : z.kind = 4 := hxz ▸ k4
      by_cases zo : z.name = nObject
      · exact .inl ⟨_, S.metaO hz z4 zo, rfl⟩
      · refine .inr ⟨fun e => ?_, z, ?_, by rw [belowB_C S.hL]; exact hi⟩
        · rw [e] at hi; exact zo ((below_obj S.hL).1 hi)
        · have hh := S.hold z hz
          unfold Holds1 at hh
          rw [if_neg z1, if_neg (by rw [z4]; decide), if_neg (by rw [z4]; decide), if_neg zo] at hh
          exact hh
    · rw [if_pos hxz] at hi; cases hi
end Side
end Go.Proofs.YtepnmejahbiacaaGreat
set_option linter.unusedVariables false
set_option linter.unusedSimpArgs false
namespace Go.Proofs.YtepnmejahbiacaaGreat
open Go.RowKit
theorem isCls_covers_int {l : List CI} {x z : Ty} (k : x.kind = 2) (h : isCls z nInteger = true) : covers l x z = true := by
  unfold covers; rw [if_pos k, h]; simp
theorem isCls_covers_bool {l : List CI} {x z : Ty} (k : x.kind = 3) (h : isCls z nBoolean = true) : covers l x z = true := by
  unfold covers; rw [if_neg (by rw [k]; decide), if_pos k, h]; simp
theorem isCls_covers_cls {l : List CI} {x z : Ty} (k : x.kind = 4) (h : isCls z nClass = true) : covers l x z = true := by
  unfold covers; rw [if_neg (by rw [k]; decide), if_neg (by rw [k]; decide), if_pos k, h]; simp
theorem below_covers {l : List CI} {x z : Ty} (k : x.kind = 1) (hz : z.kind = 1) (h : belowB l x.name z.name = true) : covers l x z = true := by
  unfold covers; rw [if_neg (by rw [k]; decide), if_neg (by rw [k]; decide), if_neg (by rw [k]; decide), h, decide_eq_true hz]; simp
theorem eqL_covers {l : List CI} {x : Ty} (ha : eqL x x = true) : covers l x x = true := by
  unfold covers; rw [ha]; simp
theorem eqL_self (x : Ty) : eqL x x = true := by
  unfold eqL; rw [decide_eq_true rfl, decide_eq_true rfl, decide_eq_true rfl, decide_eq_true rfl]; rfl
theorem within_sub {l : List CI} (hL : LookOk l) {a b : Ty} (fa : formedB l a = true) (fb : formedB l b = true) (ba : a.all bnd0 = true) (hw : withinB l a b = true) {La Lb : List Ty} (ia : IsPieces l (addT l a noParts) La) (ib : IsPieces l (addT l b noParts) Lb) : subB l La Lb = true := by
  have FA : From1 l a.pieces (addT l a noParts) := From1.addT hL a [] noParts (From1.none l) fa
  have FB : From1 l b.pieces (addT l b noParts) := From1.addT hL b [] noParts (From1.none l) fb
  have HB : ∀ z ∈ b.pieces, Holds1 l (addT l b noParts) z := fun z hz => holds_leaf hL b.count b (Nat.le_refl _) fb z hz noParts
  have OA : POk (addT l a noParts) := POk.addT l a noParts ⟨fun x hx => (by cases hx), fun x hx => (by cases hx), fun x hx => (by cases hx)⟩ fa ba
  have hin : ∀ x ∈ a.pieces, ∃ z ∈ b.pieces, insideB l x z = true := fun x hx => by
    unfold withinB at hw
    exact List.any_eq_true.1 (List.all_eq_true.1 hw x hx)
  generalize addT l a noParts = pa at FA OA ia
  generalize addT l b noParts = pb at FB HB ib
  unfold subB
  rw [List.all_eq_true]
  intro x hx
  refine covB_of hL ?_
  unfold IsPieces at ib
  by_cases hob : hasN (pb.row 2) nObject = true
  · rw [if_pos hob] at ib
    rw [ib]
    exact ⟨clsTy nObject, List.mem_singleton.2 rfl, by unfold covers; rw [show isCls (clsTy nObject) nObject = true from isCls_iff.2 ⟨rfl, rfl⟩]; rfl⟩
  rw [if_neg hob] at ib
  obtain ⟨M, hg, hn, hm⟩ := ib
  have S : Side l b pb M Lb := ⟨hL, FB, HB, by simpa using hob, hg, hn, hm⟩
  unfold IsPieces at ia
  have bools : ∀ y ∈ a.pieces, ∀ v : Int, ((y.kind = 3 ∧ y.lo = v) ∨ (y.kind = 1 ∧ y.name = nBoolean)) → (v = 0 → pb.t0 = true) ∧ (v = 1 → pb.t1 = true) := fun y hy v hv => by
    obtain ⟨z, hz, hi⟩ := hin y hy
    exact S.bools hz hi v hv
  have T0 : pa.t0 = true → pb.t0 = true := fun q => by
    obtain ⟨y, hy, e⟩ := FA.t0 q
    exact (bools y hy 0 e).1 rfl
  have T1 : pa.t1 = true → pb.t1 = true := fun q => by
    obtain ⟨y, hy, e⟩ := FA.t1 q
    exact (bools y hy 1 e).2 rfl
  have NU : ∀ n, num (pa.row 0) n → num (pb.row 0) n := fun n ⟨y, hy, h1, h2⟩ => by
    rcases FA.r0 y hy with ⟨hp, k2⟩ | ⟨e, u, hu, k1, hnu⟩
    · obtain ⟨z, hz, hi⟩ := hin y hp
      exact S.nums (OA.r0 y hy) k2 hz hi n h1 h2
    · obtain ⟨z, hz, hi⟩ := hin u hu
      have hr := OA.r0 y hy
      unfold insideB at hi
      by_cases z1 : z.kind = 1
      · rw [if_pos z1, topN_cls k1, hnu] at hi
        rcases (below_int hL).1 hi with q | q
        · exact ⟨wholeTy, S.holdI hz z1 q, by rw [← e]; exact h1, by rw [← e]; exact h2⟩
        · exact absurd q (S.noObj z hz z1)
      · rw [if_neg z1, if_pos (by rw [k1]; exact fun q => z1 q.symm)] at hi; cases hi
  have KC : ∀ y ∈ pa.row 2, ∃ u ∈ kindsP pb M, belowB l y.name u.name = true := fun y hy => by
    rcases FA.r2 y hy with ⟨hp, k1, n1, n2, hv⟩ | ⟨e, u, hu, k4, hnu⟩
    · obtain ⟨z, hz, hi⟩ := hin y hp
      unfold insideB at hi
      by_cases z1 : z.kind = 1
      · rw [if_pos z1, topN_cls k1] at hi
        exact S.clsK hz z1 hi hv
      · rw [if_neg z1, if_pos (by rw [k1]; exact fun q => z1 q.symm)] at hi; cases hi
    · obtain ⟨z, hz, hi⟩ := hin u hu
      rcases S.metas k4 hz hi with ⟨w, hw, hwn⟩ | ⟨q, _⟩
      · refine ⟨w, hw, ?_⟩
        rw [belowB_C hL, e, show (clsTy nClass).name = nClass from rfl, hwn]
        exact (below_cls hL).2 (.inl rfl)
      · exact absurd hnu q
  by_cases hoa : hasN (pa.row 2) nObject = true
  · rw [if_pos hoa] at ia
    exfalso
    unfold hasN at hoa
    obtain ⟨y, hy, e⟩ := List.any_eq_true.1 hoa
    have e : y.name = nObject := of_decide_eq_true e
    obtain ⟨u, hu, hb⟩ := KC y hy
    rw [belowB_C hL, e] at hb
    exact (S.kindK u hu).2 ((below_obj hL).1 hb)
  rw [if_neg hoa] at ia
  obtain ⟨Ma, ga, na, ma⟩ := ia
  have covK : ∀ {y : Ty}, x.kind = 1 → y ∈ kindsP pb M → belowB l x.name y.name = true → ∃ z ∈ Lb, covers l x z = true := fun k hy hb => by
    obtain ⟨z, hz, z1, _, h3⟩ := S.up hy hb
    exact ⟨z, hz, below_covers k z1 h3⟩
  rcases (ma x).1 hx with q | ⟨q, qw⟩ | ⟨q, qn⟩ | q
  · -- truths
    unfold truthsP at q
    by_cases hbb : pb.t0 = true ∧ pb.t1 = true
    · obtain ⟨z, hz, hc⟩ := S.boolK hbb.1 hbb.2
      refine ⟨z, hz, isCls_covers_bool ?_ hc⟩
      split at q
      · cases q
      · split at q
        · rw [List.mem_singleton.1 q]; rfl
        · split at q
          · rw [List.mem_singleton.1 q]; rfl
          · cases q
    · refine ⟨x, (hm x).2 (.inl ?_), eqL_covers (eqL_self x)⟩
      unfold truthsP
      rw [if_neg hbb]
      split at q
      · cases q
      · split at q
        · rename_i h0
          rw [if_pos (T0 h0)]; exact q
        · rename_i h0
          split at q
          · rename_i h1
            rw [if_neg (fun h0 => hbb ⟨h0, T1 h1⟩), if_pos (T1 h1)]; exact q
          · cases q
  · -- a range
    have hr := ga.rng x q
    have k2 : x.kind = 2 := by rw [hr.eq]; rfl
    obtain ⟨y, hy, h1, h2⟩ := hg.inside hr.le fun n u v => (hn n).2 (NU n ((na n).1 ⟨x, q, u, v⟩))
    by_cases hwb : wholeB M = true
    · obtain ⟨z, hz, hc⟩ := S.intK hwb
      exact ⟨z, hz, isCls_covers_int k2 hc⟩
    · refine ⟨y, (hm y).2 (.inr (.inl ⟨hy, by simpa using hwb⟩)), ?_⟩
      have ky : y.kind = 2 := by rw [(hg.rng y hy).eq]; rfl
      unfold covers
      rw [if_pos k2, decide_eq_true ky, decide_eq_true h1, decide_eq_true h2]; simp
  · -- class objects
    have hr1 := FA.r1 x (top_sub q)
    obtain ⟨z, hz, hi⟩ := hin x hr1.1
    have byCls : (∃ y ∈ kindsP pb M, y.name = nClass) → ∃ z ∈ Lb, covers l x z = true := fun ⟨y, hy, hyn⟩ => by
      obtain ⟨z, hz, hc⟩ := S.forced (fun t => below_cls hL) hy hyn
      exact ⟨z, hz, isCls_covers_cls hr1.2.1 hc⟩
    rcases S.metas hr1.2.1 hz hi with hc | ⟨_, y, hy, hb⟩
    · exact byCls hc
    · by_cases hcl : hasN (kindsP pb M) nClass = true
      · unfold hasN at hcl
        obtain ⟨y, hy, e⟩ := List.any_eq_true.1 hcl
        exact byCls ⟨y, hy, of_decide_eq_true e⟩
      · obtain ⟨u, hu, hbu⟩ := top_above hL (pb.row 1) _ x.name y (Nat.lt_succ_self _) hy hb
        refine ⟨u, (hm u).2 (.inr (.inr (.inl ⟨hu, by simpa using hcl⟩))), ?_⟩
        have ku := (FB.r1 u (top_sub hu)).2.1
        have k4 := hr1.2.1
        unfold covers
        rw [if_neg (by rw [k4]; decide), if_neg (by rw [k4]; decide), if_pos k4, decide_eq_true ku, hbu]; simp
  · -- classes
    rcases Side.memK.1 (top_sub q) with r | ⟨e, hwb⟩ | ⟨e, h0, h1⟩
    · have k1 : x.kind = 1 := by
        rcases FA.r2 x r with s | ⟨s, _⟩
        · exact s.2.1
        · rw [s]; rfl
      obtain ⟨u, hu, hb⟩ := KC x r
      exact covK k1 hu hb
    · have hwM : wholeB M = true := by
        rw [ga.whole] at hwb
        obtain ⟨y, hy, h1, h2⟩ := hg.inside (lo := -9223372036854775808) (hi := 9223372036854775807) (by decide) fun n u v => (hn n).2 (NU n ((na n).1 ⟨wholeTy, hwb, u, v⟩))
        have hr := hg.rng y hy
        have e1 : y.lo = -9223372036854775808 := by have := hr.lo; omega
        have e2 : y.hi = 9223372036854775807 := by have := hr.hi; omega
        have e3 := hr.eq
        rw [e1, e2] at e3
        have e4 : y = wholeTy := e3
        rw [hg.whole, ← e4]; exact hy
      refine covK (y := clsTy nInteger) (by rw [e]; rfl) (Side.memK.2 (.inr (.inl ⟨rfl, hwM⟩))) ?_
      rw [belowB_C hL, e]
      exact (below_int hL).2 (.inl rfl)
    · refine covK (y := clsTy nBoolean) (by rw [e]; rfl) (Side.memK.2 (.inr (.inr ⟨rfl, T0 h0, T1 h1⟩))) ?_
      rw [belowB_C hL, e]
      exact (below_bool hL).2 (.inl rfl)
end Go.Proofs.YtepnmejahbiacaaGreat
set_option linter.unusedVariables false
set_option linter.unusedSimpArgs false
namespace Go.Proofs.YtepnmejahbiacaaGreat
open Go.RowKit
theorem subSays_within {l : List CI} {a b : Ty} {r : Bool} (h : BothOk l a b) (ba : a.all bnd0 = true) (hw : withinB l a b = true) (hs : SubSays l a b r) : r = true := by
  rcases hs with ⟨q, _⟩ | ⟨_, La, Lb, ia, ib, rfl⟩
  · exact absurd h q
  · exact within_sub h.1 (validErr_zero h.2.1).1 (validErr_zero h.2.2).1 ba hw ia ib
end Go.Proofs.YtepnmejahbiacaaGreat
set_option linter.unusedVariables false
set_option linter.unusedSimpArgs false
namespace Go.Proofs.YtepnmejahbiacaaGreat
open Go.RowKit
attribute [local go_sem ↓] Go.wp_at_zero Go.wp_at_succ
def threeL (a b c : Ty) (Aa Ab Ac : Option Addr) (ca cb cc : Nat) : List Value := [.int .i64 a.kind, .string a.name, .int .i64 a.lo, .int .i64 a.hi, .slice Aa a.args.length ca, .int .i64 b.kind, .string b.name, .int .i64 b.lo, .int .i64 b.hi, .slice Ab b.args.length cb, .int .i64 c.kind, .string c.name, .int .i64 c.lo, .int .i64 c.hi, .slice Ac c.args.length cc]
def threeTy (a b c : Ty) (Aa Ab Ac : Option Addr) (ca cb cc : Nat) : Value := .agg #[.int .i64 a.kind, .string a.name, .int .i64 a.lo, .int .i64 a.hi, .slice Aa a.args.length ca, .int .i64 b.kind, .string b.name, .int .i64 b.lo, .int .i64 b.hi, .slice Ab b.args.length cb, .int .i64 c.kind, .string c.name, .int .i64 c.lo, .int .i64 c.hi, .slice Ac c.args.length cc]
theorem withinR_iff {l : List CI} {s t : Ty} : withinR l s t = true ↔ LookOk l ∧ validErr l s = 0 ∧ validErr l t = 0 ∧ withinB l s t = true := by unfold withinR; simp [and_assoc]
theorem withinR_trans {l : List CI} {a b c : Ty} (h1 : withinR l a b = true) (h2 : withinR l b c = true) : withinR l a c = true := by
  rw [withinR_iff] at *
  exact ⟨h1.1, h1.2.1, h2.2.2.1, withinB_trans h1.1 h1.2.2.2 h2.2.2.2⟩
open Classical in
noncomputable def validAt (l : List CI) (a : Ty) : Int := if LookOk l then validErr l a else 80
theorem validAt_iff {l : List CI} {a : Ty} : validAt l a = 0 ↔ withinR l a a = true := by
  rw [withinR_iff]
  unfold validAt
  by_cases hL : LookOk l
  · rw [if_pos hL]
    exact ⟨fun h => ⟨hL, h, h, withinB_refl hL (validErr_zero h).1⟩, fun h => h.2.1⟩
  · rw [if_neg hL]
    exact ⟨fun h => absurd h (by decide), fun h => absurd h.1 hL⟩
set_option maxHeartbeats 64000000 in
set_option maxRecDepth 100000 in
theorem lawWithin_calls (AH : Option Addr) (cH : Nat) (l : List CI) (a b c : Ty) (Aa Ab Ac : Option Addr) (ca cb cc : Nat) (W : World) (hi : HiIn W AH cH l) (ha : TyIn W a Aa ca) (hb : TyIn W b Ab cb) (hc : TyIn W c Ac cc) (ba : a.all bnd0 = true) (bb : b.all bnd0 = true) :
    Calls Tryz.prog 6 #[.slice AH l.length cH, threeTy a b c Aa Ab Ac ca cb cc] W fun e W' => e = .returned (.bool true) ∧ Below W.heap.size W W' := by
  obtain ⟨W1, hW1⟩ : ∃ W1, W1 = W.alloc (.cells #[.int .i64 a.kind, .string a.name, .int .i64 a.lo, .int .i64 a.hi, .slice Aa a.args.length ca, .int .i64 b.kind, .string b.name, .int .i64 b.lo, .int .i64 b.hi, .slice Ab b.args.length cb, .int .i64 c.kind, .string c.name, .int .i64 c.lo, .int .i64 c.hi, .slice Ac c.args.length cc] 56) := ⟨_, rfl⟩
  have b1 : Below W.heap.size W W1 := by rw [hW1]; exact (Below.refl _ W).alloc (Nat.le_refl _) _
  have xs : ∀ j u, (threeL a b c Aa Ab Ac ca cb cc)[j]? = some u → W1.cell? ⟨W.heap.size, j, none⟩ = some u := fun j u hj => by rw [hW1]; exact cell_new W _ _ _ rfl j u hj
  have XS := Lib.hid xs
  have HWE : Hid (∀ V x A c, Below W.heap.size W V → TyIn W x A c → Calls Tryz.prog 15 #[tyV x A c, .int .i64 0] V fun e V' => e = .returned (.int .i64 (x.wei 0)) ∧ Below V.heap.size V V') := Lib.hid (fun V x A c hv hx => by
    obtain ⟨G2, h2⟩ := (hx.keep hv).h2
    exact weight_calls x.count x (Nat.le_refl _) A c 0 V G2 (by omega) (by omega) h2)
  have HAB := Lib.hid (fun V (hv : Below W.heap.size W V) => withinF_calls AH cH l a b Aa Ab ca cb V (hi.keep hv) (ha.keep hv) (hb.keep hv))
  have HBC := Lib.hid (fun V (hv : Below W.heap.size W V) => withinF_calls AH cH l b c Ab Ac cb cc V (hi.keep hv) (hb.keep hv) (hc.keep hv))
  have HAC : Hid (withinR l a b = true → withinR l b c = true → ∀ V, Below W.heap.size W V → Calls Tryz.prog 16 #[.slice AH l.length cH, tyV a Aa ca, tyV c Ac cc] V fun e W' => e = .returned (.bool true) ∧ Below V.heap.size V W') := Lib.hid (fun h1 h2 V hv => by
    have := withinF_calls AH cH l a c Aa Ac ca cc V (hi.keep hv) (ha.keep hv) (hc.keep hv)
    rw [withinR_trans h1 h2] at this
    exact this)
  have HAA := Lib.hid (fun V (hv : Below W.heap.size W V) => withinF_calls AH cH l a a Aa Aa ca ca V (hi.keep hv) (ha.keep hv) (ha.keep hv))
  have HSU : Hid (withinR l a b = true → ∀ V, Below W.heap.size W V → Calls Tryz.prog 24 #[.slice AH l.length cH, tyV a Aa ca, tyV b Ab cb] V fun e W' => e = .returned (.bool true) ∧ Below V.heap.size V W') := Lib.hid (fun h V hv => by
    obtain ⟨GH, h1⟩ := (hi.keep hv).h
    obtain ⟨Ga, h2⟩ := (ha.keep hv).h2
    obtain ⟨Gb, h3⟩ := (hb.keep hv).h2
    rw [withinR_iff] at h
    refine (Sub_calls AH cH l a b Aa Ab ca cb V hi.hcH GH h1 hi.ol hi.hl _ h2.here ha.h1 ha.hs ba h3.here hb.h1 hb.hs bb).mono ?_
    rintro e V' ⟨r, rfl, hs, hbl⟩
    rw [subSays_within ⟨h.1, h.2.1, h.2.2.1⟩ ba h.2.2.2 hs]
    exact ⟨rfl, hbl⟩)
  have HVA : Hid (∀ V, Below W.heap.size W V → Calls Tryz.prog 25 #[.slice AH l.length cH, tyV a Aa ca] V fun e W' => e = .returned (.int .i64 (validAt l a)) ∧ Below V.heap.size V W') := Lib.hid (fun V hv => by
    obtain ⟨GH, h1⟩ := (hi.keep hv).h
    obtain ⟨Ga, h2⟩ := (ha.keep hv).h2
    refine (Valid_calls AH cH l a Aa ca V hi.hcH GH h1 hi.ol hi.hl Ga h2 ha.h1 ha.hs).mono ?_
    rintro e V' ⟨hbl, ⟨hL, rfl⟩ | ⟨hL, rfl⟩⟩
    · exact ⟨by unfold validAt; rw [if_neg hL], hbl⟩
    · exact ⟨by unfold validAt; rw [if_pos hL], hbl⟩)
  have HVW : Hid (validAt l a = 0 ↔ withinR l a a = true) := Lib.hid validAt_iff
  have HTY : Hid (∀ k, k < 3 → ∃ x A cx, TyIn W x A cx ∧ ∀ j u, [Value.int .i64 x.kind, .string x.name, .int .i64 x.lo, .int .i64 x.hi, .slice A x.args.length cx][j]? = some u → W1.cell? ⟨W.heap.size, k * 5 + j, none⟩ = some u) := Lib.hid (fun k hk => by
    obtain rfl | rfl | rfl : k = 0 ∨ k = 1 ∨ k = 2 := by omega
    · refine ⟨a, Aa, ca, ha, fun j u hj => ?_⟩
      have : j < 5 := (List.getElem?_eq_some_iff.1 hj).1
      refine xs _ u ?_
      obtain rfl | rfl | rfl | rfl | rfl : j = 0 ∨ j = 1 ∨ j = 2 ∨ j = 3 ∨ j = 4 := by omega
      all_goals exact hj
    · refine ⟨b, Ab, cb, hb, fun j u hj => ?_⟩
      have : j < 5 := (List.getElem?_eq_some_iff.1 hj).1
      refine xs _ u ?_
      obtain rfl | rfl | rfl | rfl | rfl : j = 0 ∨ j = 1 ∨ j = 2 ∨ j = 3 ∨ j = 4 := by omega
      all_goals exact hj
    · refine ⟨c, Ac, cc, hc, fun j u hj => ?_⟩
      have : j < 5 := (List.getElem?_eq_some_iff.1 hj).1
      refine xs _ u ?_
      obtain rfl | rfl | rfl | rfl | rfl : j = 0 ∨ j = 1 ∨ j = 2 ∨ j = 3 ∨ j = 4 := by omega
      all_goals exact hj)
  generalize validAt l a = ve at HVA HVW
  generalize withinR l a a = waa at HAA HVW
  generalize withinR l a b = wab at HAB HAC HSU
  generalize withinR l b c = wbc at HBC HAC
  clear xs hi ha hb hc ba bb
  unfold threeTy
  go_enter Tryz.func6, Tryz.ntmps6
  go_wp2_with (fail)
  rw [← hW1]
  clear hW1
  refine (sane_calls W1).mono ?_
  rintro e V ⟨rfl, hbv⟩
  go_wp2_with (fail)
  go_loopw [6] (fun i wr => ∃ k : Nat, k ≤ 3 ∧ i = .int .i64 k ∧ Below W1.heap.size W1 wr) (fun i _ => 3 - (intOf i).toNat)
  case atStart => exact ⟨0, by omega, rfl, hbv⟩
  case round =>
    clear hbv
    obtain ⟨k, hk, rfl, hbw⟩ := hrel
    by_cases hlt : k < 3
    · obtain ⟨x, A, cx, hx, hcl⟩ := HTY.out k hlt
      have y0 : wr.cell? ⟨W.heap.size, k * 5, none⟩ = some (.int .i64 x.kind) := cell_all (hcl 0 _ rfl) hbw
      have y1 := cell_all (hcl 1 _ rfl) hbw
      have y2 := cell_all (hcl 2 _ rfl) hbw
      have y3 := cell_all (hcl 3 _ rfl) hbw
      have y4 := cell_all (hcl 4 _ rfl) hbw
      have H1 := Lib.hid (HWE.out wr x A cx (below_step b1 hbw) hx)
      generalize x.wei 0 = wa at H1
      clear hcl hx
      go_wp2_with (fail)
      refine H1.out.mono ?_
      clear H1 y0 y1 y2 y3 y4
      rintro e V2 ⟨rfl, hb2⟩
      have q2 := below_step hbw hb2
      by_cases hwa : wa ≤ 40
      · have d1 : decide ((40 : Int) < wa) = false := decide_eq_false (by omega)
        clear hwa
        go_wp2_with (fail)
        exact ⟨⟨k + 1, by omega, by go_num, q2⟩, by simp [intOf]; omega⟩
      · have d1 : decide ((40 : Int) < wa) = true := decide_eq_true (by omega)
        clear hwa
        go_wp2
        go_ret
        exact ⟨rfl, below_step b1 q2⟩
    · obtain rfl : k = 3 := by omega
      have q3 := below_step b1 hbw
      have s0 := cell_all (XS.out 0 _ rfl) hbw
      have s1 := cell_all (XS.out 1 _ rfl) hbw
      have s2 := cell_all (XS.out 2 _ rfl) hbw
      have s3 := cell_all (XS.out 3 _ rfl) hbw
      have s4 := cell_all (XS.out 4 _ rfl) hbw
      have t0 := cell_all (XS.out 5 _ rfl) hbw
      have t1 := cell_all (XS.out 6 _ rfl) hbw
      have t2 := cell_all (XS.out 7 _ rfl) hbw
      have t3 := cell_all (XS.out 8 _ rfl) hbw
      have t4 := cell_all (XS.out 9 _ rfl) hbw
      go_wp2_with (fail)
      refine (HAB.out wr q3).mono ?_
      clear s0 s1 s2 s3 s4 t0 t1 t2 t3 t4 HWE
      rintro e V1 ⟨rfl, hb1⟩
      have hv1 := below_step hbw hb1
      have q1 := below_step q3 hb1
      have s0 := cell_all (XS.out 5 _ rfl) hv1
      have s1 := cell_all (XS.out 6 _ rfl) hv1
      have s2 := cell_all (XS.out 7 _ rfl) hv1
      have s3 := cell_all (XS.out 8 _ rfl) hv1
      have s4 := cell_all (XS.out 9 _ rfl) hv1
      have t0 := cell_all (XS.out 10 _ rfl) hv1
      have t1 := cell_all (XS.out 11 _ rfl) hv1
      have t2 := cell_all (XS.out 12 _ rfl) hv1
      have t3 := cell_all (XS.out 13 _ rfl) hv1
      have t4 := cell_all (XS.out 14 _ rfl) hv1
      go_wp2_with (fail)
      refine (HBC.out V1 q1).mono ?_
      clear s0 s1 s2 s3 s4 t0 t1 t2 t3 t4
      rintro e V2 ⟨rfl, hb2⟩
      have hv2 := below_step hv1 hb2
      have q2 := below_step q1 hb2
      clear hb1 hb2 hv1 hbw q1 q3
      cases wab with
      | false =>
        cases wbc
        all_goals
          go_wp2_with (fail)
          have s0 := cell_all (XS.out 0 _ rfl) hv2
          have s1 := cell_all (XS.out 1 _ rfl) hv2
          have s2 := cell_all (XS.out 2 _ rfl) hv2
          have s3 := cell_all (XS.out 3 _ rfl) hv2
          have s4 := cell_all (XS.out 4 _ rfl) hv2
          have HW2 : Hid (∀ V, Below V2.heap.size V2 V → Calls Tryz.prog 16 #[.slice AH l.length cH, tyV a Aa ca, tyV a Aa ca] V fun e W' => e = .returned (.bool waa) ∧ Below V.heap.size V W') := Lib.hid (fun V h => HAA.out V (below_step q2 h))
          have HV2 : Hid (∀ V, Below V2.heap.size V2 V → Calls Tryz.prog 25 #[.slice AH l.length cH, tyV a Aa ca] V fun e W' => e = .returned (.int .i64 ve) ∧ Below V.heap.size V W') := Lib.hid (fun V h => HVA.out V (below_step q2 h))
          have Q3 := Lib.hid q2
          clear HAA HVA HAB HBC HAC HSU XS HTY
          cases waa
          · have d1 : (ve == 0) = false := beq_eq_false_iff_ne.2 (fun e => by have := HVW.out.1 e; cases this)
            clear HVW
            go_region_held3 (fun w' => Below V2.heap.size V2 w' ∧ w'.cell? ⟨W.heap.size, 0, none⟩ = some (.int .i64 a.kind) ∧ w'.cell? ⟨W.heap.size, 1, none⟩ = some (.string a.name) ∧ w'.cell? ⟨W.heap.size, 2, none⟩ = some (.int .i64 a.lo) ∧ w'.cell? ⟨W.heap.size, 3, none⟩ = some (.int .i64 a.hi) ∧ w'.cell? ⟨W.heap.size, 4, none⟩ = some (.slice Aa a.args.length ca))
              (first
                | exact ⟨(Below.refl _ V2).drew, s0, s1, s2, s3, s4⟩
                | (go_split_ands; exact ⟨below_step (by assumption) hbu, cell_all (by assumption) hbu, cell_all (by assumption) hbu, cell_all (by assumption) hbu, cell_all (by assumption) hbu, cell_all (by assumption) hbu⟩))
              (first
                | ((go_at_call 16; refine (HW2.out _ (by go_split_ands; assumption)).mono ?_; rintro e U ⟨rfl, hbu⟩))
                | ((go_at_call 25; refine (HV2.out _ (by go_split_ands; assumption)).mono ?_; rintro e U ⟨rfl, hbu⟩)))
            all_goals
              clear HW2 HV2
              go_split_ands
              go_wp2
              go_ret
              exact ⟨(by try rfl), below_step Q3.out (by assumption)⟩
          · obtain rfl : ve = 0 := HVW.out.2 rfl
            clear HVW
            go_region_held3 (fun w' => Below V2.heap.size V2 w' ∧ w'.cell? ⟨W.heap.size, 0, none⟩ = some (.int .i64 a.kind) ∧ w'.cell? ⟨W.heap.size, 1, none⟩ = some (.string a.name) ∧ w'.cell? ⟨W.heap.size, 2, none⟩ = some (.int .i64 a.lo) ∧ w'.cell? ⟨W.heap.size, 3, none⟩ = some (.int .i64 a.hi) ∧ w'.cell? ⟨W.heap.size, 4, none⟩ = some (.slice Aa a.args.length ca))
              (first
                | exact ⟨(Below.refl _ V2).drew, s0, s1, s2, s3, s4⟩
                | (go_split_ands; exact ⟨below_step (by assumption) hbu, cell_all (by assumption) hbu, cell_all (by assumption) hbu, cell_all (by assumption) hbu, cell_all (by assumption) hbu, cell_all (by assumption) hbu⟩))
              (first
                | ((go_at_call 16; refine (HW2.out _ (by go_split_ands; assumption)).mono ?_; rintro e U ⟨rfl, hbu⟩))
                | ((go_at_call 25; refine (HV2.out _ (by go_split_ands; assumption)).mono ?_; rintro e U ⟨rfl, hbu⟩)))
            all_goals
              clear HW2 HV2
              go_split_ands
              go_wp2
              go_ret
              exact ⟨(by try rfl), below_step Q3.out (by assumption)⟩
      | true =>
        have s0 := cell_all (XS.out 0 _ rfl) hv2
        have s1 := cell_all (XS.out 1 _ rfl) hv2
        have s2 := cell_all (XS.out 2 _ rfl) hv2
        have s3 := cell_all (XS.out 3 _ rfl) hv2
        have s4 := cell_all (XS.out 4 _ rfl) hv2
        cases wbc with
        | false =>
          have t0 := cell_all (XS.out 5 _ rfl) hv2
          have t1 := cell_all (XS.out 6 _ rfl) hv2
          have t2 := cell_all (XS.out 7 _ rfl) hv2
          have t3 := cell_all (XS.out 8 _ rfl) hv2
          have t4 := cell_all (XS.out 9 _ rfl) hv2
          go_wp2_with (go_at_call 24; refine (HSU.out (by trivial) _ q2).mono ?_; rintro e V3 ⟨rfl, hb3⟩)
          clear s0 s1 s2 s3 s4 t0 t1 t2 t3 t4
          have hv3 := below_step hv2 hb3
          have q3 := below_step q2 hb3
          clear hv2 q2 hb3
          have s0 := cell_all (XS.out 0 _ rfl) hv3
          have s1 := cell_all (XS.out 1 _ rfl) hv3
          have s2 := cell_all (XS.out 2 _ rfl) hv3
          have s3 := cell_all (XS.out 3 _ rfl) hv3
          have s4 := cell_all (XS.out 4 _ rfl) hv3
          have HW2 : Hid (∀ V, Below V3.heap.size V3 V → Calls Tryz.prog 16 #[.slice AH l.length cH, tyV a Aa ca, tyV a Aa ca] V fun e W' => e = .returned (.bool waa) ∧ Below V.heap.size V W') := Lib.hid (fun V h => HAA.out V (below_step q3 h))
          have HV2 : Hid (∀ V, Below V3.heap.size V3 V → Calls Tryz.prog 25 #[.slice AH l.length cH, tyV a Aa ca] V fun e W' => e = .returned (.int .i64 ve) ∧ Below V.heap.size V W') := Lib.hid (fun V h => HVA.out V (below_step q3 h))
          have Q3 := Lib.hid q3
          clear HAA HVA HAB HBC HAC HSU XS HTY
          cases waa
          · have d1 : (ve == 0) = false := beq_eq_false_iff_ne.2 (fun e => by have := HVW.out.1 e; cases this)
            clear HVW
            go_region_held3 (fun w' => Below V3.heap.size V3 w' ∧ w'.cell? ⟨W.heap.size, 0, none⟩ = some (.int .i64 a.kind) ∧ w'.cell? ⟨W.heap.size, 1, none⟩ = some (.string a.name) ∧ w'.cell? ⟨W.heap.size, 2, none⟩ = some (.int .i64 a.lo) ∧ w'.cell? ⟨W.heap.size, 3, none⟩ = some (.int .i64 a.hi) ∧ w'.cell? ⟨W.heap.size, 4, none⟩ = some (.slice Aa a.args.length ca))
              (first
                | exact ⟨(Below.refl _ V3).drew, s0, s1, s2, s3, s4⟩
                | (go_split_ands; exact ⟨below_step (by assumption) hbu, cell_all (by assumption) hbu, cell_all (by assumption) hbu, cell_all (by assumption) hbu, cell_all (by assumption) hbu, cell_all (by assumption) hbu⟩))
              (first
                | ((go_at_call 16; refine (HW2.out _ (by go_split_ands; assumption)).mono ?_; rintro e U ⟨rfl, hbu⟩))
                | ((go_at_call 25; refine (HV2.out _ (by go_split_ands; assumption)).mono ?_; rintro e U ⟨rfl, hbu⟩)))
            all_goals
              clear HW2 HV2
              go_split_ands
              go_wp2
              go_ret
              exact ⟨(by try rfl), below_step Q3.out (by assumption)⟩
          · obtain rfl : ve = 0 := HVW.out.2 rfl
            clear HVW
            go_region_held3 (fun w' => Below V3.heap.size V3 w' ∧ w'.cell? ⟨W.heap.size, 0, none⟩ = some (.int .i64 a.kind) ∧ w'.cell? ⟨W.heap.size, 1, none⟩ = some (.string a.name) ∧ w'.cell? ⟨W.heap.size, 2, none⟩ = some (.int .i64 a.lo) ∧ w'.cell? ⟨W.heap.size, 3, none⟩ = some (.int .i64 a.hi) ∧ w'.cell? ⟨W.heap.size, 4, none⟩ = some (.slice Aa a.args.length ca))
              (first
                | exact ⟨(Below.refl _ V3).drew, s0, s1, s2, s3, s4⟩
                | (go_split_ands; exact ⟨below_step (by assumption) hbu, cell_all (by assumption) hbu, cell_all (by assumption) hbu, cell_all (by assumption) hbu, cell_all (by assumption) hbu, cell_all (by assumption) hbu⟩))
              (first
                | ((go_at_call 16; refine (HW2.out _ (by go_split_ands; assumption)).mono ?_; rintro e U ⟨rfl, hbu⟩))
                | ((go_at_call 25; refine (HV2.out _ (by go_split_ands; assumption)).mono ?_; rintro e U ⟨rfl, hbu⟩)))
            all_goals
              clear HW2 HV2
              go_split_ands
              go_wp2
              go_ret
              exact ⟨(by try rfl), below_step Q3.out (by assumption)⟩
        | true =>
          have r0 := cell_all (XS.out 10 _ rfl) hv2
          have r1 := cell_all (XS.out 11 _ rfl) hv2
          have r2 := cell_all (XS.out 12 _ rfl) hv2
          have r3 := cell_all (XS.out 13 _ rfl) hv2
          have r4 := cell_all (XS.out 14 _ rfl) hv2
          go_wp2_with (first
            | (go_at_call 16; refine (HAC.out (by trivial) (by trivial) _ q2).mono ?_; rintro e V3 ⟨rfl, hb3⟩; have hv3 := below_step hv2 hb3; have q3 := below_step q2 hb3; clear s0 s1 s2 s3 s4 r0 r1 r2 r3 r4; have s0 := cell_all (XS.out 0 _ rfl) hv3; have s1 := cell_all (XS.out 1 _ rfl) hv3; have s2 := cell_all (XS.out 2 _ rfl) hv3; have s3 := cell_all (XS.out 3 _ rfl) hv3; have s4 := cell_all (XS.out 4 _ rfl) hv3; have t0 := cell_all (XS.out 5 _ rfl) hv3; have t1 := cell_all (XS.out 6 _ rfl) hv3; have t2 := cell_all (XS.out 7 _ rfl) hv3; have t3 := cell_all (XS.out 8 _ rfl) hv3; have t4 := cell_all (XS.out 9 _ rfl) hv3)
            | (go_at_call 24; refine (HSU.out (by trivial) _ q3).mono ?_; rintro e V4 ⟨rfl, hb4⟩))
          clear s0 s1 s2 s3 s4 t0 t1 t2 t3 t4
          have hv4 := below_step hv3 hb4
          have q4 := below_step q3 hb4
          clear hv2 q2 hb3 hv3 q3 hb4
          have s0 := cell_all (XS.out 0 _ rfl) hv4
          have s1 := cell_all (XS.out 1 _ rfl) hv4
          have s2 := cell_all (XS.out 2 _ rfl) hv4
          have s3 := cell_all (XS.out 3 _ rfl) hv4
          have s4 := cell_all (XS.out 4 _ rfl) hv4
          have HW2 : Hid (∀ V, Below V4.heap.size V4 V → Calls Tryz.prog 16 #[.slice AH l.length cH, tyV a Aa ca, tyV a Aa ca] V fun e W' => e = .returned (.bool waa) ∧ Below V.heap.size V W') := Lib.hid (fun V h => HAA.out V (below_step q4 h))
          have HV2 : Hid (∀ V, Below V4.heap.size V4 V → Calls Tryz.prog 25 #[.slice AH l.length cH, tyV a Aa ca] V fun e W' => e = .returned (.int .i64 ve) ∧ Below V.heap.size V W') := Lib.hid (fun V h => HVA.out V (below_step q4 h))
          have Q3 := Lib.hid q4
          clear HAA HVA HAB HBC HAC HSU XS HTY
          cases waa
          · have d1 : (ve == 0) = false := beq_eq_false_iff_ne.2 (fun e => by have := HVW.out.1 e; cases this)
            clear HVW
            go_region_held3 (fun w' => Below V4.heap.size V4 w' ∧ w'.cell? ⟨W.heap.size, 0, none⟩ = some (.int .i64 a.kind) ∧ w'.cell? ⟨W.heap.size, 1, none⟩ = some (.string a.name) ∧ w'.cell? ⟨W.heap.size, 2, none⟩ = some (.int .i64 a.lo) ∧ w'.cell? ⟨W.heap.size, 3, none⟩ = some (.int .i64 a.hi) ∧ w'.cell? ⟨W.heap.size, 4, none⟩ = some (.slice Aa a.args.length ca))
              (first
                | exact ⟨(Below.refl _ V4).drew, s0, s1, s2, s3, s4⟩
                | (go_split_ands; exact ⟨below_step (by assumption) hbu, cell_all (by assumption) hbu, cell_all (by assumption) hbu, cell_all (by assumption) hbu, cell_all (by assumption) hbu, cell_all (by assumption) hbu⟩))
              (first
                | ((go_at_call 16; refine (HW2.out _ (by go_split_ands; assumption)).mono ?_; rintro e U ⟨rfl, hbu⟩))
                | ((go_at_call 25; refine (HV2.out _ (by go_split_ands; assumption)).mono ?_; rintro e U ⟨rfl, hbu⟩)))
            all_goals
              clear HW2 HV2
              go_split_ands
              go_wp2
              go_ret
              exact ⟨(by try rfl), below_step Q3.out (by assumption)⟩
          · obtain rfl : ve = 0 := HVW.out.2 rfl
            clear HVW
            go_region_held3 (fun w' => Below V4.heap.size V4 w' ∧ w'.cell? ⟨W.heap.size, 0, none⟩ = some (.int .i64 a.kind) ∧ w'.cell? ⟨W.heap.size, 1, none⟩ = some (.string a.name) ∧ w'.cell? ⟨W.heap.size, 2, none⟩ = some (.int .i64 a.lo) ∧ w'.cell? ⟨W.heap.size, 3, none⟩ = some (.int .i64 a.hi) ∧ w'.cell? ⟨W.heap.size, 4, none⟩ = some (.slice Aa a.args.length ca))
              (first
                | exact ⟨(Below.refl _ V4).drew, s0, s1, s2, s3, s4⟩
                | (go_split_ands; exact ⟨below_step (by assumption) hbu, cell_all (by assumption) hbu, cell_all (by assumption) hbu, cell_all (by assumption) hbu, cell_all (by assumption) hbu, cell_all (by assumption) hbu⟩))
              (first
                | ((go_at_call 16; refine (HW2.out _ (by go_split_ands; assumption)).mono ?_; rintro e U ⟨rfl, hbu⟩))
                | ((go_at_call 25; refine (HV2.out _ (by go_split_ands; assumption)).mono ?_; rintro e U ⟨rfl, hbu⟩)))
            all_goals
              clear HW2 HV2
              go_split_ands
              go_wp2
              go_ret
              exact ⟨(by try rfl), below_step Q3.out (by assumption)⟩
end Go.Proofs.YtepnmejahbiacaaGreat
