/- For every input of bulk at most 1048576 the law MethodsWithin returns true, and its arguments read behind the call as before. Conditions: those of the given row (UptoSaid): the bulk. -/
import Derived.Test.YtepnmejahbiacaaGreatL20
import Derived.Test.YtepnmejahbiacaaGreatL17
import Derived.Test.YtepnmejahbiacaaGreatL04
import Derived.Test.YtepnmejahbiacaaGreatL05
import Derived.Test.YtepnmejahbiacaaGreatL18
import Derived.Test.YtepnmejahbiacaaGreatL07
import Derived.Test.YtepnmejahbiacaaGreatL12
import Derived.Test.YtepnmejahbiacaaGreatL13
import Derived.Test.YtepnmejahbiacaaGreatL14
import Derived.Test.YtepnmejahbiacaaGreatL15
import Derived.Test.YtepnmejahbiacaaGreatL24
import Derived.Test.YtepnmejahbiacaaGreatL23
import Derived.Test.YtepnmejahbiacaaGreatL33
import Derived.Test.YtepnmejahbiacaaGreatL21
import Derived.Test.YtepnmejahbiacaaGreatL34
import Derived.Test.YtepnmejahbiacaaGreatL19
import Derived.Test.YtepnmejahbiacaaGreatL08
import Derived.Test.YtepnmejahbiacaaGreatL16
import Derived.Test.YtepnmejahbiacaaGreatL35
import Derived.Test.YtepnmejahbiacaaGreatL32
import Derived.Test.YtepnmejahbiacaaGreatL38
import Derived.Test.YtepnmejahbiacaaGreatL06
import Derived.Test.YtepnmejahbiacaaGreatL10
import Derived.Test.YtepnmejahbiacaaGreatL11
import Derived.Test.YtepnmejahbiacaaGreatL22
import Derived.Test.YtepnmejahbiacaaGreatL26
import Derived.Test.YtepnmejahbiacaaGreatL29
import Derived.Test.YtepnmejahbiacaaGreatL36
import Derived.Test.YtepnmejahbiacaaGreatL37
import Derived.Test.YtepnmejahbiacaaGreatL09
import Derived.Test.YtepnmejahbiacaaGreatL03
import Derived.Test.YtepnmejahbiacaaGreatL25
import Derived.Test.YtepnmejahbiacaaGreatL31
import Derived.Test.YtepnmejahbiacaaGreatL02
import Derived.Test.YtepnmejahbiacaaGreatL01
import Derived.Test.YtepnmejahbiacaaGreatL27
import Derived.BigQuiet
import Derived.Carry
import Derived.Deep.AppendLies
import Derived.Deep.CutBlock
import Derived.Deep.DeepCutAuto
import Derived.Deep.DrawnRows
import Derived.Deep.Draws
import Derived.Deep.LoopGhost
import Derived.Deep.QuietTactic
import Derived.Deep.RegionHeld3
import Derived.Deep.RegionHeldLaw
import Derived.Deep.RegionLaw
import Derived.Deep.RegionWith
import Derived.Deep.Slices
import Derived.KernelRfl
import Derived.Laws.Cover1
import Derived.Laws.EntriesVeiled
import Derived.Lib.Hide
import Derived.Lib.SliceRun
import Derived.LoopIn
import Derived.LoopNIn
import Derived.Maps.AppendAt
import Derived.Maps.Own
import Derived.Maps.OwnIn
import Derived.Outline
import Derived.OwnWalkIn
import Derived.RangeFuncBound
import Derived.RangeFuncCalls
import Derived.RangeFuncLeaves
import Derived.RangeFuncNested
import Derived.Recover
import Derived.Shelf.SlSortCmp.NoneTotal
import Derived.Shelf.SlSortCmp.WholeK
import Derived.Shelf.Spec.SlicesGrow
import Derived.StillTailTactics
import Derived.Stop.RegionWithIn
import Derived.TacticsInMore
import Derived.Test.YtepnmejahbiacaaGreatProg
import Derived.WalkKit
import Derived.WalkSpells
import Derived.Test.YtepnmejahbiacaaGreatL39
import Derived.Test.YtepnmejahbiacaaGreatL28
import Derived.Test.YtepnmejahbiacaaGreatL30
import Derived.Deep.Strs
import Derived.JoinedCond
import Derived.OpenShut
import Derived.ProofKit
import Derived.Test.YtepnmejahbiacaaGreatRows
import Derived.WideKeyArgs
set_option linter.unusedVariables false
set_option linter.unusedSimpArgs false
namespace Go.Proofs.YtepnmejahbiacaaGreat
open Go.ChangeShapes Go.WideShapes Go.ChangeAt Go.RowKit Go.WideElems
theorem own_knob : ownKnob Tryz.prog.godebug = none := by kernel_rfl
theorem small_bound {H : Type} {l : List (DataW H)} (hk : Rows.uptoSmall H l = true) : Rows.uptoBulkAll l ≤ 1048576 := of_decide_eq_true hk
/-- Three types in an array. -/
theorem read_three {H : Type} {enc : TypeId × Value → H} {W : World} {sp : Nat → Bool} {n : Nat} {cs : List Value} {x : DataW H × List MemPlace} (h : DataW.trod enc Tryz.prog W 0 sp true n 56 cs = some x) :
    cs.length = 15 ∧ ∃ (s t u : Ty), typR s (cs.take 5) W ∧ typR t ((cs.drop 5).take 5) W ∧ typR u (cs.drop 10) W ∧ 2 * s.count + 2 * t.count + 2 * u.count ≤ Rows.uptoBulk x.1 ∧ s.all bnd0 = true ∧ t.all bnd0 = true := by
  obtain ⟨xs, m, _, rfl, hl, hx, hf⟩ := DataW.trod_array Tryz.underlying56 h
  rw [show Tryz.prog.cellsOf 56 = 15 by kernel_rfl] at hl
  rw [cells_typ] at hf
  match xs, hx with
  | [a, b, c], _ =>
    have f0 := hf 0 (by decide)
    have f1 := hf 1 (by decide)
    have f2 := hf 2 (by decide)
    simp at f0 f1 f2
    obtain ⟨_, _, s, s1, s2, s3⟩ := read_typB _ _ _ _ (Nat.le_refl _) f0
    obtain ⟨_, _, t, t1, t2, t3⟩ := read_typB _ _ _ _ (Nat.le_refl _) f1
    obtain ⟨_, _, u, u1, u2, _⟩ := read_typB _ _ _ _ (Nat.le_refl _) f2
    refine ⟨hl, s, t, u, s1, t1, ?_, ?_, s3, t3⟩
    · rw [List.take_of_length_le (by rw [List.length_drop]; omega)] at u1
      exact u1
    · simp only [List.map_cons, List.map_nil, Rows.uptoBulk, Rows.uptoBulkAll]
      omega
set_option maxHeartbeats 8000000 in
set_option maxRecDepth 100000 in
theorem within_contract (H : Type) (enc : TypeId × Value → H) (W : World) (base : Nat) (args : Array Value) (ds gs : List (DataW H)) (before : List MemPlace)
    (hval : ∀ (j : Nat) t v, Tryz.f6.params[j]? = some t → args[j]? = some v → Value.okWide Tryz.prog W .any base t v)
    (hW : DataW.Whole enc Tryz.prog Tryz.f6.params.toList Rows.methodsWithinSpec.vars false W args.toList ds gs before) (hk : Rows.uptoSmall H (ds ++ gs) = true) :
    Calls Tryz.prog 6 args W fun e W' => ∃ v, e = .returned v ∧ Rows.methodsWithinSpec.post enc Tryz.prog Tryz.f6 false true false false W args v W' := by
  have hW' := hW
  have hlt := hW.lt
  obtain ⟨p, q, hA0, hV, rfl, hfz, hnd⟩ := hW
  have hA : DataW.TrodAll enc Tryz.prog W 0 (fun _ => true) true Tryz.f6.params.toList args.toList ds p := hA0
  rw [Tryz.params6] at hA hval
  obtain ⟨v0, vs0, d0, ds0, p0, q0, hargs, rfl, rfl, h0, r0⟩ := trodAll_cons hA
  obtain ⟨v1, vs1, d1, ds1, p1, q1, rfl, rfl, rfl, h1, r1⟩ := trodAll_cons r0
  obtain ⟨rfl, rfl, rfl⟩ := trodAll_nil r1
  obtain rfl : args = #[v0, v1] := by cases args; simp_all
  obtain ⟨rfl, rfl⟩ := trodVars_none hV
  have hbulk := small_bound hk
  obtain ⟨a0, n0, c0, rfl⟩ := okWide_slice Tryz.underlying22 (hval 0 22 v0 rfl rfl)
  obtain ⟨cs1, rfl⟩ : ∃ cs, v1 = .agg cs := by
    have h := hval 1 56 v1 rfl rfl
    simp only [Value.okWide, Tryz.underlying56] at h
    obtain ⟨cs, h1, _⟩ := h
    exact ⟨cs, h1⟩
  have h0k := h0
  have h1k := h1
  obtain ⟨k0, t0⟩ := h0
  obtain ⟨k1, t1⟩ := h1
  obtain ⟨A, l, c, e0, hc, hCI, hok, hbk⟩ := read_cis t0
  obtain ⟨hl15, s, t, u, hs, ht, hu, hbt, ba, bb⟩ := read_three t1
  simp [Value.cells] at e0
  obtain ⟨rfl, rfl, rfl⟩ := e0
  obtain ⟨As, cs, f1, f2, f3⟩ := typR_iff.1 hs
  obtain ⟨At, ct, g1, g2, g3⟩ := typR_iff.1 ht
  obtain ⟨Au, cu, m1, m2, m3⟩ := typR_iff.1 hu
  have e1' : (Value.agg cs1) = threeTy s t u As At Au cs ct cu := by
    have e : cs1.toList = cs1.toList.take 5 ++ ((cs1.toList.drop 5).take 5 ++ (cs1.toList.drop 5).drop 5) := by rw [List.take_append_drop, List.take_append_drop]
    rw [List.drop_drop] at e
    have f1' : cs1.toList.take 5 = _ := f1
    have g1' : (cs1.toList.drop 5).take 5 = _ := g1
    have m1' : cs1.toList.drop (5 + 5) = _ := m1
    rw [f1', g1', m1'] at e
    unfold threeTy
    congr 1
    apply Array.ext'
    rw [e]; rfl
  rw [e1'] at hW' h1k ⊢
  have hbk' : 7 * l.length ≤ Rows.uptoBulk d0 := hbk
  have hbt' : 2 * s.count + 2 * t.count + 2 * u.count ≤ Rows.uptoBulk d1 := hbt
  simp only [List.append_nil, Rows.uptoBulkAll] at hbulk
  simp only [List.append_nil] at hW' hlt
  refine (lawWithin_calls _ _ l s t u As At Au cs ct cu W ⟨⟨_, Slc.stable ciR_stable hCI⟩, hc, hok, by omega⟩ ⟨f2, ⟨_, Slc.stable typR_stable f3⟩, small_count (by omega)⟩ ⟨g2, ⟨_, Slc.stable typR_stable g3⟩, small_count (by omega)⟩ ⟨m2, ⟨_, Slc.stable typR_stable m3⟩, small_count (by omega)⟩ ba bb).mono fun e W' ⟨he, hb⟩ => ?_
  subst he
  have hrd22 : Tryz.prog.readableRec 22 = true := by kernel_rfl
  have hrd23 : Tryz.prog.readableRec 56 = true := by kernel_rfl
  refine ⟨_, rfl, post_of_below (pa := p0 ++ (p1 ++ [])) (pv := []) hW' (fun _ _ _ => (trodAll_cons_mk (shut_bool Tryz.underlying4 _) trodAll_mk0)) (fun sp hsp => ?_) (fun _ _ => rfl) (by simp) hb (ok_one (by kernel_rfl) rfl (okWide_bool_mk Tryz.underlying4 _))⟩
  have hin : ∀ x, x ∈ p0 ∨ x ∈ p1 → x ∈ p0 ++ p1 := fun x hx => by simpa using hx
  show DataW.TrodAll enc Tryz.prog W' 0 sp true Tryz.f6.params.toList _ [d0, d1] _
  rw [Tryz.params6]
  refine trodAll_cons_mk (Trod_stays laidOut hrd22 (of_decide_eq_true (by kernel_rfl)) h0k (fun x hx => hb.same (hlt x (hin x (.inl hx)))) (fun x hx => hsp x (hin x (.inl hx)))) ?_
  exact trodAll_cons_mk (Trod_stays laidOut hrd23 (of_decide_eq_true (by kernel_rfl)) h1k (fun x hx => hb.same (hlt x (hin x (.inr hx)))) (fun x hx => hsp x (hin x (.inr hx)))) trodAll_mk0
set_option maxHeartbeats 8000000 in
set_option maxRecDepth 100000 in
theorem within_lifted (os : Os) (started : os.Started) (H : Type) (enc : TypeId × Value → H) (F : Stop.Interp) :
    ReturnsInHanded {} Tryz.checked os 6 .any ((Rows.OpenSpec.upto Rows.methodsWithinSpec).pre6 enc Tryz.prog Tryz.f6 Rows.methodsWithinUptoRow.domain false) (((Rows.OpenSpec.upto Rows.methodsWithinSpec).at F).post enc Tryz.prog Tryz.f6 false true false false) := by
  refine returnsInHanded_of_cond (C := Tryz.checked) (s := Rows.OpenSpec.upto Rows.methodsWithinSpec) (k := Rows.uptoSmall) rfl own_knob started (by kernel_rfl) Tryz.func6
    (OpenSpec.witness (enc := enc) (C := Tryz.checked) (s := Rows.OpenSpec.upto Rows.methodsWithinSpec) (k := Rows.uptoSmall) rfl false ⟨#[], #[.slice none 0 0, .agg #[.int .i64 0, .string ⟨#[]⟩, .int .i64 0, .int .i64 0, .slice none 0 0, .int .i64 0, .string ⟨#[]⟩, .int .i64 0, .int .i64 0, .slice none 0 0, .int .i64 0, .string ⟨#[]⟩, .int .i64 0, .int .i64 0, .slice none 0 0]], []⟩ 8 (by kernel_rfl) (by kernel_rfl) (by kernel_rfl)
      (x := ([.nil, .agg [.agg [.lit (.int .i64 0), .lit (.string []), .lit (.int .i64 0), .lit (.int .i64 0), .nil], .agg [.lit (.int .i64 0), .lit (.string []), .lit (.int .i64 0), .lit (.int .i64 0), .nil], .agg [.lit (.int .i64 0), .lit (.string []), .lit (.int .i64 0), .lit (.int .i64 0), .nil]]], [], [])) (by kernel_rfl) rfl (by kernel_rfl)) ?_
  intro W base args ds gs before hval hW _ hk _
  exact within_contract H enc W base args ds gs before hval hW hk
theorem within_holds : Rows.MethodsWithinUptoSaid :=
  OpenClaim.holds_of_cond 6 Tryz.f6 rfl rfl rfl rfl rfl rfl rfl ⟨rfl, rfl, rfl, rfl, rfl⟩ rfl rfl rfl rfl rfl (by kernel_rfl) Tryz.func6 (by kernel_rfl)
    (of_decide_eq_true (by kernel_rfl)) (by unfold Func.isWrapper; first | (rw [if_pos (by decide +kernel)]; kernel_rfl) | (rw [if_neg (by decide +kernel)]; exact ⟨rfl, rfl⟩))
    (fun os started H enc _ F => within_lifted os started H enc F)
#print axioms within_holds
end Go.Proofs.YtepnmejahbiacaaGreat
