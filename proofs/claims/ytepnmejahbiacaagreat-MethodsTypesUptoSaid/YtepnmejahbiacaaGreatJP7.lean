/- For every input of bulk at most 1048576 the law MethodsTypes returns true, and its arguments read behind the call as before. Conditions: those of the given row (UptoSaid): the bulk. -/
import Derived.Test.YtepnmejahbiacaaGreatJ22
import Derived.Test.YtepnmejahbiacaaGreatJ20
import Derived.Test.YtepnmejahbiacaaGreatJ05
import Derived.Test.YtepnmejahbiacaaGreatJ06
import Derived.Test.YtepnmejahbiacaaGreatJ19
import Derived.Test.YtepnmejahbiacaaGreatJ07
import Derived.Test.YtepnmejahbiacaaGreatJ12
import Derived.Test.YtepnmejahbiacaaGreatJ13
import Derived.Test.YtepnmejahbiacaaGreatJ14
import Derived.Test.YtepnmejahbiacaaGreatJ15
import Derived.Test.YtepnmejahbiacaaGreatJ18
import Derived.Test.YtepnmejahbiacaaGreatJ25
import Derived.Test.YtepnmejahbiacaaGreatJ24
import Derived.Test.YtepnmejahbiacaaGreatJ21
import Derived.Test.YtepnmejahbiacaaGreatJ08
import Derived.Test.YtepnmejahbiacaaGreatJ17
import Derived.Test.YtepnmejahbiacaaGreatJ26
import Derived.Test.YtepnmejahbiacaaGreatJ04
import Derived.Test.YtepnmejahbiacaaGreatJ36
import Derived.Test.YtepnmejahbiacaaGreatJ10
import Derived.Test.YtepnmejahbiacaaGreatJ11
import Derived.Test.YtepnmejahbiacaaGreatJ23
import Derived.Test.YtepnmejahbiacaaGreatJ28
import Derived.Test.YtepnmejahbiacaaGreatJ29
import Derived.Test.YtepnmejahbiacaaGreatJ31
import Derived.Test.YtepnmejahbiacaaGreatJ32
import Derived.Test.YtepnmejahbiacaaGreatJ33
import Derived.Test.YtepnmejahbiacaaGreatJ34
import Derived.Test.YtepnmejahbiacaaGreatJ35
import Derived.Test.YtepnmejahbiacaaGreatJ09
import Derived.Test.YtepnmejahbiacaaGreatJ03
import Derived.Test.YtepnmejahbiacaaGreatJ27
import Derived.Test.YtepnmejahbiacaaGreatJ16
import Derived.Test.YtepnmejahbiacaaGreatJ02
import Derived.Test.YtepnmejahbiacaaGreatJ01
import Derived.BigQuiet
import Derived.Carry
import Derived.Deep.AppendLies
import Derived.Deep.DrawnRows
import Derived.Deep.Draws
import Derived.Deep.LoopGhost
import Derived.Deep.QuietTactic
import Derived.Deep.RegionHeld3
import Derived.Deep.RegionLaw
import Derived.Deep.RegionWith
import Derived.KernelRfl
import Derived.Laws.EntriesVeiled
import Derived.Laws.OwnMore
import Derived.Lib.Hide
import Derived.Lib.SliceRun
import Derived.LoopIn
import Derived.LoopNIn
import Derived.Maps.AppendAt
import Derived.Maps.Own
import Derived.Maps.OwnIn
import Derived.Outline
import Derived.OwnWalkIn
import Derived.RangeFuncBound
import Derived.RangeFuncCalls
import Derived.RangeFuncLeaves
import Derived.RangeFuncNested
import Derived.Recover
import Derived.StillTailTactics
import Derived.Stop.RegionWithIn
import Derived.TacticsInMore
import Derived.Test.YtepnmejahbiacaaGreatProg
import Derived.WalkKit
import Derived.WalkSpells
import Derived.Test.YtepnmejahbiacaaGreatJ30
import Derived.Test.YtepnmejahbiacaaGreatJ37
import Derived.Deep.Strs
import Derived.JoinedCond
import Derived.OpenShut
import Derived.ProofKit
import Derived.Test.YtepnmejahbiacaaGreatRows
import Derived.WideKeyArgs
set_option linter.unusedVariables false
set_option linter.unusedSimpArgs false
namespace Go.Proofs.YtepnmejahbiacaaGreat
open Go.ChangeShapes Go.WideShapes Go.ChangeAt Go.RowKit Go.WideElems
theorem own_knob : ownKnob Tryz.prog.godebug = none := by kernel_rfl
theorem small_bound {H : Type} {l : List (DataW H)} (hk : Rows.uptoSmall H l = true) : Rows.uptoBulkAll l ≤ 1048576 := of_decide_eq_true hk
/-- Two types in an array. -/
theorem read_two {H : Type} {enc : TypeId × Value → H} {W : World} {sp : Nat → Bool} {n : Nat} {cs : List Value} {x : DataW H × List MemPlace} (h : DataW.trod enc Tryz.prog W 0 sp true n 37 cs = some x) :
    cs.length = 10 ∧ ∃ (s t : Ty), typR s (cs.take 5) W ∧ typR t (cs.drop 5) W ∧ 2 * s.count + 2 * t.count ≤ Rows.uptoBulk x.1 := by
  obtain ⟨xs, m, _, rfl, hl, hx, hf⟩ := DataW.trod_array Tryz.underlying37 h
  rw [show Tryz.prog.cellsOf 37 = 10 by kernel_rfl] at hl
  rw [cells_typ] at hf
  match xs, hx with
  | [a, b], _ =>
    have f0 := hf 0 (by decide)
    have f1 := hf 1 (by decide)
    simp at f0 f1
    obtain ⟨_, _, s, s1, s2⟩ := read_typ _ _ _ _ (Nat.le_refl _) f0
    obtain ⟨_, _, t, t1, t2⟩ := read_typ _ _ _ _ (Nat.le_refl _) f1
    refine ⟨hl, s, t, s1, ?_, ?_⟩
    · rw [List.take_of_length_le (by rw [List.length_drop]; omega)] at t1
      exact t1
    · simp only [List.map_cons, List.map_nil, Rows.uptoBulk, Rows.uptoBulkAll]
      omega
set_option maxHeartbeats 8000000 in
set_option maxRecDepth 100000 in
theorem types_contract (H : Type) (enc : TypeId × Value → H) (W : World) (base : Nat) (args : Array Value) (ds gs : List (DataW H)) (before : List MemPlace)
    (hval : ∀ (j : Nat) t v, Tryz.f4.params[j]? = some t → args[j]? = some v → Value.okWide Tryz.prog W .any base t v)
    (hW : DataW.Whole enc Tryz.prog Tryz.f4.params.toList Rows.methodsTypesSpec.vars false W args.toList ds gs before) (hk : Rows.uptoSmall H (ds ++ gs) = true) :
    Calls Tryz.prog 4 args W fun e W' => ∃ v, e = .returned v ∧ Rows.methodsTypesSpec.post enc Tryz.prog Tryz.f4 false true false false W args v W' := by
  have hW' := hW
  have hlt := hW.lt
  obtain ⟨p, q, hA0, hV, rfl, hfz, hnd⟩ := hW
  have hA : DataW.TrodAll enc Tryz.prog W 0 (fun _ => true) true Tryz.f4.params.toList args.toList ds p := hA0
  rw [Tryz.params4] at hA hval
  obtain ⟨v0, vs0, d0, ds0, p0, q0, hargs, rfl, rfl, h0, r0⟩ := trodAll_cons hA
  obtain ⟨v1, vs1, d1, ds1, p1, q1, rfl, rfl, rfl, h1, r1⟩ := trodAll_cons r0
  obtain ⟨v2, vs2, d2, ds2, p2, q2, rfl, rfl, rfl, h2, r2⟩ := trodAll_cons r1
  obtain ⟨rfl, rfl, rfl⟩ := trodAll_nil r2
  obtain rfl : args = #[v0, v1, v2] := by cases args; simp_all
  obtain ⟨rfl, rfl⟩ := trodVars_none hV
  have hbulk := small_bound hk
  obtain ⟨a0, n0, c0, rfl⟩ := okWide_slice Tryz.underlying22 (hval 0 22 v0 rfl rfl)
  obtain ⟨cs1, rfl⟩ : ∃ cs, v1 = .agg cs := by
    have h := hval 1 37 v1 rfl rfl
    simp only [Value.okWide, Tryz.underlying37] at h
    obtain ⟨cs, h1, _⟩ := h
    exact ⟨cs, h1⟩
  obtain ⟨fs, hfs, _⟩ := struct_tag
  obtain ⟨cs2, rfl, _⟩ := okWide_struct hfs (hval 2 39 v2 rfl rfl)
  have h0k := h0
  have h1k := h1
  have h2k := h2
  obtain ⟨k0, t0⟩ := h0
  obtain ⟨k1, t1⟩ := h1
  obtain ⟨k2, t2⟩ := h2
  obtain ⟨A, l, c, e0, hc, hCI, hok, hbk⟩ := read_cis t0
  obtain ⟨hl10, s, t, hs, ht, hbt⟩ := read_two t1
  obtain ⟨tg, e2⟩ := read_tag t2
  simp [Value.cells] at e0 e2
  obtain ⟨rfl, rfl, rfl⟩ := e0
  have e2' : cs2 = #[.int .i64 tg.kind, .int .i64 tg.num, .string tg.name] := by
    cases cs2; simp_all
  subst e2'
  obtain ⟨As, cs, f1, f2, f3⟩ := typR_iff.1 hs
  obtain ⟨At, ct, g1, g2, g3⟩ := typR_iff.1 ht
  have e1' : (Value.agg cs1) = twoTy s t As At cs ct := by
    have e : cs1.toList = cs1.toList.take 5 ++ cs1.toList.drop 5 := (List.take_append_drop 5 _).symm
    have f1' : cs1.toList.take 5 = _ := f1
    have g1' : cs1.toList.drop 5 = _ := g1
    rw [f1', g1'] at e
    unfold twoTy
    congr 1
    apply Array.ext'
    rw [e]; rfl
  rw [e1'] at hW' h1k ⊢
  have hbk' : 7 * l.length ≤ Rows.uptoBulk d0 := hbk
  have hbt' : 2 * s.count + 2 * t.count ≤ Rows.uptoBulk d1 := hbt
  simp only [List.append_nil, Rows.uptoBulkAll] at hbulk
  simp only [List.append_nil] at hW' hlt
  refine (types_calls _ _ l s t As At cs ct tg W ⟨⟨_, Slc.stable ciR_stable hCI⟩, hc, hok, by omega⟩ ⟨f2, ⟨_, Slc.stable typR_stable f3⟩, small_count (by omega)⟩ ⟨g2, ⟨_, Slc.stable typR_stable g3⟩, small_count (by omega)⟩).mono fun e W' ⟨he, hb⟩ => ?_
  subst he
  have hrd22 : Tryz.prog.readableRec 22 = true := by kernel_rfl
  have hrd23 : Tryz.prog.readableRec 37 = true := by kernel_rfl
  have hrd25 : Tryz.prog.readableRec 39 = true := by kernel_rfl
  refine ⟨_, rfl, post_of_below (pa := p0 ++ (p1 ++ (p2 ++ []))) (pv := []) hW' (fun _ _ _ => (trodAll_cons_mk (shut_bool Tryz.underlying4 _) trodAll_mk0)) (fun sp hsp => ?_) (fun _ _ => rfl) (by simp) hb (ok_one (by kernel_rfl) rfl (okWide_bool_mk Tryz.underlying4 _))⟩
  have hin : ∀ x, x ∈ p0 ∨ x ∈ p1 ∨ x ∈ p2 → x ∈ p0 ++ (p1 ++ p2) := fun x hx => by simpa using hx
  show DataW.TrodAll enc Tryz.prog W' 0 sp true Tryz.f4.params.toList _ [d0, d1, d2] _
  rw [Tryz.params4]
  refine trodAll_cons_mk (Trod_stays laidOut hrd22 (of_decide_eq_true (by kernel_rfl)) h0k (fun x hx => hb.same (hlt x (hin x (.inl hx)))) (fun x hx => hsp x (hin x (.inl hx)))) ?_
  refine trodAll_cons_mk (Trod_stays laidOut hrd23 (of_decide_eq_true (by kernel_rfl)) h1k (fun x hx => hb.same (hlt x (hin x (.inr (.inl hx))))) (fun x hx => hsp x (hin x (.inr (.inl hx))))) ?_
  exact trodAll_cons_mk (Trod_stays laidOut hrd25 (of_decide_eq_true (by kernel_rfl)) h2k (fun x hx => hb.same (hlt x (hin x (.inr (.inr hx))))) (fun x hx => hsp x (hin x (.inr (.inr hx))))) trodAll_mk0
set_option maxHeartbeats 8000000 in
set_option maxRecDepth 100000 in
theorem types_lifted (os : Os) (started : os.Started) (H : Type) (enc : TypeId × Value → H) (F : Stop.Interp) :
    ReturnsInHanded {} Tryz.checked os 4 .any ((Rows.OpenSpec.upto Rows.methodsTypesSpec).pre6 enc Tryz.prog Tryz.f4 Rows.methodsTypesUptoRow.domain false) (((Rows.OpenSpec.upto Rows.methodsTypesSpec).at F).post enc Tryz.prog Tryz.f4 false true false false) := by
  refine returnsInHanded_of_cond (C := Tryz.checked) (s := Rows.OpenSpec.upto Rows.methodsTypesSpec) (k := Rows.uptoSmall) rfl own_knob started (by kernel_rfl) Tryz.func4
    (OpenSpec.witness (enc := enc) (C := Tryz.checked) (s := Rows.OpenSpec.upto Rows.methodsTypesSpec) (k := Rows.uptoSmall) rfl false ⟨#[], #[.slice none 0 0, .agg #[.int .i64 0, .string ⟨#[]⟩, .int .i64 0, .int .i64 0, .slice none 0 0, .int .i64 0, .string ⟨#[]⟩, .int .i64 0, .int .i64 0, .slice none 0 0], .agg #[.int .i64 0, .int .i64 0, .string ⟨#[]⟩]], []⟩ 8 (by kernel_rfl) (by kernel_rfl) (by kernel_rfl)
      (x := ([.nil, .agg [.agg [.lit (.int .i64 0), .lit (.string []), .lit (.int .i64 0), .lit (.int .i64 0), .nil], .agg [.lit (.int .i64 0), .lit (.string []), .lit (.int .i64 0), .lit (.int .i64 0), .nil]], .agg [.lit (.int .i64 0), .lit (.int .i64 0), .lit (.string [])]], [], [])) (by kernel_rfl) rfl (by kernel_rfl)) ?_
  intro W base args ds gs before hval hW _ hk _
  exact types_contract H enc W base args ds gs before hval hW hk
theorem types_holds : Rows.MethodsTypesUptoSaid :=
  OpenClaim.holds_of_cond 4 Tryz.f4 rfl rfl rfl rfl rfl rfl rfl ⟨rfl, rfl, rfl, rfl, rfl⟩ rfl rfl rfl rfl rfl (by kernel_rfl) Tryz.func4 (by kernel_rfl)
    (of_decide_eq_true (by kernel_rfl)) (by unfold Func.isWrapper; first | (rw [if_pos (by decide +kernel)]; kernel_rfl) | (rw [if_neg (by decide +kernel)]; exact ⟨rfl, rfl⟩))
    (fun os started H enc _ F => types_lifted os started H enc F)
#print axioms types_holds
end Go.Proofs.YtepnmejahbiacaaGreat
