/- For every input of bulk at most 1048576 the law MethodsChecks returns true, and its arguments read behind the call as before. Conditions: those of the given row (UptoSaid): the bulk. -/
import Derived.Test.YtepnmejahbiacaaGreatK22
import Derived.Test.YtepnmejahbiacaaGreatK38
import Derived.Test.YtepnmejahbiacaaGreatK19
import Derived.Test.YtepnmejahbiacaaGreatK05
import Derived.Test.YtepnmejahbiacaaGreatK06
import Derived.Test.YtepnmejahbiacaaGreatK07
import Derived.Test.YtepnmejahbiacaaGreatK12
import Derived.Test.YtepnmejahbiacaaGreatK13
import Derived.Test.YtepnmejahbiacaaGreatK14
import Derived.Test.YtepnmejahbiacaaGreatK15
import Derived.Test.YtepnmejahbiacaaGreatK18
import Derived.Test.YtepnmejahbiacaaGreatK25
import Derived.Test.YtepnmejahbiacaaGreatK24
import Derived.Test.YtepnmejahbiacaaGreatK21
import Derived.Test.YtepnmejahbiacaaGreatK08
import Derived.Test.YtepnmejahbiacaaGreatK17
import Derived.Test.YtepnmejahbiacaaGreatK04
import Derived.Test.YtepnmejahbiacaaGreatK10
import Derived.Test.YtepnmejahbiacaaGreatK11
import Derived.Test.YtepnmejahbiacaaGreatK23
import Derived.Test.YtepnmejahbiacaaGreatK26
import Derived.Test.YtepnmejahbiacaaGreatK27
import Derived.Test.YtepnmejahbiacaaGreatK28
import Derived.Test.YtepnmejahbiacaaGreatK31
import Derived.Test.YtepnmejahbiacaaGreatK32
import Derived.Test.YtepnmejahbiacaaGreatK33
import Derived.Test.YtepnmejahbiacaaGreatK34
import Derived.Test.YtepnmejahbiacaaGreatK35
import Derived.Test.YtepnmejahbiacaaGreatK36
import Derived.Test.YtepnmejahbiacaaGreatK09
import Derived.Test.YtepnmejahbiacaaGreatK03
import Derived.Test.YtepnmejahbiacaaGreatK16
import Derived.Test.YtepnmejahbiacaaGreatK02
import Derived.Test.YtepnmejahbiacaaGreatK29
import Derived.Test.YtepnmejahbiacaaGreatK01
import Derived.Test.YtepnmejahbiacaaGreatK20
import Derived.BigQuiet
import Derived.Carry
import Derived.Deep.AppendLies
import Derived.Deep.DrawnRows
import Derived.Deep.Draws
import Derived.Deep.LoopGhost
import Derived.Deep.QuietTactic
import Derived.Deep.RegionHeld3
import Derived.Deep.RegionLaw
import Derived.Deep.RegionWith
import Derived.KernelRfl
import Derived.Laws.EntriesVeiled
import Derived.Laws.OwnMore
import Derived.Lib.Hide
import Derived.Lib.SliceRun
import Derived.LoopIn
import Derived.LoopNIn
import Derived.Maps.AppendAt
import Derived.Maps.Own
import Derived.Maps.OwnIn
import Derived.Outline
import Derived.OwnWalk
import Derived.OwnWalkIn
import Derived.RangeFuncBound
import Derived.RangeFuncCalls
import Derived.RangeFuncLeaves
import Derived.RangeFuncNested
import Derived.Recover
import Derived.StillTailTactics
import Derived.Stop.RegionWithIn
import Derived.TacticsInMore
import Derived.Test.YtepnmejahbiacaaGreatProg
import Derived.WalkKit
import Derived.WalkSpells
import Derived.Test.YtepnmejahbiacaaGreatK30
import Derived.Test.YtepnmejahbiacaaGreatK37
import Derived.Deep.Strs
import Derived.JoinedCond
import Derived.OpenShut
import Derived.ProofKit
import Derived.Test.YtepnmejahbiacaaGreatRows
import Derived.WideKeyArgs
set_option linter.unusedVariables false
set_option linter.unusedSimpArgs false
namespace Go.Proofs.YtepnmejahbiacaaGreat
open Go.ChangeShapes Go.WideShapes Go.ChangeAt Go.RowKit Go.WideElems
theorem own_knob : ownKnob Tryz.prog.godebug = none := by kernel_rfl
theorem small_bound {H : Type} {l : List (DataW H)} (hk : Rows.uptoSmall H l = true) : Rows.uptoBulkAll l ≤ 1048576 := of_decide_eq_true hk
set_option maxHeartbeats 8000000 in
set_option maxRecDepth 100000 in
theorem checks_contract (H : Type) (enc : TypeId × Value → H) (W : World) (base : Nat) (args : Array Value) (ds gs : List (DataW H)) (before : List MemPlace)
    (hval : ∀ (j : Nat) t v, Tryz.f5.params[j]? = some t → args[j]? = some v → Value.okWide Tryz.prog W .any base t v)
    (hW : DataW.Whole enc Tryz.prog Tryz.f5.params.toList Rows.methodsChecksSpec.vars false W args.toList ds gs before) (hk : Rows.uptoSmall H (ds ++ gs) = true) :
    Calls Tryz.prog 5 args W fun e W' => ∃ v, e = .returned v ∧ Rows.methodsChecksSpec.post enc Tryz.prog Tryz.f5 false true false false W args v W' := by
  have hW' := hW
  have hlt := hW.lt
  obtain ⟨p, q, hA0, hV, rfl, hfz, hnd⟩ := hW
  have hA : DataW.TrodAll enc Tryz.prog W 0 (fun _ => true) true Tryz.f5.params.toList args.toList ds p := hA0
  rw [Tryz.params5] at hA hval
  obtain ⟨v0, vs0, d0, ds0, p0, q0, hargs, rfl, rfl, h0, r0⟩ := trodAll_cons hA
  obtain ⟨v1, vs1, d1, ds1, p1, q1, rfl, rfl, rfl, h1, r1⟩ := trodAll_cons r0
  obtain ⟨v2, vs2, d2, ds2, p2, q2, rfl, rfl, rfl, h2, r2⟩ := trodAll_cons r1
  obtain ⟨rfl, rfl, rfl⟩ := trodAll_nil r2
  obtain rfl : args = #[v0, v1, v2] := by cases args; simp_all
  obtain ⟨rfl, rfl⟩ := trodVars_none hV
  have hbulk := small_bound hk
  obtain ⟨a0, n0, c0, rfl⟩ := okWide_slice Tryz.underlying22 (hval 0 22 v0 rfl rfl)
  obtain ⟨fs1, hfs1, _⟩ := struct_call
  obtain ⟨cs1, rfl, _⟩ := okWide_struct hfs1 (hval 1 45 v1 rfl rfl)
  obtain ⟨fs2, hfs2, _⟩ := struct_ord
  obtain ⟨cs2, rfl, _⟩ := okWide_struct hfs2 (hval 2 47 v2 rfl rfl)
  have h0k := h0
  have h1k := h1
  have h2k := h2
  obtain ⟨k0, t0⟩ := h0
  obtain ⟨k1, t1⟩ := h1
  obtain ⟨k2, t2⟩ := h2
  obtain ⟨A, l, c, e0, hc, hCI, hok, hbk⟩ := read_cis t0
  obtain ⟨AM, ms, cM, AT, ts, cT, e1, hcM, hM, hT, hbm1, hbm2, hbt⟩ := read_call t1
  obtain ⟨AO, o, cO, amb, AL, lf, cL, e2, hOI, hbo⟩ := read_ord t2
  simp [Value.cells] at e0 e1 e2
  obtain ⟨rfl, rfl, rfl⟩ := e0
  have e1' : cs1 = #[.slice AM ms.length cM, .slice AT ts.length cT] := by cases cs1; simp_all
  have e2' : cs2 = #[.slice AO o.length cO, .bool amb, .slice AL lf.length cL] := by cases cs2; simp_all
  subst e1' e2'
  have hbk' : 7 * l.length ≤ Rows.uptoBulk d0 := hbk
  have hbm1' : 2 * ms.length ≤ Rows.uptoBulk d1 := hbm1
  have hbm2' : ∀ y ∈ ms, 2 * y.pars.length ≤ Rows.uptoBulk d1 ∧ ∀ p ∈ y.pars, 2 * p.type.count ≤ Rows.uptoBulk d1 := hbm2
  have hbt' : 2 * ts.length ≤ Rows.uptoBulk d1 := hbt
  have hbo' : o.length ≤ Rows.uptoBulk d2 := hbo
  simp only [List.append_nil, Rows.uptoBulkAll] at hbulk
  have hQ : Asks a0 c0 l AM ms AT ts W := ⟨⟨_, Slc.stable ciR_stable hCI⟩, hc, hok, by omega, ⟨_, Slc.stable metR_stable hM⟩, by omega, fun m hm p hp => small_count (by have := (hbm2' m hm).2 p hp; omega), fun m hm => by have := (hbm2' m hm).1; omega,
    ⟨fun _ => True, fun w' k => (Slc.stable (fun w x cs h => fun w' k => h) hT) w' k⟩, by omega⟩
  simp only [List.append_nil] at hW' hlt
  refine (checks_calls _ _ l _ _ ms _ _ ts _ _ o amb _ _ lf W hQ hcM (fun _ => True) (fun w' k => (Slc.stable intR_stable hOI) w' k) (by omega)).mono fun e W' ⟨he, hb⟩ => ?_
  subst he
  have hrd22 : Tryz.prog.readableRec 22 = true := by kernel_rfl
  have hrd23 : Tryz.prog.readableRec 45 = true := by kernel_rfl
  have hrd25 : Tryz.prog.readableRec 47 = true := by kernel_rfl
  refine ⟨_, rfl, post_of_below (pa := p0 ++ (p1 ++ (p2 ++ []))) (pv := []) hW' (fun _ _ _ => (trodAll_cons_mk (shut_bool Tryz.underlying4 _) trodAll_mk0)) (fun sp hsp => ?_) (fun _ _ => rfl) (by simp) hb (ok_one (by kernel_rfl) rfl (okWide_bool_mk Tryz.underlying4 _))⟩
  have hin : ∀ x, x ∈ p0 ∨ x ∈ p1 ∨ x ∈ p2 → x ∈ p0 ++ (p1 ++ p2) := fun x hx => by simpa using hx
  show DataW.TrodAll enc Tryz.prog W' 0 sp true Tryz.f5.params.toList _ [d0, d1, d2] _
  rw [Tryz.params5]
  refine trodAll_cons_mk (Trod_stays laidOut hrd22 (of_decide_eq_true (by kernel_rfl)) h0k (fun x hx => hb.same (hlt x (hin x (.inl hx)))) (fun x hx => hsp x (hin x (.inl hx)))) ?_
  refine trodAll_cons_mk (Trod_stays laidOut hrd23 (of_decide_eq_true (by kernel_rfl)) h1k (fun x hx => hb.same (hlt x (hin x (.inr (.inl hx))))) (fun x hx => hsp x (hin x (.inr (.inl hx))))) ?_
  exact trodAll_cons_mk (Trod_stays laidOut hrd25 (of_decide_eq_true (by kernel_rfl)) h2k (fun x hx => hb.same (hlt x (hin x (.inr (.inr hx))))) (fun x hx => hsp x (hin x (.inr (.inr hx))))) trodAll_mk0
set_option maxHeartbeats 8000000 in
set_option maxRecDepth 100000 in
theorem checks_lifted (os : Os) (started : os.Started) (H : Type) (enc : TypeId × Value → H) (F : Stop.Interp) :
    ReturnsInHanded {} Tryz.checked os 5 .any ((Rows.OpenSpec.upto Rows.methodsChecksSpec).pre6 enc Tryz.prog Tryz.f5 Rows.methodsChecksUptoRow.domain false) (((Rows.OpenSpec.upto Rows.methodsChecksSpec).at F).post enc Tryz.prog Tryz.f5 false true false false) := by
  refine returnsInHanded_of_cond (C := Tryz.checked) (s := Rows.OpenSpec.upto Rows.methodsChecksSpec) (k := Rows.uptoSmall) rfl own_knob started (by kernel_rfl) Tryz.func5
    (OpenSpec.witness (enc := enc) (C := Tryz.checked) (s := Rows.OpenSpec.upto Rows.methodsChecksSpec) (k := Rows.uptoSmall) rfl false ⟨#[], #[.slice none 0 0, .agg #[.slice none 0 0, .slice none 0 0], .agg #[.slice none 0 0, .bool false, .slice none 0 0]], []⟩ 8 (by kernel_rfl) (by kernel_rfl) (by kernel_rfl)
      (x := ([.nil, .agg [.nil, .nil], .agg [.nil, .lit (.bool false), .nil]], [], [])) (by kernel_rfl) rfl (by kernel_rfl)) ?_
  intro W base args ds gs before hval hW _ hk _
  exact checks_contract H enc W base args ds gs before hval hW hk
theorem checks_holds : Rows.MethodsChecksUptoSaid :=
  OpenClaim.holds_of_cond 5 Tryz.f5 rfl rfl rfl rfl rfl rfl rfl ⟨rfl, rfl, rfl, rfl, rfl⟩ rfl rfl rfl rfl rfl (by kernel_rfl) Tryz.func5 (by kernel_rfl)
    (of_decide_eq_true (by kernel_rfl)) (by unfold Func.isWrapper; first | (rw [if_pos (by decide +kernel)]; kernel_rfl) | (rw [if_neg (by decide +kernel)]; exact ⟨rfl, rfl⟩))
    (fun os started H enc _ F => checks_lifted os started H enc F)
#print axioms checks_holds
end Go.Proofs.YtepnmejahbiacaaGreat
