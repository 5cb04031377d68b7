/- For every input of bulk at most 1048576 the law MethodsSingle returns true, and its arguments read behind the call as before. Conditions: those of the given row (UptoSaid): the bulk. -/
import Derived.Test.YtepnmejahbiacaaMs
import Derived.Test.YtepnmejahbiacaaRd
set_option linter.unusedVariables false
set_option linter.unusedSimpArgs false
namespace Go.Proofs.Ytepnmejahbiacaa
open Go.ChangeShapes Go.WideShapes Go.ChangeAt Go.RowKit Go.WideElems

theorem own_knob : ownKnob Try.prog.godebug = none := by kernel_rfl
theorem small_bound {H : Type} {l : List (DataW H)} (hk : Rows.uptoSmall H l = true) : Rows.uptoBulkAll l ≤ 1048576 := of_decide_eq_true hk

set_option maxHeartbeats 8000000 in
set_option maxRecDepth 100000 in
theorem single_contract (H : Type) (enc : TypeId × Value → H) (W : World) (base : Nat) (args : Array Value) (ds gs : List (DataW H)) (before : List MemPlace)
    (hval : ∀ (j : Nat) t v, Try.f3.params[j]? = some t → args[j]? = some v → Value.okWide Try.prog W .any base t v)
    (hW : DataW.Whole enc Try.prog Try.f3.params.toList Rows.methodsSingleSpec.vars false W args.toList ds gs before) (hk : Rows.uptoSmall H (ds ++ gs) = true) :
    Calls Try.prog 3 args W fun e W' => ∃ v, e = .returned v ∧ Rows.methodsSingleSpec.post enc Try.prog Try.f3 false true false false W args v W' := by
  have hW' := hW
  have hlt := hW.lt
  obtain ⟨p, q, hA0, hV, rfl, hfz, hnd⟩ := hW
  have hA : DataW.TrodAll enc Try.prog W 0 (fun _ => true) true Try.f3.params.toList args.toList ds p := hA0
  rw [Try.params3] at hA hval
  obtain ⟨v0, vs0, d0, ds0, p0, q0, hargs, rfl, rfl, h0, r0⟩ := trodAll_cons hA
  obtain ⟨v1, vs1, d1, ds1, p1, q1, rfl, rfl, rfl, h1, r1⟩ := trodAll_cons r0
  obtain ⟨v2, vs2, d2, ds2, p2, q2, rfl, rfl, rfl, h2, r2⟩ := trodAll_cons r1
  obtain ⟨rfl, rfl, rfl⟩ := trodAll_nil r2
  obtain rfl : args = #[v0, v1, v2] := by cases args; simp_all
  obtain ⟨rfl, rfl⟩ := trodVars_none hV
  have hbulk := small_bound hk
  obtain ⟨a0, n0, c0, rfl⟩ := okWide_slice Try.underlying22 (hval 0 22 v0 rfl rfl)
  obtain ⟨a1, n1, c1, rfl⟩ := okWide_slice Try.underlying23 (hval 1 23 v1 rfl rfl)
  obtain ⟨fs, hfs, _⟩ := struct_tag
  obtain ⟨cs2, rfl, _⟩ := okWide_struct hfs (hval 2 25 v2 rfl rfl)
  have h0k := h0
  have h1k := h1
  have h2k := h2
  obtain ⟨k0, t0⟩ := h0
  obtain ⟨k1, t1⟩ := h1
  obtain ⟨k2, t2⟩ := h2
  obtain ⟨A, l, c, e0, hc, hCI, hok, hbk⟩ := read_cis t0
  obtain ⟨AN, ns, cN, e1, hcN, _, hNS⟩ := read_strs t1
  obtain ⟨tg, e2⟩ := read_tag t2
  simp [Value.cells] at e0 e1 e2
  obtain ⟨rfl, rfl, rfl⟩ := e0
  obtain ⟨rfl, rfl, rfl⟩ := e1
  have e2' : cs2 = #[.int .i64 tg.kind, .int .i64 tg.num, .string tg.name] := by
    cases cs2; simp_all
  subst e2'
  have hbk' : 7 * l.length ≤ Rows.uptoBulk d0 := hbk
  have hl : l.length ≤ 1000000 := by
    simp only [List.append_nil, Rows.uptoBulkAll] at hbulk
    omega
  simp only [List.append_nil] at hW' hlt
  refine (single_calls _ _ l _ _ ns tg W (fun _ => True) (fun _ => True) (Slc.stable ciR_stable hCI) hc hok hl (Slc.stable strR_stable hNS) hcN).mono fun e W' ⟨he, hb⟩ => ?_
  subst he
  have hrd22 : Try.prog.readableRec 22 = true := by kernel_rfl
  have hrd23 : Try.prog.readableRec 23 = true := by kernel_rfl
  have hrd25 : Try.prog.readableRec 25 = true := by kernel_rfl
  refine ⟨_, rfl, post_of_below (pa := p0 ++ (p1 ++ (p2 ++ []))) (pv := []) hW' (fun _ _ _ => (trodAll_cons_mk (shut_bool Try.underlying4 _) trodAll_mk0)) (fun sp hsp => ?_) (fun _ _ => rfl) (by simp) hb (ok_one (by kernel_rfl) rfl (okWide_bool_mk Try.underlying4 _))⟩
  have hin : ∀ x, x ∈ p0 ∨ x ∈ p1 ∨ x ∈ p2 → x ∈ p0 ++ (p1 ++ p2) := fun x hx => by simpa using hx
  show DataW.TrodAll enc Try.prog W' 0 sp true Try.f3.params.toList _ [d0, d1, d2] _
  rw [Try.params3]
  refine trodAll_cons_mk (Trod_stays laidOut hrd22 (of_decide_eq_true (by kernel_rfl)) h0k (fun x hx => hb.same (hlt x (hin x (.inl hx)))) (fun x hx => hsp x (hin x (.inl hx)))) ?_
  refine trodAll_cons_mk (Trod_stays laidOut hrd23 (of_decide_eq_true (by kernel_rfl)) h1k (fun x hx => hb.same (hlt x (hin x (.inr (.inl hx))))) (fun x hx => hsp x (hin x (.inr (.inl hx))))) ?_
  exact trodAll_cons_mk (Trod_stays laidOut hrd25 (of_decide_eq_true (by kernel_rfl)) h2k (fun x hx => hb.same (hlt x (hin x (.inr (.inr hx))))) (fun x hx => hsp x (hin x (.inr (.inr hx))))) trodAll_mk0

set_option maxHeartbeats 8000000 in
set_option maxRecDepth 100000 in
theorem single_lifted (os : Os) (started : os.Started) (H : Type) (enc : TypeId × Value → H) (F : Stop.Interp) :
    ReturnsInHanded {} Try.checked os 3 .any ((Rows.OpenSpec.upto Rows.methodsSingleSpec).pre6 enc Try.prog Try.f3 Rows.methodsSingleUptoRow.domain false) (((Rows.OpenSpec.upto Rows.methodsSingleSpec).at F).post enc Try.prog Try.f3 false true false false) := by
  refine returnsInHanded_of_cond (C := Try.checked) (s := Rows.OpenSpec.upto Rows.methodsSingleSpec) (k := Rows.uptoSmall) rfl own_knob started (by kernel_rfl) Try.func3
    (OpenSpec.witness (enc := enc) (C := Try.checked) (s := Rows.OpenSpec.upto Rows.methodsSingleSpec) (k := Rows.uptoSmall) rfl false ⟨#[], #[.slice none 0 0, .slice none 0 0, .agg #[.int .i64 0, .int .i64 0, .string ⟨#[]⟩]], []⟩ 8 (by kernel_rfl) (by kernel_rfl) (by kernel_rfl)
      (x := ([.nil, .nil, .agg [.lit (.int .i64 0), .lit (.int .i64 0), .lit (.string [])]], [], [])) (by kernel_rfl) rfl (by kernel_rfl)) ?_
  intro W base args ds gs before hval hW _ hk _
  exact single_contract H enc W base args ds gs before hval hW hk

theorem single_holds : Rows.MethodsSingleUptoSaid :=
  OpenClaim.holds_of_cond 3 Try.f3 rfl rfl rfl rfl rfl rfl rfl ⟨rfl, rfl, rfl, rfl, rfl⟩ rfl rfl rfl rfl rfl (by kernel_rfl) Try.func3 (by kernel_rfl)
    (of_decide_eq_true (by kernel_rfl)) (by unfold Func.isWrapper; first | (rw [if_pos (by decide +kernel)]; kernel_rfl) | (rw [if_neg (by decide +kernel)]; exact ⟨rfl, rfl⟩))
    (fun os started H enc _ F => single_lifted os started H enc F)
#print axioms single_holds
end Go.Proofs.Ytepnmejahbiacaa
