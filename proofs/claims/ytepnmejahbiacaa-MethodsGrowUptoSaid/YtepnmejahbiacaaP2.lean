/- For every input of bulk at most 1048576 the law MethodsGrow returns true, and its arguments read behind the call as before. Conditions: those of the given row (UptoSaid): the bulk. -/
import Derived.Test.YtepnmejahbiacaaMg
import Derived.Test.YtepnmejahbiacaaRe
set_option linter.unusedVariables false
set_option linter.unusedSimpArgs false
namespace Go.Proofs.Ytepnmejahbiacaa
open Go.ChangeShapes Go.WideShapes Go.ChangeAt Go.RowKit Go.WideElems

theorem own_knob : ownKnob Try.prog.godebug = none := by kernel_rfl
theorem small_bound {H : Type} {l : List (DataW H)} (hk : Rows.uptoSmall H l = true) : Rows.uptoBulkAll l ≤ 1048576 := of_decide_eq_true hk
theorem cells_mets : Try.prog.cellsOf 31 = 1 := by kernel_rfl
theorem cells_tags : Try.prog.cellsOf 44 = 1 := by kernel_rfl
theorem cells_call : Try.prog.cellsOf 51 = 2 := by kernel_rfl
theorem struct_call : ∃ fs, Try.prog.underlying 51 = some (.struct fs) ∧ (fs.map fun f => (f.type, f.offset)) = #[(31, 0), (44, 1)] := by
  have h : (match Try.prog.underlying 51 with | some (.struct fs) => decide ((fs.map fun f => (f.type, f.offset)) = #[(31, 0), (44, 1)]) | _ => false) = true := by kernel_rfl
  split at h
  · rename_i fs e
    exact ⟨fs, e, of_decide_eq_true h⟩
  · cases h
/-- A call: methods and tags. -/
theorem read_call {H : Type} {enc : TypeId × Value → H} {W : World} {sp : Nat → Bool} {n : Nat} {cs : List Value} {x : DataW H × List MemPlace} (h : DataW.trod enc Try.prog W 0 sp true n 51 cs = some x) :
    ∃ (AM : Option Addr) (ms : List Meth) (cM : Nat) (AT : Option Addr) (ts : List Tag) (cT : Nat), cs = [.slice AM ms.length cM, .slice AT ts.length cT] ∧ Meths AM ms W ∧ Tags AT ts W ∧ 2 * ts.length ≤ Rows.uptoBulk x.1 ∧ ∀ y ∈ ms, 2 * y.pars.length ≤ Rows.uptoBulk x.1 := by
  obtain ⟨xs, m, rfl, hl, hx, hf⟩ := read_fields struct_call h
  rw [cells_call] at hl
  obtain ⟨y0, e0, f0⟩ := hf 0 31 0 1 rfl cells_mets
  obtain ⟨y1, e1, f1⟩ := hf 1 44 1 1 rfl cells_tags
  have hb0 := bulk_mem (List.mem_map_of_mem (f := (·.1)) (List.mem_of_getElem? e0))
  have hb1 := bulk_mem (List.mem_map_of_mem (f := (·.1)) (List.mem_of_getElem? e1))
  match cs, hl with
  | [v0, v1], _ =>
    obtain ⟨A0, l0, c0, q0, _, r0, _, s0⟩ := read_mets f0
    obtain ⟨A1, l1, c1, q1, _, r1, s1⟩ := read_tags f1
    simp at q0 q1
    subst q0 q1
    refine ⟨A0, l0, c0, A1, l1, c1, rfl, r0, r1, ?_, fun y hy => ?_⟩
    · simp only [Rows.uptoBulk]; omega
    · have := (s0 y hy).1
      simp only [Rows.uptoBulk]; omega

set_option maxHeartbeats 8000000 in
set_option maxRecDepth 100000 in
theorem grow_contract (H : Type) (enc : TypeId × Value → H) (W : World) (base : Nat) (args : Array Value) (ds gs : List (DataW H)) (before : List MemPlace)
    (hval : ∀ (j : Nat) t v, Try.f4.params[j]? = some t → args[j]? = some v → Value.okWide Try.prog W .any base t v)
    (hW : DataW.Whole enc Try.prog Try.f4.params.toList Rows.methodsGrowSpec.vars false W args.toList ds gs before) (hk : Rows.uptoSmall H (ds ++ gs) = true) :
    Calls Try.prog 4 args W fun e W' => ∃ v, e = .returned v ∧ Rows.methodsGrowSpec.post enc Try.prog Try.f4 false true false false W args v W' := by
  have hW' := hW
  have hlt := hW.lt
  obtain ⟨p, q, hA0, hV, rfl, hfz, hnd⟩ := hW
  have hA : DataW.TrodAll enc Try.prog W 0 (fun _ => true) true Try.f4.params.toList args.toList ds p := hA0
  rw [Try.params4] at hA hval
  obtain ⟨v0, vs0, d0, ds0, p0, q0, hargs, rfl, rfl, h0, r0⟩ := trodAll_cons hA
  obtain ⟨v1, vs1, d1, ds1, p1, q1, rfl, rfl, rfl, h1, r1⟩ := trodAll_cons r0
  obtain ⟨v2, vs2, d2, ds2, p2, q2, rfl, rfl, rfl, h2, r2⟩ := trodAll_cons r1
  obtain ⟨rfl, rfl, rfl⟩ := trodAll_nil r2
  obtain rfl : args = #[v0, v1, v2] := by cases args; simp_all
  obtain ⟨rfl, rfl⟩ := trodVars_none hV
  have hbulk := small_bound hk
  obtain ⟨a0, n0, c0, rfl⟩ := okWide_slice Try.underlying22 (hval 0 22 v0 rfl rfl)
  obtain ⟨fs, hfs, _⟩ := struct_call
  obtain ⟨cs1, rfl, _⟩ := okWide_struct hfs (hval 1 51 v1 rfl rfl)
  obtain ⟨n, rfl⟩ := okWide_int Try.underlying3 (hval 2 3 v2 rfl rfl)
  have h0k := h0
  have h1k := h1
  have h2k := h2
  obtain ⟨k0, t0⟩ := h0
  obtain ⟨k1, t1⟩ := h1
  obtain ⟨A, l, c, e0, hc, hCI, hok, hbk⟩ := read_cis t0
  obtain ⟨AM, ms, cM, AT, ts, cT, e1, hM, hT, hbt, hbm⟩ := read_call t1
  simp [Value.cells] at e0 e1
  obtain ⟨rfl, rfl, rfl⟩ := e0
  have e1' : cs1 = #[.slice AM ms.length cM, .slice AT ts.length cT] := by
    cases cs1; simp_all
  subst e1'
  have hbk' : 7 * l.length ≤ Rows.uptoBulk d0 := hbk
  have hbt' : 2 * ts.length ≤ Rows.uptoBulk d1 := hbt
  have hbm' : ∀ y ∈ ms, 2 * y.pars.length ≤ Rows.uptoBulk d1 := hbm
  have hl : l.length ≤ 1000000 := by
    simp only [List.append_nil, Rows.uptoBulkAll] at hbulk
    omega
  have hts : ts.length ≤ 1000000 := by
    simp only [List.append_nil, Rows.uptoBulkAll] at hbulk
    omega
  have hmp : ∀ m ∈ ms, m.pars.length ≤ 1000000 := fun m hm => by
    have := hbm' m hm
    simp only [List.append_nil, Rows.uptoBulkAll] at hbulk
    omega
  simp only [List.append_nil] at hW' hlt
  refine (grow_calls _ _ l _ _ ms _ _ ts n W (fun _ => True) (fun _ => True) (fun _ => True) (Slc.stable ciR_stable hCI) hc hok hl (Slc.stable metR_stable hM) hmp (fun w' k => (Slc.stable (fun w x cs h => fun w' k => h) hT) w' k) hts).mono fun e W' ⟨he, hb⟩ => ?_
  subst he
  have hrd22 : Try.prog.readableRec 22 = true := by kernel_rfl
  have hrd23 : Try.prog.readableRec 51 = true := by kernel_rfl
  have hrd25 : Try.prog.readableRec 3 = true := by kernel_rfl
  refine ⟨_, rfl, post_of_below (pa := p0 ++ (p1 ++ (p2 ++ []))) (pv := []) hW' (fun _ _ _ => (trodAll_cons_mk (shut_bool Try.underlying4 _) trodAll_mk0)) (fun sp hsp => ?_) (fun _ _ => rfl) (by simp) hb (ok_one (by kernel_rfl) rfl (okWide_bool_mk Try.underlying4 _))⟩
  have hin : ∀ x, x ∈ p0 ∨ x ∈ p1 ∨ x ∈ p2 → x ∈ p0 ++ (p1 ++ p2) := fun x hx => by simpa using hx
  show DataW.TrodAll enc Try.prog W' 0 sp true Try.f4.params.toList _ [d0, d1, d2] _
  rw [Try.params4]
  refine trodAll_cons_mk (Trod_stays laidOut hrd22 (of_decide_eq_true (by kernel_rfl)) h0k (fun x hx => hb.same (hlt x (hin x (.inl hx)))) (fun x hx => hsp x (hin x (.inl hx)))) ?_
  refine trodAll_cons_mk (Trod_stays laidOut hrd23 (of_decide_eq_true (by kernel_rfl)) h1k (fun x hx => hb.same (hlt x (hin x (.inr (.inl hx))))) (fun x hx => hsp x (hin x (.inr (.inl hx))))) ?_
  exact trodAll_cons_mk (Trod_stays laidOut hrd25 (of_decide_eq_true (by kernel_rfl)) h2k (fun x hx => hb.same (hlt x (hin x (.inr (.inr hx))))) (fun x hx => hsp x (hin x (.inr (.inr hx))))) trodAll_mk0

set_option maxHeartbeats 8000000 in
set_option maxRecDepth 100000 in
theorem grow_lifted (os : Os) (started : os.Started) (H : Type) (enc : TypeId × Value → H) (F : Stop.Interp) :
    ReturnsInHanded {} Try.checked os 4 .any ((Rows.OpenSpec.upto Rows.methodsGrowSpec).pre6 enc Try.prog Try.f4 Rows.methodsGrowUptoRow.domain false) (((Rows.OpenSpec.upto Rows.methodsGrowSpec).at F).post enc Try.prog Try.f4 false true false false) := by
  refine returnsInHanded_of_cond (C := Try.checked) (s := Rows.OpenSpec.upto Rows.methodsGrowSpec) (k := Rows.uptoSmall) rfl own_knob started (by kernel_rfl) Try.func4
    (OpenSpec.witness (enc := enc) (C := Try.checked) (s := Rows.OpenSpec.upto Rows.methodsGrowSpec) (k := Rows.uptoSmall) rfl false ⟨#[], #[.slice none 0 0, .agg #[.slice none 0 0, .slice none 0 0], .int .i64 0], []⟩ 8 (by kernel_rfl) (by kernel_rfl) (by kernel_rfl)
      (x := ([.nil, .agg [.nil, .nil], .lit (.int .i64 0)], [], [])) (by kernel_rfl) rfl (by kernel_rfl)) ?_
  intro W base args ds gs before hval hW _ hk _
  exact grow_contract H enc W base args ds gs before hval hW hk

theorem grow_holds : Rows.MethodsGrowUptoSaid :=
  OpenClaim.holds_of_cond 4 Try.f4 rfl rfl rfl rfl rfl rfl rfl ⟨rfl, rfl, rfl, rfl, rfl⟩ rfl rfl rfl rfl rfl (by kernel_rfl) Try.func4 (by kernel_rfl)
    (of_decide_eq_true (by kernel_rfl)) (by unfold Func.isWrapper; first | (rw [if_pos (by decide +kernel)]; kernel_rfl) | (rw [if_neg (by decide +kernel)]; exact ⟨rfl, rfl⟩))
    (fun os started H enc _ F => grow_lifted os started H enc F)
#print axioms grow_holds
end Go.Proofs.Ytepnmejahbiacaa
