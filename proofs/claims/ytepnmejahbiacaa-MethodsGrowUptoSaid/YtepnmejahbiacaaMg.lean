/- skerrylaw10.MethodsGrow. -/
import Derived.Test.YtepnmejahbiacaaSn
import Derived.Test.YtepnmejahbiacaaWt
import Derived.Test.YtepnmejahbiacaaGw
set_option linter.unusedVariables false
set_option linter.unusedSimpArgs false
namespace Go.Proofs.Ytepnmejahbiacaa
open Go.RowKit

theorem slc_take {α : Type} {R : α → List Value → World → Prop} {sz : Nat} {A : Option Addr} {l : List α} {w : World} (h : Slc R sz A l w) (k : Nat) : Slc R sz A (l.take k) w := fun i x hx => by
  refine h i x ?_
  rw [List.getElem?_take] at hx
  split at hx
  · exact hx
  · cases hx

set_option maxHeartbeats 32000000 in
set_option maxRecDepth 100000 in
theorem grow_calls (AH : Option Addr) (cH : Nat) (l : List CI) (AM : Option Addr) (cM : Nat) (ms : List Meth) (AT : Option Addr) (cT : Nat) (ts : List Tag) (n : Int) (W : World) (GH GM GT : Nat → Prop) (h : Held GH (CIs AH l) W) (hcH : l.length ≤ cH) (ol : ∀ x ∈ l, ciOk x) (hl : l.length ≤ 1000000)
    (hM : Held GM (Meths AM ms) W) (hmp : ∀ m ∈ ms, m.pars.length ≤ 1000000) (hT : Held GT (Tags AT ts) W) (hts : ts.length ≤ 1000000) :
    Calls Try.prog 4 #[.slice AH l.length cH, .agg #[.slice AM ms.length cM, .slice AT ts.length cT], .int .i64 n] W fun e W' => e = .returned (.bool true) ∧ Below W.heap.size W W' := by
  have HH := Lib.hid h
  have HM := Lib.hid hM
  have HT := Lib.hid hT
  have HOL := Lib.hid ol
  have HMP := Lib.hid hmp
  clear h hM hT ol hmp
  have b0 : Below W.heap.size W (W.alloc (.cells #[.slice AM ms.length cM, .slice AT ts.length cT] 51)) := (Below.refl _ W).alloc (Nat.le_refl _) _
  have xt : ∀ j u, [Value.slice AM ms.length cM, .slice AT ts.length cT][j]? = some u → (W.alloc (.cells #[.slice AM ms.length cM, .slice AT ts.length cT] 51)).cell? ⟨W.heap.size, j, none⟩ = some u := fun j u hj => cell_new W _ _ _ rfl j u hj
  have XT := Lib.hid xt
  clear xt
  go_enter Try.func4, Try.ntmps4
  go_wp2_with (fail)
  refine (sane_calls _).mono ?_
  rintro e V0 ⟨rfl, hb0⟩
  have q0 := below_step b0 hb0
  have t0 := cell_all (XT.out 0 _ rfl) hb0
  have T1 := Lib.hid (cell_all (XT.out 1 _ rfl) hb0)
  have HFE := Lib.hid (few_calls AM cM ms V0 _ (HM.out.all q0) HMP.out)
  cases hfe : fewB ms with
  | false =>
    rw [hfe] at HFE
    clear hfe
    go_wp2_with (fail)
    refine HFE.out.mono ?_
    rintro e V1 ⟨rfl, hb1⟩
    have q1 := below_step q0 hb1
    go_wp2
    go_ret
    exact ⟨rfl, q1⟩
  | true =>
  rw [hfe] at HFE
  have HF := Lib.hid (fewB_iff.1 hfe)
  clear hfe
  by_cases hl0 : l.length = 0
  · have t1 : ((l.length : Int) == 0) = true := beq_iff_eq.2 (by omega)
    clear hl0
    go_wp2_with (fail)
    refine HFE.out.mono ?_
    rintro e V1 ⟨rfl, hb1⟩
    have q1 := below_step q0 hb1
    go_wp2
    go_ret
    exact ⟨rfl, q1⟩
  have t1 : ((l.length : Int) == 0) = false := beq_eq_false_iff_ne.2 (by omega)
  clear hl0
  have HMO := Lib.hid (fun V => mod_calls n l.length V (by omega))
  go_wp2_with (fail)
  refine HFE.out.mono ?_
  clear HFE
  rintro e V1 ⟨rfl, hb1⟩
  have q1 := below_step q0 hb1
  have t0' := cell_all t0 hb1
  have T1' := Lib.hid (cell_all T1.out hb1)
  clear t0 T1
  go_wp2_with (fail)
  refine (HMO.out V1).mono ?_
  clear HMO t1
  rintro e V1' ⟨k, rfl, hk, rfl⟩
  have hk0 : (0 : Int) ≤ (k : Int) := Int.natCast_nonneg _
  obtain ⟨part, hpart⟩ : ∃ part, part = l.take k := ⟨_, rfl⟩
  have HLR : Hid (l = part ++ l.drop k) := Lib.hid (by rw [hpart, List.take_append_drop])
  have HPL : Hid (part.length = k) := Lib.hid (by rw [hpart, List.length_take]; omega)
  have HPH : Hid (Held GH (CIs AH part) W) := Lib.hid (fun w' kp => by rw [hpart]; exact slc_take (HH.out w' kp) k)
  have HPO : Hid (∀ x ∈ part, ciOk x) := Lib.hid (fun x hx => HOL.out x (by rw [hpart] at hx; exact List.mem_of_mem_take hx))
  clear hpart
  have HSM : Hid (∀ m ∈ ms, ∀ p ∈ m.pars, TySmall p.type) := Lib.hid (fun m hm p hp => tySmall_wei (HF.out.2 m hm p hp))
  have HAL : Hid (∀ V, Below W.heap.size W V → Asks AH cH l AM ms AT ts V) := Lib.hid (fun V q => ⟨⟨_, HH.out.all q⟩, hcH, HOL.out, hl, ⟨_, HM.out.all q⟩, by have := HF.out.1; omega, HSM.out, HMP.out, ⟨_, HT.out.all q⟩, hts⟩)
  have HAP : Hid (∀ V, Below W.heap.size W V → Asks AH cH part AM ms AT ts V) := Lib.hid (fun V q => ⟨⟨_, HPH.out.all q⟩, by rw [HPL.out]; omega, HPO.out, by rw [HPL.out]; omega, ⟨_, HM.out.all q⟩, by have := HF.out.1; omega, HSM.out, HMP.out, ⟨_, HT.out.all q⟩, hts⟩)
  have HCP : Hid (∀ V, Below W.heap.size W V → Calls Try.prog 23 #[.slice AH k cH, .slice AM ms.length cM, .slice AT ts.length cT] V fun e W' => e = .returned (.int .i64 (checkAllE part ms ts)) ∧ Below V.heap.size V W') := Lib.hid (fun V q => by
    have := checkAll_calls AH cH part AM cM ms AT cT ts V _ (HPH.out.all q) (by rw [HPL.out]; omega) HPO.out (by rw [HPL.out]; omega) _ (HM.out.all q) (by have := HF.out.1; omega) HSM.out HMP.out _ (HT.out.all q) hts
    rwa [HPL.out] at this)
  have HOR : Hid (∀ V, Below W.heap.size W V → Calls Try.prog 16 #[.slice AH k cH, .slice AM ms.length cM, .slice AT ts.length cT] V fun e W' => ∃ A' c', e = .returned (.tuple #[.slice A' (orderR part ms ts).1.length c', .bool (orderR part ms ts).2]) ∧ Held (fun b => b < W'.heap.size) (Ints A' (orderR part ms ts).1) W' ∧ Below V.heap.size V W') := Lib.hid (fun V q => by
    have := order_calls AH cH part AM cM ms AT cT ts V (HAP.out V q)
    rw [HPL.out] at this
    refine this.mono ?_
    rintro e W' ⟨v, rfl, ho, hb⟩
    obtain ⟨A', c', rfl, _, h2⟩ := ho.out
    exact ⟨A', c', rfl, h2.mono fun b hb _ => hb, hb⟩)
  have HOL2 : Hid (∀ V, Below W.heap.size W V → orderR l ms ts = orderR part ms ts → Calls Try.prog 16 #[.slice AH l.length cH, .slice AM ms.length cM, .slice AT ts.length cT] V fun e W' => ∃ A' c', e = .returned (.tuple #[.slice A' (orderR part ms ts).1.length c', .bool (orderR part ms ts).2]) ∧ Held (fun b => b < W'.heap.size) (Ints A' (orderR part ms ts).1) W' ∧ Below V.heap.size V W') := Lib.hid (fun V q eo => by
    have := order_calls AH cH l AM cM ms AT cT ts V (HAL.out V q)
    rw [eo] at this
    refine this.mono ?_
    rintro e W' ⟨v, rfl, ho, hb⟩
    obtain ⟨A', c', rfl, _, h2⟩ := ho.out
    exact ⟨A', c', rfl, h2.mono fun b hb _ => hb, hb⟩)
  clear hk0
  have t1' := T1'.out
  go_wp2_with (fail)
  refine (HCP.out _ q1).mono ?_
  clear HCP
  rintro e V2 ⟨rfl, hb2⟩
  have q2 := below_step q1 hb2
  have t0 := cell_all t0' hb2
  have t1 := cell_all t1' hb2
  clear t0' t1' T1'
  by_cases hz : checkAllE part ms ts = 0
  rotate_left
  · have t4 : (checkAllE part ms ts != 0) = true := by rw [bne_iff_ne]; exact hz
    generalize checkAllE part ms ts = ce at t4
    clear hz
    go_wp2
    go_ret
    exact ⟨rfl, q2⟩
  have HZ := Lib.hid hz
  rw [hz]
  clear hz
  go_wp2_with (fail)
  refine (Check_calls AH cH l V2 hcH _ (HH.out.all q2) HOL.out hl).mono ?_
  rintro e V3 ⟨hb3, (⟨hL, rfl⟩ | ⟨hL, rfl⟩)⟩
  rotate_left
  · have q3 := below_step q2 hb3
    clear hL
    go_wp2
    go_ret
    exact ⟨rfl, q3⟩
  have q3 := below_step q2 hb3
  have t0' := cell_all t0 hb3
  have t1' := cell_all t1 hb3
  clear t0 t1
  have HEO : Hid (orderR l ms ts = orderR part ms ts) := Lib.hid (by
    have e := HLR.out
    have hL' : LookOk (part ++ l.drop k) := by rw [← e]; exact hL
    have := order_grow (checkAllE_zero HZ.out).1 hL' HZ.out
    rwa [← e] at this)
  have hol : Hid ((orderR part ms ts).1.length ≤ 1000000) := Lib.hid (by
    have := (ord_lens part ts ms).1
    have h12 := HF.out.1
    unfold orderR
    rw [if_pos HZ.out]
    simp only [List.length_map]
    omega)
  have HC1 := HOR.out
  have HC2 : Hid (∀ V, Below W.heap.size W V → Calls Try.prog 16 #[.slice AH l.length cH, .slice AM ms.length cM, .slice AT ts.length cT] V fun e W' => ∃ A' c', e = .returned (.tuple #[.slice A' (orderR part ms ts).1.length c', .bool (orderR part ms ts).2]) ∧ Held (fun b => b < W'.heap.size) (Ints A' (orderR part ms ts).1) W' ∧ Below V.heap.size V W') := Lib.hid (fun V q => HOL2.out V q HEO.out)
  have HC1 := Lib.hid HOR.out
  clear hL HOR HOL2 HEO
  generalize (orderR part ms ts).1 = oi at HC1 HC2 hol
  generalize (orderR part ms ts).2 = ob at HC1 HC2
  go_wp2_with (fail)
  refine (HC1.out V3 q3).mono ?_
  clear HC1
  rintro e V4 ⟨A4, c4, rfl, hi4, hb4⟩
  have HI4 := Lib.hid hi4
  have q4 := below_step q3 hb4
  have t0 := cell_all t0' hb4
  have t1 := cell_all t1' hb4
  clear hi4 t0' t1'
  go_wp2_with (fail)
  refine (HC2.out V4 q4).mono ?_
  clear HC2
  rintro e V5 ⟨A5, c5, rfl, hi5, hb5⟩
  have HSI := Lib.hid (sameInts_true A4 A5 c4 c5 oi V5 _ _ (HI4.out.all hb5) hi5 hol.out)
  have q5 := below_step q4 hb5
  clear hi5 t0 t1
  go_wp2_with (fail)
  refine HSI.out.mono ?_
  rintro e V6 ⟨rfl, hb6⟩
  have q6 := below_step q5 hb6
  cases ob with
  | true =>
    go_wp2
    go_ret
    exact ⟨rfl, q6⟩
  | false =>
    go_wp2
    go_ret
    exact ⟨rfl, q6⟩
end Go.Proofs.Ytepnmejahbiacaa
