/- methods.Within. -/
import Derived.Test.YtepnmejahbiacaaTp
set_option linter.unusedVariables false
set_option linter.unusedSimpArgs false
namespace Go.Proofs.Ytepnmejahbiacaa
open Go.RowKit

set_option maxHeartbeats 16000000 in
set_option maxRecDepth 100000 in
theorem withinF_calls (AH : Option Addr) (cH : Nat) (l : List CI) (s t : Ty) (As At : Option Addr) (cs ct : Nat) (W : World) (hi : HiIn W AH cH l) (hs : TyIn W s As cs) (ht : TyIn W t At ct) :
    Calls Try.prog 29 #[.slice AH l.length cH, tyV s As cs, tyV t At ct] W fun e W' => e = .returned (.bool (withinR l s t)) ∧ Below W.heap.size W W' := by
  obtain ⟨Wa, hWa⟩ : ∃ Wa, Wa = W.alloc (.cells #[.int .i64 s.kind, .string s.name, .int .i64 s.lo, .int .i64 s.hi, .slice As s.args.length cs] 35) := ⟨_, rfl⟩
  obtain ⟨W1, hW1⟩ : ∃ W1, W1 = Wa.alloc (.cells #[.int .i64 t.kind, .string t.name, .int .i64 t.lo, .int .i64 t.hi, .slice At t.args.length ct] 35) := ⟨_, rfl⟩
  have za : Wa.heap.size = W.heap.size + 1 := by rw [hWa]; simp
  have b0 : Below W.heap.size W Wa := by rw [hWa]; exact (Below.refl _ W).alloc (Nat.le_refl _) _
  have ba : Below Wa.heap.size Wa W1 := by rw [hW1]; exact (Below.refl _ Wa).alloc (Nat.le_refl _) _
  have b1 : Below W.heap.size W W1 := below_step b0 ba
  have xs : ∀ j u, [Value.int .i64 s.kind, .string s.name, .int .i64 s.lo, .int .i64 s.hi, .slice As s.args.length cs][j]? = some u → W1.cell? ⟨W.heap.size, j, none⟩ = some u := fun j u hj => cell_all (by rw [hWa]; exact cell_new W _ _ _ rfl j u hj) ba
  have xt : ∀ j u, [Value.int .i64 t.kind, .string t.name, .int .i64 t.lo, .int .i64 t.hi, .slice At t.args.length ct][j]? = some u → W1.cell? ⟨W.heap.size + 1, j, none⟩ = some u := fun j u hj => by rw [hW1]; exact cell_new Wa _ _ _ za.symm j u hj
  have XS := Lib.hid xs
  have XT := Lib.hid xt
  have HI := Lib.hid hi
  have HS := Lib.hid hs
  have HT := Lib.hid ht
  have HVA : Hid (∀ V x A c, Below W.heap.size W V → TyIn W x A c → Calls Try.prog 13 #[.slice AH l.length cH, tyV x A c] V fun e V' => ∃ z, e = .returned (.int .i64 z) ∧ Below V.heap.size V V' ∧ (z = 0 ↔ LookOk l ∧ validErr l x = 0)) := Lib.hid (fun V x A c hv hx => by
    obtain ⟨G, h⟩ := (HI.out.keep hv).h
    obtain ⟨G2, h2⟩ := (hx.keep hv).h2
    refine (Valid_calls AH cH l x A c V HI.out.hcH G h HI.out.ol HI.out.hl G2 h2 hx.h1 hx.hs).mono ?_
    rintro e V' ⟨q, (⟨q1, rfl⟩ | ⟨q1, rfl⟩)⟩
    · exact ⟨_, rfl, q, fun e => absurd e (by decide), fun e => (q1 e.1).elim⟩
    · exact ⟨_, rfl, q, fun e => ⟨q1, e⟩, fun e => e.2⟩)
  have HWI : Hid (∀ V, Below W.heap.size W V → Calls Try.prog 48 #[.slice AH l.length cH, tyV s As cs, tyV t At ct] V fun e V' => e = .returned (.bool (withinB l s t)) ∧ Below V.heap.size V V') := Lib.hid (fun V hv => by
    obtain ⟨G, h⟩ := (HI.out.keep hv).h
    obtain ⟨G1, h1⟩ := (HS.out.keep hv).h2
    obtain ⟨G2, h2⟩ := (HT.out.keep hv).h2
    exact within_calls AH cH l s t As At cs ct V G h HI.out.hl HI.out.ol G1 G2 h1 h2 HS.out.hs.1 HT.out.hs.1)
  have HR : Hid (withinR l s t = true ↔ LookOk l ∧ validErr l s = 0 ∧ validErr l t = 0 ∧ withinB l s t = true) := Lib.hid (by unfold withinR; simp [and_assoc])
  have HF : Hid (∀ (P : Prop), (withinR l s t = true → P) → ¬ P → withinR l s t = false) := Lib.hid (fun P h1 h2 => by
    cases h : withinR l s t with
    | false => rfl
    | true => exact (h2 (h1 h)).elim)
  clear xs xt hi hs ht b0 ba za
  subst hW1 hWa
  have s0 := XS.out 0 _ rfl
  have s1 := XS.out 1 _ rfl
  have s2 := XS.out 2 _ rfl
  have s3 := XS.out 3 _ rfl
  have s4 := XS.out 4 _ rfl
  go_enter Try.func29, Try.ntmps29
  go_wp2_with (fail)
  refine (HVA.out _ s As cs b1 HS.out).mono ?_
  rintro e V ⟨z, rfl, hbv, hz⟩
  have q1 := below_step b1 hbv
  clear s0 s1 s2 s3 s4
  by_cases hz0 : z = 0
  rotate_left
  · have HE : Hid (withinR l s t = false) := Lib.hid (HF.out _ (fun h => ⟨(HR.out.1 h).1, (HR.out.1 h).2.1⟩) (fun h => hz0 (hz.2 h)))
    have t1 : (z == 0) = false := beq_eq_false_iff_ne.2 hz0
    clear hz hz0
    go_wp2
    go_ret
    exact ⟨(by rw [HE.out]; try rfl), q1⟩
  have H1 := Lib.hid (hz.1 hz0)
  subst hz0
  clear hz
  have t0 := cell_all (XT.out 0 _ rfl) hbv
  have t1 := cell_all (XT.out 1 _ rfl) hbv
  have t2 := cell_all (XT.out 2 _ rfl) hbv
  have t3 := cell_all (XT.out 3 _ rfl) hbv
  have t4 := cell_all (XT.out 4 _ rfl) hbv
  go_wp2_with (fail)
  refine (HVA.out V t At ct q1 HT.out).mono ?_
  clear HVA
  rintro e V2 ⟨z, rfl, hb2, hz⟩
  have q2 := below_step q1 hb2
  have hv2 := below_step hbv hb2
  clear t0 t1 t2 t3 t4
  by_cases hz0 : z = 0
  rotate_left
  · have HE : Hid (withinR l s t = false) := Lib.hid (HF.out _ (fun h => ⟨(HR.out.1 h).1, (HR.out.1 h).2.2.1⟩) (fun h => hz0 (hz.2 h)))
    have t1 : (z == 0) = false := beq_eq_false_iff_ne.2 hz0
    clear hz hz0
    go_wp2
    go_ret
    exact ⟨(by rw [HE.out]; try rfl), q2⟩
  have H2 := Lib.hid (hz.1 hz0)
  subst hz0
  clear hz
  have HE : Hid (withinR l s t = withinB l s t) := Lib.hid (withinR_ok H1.out.1 H1.out.2 H2.out.2)
  have s0 := cell_all (XS.out 0 _ rfl) hv2
  have s1 := cell_all (XS.out 1 _ rfl) hv2
  have s2 := cell_all (XS.out 2 _ rfl) hv2
  have s3 := cell_all (XS.out 3 _ rfl) hv2
  have s4 := cell_all (XS.out 4 _ rfl) hv2
  have t0 := cell_all (XT.out 0 _ rfl) hv2
  have t1 := cell_all (XT.out 1 _ rfl) hv2
  have t2 := cell_all (XT.out 2 _ rfl) hv2
  have t3 := cell_all (XT.out 3 _ rfl) hv2
  have t4 := cell_all (XT.out 4 _ rfl) hv2
  have HW2 := Lib.hid (HWI.out V2 q2)
  clear HWI HI HS HT HR HF H1 H2
  generalize withinB l s t = wb at HW2 HE
  go_wp2_with (fail)
  refine HW2.out.mono ?_
  clear HW2
  rintro e V3 ⟨rfl, hb3⟩
  have q3 := below_step q2 hb3
  go_wp2
  go_ret
  exact ⟨(by rw [HE.out]; try rfl), q3⟩
end Go.Proofs.Ytepnmejahbiacaa
