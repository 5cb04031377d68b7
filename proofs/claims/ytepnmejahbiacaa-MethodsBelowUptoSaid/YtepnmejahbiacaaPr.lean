/- methods.Precedes. -/
import Derived.Test.YtepnmejahbiacaaSa
set_option linter.unusedVariables false
set_option linter.unusedSimpArgs false
namespace Go.Proofs.Ytepnmejahbiacaa
open Go.RowKit

/-- What Precedes returns. -/
noncomputable def precR (l : List CI) (a b : Meth) (ts : List Tag) : Bool := decide (checkAllE l [a, b] ts = 0) && appB l ts a && appB l ts b && precB l ts a b
/-- A method as an argument: its cells are there. -/
structure MetIn (W : World) (m : Meth) (A1 A2 : Option Addr) (c1 c2 : Nat) : Prop where
  h1 : m.pars.length ≤ c1
  h2 : ∃ G, Held G (Pars A1 m.pars) W
  h3 : m.result.args.length ≤ c2
  h4 : ∃ G, Held G (Typs A2 m.result.args) W
  hs : ∀ p ∈ m.pars, TySmall p.type
  hp : m.pars.length ≤ 1000000
theorem MetIn.keep {W V : World} {m : Meth} {A1 A2 : Option Addr} {c1 c2 : Nat} (h : MetIn W m A1 A2 c1 c2) (b : Below W.heap.size W V) : MetIn V m A1 A2 c1 c2 :=
  ⟨h.h1, h.h2.imp fun _ h => h.keep (Keep.all b), h.h3, h.h4.imp fun _ h => h.keep (Keep.all b), h.hs, h.hp⟩
theorem MetIn.held {W : World} {m : Meth} {A1 A2 : Option Addr} {c1 c2 : Nat} (h : MetIn W m A1 A2 c1 c2) : Held (fun b => b < W.heap.size) (metR m [.int .i64 m.id, .string m.lib, .slice A1 m.pars.length c1, .int .i64 m.result.kind, .string m.result.name, .int .i64 m.result.lo, .int .i64 m.result.hi, .slice A2 m.result.args.length c2]) W := by
  obtain ⟨G1, g1⟩ := h.h2
  obtain ⟨G2, g2⟩ := h.h4
  exact metR.mk h.h1 g1.here h.h3 g2.here

set_option maxHeartbeats 16000000 in
set_option maxRecDepth 100000 in
theorem precedesF_calls (AH : Option Addr) (cH : Nat) (l : List CI) (AT : Option Addr) (cT : Nat) (ts : List Tag) (a b : Meth) (Aa Ar Ba Br : Option Addr) (ca cr cb cq : Nat) (W : World) (GH GT : Nat → Prop) (h : Held GH (CIs AH l) W) (hcH : l.length ≤ cH) (ol : ∀ x ∈ l, ciOk x) (hl : l.length ≤ 1000000)
    (hT : Held GT (Tags AT ts) W) (hts : ts.length ≤ 1000000) (ha : MetIn W a Aa Ar ca cr) (hb : MetIn W b Ba Br cb cq) :
    Calls Try.prog 26 #[.slice AH l.length cH, metV a Aa ca Ar cr, metV b Ba cb Br cq, .slice AT ts.length cT] W fun e W' => e = .returned (.bool (precR l a b ts)) ∧ Below W.heap.size W W' := by
  obtain ⟨Wa, hWa⟩ : ∃ Wa, Wa = W.alloc (.cells #[.int .i64 a.id, .string a.lib, .slice Aa a.pars.length ca, .int .i64 a.result.kind, .string a.result.name, .int .i64 a.result.lo, .int .i64 a.result.hi, .slice Ar a.result.args.length cr] 39) := ⟨_, rfl⟩
  obtain ⟨Wb, hWb⟩ : ∃ Wb, Wb = Wa.alloc (.cells #[.int .i64 b.id, .string b.lib, .slice Ba b.pars.length cb, .int .i64 b.result.kind, .string b.result.name, .int .i64 b.result.lo, .int .i64 b.result.hi, .slice Br b.result.args.length cq] 39) := ⟨_, rfl⟩
  obtain ⟨W1, hW1⟩ : ∃ W1, W1 = Wb.alloc (.cells #[.int .i64 a.id, .string a.lib, .slice Aa a.pars.length ca, .int .i64 a.result.kind, .string a.result.name, .int .i64 a.result.lo, .int .i64 a.result.hi, .slice Ar a.result.args.length cr, .int .i64 b.id, .string b.lib, .slice Ba b.pars.length cb, .int .i64 b.result.kind, .string b.result.name, .int .i64 b.result.lo, .int .i64 b.result.hi, .slice Br b.result.args.length cq] 39) := ⟨_, rfl⟩
  have za : Wa.heap.size = W.heap.size + 1 := by rw [hWa]; simp
  have zb : Wb.heap.size = W.heap.size + 2 := by rw [hWb]; simp [za]
  have b0 : Below W.heap.size W Wa := by rw [hWa]; exact (Below.refl _ W).alloc (Nat.le_refl _) _
  have ba : Below Wa.heap.size Wa Wb := by rw [hWb]; exact (Below.refl _ Wa).alloc (Nat.le_refl _) _
  have bb : Below Wb.heap.size Wb W1 := by rw [hW1]; exact (Below.refl _ Wb).alloc (Nat.le_refl _) _
  have b2 : Below W.heap.size W Wb := below_step b0 ba
  have b1 : Below W.heap.size W W1 := below_step b2 bb
  have xa : ∀ j u, [Value.int .i64 a.id, .string a.lib, .slice Aa a.pars.length ca, .int .i64 a.result.kind, .string a.result.name, .int .i64 a.result.lo, .int .i64 a.result.hi, .slice Ar a.result.args.length cr][j]? = some u → W1.cell? ⟨W.heap.size, j, none⟩ = some u := fun j u hj => cell_all (by rw [hWa]; exact cell_new W _ _ _ rfl j u hj) (below_step ba bb)
  have xb : ∀ j u, [Value.int .i64 b.id, .string b.lib, .slice Ba b.pars.length cb, .int .i64 b.result.kind, .string b.result.name, .int .i64 b.result.lo, .int .i64 b.result.hi, .slice Br b.result.args.length cq][j]? = some u → W1.cell? ⟨W.heap.size + 1, j, none⟩ = some u := fun j u hj => cell_all (by rw [hWb]; exact cell_new Wa _ _ _ za.symm j u hj) bb
  have XA := Lib.hid xa
  have XB := Lib.hid xb
  have hrows := rows2 (R := metR) (n := Wb.heap.size) (w := Wb) 39 rfl ((ha.keep b2).held) ((hb.keep b2).held) rfl rfl
  have hM : Held (fun x => x < Wb.heap.size + 1) (Meths (some ⟨W.heap.size + 2, 0, none⟩) [a, b]) W1 := by rw [hW1, ← zb]; exact hrows
  have HAS : Hid (Asks AH cH l (some ⟨W.heap.size + 2, 0, none⟩) [a, b] AT ts W1) := Lib.hid ⟨⟨_, h.keep (Keep.all b1)⟩, hcH, ol, hl, ⟨_, hM⟩, by simp, fun m hm => by
      rcases List.mem_cons.1 hm with rfl | hm
      · exact ha.hs
      · rw [List.mem_singleton.1 hm]; exact hb.hs, fun m hm => by
      rcases List.mem_cons.1 hm with rfl | hm
      · exact ha.hp
      · rw [List.mem_singleton.1 hm]; exact hb.hp, ⟨_, hT.keep (Keep.all b1)⟩, hts⟩
  have HOP := Lib.hid (open_calls AH cH l (some ⟨W.heap.size + 2, 0, none⟩) 2 [a, b] AT cT ts W1 HAS.out)
  have HAP : Hid (∀ (m : Meth) (A1 A2 : Option Addr) (c1 c2 : Nat) V cp A3 c3, Below W.heap.size W V → checkAllE l [a, b] ts = 0 → m ∈ [a, b] → MetIn W m A1 A2 c1 c2 → OpenAt cp AH cH l AT cT ts A3 c3 V → Calls Try.prog 43 #[.pointer (some ⟨cp, 0, none⟩), metV m A1 c1 A2 c2] V fun e V' => e = .returned (.bool (appB l ts m)) ∧ Below V.heap.size V V') :=
    Lib.hid (fun m A1 A2 c1 c2 V cp A3 c3 hv hz hm hmi ho => by
      obtain ⟨z1, z2, z3, z4, z5, z6⟩ := checkAllE_zero hz
      obtain ⟨G1, g1⟩ := (hmi.keep hv).h2
      refine (applies_calls cp AH cH l AT cT ts m A1 A2 c1 c2 V ho.call GH (h.keep (Keep.all hv)) hcH ol hl GT (hT.keep (Keep.all hv)) _ g1 (z5 m hm) hmi.hp hmi.hs).mono ?_
      rintro e w' ⟨q, (⟨q1, rfl⟩ | ⟨q1, rfl⟩)⟩
      · exact ⟨by rw [appB_true q1], q⟩
      · exact ⟨by rw [appB_false q1], q⟩)
  have HPR : Hid (∀ V cp A3 c3, Below W.heap.size W V → checkAllE l [a, b] ts = 0 → OpenAt cp AH cH l AT cT ts A3 c3 V → Calls Try.prog 44 #[.pointer (some ⟨cp, 0, none⟩), metV a Aa ca Ar cr, metV b Ba cb Br cq] V fun e V' => e = .returned (.bool (precB l ts a b)) ∧ Below V.heap.size V V') :=
    Lib.hid (fun V cp A3 c3 hv hz ho => by
      obtain ⟨z1, z2, z3, z4, z5, z6⟩ := checkAllE_zero hz
      obtain ⟨G1, g1⟩ := (ha.keep hv).h2
      obtain ⟨G2, g2⟩ := (hb.keep hv).h2
      exact precedes_calls cp AH cH l AT cT ts A3 c3 V ho GH (h.keep (Keep.all hv)) hl ol (fun t _ => cplAt_short z1 t) hts a b Aa Ar Ba Br ca cr cb cq G1 G2 g1 g2 (z5 a (by simp)) (z5 b (by simp)) ha.hs hb.hs)
  have HA := Lib.hid ha
  have HB := Lib.hid hb
  have HR : Hid (precR l a b ts = (decide (checkAllE l [a, b] ts = 0) && appB l ts a && appB l ts b && precB l ts a b)) := Lib.hid rfl
  clear hM hrows xa xb h hT ha hb HAS b0 ba bb b2 za zb
  subst hW1 hWb hWa
  go_enter Try.func26, Try.ntmps26
  go_wp2_with (fail)
  refine HOP.out.mono ?_
  clear HOP
  rintro e V ⟨hbv, (⟨hz, rfl⟩ | ⟨hz, cp, A3, c3, rfl, hcp, ho⟩)⟩
  · have t1 : (checkAllE l [a, b] ts == 0) = false := beq_eq_false_iff_ne.2 hz
    have HE : Hid (precR l a b ts = false) := Lib.hid (by rw [HR.out, decide_eq_false hz]; rfl)
    have q1 := below_step b1 hbv
    clear hz HAP HPR HR
    generalize checkAllE l [a, b] ts = ce at t1
    go_wp2
    go_ret
    exact ⟨(by rw [HE.out]; try rfl), q1⟩
  have HZ := Lib.hid hz
  have HO := Lib.hid ho
  have q1 := below_step b1 hbv
  clear hz ho
  have HA1 := Lib.hid (HAP.out a Aa Ar ca cr V cp A3 c3 q1 HZ.out (by simp) HA.out HO.out)
  have c0 := cell_all (XA.out 0 _ rfl) hbv
  have c1 := cell_all (XA.out 1 _ rfl) hbv
  have c2 := cell_all (XA.out 2 _ rfl) hbv
  have c3' := cell_all (XA.out 3 _ rfl) hbv
  have c4 := cell_all (XA.out 4 _ rfl) hbv
  have c5 := cell_all (XA.out 5 _ rfl) hbv
  have c6 := cell_all (XA.out 6 _ rfl) hbv
  have c7 := cell_all (XA.out 7 _ rfl) hbv
  cases haa : appB l ts a with
  | false =>
    have HE : Hid (precR l a b ts = false) := Lib.hid (by rw [HR.out, haa]; simp)
    rw [haa] at HA1
    clear haa
    go_wp2_with (fail)
    refine HA1.out.mono ?_
    rintro e V2 ⟨rfl, hb2⟩
    have q2 := below_step q1 hb2
    go_wp2
    go_ret
    exact ⟨(by rw [HE.out]; try rfl), q2⟩
  | true =>
  rw [haa] at HA1
  have HAA := Lib.hid haa
  clear haa
  go_wp2_with (fail)
  refine HA1.out.mono ?_
  clear HA1
  rintro e V2 ⟨rfl, hb2⟩
  have q2 := below_step q1 hb2
  have hv2 := below_step hbv hb2
  have e0 := cell_all (XB.out 0 _ rfl) hv2
  have e1 := cell_all (XB.out 1 _ rfl) hv2
  have e2 := cell_all (XB.out 2 _ rfl) hv2
  have e3 := cell_all (XB.out 3 _ rfl) hv2
  have e4 := cell_all (XB.out 4 _ rfl) hv2
  have e5 := cell_all (XB.out 5 _ rfl) hv2
  have e6 := cell_all (XB.out 6 _ rfl) hv2
  have e7 := cell_all (XB.out 7 _ rfl) hv2
  have HB1 := Lib.hid (HAP.out b Ba Br cb cq V2 cp A3 c3 q2 HZ.out (by simp) HB.out (HO.out.keep hb2))
  clear c0 c1 c2 c3' c4 c5 c6 c7
  cases hbb : appB l ts b with
  | false =>
    have HE : Hid (precR l a b ts = false) := Lib.hid (by rw [HR.out, hbb]; simp)
    rw [hbb] at HB1
    clear hbb
    go_wp2_with (fail)
    refine HB1.out.mono ?_
    rintro e V3 ⟨rfl, hb3⟩
    have q3 := below_step q2 hb3
    go_wp2
    go_ret
    exact ⟨(by rw [HE.out]; try rfl), q3⟩
  | true =>
  rw [hbb] at HB1
  have HE : Hid (precR l a b ts = precB l ts a b) := Lib.hid (by rw [HR.out, decide_eq_true HZ.out, HAA.out, hbb]; rfl)
  clear hbb HR
  go_wp2_with (fail)
  refine HB1.out.mono ?_
  clear HB1 e0 e1 e2 e3 e4 e5 e6 e7
  rintro e V3 ⟨rfl, hb3⟩
  have q3 := below_step q2 hb3
  have hv3 := below_step hv2 hb3
  have c0 := cell_all (XA.out 0 _ rfl) hv3
  have c1 := cell_all (XA.out 1 _ rfl) hv3
  have c2 := cell_all (XA.out 2 _ rfl) hv3
  have c3' := cell_all (XA.out 3 _ rfl) hv3
  have c4 := cell_all (XA.out 4 _ rfl) hv3
  have c5 := cell_all (XA.out 5 _ rfl) hv3
  have c6 := cell_all (XA.out 6 _ rfl) hv3
  have c7 := cell_all (XA.out 7 _ rfl) hv3
  have e0 := cell_all (XB.out 0 _ rfl) hv3
  have e1 := cell_all (XB.out 1 _ rfl) hv3
  have e2 := cell_all (XB.out 2 _ rfl) hv3
  have e3 := cell_all (XB.out 3 _ rfl) hv3
  have e4 := cell_all (XB.out 4 _ rfl) hv3
  have e5 := cell_all (XB.out 5 _ rfl) hv3
  have e6 := cell_all (XB.out 6 _ rfl) hv3
  have e7 := cell_all (XB.out 7 _ rfl) hv3
  have HP1 := Lib.hid (HPR.out V3 cp A3 c3 q3 HZ.out (HO.out.keep (below_step hb2 hb3)))
  clear HPR HAP
  generalize precB l ts a b = pb at HP1 HE
  go_wp2_with (fail)
  refine HP1.out.mono ?_
  clear HP1
  rintro e V4 ⟨rfl, hb4⟩
  have q4 := below_step q3 hb4
  go_wp2
  go_ret
  exact ⟨(by rw [HE.out]; try rfl), q4⟩
end Go.Proofs.Ytepnmejahbiacaa
