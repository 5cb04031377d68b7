/- skerrylaw10.MethodsStrict. -/
import Derived.Test.YtepnmejahbiacaaSn
import Derived.Test.YtepnmejahbiacaaWt
import Derived.Test.YtepnmejahbiacaaTp
import Derived.Deep.RegionHeld3
import Derived.Deep.DrawnRows
set_option linter.unusedVariables false
set_option linter.unusedSimpArgs false
namespace Go.Proofs.Ytepnmejahbiacaa
open Go.RowKit
attribute [local go_sem ↓] Go.wp_at_zero Go.wp_at_succ

/-- What TypePrecedes answers. -/
def TpAt (l : List CI) (v : Tag) (s t : Ty) (r : Bool) : Prop := tpR l v s t = r

set_option maxHeartbeats 64000000 in
set_option maxRecDepth 100000 in
theorem strict_calls (AH : Option Addr) (cH : Nat) (l : List CI) (AM : Option Addr) (cM : Nat) (ms : List Meth) (AT : Option Addr) (cT : Nat) (ts : List Tag) (W : World) (q : Asks AH cH l AM ms AT ts W) :
    Calls Try.prog 6 #[.slice AH l.length cH, .slice AM ms.length cM, .slice AT ts.length cT] W fun e W' => e = .returned (.bool true) ∧ Below W.heap.size W W' := by
  have HQ := Lib.hid q
  have hn := q.hn
  obtain ⟨GM, hM⟩ := q.hM
  have HM := Lib.hid hM
  clear q hM
  go_enter Try.func6, Try.ntmps6
  go_wp2_with (fail)
  refine (sane_calls _).mono ?_
  rintro e V0 ⟨rfl, q0⟩
  have HFE := Lib.hid (few_calls AM cM ms V0 _ (HM.out.all q0) HQ.out.hp)
  cases hfe : fewB ms with
  | false =>
    rw [hfe] at HFE
    clear hfe
    go_wp2_with (fail)
    refine HFE.out.mono ?_
    rintro e V2 ⟨rfl, hb2⟩
    have q2 := below_step q0 hb2
    go_wp2
    go_ret
    exact ⟨rfl, q2⟩
  | true =>
  rw [hfe] at HFE
  clear hfe
  go_wp2_with (fail)
  refine HFE.out.mono ?_
  clear HFE
  rintro e V1 ⟨rfl, hb1⟩
  have q1 := below_step q0 hb1
  go_wp2_with (fail)
  go_loopw [8] (fun i wr => ∃ k : Nat, k ≤ ms.length ∧ k ≤ 6 ∧ i = .int .i64 k ∧ Below V1.heap.size V1 wr) (fun i _ => ms.length - (intOf i).toNat)
  case atStart => exact ⟨0, Nat.zero_le _, Nat.zero_le _, rfl, Below.refl _ _⟩
  case round =>
    obtain ⟨i, hi, hi6, rfl, hbr⟩ := hrel
    by_cases hil : i < ms.length ∧ i < 6
    · obtain ⟨hil, hil6⟩ := hil
      have hil6' : (i : Int) < 6 := by omega
      have ha : ms[i]? = some ms[i] := List.getElem?_eq_getElem hil
      generalize ms[i] = a at ha
      have HA := Lib.hid ha
      clear ha
      go_wp2_with (fail)
      go_loopw [9] (fun i wr => ∃ k : Nat, k ≤ ms.length ∧ k ≤ 6 ∧ i = .int .i64 k ∧ Below V1.heap.size V1 wr) (fun i _ => ms.length - (intOf i).toNat)
      case atStart => exact ⟨0, Nat.zero_le _, Nat.zero_le _, rfl, hbr⟩
      case round =>
        obtain ⟨k, hk, hk6, rfl, hb4⟩ := hrel
        by_cases hkl : k < ms.length ∧ k < 6
        · obtain ⟨hkl, hkl6⟩ := hkl
          have hkl6' : (k : Int) < 6 := by omega
          have hb : ms[k]? = some ms[k] := List.getElem?_eq_getElem hkl
          generalize ms[k] = b at hb
          have HB := Lib.hid hb
          clear hb
          have qr4 := below_step q1 hb4
          obtain ⟨bm, om, rfl⟩ := Slc.addrH HM.out (by omega)
          obtain ⟨Ap, cp, Aq, cq, p1, p2, p3, p4, m0, m1, m2, m3, m4, m5, m6, m7⟩ := Meths.atH (HM.out.all qr4) HA.out
          obtain ⟨Bp, dp, Bq, dq, r1, r2, r3, r4, n0, n1, n2, n3, n4, n5, n6, n7⟩ := Meths.atH (HM.out.all qr4) HB.out
          have MI1 : MetIn wr a Ap Aq cp cq := ⟨p1, ⟨_, p2⟩, p3, ⟨_, p4⟩, HQ.out.hs a (List.mem_of_getElem? HA.out), HQ.out.hp a (List.mem_of_getElem? HA.out)⟩
          have MI2 : MetIn wr b Bp Bq dp dq := ⟨r1, ⟨_, r2⟩, r3, ⟨_, r4⟩, HQ.out.hs b (List.mem_of_getElem? HB.out), HQ.out.hp b (List.mem_of_getElem? HB.out)⟩
          have HPX : Hid (∀ (a b : Meth) (Ap Aq Bp Bq : Option Addr) (cp cq dp dq : Nat) V, MetIn wr a Ap Aq cp cq → MetIn wr b Bp Bq dp dq → Below wr.heap.size wr V → Calls Try.prog 26 #[.slice AH l.length cH, metV a Ap cp Aq cq, metV b Bp dp Bq dq, .slice AT ts.length cT] V fun e V' => e = .returned (.bool (precR l a b ts)) ∧ Below V.heap.size V V') := Lib.hid (fun a b Ap Aq Bp Bq cp cq dp dq V MI1 MI2 hv => by
            obtain ⟨GH, h⟩ := HQ.out.h
            obtain ⟨GT, hT⟩ := HQ.out.hT
            have qv := below_step qr4 hv
            exact precedesF_calls AH cH l AT cT ts a b Ap Aq Bp Bq cp cq dp dq V GH GT (h.keep (Keep.all qv)) HQ.out.hcH HQ.out.ol HQ.out.hl (hT.keep (Keep.all qv)) HQ.out.hts (MI1.keep hv) (MI2.keep hv))
          have HPC := Lib.hid (fun V => HPX.out a b Ap Aq Bp Bq cp cq dp dq V MI1 MI2)
          have w4 : (0 : Int) ≤ (i : Int) := by omega
          have w5 : (0 : Int) ≤ (k : Int) := by omega
          have w8 : (i : Int) < (ms.length : Int) := by omega
          have w9 : (k : Int) < (ms.length : Int) := by omega
          cases hpr : precR l a b ts with
          | false =>
            rw [hpr] at HPC
            clear hpr HPX MI1 MI2 p1 p2 p3 p4 r1 r2 r3 r4
            go_wp2_with (fail)
            go_region_held3 (fun w' => Below wr.heap.size wr w' ∧ w'.cell? ⟨bm, om + i * 8, none⟩ = some (.int .i64 a.id) ∧ w'.cell? ⟨bm, om + i * 8 + 1, none⟩ = some (.string a.lib) ∧ w'.cell? ⟨bm, om + i * 8 + 2, none⟩ = some (.slice Ap a.pars.length cp) ∧ w'.cell? ⟨bm, om + i * 8 + 3, none⟩ = some (.int .i64 a.result.kind) ∧ w'.cell? ⟨bm, om + i * 8 + 4, none⟩ = some (.string a.result.name) ∧ w'.cell? ⟨bm, om + i * 8 + 5, none⟩ = some (.int .i64 a.result.lo) ∧ w'.cell? ⟨bm, om + i * 8 + 6, none⟩ = some (.int .i64 a.result.hi) ∧ w'.cell? ⟨bm, om + i * 8 + 7, none⟩ = some (.slice Aq a.result.args.length cq) ∧ w'.cell? ⟨bm, om + k * 8, none⟩ = some (.int .i64 b.id) ∧ w'.cell? ⟨bm, om + k * 8 + 1, none⟩ = some (.string b.lib) ∧ w'.cell? ⟨bm, om + k * 8 + 2, none⟩ = some (.slice Bp b.pars.length dp) ∧ w'.cell? ⟨bm, om + k * 8 + 3, none⟩ = some (.int .i64 b.result.kind) ∧ w'.cell? ⟨bm, om + k * 8 + 4, none⟩ = some (.string b.result.name) ∧ w'.cell? ⟨bm, om + k * 8 + 5, none⟩ = some (.int .i64 b.result.lo) ∧ w'.cell? ⟨bm, om + k * 8 + 6, none⟩ = some (.int .i64 b.result.hi) ∧ w'.cell? ⟨bm, om + k * 8 + 7, none⟩ = some (.slice Bq b.result.args.length dq))
              (first | exact ⟨(Below.refl _ wr).drew, m0, m1, m2, m3, m4, m5, m6, m7, n0, n1, n2, n3, n4, n5, n6, n7⟩ | (go_split_ands; exact ⟨below_step (by assumption) hbv, cell_all (by assumption) hbv, cell_all (by assumption) hbv, cell_all (by assumption) hbv, cell_all (by assumption) hbv, cell_all (by assumption) hbv, cell_all (by assumption) hbv, cell_all (by assumption) hbv, cell_all (by assumption) hbv, cell_all (by assumption) hbv, cell_all (by assumption) hbv, cell_all (by assumption) hbv, cell_all (by assumption) hbv, cell_all (by assumption) hbv, cell_all (by assumption) hbv, cell_all (by assumption) hbv, cell_all (by assumption) hbv⟩))
              ((first | (go_at_call 26; refine (HPC.out _ (by go_split_ands; assumption)).mono ?_; rintro e V ⟨rfl, hbv⟩)))

            have hb5 := below_step hb4 (show Below wr.heap.size wr V by go_split_ands; assumption)
            go_split_ands
            clear HPC
            go_wp2
            go_quiet (fail)
            go_wp2
            go_roundw
            case rel => exact ⟨k + 1, by omega, by omega, by go_num, hb5.trans (drewN_below _ _ _)⟩
            case measure => simp [intOf]; omega
          | true =>
            rw [hpr] at HPC
            have hik : ((i : Int) == (k : Int)) = false := beq_eq_false_iff_ne.2 (by
              intro e
              obtain rfl : i = k := by omega
              have := HA.out.symm.trans HB.out
              cases this
              rw [precR_irr] at hpr
              cases hpr)
            have HPD := Lib.hid (fun V => HPX.out b a Bp Bq Ap Aq dp dq cp cq V MI2 MI1)
            rw [precR_asymm hpr] at HPD
            clear hpr HPX MI1 MI2 p1 p2 p3 p4 r1 r2 r3 r4
            go_wp2_with (fail)
            go_region_held3 (fun w' => Below wr.heap.size wr w' ∧ w'.cell? ⟨bm, om + i * 8, none⟩ = some (.int .i64 a.id) ∧ w'.cell? ⟨bm, om + i * 8 + 1, none⟩ = some (.string a.lib) ∧ w'.cell? ⟨bm, om + i * 8 + 2, none⟩ = some (.slice Ap a.pars.length cp) ∧ w'.cell? ⟨bm, om + i * 8 + 3, none⟩ = some (.int .i64 a.result.kind) ∧ w'.cell? ⟨bm, om + i * 8 + 4, none⟩ = some (.string a.result.name) ∧ w'.cell? ⟨bm, om + i * 8 + 5, none⟩ = some (.int .i64 a.result.lo) ∧ w'.cell? ⟨bm, om + i * 8 + 6, none⟩ = some (.int .i64 a.result.hi) ∧ w'.cell? ⟨bm, om + i * 8 + 7, none⟩ = some (.slice Aq a.result.args.length cq) ∧ w'.cell? ⟨bm, om + k * 8, none⟩ = some (.int .i64 b.id) ∧ w'.cell? ⟨bm, om + k * 8 + 1, none⟩ = some (.string b.lib) ∧ w'.cell? ⟨bm, om + k * 8 + 2, none⟩ = some (.slice Bp b.pars.length dp) ∧ w'.cell? ⟨bm, om + k * 8 + 3, none⟩ = some (.int .i64 b.result.kind) ∧ w'.cell? ⟨bm, om + k * 8 + 4, none⟩ = some (.string b.result.name) ∧ w'.cell? ⟨bm, om + k * 8 + 5, none⟩ = some (.int .i64 b.result.lo) ∧ w'.cell? ⟨bm, om + k * 8 + 6, none⟩ = some (.int .i64 b.result.hi) ∧ w'.cell? ⟨bm, om + k * 8 + 7, none⟩ = some (.slice Bq b.result.args.length dq))
              (first | exact ⟨(Below.refl _ wr).drew, m0, m1, m2, m3, m4, m5, m6, m7, n0, n1, n2, n3, n4, n5, n6, n7⟩ | (go_split_ands; exact ⟨below_step (by assumption) hbv, cell_all (by assumption) hbv, cell_all (by assumption) hbv, cell_all (by assumption) hbv, cell_all (by assumption) hbv, cell_all (by assumption) hbv, cell_all (by assumption) hbv, cell_all (by assumption) hbv, cell_all (by assumption) hbv, cell_all (by assumption) hbv, cell_all (by assumption) hbv, cell_all (by assumption) hbv, cell_all (by assumption) hbv, cell_all (by assumption) hbv, cell_all (by assumption) hbv, cell_all (by assumption) hbv, cell_all (by assumption) hbv⟩))
              ((first | (go_at_call 26; refine (HPC.out _ (by go_split_ands; assumption)).mono ?_; rintro e V ⟨rfl, hbv⟩)))

            have hb50 : Below wr.heap.size wr V := by go_split_ands; assumption
            have hb5 := below_step hb4 hb50
            have HPE : Hid (∀ U, Below V.heap.size V U → Calls Try.prog 26 #[.slice AH l.length cH, metV b Bp dp Bq dq, metV a Ap cp Aq cq, .slice AT ts.length cT] U fun e V' => e = .returned (.bool false) ∧ Below U.heap.size U V') := Lib.hid (fun U hu => HPD.out U (below_step hb50 hu))
            have x0 := cell_all m0 hb50
            have x1 := cell_all m1 hb50
            have x2 := cell_all m2 hb50
            have x3 := cell_all m3 hb50
            have x4 := cell_all m4 hb50
            have x5 := cell_all m5 hb50
            have x6 := cell_all m6 hb50
            have x7 := cell_all m7 hb50
            have x8 := cell_all n0 hb50
            have x9 := cell_all n1 hb50
            have x10 := cell_all n2 hb50
            have x11 := cell_all n3 hb50
            have x12 := cell_all n4 hb50
            have x13 := cell_all n5 hb50
            have x14 := cell_all n6 hb50
            have x15 := cell_all n7 hb50
            go_wp2_with (fail)
            go_region_held3 (fun w' => Below V.heap.size V w' ∧ w'.cell? ⟨bm, om + i * 8, none⟩ = some (.int .i64 a.id) ∧ w'.cell? ⟨bm, om + i * 8 + 1, none⟩ = some (.string a.lib) ∧ w'.cell? ⟨bm, om + i * 8 + 2, none⟩ = some (.slice Ap a.pars.length cp) ∧ w'.cell? ⟨bm, om + i * 8 + 3, none⟩ = some (.int .i64 a.result.kind) ∧ w'.cell? ⟨bm, om + i * 8 + 4, none⟩ = some (.string a.result.name) ∧ w'.cell? ⟨bm, om + i * 8 + 5, none⟩ = some (.int .i64 a.result.lo) ∧ w'.cell? ⟨bm, om + i * 8 + 6, none⟩ = some (.int .i64 a.result.hi) ∧ w'.cell? ⟨bm, om + i * 8 + 7, none⟩ = some (.slice Aq a.result.args.length cq) ∧ w'.cell? ⟨bm, om + k * 8, none⟩ = some (.int .i64 b.id) ∧ w'.cell? ⟨bm, om + k * 8 + 1, none⟩ = some (.string b.lib) ∧ w'.cell? ⟨bm, om + k * 8 + 2, none⟩ = some (.slice Bp b.pars.length dp) ∧ w'.cell? ⟨bm, om + k * 8 + 3, none⟩ = some (.int .i64 b.result.kind) ∧ w'.cell? ⟨bm, om + k * 8 + 4, none⟩ = some (.string b.result.name) ∧ w'.cell? ⟨bm, om + k * 8 + 5, none⟩ = some (.int .i64 b.result.lo) ∧ w'.cell? ⟨bm, om + k * 8 + 6, none⟩ = some (.int .i64 b.result.hi) ∧ w'.cell? ⟨bm, om + k * 8 + 7, none⟩ = some (.slice Bq b.result.args.length dq))
              (first | exact ⟨(Below.refl _ V).drew, x0, x1, x2, x3, x4, x5, x6, x7, x8, x9, x10, x11, x12, x13, x14, x15⟩ | (go_split_ands; exact ⟨below_step (by assumption) hbv2, cell_all (by assumption) hbv2, cell_all (by assumption) hbv2, cell_all (by assumption) hbv2, cell_all (by assumption) hbv2, cell_all (by assumption) hbv2, cell_all (by assumption) hbv2, cell_all (by assumption) hbv2, cell_all (by assumption) hbv2, cell_all (by assumption) hbv2, cell_all (by assumption) hbv2, cell_all (by assumption) hbv2, cell_all (by assumption) hbv2, cell_all (by assumption) hbv2, cell_all (by assumption) hbv2, cell_all (by assumption) hbv2, cell_all (by assumption) hbv2⟩))
              ((first | (go_at_call 26; refine (HPE.out _ (by go_split_ands; assumption)).mono ?_; rintro e V2 ⟨rfl, hbv2⟩)))

            go_split_ands
            go_wp2
            go_roundw
            case rel => exact ⟨k + 1, by omega, by omega, by go_num, below_step hb5 (by assumption)⟩
            case measure => simp [intOf]; omega
        · have hout : ¬ (k : Int) < ms.length ∨ (k : Int) < ms.length ∧ ¬ (k : Int) < 6 := by omega
          clear hkl
          rcases hout with hout | ⟨hout1, hout2⟩
          all_goals
            go_wp2
            exact ⟨⟨i + 1, by omega, by omega, by go_num, hb4⟩, by simp [intOf]; omega⟩
    · have hout : ¬ (i : Int) < ms.length ∨ (i : Int) < ms.length ∧ ¬ (i : Int) < 6 := by omega
      have qr := below_step q1 hbr
      clear hil
      by_cases hts : ts = []
      · rcases hout with hout | ⟨hout1, hout2⟩
        all_goals
          go_wp2
          go_ret
          exact ⟨rfl, qr⟩
      have hts1 : ((ts.length : Int) == 0) = false := beq_eq_false_iff_ne.2 (by cases ts with | nil => exact (hts rfl).elim | cons => simp; omega)
      by_cases hm3 : (ms.length : Int) < 3
      · rcases hout with hout | ⟨hout1, hout2⟩
        all_goals
          go_wp2
          go_ret
          exact ⟨rfl, qr⟩
      have hms3 : 2 < ms.length := by omega
      rcases hout with hout | ⟨hout1, hout2⟩
      all_goals
        go_wp2_with (fail)
        clear hi hi6
        go_loopw [11] (fun i wr => ∃ k : Nat, k ≤ 3 ∧ i = .int .i64 k ∧ (∀ n, n < k → ∃ m p, ms[n]? = some m ∧ m.pars.length = ts.length ∧ m.pars[0]? = some p ∧ p.type.kind = 1) ∧ Below V1.heap.size V1 wr) (fun i _ => 3 - (intOf i).toNat)
        case atStart => exact ⟨0, by omega, rfl, fun n h => absurd h (by omega), hbr⟩
        case round =>
          obtain ⟨j, hj, rfl, hinv, hb6⟩ := hrel
          have HINV := Lib.hid hinv
          clear hinv
          have qj := below_step q1 hb6
          obtain ⟨bm, om, rfl⟩ := Slc.addrH HM.out (by omega)
          by_cases hj3 : (j : Int) < 3
          · have hm : ms[j]? = some ms[j] := List.getElem?_eq_getElem (by omega)
            generalize ms[j] = m at hm
            have HMJ := Lib.hid hm
            obtain ⟨Ap, cp, Aq, cq, p1, p2, p3, p4, m0, m1, m2, m3, m4, m5, m6, m7⟩ := Meths.atH (HM.out.all qj) hm
            have hjl : (j : Int) < (ms.length : Int) := by omega
            clear hm m0 m1 m3 m4 m5 m6 m7 p3 p4
            by_cases hpl : m.pars.length = ts.length
            · have hpl1 : ((m.pars.length : Int) != (ts.length : Int)) = false := by rw [hpl]; simp
              have hpos : 0 < m.pars.length := by rw [hpl]; cases ts with | nil => exact (hts rfl).elim | cons => simp
              have hpos1 : (0 : Int) < (m.pars.length : Int) := by omega
              have HPL := Lib.hid hpl
              have hp : m.pars[0]? = some m.pars[0] := List.getElem?_eq_getElem hpos
              generalize m.pars[0] = p at hp
              obtain ⟨bp, op, rfl⟩ := Slc.addrH p2 hpos
              obtain ⟨A3, c3, r1, r2, g0, g1, g2, g3, g4, g5⟩ := Pars.atH p2 hp
              have g1' : wr.cell? ⟨bp, op + 1, none⟩ = some (.int .i64 p.type.kind) := by simpa using g1
              have HP := Lib.hid hp
              clear hpl hp g0 g1 g2 g3 g4 g5 r1 r2 p2
              by_cases hk : p.type.kind = 1
              · have hk1 : (p.type.kind != 1) = false := by rw [hk]; rfl
                have HK := Lib.hid hk
                clear hk
                go_wp2
                refine ⟨⟨j + 1, by omega, by go_num, fun n hn => ?_, hb6⟩, by simp [intOf]; omega⟩
                by_cases hnj : n < j
                · exact HINV.out n hnj
                · obtain rfl : n = j := by omega
                  exact ⟨m, p, HMJ.out, HPL.out, HP.out, HK.out⟩
              · have hk1 : (p.type.kind != 1) = true := by rw [bne_iff_ne]; exact hk
                clear hk
                go_wp2
                go_ret
                exact ⟨rfl, qj⟩
            · have hpl1 : ((m.pars.length : Int) != (ts.length : Int)) = true := by rw [bne_iff_ne]; omega
              clear hpl
              go_wp2
              go_ret
              exact ⟨rfl, qj⟩
          · obtain rfl : j = 3 := by omega
            obtain ⟨ma, pa, ea, la, ga, ka⟩ := HINV.out 0 (by omega)
            obtain ⟨mb, pb, eb, lb, gb, kb⟩ := HINV.out 1 (by omega)
            obtain ⟨mc, pc, ec, lc, gc, kc⟩ := HINV.out 2 (by omega)
            have htl : 0 < ts.length := by cases ts with | nil => exact (hts rfl).elim | cons => simp
            have htl1 : (0 : Int) < (ts.length : Int) := by omega
            have get : ∀ (n : Nat) (m : Meth) (p : Par), ms[n]? = some m → m.pars.length = ts.length → m.pars[0]? = some p → ∃ bp op cp A c, wr.cell? ⟨bm, om + n * 8 + 2, none⟩ = some (.slice (some ⟨bp, op, none⟩) m.pars.length cp) ∧ TyIn wr p.type A c ∧
                wr.cell? ⟨bp, op + 1, none⟩ = some (.int .i64 p.type.kind) ∧ wr.cell? ⟨bp, op + 2, none⟩ = some (.string p.type.name) ∧ wr.cell? ⟨bp, op + 3, none⟩ = some (.int .i64 p.type.lo) ∧ wr.cell? ⟨bp, op + 4, none⟩ = some (.int .i64 p.type.hi) ∧ wr.cell? ⟨bp, op + 5, none⟩ = some (.slice A p.type.args.length c) := fun n m p e1 e2 e3 => by
              obtain ⟨Ap, cp, Aq, cq, p1, p2, p3, p4, m0, m1, m2, m3, m4, m5, m6, m7⟩ := Meths.atH (HM.out.all qj) e1
              obtain ⟨bp, op, rfl⟩ := Slc.addrH p2 (by omega)
              obtain ⟨A3, c3, r1, r2, g0, g1, g2, g3, g4, g5⟩ := Pars.atH p2 e3
              exact ⟨bp, op, cp, A3, c3, m2, ⟨r1, ⟨_, r2⟩, HQ.out.hs m (List.mem_of_getElem? e1) p (List.mem_of_getElem? e3)⟩, by simpa using g1, by simpa using g2, by simpa using g3, by simpa using g4, by simpa using g5⟩
            obtain ⟨b0, o0, c0, As, cs, x0, TIs, s0, s1, s2, s3, s4⟩ := get 0 ma pa ea la ga
            obtain ⟨b1, o1, c1, At, ct, x1, TIt, t0, t1, t2, t3, t4⟩ := get 1 mb pb eb lb gb
            obtain ⟨b2, o2, c2, Au, cu, x2, TIu, u0, u1, u2, u3, u4⟩ := get 2 mc pc ec lc gc
            have x0' : wr.cell? ⟨bm, om + 2, none⟩ = some (.slice (some ⟨b0, o0, none⟩) ts.length c0) := by simpa [la] using x0
            have x1' : wr.cell? ⟨bm, om + 8 + 2, none⟩ = some (.slice (some ⟨b1, o1, none⟩) ts.length c1) := by rw [lb] at x1; simpa using x1
            have x2' : wr.cell? ⟨bm, om + 16 + 2, none⟩ = some (.slice (some ⟨b2, o2, none⟩) ts.length c2) := by rw [lc] at x2; simpa using x2
            obtain ⟨tg, htg⟩ : ∃ tg, ts[0]? = some tg := ⟨_, List.getElem?_eq_getElem htl⟩
            obtain ⟨GT, hT⟩ := HQ.out.hT
            obtain ⟨b3, o3, rfl⟩ := Slc.addrH hT htl
            obtain ⟨v0, v1, v2⟩ := Tags.atH (hT.keep (Keep.all qj)) htg
            have v0' : wr.cell? ⟨b3, o3, none⟩ = some (.int .i64 tg.kind) := by simpa using v0
            have v1' : wr.cell? ⟨b3, o3 + 1, none⟩ = some (.int .i64 tg.num) := by simpa using v1
            have v2' : wr.cell? ⟨b3, o3 + 2, none⟩ = some (.string tg.name) := by simpa using v2
            have x1a : wr.cell? ⟨bm, om + 10, none⟩ = some (.slice (some ⟨b1, o1, none⟩) ts.length c1) := x1'
            have x2a : wr.cell? ⟨bm, om + 18, none⟩ = some (.slice (some ⟨b2, o2, none⟩) ts.length c2) := x2'
            have KA := Lib.hid ka
            have KB := Lib.hid kb
            have KC := Lib.hid kc
            clear ka kb kc
            obtain ⟨oa, hoa⟩ : ∃ oa, oa = Obj.cells #[.int .i64 pa.type.kind, .string pa.type.name, .int .i64 pa.type.lo, .int .i64 pa.type.hi, .slice As pa.type.args.length cs] 35 := ⟨_, rfl⟩
            obtain ⟨ob, hob⟩ : ∃ ob, ob = Obj.cells #[.int .i64 pb.type.kind, .string pb.type.name, .int .i64 pb.type.lo, .int .i64 pb.type.hi, .slice At pb.type.args.length ct] 35 := ⟨_, rfl⟩
            obtain ⟨oc, hoc⟩ : ∃ oc, oc = Obj.cells #[.int .i64 pc.type.kind, .string pc.type.name, .int .i64 pc.type.lo, .int .i64 pc.type.hi, .slice Au pc.type.args.length cu] 35 := ⟨_, rfl⟩
            have y1 := alloc_cell' (o := oa) x1a
            have yt0 := alloc_cell' (o := oa) t0
            have yt1 := alloc_cell' (o := oa) t1
            have yt2 := alloc_cell' (o := oa) t2
            have yt3 := alloc_cell' (o := oa) t3
            have yt4 := alloc_cell' (o := oa) t4
            have y2 := alloc_cell' (o := ob) (alloc_cell' (o := oa) x2a)
            have yu0 := alloc_cell' (o := ob) (alloc_cell' (o := oa) u0)
            have yu1 := alloc_cell' (o := ob) (alloc_cell' (o := oa) u1)
            have yu2 := alloc_cell' (o := ob) (alloc_cell' (o := oa) u2)
            have yu3 := alloc_cell' (o := ob) (alloc_cell' (o := oa) u3)
            have yu4 := alloc_cell' (o := ob) (alloc_cell' (o := oa) u4)
            have za : (wr.alloc oa).heap.size = wr.heap.size + 1 := by simp
            have zb : ((wr.alloc oa).alloc ob).heap.size = wr.heap.size + 2 := by simp
            have bV : Below wr.heap.size wr (((wr.alloc oa).alloc ob).alloc oc) := (((Below.refl _ wr).alloc (Nat.le_refl _) _).alloc (by omega) _).alloc (by omega) _
            have xs : ∀ j u, [Value.int .i64 pa.type.kind, .string pa.type.name, .int .i64 pa.type.lo, .int .i64 pa.type.hi, .slice As pa.type.args.length cs][j]? = some u → (((wr.alloc oa).alloc ob).alloc oc).cell? ⟨wr.heap.size, j, none⟩ = some u := fun j u hj => alloc_cell' (alloc_cell' (by rw [hoa]; exact cell_new wr _ _ _ rfl j u hj))
            have xt : ∀ j u, [Value.int .i64 pb.type.kind, .string pb.type.name, .int .i64 pb.type.lo, .int .i64 pb.type.hi, .slice At pb.type.args.length ct][j]? = some u → (((wr.alloc oa).alloc ob).alloc oc).cell? ⟨wr.heap.size + 1, j, none⟩ = some u := fun j u hj => alloc_cell' (by rw [hob]; exact cell_new (wr.alloc oa) _ _ _ za.symm j u hj)
            have xu : ∀ j u, [Value.int .i64 pc.type.kind, .string pc.type.name, .int .i64 pc.type.lo, .int .i64 pc.type.hi, .slice Au pc.type.args.length cu][j]? = some u → (((wr.alloc oa).alloc ob).alloc oc).cell? ⟨wr.heap.size + 2, j, none⟩ = some u := fun j u hj => by rw [hoc]; exact cell_new ((wr.alloc oa).alloc ob) _ _ _ zb.symm j u hj
            have V0' := cell_all v0' bV
            have V1' := cell_all v1' bV
            have V2' := cell_all v2' bV
            clear za zb v0' v1' v2'
            have HW3 := Lib.hid (And.intro bV (And.intro xs (And.intro xt (And.intro xu (And.intro V0' (And.intro V1' V2'))))))
            clear bV xs xt xu V0' V1' V2'
            subst hoa hob hoc
            have ms0 : (0 : Int) < (ms.length : Int) := by omega
            have ms1 : (1 : Int) < (ms.length : Int) := by omega
            have ms2 : (2 : Int) < (ms.length : Int) := by omega
            clear get x0 x1 x2 v0 v1 v2 hts hts1
            obtain ⟨V, hV⟩ : ∃ V, V = ((wr.alloc (Obj.cells #[.int .i64 pa.type.kind, .string pa.type.name, .int .i64 pa.type.lo, .int .i64 pa.type.hi, .slice As pa.type.args.length cs] 35)).alloc (Obj.cells #[.int .i64 pb.type.kind, .string pb.type.name, .int .i64 pb.type.lo, .int .i64 pb.type.hi, .slice At pb.type.args.length ct] 35)).alloc (Obj.cells #[.int .i64 pc.type.kind, .string pc.type.name, .int .i64 pc.type.lo, .int .i64 pc.type.hi, .slice Au pc.type.args.length cu] 35) := ⟨_, rfl⟩
            rw [← hV] at HW3
            obtain ⟨bV, xs, xt, xu, v0, v1, v2⟩ := HW3.out
            have HTP : Hid (∀ (s t : Ty) (As At : Option Addr) (cs ct : Nat) U, TyIn wr s As cs → TyIn wr t At ct → Below V.heap.size V U → Calls Try.prog 27 #[.slice AH l.length cH, tyV s As cs, tyV t At ct, tagV tg] U fun e U' => e = .returned (.bool (tpR l tg s t)) ∧ Below U.heap.size U U') := Lib.hid (fun s t As At cs ct U z1 z2 hu => by
              have hu2 := below_step bV hu
              exact typePrecedes_calls AH cH l s t As At cs ct tg U (HQ.out.hi.keep (below_step qj hu2)) (z1.keep hu2) (z2.keep hu2))
            have HTG : Hid (∀ (s t : Ty) (As At : Option Addr) (cs ct : Nat) (r : Bool) U, TpAt l tg s t r → TyIn wr s As cs → TyIn wr t At ct → Below V.heap.size V U → Calls Try.prog 27 #[.slice AH l.length cH, tyV s As cs, tyV t At ct, tagV tg] U fun e U' => e = .returned (.bool r) ∧ Below U.heap.size U U') := Lib.hid (fun s t As At cs ct r U hr z1 z2 hu => by
              have := HTP.out s t As At cs ct U z1 z2 hu
              rwa [show tpR l tg s t = r from hr] at this)
            have HST := Lib.hid (fun U => HTP.out pa.type pb.type As At cs ct U TIs TIt)
            have HTU := Lib.hid (fun U => HTP.out pb.type pc.type At Au ct cu U TIt TIu)
            have HSU := Lib.hid (fun U => HTP.out pa.type pc.type As Au cs cu U TIs TIu)
            have HTR := Lib.hid (fun h1 h2 => tpR_trans (l := l) (v := tg) KA.out KB.out KC.out h1 h2)
            have QV := below_step qj bV
            clear HTP HW3 KA KB KC HINV
            go_wp2_with (fail)
            rw [← hV]
            clear hV y1 yt0 yt1 yt2 yt3 yt4 y2 yu0 yu1 yu2 yu3 yu4 s0 s1 s2 s3 s4 t0 t1 t2 t3 t4 u0 u1 u2 u3 u4 x0' x1' x2' x1a x2a
            have s0 := xs 0 _ rfl
            have s1 := xs 1 _ rfl
            have s2 := xs 2 _ rfl
            have s3 := xs 3 _ rfl
            have s4 := xs 4 _ rfl
            have t0 := xt 0 _ rfl
            have t1 := xt 1 _ rfl
            have t2 := xt 2 _ rfl
            have t3 := xt 3 _ rfl
            have t4 := xt 4 _ rfl
            have u0 := xu 0 _ rfl
            have u1 := xu 1 _ rfl
            have u2 := xu 2 _ rfl
            have u3 := xu 3 _ rfl
            have u4 := xu 4 _ rfl
            clear xs xt xu
            cases hp1 : tpR l tg pa.type pb.type with
            | false =>
              rw [hp1] at HST
              clear hp1 HTR
              refine wp_region_noPanic ?_
              refine wp_region_held_drew (S := fun w' => Below V.heap.size V w' ∧ w'.cell? ⟨wr.heap.size, 0, none⟩ = some (.int .i64 pa.type.kind) ∧ w'.cell? ⟨wr.heap.size, 1, none⟩ = some (.string pa.type.name) ∧ w'.cell? ⟨wr.heap.size, 2, none⟩ = some (.int .i64 pa.type.lo) ∧ w'.cell? ⟨wr.heap.size, 3, none⟩ = some (.int .i64 pa.type.hi) ∧ w'.cell? ⟨wr.heap.size, 4, none⟩ = some (.slice As pa.type.args.length cs) ∧ w'.cell? ⟨wr.heap.size + 1, 0, none⟩ = some (.int .i64 pb.type.kind) ∧ w'.cell? ⟨wr.heap.size + 1, 1, none⟩ = some (.string pb.type.name) ∧ w'.cell? ⟨wr.heap.size + 1, 2, none⟩ = some (.int .i64 pb.type.lo) ∧ w'.cell? ⟨wr.heap.size + 1, 3, none⟩ = some (.int .i64 pb.type.hi) ∧ w'.cell? ⟨wr.heap.size + 1, 4, none⟩ = some (.slice At pb.type.args.length ct) ∧ w'.cell? ⟨wr.heap.size + 2, 0, none⟩ = some (.int .i64 pc.type.kind) ∧ w'.cell? ⟨wr.heap.size + 2, 1, none⟩ = some (.string pc.type.name) ∧ w'.cell? ⟨wr.heap.size + 2, 2, none⟩ = some (.int .i64 pc.type.lo) ∧ w'.cell? ⟨wr.heap.size + 2, 3, none⟩ = some (.int .i64 pc.type.hi) ∧ w'.cell? ⟨wr.heap.size + 2, 4, none⟩ = some (.slice Au pc.type.args.length cu) ∧ w'.cell? ⟨b3, o3, none⟩ = some (.int .i64 tg.kind) ∧ w'.cell? ⟨b3, o3 + 1, none⟩ = some (.int .i64 tg.num) ∧ w'.cell? ⟨b3, o3 + 2, none⟩ = some (.string tg.name)) (by kernel_rfl) ⟨(Below.refl _ V).drew, s0, s1, s2, s3, s4, t0, t1, t2, t3, t4, u0, u1, u2, u3, u4, v0, v1, v2⟩ (fun hHeld => ?_)
              refine wpAnyH_take (i := 0) (oi := { dst := some 126, op := Go.Op.move (Go.Operand.tmp 7), type := 4, pos := "law.go:154", after := #[], guard := none }) (v := ?_) rfl (by kernel_rfl) (by kernel_rfl) (by kernel_rfl) (fun _ _ _ h => h) (Or.inl ⟨by rfl, ?_⟩) (by assumption) ?_
              rotate_left 1
              · (intro w hSw; (try dsimp only at hSw); go_simp) <;> with_reducible rfl
              try simp only [Act.put, List.setIfInBounds_toArray, List.set_cons_zero, List.set_cons_succ]
              refine wpAnyH_take (i := 1) (oi := { dst := some 127, op := Go.Op.move (Go.Operand.tmp 126), type := 4, pos := "law.go:154", after := #[{ on := 0, ground := Go.Ground.data }], guard := none }) (v := ?_) rfl (by kernel_rfl) (by kernel_rfl) (by kernel_rfl) (fun _ _ _ h => h) (Or.inl ⟨by rfl, ?_⟩) (by assumption) ?_
              rotate_left 1
              · (intro w hSw; (try dsimp only at hSw); go_simp) <;> with_reducible rfl
              try simp only [Act.put, List.setIfInBounds_toArray, List.set_cons_zero, List.set_cons_succ]
              refine wpAnyH_take (i := 2) (oi := { dst := some 128, op := Go.Op.move (Go.Operand.tmp 0), type := 22, pos := "law.go:154", after := #[{ on := 1, ground := Go.Ground.guard }], guard := some (1, true) }) (v := ?_) rfl (by kernel_rfl) (by kernel_rfl) (by kernel_rfl) (fun _ _ _ h => h) (Or.inl ⟨by rfl, ?_⟩) (by assumption) ?_
              rotate_left 1
              · (intro w hSw; (try dsimp only at hSw); go_simp) <;> with_reducible rfl
              try simp only [Act.put, List.setIfInBounds_toArray, List.set_cons_zero, List.set_cons_succ]
              refine wpAnyH_take (i := 3) (oi := { dst := some 129, op := Go.Op.load 35 (Go.Operand.tmp 12), type := 35, pos := "law.go:154", after := #[{ on := 1, ground := Go.Ground.guard }], guard := some (1, true) }) (v := ?_) rfl (by kernel_rfl) (by kernel_rfl) (by kernel_rfl) (fun _ _ _ h => h) (Or.inl ⟨by rfl, ?_⟩) (by assumption) ?_
              rotate_left 1
              · (intro w hSw; (try dsimp only at hSw); go_simp) <;> with_reducible rfl
              try simp only [Act.put, List.setIfInBounds_toArray, List.set_cons_zero, List.set_cons_succ]
              refine wpAnyH_take (i := 4) (oi := { dst := some 130, op := Go.Op.load 35 (Go.Operand.tmp 13), type := 35, pos := "law.go:154", after := #[{ on := 1, ground := Go.Ground.guard }], guard := some (1, true) }) (v := ?_) rfl (by kernel_rfl) (by kernel_rfl) (by kernel_rfl) (fun _ _ _ h => h) (Or.inl ⟨by rfl, ?_⟩) (by assumption) ?_
              rotate_left 1
              · (intro w hSw; (try dsimp only at hSw); go_simp) <;> with_reducible rfl
              try simp only [Act.put, List.setIfInBounds_toArray, List.set_cons_zero, List.set_cons_succ]
              refine wpAnyH_take (i := 5) (oi := { dst := some 131, op := Go.Op.move (Go.Operand.tmp 2), type := 44, pos := "law.go:154", after := #[{ on := 1, ground := Go.Ground.guard }], guard := some (1, true) }) (v := ?_) rfl (by kernel_rfl) (by kernel_rfl) (by kernel_rfl) (fun _ _ _ h => h) (Or.inl ⟨by rfl, ?_⟩) (by assumption) ?_
              rotate_left 1
              · (intro w hSw; (try dsimp only at hSw); go_simp) <;> with_reducible rfl
              try simp only [Act.put, List.setIfInBounds_toArray, List.set_cons_zero, List.set_cons_succ]
              refine wpAnyH_take (i := 6) (oi := { dst := some 132, op := Go.Op.indexAddr 44 (Go.Operand.tmp 131) (Go.Operand.const (Go.Value.int Go.IntKind.i64 0)), type := 0, pos := "law.go:154", after := #[{ on := 5, ground := Go.Ground.data }, { on := 1, ground := Go.Ground.guard }], guard := some (1, true) }) (v := ?_) rfl (by kernel_rfl) (by kernel_rfl) (by kernel_rfl) (fun _ _ _ h => h) (Or.inl ⟨by rfl, ?_⟩) (by assumption) ?_
              rotate_left 1
              · (intro w hSw; (try dsimp only at hSw); go_simp) <;> with_reducible rfl
              try simp only [Act.put, List.setIfInBounds_toArray, List.set_cons_zero, List.set_cons_succ]
              refine wpAnyH_take (i := 7) (oi := { dst := some 133, op := Go.Op.load 25 (Go.Operand.tmp 132), type := 25, pos := "law.go:154", after := #[{ on := 6, ground := Go.Ground.data }, { on := 1, ground := Go.Ground.guard }], guard := some (1, true) }) (v := ?_) rfl (by kernel_rfl) (by kernel_rfl) (by kernel_rfl) (fun _ _ _ h => h) (Or.inl ⟨by rfl, ?_⟩) (by assumption) ?_
              rotate_left 1
              · (intro w hSw; (try dsimp only at hSw); go_simp) <;> with_reducible rfl
              try simp only [Act.put, List.setIfInBounds_toArray, List.set_cons_zero, List.set_cons_succ]
              refine wpAnyH_ready (rs := [8]) (by kernel_rfl) (by simp) ?_
              refine AllReadyH.cons (o := { dst := some 134, op := Go.Op.call { callee := Go.Callee.value (Go.Operand.func 27), args := #[Go.Operand.tmp 128, Go.Operand.tmp 129, Go.Operand.tmp 130, Go.Operand.tmp 133], argTypes := #[22, 35, 35, 25] }, type := 4, pos := "law.go:154", after := #[{ on := 2, ground := Go.Ground.data }, { on := 3, ground := Go.Ground.data }, { on := 4, ground := Go.Ground.data }, { on := 7, ground := Go.Ground.data }, { on := 1, ground := Go.Ground.chain }, { on := 1, ground := Go.Ground.guard }], guard := some (1, true) }) rfl (fun K hK => ?_) AllReadyH.nil
              go_simp
              go_at_call 27
              refine (HST.out _ (Below.refl _ V).drew).mono ?_
              rintro e U ⟨rfl, hbu⟩
              refine hK.out _ _ ⟨below_step (Below.refl _ V).drew hbu, cell_all (show V.drew.cell? _ = _ from s0) hbu, cell_all (show V.drew.cell? _ = _ from s1) hbu, cell_all (show V.drew.cell? _ = _ from s2) hbu, cell_all (show V.drew.cell? _ = _ from s3) hbu, cell_all (show V.drew.cell? _ = _ from s4) hbu, cell_all (show V.drew.cell? _ = _ from t0) hbu, cell_all (show V.drew.cell? _ = _ from t1) hbu, cell_all (show V.drew.cell? _ = _ from t2) hbu, cell_all (show V.drew.cell? _ = _ from t3) hbu, cell_all (show V.drew.cell? _ = _ from t4) hbu, cell_all (show V.drew.cell? _ = _ from u0) hbu, cell_all (show V.drew.cell? _ = _ from u1) hbu, cell_all (show V.drew.cell? _ = _ from u2) hbu, cell_all (show V.drew.cell? _ = _ from u3) hbu, cell_all (show V.drew.cell? _ = _ from u4) hbu, cell_all (show V.drew.cell? _ = _ from v0) hbu, cell_all (show V.drew.cell? _ = _ from v1) hbu, cell_all (show V.drew.cell? _ = _ from v2) hbu⟩ (fun hHeld => ?_)
              clear hK K
              try simp only [Act.put, List.setIfInBounds_toArray, List.set_cons_zero, List.set_cons_succ]
              refine wpAnyH_take (i := 9) (oi := { dst := some 135, op := Go.Op.unOp Go.UnOp.not 4 (Go.Operand.tmp 134), type := 4, pos := "law.go:154", after := #[{ on := 8, ground := Go.Ground.data }, { on := 1, ground := Go.Ground.guard }], guard := some (1, true) }) (v := ?_) rfl (by kernel_rfl) (by kernel_rfl) (by kernel_rfl) (fun _ _ _ h => h) (Or.inl ⟨by rfl, ?_⟩) (by assumption) ?_
              rotate_left 1
              · (intro w hSw; (try dsimp only at hSw); go_simp) <;> with_reducible rfl
              try simp only [Act.put, List.setIfInBounds_toArray, List.set_cons_zero, List.set_cons_succ]
              refine wpAnyH_take (i := 10) (oi := { dst := some 136, op := Go.Op.move (Go.Operand.tmp 135), type := 4, pos := "law.go:154", after := #[{ on := 9, ground := Go.Ground.data }, { on := 8, ground := Go.Ground.chain }, { on := 1, ground := Go.Ground.guard }], guard := some (1, true) }) (v := ?_) rfl (by kernel_rfl) (by kernel_rfl) (by kernel_rfl) (fun _ _ _ h => h) (Or.inl ⟨by rfl, ?_⟩) (by assumption) ?_
              rotate_left 1
              · (intro w hSw; (try dsimp only at hSw); go_simp) <;> with_reducible rfl
              try simp only [Act.put, List.setIfInBounds_toArray, List.set_cons_zero, List.set_cons_succ]
              refine wpAnyH_take (i := 11) (oi := { dst := some 137, op := Go.Op.move (Go.Operand.tmp 0), type := 22, pos := "law.go:154", after := #[{ on := 10, ground := Go.Ground.guard }], guard := some (10, false) }) rfl (by kernel_rfl) (by kernel_rfl) (by kernel_rfl) (fun _ _ _ h => h) (Or.inr ⟨by rfl, rfl⟩) (by assumption) ?_
              try simp only [Act.put, List.setIfInBounds_toArray, List.set_cons_zero, List.set_cons_succ]
              refine wpAnyH_take (i := 12) (oi := { dst := some 138, op := Go.Op.load 35 (Go.Operand.tmp 13), type := 35, pos := "law.go:154", after := #[{ on := 10, ground := Go.Ground.guard }], guard := some (10, false) }) rfl (by kernel_rfl) (by kernel_rfl) (by kernel_rfl) (fun _ _ _ h => h) (Or.inr ⟨by rfl, rfl⟩) (by assumption) ?_
              try simp only [Act.put, List.setIfInBounds_toArray, List.set_cons_zero, List.set_cons_succ]
              refine wpAnyH_take (i := 13) (oi := { dst := some 139, op := Go.Op.load 35 (Go.Operand.tmp 14), type := 35, pos := "law.go:154", after := #[{ on := 10, ground := Go.Ground.guard }], guard := some (10, false) }) rfl (by kernel_rfl) (by kernel_rfl) (by kernel_rfl) (fun _ _ _ h => h) (Or.inr ⟨by rfl, rfl⟩) (by assumption) ?_
              try simp only [Act.put, List.setIfInBounds_toArray, List.set_cons_zero, List.set_cons_succ]
              refine wpAnyH_take (i := 14) (oi := { dst := some 140, op := Go.Op.move (Go.Operand.tmp 2), type := 44, pos := "law.go:154", after := #[{ on := 10, ground := Go.Ground.guard }], guard := some (10, false) }) rfl (by kernel_rfl) (by kernel_rfl) (by kernel_rfl) (fun _ _ _ h => h) (Or.inr ⟨by rfl, rfl⟩) (by assumption) ?_
              try simp only [Act.put, List.setIfInBounds_toArray, List.set_cons_zero, List.set_cons_succ]
              refine wpAnyH_take (i := 15) (oi := { dst := some 141, op := Go.Op.indexAddr 44 (Go.Operand.tmp 140) (Go.Operand.const (Go.Value.int Go.IntKind.i64 0)), type := 0, pos := "law.go:154", after := #[{ on := 14, ground := Go.Ground.data }, { on := 10, ground := Go.Ground.guard }], guard := some (10, false) }) rfl (by kernel_rfl) (by kernel_rfl) (by kernel_rfl) (fun _ _ _ h => h) (Or.inr ⟨by rfl, rfl⟩) (by assumption) ?_
              try simp only [Act.put, List.setIfInBounds_toArray, List.set_cons_zero, List.set_cons_succ]
              refine wpAnyH_take (i := 16) (oi := { dst := some 142, op := Go.Op.load 25 (Go.Operand.tmp 141), type := 25, pos := "law.go:154", after := #[{ on := 15, ground := Go.Ground.data }, { on := 10, ground := Go.Ground.guard }], guard := some (10, false) }) rfl (by kernel_rfl) (by kernel_rfl) (by kernel_rfl) (fun _ _ _ h => h) (Or.inr ⟨by rfl, rfl⟩) (by assumption) ?_
              try simp only [Act.put, List.setIfInBounds_toArray, List.set_cons_zero, List.set_cons_succ]
              refine wpAnyH_take (i := 17) (oi := { dst := some 143, op := Go.Op.call { callee := Go.Callee.value (Go.Operand.func 27), args := #[Go.Operand.tmp 137, Go.Operand.tmp 138, Go.Operand.tmp 139, Go.Operand.tmp 142], argTypes := #[22, 35, 35, 25] }, type := 4, pos := "law.go:154", after := #[{ on := 11, ground := Go.Ground.data }, { on := 12, ground := Go.Ground.data }, { on := 13, ground := Go.Ground.data }, { on := 16, ground := Go.Ground.data }, { on := 10, ground := Go.Ground.chain }, { on := 10, ground := Go.Ground.guard }], guard := some (10, false) }) rfl (by kernel_rfl) (by kernel_rfl) (by kernel_rfl) (fun _ _ _ h => h) (Or.inr ⟨by rfl, rfl⟩) (by assumption) ?_
              try simp only [Act.put, List.setIfInBounds_toArray, List.set_cons_zero, List.set_cons_succ]
              refine wpAnyH_take (i := 18) (oi := { dst := some 144, op := Go.Op.unOp Go.UnOp.not 4 (Go.Operand.tmp 143), type := 4, pos := "law.go:154", after := #[{ on := 17, ground := Go.Ground.data }, { on := 10, ground := Go.Ground.guard }], guard := some (10, false) }) rfl (by kernel_rfl) (by kernel_rfl) (by kernel_rfl) (fun _ _ _ h => h) (Or.inr ⟨by rfl, rfl⟩) (by assumption) ?_
              try simp only [Act.put, List.setIfInBounds_toArray, List.set_cons_zero, List.set_cons_succ]
              refine wpAnyH_take (i := 19) (oi := { dst := some 145, op := Go.Op.pick (Go.Operand.tmp 136) (Go.Operand.const (Go.Value.bool true)) (Go.Operand.tmp 144), type := 4, pos := "law.go:154", after := #[{ on := 10, ground := Go.Ground.data }, { on := 18, ground := Go.Ground.data }, { on := 1, ground := Go.Ground.guard }], guard := some (1, true) }) (v := ?_) rfl (by kernel_rfl) (by kernel_rfl) (by kernel_rfl) (fun _ _ _ h => h) (Or.inl ⟨by rfl, ?_⟩) (by assumption) ?_
              rotate_left 1
              · (intro w hSw; (try dsimp only at hSw); go_simp) <;> with_reducible rfl
              try simp only [Act.put, List.setIfInBounds_toArray, List.set_cons_zero, List.set_cons_succ]
              refine wpAnyH_take (i := 20) (oi := { dst := some 146, op := Go.Op.move (Go.Operand.tmp 145), type := 4, pos := "law.go:154", after := #[{ on := 19, ground := Go.Ground.data }, { on := 17, ground := Go.Ground.chain }, { on := 1, ground := Go.Ground.guard }], guard := some (1, true) }) (v := ?_) rfl (by kernel_rfl) (by kernel_rfl) (by kernel_rfl) (fun _ _ _ h => h) (Or.inl ⟨by rfl, ?_⟩) (by assumption) ?_
              rotate_left 1
              · (intro w hSw; (try dsimp only at hSw); go_simp) <;> with_reducible rfl
              try simp only [Act.put, List.setIfInBounds_toArray, List.set_cons_zero, List.set_cons_succ]
              refine wpAnyH_take (i := 21) (oi := { dst := some 147, op := Go.Op.move (Go.Operand.tmp 0), type := 22, pos := "law.go:154", after := #[{ on := 20, ground := Go.Ground.guard }], guard := some (20, false) }) rfl (by kernel_rfl) (by kernel_rfl) (by kernel_rfl) (fun _ _ _ h => h) (Or.inr ⟨by rfl, rfl⟩) (by assumption) ?_
              try simp only [Act.put, List.setIfInBounds_toArray, List.set_cons_zero, List.set_cons_succ]
              refine wpAnyH_take (i := 22) (oi := { dst := some 148, op := Go.Op.load 35 (Go.Operand.tmp 12), type := 35, pos := "law.go:154", after := #[{ on := 20, ground := Go.Ground.guard }], guard := some (20, false) }) rfl (by kernel_rfl) (by kernel_rfl) (by kernel_rfl) (fun _ _ _ h => h) (Or.inr ⟨by rfl, rfl⟩) (by assumption) ?_
              try simp only [Act.put, List.setIfInBounds_toArray, List.set_cons_zero, List.set_cons_succ]
              refine wpAnyH_take (i := 23) (oi := { dst := some 149, op := Go.Op.load 35 (Go.Operand.tmp 14), type := 35, pos := "law.go:154", after := #[{ on := 20, ground := Go.Ground.guard }], guard := some (20, false) }) rfl (by kernel_rfl) (by kernel_rfl) (by kernel_rfl) (fun _ _ _ h => h) (Or.inr ⟨by rfl, rfl⟩) (by assumption) ?_
              try simp only [Act.put, List.setIfInBounds_toArray, List.set_cons_zero, List.set_cons_succ]
              refine wpAnyH_take (i := 24) (oi := { dst := some 150, op := Go.Op.move (Go.Operand.tmp 2), type := 44, pos := "law.go:154", after := #[{ on := 20, ground := Go.Ground.guard }], guard := some (20, false) }) rfl (by kernel_rfl) (by kernel_rfl) (by kernel_rfl) (fun _ _ _ h => h) (Or.inr ⟨by rfl, rfl⟩) (by assumption) ?_
              try simp only [Act.put, List.setIfInBounds_toArray, List.set_cons_zero, List.set_cons_succ]
              refine wpAnyH_take (i := 25) (oi := { dst := some 151, op := Go.Op.indexAddr 44 (Go.Operand.tmp 150) (Go.Operand.const (Go.Value.int Go.IntKind.i64 0)), type := 0, pos := "law.go:154", after := #[{ on := 24, ground := Go.Ground.data }, { on := 20, ground := Go.Ground.guard }], guard := some (20, false) }) rfl (by kernel_rfl) (by kernel_rfl) (by kernel_rfl) (fun _ _ _ h => h) (Or.inr ⟨by rfl, rfl⟩) (by assumption) ?_
              try simp only [Act.put, List.setIfInBounds_toArray, List.set_cons_zero, List.set_cons_succ]
              refine wpAnyH_take (i := 26) (oi := { dst := some 152, op := Go.Op.load 25 (Go.Operand.tmp 151), type := 25, pos := "law.go:154", after := #[{ on := 25, ground := Go.Ground.data }, { on := 20, ground := Go.Ground.guard }], guard := some (20, false) }) rfl (by kernel_rfl) (by kernel_rfl) (by kernel_rfl) (fun _ _ _ h => h) (Or.inr ⟨by rfl, rfl⟩) (by assumption) ?_
              try simp only [Act.put, List.setIfInBounds_toArray, List.set_cons_zero, List.set_cons_succ]
              refine wpAnyH_take (i := 27) (oi := { dst := some 153, op := Go.Op.call { callee := Go.Callee.value (Go.Operand.func 27), args := #[Go.Operand.tmp 147, Go.Operand.tmp 148, Go.Operand.tmp 149, Go.Operand.tmp 152], argTypes := #[22, 35, 35, 25] }, type := 4, pos := "law.go:154", after := #[{ on := 21, ground := Go.Ground.data }, { on := 22, ground := Go.Ground.data }, { on := 23, ground := Go.Ground.data }, { on := 26, ground := Go.Ground.data }, { on := 20, ground := Go.Ground.chain }, { on := 20, ground := Go.Ground.guard }], guard := some (20, false) }) rfl (by kernel_rfl) (by kernel_rfl) (by kernel_rfl) (fun _ _ _ h => h) (Or.inr ⟨by rfl, rfl⟩) (by assumption) ?_
              try simp only [Act.put, List.setIfInBounds_toArray, List.set_cons_zero, List.set_cons_succ]
              refine wpAnyH_take (i := 28) (oi := { dst := some 154, op := Go.Op.pick (Go.Operand.tmp 146) (Go.Operand.const (Go.Value.bool true)) (Go.Operand.tmp 153), type := 4, pos := "law.go:154", after := #[{ on := 20, ground := Go.Ground.data }, { on := 27, ground := Go.Ground.data }, { on := 1, ground := Go.Ground.guard }], guard := some (1, true) }) (v := ?_) rfl (by kernel_rfl) (by kernel_rfl) (by kernel_rfl) (fun _ _ _ h => h) (Or.inl ⟨by rfl, ?_⟩) (by assumption) ?_
              rotate_left 1
              · (intro w hSw; (try dsimp only at hSw); go_simp) <;> with_reducible rfl
              try simp only [Act.put, List.setIfInBounds_toArray, List.set_cons_zero, List.set_cons_succ]
              refine wpAnyH_take (i := 29) (oi := { dst := some 155, op := Go.Op.pick (Go.Operand.tmp 127) (Go.Operand.tmp 154) (Go.Operand.const (Go.Value.bool false)), type := 4, pos := "law.go:154", after := #[{ on := 1, ground := Go.Ground.data }, { on := 28, ground := Go.Ground.data }], guard := none }) (v := ?_) rfl (by kernel_rfl) (by kernel_rfl) (by kernel_rfl) (fun _ _ _ h => h) (Or.inl ⟨by rfl, ?_⟩) (by assumption) ?_
              rotate_left 1
              · (intro w hSw; (try dsimp only at hSw); go_simp) <;> with_reducible rfl
              try simp only [Act.put, List.setIfInBounds_toArray, List.set_cons_zero, List.set_cons_succ]
              refine wpAnyH_take (i := 30) (oi := { dst := some 6, op := Go.Op.assign (Go.Operand.tmp 155), type := 4, pos := "law.go:154", after := #[{ on := 29, ground := Go.Ground.data }, { on := 27, ground := Go.Ground.chain }, { on := 0, ground := Go.Ground.phase }, { on := 1, ground := Go.Ground.phase }, { on := 2, ground := Go.Ground.phase }, { on := 3, ground := Go.Ground.phase }, { on := 4, ground := Go.Ground.phase }, { on := 5, ground := Go.Ground.phase }, { on := 6, ground := Go.Ground.phase }, { on := 7, ground := Go.Ground.phase }, { on := 8, ground := Go.Ground.phase }, { on := 9, ground := Go.Ground.phase }, { on := 10, ground := Go.Ground.phase }, { on := 11, ground := Go.Ground.phase }, { on := 12, ground := Go.Ground.phase }, { on := 13, ground := Go.Ground.phase }, { on := 14, ground := Go.Ground.phase }, { on := 15, ground := Go.Ground.phase }, { on := 16, ground := Go.Ground.phase }, { on := 17, ground := Go.Ground.phase }, { on := 18, ground := Go.Ground.phase }, { on := 19, ground := Go.Ground.phase }, { on := 20, ground := Go.Ground.phase }, { on := 21, ground := Go.Ground.phase }, { on := 22, ground := Go.Ground.phase }, { on := 23, ground := Go.Ground.phase }, { on := 24, ground := Go.Ground.phase }, { on := 25, ground := Go.Ground.phase }, { on := 26, ground := Go.Ground.phase }, { on := 27, ground := Go.Ground.phase }, { on := 28, ground := Go.Ground.phase }, { on := 29, ground := Go.Ground.phase }], guard := none }) (v := ?_) rfl (by kernel_rfl) (by kernel_rfl) (by kernel_rfl) (fun _ _ _ h => h) (Or.inl ⟨by rfl, ?_⟩) (by assumption) ?_
              rotate_left 1
              · (intro w hSw; (try dsimp only at hSw); go_simp) <;> with_reducible rfl
              try simp only [Act.put, List.setIfInBounds_toArray, List.set_cons_zero, List.set_cons_succ]
              refine wpAnyH_done (by kernel_rfl) ?_ _
              refine NoPanic.normal ?_

              have qf := below_step QV (below_step (Below.refl _ V).drew hbu)
              clear HST HTU HSU
              go_wp2
              go_ret
              exact ⟨rfl, qf⟩
            | true =>
              rw [hp1] at HST
              cases hp2 : tpR l tg pb.type pc.type with
              | false =>
                rw [hp2] at HTU
                clear hp1 hp2 HTR
                refine wp_region_noPanic ?_
                refine wp_region_held_drew (S := fun w' => Below V.heap.size V w' ∧ w'.cell? ⟨wr.heap.size, 0, none⟩ = some (.int .i64 pa.type.kind) ∧ w'.cell? ⟨wr.heap.size, 1, none⟩ = some (.string pa.type.name) ∧ w'.cell? ⟨wr.heap.size, 2, none⟩ = some (.int .i64 pa.type.lo) ∧ w'.cell? ⟨wr.heap.size, 3, none⟩ = some (.int .i64 pa.type.hi) ∧ w'.cell? ⟨wr.heap.size, 4, none⟩ = some (.slice As pa.type.args.length cs) ∧ w'.cell? ⟨wr.heap.size + 1, 0, none⟩ = some (.int .i64 pb.type.kind) ∧ w'.cell? ⟨wr.heap.size + 1, 1, none⟩ = some (.string pb.type.name) ∧ w'.cell? ⟨wr.heap.size + 1, 2, none⟩ = some (.int .i64 pb.type.lo) ∧ w'.cell? ⟨wr.heap.size + 1, 3, none⟩ = some (.int .i64 pb.type.hi) ∧ w'.cell? ⟨wr.heap.size + 1, 4, none⟩ = some (.slice At pb.type.args.length ct) ∧ w'.cell? ⟨wr.heap.size + 2, 0, none⟩ = some (.int .i64 pc.type.kind) ∧ w'.cell? ⟨wr.heap.size + 2, 1, none⟩ = some (.string pc.type.name) ∧ w'.cell? ⟨wr.heap.size + 2, 2, none⟩ = some (.int .i64 pc.type.lo) ∧ w'.cell? ⟨wr.heap.size + 2, 3, none⟩ = some (.int .i64 pc.type.hi) ∧ w'.cell? ⟨wr.heap.size + 2, 4, none⟩ = some (.slice Au pc.type.args.length cu) ∧ w'.cell? ⟨b3, o3, none⟩ = some (.int .i64 tg.kind) ∧ w'.cell? ⟨b3, o3 + 1, none⟩ = some (.int .i64 tg.num) ∧ w'.cell? ⟨b3, o3 + 2, none⟩ = some (.string tg.name)) (by kernel_rfl) ⟨(Below.refl _ V).drew, s0, s1, s2, s3, s4, t0, t1, t2, t3, t4, u0, u1, u2, u3, u4, v0, v1, v2⟩ (fun hHeld => ?_)
                refine wpAnyH_take (i := 0) (oi := { dst := some 126, op := Go.Op.move (Go.Operand.tmp 7), type := 4, pos := "law.go:154", after := #[], guard := none }) (v := ?_) rfl (by kernel_rfl) (by kernel_rfl) (by kernel_rfl) (fun _ _ _ h => h) (Or.inl ⟨by rfl, ?_⟩) (by assumption) ?_
                rotate_left 1
                · (intro w hSw; (try dsimp only at hSw); go_simp) <;> with_reducible rfl
                try simp only [Act.put, List.setIfInBounds_toArray, List.set_cons_zero, List.set_cons_succ]
                refine wpAnyH_take (i := 1) (oi := { dst := some 127, op := Go.Op.move (Go.Operand.tmp 126), type := 4, pos := "law.go:154", after := #[{ on := 0, ground := Go.Ground.data }], guard := none }) (v := ?_) rfl (by kernel_rfl) (by kernel_rfl) (by kernel_rfl) (fun _ _ _ h => h) (Or.inl ⟨by rfl, ?_⟩) (by assumption) ?_
                rotate_left 1
                · (intro w hSw; (try dsimp only at hSw); go_simp) <;> with_reducible rfl
                try simp only [Act.put, List.setIfInBounds_toArray, List.set_cons_zero, List.set_cons_succ]
                refine wpAnyH_take (i := 2) (oi := { dst := some 128, op := Go.Op.move (Go.Operand.tmp 0), type := 22, pos := "law.go:154", after := #[{ on := 1, ground := Go.Ground.guard }], guard := some (1, true) }) (v := ?_) rfl (by kernel_rfl) (by kernel_rfl) (by kernel_rfl) (fun _ _ _ h => h) (Or.inl ⟨by rfl, ?_⟩) (by assumption) ?_
                rotate_left 1
                · (intro w hSw; (try dsimp only at hSw); go_simp) <;> with_reducible rfl
                try simp only [Act.put, List.setIfInBounds_toArray, List.set_cons_zero, List.set_cons_succ]
                refine wpAnyH_take (i := 3) (oi := { dst := some 129, op := Go.Op.load 35 (Go.Operand.tmp 12), type := 35, pos := "law.go:154", after := #[{ on := 1, ground := Go.Ground.guard }], guard := some (1, true) }) (v := ?_) rfl (by kernel_rfl) (by kernel_rfl) (by kernel_rfl) (fun _ _ _ h => h) (Or.inl ⟨by rfl, ?_⟩) (by assumption) ?_
                rotate_left 1
                · (intro w hSw; (try dsimp only at hSw); go_simp) <;> with_reducible rfl
                try simp only [Act.put, List.setIfInBounds_toArray, List.set_cons_zero, List.set_cons_succ]
                refine wpAnyH_take (i := 4) (oi := { dst := some 130, op := Go.Op.load 35 (Go.Operand.tmp 13), type := 35, pos := "law.go:154", after := #[{ on := 1, ground := Go.Ground.guard }], guard := some (1, true) }) (v := ?_) rfl (by kernel_rfl) (by kernel_rfl) (by kernel_rfl) (fun _ _ _ h => h) (Or.inl ⟨by rfl, ?_⟩) (by assumption) ?_
                rotate_left 1
                · (intro w hSw; (try dsimp only at hSw); go_simp) <;> with_reducible rfl
                try simp only [Act.put, List.setIfInBounds_toArray, List.set_cons_zero, List.set_cons_succ]
                refine wpAnyH_take (i := 5) (oi := { dst := some 131, op := Go.Op.move (Go.Operand.tmp 2), type := 44, pos := "law.go:154", after := #[{ on := 1, ground := Go.Ground.guard }], guard := some (1, true) }) (v := ?_) rfl (by kernel_rfl) (by kernel_rfl) (by kernel_rfl) (fun _ _ _ h => h) (Or.inl ⟨by rfl, ?_⟩) (by assumption) ?_
                rotate_left 1
                · (intro w hSw; (try dsimp only at hSw); go_simp) <;> with_reducible rfl
                try simp only [Act.put, List.setIfInBounds_toArray, List.set_cons_zero, List.set_cons_succ]
                refine wpAnyH_take (i := 6) (oi := { dst := some 132, op := Go.Op.indexAddr 44 (Go.Operand.tmp 131) (Go.Operand.const (Go.Value.int Go.IntKind.i64 0)), type := 0, pos := "law.go:154", after := #[{ on := 5, ground := Go.Ground.data }, { on := 1, ground := Go.Ground.guard }], guard := some (1, true) }) (v := ?_) rfl (by kernel_rfl) (by kernel_rfl) (by kernel_rfl) (fun _ _ _ h => h) (Or.inl ⟨by rfl, ?_⟩) (by assumption) ?_
                rotate_left 1
                · (intro w hSw; (try dsimp only at hSw); go_simp) <;> with_reducible rfl
                try simp only [Act.put, List.setIfInBounds_toArray, List.set_cons_zero, List.set_cons_succ]
                refine wpAnyH_take (i := 7) (oi := { dst := some 133, op := Go.Op.load 25 (Go.Operand.tmp 132), type := 25, pos := "law.go:154", after := #[{ on := 6, ground := Go.Ground.data }, { on := 1, ground := Go.Ground.guard }], guard := some (1, true) }) (v := ?_) rfl (by kernel_rfl) (by kernel_rfl) (by kernel_rfl) (fun _ _ _ h => h) (Or.inl ⟨by rfl, ?_⟩) (by assumption) ?_
                rotate_left 1
                · (intro w hSw; (try dsimp only at hSw); go_simp) <;> with_reducible rfl
                try simp only [Act.put, List.setIfInBounds_toArray, List.set_cons_zero, List.set_cons_succ]
                refine wpAnyH_ready (rs := [8]) (by kernel_rfl) (by simp) ?_
                refine AllReadyH.cons (o := { dst := some 134, op := Go.Op.call { callee := Go.Callee.value (Go.Operand.func 27), args := #[Go.Operand.tmp 128, Go.Operand.tmp 129, Go.Operand.tmp 130, Go.Operand.tmp 133], argTypes := #[22, 35, 35, 25] }, type := 4, pos := "law.go:154", after := #[{ on := 2, ground := Go.Ground.data }, { on := 3, ground := Go.Ground.data }, { on := 4, ground := Go.Ground.data }, { on := 7, ground := Go.Ground.data }, { on := 1, ground := Go.Ground.chain }, { on := 1, ground := Go.Ground.guard }], guard := some (1, true) }) rfl (fun K hK => ?_) AllReadyH.nil
                go_simp
                go_at_call 27
                refine (HST.out _ (Below.refl _ V).drew).mono ?_
                rintro e U ⟨rfl, hbu⟩
                refine hK.out _ _ ⟨below_step (Below.refl _ V).drew hbu, cell_all (show V.drew.cell? _ = _ from s0) hbu, cell_all (show V.drew.cell? _ = _ from s1) hbu, cell_all (show V.drew.cell? _ = _ from s2) hbu, cell_all (show V.drew.cell? _ = _ from s3) hbu, cell_all (show V.drew.cell? _ = _ from s4) hbu, cell_all (show V.drew.cell? _ = _ from t0) hbu, cell_all (show V.drew.cell? _ = _ from t1) hbu, cell_all (show V.drew.cell? _ = _ from t2) hbu, cell_all (show V.drew.cell? _ = _ from t3) hbu, cell_all (show V.drew.cell? _ = _ from t4) hbu, cell_all (show V.drew.cell? _ = _ from u0) hbu, cell_all (show V.drew.cell? _ = _ from u1) hbu, cell_all (show V.drew.cell? _ = _ from u2) hbu, cell_all (show V.drew.cell? _ = _ from u3) hbu, cell_all (show V.drew.cell? _ = _ from u4) hbu, cell_all (show V.drew.cell? _ = _ from v0) hbu, cell_all (show V.drew.cell? _ = _ from v1) hbu, cell_all (show V.drew.cell? _ = _ from v2) hbu⟩ (fun hHeld => ?_)
                clear hK K
                try simp only [Act.put, List.setIfInBounds_toArray, List.set_cons_zero, List.set_cons_succ]
                refine wpAnyH_take (i := 9) (oi := { dst := some 135, op := Go.Op.unOp Go.UnOp.not 4 (Go.Operand.tmp 134), type := 4, pos := "law.go:154", after := #[{ on := 8, ground := Go.Ground.data }, { on := 1, ground := Go.Ground.guard }], guard := some (1, true) }) (v := ?_) rfl (by kernel_rfl) (by kernel_rfl) (by kernel_rfl) (fun _ _ _ h => h) (Or.inl ⟨by rfl, ?_⟩) (by assumption) ?_
                rotate_left 1
                · (intro w hSw; (try dsimp only at hSw); go_simp) <;> with_reducible rfl
                try simp only [Act.put, List.setIfInBounds_toArray, List.set_cons_zero, List.set_cons_succ]
                refine wpAnyH_take (i := 10) (oi := { dst := some 136, op := Go.Op.move (Go.Operand.tmp 135), type := 4, pos := "law.go:154", after := #[{ on := 9, ground := Go.Ground.data }, { on := 8, ground := Go.Ground.chain }, { on := 1, ground := Go.Ground.guard }], guard := some (1, true) }) (v := ?_) rfl (by kernel_rfl) (by kernel_rfl) (by kernel_rfl) (fun _ _ _ h => h) (Or.inl ⟨by rfl, ?_⟩) (by assumption) ?_
                rotate_left 1
                · (intro w hSw; (try dsimp only at hSw); go_simp) <;> with_reducible rfl
                try simp only [Act.put, List.setIfInBounds_toArray, List.set_cons_zero, List.set_cons_succ]
                refine wpAnyH_take (i := 11) (oi := { dst := some 137, op := Go.Op.move (Go.Operand.tmp 0), type := 22, pos := "law.go:154", after := #[{ on := 10, ground := Go.Ground.guard }], guard := some (10, false) }) (v := ?_) rfl (by kernel_rfl) (by kernel_rfl) (by kernel_rfl) (fun _ _ _ h => h) (Or.inl ⟨by rfl, ?_⟩) (by assumption) ?_
                rotate_left 1
                · (intro w hSw; (try dsimp only at hSw); go_simp) <;> with_reducible rfl
                try simp only [Act.put, List.setIfInBounds_toArray, List.set_cons_zero, List.set_cons_succ]
                refine wpAnyH_take (i := 12) (oi := { dst := some 138, op := Go.Op.load 35 (Go.Operand.tmp 13), type := 35, pos := "law.go:154", after := #[{ on := 10, ground := Go.Ground.guard }], guard := some (10, false) }) (v := ?_) rfl (by kernel_rfl) (by kernel_rfl) (by kernel_rfl) (fun _ _ _ h => h) (Or.inl ⟨by rfl, ?_⟩) (by assumption) ?_
                rotate_left 1
                · (intro w hSw; (try dsimp only at hSw); go_simp) <;> with_reducible rfl
                try simp only [Act.put, List.setIfInBounds_toArray, List.set_cons_zero, List.set_cons_succ]
                refine wpAnyH_take (i := 13) (oi := { dst := some 139, op := Go.Op.load 35 (Go.Operand.tmp 14), type := 35, pos := "law.go:154", after := #[{ on := 10, ground := Go.Ground.guard }], guard := some (10, false) }) (v := ?_) rfl (by kernel_rfl) (by kernel_rfl) (by kernel_rfl) (fun _ _ _ h => h) (Or.inl ⟨by rfl, ?_⟩) (by assumption) ?_
                rotate_left 1
                · (intro w hSw; (try dsimp only at hSw); go_simp) <;> with_reducible rfl
                try simp only [Act.put, List.setIfInBounds_toArray, List.set_cons_zero, List.set_cons_succ]
                refine wpAnyH_take (i := 14) (oi := { dst := some 140, op := Go.Op.move (Go.Operand.tmp 2), type := 44, pos := "law.go:154", after := #[{ on := 10, ground := Go.Ground.guard }], guard := some (10, false) }) (v := ?_) rfl (by kernel_rfl) (by kernel_rfl) (by kernel_rfl) (fun _ _ _ h => h) (Or.inl ⟨by rfl, ?_⟩) (by assumption) ?_
                rotate_left 1
                · (intro w hSw; (try dsimp only at hSw); go_simp) <;> with_reducible rfl
                try simp only [Act.put, List.setIfInBounds_toArray, List.set_cons_zero, List.set_cons_succ]
                refine wpAnyH_take (i := 15) (oi := { dst := some 141, op := Go.Op.indexAddr 44 (Go.Operand.tmp 140) (Go.Operand.const (Go.Value.int Go.IntKind.i64 0)), type := 0, pos := "law.go:154", after := #[{ on := 14, ground := Go.Ground.data }, { on := 10, ground := Go.Ground.guard }], guard := some (10, false) }) (v := ?_) rfl (by kernel_rfl) (by kernel_rfl) (by kernel_rfl) (fun _ _ _ h => h) (Or.inl ⟨by rfl, ?_⟩) (by assumption) ?_
                rotate_left 1
                · (intro w hSw; (try dsimp only at hSw); go_simp) <;> with_reducible rfl
                try simp only [Act.put, List.setIfInBounds_toArray, List.set_cons_zero, List.set_cons_succ]
                refine wpAnyH_take (i := 16) (oi := { dst := some 142, op := Go.Op.load 25 (Go.Operand.tmp 141), type := 25, pos := "law.go:154", after := #[{ on := 15, ground := Go.Ground.data }, { on := 10, ground := Go.Ground.guard }], guard := some (10, false) }) (v := ?_) rfl (by kernel_rfl) (by kernel_rfl) (by kernel_rfl) (fun _ _ _ h => h) (Or.inl ⟨by rfl, ?_⟩) (by assumption) ?_
                rotate_left 1
                · (intro w hSw; (try dsimp only at hSw); go_simp) <;> with_reducible rfl
                try simp only [Act.put, List.setIfInBounds_toArray, List.set_cons_zero, List.set_cons_succ]
                refine wpAnyH_ready (rs := [17]) (by kernel_rfl) (by simp) ?_
                refine AllReadyH.cons (o := { dst := some 143, op := Go.Op.call { callee := Go.Callee.value (Go.Operand.func 27), args := #[Go.Operand.tmp 137, Go.Operand.tmp 138, Go.Operand.tmp 139, Go.Operand.tmp 142], argTypes := #[22, 35, 35, 25] }, type := 4, pos := "law.go:154", after := #[{ on := 11, ground := Go.Ground.data }, { on := 12, ground := Go.Ground.data }, { on := 13, ground := Go.Ground.data }, { on := 16, ground := Go.Ground.data }, { on := 10, ground := Go.Ground.chain }, { on := 10, ground := Go.Ground.guard }], guard := some (10, false) }) rfl (fun K hK => ?_) AllReadyH.nil
                go_simp
                have qu := hHeld.1
                go_at_call 27
                refine (HTU.out _ qu).mono ?_
                rintro e U2 ⟨rfl, hbu2⟩
                refine hK.out _ _ (by go_split_ands; exact ⟨below_step qu hbu2, cell_all (by assumption) hbu2, cell_all (by assumption) hbu2, cell_all (by assumption) hbu2, cell_all (by assumption) hbu2, cell_all (by assumption) hbu2, cell_all (by assumption) hbu2, cell_all (by assumption) hbu2, cell_all (by assumption) hbu2, cell_all (by assumption) hbu2, cell_all (by assumption) hbu2, cell_all (by assumption) hbu2, cell_all (by assumption) hbu2, cell_all (by assumption) hbu2, cell_all (by assumption) hbu2, cell_all (by assumption) hbu2, cell_all (by assumption) hbu2, cell_all (by assumption) hbu2, cell_all (by assumption) hbu2⟩) (fun hHeld => ?_)
                clear hK K
                try simp only [Act.put, List.setIfInBounds_toArray, List.set_cons_zero, List.set_cons_succ]
                refine wpAnyH_take (i := 18) (oi := { dst := some 144, op := Go.Op.unOp Go.UnOp.not 4 (Go.Operand.tmp 143), type := 4, pos := "law.go:154", after := #[{ on := 17, ground := Go.Ground.data }, { on := 10, ground := Go.Ground.guard }], guard := some (10, false) }) (v := ?_) rfl (by kernel_rfl) (by kernel_rfl) (by kernel_rfl) (fun _ _ _ h => h) (Or.inl ⟨by rfl, ?_⟩) (by assumption) ?_
                rotate_left 1
                · (intro w hSw; (try dsimp only at hSw); go_simp) <;> with_reducible rfl
                try simp only [Act.put, List.setIfInBounds_toArray, List.set_cons_zero, List.set_cons_succ]
                refine wpAnyH_take (i := 19) (oi := { dst := some 145, op := Go.Op.pick (Go.Operand.tmp 136) (Go.Operand.const (Go.Value.bool true)) (Go.Operand.tmp 144), type := 4, pos := "law.go:154", after := #[{ on := 10, ground := Go.Ground.data }, { on := 18, ground := Go.Ground.data }, { on := 1, ground := Go.Ground.guard }], guard := some (1, true) }) (v := ?_) rfl (by kernel_rfl) (by kernel_rfl) (by kernel_rfl) (fun _ _ _ h => h) (Or.inl ⟨by rfl, ?_⟩) (by assumption) ?_
                rotate_left 1
                · (intro w hSw; (try dsimp only at hSw); go_simp) <;> with_reducible rfl
                try simp only [Act.put, List.setIfInBounds_toArray, List.set_cons_zero, List.set_cons_succ]
                refine wpAnyH_take (i := 20) (oi := { dst := some 146, op := Go.Op.move (Go.Operand.tmp 145), type := 4, pos := "law.go:154", after := #[{ on := 19, ground := Go.Ground.data }, { on := 17, ground := Go.Ground.chain }, { on := 1, ground := Go.Ground.guard }], guard := some (1, true) }) (v := ?_) rfl (by kernel_rfl) (by kernel_rfl) (by kernel_rfl) (fun _ _ _ h => h) (Or.inl ⟨by rfl, ?_⟩) (by assumption) ?_
                rotate_left 1
                · (intro w hSw; (try dsimp only at hSw); go_simp) <;> with_reducible rfl
                try simp only [Act.put, List.setIfInBounds_toArray, List.set_cons_zero, List.set_cons_succ]
                refine wpAnyH_take (i := 21) (oi := { dst := some 147, op := Go.Op.move (Go.Operand.tmp 0), type := 22, pos := "law.go:154", after := #[{ on := 20, ground := Go.Ground.guard }], guard := some (20, false) }) rfl (by kernel_rfl) (by kernel_rfl) (by kernel_rfl) (fun _ _ _ h => h) (Or.inr ⟨by rfl, rfl⟩) (by assumption) ?_
                try simp only [Act.put, List.setIfInBounds_toArray, List.set_cons_zero, List.set_cons_succ]
                refine wpAnyH_take (i := 22) (oi := { dst := some 148, op := Go.Op.load 35 (Go.Operand.tmp 12), type := 35, pos := "law.go:154", after := #[{ on := 20, ground := Go.Ground.guard }], guard := some (20, false) }) rfl (by kernel_rfl) (by kernel_rfl) (by kernel_rfl) (fun _ _ _ h => h) (Or.inr ⟨by rfl, rfl⟩) (by assumption) ?_
                try simp only [Act.put, List.setIfInBounds_toArray, List.set_cons_zero, List.set_cons_succ]
                refine wpAnyH_take (i := 23) (oi := { dst := some 149, op := Go.Op.load 35 (Go.Operand.tmp 14), type := 35, pos := "law.go:154", after := #[{ on := 20, ground := Go.Ground.guard }], guard := some (20, false) }) rfl (by kernel_rfl) (by kernel_rfl) (by kernel_rfl) (fun _ _ _ h => h) (Or.inr ⟨by rfl, rfl⟩) (by assumption) ?_
                try simp only [Act.put, List.setIfInBounds_toArray, List.set_cons_zero, List.set_cons_succ]
                refine wpAnyH_take (i := 24) (oi := { dst := some 150, op := Go.Op.move (Go.Operand.tmp 2), type := 44, pos := "law.go:154", after := #[{ on := 20, ground := Go.Ground.guard }], guard := some (20, false) }) rfl (by kernel_rfl) (by kernel_rfl) (by kernel_rfl) (fun _ _ _ h => h) (Or.inr ⟨by rfl, rfl⟩) (by assumption) ?_
                try simp only [Act.put, List.setIfInBounds_toArray, List.set_cons_zero, List.set_cons_succ]
                refine wpAnyH_take (i := 25) (oi := { dst := some 151, op := Go.Op.indexAddr 44 (Go.Operand.tmp 150) (Go.Operand.const (Go.Value.int Go.IntKind.i64 0)), type := 0, pos := "law.go:154", after := #[{ on := 24, ground := Go.Ground.data }, { on := 20, ground := Go.Ground.guard }], guard := some (20, false) }) rfl (by kernel_rfl) (by kernel_rfl) (by kernel_rfl) (fun _ _ _ h => h) (Or.inr ⟨by rfl, rfl⟩) (by assumption) ?_
                try simp only [Act.put, List.setIfInBounds_toArray, List.set_cons_zero, List.set_cons_succ]
                refine wpAnyH_take (i := 26) (oi := { dst := some 152, op := Go.Op.load 25 (Go.Operand.tmp 151), type := 25, pos := "law.go:154", after := #[{ on := 25, ground := Go.Ground.data }, { on := 20, ground := Go.Ground.guard }], guard := some (20, false) }) rfl (by kernel_rfl) (by kernel_rfl) (by kernel_rfl) (fun _ _ _ h => h) (Or.inr ⟨by rfl, rfl⟩) (by assumption) ?_
                try simp only [Act.put, List.setIfInBounds_toArray, List.set_cons_zero, List.set_cons_succ]
                refine wpAnyH_take (i := 27) (oi := { dst := some 153, op := Go.Op.call { callee := Go.Callee.value (Go.Operand.func 27), args := #[Go.Operand.tmp 147, Go.Operand.tmp 148, Go.Operand.tmp 149, Go.Operand.tmp 152], argTypes := #[22, 35, 35, 25] }, type := 4, pos := "law.go:154", after := #[{ on := 21, ground := Go.Ground.data }, { on := 22, ground := Go.Ground.data }, { on := 23, ground := Go.Ground.data }, { on := 26, ground := Go.Ground.data }, { on := 20, ground := Go.Ground.chain }, { on := 20, ground := Go.Ground.guard }], guard := some (20, false) }) rfl (by kernel_rfl) (by kernel_rfl) (by kernel_rfl) (fun _ _ _ h => h) (Or.inr ⟨by rfl, rfl⟩) (by assumption) ?_
                try simp only [Act.put, List.setIfInBounds_toArray, List.set_cons_zero, List.set_cons_succ]
                refine wpAnyH_take (i := 28) (oi := { dst := some 154, op := Go.Op.pick (Go.Operand.tmp 146) (Go.Operand.const (Go.Value.bool true)) (Go.Operand.tmp 153), type := 4, pos := "law.go:154", after := #[{ on := 20, ground := Go.Ground.data }, { on := 27, ground := Go.Ground.data }, { on := 1, ground := Go.Ground.guard }], guard := some (1, true) }) (v := ?_) rfl (by kernel_rfl) (by kernel_rfl) (by kernel_rfl) (fun _ _ _ h => h) (Or.inl ⟨by rfl, ?_⟩) (by assumption) ?_
                rotate_left 1
                · (intro w hSw; (try dsimp only at hSw); go_simp) <;> with_reducible rfl
                try simp only [Act.put, List.setIfInBounds_toArray, List.set_cons_zero, List.set_cons_succ]
                refine wpAnyH_take (i := 29) (oi := { dst := some 155, op := Go.Op.pick (Go.Operand.tmp 127) (Go.Operand.tmp 154) (Go.Operand.const (Go.Value.bool false)), type := 4, pos := "law.go:154", after := #[{ on := 1, ground := Go.Ground.data }, { on := 28, ground := Go.Ground.data }], guard := none }) (v := ?_) rfl (by kernel_rfl) (by kernel_rfl) (by kernel_rfl) (fun _ _ _ h => h) (Or.inl ⟨by rfl, ?_⟩) (by assumption) ?_
                rotate_left 1
                · (intro w hSw; (try dsimp only at hSw); go_simp) <;> with_reducible rfl
                try simp only [Act.put, List.setIfInBounds_toArray, List.set_cons_zero, List.set_cons_succ]
                refine wpAnyH_take (i := 30) (oi := { dst := some 6, op := Go.Op.assign (Go.Operand.tmp 155), type := 4, pos := "law.go:154", after := #[{ on := 29, ground := Go.Ground.data }, { on := 27, ground := Go.Ground.chain }, { on := 0, ground := Go.Ground.phase }, { on := 1, ground := Go.Ground.phase }, { on := 2, ground := Go.Ground.phase }, { on := 3, ground := Go.Ground.phase }, { on := 4, ground := Go.Ground.phase }, { on := 5, ground := Go.Ground.phase }, { on := 6, ground := Go.Ground.phase }, { on := 7, ground := Go.Ground.phase }, { on := 8, ground := Go.Ground.phase }, { on := 9, ground := Go.Ground.phase }, { on := 10, ground := Go.Ground.phase }, { on := 11, ground := Go.Ground.phase }, { on := 12, ground := Go.Ground.phase }, { on := 13, ground := Go.Ground.phase }, { on := 14, ground := Go.Ground.phase }, { on := 15, ground := Go.Ground.phase }, { on := 16, ground := Go.Ground.phase }, { on := 17, ground := Go.Ground.phase }, { on := 18, ground := Go.Ground.phase }, { on := 19, ground := Go.Ground.phase }, { on := 20, ground := Go.Ground.phase }, { on := 21, ground := Go.Ground.phase }, { on := 22, ground := Go.Ground.phase }, { on := 23, ground := Go.Ground.phase }, { on := 24, ground := Go.Ground.phase }, { on := 25, ground := Go.Ground.phase }, { on := 26, ground := Go.Ground.phase }, { on := 27, ground := Go.Ground.phase }, { on := 28, ground := Go.Ground.phase }, { on := 29, ground := Go.Ground.phase }], guard := none }) (v := ?_) rfl (by kernel_rfl) (by kernel_rfl) (by kernel_rfl) (fun _ _ _ h => h) (Or.inl ⟨by rfl, ?_⟩) (by assumption) ?_
                rotate_left 1
                · (intro w hSw; (try dsimp only at hSw); go_simp) <;> with_reducible rfl
                try simp only [Act.put, List.setIfInBounds_toArray, List.set_cons_zero, List.set_cons_succ]
                refine wpAnyH_done (by kernel_rfl) ?_ _
                refine NoPanic.normal ?_

                have qf := below_step QV (below_step qu hbu2)
                clear HST HTU HSU
                go_wp2
                go_ret
                exact ⟨rfl, qf⟩
              | true =>
                rw [hp2] at HTU
                have hp3 := HTR.out hp1 hp2
                have hp1' : TpAt l tg pa.type pb.type true := hp1
                have hp2' : TpAt l tg pb.type pc.type true := hp2
                have hp3' : TpAt l tg pa.type pc.type true := hp3
                clear hp1 hp2 hp3 HTR HST HTU HSU
                go_region_held3 (fun w' => Below V.heap.size V w' ∧ w'.cell? ⟨wr.heap.size, 0, none⟩ = some (.int .i64 pa.type.kind) ∧ w'.cell? ⟨wr.heap.size, 1, none⟩ = some (.string pa.type.name) ∧ w'.cell? ⟨wr.heap.size, 2, none⟩ = some (.int .i64 pa.type.lo) ∧ w'.cell? ⟨wr.heap.size, 3, none⟩ = some (.int .i64 pa.type.hi) ∧ w'.cell? ⟨wr.heap.size, 4, none⟩ = some (.slice As pa.type.args.length cs) ∧ w'.cell? ⟨wr.heap.size + 1, 0, none⟩ = some (.int .i64 pb.type.kind) ∧ w'.cell? ⟨wr.heap.size + 1, 1, none⟩ = some (.string pb.type.name) ∧ w'.cell? ⟨wr.heap.size + 1, 2, none⟩ = some (.int .i64 pb.type.lo) ∧ w'.cell? ⟨wr.heap.size + 1, 3, none⟩ = some (.int .i64 pb.type.hi) ∧ w'.cell? ⟨wr.heap.size + 1, 4, none⟩ = some (.slice At pb.type.args.length ct) ∧ w'.cell? ⟨wr.heap.size + 2, 0, none⟩ = some (.int .i64 pc.type.kind) ∧ w'.cell? ⟨wr.heap.size + 2, 1, none⟩ = some (.string pc.type.name) ∧ w'.cell? ⟨wr.heap.size + 2, 2, none⟩ = some (.int .i64 pc.type.lo) ∧ w'.cell? ⟨wr.heap.size + 2, 3, none⟩ = some (.int .i64 pc.type.hi) ∧ w'.cell? ⟨wr.heap.size + 2, 4, none⟩ = some (.slice Au pc.type.args.length cu) ∧ w'.cell? ⟨b3, o3, none⟩ = some (.int .i64 tg.kind) ∧ w'.cell? ⟨b3, o3 + 1, none⟩ = some (.int .i64 tg.num) ∧ w'.cell? ⟨b3, o3 + 2, none⟩ = some (.string tg.name))
                  (first | exact ⟨(Below.refl _ V).drew, s0, s1, s2, s3, s4, t0, t1, t2, t3, t4, u0, u1, u2, u3, u4, v0, v1, v2⟩ | (go_split_ands; exact ⟨below_step (by assumption) hbu, cell_all (by assumption) hbu, cell_all (by assumption) hbu, cell_all (by assumption) hbu, cell_all (by assumption) hbu, cell_all (by assumption) hbu, cell_all (by assumption) hbu, cell_all (by assumption) hbu, cell_all (by assumption) hbu, cell_all (by assumption) hbu, cell_all (by assumption) hbu, cell_all (by assumption) hbu, cell_all (by assumption) hbu, cell_all (by assumption) hbu, cell_all (by assumption) hbu, cell_all (by assumption) hbu, cell_all (by assumption) hbu, cell_all (by assumption) hbu, cell_all (by assumption) hbu⟩))
                  (((go_at_call 27; refine (HTG.out _ _ _ _ _ _ _ _ (by assumption) (by assumption) (by assumption) (by go_split_ands; assumption)).mono ?_; rintro e U ⟨rfl, hbu⟩)))

                all_goals
                  have qe : Below V.heap.size V U := by go_split_ands; assumption
                  have qf := below_step QV qe
                  go_wp2
                  go_ret
                  exact ⟨rfl, qf⟩
end Go.Proofs.Ytepnmejahbiacaa
