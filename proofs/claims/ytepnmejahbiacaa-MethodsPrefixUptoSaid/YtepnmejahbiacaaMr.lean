/- skerrylaw10.MethodsPrefix. -/
import Derived.Test.YtepnmejahbiacaaSn
import Derived.Test.YtepnmejahbiacaaWt
import Derived.Test.YtepnmejahbiacaaPb
import Derived.Deep.RegionHeld3
import Derived.Deep.DrawnRows
set_option linter.unusedVariables false
set_option linter.unusedSimpArgs false
namespace Go.Proofs.Ytepnmejahbiacaa
open Go.RowKit
attribute [local go_sem ↓] Go.wp_at_zero Go.wp_at_succ

/-- A list that reads, and whether a number is in it. -/
def HasAt (w : World) (A : Option Addr) (n : Nat) (x : Int) (r : Bool) : Prop := ∃ l G, l.length = n ∧ hasI l x = r ∧ Held G (Ints A l) w ∧ n ≤ 1000000
theorem hasInt_of (w U : World) (hu : Drw w U) (A : Option Addr) (c n : Nat) (x : Int) (r : Bool) (h : HasAt w A n x r) :
    Calls Try.prog 25 #[.slice A n c, .int .i64 x] U fun e w' => e = .returned (.bool r) ∧ U = w' := by
  obtain ⟨l, G, rfl, rfl, h, hl⟩ := h
  obtain ⟨m, rfl⟩ := hu
  refine (hasInt_calls A c l x (w.drewN m) (h.keep (Keep.drewN _ _ _)).now hl).mono ?_
  rintro e w' ⟨rfl, rfl⟩
  exact ⟨rfl, rfl⟩

/-- The place of a method, as a number. -/
def FiAt (ms : List Meth) (z : Int) (r : Nat) : Prop := findI ms z = (r : Int)

set_option maxHeartbeats 64000000 in
set_option maxRecDepth 100000 in
theorem prefixed_calls (AH : Option Addr) (cH : Nat) (l : List CI) (AM : Option Addr) (cM : Nat) (ms : List Meth) (AT : Option Addr) (cT : Nat) (ts : List Tag) (W : World) (q : Asks AH cH l AM ms AT ts W) :
    Calls Try.prog 7 #[.slice AH l.length cH, .slice AM ms.length cM, .slice AT ts.length cT] W fun e W' => e = .returned (.bool true) ∧ Below W.heap.size W W' := by
  have HQ := Lib.hid q
  have hn := q.hn
  obtain ⟨GM, hM⟩ := q.hM
  have HM := Lib.hid hM
  clear q hM
  have HAP := Lib.hid (fun V (hv : Below W.heap.size W V) => applicable_calls AH cH l AM cM ms AT cT ts V (HQ.out.keep hv))
  have HOC : Hid (∀ V, Below W.heap.size W V → Calls Try.prog 16 #[.slice AH l.length cH, .slice AM ms.length cM, .slice AT ts.length cT] V fun e W' => ∃ A' c', e = .returned (.tuple #[.slice A' (orderR l ms ts).1.length c', .bool (orderR l ms ts).2]) ∧ (orderR l ms ts).1.length ≤ c' ∧ Held (fun b => b < W'.heap.size) (Ints A' (orderR l ms ts).1) W' ∧ Below V.heap.size V W') := Lib.hid (fun V qv => by
    refine (order_calls AH cH l AM cM ms AT cT ts V (HQ.out.keep qv)).mono ?_
    rintro e W' ⟨v, rfl, ho, hb⟩
    obtain ⟨A', c', rfl, hc, h2⟩ := ho.out
    exact ⟨A', c', rfl, hc, h2.mono fun b hb _ => hb, hb⟩)
  go_enter Try.func7, Try.ntmps7
  go_wp2_with (fail)
  refine (sane_calls _).mono ?_
  rintro e V0 ⟨rfl, q0⟩
  have HFE := Lib.hid (few_calls AM cM ms V0 _ (HM.out.all q0) HQ.out.hp)
  cases hfe : fewB ms with
  | false =>
    rw [hfe] at HFE
    clear hfe
    go_wp2_with (fail)
    refine HFE.out.mono ?_
    rintro e V2 ⟨rfl, hb2⟩
    have q2 := below_step q0 hb2
    go_wp2
    go_ret
    exact ⟨rfl, q2⟩
  | true =>
  rw [hfe] at HFE
  clear hfe
  go_wp2_with (fail)
  refine HFE.out.mono ?_
  clear HFE
  rintro e V1 ⟨rfl, hb1⟩
  have q1 := below_step q0 hb1
  by_cases hz : checkAllE l ms ts = 0
  rotate_left
  · have hb := applR_bad hz
    have ho := pref_none hz
    have t1 : (checkAllE l ms ts != 0) = true := by rw [bne_iff_ne]; exact hz
    rw [hb] at HAP
    rw [ho] at HOC
    clear hb ho hz
    generalize checkAllE l ms ts = ce at HAP t1
    go_wp2_with (fail)
    refine (HAP.out V1 q1).mono ?_
    clear HAP
    rintro e V2 ⟨A1, c1, rfl, _, hb2⟩
    have q2 := below_step q1 hb2
    go_wp2_with (fail)
    refine (HOC.out V2 q2).mono ?_
    clear HOC
    rintro e V3 ⟨A2, c2, rfl, _, _, hb3⟩
    have q3 := below_step q2 hb3
    go_wp2
    go_ret
    exact ⟨rfl, q3⟩
  have HZ := Lib.hid hz
  obtain ⟨al, hal⟩ : ∃ al, (applR l ms ts).1 = al := ⟨_, rfl⟩
  obtain ⟨oi, hoi⟩ : ∃ oi, (orderR l ms ts).1 = oi := ⟨_, rfl⟩
  obtain ⟨ob, hob⟩ : ∃ ob, (orderR l ms ts).2 = ob := ⟨_, rfl⟩
  have he0 : (applR l ms ts).2 = 0 := by rw [applR_err, hz]
  have HIN : Hid (∀ i x, oi[i]? = some x → hasI al x = true ∧ hasI (oi.take i) x = false) := Lib.hid (fun i x h => by rw [← hal, ← hoi] at *; exact pref_in hz h)
  have HPP : Hid (∀ i k x y, oi[i]? = some x → al[k]? = some y → hasI (oi.take (i + 1)) y = false → ∃ (p s : Nat) (a b : Meth), findI ms x = p ∧ ms[p]? = some a ∧ findI ms y = s ∧ ms[s]? = some b ∧ precR l a b ts = true) :=
    Lib.hid (fun i k x y h1 h2 h3 => by rw [← hoi] at h1 h3; rw [← hal] at h2; exact pref_prec hz h1 h2 h3)
  have hlen := pref_len hz
  rw [hal, hoi, hob] at hlen
  have hal6 : al.length ≤ 1000000 := by rw [← hal]; have := applR_len l ms ts; omega
  rw [hal, he0] at HAP
  rw [hoi, hob] at HOC
  obtain ⟨hle, hobe⟩ := hlen
  have HOBE := Lib.hid hobe
  clear hz hal hoi hob he0 hobe
  go_wp2_with (fail)
  refine (HAP.out V1 q1).mono ?_
  clear HAP
  rintro e V2 ⟨A1, c1, rfl, hi1, hb2⟩
  have q2 := below_step q1 hb2
  have HI1 := Lib.hid hi1
  clear hi1
  go_wp2_with (fail)
  refine (HOC.out V2 q2).mono ?_
  clear HOC
  rintro e V3 ⟨A2, c2, rfl, hc2, hi2, hb3⟩
  have q3 := below_step q2 hb3
  have HI2 := Lib.hid hi2
  have HI1' := Lib.hid (HI1.out.all hb3)
  clear hi2 HI1
  have hleN : ¬ al.length < oi.length := by omega
  obtain rfl := HOBE.out
  clear HOBE
  go_wp2_with (fail)
  go_loopw [12] (fun i wr => ∃ k : Nat, k ≤ oi.length ∧ i = .int .i64 k ∧ Below V3.heap.size V3 wr) (fun i _ => oi.length - (intOf i).toNat)
  case atStart => exact ⟨0, Nat.zero_le _, rfl, Below.refl _ _⟩
  case round =>
    obtain ⟨i, hi, rfl, hbr⟩ := hrel
    have qr := below_step q3 hbr
    by_cases hil : i < oi.length
    · have hx : oi[i]? = some oi[i] := List.getElem?_eq_getElem hil
      generalize oi[i] = x at hx
      have HX := Lib.hid hx
      obtain ⟨b2, o2, cs, rfl, _, hr, hc⟩ := HI2.out.now i x hx
      have e : cs = [.int .i64 x] := hr
      subst e
      have g0 : V3.cell? ⟨b2, o2 + i, none⟩ = some (.int .i64 x) := by simpa using hc 0 _ rfl
      have G0 := Lib.hid g0
      have g0w := cell_all g0 hbr
      have hin := HIN.out i x hx
      have HH1 : HasAt wr A1 al.length x true := ⟨al, _, rfl, hin.1, HI1'.out.all hbr, hal6⟩
      have HH2 : HasAt wr (some ⟨b2, o2, none⟩) i x false := ⟨oi.take i, _, by rw [List.length_take]; omega, hin.2, (HI2.out.all hbr).imp fun _ _ q => Slc.take q i, by omega⟩
      have hic : i ≤ c2 := by omega
      have hic1 : i + 1 ≤ c2 := by omega
      clear hx hr hc g0 hin
      go_wp2
      go_quiet ((go_at_call 25; refine (hasInt_of wr _ (by first | exact Drw.of _ _ | exact (Drw.of _ _).drewN _) _ _ _ _ _ (by assumption)).mono ?_; exact fun _ _ ⟨a, b⟩ => ⟨a, _, b.symm⟩))
      clear HH1 HH2 g0w
      go_wp2_with (fail)
      go_loopw [13] (fun k wr => ∃ j : Nat, j ≤ al.length ∧ k = .int .i64 j ∧ Below V3.heap.size V3 wr) (fun k _ => al.length - (intOf k).toNat)
      case atStart => exact ⟨0, Nat.zero_le _, rfl, hbr.trans (drewN_below _ _ _)⟩
      case round =>
        obtain ⟨k, hk, rfl, hb4⟩ := hrel
        have qr4 := below_step q3 hb4
        by_cases hkl : k < al.length
        · have hy : al[k]? = some al[k] := List.getElem?_eq_getElem hkl
          generalize al[k] = y at hy
          have HY := Lib.hid hy
          obtain ⟨b1, o1, cs1, rfl, _, hr, hc⟩ := HI1'.out.now k y hy
          have e : cs1 = [.int .i64 y] := hr
          subst e
          have g1 : V3.cell? ⟨b1, o1 + k, none⟩ = some (.int .i64 y) := by simpa using hc 0 _ rfl
          have g1w := cell_all g1 hb4
          have g0w := cell_all G0.out hb4
          clear hy hr hc g1
          cases hh : hasI (oi.take (i + 1)) y with
          | true =>
            have HH3 : HasAt wr (some ⟨b2, o2, none⟩) (i + 1) y true := ⟨oi.take (i + 1), _, by rw [List.length_take]; omega, hh, (HI2.out.all hb4).imp fun _ _ q => Slc.take q (i + 1), by omega⟩
            clear hh
            go_wp2
            go_quiet ((go_at_call 25; refine (hasInt_of wr _ (by first | exact Drw.of _ _ | exact (Drw.of _ _).drewN _) _ _ _ _ _ (by assumption)).mono ?_; exact fun _ _ ⟨a, b⟩ => ⟨a, _, b.symm⟩))
            clear HH3
            go_wp2
            exact ⟨⟨k + 1, by omega, by go_num, hb4.trans (drewN_below _ _ _)⟩, by simp [intOf]; omega⟩
          | false =>
            obtain ⟨p, s, a, b, e1, e2, e3, e4, hpr⟩ := HPP.out i k x y HX.out HY.out hh
            have hpl := (List.getElem?_eq_some_iff.1 e2).1
            have hsl := (List.getElem?_eq_some_iff.1 e4).1
            obtain ⟨bm, om, rfl⟩ := Slc.addrH HM.out (by omega)
            obtain ⟨Ap, cp, Aq, cq, p1, p2, p3, p4, m0, m1, m2, m3, m4, m5, m6, m7⟩ := Meths.atH (HM.out.all qr4) e2
            obtain ⟨Bp, dp, Bq, dq, r1, r2, r3, r4, n0, n1, n2, n3, n4, n5, n6, n7⟩ := Meths.atH (HM.out.all qr4) e4
            have MI1 : MetIn wr a Ap Aq cp cq := ⟨p1, ⟨_, p2⟩, p3, ⟨_, p4⟩, HQ.out.hs a (List.mem_of_getElem? e2), HQ.out.hp a (List.mem_of_getElem? e2)⟩
            have MI2 : MetIn wr b Bp Bq dp dq := ⟨r1, ⟨_, r2⟩, r3, ⟨_, r4⟩, HQ.out.hs b (List.mem_of_getElem? e4), HQ.out.hp b (List.mem_of_getElem? e4)⟩
            have HPC : Hid (∀ V, Below wr.heap.size wr V → Calls Try.prog 26 #[.slice AH l.length cH, metV a Ap cp Aq cq, metV b Bp dp Bq dq, .slice AT ts.length cT] V fun e V' => e = .returned (.bool true) ∧ Below V.heap.size V V') := Lib.hid (fun V hv => by
              obtain ⟨GH, h⟩ := HQ.out.h
              obtain ⟨GT, hT⟩ := HQ.out.hT
              have qv := below_step qr4 hv
              have := precedesF_calls AH cH l AT cT ts a b Ap Aq Bp Bq cp cq dp dq V GH GT (h.keep (Keep.all qv)) HQ.out.hcH HQ.out.ol HQ.out.hl (hT.keep (Keep.all qv)) HQ.out.hts (MI1.keep hv) (MI2.keep hv)
              rwa [hpr] at this)
            have HHS : Hid (∀ V, Below wr.heap.size wr V → Calls Try.prog 25 #[.slice (some ⟨b2, o2, none⟩) (i + 1) c2, .int .i64 y] V fun e V' => e = .returned (.bool false) ∧ Below V.heap.size V V') := Lib.hid (fun V hv => by
              have HA : HasAt V (some ⟨b2, o2, none⟩) (i + 1) y false := ⟨oi.take (i + 1), _, by rw [List.length_take]; omega, hh, ((HI2.out.all hb4).all hv).imp fun _ _ q => Slc.take q (i + 1), by omega⟩
              refine (hasInt_of V V ⟨0, rfl⟩ _ c2 _ _ _ HA).mono ?_
              rintro e V' ⟨rfl, rfl⟩
              exact ⟨rfl, Below.refl _ _⟩)
            have HFD : Hid (∀ z r V, FiAt ms z r → Below wr.heap.size wr V → Calls Try.prog 28 #[.slice (some ⟨bm, om, none⟩) ms.length cM, .int .i64 z] V fun e V' => e = .returned (.int .i64 (r : Int)) ∧ Below V.heap.size V V') := Lib.hid (fun z r V hz hv => by
              refine (find_calls (some ⟨bm, om, none⟩) cM ms z V _ ((HM.out.all qr4).all hv) hn).mono ?_
              rintro e V' ⟨rfl, rfl⟩
              exact ⟨by rw [show findI ms z = (r : Int) from hz], Below.refl _ _⟩)
            have F1 : FiAt ms x p := e1
            have F2 : FiAt ms y s := e3
            have w1 : IntKind.i64.wrap ((i : Int) + 1) = (i : Int) + 1 := by first | exact wrap64_in _ ⟨by omega, by omega⟩ | (simp [IntKind.wrap, IntKind.bits, IntKind.signed]; omega)
            have w2 : (0 : Int) ≤ (i : Int) + 1 := by omega
            have w3 : (i : Int) + 1 ≤ (c2 : Int) := by omega
            have w4 : (0 : Int) ≤ (i : Int) := by omega
            have w5 : (0 : Int) ≤ (k : Int) := by omega
            have w6 : (0 : Int) ≤ (p : Int) := by omega
            have w7 : (0 : Int) ≤ (s : Int) := by omega
            have w8 : (i : Int) < (oi.length : Int) := by omega
            have w9 : (k : Int) < (al.length : Int) := by omega
            have w10 : (p : Int) < (ms.length : Int) := by omega
            have w11 : (s : Int) < (ms.length : Int) := by omega
            have w12 : ((i : Int) + 1).toNat = i + 1 := by omega
            clear e1 e2 e3 e4 hpr hh MI1 MI2 p1 p2 p3 p4 r1 r2 r3 r4
            go_wp2
            go_region_held3 (fun w' => Below wr.heap.size wr w' ∧ w'.cell? ⟨b2, o2 + i, none⟩ = some (.int .i64 x) ∧ w'.cell? ⟨b1, o1 + k, none⟩ = some (.int .i64 y) ∧ w'.cell? ⟨bm, om + p * 8, none⟩ = some (.int .i64 a.id) ∧ w'.cell? ⟨bm, om + p * 8 + 1, none⟩ = some (.string a.lib) ∧ w'.cell? ⟨bm, om + p * 8 + 2, none⟩ = some (.slice Ap a.pars.length cp) ∧ w'.cell? ⟨bm, om + p * 8 + 3, none⟩ = some (.int .i64 a.result.kind) ∧ w'.cell? ⟨bm, om + p * 8 + 4, none⟩ = some (.string a.result.name) ∧ w'.cell? ⟨bm, om + p * 8 + 5, none⟩ = some (.int .i64 a.result.lo) ∧ w'.cell? ⟨bm, om + p * 8 + 6, none⟩ = some (.int .i64 a.result.hi) ∧ w'.cell? ⟨bm, om + p * 8 + 7, none⟩ = some (.slice Aq a.result.args.length cq) ∧ w'.cell? ⟨bm, om + s * 8, none⟩ = some (.int .i64 b.id) ∧ w'.cell? ⟨bm, om + s * 8 + 1, none⟩ = some (.string b.lib) ∧ w'.cell? ⟨bm, om + s * 8 + 2, none⟩ = some (.slice Bp b.pars.length dp) ∧ w'.cell? ⟨bm, om + s * 8 + 3, none⟩ = some (.int .i64 b.result.kind) ∧ w'.cell? ⟨bm, om + s * 8 + 4, none⟩ = some (.string b.result.name) ∧ w'.cell? ⟨bm, om + s * 8 + 5, none⟩ = some (.int .i64 b.result.lo) ∧ w'.cell? ⟨bm, om + s * 8 + 6, none⟩ = some (.int .i64 b.result.hi) ∧ w'.cell? ⟨bm, om + s * 8 + 7, none⟩ = some (.slice Bq b.result.args.length dq))
              (first | exact ⟨(Below.refl _ wr).drew, g0w, g1w, m0, m1, m2, m3, m4, m5, m6, m7, n0, n1, n2, n3, n4, n5, n6, n7⟩ | (go_split_ands; exact ⟨below_step (by assumption) hbv, cell_all (by assumption) hbv, cell_all (by assumption) hbv, cell_all (by assumption) hbv, cell_all (by assumption) hbv, cell_all (by assumption) hbv, cell_all (by assumption) hbv, cell_all (by assumption) hbv, cell_all (by assumption) hbv, cell_all (by assumption) hbv, cell_all (by assumption) hbv, cell_all (by assumption) hbv, cell_all (by assumption) hbv, cell_all (by assumption) hbv, cell_all (by assumption) hbv, cell_all (by assumption) hbv, cell_all (by assumption) hbv, cell_all (by assumption) hbv, cell_all (by assumption) hbv⟩))
              ((first | (go_at_call 25; refine (HHS.out _ (by go_split_ands; assumption)).mono ?_; rintro e V ⟨rfl, hbv⟩) | (go_at_call 28; refine (HFD.out _ _ _ (by assumption) (by go_split_ands; assumption)).mono ?_; rintro e V ⟨rfl, hbv⟩) | (go_at_call 26; refine (HPC.out _ (by go_split_ands; assumption)).mono ?_; rintro e V ⟨rfl, hbv⟩)))
            all_goals clear HHS HFD HPC
            all_goals go_wp2
            all_goals go_roundw
            case rel =>
              exact ⟨k + 1, by omega, by go_num, below_step hb4 (by go_split_ands; assumption)⟩
            case measure => simp [intOf]; omega
        · obtain rfl : k = al.length := by omega
          go_wp2
          exact ⟨⟨i + 1, by omega, by go_num, hb4⟩, by simp [intOf]; omega⟩
    · obtain rfl : i = oi.length := by omega
      go_wp2
      go_ret
      exact ⟨rfl, qr⟩
end Go.Proofs.Ytepnmejahbiacaa
