/- skerrylaw10.MethodsBelow. -/
import Derived.Test.YtepnmejahbiacaaSn
import Derived.Test.YtepnmejahbiacaaWt
import Derived.Test.YtepnmejahbiacaaWh
import Derived.Deep.RegionHeld3
import Derived.Deep.DrawnRows
set_option linter.unusedVariables false
set_option linter.unusedSimpArgs false
namespace Go.Proofs.Ytepnmejahbiacaa
open Go.RowKit
attribute [local go_sem ↓] Go.wp_at_zero Go.wp_at_succ

/-- The place of a method, as a number. -/
def FndAt (ms : List Meth) (z : Int) (r : Nat) : Prop := findI ms z = (r : Int)

set_option maxHeartbeats 64000000 in
set_option maxRecDepth 100000 in
theorem belows_calls (AH : Option Addr) (cH : Nat) (l : List CI) (AM : Option Addr) (cM : Nat) (ms : List Meth) (AT : Option Addr) (cT : Nat) (ts : List Tag) (W : World) (q : Asks AH cH l AM ms AT ts W) :
    Calls Try.prog 8 #[.slice AH l.length cH, .slice AM ms.length cM, .slice AT ts.length cT] W fun e W' => e = .returned (.bool true) ∧ Below W.heap.size W W' := by
  have HQ := Lib.hid q
  have hn := q.hn
  have hts := q.hts
  obtain ⟨GM, hM⟩ := q.hM
  have HM := Lib.hid hM
  clear q hM
  have HIL : Hid ((applR l ms ts).1.length ≤ 1000000) := Lib.hid (by have := applR_len l ms ts; omega)
  have HAP := Lib.hid (fun V (hv : Below W.heap.size W V) => applicable_calls AH cH l AM cM ms AT cT ts V (HQ.out.keep hv))
  have HBP : Hid (checkAllE l ms ts = 0 → ∀ i k x y, (applR l ms ts).1[i]? = some x → (applR l ms ts).1[k]? = some y → ∃ (p s : Nat) (a b : Meth), findI ms x = p ∧ ms[p]? = some a ∧ findI ms y = s ∧ ms[s]? = some b ∧ a.pars.length = ts.length ∧ b.pars.length = ts.length ∧
      (allIn l a b ts.length = true → allIn l b a ts.length = false → precR l a b ts = true)) := Lib.hid (fun hz i k x y h1 h2 => below_prec hz h1 h2)
  obtain ⟨al, hal⟩ : ∃ al, (applR l ms ts).1 = al := ⟨_, rfl⟩
  obtain ⟨er, her⟩ : ∃ er, (applR l ms ts).2 = er := ⟨_, rfl⟩
  rw [hal, her] at HAP
  rw [hal] at HIL HBP
  have HER := Lib.hid her
  clear hal her
  have hal6 := HIL.out
  go_enter Try.func8, Try.ntmps8
  go_wp2_with (fail)
  refine (sane_calls _).mono ?_
  rintro e V0 ⟨rfl, q0⟩
  go_wp2_with (fail)
  refine (HAP.out V0 q0).mono ?_
  clear HAP
  rintro e V1 ⟨A1, c1, rfl, hi1, hb1⟩
  have q1 := below_step q0 hb1
  have HI1 := Lib.hid hi1
  clear hi1
  have HFE := Lib.hid (few_calls AM cM ms V1 _ (HM.out.all q1) HQ.out.hp)
  cases hfe : fewB ms with
  | false =>
    rw [hfe] at HFE
    clear hfe
    go_wp2_with (fail)
    refine HFE.out.mono ?_
    rintro e V2 ⟨rfl, hb2⟩
    have q2 := below_step q1 hb2
    go_wp2
    go_ret
    exact ⟨rfl, q2⟩
  | true =>
  rw [hfe] at HFE
  clear hfe
  by_cases hz : er = 0
  rotate_left
  · have t1 : (er != 0) = true := by rw [bne_iff_ne]; exact hz
    clear hz
    go_wp2_with (fail)
    refine HFE.out.mono ?_
    rintro e V2 ⟨rfl, hb2⟩
    have q2 := below_step q1 hb2
    go_wp2
    go_ret
    exact ⟨rfl, q2⟩
  have HBR := Lib.hid (HBP.out (by rw [← applR_err, HER.out]; exact hz))
  subst hz
  clear HER HBP
  go_wp2_with (fail)
  refine HFE.out.mono ?_
  clear HFE
  rintro e V2 ⟨rfl, hb2⟩
  have q2 := below_step q1 hb2
  have HI2 := Lib.hid (HI1.out.all hb2)
  clear HI1 hb1 hb2 q0 q1
  go_wp2_with (fail)
  go_loopw [10] (fun i wr => ∃ k : Nat, k ≤ al.length ∧ i = .int .i64 k ∧ Below V2.heap.size V2 wr) (fun i _ => al.length - (intOf i).toNat)
  case atStart => exact ⟨0, Nat.zero_le _, rfl, Below.refl _ _⟩
  case round =>
    obtain ⟨i, hi, rfl, hbr⟩ := hrel
    by_cases hil : i < al.length
    · go_wp2_with (fail)
      go_loopw [11] (fun k wr => ∃ j : Nat, j ≤ al.length ∧ k = .int .i64 j ∧ Below V2.heap.size V2 wr) (fun k _ => al.length - (intOf k).toNat)
      case atStart => exact ⟨0, Nat.zero_le _, rfl, hbr⟩
      case round =>
        obtain ⟨k, hk, rfl, hb4⟩ := hrel
        by_cases hkl : k < al.length
        · have qr := below_step q2 hb4
          have hx : al[i]? = some al[i] := List.getElem?_eq_getElem hil
          have hy : al[k]? = some al[k] := List.getElem?_eq_getElem hkl
          generalize al[i] = x at hx
          generalize al[k] = y at hy
          obtain ⟨p, s, a, b, e1, e2, e3, e4, la, lb, hpr⟩ := HBR.out i k x y hx hy
          obtain ⟨b1, o1, cs, rfl, _, hr, hc⟩ := HI2.out.now i x hx
          have e : cs = [.int .i64 x] := hr
          subst e
          have g0 : V2.cell? ⟨b1, o1 + i, none⟩ = some (.int .i64 x) := by simpa using hc 0 _ rfl
          obtain ⟨b1', o1', cs', e, _, hr', hc'⟩ := HI2.out.now k y hy
          cases e
          have e : cs' = [.int .i64 y] := hr'
          subst e
          have g1 : V2.cell? ⟨b1, o1 + k, none⟩ = some (.int .i64 y) := by simpa using hc' 0 _ rfl
          have g0w := cell_all g0 hb4
          have g1w := cell_all g1 hb4
          have hpl := (List.getElem?_eq_some_iff.1 e2).1
          have hsl := (List.getElem?_eq_some_iff.1 e4).1
          obtain ⟨bm, om, rfl⟩ := Slc.addrH HM.out (by omega)
          obtain ⟨Ap, cp, Aq, cq, p1, p2, p3, p4, m0, m1, m2, m3, m4, m5, m6, m7⟩ := Meths.atH (HM.out.all qr) e2
          obtain ⟨Bp, dp, Bq, dq, r1, r2, r3, r4, n0, n1, n2, n3, n4, n5, n6, n7⟩ := Meths.atH (HM.out.all qr) e4
          have HMS := Lib.hid (And.intro (List.mem_of_getElem? e2) (List.mem_of_getElem? e4))
          have HPR := Lib.hid hpr
          have HLA := Lib.hid la
          have HLB := Lib.hid lb
          have F1 : FndAt ms x p := e1
          have F2 : FndAt ms y s := e3
          have HFD : Hid (∀ z r V, FndAt ms z r → Below wr.heap.size wr V → Calls Try.prog 28 #[.slice (some ⟨bm, om, none⟩) ms.length cM, .int .i64 z] V fun e V' => e = .returned (.int .i64 (r : Int)) ∧ V = V') := Lib.hid (fun z r V hz hv => by
            refine (find_calls (some ⟨bm, om, none⟩) cM ms z V _ ((HM.out.all qr).all hv) hn).mono ?_
            rintro e V' ⟨rfl, rfl⟩
            exact ⟨by rw [show findI ms z = (r : Int) from hz], rfl⟩)
          have w4 : (0 : Int) ≤ (i : Int) := by omega
          have w5 : (0 : Int) ≤ (k : Int) := by omega
          have w6 : (0 : Int) ≤ (p : Int) := by omega
          have w7 : (0 : Int) ≤ (s : Int) := by omega
          have w8 : (i : Int) < (al.length : Int) := by omega
          have w9 : (k : Int) < (al.length : Int) := by omega
          have w10 : (p : Int) < (ms.length : Int) := by omega
          have w11 : (s : Int) < (ms.length : Int) := by omega
          have HP1 := Lib.hid (And.intro p1 (And.intro p2 (And.intro p3 p4)))
          have HR1 := Lib.hid (And.intro r1 (And.intro r2 (And.intro r3 r4)))
          clear hx hy hr hr' hc hc' e1 e2 e3 e4 la lb hpr g0 g1 p1 p2 p3 p4 r1 r2 r3 r4 hpl hsl
          go_wp2_with (fail)
          refine (HFD.out x p wr F1 (Below.refl _ _)).mono ?_
          rintro e V ⟨rfl, rfl⟩
          obtain ⟨oba, hoa⟩ : ∃ o, o = Obj.cells #[.int .i64 a.id, .string a.lib, .slice Ap a.pars.length cp, .int .i64 a.result.kind, .string a.result.name, .int .i64 a.result.lo, .int .i64 a.result.hi, .slice Aq a.result.args.length cq] 39 := ⟨_, rfl⟩
          obtain ⟨obb, hob⟩ : ∃ o, o = Obj.cells #[.int .i64 b.id, .string b.lib, .slice Bp b.pars.length dp, .int .i64 b.result.kind, .string b.result.name, .int .i64 b.result.lo, .int .i64 b.result.hi, .slice Bq b.result.args.length dq] 39 := ⟨_, rfl⟩
          have bA : Below wr.heap.size wr (wr.alloc oba) := (Below.refl _ wr).alloc (Nat.le_refl _) _
          have y1 := alloc_cell' (o := oba) g1w
          have yn0 := alloc_cell' (o := oba) n0
          have yn1 := alloc_cell' (o := oba) n1
          have yn2 := alloc_cell' (o := oba) n2
          have yn3 := alloc_cell' (o := oba) n3
          have yn4 := alloc_cell' (o := oba) n4
          have yn5 := alloc_cell' (o := oba) n5
          have yn6 := alloc_cell' (o := oba) n6
          have yn7 := alloc_cell' (o := oba) n7
          have za : (wr.alloc oba).heap.size = wr.heap.size + 1 := by simp
          have bV : Below wr.heap.size wr ((wr.alloc oba).alloc obb) := ((Below.refl _ wr).alloc (Nat.le_refl _) _).alloc (by omega) _
          have xa : ∀ j u, ([.int .i64 a.id, .string a.lib, .slice Ap a.pars.length cp, .int .i64 a.result.kind, .string a.result.name, .int .i64 a.result.lo, .int .i64 a.result.hi, .slice Aq a.result.args.length cq] : List Value)[j]? = some u → ((wr.alloc oba).alloc obb).cell? ⟨wr.heap.size, j, none⟩ = some u := fun j u hj => alloc_cell' (by rw [hoa]; exact cell_new wr _ _ _ rfl j u hj)
          have xb : ∀ j u, ([.int .i64 b.id, .string b.lib, .slice Bp b.pars.length dp, .int .i64 b.result.kind, .string b.result.name, .int .i64 b.result.lo, .int .i64 b.result.hi, .slice Bq b.result.args.length dq] : List Value)[j]? = some u → ((wr.alloc oba).alloc obb).cell? ⟨wr.heap.size + 1, j, none⟩ = some u := fun j u hj => by rw [hob]; exact cell_new (wr.alloc oba) _ _ _ za.symm j u hj
          have HW3 := Lib.hid (And.intro bV (And.intro xa xb))
          have HF2 := Lib.hid (HFD.out y s (wr.alloc oba) F2 bA)
          clear za bV xa xb bA HFD F1 F2
          subst hoa
          go_wp2_with (fail)
          refine HF2.out.mono ?_
          rintro e V ⟨rfl, rfl⟩
          clear HF2
          subst hob
          obtain ⟨V, hV⟩ : ∃ V, V = (wr.alloc (Obj.cells #[.int .i64 a.id, .string a.lib, .slice Ap a.pars.length cp, .int .i64 a.result.kind, .string a.result.name, .int .i64 a.result.lo, .int .i64 a.result.hi, .slice Aq a.result.args.length cq] 39)).alloc (Obj.cells #[.int .i64 b.id, .string b.lib, .slice Bp b.pars.length dp, .int .i64 b.result.kind, .string b.result.name, .int .i64 b.result.lo, .int .i64 b.result.hi, .slice Bq b.result.args.length dq] 39) := ⟨_, rfl⟩
          rw [← hV] at HW3
          have bV := HW3.out.1
          have qV := below_step qr bV
          have hb4V := below_step hb4 bV
          go_wp2_with (fail)
          rw [← hV]
          clear hV y1 yn0 yn1 yn2 yn3 yn4 yn5 yn6 yn7 m0 m1 m2 m3 m4 m5 m6 m7 n0 n1 n2 n3 n4 n5 n6 n7 g0w g1w w4 w5 w6 w7 w8 w9 w10 w11
          have XA := Lib.hid HW3.out.2.1
          have XB := Lib.hid HW3.out.2.2
          clear HW3
          have HWT : Hid (∀ (s t : Ty) (As At : Option Addr) (cs ct : Nat) Z U, Below V.heap.size V Z → TyIn Z s As cs → TyIn Z t At ct → Below Z.heap.size Z U → Calls Try.prog 29 #[.slice AH l.length cH, tyV s As cs, tyV t At ct] U fun e U' => e = .returned (.bool (withinR l s t)) ∧ Below U.heap.size U U') := Lib.hid (fun s t As At cs ct Z U hz z1 z2 hu => withinF_calls AH cH l s t As At cs ct U (HQ.out.hi.keep (below_step (below_step qV hz) hu)) (z1.keep hu) (z2.keep hu))
          have HPC : Hid (∀ U, Below V.heap.size V U → allIn l a b ts.length = true → allIn l b a ts.length = false → Calls Try.prog 26 #[.slice AH l.length cH, metV a Ap cp Aq cq, metV b Bp dp Bq dq, .slice AT ts.length cT] U fun e V' => e = .returned (.bool true) ∧ Below U.heap.size U V') := Lib.hid (fun U hu h1 h2 => by
            obtain ⟨GH, h⟩ := HQ.out.h
            obtain ⟨GT, hT⟩ := HQ.out.hT
            have qv := below_step qV hu
            have qw := below_step bV hu
            have MI1 : MetIn wr a Ap Aq cp cq := ⟨HP1.out.1, ⟨_, HP1.out.2.1⟩, HP1.out.2.2.1, ⟨_, HP1.out.2.2.2⟩, HQ.out.hs a HMS.out.1, HQ.out.hp a HMS.out.1⟩
            have MI2 : MetIn wr b Bp Bq dp dq := ⟨HR1.out.1, ⟨_, HR1.out.2.1⟩, HR1.out.2.2.1, ⟨_, HR1.out.2.2.2⟩, HQ.out.hs b HMS.out.2, HQ.out.hp b HMS.out.2⟩
            have := precedesF_calls AH cH l AT cT ts a b Ap Aq Bp Bq cp cq dp dq U GH GT (h.keep (Keep.all qv)) HQ.out.hcH HQ.out.ol HQ.out.hl (hT.keep (Keep.all qv)) HQ.out.hts (MI1.keep qw) (MI2.keep qw)
            rwa [HPR.out h1 h2] at this)
          have HPA : Hid (Held GM (Pars Ap a.pars) V) := Lib.hid (HP1.out.2.1.keep (Keep.all bV))
          have HPB : Hid (Held GM (Pars Bp b.pars) V) := Lib.hid (HR1.out.2.1.keep (Keep.all bV))
          have HTA : Hid (∀ x ∈ a.pars, TySmall x.type) := Lib.hid (HQ.out.hs a HMS.out.1)
          have HTB : Hid (∀ x ∈ b.pars, TySmall x.type) := Lib.hid (HQ.out.hs b HMS.out.2)
          clear HPR HP1 HR1 HMS
          obtain ⟨na, hna⟩ : ∃ n, n = wr.heap.size := ⟨_, rfl⟩
          rw [← hna] at XA XB ⊢
          clear hna bV qr hb4
          go_loopw [14, 15, 16] (fun x y i wr => ∃ j : Nat, j ≤ ts.length ∧ i = .int .i64 j ∧ x = .bool (allIn l a b j) ∧ y = .bool (allIn l b a j) ∧ Below V.heap.size V wr) (fun _ _ i _ => ts.length - (intOf i).toNat)
          case atStart => exact ⟨0, Nat.zero_le _, rfl, rfl, rfl, Below.refl _ _⟩
          case round =>
            obtain ⟨j, hj, rfl, rfl, rfl, hb6⟩ := hrel
            by_cases hjl : j < ts.length
            · have HJ := Lib.hid (show j + 1 ≤ ts.length from hjl)
              have hja : j < a.pars.length := by rw [HLA.out]; exact hjl
              have hjb : j < b.pars.length := by rw [HLB.out]; exact hjl
              have hpa : a.pars[j]? = some a.pars[j] := List.getElem?_eq_getElem hja
              have hpb : b.pars[j]? = some b.pars[j] := List.getElem?_eq_getElem hjb
              generalize a.pars[j] = pa at hpa
              generalize b.pars[j] = pb at hpb
              have HSA := Lib.hid (allIn_succ (l := l) hpa hpb)
              have HSB := Lib.hid (allIn_succ (l := l) hpb hpa)
              obtain ⟨ba, oa, rfl⟩ := Slc.addrH HPA.out (by rw [HLA.out]; omega)
              obtain ⟨bb, ob, rfl⟩ := Slc.addrH HPB.out (by rw [HLB.out]; omega)
              obtain ⟨Ta, ta, ta1, ta2, _, k2, k3, k4, k5, k6⟩ := Pars.atH (HPA.out.keep (Keep.all hb6)) hpa
              obtain ⟨Tb, tb, tb1, tb2, _, k7, k8, k9, k10, k11⟩ := Pars.atH (HPB.out.keep (Keep.all hb6)) hpb
              have TIa : TyIn wr pa.type Ta ta := ⟨ta1, ⟨_, ta2⟩, HTA.out pa (List.mem_of_getElem? hpa)⟩
              have TIb : TyIn wr pb.type Tb tb := ⟨tb1, ⟨_, tb2⟩, HTB.out pb (List.mem_of_getElem? hpb)⟩
              have k0 := cell_all (XA.out 2 _ rfl) hb6
              have k1 := cell_all (XB.out 2 _ rfl) hb6
              have w1 : (0 : Int) ≤ (j : Int) := by omega
              have w2 : (j : Int) < (a.pars.length : Int) := by rw [HLA.out]; omega
              have w3 : (j : Int) < (b.pars.length : Int) := by rw [HLB.out]; omega
              clear hpa hpb ta1 ta2 tb1 tb2
              cases hA : allIn l a b j with
              | false =>
                have SA := HSA.out
                rw [hA, Bool.false_and] at SA
                have HSA2 := Lib.hid SA
                clear hA SA
                go_wp2_with (fail)
                go_quiet (fail)
                generalize hq : wr.drewN _ = wq
                have hb5 : Below wr.heap.size wr wq := by rw [← hq]; exact drewN_below _ _ _
                clear hq
                have z0 := cell_all k0 hb5
                have z1 := cell_all k1 hb5
                have z2 := cell_all k2 hb5
                have z3 := cell_all k3 hb5
                have z4 := cell_all k4 hb5
                have z5 := cell_all k5 hb5
                have z6 := cell_all k6 hb5
                have z7 := cell_all k7 hb5
                have z8 := cell_all k8 hb5
                have z9 := cell_all k9 hb5
                have z10 := cell_all k10 hb5
                have z11 := cell_all k11 hb5
                cases hB : allIn l b a j with
                | false =>
                  have SB := HSB.out
                  rw [hB, Bool.false_and] at SB
                  have HSB2 := Lib.hid SB
                  clear hB SB
                  go_wp2_with (fail)
                  go_quiet (fail)
                  go_wp2
                  go_roundw
                  case rel => exact ⟨j + 1, HJ.out, by go_num, by rw [HSA2.out], by rw [HSB2.out], (below_step hb6 hb5).trans (drewN_below _ _ _)⟩
                  case measure => have := HJ.out; simp [intOf]; omega
                | true =>
                  have SB := HSB.out
                  rw [hB, Bool.true_and] at SB
                  have HSB2 := Lib.hid SB
                  clear hB SB
                  have HWB := Lib.hid (fun X (hu : Below wq.heap.size wq X) => HWT.out pb.type pa.type Tb Ta tb ta wr X hb6 TIb TIa (below_step hb5 hu))
                  go_wp2_with (fail)
                  go_region_held3 (fun w' => Below wq.heap.size wq w' ∧ w'.cell? ⟨na, 2, none⟩ = some (.slice (some ⟨ba, oa, none⟩) a.pars.length cp) ∧ w'.cell? ⟨na + 1, 2, none⟩ = some (.slice (some ⟨bb, ob, none⟩) b.pars.length dp) ∧ w'.cell? ⟨ba, oa + j * 6 + 1, none⟩ = some (.int .i64 pa.type.kind) ∧ w'.cell? ⟨ba, oa + j * 6 + 1 + 1, none⟩ = some (.string pa.type.name) ∧ w'.cell? ⟨ba, oa + j * 6 + 1 + 2, none⟩ = some (.int .i64 pa.type.lo) ∧ w'.cell? ⟨ba, oa + j * 6 + 1 + 3, none⟩ = some (.int .i64 pa.type.hi) ∧ w'.cell? ⟨ba, oa + j * 6 + 1 + 4, none⟩ = some (.slice Ta pa.type.args.length ta) ∧ w'.cell? ⟨bb, ob + j * 6 + 1, none⟩ = some (.int .i64 pb.type.kind) ∧ w'.cell? ⟨bb, ob + j * 6 + 1 + 1, none⟩ = some (.string pb.type.name) ∧ w'.cell? ⟨bb, ob + j * 6 + 1 + 2, none⟩ = some (.int .i64 pb.type.lo) ∧ w'.cell? ⟨bb, ob + j * 6 + 1 + 3, none⟩ = some (.int .i64 pb.type.hi) ∧ w'.cell? ⟨bb, ob + j * 6 + 1 + 4, none⟩ = some (.slice Tb pb.type.args.length tb))
                    (first | exact ⟨(Below.refl _ wq).drew, z0, z1, z2, z3, z4, z5, z6, z7, z8, z9, z10, z11⟩ | (go_split_ands; exact ⟨below_step (by assumption) hbu2, cell_all (by assumption) hbu2, cell_all (by assumption) hbu2, cell_all (by assumption) hbu2, cell_all (by assumption) hbu2, cell_all (by assumption) hbu2, cell_all (by assumption) hbu2, cell_all (by assumption) hbu2, cell_all (by assumption) hbu2, cell_all (by assumption) hbu2, cell_all (by assumption) hbu2, cell_all (by assumption) hbu2, cell_all (by assumption) hbu2⟩))
                    ((go_at_call 29; refine (HWB.out _ (by go_split_ands; assumption)).mono ?_; rintro e U2 ⟨rfl, hbu2⟩))
                  have hb7 : Below wq.heap.size wq U2 := by go_split_ands; assumption
                  go_split_ands
                  clear HWB
                  go_wp2
                  go_roundw
                  case rel => exact ⟨j + 1, HJ.out, by go_num, by rw [HSA2.out], by rw [HSB2.out], below_step (below_step hb6 hb5) hb7⟩
                  case measure => have := HJ.out; simp [intOf]; omega
              | true =>
                have SA := HSA.out
                rw [hA, Bool.true_and] at SA
                have HSA2 := Lib.hid SA
                clear hA SA
                have HWA := Lib.hid (fun U (hu : Below wr.heap.size wr U) => HWT.out pa.type pb.type Ta Tb ta tb wr U hb6 TIa TIb hu)
                go_wp2_with (fail)
                go_region_held3 (fun w' => Below wr.heap.size wr w' ∧ w'.cell? ⟨na, 2, none⟩ = some (.slice (some ⟨ba, oa, none⟩) a.pars.length cp) ∧ w'.cell? ⟨na + 1, 2, none⟩ = some (.slice (some ⟨bb, ob, none⟩) b.pars.length dp) ∧ w'.cell? ⟨ba, oa + j * 6 + 1, none⟩ = some (.int .i64 pa.type.kind) ∧ w'.cell? ⟨ba, oa + j * 6 + 1 + 1, none⟩ = some (.string pa.type.name) ∧ w'.cell? ⟨ba, oa + j * 6 + 1 + 2, none⟩ = some (.int .i64 pa.type.lo) ∧ w'.cell? ⟨ba, oa + j * 6 + 1 + 3, none⟩ = some (.int .i64 pa.type.hi) ∧ w'.cell? ⟨ba, oa + j * 6 + 1 + 4, none⟩ = some (.slice Ta pa.type.args.length ta) ∧ w'.cell? ⟨bb, ob + j * 6 + 1, none⟩ = some (.int .i64 pb.type.kind) ∧ w'.cell? ⟨bb, ob + j * 6 + 1 + 1, none⟩ = some (.string pb.type.name) ∧ w'.cell? ⟨bb, ob + j * 6 + 1 + 2, none⟩ = some (.int .i64 pb.type.lo) ∧ w'.cell? ⟨bb, ob + j * 6 + 1 + 3, none⟩ = some (.int .i64 pb.type.hi) ∧ w'.cell? ⟨bb, ob + j * 6 + 1 + 4, none⟩ = some (.slice Tb pb.type.args.length tb))
                  (first | exact ⟨(Below.refl _ wr).drew, k0, k1, k2, k3, k4, k5, k6, k7, k8, k9, k10, k11⟩ | (go_split_ands; exact ⟨below_step (by assumption) hbu, cell_all (by assumption) hbu, cell_all (by assumption) hbu, cell_all (by assumption) hbu, cell_all (by assumption) hbu, cell_all (by assumption) hbu, cell_all (by assumption) hbu, cell_all (by assumption) hbu, cell_all (by assumption) hbu, cell_all (by assumption) hbu, cell_all (by assumption) hbu, cell_all (by assumption) hbu, cell_all (by assumption) hbu⟩))
                  ((go_at_call 29; refine (HWA.out _ (by go_split_ands; assumption)).mono ?_; rintro e U ⟨rfl, hbu⟩))
                have hb5 : Below wr.heap.size wr U := by go_split_ands; assumption
                go_split_ands
                clear HWA
                have z0 := cell_all k0 hb5
                have z1 := cell_all k1 hb5
                have z2 := cell_all k2 hb5
                have z3 := cell_all k3 hb5
                have z4 := cell_all k4 hb5
                have z5 := cell_all k5 hb5
                have z6 := cell_all k6 hb5
                have z7 := cell_all k7 hb5
                have z8 := cell_all k8 hb5
                have z9 := cell_all k9 hb5
                have z10 := cell_all k10 hb5
                have z11 := cell_all k11 hb5
                cases hB : allIn l b a j with
                | false =>
                  have SB := HSB.out
                  rw [hB, Bool.false_and] at SB
                  have HSB2 := Lib.hid SB
                  clear hB SB
                  go_wp2_with (fail)
                  go_quiet (fail)
                  go_wp2
                  go_roundw
                  case rel => exact ⟨j + 1, HJ.out, by go_num, by rw [HSA2.out], by rw [HSB2.out], (below_step hb6 hb5).trans (drewN_below _ _ _)⟩
                  case measure => have := HJ.out; simp [intOf]; omega
                | true =>
                  have SB := HSB.out
                  rw [hB, Bool.true_and] at SB
                  have HSB2 := Lib.hid SB
                  clear hB SB
                  have HWB := Lib.hid (fun X (hu : Below U.heap.size U X) => HWT.out pb.type pa.type Tb Ta tb ta wr X hb6 TIb TIa (below_step hb5 hu))
                  go_wp2_with (fail)
                  go_region_held3 (fun w' => Below U.heap.size U w' ∧ w'.cell? ⟨na, 2, none⟩ = some (.slice (some ⟨ba, oa, none⟩) a.pars.length cp) ∧ w'.cell? ⟨na + 1, 2, none⟩ = some (.slice (some ⟨bb, ob, none⟩) b.pars.length dp) ∧ w'.cell? ⟨ba, oa + j * 6 + 1, none⟩ = some (.int .i64 pa.type.kind) ∧ w'.cell? ⟨ba, oa + j * 6 + 1 + 1, none⟩ = some (.string pa.type.name) ∧ w'.cell? ⟨ba, oa + j * 6 + 1 + 2, none⟩ = some (.int .i64 pa.type.lo) ∧ w'.cell? ⟨ba, oa + j * 6 + 1 + 3, none⟩ = some (.int .i64 pa.type.hi) ∧ w'.cell? ⟨ba, oa + j * 6 + 1 + 4, none⟩ = some (.slice Ta pa.type.args.length ta) ∧ w'.cell? ⟨bb, ob + j * 6 + 1, none⟩ = some (.int .i64 pb.type.kind) ∧ w'.cell? ⟨bb, ob + j * 6 + 1 + 1, none⟩ = some (.string pb.type.name) ∧ w'.cell? ⟨bb, ob + j * 6 + 1 + 2, none⟩ = some (.int .i64 pb.type.lo) ∧ w'.cell? ⟨bb, ob + j * 6 + 1 + 3, none⟩ = some (.int .i64 pb.type.hi) ∧ w'.cell? ⟨bb, ob + j * 6 + 1 + 4, none⟩ = some (.slice Tb pb.type.args.length tb))
                    (first | exact ⟨(Below.refl _ U).drew, z0, z1, z2, z3, z4, z5, z6, z7, z8, z9, z10, z11⟩ | (go_split_ands; exact ⟨below_step (by assumption) hbu2, cell_all (by assumption) hbu2, cell_all (by assumption) hbu2, cell_all (by assumption) hbu2, cell_all (by assumption) hbu2, cell_all (by assumption) hbu2, cell_all (by assumption) hbu2, cell_all (by assumption) hbu2, cell_all (by assumption) hbu2, cell_all (by assumption) hbu2, cell_all (by assumption) hbu2, cell_all (by assumption) hbu2, cell_all (by assumption) hbu2⟩))
                    ((go_at_call 29; refine (HWB.out _ (by go_split_ands; assumption)).mono ?_; rintro e U2 ⟨rfl, hbu2⟩))
                  have hb7 : Below U.heap.size U U2 := by go_split_ands; assumption
                  go_split_ands
                  clear HWB
                  go_wp2
                  go_roundw
                  case rel => exact ⟨j + 1, HJ.out, by go_num, by rw [HSA2.out], by rw [HSB2.out], below_step (below_step hb6 hb5) hb7⟩
                  case measure => have := HJ.out; simp [intOf]; omega
            · obtain rfl : j = ts.length := by omega
              cases hA : allIn l a b ts.length with
              | false =>
                clear hA
                go_wp2
                exact ⟨⟨k + 1, by omega, by go_num, below_step hb4V hb6⟩, by simp [intOf]; omega⟩
              | true =>
                cases hB : allIn l b a ts.length with
                | true =>
                  clear hA hB
                  go_wp2
                  exact ⟨⟨k + 1, by omega, by go_num, below_step hb4V hb6⟩, by simp [intOf]; omega⟩
                | false =>
                  have HPD := Lib.hid (HPC.out wr hb6 hA hB)
                  have a0 := cell_all (XA.out 0 _ rfl) hb6
                  have a1 := cell_all (XA.out 1 _ rfl) hb6
                  have a2 := cell_all (XA.out 2 _ rfl) hb6
                  have a3 := cell_all (XA.out 3 _ rfl) hb6
                  have a4 := cell_all (XA.out 4 _ rfl) hb6
                  have a5 := cell_all (XA.out 5 _ rfl) hb6
                  have a6 := cell_all (XA.out 6 _ rfl) hb6
                  have a7 := cell_all (XA.out 7 _ rfl) hb6
                  have d0 := cell_all (XB.out 0 _ rfl) hb6
                  have d1 := cell_all (XB.out 1 _ rfl) hb6
                  have d2 := cell_all (XB.out 2 _ rfl) hb6
                  have d3 := cell_all (XB.out 3 _ rfl) hb6
                  have d4 := cell_all (XB.out 4 _ rfl) hb6
                  have d5 := cell_all (XB.out 5 _ rfl) hb6
                  have d6 := cell_all (XB.out 6 _ rfl) hb6
                  have d7 := cell_all (XB.out 7 _ rfl) hb6
                  clear hA hB HPC HWT
                  go_wp2_with (fail)
                  refine HPD.out.mono ?_
                  rintro e U ⟨rfl, hbu⟩
                  have hbw := below_step (below_step hb4V hb6) hbu
                  go_wp2
                  exact ⟨⟨k + 1, by omega, by go_num, hbw⟩, by simp [intOf]; omega⟩
        · obtain rfl : k = al.length := by omega
          go_wp2
          exact ⟨⟨i + 1, by omega, by go_num, hb4⟩, by simp [intOf]; omega⟩
    · obtain rfl : i = al.length := by omega
      have qr := below_step q2 hbr
      go_wp2
      go_ret
      exact ⟨rfl, qr⟩
end Go.Proofs.Ytepnmejahbiacaa
