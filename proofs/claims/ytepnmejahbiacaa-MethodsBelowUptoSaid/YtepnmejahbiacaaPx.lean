/- methods.call.precedes. -/
import Derived.Test.YtepnmejahbiacaaCx
import Derived.Test.YtepnmejahbiacaaFi
set_option linter.unusedVariables false
set_option linter.unusedSimpArgs false
namespace Go.Proofs.Ytepnmejahbiacaa
open Go.RowKit

theorem precB_true {l : List CI} {ts : List Tag} {a b : Meth} (h : ∀ j, j < a.pars.length → cmpAt l ts a b j = 0 ∨ cmpAt l ts a b j = 1) : precB l ts a b = (List.range a.pars.length).any fun i => decide (cmpAt l ts a b i = 1) := by
  unfold precB
  have : ((List.range a.pars.length).all fun i => decide (cmpAt l ts a b i = 0 ∨ cmpAt l ts a b i = 1)) = true := by
    rw [List.all_eq_true]; intro j hj; exact decide_eq_true (h j (List.mem_range.1 hj))
  rw [this, Bool.true_and]
theorem precB_false {l : List CI} {ts : List Tag} {a b : Meth} {j : Nat} (hj : j < a.pars.length) (h0 : cmpAt l ts a b j ≠ 0) (h1 : cmpAt l ts a b j ≠ 1) : precB l ts a b = false := by
  unfold precB
  have : ((List.range a.pars.length).all fun i => decide (cmpAt l ts a b i = 0 ∨ cmpAt l ts a b i = 1)) = false := by
    rw [List.all_eq_false]; exact ⟨j, List.mem_range.2 hj, by simp [h0, h1]⟩
  rw [this, Bool.false_and]
theorem range_any_snoc (f : Nat → Bool) (k : Nat) : (List.range (k + 1)).any f = ((List.range k).any f || f k) := by
  rw [List.range_succ, List.any_append]; simp

set_option maxHeartbeats 16000000 in
set_option maxRecDepth 100000 in
theorem precedes_calls (cp : Nat) (AH : Option Addr) (cH : Nat) (l : List CI) (AT : Option Addr) (cT : Nat) (ts : List Tag) (A2 : Option Addr) (c2 : Nat) (W : World) (HO : OpenAt cp AH cH l AT cT ts A2 c2 W)
    (GH : Nat → Prop) (h : Held GH (CIs AH l) W) (hl : l.length ≤ 1000000) (ol : ∀ x ∈ l, ciOk x) (hcl : ∀ t ∈ ts, (cplAt l t).length ≤ 1000000) (hts : ts.length ≤ 1000000)
    (a b : Meth) (Aa Ar Ba Br : Option Addr) (ca cr cb cq : Nat) (Ga Gb : Nat → Prop) (hA : Held Ga (Pars Aa a.pars) W) (hB : Held Gb (Pars Ba b.pars) W) (ha : a.pars.length = ts.length) (hb : b.pars.length = ts.length)
    (sa : ∀ p ∈ a.pars, TySmall p.type) (sb : ∀ p ∈ b.pars, TySmall p.type) :
    Calls Try.prog 44 #[.pointer (some ⟨cp, 0, none⟩), metV a Aa ca Ar cr, metV b Ba cb Br cq] W fun e W' => e = .returned (.bool (precB l ts a b)) ∧ Below W.heap.size W W' := by
  obtain ⟨W1, hW1⟩ : ∃ W1, W1 = (W.alloc (.cells #[.int .i64 a.id, .string a.lib, .slice Aa a.pars.length ca, .int .i64 a.result.kind, .string a.result.name, .int .i64 a.result.lo, .int .i64 a.result.hi, .slice Ar a.result.args.length cr] 39)).alloc (.cells #[.int .i64 b.id, .string b.lib, .slice Ba b.pars.length cb, .int .i64 b.result.kind, .string b.result.name, .int .i64 b.result.lo, .int .i64 b.result.hi, .slice Br b.result.args.length cq] 39) := ⟨_, rfl⟩
  have b1 : Below W.heap.size W W1 := by rw [hW1]; exact ((Below.refl _ W).alloc (Nat.le_refl _) _).alloc (by simp) _
  have x2 : W1.cell? ⟨W.heap.size, 2, none⟩ = some (.slice Aa a.pars.length ca) := by rw [hW1]; exact alloc_cell' (cell_new W _ _ _ rfl 2 _ rfl)
  have y2 : W1.cell? ⟨W.heap.size + 1, 2, none⟩ = some (.slice Ba b.pars.length cb) := by rw [hW1]; exact cell_new (W.alloc _) _ _ _ (by simp) 2 _ rfl
  have hla : a.pars.length ≤ 1000000 := by omega
  have HA := Lib.hid ha
  have HB := Lib.hid hb
  have HN : Hid (a.pars.length = b.pars.length) := Lib.hid (by omega)
  clear ha hb
  go_enter Try.func44, Try.ntmps44
  go_wp2_with (fail)
  rw [← hW1]
  clear hW1
  go_loopw [7, 12] (fun v i wr => ∃ k : Nat, k ≤ a.pars.length ∧ i = .int .i64 k ∧ v = .bool ((List.range k).any fun j => decide (cmpAt l ts a b j = 1)) ∧ (∀ j, j < k → cmpAt l ts a b j = 0 ∨ cmpAt l ts a b j = 1) ∧ Below W1.heap.size W1 wr) (fun _ i _ => a.pars.length - (intOf i).toNat)
  case atStart => exact ⟨0, Nat.zero_le _, rfl, rfl, fun j hj => absurd hj (by omega), Below.refl _ _⟩
  case round =>
    obtain ⟨k, hk, rfl, rfl, hok, hbr⟩ := hrel
    have HOK := Lib.hid hok
    clear hok
    have bWr := b1.trans (hbr.mono b1.size)
    by_cases hlt : k < a.pars.length
    · obtain ⟨pa, oa, rfl⟩ := Slc.addrH hA (by omega)
      have hkb : k < b.pars.length := by rw [← HN.out]; exact hlt
      have hkt : k < ts.length := by rw [← HA.out]; exact hlt
      obtain ⟨pb, ob, rfl⟩ := Slc.addrH hB (by omega)
      have hx : a.pars[k]? = some a.pars[k] := List.getElem?_eq_getElem hlt
      have hy : b.pars[k]? = some b.pars[k] := List.getElem?_eq_getElem hkb
      have ht : ts[k]? = some ts[k] := List.getElem?_eq_getElem hkt
      generalize a.pars[k] = p at hx
      generalize b.pars[k] = q at hy
      generalize ts[k] = t at ht
      obtain ⟨A3, c3, r1, r2, _, g1, g2, g3, g4, g5⟩ := Pars.atH (hA.keep (Keep.all bWr)) hx
      obtain ⟨B3, d3, s1, s2, _, e1, e2, e3, e4, e5⟩ := Pars.atH (hB.keep (Keep.all bWr)) hy
      have HCA : Hid (cmpAt l ts a b k = cmpT l (cplAt l t) p.type q.type) := Lib.hid (by unfold cmpAt; rw [ht, hx, hy])
      have HOr := HO.keep bWr
      have z3 := HOr.c3
      have x2r := cell_all x2 hbr
      have y2r := cell_all y2 hbr
      have HC := Lib.hid (fun V (hv : Below wr.heap.size wr V) => compared_calls cp AH cH l AT cT ts A2 c2 V (HOr.keep hv) GH ((h.keep (Keep.all bWr)).keep (Keep.all hv)) hl ol hcl hts k t ht p.type q.type A3 B3 c3 d3 _ _ (r2.keep (Keep.all hv)) (s2.keep (Keep.all hv)) (sa p (List.mem_of_getElem? hx)).all (sb q (List.mem_of_getElem? hy)).all)
      have hcf : ∀ args w, (callFunc 47 args).run Try.prog w = .ok (.enter 47 args) w := enters Try.func47 (by kernel_rfl) rfl
      have hk0 : (0 : Int) ≤ (k : Int) := Int.natCast_nonneg _
      have hk1 : (k : Int) < (a.pars.length : Int) := by omega
      have hk2 : (k : Int) < (b.pars.length : Int) := by omega
      generalize cmpT l (cplAt l t) p.type q.type = cc at HC HCA
      clear hx hy ht HOr HO h hcl ol
      have fin : ∀ (w' : World), Below wr.heap.size wr w' → Below W1.heap.size W1 w' := fun w' hq => hbr.trans (hq.mono hbr.size)
      have HF := Lib.hid fin
      clear fin
      by_cases h1 : cc = 1
      · subst h1
        go_wp2_with (fail)
        go_region_held3 (fun w' => Below wr.heap.size wr w' ∧ w'.cell? ⟨cp, 3, none⟩ = some (.func (.func 47) #[.pointer (some ⟨cp, 0, none⟩)] #[]) ∧ w'.cell? ⟨W.heap.size, 2, none⟩ = some (.slice (some ⟨pa, oa, none⟩) a.pars.length ca) ∧ w'.cell? ⟨W.heap.size + 1, 2, none⟩ = some (.slice (some ⟨pb, ob, none⟩) b.pars.length cb) ∧
            w'.cell? ⟨pa, oa + k * 6 + 1, none⟩ = some (.int .i64 p.type.kind) ∧ w'.cell? ⟨pa, oa + k * 6 + 1 + 1, none⟩ = some (.string p.type.name) ∧ w'.cell? ⟨pa, oa + k * 6 + 1 + 2, none⟩ = some (.int .i64 p.type.lo) ∧ w'.cell? ⟨pa, oa + k * 6 + 1 + 3, none⟩ = some (.int .i64 p.type.hi) ∧ w'.cell? ⟨pa, oa + k * 6 + 1 + 4, none⟩ = some (.slice A3 p.type.args.length c3) ∧
            w'.cell? ⟨pb, ob + k * 6 + 1, none⟩ = some (.int .i64 q.type.kind) ∧ w'.cell? ⟨pb, ob + k * 6 + 1 + 1, none⟩ = some (.string q.type.name) ∧ w'.cell? ⟨pb, ob + k * 6 + 1 + 2, none⟩ = some (.int .i64 q.type.lo) ∧ w'.cell? ⟨pb, ob + k * 6 + 1 + 3, none⟩ = some (.int .i64 q.type.hi) ∧ w'.cell? ⟨pb, ob + k * 6 + 1 + 4, none⟩ = some (.slice B3 q.type.args.length d3))
          (first | exact ⟨(Below.refl _ wr).drew, z3, x2r, y2r, g1, g2, g3, g4, g5, e1, e2, e3, e4, e5⟩ | (go_split_ands; exact ⟨below_step (by assumption) hbv, cell_all (by assumption) hbv, cell_all (by assumption) hbv, cell_all (by assumption) hbv, cell_all (by assumption) hbv, cell_all (by assumption) hbv, cell_all (by assumption) hbv, cell_all (by assumption) hbv, cell_all (by assumption) hbv, cell_all (by assumption) hbv, cell_all (by assumption) hbv, cell_all (by assumption) hbv, cell_all (by assumption) hbv, cell_all (by assumption) hbv⟩))
          ((go_at_call 47; refine (HC.out _ (by go_split_ands; assumption)).mono ?_; rintro e V ⟨rfl, hbv⟩))
        all_goals
          go_wp2
          refine ⟨⟨k + 1, by omega, by go_num, by rw [range_any_snoc, HCA.out]; simp, fun j hj => ?_, HF.out _ (by go_split_ands; assumption)⟩, by simp [intOf]; omega⟩
          rcases Nat.lt_or_ge j k with q | q
          · exact HOK.out j q
          · obtain rfl : j = k := by omega
            rw [HCA.out]; exact .inr rfl
      · have t1 : (cc == 1) = false := beq_eq_false_iff_ne.2 h1
        by_cases h0 : cc = 0
        · subst h0
          go_wp2_with (fail)
          go_region_held3 (fun w' => Below wr.heap.size wr w' ∧ w'.cell? ⟨cp, 3, none⟩ = some (.func (.func 47) #[.pointer (some ⟨cp, 0, none⟩)] #[]) ∧ w'.cell? ⟨W.heap.size, 2, none⟩ = some (.slice (some ⟨pa, oa, none⟩) a.pars.length ca) ∧ w'.cell? ⟨W.heap.size + 1, 2, none⟩ = some (.slice (some ⟨pb, ob, none⟩) b.pars.length cb) ∧
              w'.cell? ⟨pa, oa + k * 6 + 1, none⟩ = some (.int .i64 p.type.kind) ∧ w'.cell? ⟨pa, oa + k * 6 + 1 + 1, none⟩ = some (.string p.type.name) ∧ w'.cell? ⟨pa, oa + k * 6 + 1 + 2, none⟩ = some (.int .i64 p.type.lo) ∧ w'.cell? ⟨pa, oa + k * 6 + 1 + 3, none⟩ = some (.int .i64 p.type.hi) ∧ w'.cell? ⟨pa, oa + k * 6 + 1 + 4, none⟩ = some (.slice A3 p.type.args.length c3) ∧
              w'.cell? ⟨pb, ob + k * 6 + 1, none⟩ = some (.int .i64 q.type.kind) ∧ w'.cell? ⟨pb, ob + k * 6 + 1 + 1, none⟩ = some (.string q.type.name) ∧ w'.cell? ⟨pb, ob + k * 6 + 1 + 2, none⟩ = some (.int .i64 q.type.lo) ∧ w'.cell? ⟨pb, ob + k * 6 + 1 + 3, none⟩ = some (.int .i64 q.type.hi) ∧ w'.cell? ⟨pb, ob + k * 6 + 1 + 4, none⟩ = some (.slice B3 q.type.args.length d3))
            (first | exact ⟨(Below.refl _ wr).drew, z3, x2r, y2r, g1, g2, g3, g4, g5, e1, e2, e3, e4, e5⟩ | (go_split_ands; exact ⟨below_step (by assumption) hbv, cell_all (by assumption) hbv, cell_all (by assumption) hbv, cell_all (by assumption) hbv, cell_all (by assumption) hbv, cell_all (by assumption) hbv, cell_all (by assumption) hbv, cell_all (by assumption) hbv, cell_all (by assumption) hbv, cell_all (by assumption) hbv, cell_all (by assumption) hbv, cell_all (by assumption) hbv, cell_all (by assumption) hbv, cell_all (by assumption) hbv⟩))
            ((go_at_call 47; refine (HC.out _ (by go_split_ands; assumption)).mono ?_; rintro e V ⟨rfl, hbv⟩))
          all_goals
            go_wp2
            refine ⟨⟨k + 1, by omega, by go_num, by rw [range_any_snoc, HCA.out]; simp, fun j hj => ?_, HF.out _ (by go_split_ands; assumption)⟩, by simp [intOf]; omega⟩
            rcases Nat.lt_or_ge j k with q | q
            · exact HOK.out j q
            · obtain rfl : j = k := by omega
              rw [HCA.out]; exact .inl rfl
        · have t0 : (cc == 0) = false := beq_eq_false_iff_ne.2 h0
          have HPB : Hid (precB l ts a b = false) := Lib.hid (precB_false hlt (by rw [HCA.out]; exact h0) (by rw [HCA.out]; exact h1))
          clear h0 h1
          go_wp2_with (fail)
          go_region_held3 (fun w' => Below wr.heap.size wr w' ∧ w'.cell? ⟨cp, 3, none⟩ = some (.func (.func 47) #[.pointer (some ⟨cp, 0, none⟩)] #[]) ∧ w'.cell? ⟨W.heap.size, 2, none⟩ = some (.slice (some ⟨pa, oa, none⟩) a.pars.length ca) ∧ w'.cell? ⟨W.heap.size + 1, 2, none⟩ = some (.slice (some ⟨pb, ob, none⟩) b.pars.length cb) ∧
              w'.cell? ⟨pa, oa + k * 6 + 1, none⟩ = some (.int .i64 p.type.kind) ∧ w'.cell? ⟨pa, oa + k * 6 + 1 + 1, none⟩ = some (.string p.type.name) ∧ w'.cell? ⟨pa, oa + k * 6 + 1 + 2, none⟩ = some (.int .i64 p.type.lo) ∧ w'.cell? ⟨pa, oa + k * 6 + 1 + 3, none⟩ = some (.int .i64 p.type.hi) ∧ w'.cell? ⟨pa, oa + k * 6 + 1 + 4, none⟩ = some (.slice A3 p.type.args.length c3) ∧
              w'.cell? ⟨pb, ob + k * 6 + 1, none⟩ = some (.int .i64 q.type.kind) ∧ w'.cell? ⟨pb, ob + k * 6 + 1 + 1, none⟩ = some (.string q.type.name) ∧ w'.cell? ⟨pb, ob + k * 6 + 1 + 2, none⟩ = some (.int .i64 q.type.lo) ∧ w'.cell? ⟨pb, ob + k * 6 + 1 + 3, none⟩ = some (.int .i64 q.type.hi) ∧ w'.cell? ⟨pb, ob + k * 6 + 1 + 4, none⟩ = some (.slice B3 q.type.args.length d3))
            (first | exact ⟨(Below.refl _ wr).drew, z3, x2r, y2r, g1, g2, g3, g4, g5, e1, e2, e3, e4, e5⟩ | (go_split_ands; exact ⟨below_step (by assumption) hbv, cell_all (by assumption) hbv, cell_all (by assumption) hbv, cell_all (by assumption) hbv, cell_all (by assumption) hbv, cell_all (by assumption) hbv, cell_all (by assumption) hbv, cell_all (by assumption) hbv, cell_all (by assumption) hbv, cell_all (by assumption) hbv, cell_all (by assumption) hbv, cell_all (by assumption) hbv, cell_all (by assumption) hbv, cell_all (by assumption) hbv⟩))
            ((go_at_call 47; refine (HC.out _ (by go_split_ands; assumption)).mono ?_; rintro e V ⟨rfl, hbv⟩))
          all_goals
            go_wp2
            go_ret
            exact ⟨(by rw [HPB.out]; try rfl), below_step bWr (by go_split_ands; assumption)⟩
    · obtain rfl : k = a.pars.length := by omega
      have HPB := Lib.hid (precB_true (fun j hj => HOK.out j hj))
      go_wp2
      go_ret
      exact ⟨(by rw [HPB.out]; try rfl), bWr⟩
end Go.Proofs.Ytepnmejahbiacaa
