/- types.look. -/
import Derived.Test.YtepnmejahbiacaaMi
import Derived.Test.YtepnmejahbiacaaBb
import Derived.Test.YtepnmejahbiacaaSm
import Derived.Test.YtepnmejahbiacaaSl
import Derived.Test.YtepnmejahbiacaaC3j
set_option linter.unusedVariables false
set_option linter.unusedSimpArgs false
namespace Go.Proofs.Ytepnmejahbiacaa
open Go.RowKit

theorem heirsOf_len (l : List CI) : (heirsOf l).length = l.length := by simp [heirsOf]
theorem heirsOf_get {l : List CI} {i : Nat} {x : CI} (h : l[i]? = some x) : (heirsOf l)[i]? = some x.heir := by unfold heirsOf; rw [List.getElem?_map, h]; rfl
theorem baseL_len : baseL.length = 11 := sealN_len 4
def classOk (l : List CI) (k : Nat) (x : CI) : Bool :=
  !(lastAt ((l.take k).map (·.name)) x.name).isSome && !decide (x.name = ⟨#[]⟩) && decide (x.name.size ≤ 100) &&
    (decide (k < 11) || (!decide (x.supers.length = 0) && decide (x.supers.length ≤ 8) && mayInh l k x))
def ClassesOk (l : List CI) : Prop := ∀ (k : Nat) (x : CI), l[k]? = some x → classOk l k x = true
def LinesOk (l : List CI) : Prop := c3Check (heirsOf l) = 0 ∧ ∀ (k : Nat) (x : CI), l[k]? = some x → line (heirsOf l) k = some x.cpl
theorem sup_small {l : List CI} (hb : l.take 11 = baseL) (hok : ClassesOk l) : ∀ x ∈ l, x.supers.length ≤ 8 := by
  intro x hx
  obtain ⟨j, hj⟩ := List.mem_iff_getElem?.1 hx
  rcases Nat.lt_or_ge j 11 with h | h
  · have h1 : (l.take 11)[j]? = some x := by rw [List.getElem?_take, if_pos h]; exact hj
    rw [hb] at h1
    have : baseL.all (fun y => decide (y.supers.length ≤ 1)) = true := by decide
    have := of_decide_eq_true (List.all_eq_true.1 this x (List.mem_of_getElem? h1))
    omega
  · have h2 := hok j x hj
    unfold classOk at h2
    rw [decide_eq_false (show ¬ j < 11 by omega)] at h2
    simp only [Bool.false_or, Bool.and_eq_true, decide_eq_true_eq] at h2
    exact h2.2.1.2
/-- A list of classes that is a hierarchy. -/
def LookOk (l : List CI) : Prop := l.length ≤ 120 ∧ 11 ≤ l.length ∧ l.take 11 = baseL ∧ ClassesOk l ∧ LinesOk l
def lookPost (A : Option Addr) (c : Nat) (l : List CI) (w : World) (e : Ending) (w' : World) : Prop :=
  Below w.heap.size w w' ∧ ((¬ LookOk l ∧ e = .returned (.pointer none)) ∨ (LookOk l ∧ ∃ hp M1, w.heap.size ≤ hp ∧ w.heap.size ≤ M1 ∧ e = .returned (.pointer (some ⟨hp, 0, none⟩)) ∧ HierAt hp M1 A c l l.length w'))

set_option maxHeartbeats 8000000 in
set_option maxRecDepth 100000 in
theorem look_calls (A : Option Addr) (c : Nat) (l : List CI) (w : World) (hc : l.length ≤ c) (G : Nat → Prop) (h : Held G (CIs A l) w) (ol : ∀ x ∈ l, ciOk x) (hl : l.length ≤ 1000000) :
    Calls Try.prog 33 #[.slice A l.length c] w (lookPost A c l w) := by
  have HB := Lib.hid (Base_calls w)
  have hmm := @run_makeMap Try.prog
  by_cases q1 : 120 < l.length
  · have t1 : decide ((120 : Int) < (l.length : Int)) = true := decide_eq_true (by omega)
    go_enter Try.func33, Try.ntmps33
    go_wp2_with (fail)
    refine HB.out.mono ?_
    rintro e w1 ⟨v, rfl, hown, hb1⟩
    obtain ⟨A', c', rfl, _, _⟩ := hown.out
    rw [baseL_len]
    go_wp2
    go_ret
    exact ⟨hb1, .inl ⟨fun hh => absurd hh.1 (by omega), rfl⟩⟩
  have t1 : decide ((120 : Int) < (l.length : Int)) = false := decide_eq_false (by omega)
  by_cases q2 : l.length < 11
  · have t2 : decide ((l.length : Int) < 11) = true := decide_eq_true (by omega)
    go_enter Try.func33, Try.ntmps33
    go_wp2_with (fail)
    refine HB.out.mono ?_
    rintro e w1 ⟨v, rfl, hown, hb1⟩
    obtain ⟨A', c', rfl, _, _⟩ := hown.out
    rw [baseL_len]
    go_wp2
    go_ret
    exact ⟨hb1, .inl ⟨fun hh => absurd hh.2.1 (by omega), rfl⟩⟩
  have t2 : decide ((l.length : Int) < 11) = false := decide_eq_false (by omega)
  go_enter Try.func33, Try.ntmps33
  go_wp2_with (fail)
  refine HB.out.mono ?_
  clear HB
  rintro e w1 ⟨v, rfl, hown, hb1⟩
  obtain ⟨A', c', rfl, hc', hS⟩ := hown.out
  have h1 := h.keep (Keep.all hb1)
  have HE := equalSame_calls A A' c c' (l.take 11) baseL w1 (Slc.take h1.now 11) hS.now (by simp; omega) (by rw [baseL_len]; decide) (fun x hx => ol x (List.mem_of_mem_take hx)) (by
    have : baseL.all (fun y => decide (y.supers.length ≤ 1) && decide (y.cpl.length ≤ 6)) = true := by decide
    intro x hx
    have := List.all_eq_true.1 this x hx
    simp only [Bool.and_eq_true, decide_eq_true_eq] at this
    exact ⟨by omega, by omega⟩)
  rw [List.length_take, Nat.min_eq_left (by omega), baseL_len] at HE
  rw [baseL_len]
  obtain ⟨b, off, rfl⟩ := Slc.addrH h (by omega)
  have HEQ := Lib.hid HE
  clear HE
  go_wp2_with (fail)
  refine HEQ.out.mono ?_
  clear HEQ
  rintro e w2 ⟨rfl, hb2⟩
  have hb0 : Below w.heap.size w w2 := hb1.trans (hb2.mono hb1.size)
  by_cases q3 : l.take 11 = baseL
  rotate_left
  · rw [decide_eq_false q3]
    have Q3 := Lib.hid q3
    clear q3
    go_wp2
    go_ret
    exact ⟨hb0, .inl ⟨fun hh => Q3.out hh.2.2.1, rfl⟩⟩
  rw [decide_eq_true q3]
  have Q3 := Lib.hid q3
  have h2 := h.keep (Keep.all hb0)
  clear q3 h1 hS hown hb1 hb2 h2
  go_wp2_with (fail)
  clear hmm
  obtain ⟨M1, hM1⟩ : ∃ M, M = w2.heap.size := ⟨_, rfl⟩
  obtain ⟨hp, hhp⟩ : ∃ M, M = w2.heap.size + 1 + 1 + 1 := ⟨_, rfl⟩
  rw [← hhp, ← hM1]
  have hsz := hb0.size
  generalize hw3 : (((w2.alloc (.map #[] 0)).alloc (.map #[] 0)).alloc (.map #[] 0)).alloc (.cells #[.slice (some ⟨b, off, none⟩) l.length c, .map (some M1), .map (some (M1 + 1)), .map (some (M1 + 1 + 1))] 97) = w3
  have hb3 : Below w2.heap.size w2 w3 := by rw [← hw3]; exact ((((Below.refl _ w2).alloc (Nat.le_refl _) _).alloc (by simp) _).alloc (by simp; omega) _).alloc (by simp; omega) _
  have H0 : HierAt hp M1 (some ⟨b, off, none⟩) c l 0 w3 := by
    rw [← hw3]
    refine ⟨cell_new _ _ _ _ (by simp; omega) 0 _ rfl, cell_new _ _ _ _ (by simp; omega) 1 _ rfl, ?_⟩
    exact ((((MapF.made strKey w2 M1 hM1).keep (Keep.alloc (fun _ => True) _ _) trivial).keep (Keep.alloc (fun _ => True) _ _) trivial).keep (Keep.alloc (fun _ => True) _ _) trivial)
  have hb4 : Below w.heap.size w w3 := hb0.trans (hb3.mono hsz)
  have hne : hp ≠ M1 := by omega
  have hbs : w.heap.size ≤ hp ∧ w.heap.size ≤ M1 := by omega
  have HNE := Lib.hid hne
  clear hw3 hb3 hM1 hhp hne hsz hb0
  go_loopw [40] (fun i wr => ∃ k : Nat, k ≤ l.length ∧ i = .int .i64 k ∧ HierAt hp M1 (some ⟨b, off, none⟩) c l k wr ∧ (∀ (j : Nat) (x : CI), j < k → l[j]? = some x → classOk l j x = true) ∧ Below w.heap.size w wr) (fun i _ => l.length - (intOf i).toNat)
  case atStart => exact ⟨0, Nat.zero_le _, rfl, H0, fun j x h => absurd h (by omega), hb4⟩
  case round =>
    clear H0 hb4
    obtain ⟨k, hk, rfl, H, hok, hb⟩ := hrel
    have HOK := Lib.hid hok
    clear hok
    have h3 := h.keep (Keep.all hb)
    by_cases hlt : k < l.length
    · have hx : l[k]? = some l[k] := List.getElem?_eq_getElem hlt
      generalize l[k] = x at hx
      have HX := Lib.hid hx
      obtain ⟨A2, c2, A3, c3, p1, p2, p3, p4, g0, g1, g2, g3, g4, g5⟩ := CIs.atH h3 hx
      clear hx
      have c0 := H.c0
      have c1 := H.c1
      obtain ⟨W1, hW1⟩ : ∃ W1, W1 = wr.alloc (.cells #[.string x.name, .string x.lib, .slice A2 x.supers.length c2, .slice A3 x.cpl.length c3, .bool x.abs, .bool x.seal_] 80) := ⟨_, rfl⟩
      have hbW : Below wr.heap.size wr W1 := by rw [hW1]; exact (Below.refl _ wr).alloc (Nat.le_refl _) _
      have H1 := H.keep hbW
      have hlk : ∀ n, (Instr.lookup 94 (.map (some M1)) (.string x.name) true).run Try.prog (W1.drewN n) = .ok (.tuple #[.int .i64 (((lastAt ((l.take k).map (·.name)) x.name).getD 0 : Nat) : Int), .bool (lastAt ((l.take k).map (·.name)) x.name).isSome]) (W1.drewN n) := fun n => run_at ((H1.keep (drewN_below _ n _)).at_) x.name true
      subst hW1
      have hhpl := cell_lt c0
      have hbl := cell_lt g0
      have HNO : Hid (classOk l k x = false → ¬ LookOk l) := Lib.hid (fun hf hh => by rw [hh.2.2.2.1 k x HX.out] at hf; cases hf)
      cases hla : (lastAt ((l.take k).map (·.name)) x.name).isSome with
      | true =>
        rw [hla] at hlk
        have HC : Hid (classOk l k x = false) := Lib.hid (by unfold classOk; rw [hla]; rfl)
        clear hla
        go_wp2_with (fail)
        go_quiet (fail)
        go_wp2_with (fail)
        go_ret
        exact ⟨(hb.alloc hb.size _).trans (drewN_below _ _ _), .inl ⟨HNO.out HC.out, rfl⟩⟩
      | false =>
        rw [hla] at hlk
        have HL := Lib.hid hla
        clear hla
        by_cases n1 : x.name = ⟨#[]⟩
        · have HC : Hid (classOk l k x = false) := Lib.hid (by unfold classOk; rw [decide_eq_true n1]; simp)
          have t3 : decide (x.name = ⟨#[]⟩) = true := decide_eq_true n1
          clear n1
          go_wp2_with (fail)
          go_quiet (fail)
          go_wp2_with (fail)
          go_ret
          exact ⟨(hb.alloc hb.size _).trans (drewN_below _ _ _), .inl ⟨HNO.out HC.out, rfl⟩⟩
        · have t3 : decide (x.name = ⟨#[]⟩) = false := decide_eq_false n1
          have N1 := Lib.hid n1
          clear n1
          by_cases n2 : 100 < x.name.size
          · have HC : Hid (classOk l k x = false) := Lib.hid (by unfold classOk; rw [show decide (x.name.size ≤ 100) = false from decide_eq_false (by omega)]; simp)
            have t4 : decide ((100 : Int) < (x.name.size : Int)) = true := decide_eq_true (by omega)
            go_wp2_with (fail)
            go_quiet (fail)
            go_wp2_with (fail)
            go_ret
            exact ⟨(hb.alloc hb.size _).trans (drewN_below _ _ _), .inl ⟨HNO.out HC.out, rfl⟩⟩
          · have t4 : decide ((100 : Int) < (x.name.size : Int)) = false := decide_eq_false (by omega)
            have HLL : Hid (classOk l k x = (decide (k < 11) || (!decide (x.supers.length = 0) && decide (x.supers.length ≤ 8) && mayInh l k x))) := Lib.hid (by unfold classOk; rw [HL.out, decide_eq_false N1.out, decide_eq_true (show x.name.size ≤ 100 by omega)]; rfl)
            by_cases n3 : k < 11
            · have t5 : decide ((11 : Int) ≤ (k : Int)) = false := decide_eq_false (by omega)
              have HCT : Hid (classOk l k x = true) := Lib.hid (by rw [HLL.out, decide_eq_true n3]; rfl)
              go_wp2_with (fail)
              go_quiet (fail)
              go_wp2_with (fail)
              obtain ⟨V, hV⟩ : ∃ V, V = (wr.alloc (.cells #[.string x.name, .string x.lib, .slice A2 x.supers.length c2, .slice A3 x.cpl.length c3, .bool x.abs, .bool x.seal_] 80)).drewN nq := ⟨_, rfl⟩
              rw [← hV]
              have HV : HierAt hp M1 (some ⟨b, off, none⟩) c l k V := by rw [hV]; exact H1.keep (drewN_below _ _ _)
              have vb : V.cell? ⟨wr.heap.size, 0, none⟩ = some (.string x.name) := by rw [hV]; exact cell_new wr _ _ _ rfl 0 _ rfl
              have hbV : Below w.heap.size w V := by rw [hV]; exact (hb.alloc hb.size _).trans (drewN_below _ _ _)
              clear hV
              have HVM : MapF strKey M1 (atMap ((l.take k).map (·.name))) V.drew := (HV.at_).keep (Keep.drew (fun _ => True) _) trivial
              have v0 := HV.c0
              have v1 := HV.c1
              have HVC := Lib.hid HV
              have vh := cell_lt v0
              clear H H1 HV hlk c0 c1 g0 g1 g2 g3 g4 g5
              refine wp_region_still_tail 7 (by kernel_rfl) (by kernel_rfl) ?_
              simp only [List.take_succ_cons, List.take_zero, List.drop_succ_cons, List.drop_zero]
              change wpStill _ _ (World.drew _) (fun a' => wpList _ _ _ _ a' (World.drew _)) _ _
              repeat still_step
              refine wpStill_nil ?_
              go_wp2_with (at_mapUpdate; refine wp_mapUpdate strKey _ rfl 94 3 _ _ _ rfl Try.underlying94 M1 (atMap ((l.take k).map (·.name))) HVM rfl x.name rfl (.int .i64 (k : Int)) rfl ?_)
              intro w5 hm5 hg5
              rw [atMap_snoc _ _ k (by simp; omega), ← List.map_take] at hm5
              have hb5 : Below w.heap.size w w5 := (hbV.drew).grown hg5 (by have := hbV.size; exact this) fun k e => by cases e; exact hbs.2
              have kg : Keep (fun b => b = hp) V w5 := ((Keep.drew (fun _ => True) V).mono (fun _ _ => trivial)).trans (Keep.grown hg5 fun b hb e => HNE.out (by rw [← hb]; injection e))
              have H5 : HierAt hp M1 (some ⟨b, off, none⟩) c l (k + 1) w5 := by
                refine ⟨cell_keep v0 kg rfl, cell_keep v1 kg rfl, ?_⟩
                have e : (l.take (k + 1)).map (·.name) = (l.take k).map (·.name) ++ [x.name] := by rw [take_snoc HX.out, List.map_append]; rfl
                rw [e]; exact hm5
              clear v0 v1 HVM hg5 hm5
              go_wp2_with (fail)
              go_roundw
              case rel =>
                refine ⟨k + 1, by omega, by go_num, H5, fun j y hj hy => ?_, hb5⟩
                rcases Nat.lt_or_ge j k with h | h
                · exact HOK.out j y h hy
                · obtain rfl : j = k := by omega
                  rw [HX.out] at hy; cases hy; exact HCT.out
              case measure => simp [intOf]; omega
            · have t5 : decide ((11 : Int) ≤ (k : Int)) = true := decide_eq_true (by omega)
              by_cases n4 : x.supers.length = 0
              · have t6 : ((x.supers.length : Int) == 0) = true := beq_iff_eq.2 (by omega)
                have HC : Hid (classOk l k x = false) := Lib.hid (by rw [HLL.out, decide_eq_false n3, decide_eq_true n4]; rfl)
                clear n4
                go_wp2_with (fail)
                go_quiet (fail)
                go_wp2_with (fail)
                go_ret
                exact ⟨(hb.alloc hb.size _).trans (drewN_below _ _ _), .inl ⟨HNO.out HC.out, rfl⟩⟩
              have t6 : ((x.supers.length : Int) == 0) = false := beq_eq_false_iff_ne.2 (by omega)
              by_cases n5 : 8 < x.supers.length
              · have t7 : decide ((8 : Int) < (x.supers.length : Int)) = true := decide_eq_true (by omega)
                have HC : Hid (classOk l k x = false) := Lib.hid (by rw [HLL.out, decide_eq_false n3, decide_eq_false (show ¬ x.supers.length ≤ 8 by omega)]; simp)
                go_wp2_with (fail)
                go_quiet (fail)
                go_wp2_with (fail)
                go_ret
                exact ⟨(hb.alloc hb.size _).trans (drewN_below _ _ _), .inl ⟨HNO.out HC.out, rfl⟩⟩
              have t7 : decide ((8 : Int) < (x.supers.length : Int)) = false := decide_eq_false (by omega)
              have HMI : Hid (classOk l k x = mayInh l k x) := Lib.hid (by rw [HLL.out, decide_eq_false n3, decide_eq_false n4, decide_eq_true (show x.supers.length ≤ 8 by omega)]; rfl)
              have hp3 := p3
              have hh3 := h3
              have HMY := Lib.hid (fun W (hbw : Below wr.heap.size wr W) => mayInherit_calls hp M1 (some ⟨b, off, none⟩) c l k hk (by omega) x A2 A3 c2 c3 W (H.keep hbw) G (h3.keep (Keep.all hbw)) G (p3.keep (Keep.all hbw)) (by omega))
              go_wp2_with (fail)
              go_quiet (fail)
              go_wp2_with (fail)
              have bq : Below wr.heap.size wr ((wr.alloc (.cells #[.string x.name, .string x.lib, .slice A2 x.supers.length c2, .slice A3 x.cpl.length c3, .bool x.abs, .bool x.seal_] 80)).drewN nq) := ((Below.refl _ wr).alloc (Nat.le_refl _) _).trans (drewN_below _ _ _)
              refine (HMY.out _ bq).mono ?_
              have vb0 : ((wr.alloc (.cells #[.string x.name, .string x.lib, .slice A2 x.supers.length c2, .slice A3 x.cpl.length c3, .bool x.abs, .bool x.seal_] 80)).drewN nq).cell? ⟨wr.heap.size, 0, none⟩ = some (.string x.name) := cell_new wr _ _ _ rfl 0 _ rfl
              rintro e V ⟨rfl, hbv⟩
              have HV : HierAt hp M1 (some ⟨b, off, none⟩) c l k V := (H.keep bq).keep hbv
              have vb := cell_all vb0 hbv
              have hbV : Below w.heap.size w V := hb.trans ((bq.trans (hbv.mono bq.size)).mono hb.size)
              clear HMY bq vb0
              cases hmi : mayInh l k x with
              | false =>
                have HC : Hid (classOk l k x = false) := Lib.hid (by rw [HMI.out, hmi])
                clear hmi
                go_wp2_with (fail)
                go_ret
                exact ⟨hbV, .inl ⟨HNO.out HC.out, rfl⟩⟩
              | true =>
                have HCT : Hid (classOk l k x = true) := Lib.hid (by rw [HMI.out, hmi])
                clear hmi
                go_wp2_with (fail)
                have HVM : MapF strKey M1 (atMap ((l.take k).map (·.name))) V.drew := (HV.at_).keep (Keep.drew (fun _ => True) _) trivial
                have v0 := HV.c0
                have v1 := HV.c1
                have HVC := Lib.hid HV
                have vh := cell_lt v0
                clear H H1 HV hlk c0 c1 g0 g1 g2 g3 g4 g5
                refine wp_region_still_tail 7 (by kernel_rfl) (by kernel_rfl) ?_
                simp only [List.take_succ_cons, List.take_zero, List.drop_succ_cons, List.drop_zero]
                change wpStill _ _ (World.drew _) (fun a' => wpList _ _ _ _ a' (World.drew _)) _ _
                repeat still_step
                refine wpStill_nil ?_
                go_wp2_with (at_mapUpdate; refine wp_mapUpdate strKey _ rfl 94 3 _ _ _ rfl Try.underlying94 M1 (atMap ((l.take k).map (·.name))) HVM rfl x.name rfl (.int .i64 (k : Int)) rfl ?_)
                intro w5 hm5 hg5
                rw [atMap_snoc _ _ k (by simp; omega), ← List.map_take] at hm5
                have hb5 : Below w.heap.size w w5 := (hbV.drew).grown hg5 (by have := hbV.size; exact this) fun k e => by cases e; exact hbs.2
                have kg : Keep (fun b => b = hp) V w5 := ((Keep.drew (fun _ => True) V).mono (fun _ _ => trivial)).trans (Keep.grown hg5 fun b hb e => HNE.out (by rw [← hb]; injection e))
                have H5 : HierAt hp M1 (some ⟨b, off, none⟩) c l (k + 1) w5 := by
                  refine ⟨cell_keep v0 kg rfl, cell_keep v1 kg rfl, ?_⟩
                  have e : (l.take (k + 1)).map (·.name) = (l.take k).map (·.name) ++ [x.name] := by rw [take_snoc HX.out, List.map_append]; rfl
                  rw [e]; exact hm5
                clear v0 v1 HVM hg5 hm5
                go_wp2_with (fail)
                go_roundw
                case rel =>
                  refine ⟨k + 1, by omega, by go_num, H5, fun j y hj hy => ?_, hb5⟩
                  rcases Nat.lt_or_ge j k with h | h
                  · exact HOK.out j y h hy
                  · obtain rfl : j = k := by omega
                    rw [HX.out] at hy; cases hy; exact HCT.out
                case measure => simp [intOf]; omega
    · have hkl : k = l.length := by omega
      subst hkl
      have HCO : Hid (ClassesOk l) := Lib.hid (fun j x hx => HOK.out j x (List.getElem?_eq_some_iff.1 hx).1 hx)
      have HSM := Lib.hid (sup_small Q3.out HCO.out)
      have HH := Lib.hid (heirs_calls (some ⟨b, off, none⟩) c l wr h3.now (by omega))
      clear HOK
      go_wp2_with (fail)
      refine HH.out.mono ?_
      clear HH
      rintro e V1 ⟨Ah, ch, rfl, _, hhe, hv1⟩
      have HA := all_calls Ah ch (heirsOf l) V1 hhe.now (by rw [heirsOf_len]; omega) (fun x hx => by
        obtain ⟨y, hy, rfl⟩ := List.mem_map.1 hx
        have := HSM.out y hy
        show y.supers.length ≤ 1000000
        omega)
      rw [heirsOf_len] at HA
      have HA1 := Lib.hid HA
      clear HA hhe
      go_wp2_with (fail)
      refine HA1.out.mono ?_
      clear HA1
      rintro e V2 ⟨hv2, (⟨a1, rfl⟩ | ⟨a1, i, a2, a3, a4, rfl⟩ | ⟨a1, ls, v, S, a2, a3, rfl, a4, a5⟩)⟩
      all_goals have hbV : Below w.heap.size w V2 := hb.trans ((hv1.trans (hv2.mono hv1.size)).mono hb.size)
      · have t8 : (c3Check (heirsOf l) == 0) = false := beq_eq_false_iff_ne.2 a1
        have t9 : (c3Check (heirsOf l) != 0) = true := by rw [bne_iff_ne]; exact a1
        have A1 := Lib.hid a1
        clear a1
        go_wp2_with (fail)
        go_ret
        exact ⟨hbV, .inl ⟨fun hh => A1.out hh.2.2.2.2.1, rfl⟩⟩
      · have hi : i < l.length := by rw [← heirsOf_len]; exact a2
        have A4 : Hid (¬ LookOk l) := Lib.hid (fun hh => by
          have := hh.2.2.2.2.2 i _ (List.getElem?_eq_getElem hi)
          rw [a4] at this; cases this)
        clear a1 a2 a3 a4
        go_wp2_with (fail)
        go_ret
        exact ⟨hbV, .inl ⟨A4.out, rfl⟩⟩
      · obtain ⟨Al, cl, rfl, _, hS⟩ := a4.out
        have A2 := Lib.hid a2
        have A3 := Lib.hid a3
        have A1 := Lib.hid a1
        have h4 := h.keep (Keep.all hbV)
        have HE := Lib.hid (equalCpl_calls (some ⟨b, off, none⟩) Al c cl l ls V2 h4.now hS.now (by omega) (by rw [a2, heirsOf_len]; omega) ol (fun y hy => by
          obtain ⟨j, hj⟩ := List.mem_iff_getElem?.1 hy
          have := line_length (c3Check_zero a1).2 (a3 j y hj)
          have := (c3Check_zero a1).1
          omega))
        clear a1 a2 a3 a4 hS h4
        go_wp2_with (fail)
        refine HE.out.mono ?_
        clear HE
        rintro e V3 ⟨rfl, hv3⟩
        have hbV3 : Below w.heap.size w V3 := hbV.trans (hv3.mono hbV.size)
        have H3 : HierAt hp M1 (some ⟨b, off, none⟩) c l l.length V3 := ((H.keep hv1).keep hv2).keep hv3
        have HEQ : Hid (l.map CI.cpl = ls ↔ ∀ (k : Nat) (x : CI), l[k]? = some x → line (heirsOf l) k = some x.cpl) := Lib.hid (by
          constructor
          · rintro rfl k x hx
            exact A3.out k x.cpl (by rw [List.getElem?_map, hx]; rfl)
          · intro hh
            apply List.ext_getElem?
            intro k
            rw [List.getElem?_map]
            cases hk : l[k]? with
            | none =>
              have := List.getElem?_eq_none_iff.1 hk
              rw [List.getElem?_eq_none (by rw [A2.out, heirsOf_len]; exact this)]; rfl
            | some x =>
              have h1 := hh k x hk
              have hkl := (List.getElem?_eq_some_iff.1 hk).1
              have h2 : ls[k]? = some (ls[k]'(by rw [A2.out, heirsOf_len]; exact hkl)) := List.getElem?_eq_getElem _
              have h3 := A3.out k _ h2
              rw [h1] at h3
              rw [h2]; simp only [Option.map_some]; exact congrArg some (Option.some.inj h3))
        by_cases hq : l.map CI.cpl = ls
        · rw [decide_eq_true hq]
          have HOK : Hid (LookOk l) := Lib.hid ⟨by omega, by omega, Q3.out, HCO.out, A1.out, HEQ.out.1 hq⟩
          clear hq
          go_wp2_with (fail)
          go_ret
          exact ⟨hbV3, .inr ⟨HOK.out, hp, M1, hbs.1, hbs.2, rfl, H3⟩⟩
        · rw [decide_eq_false hq]
          have HNK : Hid (¬ LookOk l) := Lib.hid (fun hh => hq (HEQ.out.2 hh.2.2.2.2.2))
          clear hq
          go_wp2_with (fail)
          go_ret
          exact ⟨hbV3, .inl ⟨HNK.out, rfl⟩⟩
end Go.Proofs.Ytepnmejahbiacaa
