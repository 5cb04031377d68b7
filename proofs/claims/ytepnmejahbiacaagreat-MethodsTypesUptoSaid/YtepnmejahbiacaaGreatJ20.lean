/- Part 20 of the proof: Am. -/
import Derived.Test.YtepnmejahbiacaaGreatJ05
import Derived.Test.YtepnmejahbiacaaGreatJ06
import Derived.Test.YtepnmejahbiacaaGreatJ07
import Derived.Test.YtepnmejahbiacaaGreatJ12
import Derived.Test.YtepnmejahbiacaaGreatJ13
import Derived.Test.YtepnmejahbiacaaGreatJ14
import Derived.Test.YtepnmejahbiacaaGreatJ15
import Derived.Test.YtepnmejahbiacaaGreatJ18
import Derived.Test.YtepnmejahbiacaaGreatJ17
import Derived.Test.YtepnmejahbiacaaGreatJ04
import Derived.Test.YtepnmejahbiacaaGreatJ10
import Derived.Test.YtepnmejahbiacaaGreatJ11
import Derived.Test.YtepnmejahbiacaaGreatJ19
import Derived.Test.YtepnmejahbiacaaGreatJ09
import Derived.Test.YtepnmejahbiacaaGreatJ03
import Derived.Test.YtepnmejahbiacaaGreatJ16
import Derived.Test.YtepnmejahbiacaaGreatJ02
import Derived.Test.YtepnmejahbiacaaGreatJ01
import Derived.BigQuiet
import Derived.Carry
import Derived.Deep.Draws
import Derived.Deep.LoopGhost
import Derived.Deep.QuietTactic
import Derived.KernelRfl
import Derived.Laws.EntriesVeiled
import Derived.Lib.Hide
import Derived.LoopIn
import Derived.LoopNIn
import Derived.Maps.AppendAt
import Derived.Maps.Own
import Derived.Maps.OwnIn
import Derived.Outline
import Derived.OwnWalkIn
import Derived.RangeFuncBound
import Derived.RangeFuncCalls
import Derived.RangeFuncLeaves
import Derived.RangeFuncNested
import Derived.Recover
import Derived.StillTailTactics
import Derived.Stop.RegionWithIn
import Derived.TacticsInMore
import Derived.Test.YtepnmejahbiacaaGreatProg
import Derived.WalkKit
import Derived.WalkSpells
set_option linter.unusedVariables false
set_option linter.unusedSimpArgs false
namespace Go.Proofs.YtepnmejahbiacaaGreat
open Go.RowKit
def hasI (l : List Int) (x : Int) : Bool := l.any fun y => decide (y = x)
theorem hasI_iff {l : List Int} {x : Int} : hasI l x = true ↔ x ∈ l := by
  unfold hasI; rw [List.any_eq_true]
  exact ⟨fun ⟨y, hy, e⟩ => by have := of_decide_eq_true e; rwa [← this], fun h => ⟨x, h, decide_eq_true rfl⟩⟩
theorem hasI_false {l : List Int} {x : Int} : hasI l x = false ↔ x ∉ l := by
  rw [← hasI_iff]; cases hasI l x <;> simp
def seenI (seen : List Int) (s : Int) : Option Value := if hasI seen s then some (.bool true) else none
theorem seenI_snoc (seen : List Int) (x : Int) : (fun s => if s = x then some (Value.bool true) else seenI seen s) = seenI (seen ++ [x]) := by
  funext s; unfold seenI hasI
  by_cases h : s = x
  · subst h; simp
  · have : ¬ x = s := fun e => h e.symm
    rw [if_neg h, List.any_append]; simp only [List.any_cons, List.any_nil, decide_eq_false this, Bool.or_false]
theorem seenI_get (seen : List Int) (s : Int) : (seenI seen s).getD (.bool false) = .bool (hasI seen s) := by
  unfold seenI; cases hasI seen s <;> rfl
noncomputable abbrev intKey : KeyKind Tryz.prog 3 Int := KeyKind.int Tryz.underlying3
theorem run_seenI {w : World} {b : Nat} {seen : List Int} (h : MapF intKey b (seenI seen) w) (s : Int) :
    (Instr.lookup 114 (.map (some b)) (.int .i64 s) false).run Tryz.prog w = .ok (.bool (hasI seen s)) w := by
  have := run_lookupF h Tryz.underlying114 (zero_bool w) s false
  rw [seenI_get] at this
  exact this
theorem areMs_dup {l : List CI} {ms : List Meth} {k : Nat} {x : Meth} (hx : ms[k]? = some x) (h : hasI ((ms.take k).map (·.id)) x.id = true) : AreMs l ms = false := by
  unfold AreMs
  rw [decide_eq_false]; rfl
  intro hd
  obtain ⟨hk, rfl⟩ := List.getElem?_eq_some_iff.1 hx
  obtain ⟨y, hy, e⟩ := List.mem_map.1 (hasI_iff.1 h)
  obtain ⟨j, hj⟩ := List.mem_iff_getElem?.1 hy
  rw [List.getElem?_take] at hj
  split at hj
  · have h1 : (ms.map (·.id))[j]? = some ms[k].id := by rw [List.getElem?_map, hj]; exact congrArg some e
    have h2 : (ms.map (·.id))[k]? = some ms[k].id := by rw [List.getElem?_map, hx]; rfl
    have := nodup_inj hd h1 h2
    omega
  · cases hj
theorem areMs_bad {l : List CI} {ms : List Meth} {x : Meth} {n0 : Nat} (hn0 : (ms[0]?.map fun m => m.pars.length).getD 0 = n0) (hx : x ∈ ms) (h : parsOk l n0 x = false) : AreMs l ms = false := by
  unfold AreMs
  rw [hn0, Bool.and_eq_false_iff]
  exact .inr (List.all_eq_false.2 ⟨x, hx, by rw [h]; decide⟩)
theorem parsOk_type {l : List CI} {n0 : Nat} {x : Meth} {p : Par} (hp : p ∈ x.pars) (h : validErr l p.type ≠ 0) : parsOk l n0 x = false := by
  unfold parsOk
  rw [Bool.and_eq_false_iff]
  exact .inr (List.all_eq_false.2 ⟨p, hp, by simpa using h⟩)
set_option maxHeartbeats 16000000 in
set_option maxRecDepth 100000 in
theorem areMethods_calls (AH : Option Addr) (cH : Nat) (l : List CI) (A : Option Addr) (c : Nat) (ms : List Meth) (W : World) (GH : Nat → Prop) (h : Held GH (CIs AH l) W) (hcH : l.length ≤ cH) (ol : ∀ x ∈ l, ciOk x) (hl : l.length ≤ 1000000)
    (G : Nat → Prop) (hM : Held G (Meths A ms) W) (hn : ms.length ≤ 1000000) (hL : LookOk l) (hs : ∀ m ∈ ms, ∀ p ∈ m.pars, TySmall p.type) (hp : ∀ m ∈ ms, m.pars.length ≤ 1000000) :
    Calls Tryz.prog 45 #[.slice AH l.length cH, .slice A ms.length c] W fun e W' => e = .returned (.bool (AreMs l ms)) ∧ Below W.heap.size W W' := by
  obtain ⟨n0, hn0⟩ : ∃ n0, (ms[0]?.map fun m => m.pars.length).getD 0 = n0 := ⟨_, rfl⟩
  have HN0 := Lib.hid hn0
  clear hn0
  have hmm := @run_makeMap Tryz.prog
  have HL := Lib.hid hL
  clear hL
  go_enter Tryz.func45, Tryz.ntmps45
  go_wp2
  clear hmm
  have hM0 := MapF.made intKey W W.heap.size rfl
  go_loopw [13] (fun i wr => ∃ k : Nat, k ≤ ms.length ∧ i = .int .i64 k ∧ MapF intKey W.heap.size (seenI ((ms.take k).map (·.id))) wr ∧ ((ms.take k).map (·.id)).Nodup ∧ (ms.take k).all (parsOk l n0) = true ∧ Below W.heap.size W wr) (fun i _ => ms.length - (intOf i).toNat)
  case atStart => exact ⟨0, Nat.zero_le _, rfl, hM0, by simp, by simp, (Below.refl _ W).alloc (Nat.le_refl _) _⟩
  case round =>
    clear hM0
    obtain ⟨k, hk, rfl, hMk, hnd, hall, hb⟩ := hrel
    have HND := Lib.hid hnd
    have HALL := Lib.hid hall
    clear hnd hall
    by_cases hlt : k < ms.length
    · obtain ⟨b, off, rfl⟩ := Slc.addrH hM (by omega)
      have hx : ms[k]? = some ms[k] := List.getElem?_eq_getElem hlt
      have h0 : ms[0]? = some ms[0] := List.getElem?_eq_getElem (by omega)
      have hxm : ms[k] ∈ ms := List.getElem_mem hlt
      generalize ms[k] = x at hx hxm
      generalize ms[0] = m0 at h0
      have HX := Lib.hid hx
      have HXM := Lib.hid hxm
      have HN : Hid (m0.pars.length = n0) := Lib.hid (by have := HN0.out; rw [h0] at this; simpa using this)
      obtain ⟨A1, c1, A2, c2, p1, p2, p3, p4, g0, g1, g2, g3, g4, g5, g6, g7⟩ := Meths.atH (hM.here.keep (Keep.below hb)) hx
      obtain ⟨B1, d1, B2, d2, _, _, _, _, _, _, q2, _, _, _, _, _⟩ := Meths.atH (hM.keep (Keep.all hb)) h0
      rw [Nat.zero_mul, Nat.add_zero] at q2
      have hpx := hp x hxm
      have hpm := hp m0 (List.mem_of_getElem? h0)
      have HSX := Lib.hid (hs x hxm)
      clear hx h0 hxm
      go_wp2_with (fail)
      obtain ⟨W1, hW1⟩ : ∃ W1, W1 = wr.alloc (.cells #[.int .i64 x.id, .string x.lib, .slice A1 x.pars.length c1, .int .i64 x.result.kind, .string x.result.name, .int .i64 x.result.lo, .int .i64 x.result.hi, .slice A2 x.result.args.length c2] 68) := ⟨_, rfl⟩
      rw [← hW1]
      have b1 : Below wr.heap.size wr W1 := by rw [hW1]; exact (Below.refl _ wr).alloc (Nat.le_refl _) _
      have xm : ∀ j u, [Value.int .i64 x.id, .string x.lib, .slice A1 x.pars.length c1, .int .i64 x.result.kind, .string x.result.name, .int .i64 x.result.lo, .int .i64 x.result.hi, .slice A2 x.result.args.length c2][j]? = some u → W1.cell? ⟨wr.heap.size, j, none⟩ = some u := fun j u hj => by rw [hW1]; exact cell_new wr _ _ _ rfl j u hj
      clear hW1
      have m0' := xm 0 _ rfl
      have m2' := xm 2 _ rfl
      have q2' := cell_all q2 b1
      have hM1 : MapF intKey W.heap.size (seenI ((ms.take k).map (·.id))) W1 := hMk.keep (Keep.all (G := fun _ => True) b1) trivial
      have hlk : ∀ n, (Instr.lookup 114 (.map (some W.heap.size)) (.int .i64 x.id) false).run Tryz.prog (W1.drewN n) = .ok (.bool (hasI ((ms.take k).map (·.id)) x.id)) (W1.drewN n) := fun n => run_seenI (hM1.keep (Keep.drewN (fun _ => True) W1 n) trivial) x.id
      have bW1 := hb.trans (b1.mono hb.size)
      have HM1 := Lib.hid hM1
      have hmlt := hMk.lt
      clear hM1 hMk g0 g1 g2 g3 g4 g5 g6 g7 q2 p3 p4 xm
      generalize hseen : (ms.take k).map (·.id) = seen at hlk
      have HSE := Lib.hid hseen
      clear hseen
      cases n1 : hasI seen x.id with
      | true =>
        have HB : Hid (AreMs l ms = false) := Lib.hid (areMs_dup HX.out (by rw [HSE.out]; exact n1))
        rw [n1] at hlk
        clear n1
        go_quiet (fail)
        go_wp2
        go_ret
        exact ⟨(by rw [HB.out]; try rfl), bW1.trans ((drewN_below _ _ _).mono bW1.size)⟩
      | false =>
        rw [n1] at hlk
        by_cases n2 : x.pars.length = m0.pars.length
        · have t2 : ((x.pars.length : Int) != (m0.pars.length : Int)) = false := bne_eq_false_iff_eq.2 (by omega)
          by_cases n3 : 6 < x.pars.length
          · have n3' : (6 : Int) < (x.pars.length : Int) := by omega
            have HB : Hid (AreMs l ms = false) := Lib.hid (areMs_bad HN0.out HXM.out (by unfold parsOk; rw [decide_eq_false (show ¬ x.pars.length ≤ 6 by omega)]; simp))
            clear n1 n2
            go_quiet (fail)
            go_wp2
            go_ret
            exact ⟨(by rw [HB.out]; try rfl), bW1.trans ((drewN_below _ _ _).mono bW1.size)⟩
          · have n3' : ¬ (6 : Int) < (x.pars.length : Int) := by omega
            have HQ := Lib.hid n1
            have HE := Lib.hid n2
            have N3 := Lib.hid n3
            clear n1 n2
            go_quiet (fail)
            have hMs : MapF intKey W.heap.size (seenI seen) W1 := HSE.out ▸ HM1.out
            go_wp2_with (at_mapUpdate; refine wp_mapUpdate intKey _ rfl 114 4 _ _ _ rfl Tryz.underlying114 W.heap.size (seenI seen) (hMs.keep (Keep.drewN (fun _ => True) W1 _) trivial) rfl x.id rfl (.bool true) rfl ?_)
            intro w3 hM3 hg3
            rw [seenI_snoc] at hM3
            have hbq : Below W.heap.size W w3 := (bW1.trans ((drewN_below _ _ _).mono bW1.size)).grown hg3 (by have := bW1.size; simpa using this) fun k e => by cases e; exact Nat.le_refl _
            have hkq : Keep (fun b => b ≠ W.heap.size) W1 w3 := (Keep.drewN _ W1 _).trans (Keep.grown hg3 fun b hb e => hb (by cases e; rfl))
            have m2q := cell_keep m2' hkq (show wr.heap.size ≠ W.heap.size by omega)
            have p2q : Held (fun b => b < W.heap.size) (Pars A1 x.pars) w3 := p2.keep ((Keep.all b1).trans (hkq.mono fun b hb => by omega))
            clear m0' m2' q2' hMs
            clear hlk n3'
            go_wp2_with (fail)
            go_loopw [44] (fun i w2 => ∃ j : Nat, j ≤ x.pars.length ∧ i = .int .i64 j ∧ (∀ (i : Nat) (p : Par), i < j → x.pars[i]? = some p → validErr l p.type = 0) ∧ Below w3.heap.size w3 w2) (fun i _ => x.pars.length - (intOf i).toNat)
            case atStart => exact ⟨0, Nat.zero_le _, rfl, fun i p h => absurd h (by omega), Below.refl _ _⟩
            case round =>
              obtain ⟨j, hj, rfl, hv, hb2⟩ := hrel
              have HV := Lib.hid hv
              clear hv
              have bW2 := hbq.trans (hb2.mono hbq.size)
              by_cases hjl : j < x.pars.length
              · obtain ⟨bp, offp, rfl⟩ := Slc.addrH p2q (by omega)
                have hy : x.pars[j]? = some x.pars[j] := List.getElem?_eq_getElem hjl
                generalize x.pars[j] = p at hy
                have HY := Lib.hid hy
                obtain ⟨A3, c3, r1, r2, g0, g1, g2, g3, g4, g5⟩ := Pars.atH (p2q.keep (Keep.all hb2)) hy
                have HVal := Lib.hid (fun V (hv : Below wr.heap.size wr V) => Valid_calls AH cH l p.type A3 c3 V hcH GH ((h.keep (Keep.all bW2)).keep (Keep.all hv)) ol hl _ (r2.keep (Keep.all hv)) r1 (HSX.out p (List.mem_of_getElem? hy)))
                have bw2 : Below wr.heap.size wr (wr.alloc (.cells #[.string p.name, .int .i64 p.type.kind, .string p.type.name, .int .i64 p.type.lo, .int .i64 p.type.hi, .slice A3 p.type.args.length c3] 76)) := (Below.refl _ wr).alloc (Nat.le_refl _) _
                clear hy
                go_wp2_with (fail)
                refine (HVal.out _ bw2).mono ?_
                clear HVal
                rintro e V ⟨hbv, (⟨hn', _⟩ | ⟨_, rfl⟩)⟩
                · exact absurd HL.out hn'
                have bV := bw2.trans (hbv.mono bw2.size)
                by_cases hz : validErr l p.type = 0
                · have HZ := Lib.hid hz
                  have t3 : (validErr l p.type != 0) = false := bne_eq_false_iff_eq.2 hz
                  clear hz
                  go_wp2
                  go_roundw
                  case rel =>
                    refine ⟨j + 1, by omega, by go_num, fun i p' hi hp => ?_, hb2.trans (bV.mono hb2.size)⟩
                    rcases Nat.lt_or_ge i j with q | q
                    · exact HV.out i p' q hp
                    · obtain rfl : i = j := by omega
                      rw [HY.out] at hp; cases hp; exact HZ.out
                  case measure => simp [intOf]; omega
                · have t3 : (validErr l p.type != 0) = true := by rw [bne_iff_ne]; exact hz
                  have HB : Hid (AreMs l ms = false) := Lib.hid (areMs_bad HN0.out HXM.out (parsOk_type (List.mem_of_getElem? HY.out) hz))
                  clear hz
                  go_wp2
                  go_ret
                  exact ⟨(by rw [HB.out]; try rfl), bW2.trans (bV.mono bW2.size)⟩
              · obtain rfl : j = x.pars.length := by omega
                have hM2 : MapF intKey W.heap.size (seenI (seen ++ [x.id])) wr := hM3.keep (Keep.all (G := fun _ => True) hb2) trivial
                go_wp2
                go_roundw
                case rel =>
                  refine ⟨k + 1, by omega, by go_num, ?_, ?_, ?_, bW2⟩
                  · rw [take_snoc HX.out, List.map_append, HSE.out]; exact hM2
                  · rw [take_snoc HX.out, List.map_append]
                    refine List.nodup_append.2 ⟨HND.out, by simp, fun a ha b hb e => ?_⟩
                    simp at hb; subst hb; subst e
                    rw [HSE.out] at ha
                    exact hasI_false.1 HQ.out ha
                  · rw [take_snoc HX.out, List.all_append, HALL.out]
                    have hp1 : parsOk l n0 x = true := by
                      unfold parsOk
                      rw [decide_eq_true (show x.pars.length = n0 by rw [HE.out, HN.out]), decide_eq_true (show x.pars.length ≤ 6 by have := N3.out; omega)]
                      simp only [Bool.true_and, List.all_eq_true, decide_eq_true_eq]
                      intro p hp
                      obtain ⟨i, hi⟩ := List.mem_iff_getElem?.1 hp
                      exact HV.out i p (List.getElem?_eq_some_iff.1 hi).1 hi
                    simp [hp1]
                case measure => simp [intOf]; omega
        · have t2 : ((x.pars.length : Int) != (m0.pars.length : Int)) = true := by rw [bne_iff_ne]; omega
          have HB : Hid (AreMs l ms = false) := Lib.hid (areMs_bad HN0.out HXM.out (by unfold parsOk; rw [decide_eq_false (show ¬ x.pars.length = n0 by rw [← HN.out]; exact n2)]; rfl))
          clear n1 n2
          go_quiet (fail)
          go_wp2
          go_ret
          exact ⟨(by rw [HB.out]; try rfl), bW1.trans ((drewN_below _ _ _).mono bW1.size)⟩
    · obtain rfl : k = ms.length := by omega
      have HB : Hid (AreMs l ms = true) := Lib.hid (by
        have h1 := HND.out; have h2 := HALL.out
        rw [List.take_length] at h1 h2
        unfold AreMs; rw [HN0.out, h2, decide_eq_true h1]; rfl)
      go_wp2
      go_ret
      exact ⟨(by rw [HB.out]; try rfl), hb⟩
end Go.Proofs.YtepnmejahbiacaaGreat
