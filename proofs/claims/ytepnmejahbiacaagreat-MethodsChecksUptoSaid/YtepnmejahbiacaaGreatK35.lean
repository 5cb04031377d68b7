/- Part 35 of the proof: Qv, Qw, Qx. -/
import Derived.Test.YtepnmejahbiacaaGreatK22
import Derived.Test.YtepnmejahbiacaaGreatK19
import Derived.Test.YtepnmejahbiacaaGreatK05
import Derived.Test.YtepnmejahbiacaaGreatK06
import Derived.Test.YtepnmejahbiacaaGreatK07
import Derived.Test.YtepnmejahbiacaaGreatK12
import Derived.Test.YtepnmejahbiacaaGreatK13
import Derived.Test.YtepnmejahbiacaaGreatK14
import Derived.Test.YtepnmejahbiacaaGreatK15
import Derived.Test.YtepnmejahbiacaaGreatK18
import Derived.Test.YtepnmejahbiacaaGreatK25
import Derived.Test.YtepnmejahbiacaaGreatK24
import Derived.Test.YtepnmejahbiacaaGreatK21
import Derived.Test.YtepnmejahbiacaaGreatK08
import Derived.Test.YtepnmejahbiacaaGreatK17
import Derived.Test.YtepnmejahbiacaaGreatK04
import Derived.Test.YtepnmejahbiacaaGreatK10
import Derived.Test.YtepnmejahbiacaaGreatK11
import Derived.Test.YtepnmejahbiacaaGreatK23
import Derived.Test.YtepnmejahbiacaaGreatK26
import Derived.Test.YtepnmejahbiacaaGreatK27
import Derived.Test.YtepnmejahbiacaaGreatK28
import Derived.Test.YtepnmejahbiacaaGreatK31
import Derived.Test.YtepnmejahbiacaaGreatK32
import Derived.Test.YtepnmejahbiacaaGreatK33
import Derived.Test.YtepnmejahbiacaaGreatK34
import Derived.Test.YtepnmejahbiacaaGreatK09
import Derived.Test.YtepnmejahbiacaaGreatK03
import Derived.Test.YtepnmejahbiacaaGreatK16
import Derived.Test.YtepnmejahbiacaaGreatK02
import Derived.Test.YtepnmejahbiacaaGreatK01
import Derived.Test.YtepnmejahbiacaaGreatK20
import Derived.BigQuiet
import Derived.Carry
import Derived.Deep.AppendLies
import Derived.Deep.DrawnRows
import Derived.Deep.Draws
import Derived.Deep.LoopGhost
import Derived.Deep.QuietTactic
import Derived.Deep.RegionHeld3
import Derived.Deep.RegionLaw
import Derived.Deep.RegionWith
import Derived.KernelRfl
import Derived.Laws.EntriesVeiled
import Derived.Laws.OwnMore
import Derived.Lib.Hide
import Derived.Lib.SliceRun
import Derived.LoopIn
import Derived.LoopNIn
import Derived.Maps.AppendAt
import Derived.Maps.Own
import Derived.Maps.OwnIn
import Derived.Outline
import Derived.OwnWalkIn
import Derived.RangeFuncBound
import Derived.RangeFuncCalls
import Derived.RangeFuncLeaves
import Derived.RangeFuncNested
import Derived.Recover
import Derived.StillTailTactics
import Derived.Stop.RegionWithIn
import Derived.TacticsInMore
import Derived.Test.YtepnmejahbiacaaGreatProg
import Derived.WalkKit
import Derived.WalkSpells
set_option linter.unusedVariables false
set_option linter.unusedSimpArgs false
namespace Go.Proofs.YtepnmejahbiacaaGreat
open Go.RowKit
theorem findI_ge {ms : List Meth} {x : Int} (h : hasI (ms.map (·.id)) x = true) : 0 ≤ findI ms x := by
  unfold findI
  cases hq : ms.findIdx? (fun m => decide (m.id = x)) with
  | some i => show (0 : Int) ≤ (i : Int); omega
  | none =>
    rw [List.findIdx?_eq_none_iff] at hq
    obtain ⟨m, hm, e⟩ := List.mem_map.1 (hasI_iff.1 h)
    have := hq m hm
    rw [decide_eq_false_iff_not] at this
    exact absurd e this
theorem chk_len {l : List CI} {ms : List Meth} {ts : List Tag} {x : Meth} (hL : LookOk l) (hn : ¬ 300 < ms.length) (hx : x ∈ ms) (h : x.pars.length ≠ ts.length) : checkAllE l ms ts = 101 := by
  apply checkAllE_meths hL hn
  by_cases h0 : (ms[0]?.map fun m => m.pars.length).getD 0 = ts.length
  · refine .inl (areMs_bad rfl hx ?_)
    unfold parsOk; rw [h0, decide_eq_false h]; rfl
  · exact .inr (.inr ⟨List.length_pos_of_mem hx, h0⟩)
theorem chk_dup {l : List CI} {ms : List Meth} {ts : List Tag} {x : Meth} {k : Nat} (hL : LookOk l) (hn : ¬ 300 < ms.length) (hx : ms[k]? = some x) (h : hasI ((ms.take k).map (·.id)) x.id = true) : checkAllE l ms ts = 101 :=
  checkAllE_meths hL hn (.inl (areMs_dup hx h))
theorem chk_type {l : List CI} {ms : List Meth} {ts : List Tag} {x : Meth} {p : Par} (hL : LookOk l) (hn : ¬ 300 < ms.length) (hx : x ∈ ms) (hp : p ∈ x.pars) (h : validErr l p.type ≠ 0) : checkAllE l ms ts = 101 :=
  checkAllE_meths hL hn (.inl (areMs_bad rfl hx (parsOk_type hp h)))
/-- The first k methods fit. -/
structure ChkUp (l : List CI) (ms : List Meth) (n k : Nat) : Prop where
  nd : ((ms.take k).map (·.id)).Nodup
  all : ∀ (j : Nat) (m : Meth), j < k → ms[j]? = some m → m.pars.length = n ∧ ∀ p ∈ m.pars, validErr l p.type = 0
theorem ChkUp.zero (l : List CI) (ms : List Meth) (n : Nat) : ChkUp l ms n 0 := ⟨by simp, fun j m h => absurd h (by omega)⟩
theorem ChkUp.step {l : List CI} {ms : List Meth} {n k : Nat} {x : Meth} (h : ChkUp l ms n k) (hx : ms[k]? = some x) (hno : hasI ((ms.take k).map (·.id)) x.id = false) (hl : x.pars.length = n) (hv : ∀ (j : Nat) (p : Par), j < n → x.pars[j]? = some p → validErr l p.type = 0) : ChkUp l ms n (k + 1) := by
  refine ⟨?_, fun j m hj hm => ?_⟩
  · rw [take_snoc hx, List.map_append]
    refine List.nodup_append.2 ⟨h.nd, by simp, fun a ha b hb e => ?_⟩
    simp at hb; subst hb; subst e
    exact hasI_false.1 hno ha
  · rcases Nat.lt_or_ge j k with z | z
    · exact h.all j m z hm
    · obtain rfl : j = k := by omega
      rw [hx] at hm; cases hm
      refine ⟨hl, fun p hp => ?_⟩
      obtain ⟨i, hi⟩ := List.mem_iff_getElem?.1 hp
      exact hv i p (by have := (List.getElem?_eq_some_iff.1 hi).1; omega) hi
theorem ChkUp.done {l : List CI} {ms : List Meth} {ts : List Tag} (h : ChkUp l ms ts.length ms.length) (hL : LookOk l) (hn : ¬ 300 < ms.length) (h6 : ¬ 6 < ts.length) : checkAllE l ms ts = if ts.all (tagOk l) then 0 else 82 := by
  have hall : ∀ m ∈ ms, m.pars.length = ts.length ∧ ∀ p ∈ m.pars, validErr l p.type = 0 := fun m hm => by
    obtain ⟨j, hj⟩ := List.mem_iff_getElem?.1 hm
    exact h.all j m (List.getElem?_eq_some_iff.1 hj).1 hj
  have hn0 : 0 < ms.length → (ms[0]?.map fun m => m.pars.length).getD 0 = ts.length := fun h0 => by
    rw [List.getElem?_eq_getElem h0]
    exact (hall _ (List.getElem_mem h0)).1
  refine checkAllE_tags hL hn ?_
  rintro (q | q | ⟨q, r⟩)
  · have : AreMs l ms = true := by
      unfold AreMs
      have hd := h.nd
      rw [List.take_length] at hd
      rw [decide_eq_true hd, Bool.true_and, List.all_eq_true]
      intro m hm
      obtain ⟨a, b⟩ := hall m hm
      unfold parsOk
      rw [hn0 (List.length_pos_of_mem hm), decide_eq_true a, decide_eq_true (show m.pars.length ≤ 6 by omega), Bool.true_and, Bool.true_and, List.all_eq_true]
      exact fun p hp => decide_eq_true (b p hp)
    rw [this] at q; cases q
  · exact h6 q
  · exact r (hn0 q)
set_option maxHeartbeats 16000000 in
set_option maxRecDepth 100000 in
theorem checkAll10_calls (AH : Option Addr) (cH : Nat) (l : List CI) (A : Option Addr) (c : Nat) (ms : List Meth) (AT : Option Addr) (cT : Nat) (ts : List Tag) (W : World) (q : Asks AH cH l A ms AT ts W) (hcM : ms.length ≤ c) :
    Calls Tryz.prog 13 #[.slice AH l.length cH, .slice A ms.length c, .slice AT ts.length cT] W fun e W' => e = .returned (.int .i64 (checkAllE l ms ts)) ∧ Below W.heap.size W W' := by
  obtain ⟨GH, h⟩ := q.h
  obtain ⟨GM, hM⟩ := q.hM
  obtain ⟨GT, hT⟩ := q.hT
  have HC := Lib.hid (check8_calls AH cH l W GH h q.hcH q.ol q.hl)
  have HSH : Hid (∀ V x A c G, Below W.heap.size W V → TySmall x → Held G (Typs A x.args) V → Calls Tryz.prog 49 #[.slice AH l.length cH, tyV x A c] V fun e V' => e = .returned (.int .i64 (validErr l x)) ∧ Below V.heap.size V V') :=
    Lib.hid (fun V x A c G hv hs h2 => shaped8_calls AH cH l q.hl x A c V G GH (h.keep (Keep.all hv)) hs.1 h2)
  have HTG : Hid (LookOk l → ∀ V t, Below W.heap.size W V → Calls Tryz.prog 50 #[.slice AH l.length cH, tagV t] V fun e V' => e = .returned (.bool (tagOk l t)) ∧ Below V.heap.size V V') :=
    Lib.hid (fun hL V t hv => tagged8_calls AH cH l q.hl t V GH (h.keep (Keep.all hv)) hL)
  have HF : Hid (∀ (k : Nat) x V, k ≤ ms.length → Below W.heap.size W V → Calls Tryz.prog 48 #[.slice A k c, .int .i64 x] V fun e V' => e = .returned (.int .i64 (findI (ms.take k) x)) ∧ V' = V) :=
    Lib.hid (fun k x V hk hv => by
      have := find_calls A c (ms.take k) x V GM ((hM.keep (Keep.all hv)).imp fun _ _ hs => Slc.take hs k) (by rw [List.length_take]; have := q.hn; omega)
      rwa [List.length_take, Nat.min_eq_left hk] at this)
  have HM := Lib.hid hM
  have HS := Lib.hid q.hs
  have HCM := Lib.hid hcM
  have hcMi : (ms.length : Int) ≤ (c : Int) := by omega
  clear h hM q
  go_enter Tryz.func13, Tryz.ntmps13
  go_wp2_with (fail)
  refine HC.out.mono ?_
  clear HC
  rintro e V ⟨hbv, (⟨hL, rfl⟩ | ⟨hL, rfl⟩)⟩
  rotate_left
  · have HE := Lib.hid (checkAllE_hier (ms := ms) (ts := ts) hL)
    clear hL
    go_wp2
    go_ret
    exact ⟨(by rw [HE.out]; try rfl), hbv⟩
  have HL := Lib.hid hL
  clear hL
  by_cases h3 : 300 < ms.length
  · have h3' : (300 : Int) < (ms.length : Int) := by omega
    have HE := Lib.hid (checkAllE_long (ts := ts) HL.out h3)
    go_wp2
    go_ret
    exact ⟨(by rw [HE.out]; try rfl), hbv⟩
  have h3' : ¬ (300 : Int) < (ms.length : Int) := by omega
  have H3 := Lib.hid h3
  clear h3
  by_cases h6 : 6 < ts.length
  · have h6' : (6 : Int) < (ts.length : Int) := by omega
    have HE := Lib.hid (checkAllE_meths (ms := ms) HL.out H3.out (.inr (.inl h6)))
    go_wp2
    go_ret
    exact ⟨(by rw [HE.out]; try rfl), hbv⟩
  have h6' : ¬ (6 : Int) < (ts.length : Int) := by omega
  have H6 := Lib.hid h6
  clear h6
  go_wp2_with (fail)
  go_loopw [8] (fun i wr => ∃ k : Nat, k ≤ ms.length ∧ i = .int .i64 k ∧ ChkUp l ms ts.length k ∧ Below W.heap.size W wr) (fun i _ => ms.length - (intOf i).toNat)
  case atStart => exact ⟨0, Nat.zero_le _, rfl, ChkUp.zero _ _ _, hbv⟩
  case round =>
    obtain ⟨k, hk, rfl, hup, hbr⟩ := hrel
    have HUP := Lib.hid hup
    clear hup
    by_cases hlt : k < ms.length
    · obtain ⟨b, off, rfl⟩ := Slc.addrH HM.out (by omega)
      have hx : ms[k]? = some ms[k] := List.getElem?_eq_getElem hlt
      have hxm : ms[k] ∈ ms := List.getElem_mem hlt
      generalize ms[k] = x at hx hxm
      have HX := Lib.hid hx
      have HXM := Lib.hid hxm
      obtain ⟨A1, c1, A2, c2, p1, p2, p3, p4, g0, g1, g2, g3, g4, g5, g6, g7⟩ := Meths.atH (HM.out.keep (Keep.all hbr)) hx
      clear hx hxm g1 g3 g4 g5 g6 g7 p3 p4
      have w1 : (0 : Int) ≤ (k : Int) := by omega
      have w2 : (k : Int) < (ms.length : Int) := by omega
      have w3 : k ≤ c := by omega
      by_cases hpl : x.pars.length = ts.length
      rotate_left
      · have HE := Lib.hid (chk_len HL.out H3.out HXM.out hpl)
        have t2 : ((x.pars.length : Int) != (ts.length : Int)) = true := by rw [bne_iff_ne]; omega
        clear hpl
        go_wp2_with (fail)
        go_quiet (fail)
        go_wp2
        go_ret
        exact ⟨(by rw [HE.out]; try rfl), hbr.trans ((Drw.of _ _).below _)⟩
      have HPL := Lib.hid hpl
      have t2 : ((x.pars.length : Int) != (ts.length : Int)) = false := bne_eq_false_iff_eq.2 (by omega)
      clear hpl
      have HFI := Lib.hid (fun V (hv : Drw wr V) => HF.out k x.id V hk (hbr.trans (hv.below _)))
      have HFA : Hid (∀ y, findI (ms.take k) x.id = y → (0 ≤ y → hasI ((ms.take k).map (·.id)) x.id = true) ∧ (¬ 0 ≤ y → hasI ((ms.take k).map (·.id)) x.id = false)) := Lib.hid (fun y hy => by
        cases hh : hasI ((ms.take k).map (·.id)) x.id with
        | true => exact ⟨fun _ => rfl, fun q => absurd (hy ▸ findI_ge hh) q⟩
        | false => exact ⟨fun q => absurd q (by rw [← hy, findI_none hh]; decide), fun _ => rfl⟩)
      obtain ⟨fi, hfi⟩ : ∃ fi, findI (ms.take k) x.id = fi := ⟨_, rfl⟩
      have HFA2 := Lib.hid (HFA.out fi hfi)
      rw [hfi] at HFI
      clear hfi HFA
      by_cases hf0 : 0 ≤ fi
      · have HE := Lib.hid (chk_dup (ts := ts) HL.out H3.out HX.out (HFA2.out.1 hf0))
        go_wp2_with (fail)
        go_quiet ((go_at_call 48; exact (HFI.out _ (by first | exact Drw.of _ _ | exact (Drw.of _ _).drewN _)).mono fun _ _ ⟨a, b⟩ => ⟨a, _, b⟩))
        go_wp2
        go_ret
        exact ⟨(by rw [HE.out]; try rfl), hbr.trans ((Drw.of _ _).below _)⟩
      have HNO := Lib.hid (HFA2.out.2 hf0)
      go_wp2_with (fail)
      go_quiet ((go_at_call 48; exact (HFI.out _ (by first | exact Drw.of _ _ | exact (Drw.of _ _).drewN _)).mono fun _ _ ⟨a, b⟩ => ⟨a, _, b⟩))
      have hbq : Below wr.heap.size wr (wr.drewN nq) := (Drw.of _ _).below _
      have G2 := Lib.hid g2
      have P2 := Lib.hid p2
      clear g0 g2 p2 HFI HFA2
      go_wp2_with (fail)
      go_loopw [9] (fun i w2 => ∃ j : Nat, j ≤ ts.length ∧ i = .int .i64 j ∧ (∀ (i : Nat) (p : Par), i < j → x.pars[i]? = some p → validErr l p.type = 0) ∧ Below wr.heap.size wr w2) (fun i _ => ts.length - (intOf i).toNat)
      case atStart => exact ⟨0, Nat.zero_le _, rfl, fun i p h => absurd h (by omega), hbq⟩
      case round =>
        obtain ⟨j, hj, rfl, hv, hb2⟩ := hrel
        have HV := Lib.hid hv
        clear hv hbq
        have bW2 := below_step hbr hb2
        by_cases hjl : j < ts.length
        · have hjl2 : j < x.pars.length := by rw [HPL.out]; exact hjl
          obtain ⟨bp, offp, rfl⟩ := Slc.addrH P2.out (by omega)
          have hy : x.pars[j]? = some x.pars[j] := List.getElem?_eq_getElem hjl2
          generalize x.pars[j] = p at hy
          have HY := Lib.hid hy
          obtain ⟨A3, c3, r1, r2, g0, g1, g2, g3, g4, g5⟩ := Pars.atH (P2.out.keep (Keep.all hb2)) hy
          have m2 := cell_all G2.out hb2
          have HVal := Lib.hid (HSH.out _ p.type A3 c3 _ bW2 (HS.out x HXM.out p (List.mem_of_getElem? hy)) r2)
          have w5 : (0 : Int) ≤ (j : Int) := by omega
          have w6 : (j : Int) < (x.pars.length : Int) := by omega
          obtain ⟨ve, hve⟩ : ∃ ve, validErr l p.type = ve := ⟨_, rfl⟩
          rw [hve] at HVal
          have HVE := Lib.hid hve
          clear hy hve g0 r1 r2 t2
          go_wp2_with (fail)
          refine HVal.out.mono ?_
          clear HVal
          rintro e V2 ⟨rfl, hb3⟩
          have hb4 := below_step hb2 hb3
          by_cases hz : ve = 0
          · subst hz
            go_wp2
            go_roundw
            case rel =>
              refine ⟨j + 1, by omega, by go_num, fun i p' hi hp => ?_, hb4⟩
              rcases Nat.lt_or_ge i j with q | q
              · exact HV.out i p' q hp
              · obtain rfl : i = j := by omega
                rw [HY.out] at hp; cases hp; exact HVE.out
            case measure => simp [intOf]; omega
          · have t3 : (ve != 0) = true := by rw [bne_iff_ne]; exact hz
            have HE := Lib.hid (chk_type (ts := ts) HL.out H3.out HXM.out (List.mem_of_getElem? HY.out) (fun q => hz (HVE.out.symm.trans q)))
            clear hz
            go_wp2
            go_ret
            exact ⟨(by rw [HE.out]; try rfl), below_step hbr hb4⟩
        · obtain rfl : j = ts.length := by omega
          have HUP2 := Lib.hid (HUP.out.step HX.out HNO.out HPL.out HV.out)
          go_wp2
          go_roundw
          case rel => exact ⟨k + 1, by omega, by go_num, HUP2.out, bW2⟩
          case measure => simp [intOf]; omega
    · obtain rfl : k = ms.length := by omega
      have HNE := Lib.hid (HUP.out.done HL.out H3.out H6.out)
      clear HUP
      go_wp2_with (fail)
      go_loopw [10] (fun i w2 => ∃ j : Nat, j ≤ ts.length ∧ i = .int .i64 j ∧ (∀ (i : Nat) (t : Tag), i < j → ts[i]? = some t → tagOk l t = true) ∧ Below W.heap.size W w2) (fun i _ => ts.length - (intOf i).toNat)
      case atStart => exact ⟨0, Nat.zero_le _, rfl, fun i t h => absurd h (by omega), hbr⟩
      case round =>
        obtain ⟨j, hj, rfl, hok, hb2⟩ := hrel
        have HOK := Lib.hid hok
        clear hok
        by_cases hjl : j < ts.length
        · obtain ⟨bt, ot, rfl⟩ := Slc.addrH hT (by omega)
          have hx : ts[j]? = some ts[j] := List.getElem?_eq_getElem hjl
          generalize ts[j] = t at hx
          have HY := Lib.hid hx
          obtain ⟨d0, d1, d2⟩ := Tags.atH (hT.keep (Keep.all hb2)) hx
          have HTT := Lib.hid (HTG.out HL.out _ t hb2)
          have w5 : (0 : Int) ≤ (j : Int) := by omega
          have w6 : (j : Int) < (ts.length : Int) := by omega
          clear hx
          cases hto : tagOk l t with
          | true =>
            have HTO := Lib.hid hto
            rw [hto] at HTT
            clear hto
            go_wp2_with (fail)
            refine HTT.out.mono ?_
            clear HTT
            rintro e V3 ⟨rfl, hb3⟩
            go_wp2
            go_roundw
            case rel =>
              refine ⟨j + 1, by omega, by go_num, fun i t' hi ht' => ?_, below_step hb2 hb3⟩
              rcases Nat.lt_or_ge i j with z | z
              · exact HOK.out i t' z ht'
              · obtain rfl : i = j := by omega
                rw [HY.out] at ht'; cases ht'; exact HTO.out
            case measure => simp [intOf]; omega
          | false =>
            have HE : Hid (checkAllE l ms ts = 82) := Lib.hid (by
              rw [HNE.out]
              have : ts.all (tagOk l) = false := List.all_eq_false.2 ⟨t, List.mem_of_getElem? HY.out, by rw [hto]; decide⟩
              rw [this]; rfl)
            rw [hto] at HTT
            clear hto
            go_wp2_with (fail)
            refine HTT.out.mono ?_
            clear HTT
            rintro e V3 ⟨rfl, hb3⟩
            go_wp2
            go_ret
            exact ⟨(by rw [HE.out]; try rfl), below_step hb2 hb3⟩
        · obtain rfl : j = ts.length := by omega
          have HE : Hid (checkAllE l ms ts = 0) := Lib.hid (by
            rw [HNE.out]
            have : ts.all (tagOk l) = true := List.all_eq_true.2 fun t ht => by
              obtain ⟨j, hj⟩ := List.mem_iff_getElem?.1 ht
              exact HOK.out j t (List.getElem?_eq_some_iff.1 hj).1 hj
            rw [this]; rfl)
          go_wp2
          go_ret
          exact ⟨(by rw [HE.out]; try rfl), hb2⟩
end Go.Proofs.YtepnmejahbiacaaGreat
set_option linter.unusedVariables false
set_option linter.unusedSimpArgs false
namespace Go.Proofs.YtepnmejahbiacaaGreat
open Go.RowKit
attribute [local go_sem ↓] Go.wp_at_zero Go.wp_at_succ
/-- Which of the parameters a method's arguments have. -/
def fitsUp (l : List CI) (ts : List Tag) (m : Meth) (k : Nat) : Prop := ∀ (j : Nat) (p : Par) (t : Tag), j < k → m.pars[j]? = some p → ts[j]? = some t → hasTF l t p.type = true
theorem fits_app {l : List CI} {ts : List Tag} {m : Meth} (hL : LookOk l) (hv : ∀ p ∈ m.pars, validErr l p.type = 0) (ht : ∀ t ∈ ts, tagOk l t = true) (h : fitsUp l ts m ts.length) : appB l ts m = true :=
  appB_true fun i p t hp hq => ⟨hL, ht t (List.mem_of_getElem? hq), hv p (List.mem_of_getElem? hp), h i p t (List.getElem?_eq_some_iff.1 hq).1 hp hq⟩
theorem fits_not {l : List CI} {ts : List Tag} {m : Meth} {i : Nat} {p : Par} {t : Tag} (hp : m.pars[i]? = some p) (hq : ts[i]? = some t) (h : hasTF l t p.type = false) : appB l ts m = false :=
  appB_false fun q => by
    have := (q i p t hp hq).2.2.2
    rw [h] at this; cases this
set_option maxHeartbeats 16000000 in
set_option maxRecDepth 100000 in
theorem applies10_calls (AH : Option Addr) (cH : Nat) (l : List CI) (m : Meth) (A1 A2 : Option Addr) (c1 c2 : Nat) (AT : Option Addr) (cT : Nat) (ts : List Tag) (W : World) (hi : HiIn W AH cH l) (hm : MetIn W m A1 A2 c1 c2) (hT : ∃ G, Held G (Tags AT ts) W) (hts : ts.length ≤ 1000000)
    (hL : LookOk l) (hpl : m.pars.length = ts.length) (hv : ∀ p ∈ m.pars, validErr l p.type = 0) (hok : ∀ t ∈ ts, tagOk l t = true) :
    Calls Tryz.prog 43 #[.slice AH l.length cH, metV m A1 c1 A2 c2, .slice AT ts.length cT] W fun e W' => e = .returned (.bool (appB l ts m)) ∧ Below W.heap.size W W' := by
  obtain ⟨W1, hW1⟩ : ∃ W1, W1 = W.alloc (.cells #[.int .i64 m.id, .string m.lib, .slice A1 m.pars.length c1, .int .i64 m.result.kind, .string m.result.name, .int .i64 m.result.lo, .int .i64 m.result.hi, .slice A2 m.result.args.length c2] 68) := ⟨_, rfl⟩
  have b1 : Below W.heap.size W W1 := by rw [hW1]; exact (Below.refl _ W).alloc (Nat.le_refl _) _
  have x2 : W1.cell? ⟨W.heap.size, 2, none⟩ = some (.slice A1 m.pars.length c1) := by rw [hW1]; exact cell_new W _ _ _ rfl 2 _ rfl
  obtain ⟨GT, hT⟩ := hT
  obtain ⟨GP, hP⟩ := hm.h2
  obtain ⟨GH, hH⟩ := hi.h
  have HFT : Hid (∀ V t x A c G, Below W.heap.size W V → TySmall x → Held G (Typs A x.args) V → Calls Tryz.prog 77 #[.slice AH l.length cH, tagV t, tyV x A c] V fun e V' => e = .returned (.bool (hasTF l t x)) ∧ Below V.heap.size V V') :=
    Lib.hid (fun V t x A c G hb hs hx => fits8_calls AH cH l hi.hl (cpl_short hL) hL t x.count x (Nat.le_refl _) A c V G GH (hH.keep (Keep.all hb)) hs.all hx)
  have HAP : Hid (fitsUp l ts m ts.length → appB l ts m = true) := Lib.hid (fits_app hL hv hok)
  have HTG := Lib.hid (hT.keep (Keep.all b1))
  have HPG := Lib.hid (hP.keep (Keep.all b1))
  have HS := Lib.hid hm.hs
  have HPL := Lib.hid hpl
  clear hT hP hH hi hm hv hok hL hpl
  go_enter Tryz.func43, Tryz.ntmps43
  go_wp2_with (fail)
  rw [← hW1]
  clear hW1
  go_loopw [7] (fun i wr => ∃ k : Nat, k ≤ ts.length ∧ i = .int .i64 k ∧ fitsUp l ts m k ∧ Below W1.heap.size W1 wr) (fun i _ => ts.length - (intOf i).toNat)
  case atStart => exact ⟨0, Nat.zero_le _, rfl, fun j p t h => absurd h (by omega), Below.refl _ _⟩
  case round =>
    obtain ⟨k, hk, rfl, hup, hb⟩ := hrel
    have HUP := Lib.hid hup
    clear hup
    have q1 := below_step b1 hb
    by_cases hlt : k < ts.length
    · obtain ⟨bt, ot, rfl⟩ := Slc.addrH HTG.out (by omega)
      have hlp : k < m.pars.length := by rw [HPL.out]; exact hlt
      obtain ⟨bp, op, rfl⟩ := Slc.addrH HPG.out (by omega)
      have hx : ts[k]? = some ts[k] := List.getElem?_eq_getElem hlt
      generalize ts[k] = t at hx
      have hy : m.pars[k]? = some m.pars[k] := List.getElem?_eq_getElem hlp
      generalize m.pars[k] = p at hy
      have HX := Lib.hid hx
      have HY := Lib.hid hy
      obtain ⟨d0, d1, d2⟩ := Tags.atH (HTG.out.keep (Keep.all hb)) hx
      obtain ⟨A3, c3, r1, r2, g0, g1, g2, g3, g4, g5⟩ := Pars.atH (HPG.out.keep (Keep.all hb)) hy
      have m2 := cell_all x2 hb
      have HST := Lib.hid (fun V (hv : Below wr.heap.size wr V) => HFT.out V t p.type A3 c3 _ (below_step q1 hv) (HS.out p (List.mem_of_getElem? HY.out)) (r2.keep (Keep.all hv)))
      have w1 : (0 : Int) ≤ (k : Int) := by omega
      have w2 : (k : Int) < (ts.length : Int) := by omega
      have w3 : (k : Int) < (m.pars.length : Int) := by omega
      clear hx hy r1 r2 g0
      obtain ⟨fx, hfx⟩ : ∃ fx, hasTF l t p.type = fx := ⟨_, rfl⟩
      have HFX := Lib.hid hfx
      rw [hfx] at HST
      clear hfx
      have HK := Lib.hid hlt
      go_wp2_with (fail)
      go_region_held3 (fun w' => Below wr.heap.size wr w' ∧ w'.cell? ⟨W.heap.size, 2, none⟩ = some (.slice (some ⟨bp, op, none⟩) m.pars.length c1) ∧ w'.cell? ⟨bt, ot + k * 3, none⟩ = some (.int .i64 t.kind) ∧ w'.cell? ⟨bt, ot + k * 3 + 1, none⟩ = some (.int .i64 t.num) ∧ w'.cell? ⟨bt, ot + k * 3 + 2, none⟩ = some (.string t.name) ∧
          w'.cell? ⟨bp, op + k * 6 + 1, none⟩ = some (.int .i64 p.type.kind) ∧ w'.cell? ⟨bp, op + k * 6 + 2, none⟩ = some (.string p.type.name) ∧ w'.cell? ⟨bp, op + k * 6 + 3, none⟩ = some (.int .i64 p.type.lo) ∧ w'.cell? ⟨bp, op + k * 6 + 4, none⟩ = some (.int .i64 p.type.hi) ∧ w'.cell? ⟨bp, op + k * 6 + 5, none⟩ = some (.slice A3 p.type.args.length c3))
        (first | exact ⟨(Below.refl _ wr).drew, m2, d0, d1, d2, g1, g2, g3, g4, g5⟩ | (go_split_ands; exact ⟨below_step (by assumption) hbu, cell_all (by assumption) hbu, cell_all (by assumption) hbu, cell_all (by assumption) hbu, cell_all (by assumption) hbu, cell_all (by assumption) hbu, cell_all (by assumption) hbu, cell_all (by assumption) hbu, cell_all (by assumption) hbu, cell_all (by assumption) hbu⟩))
        ((go_at_call 77; refine (HST.out _ (by go_split_ands; assumption)).mono ?_; rintro e U ⟨rfl, hbu⟩))
      have hb5 : Below wr.heap.size wr U := by go_split_ands; assumption
      have hb6 := below_step hb hb5
      go_split_ands
      clear HST
      cases fx with
      | false =>
        have HR := Lib.hid (fits_not HY.out HX.out HFX.out)
        have qf := below_step b1 hb6
        go_wp2
        go_ret
        exact ⟨by rw [HR.out]; try rfl, qf⟩
      | true =>
        have HN : Hid (fitsUp l ts m (k + 1)) := Lib.hid (fun j p' t' hj hp' ht' => by
          rcases Nat.lt_or_ge j k with z | z
          · exact HUP.out j p' t' z hp' ht'
          · obtain rfl : j = k := by omega
            rw [HX.out] at ht'; cases ht'
            rw [HY.out] at hp'; cases hp'
            exact HFX.out)
        go_wp2
        go_roundw
        case rel => exact ⟨k + 1, by have := HK.out; omega, by go_num, HN.out, hb6⟩
        case measure => have := HK.out; simp [intOf]; omega
    · obtain rfl : k = ts.length := by omega
      have HR := Lib.hid (HAP.out HUP.out)
      go_wp2
      go_ret
      exact ⟨by rw [HR.out]; try rfl, q1⟩
theorem filter_step {α : Type} {p : α → Bool} {l : List α} {k : Nat} {x : α} (hx : l[k]? = some x) : (l.take (k + 1)).filter p = (l.take k).filter p ++ (if p x = true then [x] else []) := by
  rw [take_snoc hx, List.filter_append]
  cases h : p x <;> simp [h]
end Go.Proofs.YtepnmejahbiacaaGreat
set_option linter.unusedVariables false
set_option linter.unusedSimpArgs false
namespace Go.Proofs.YtepnmejahbiacaaGreat
open Go.RowKit
attribute [local go_sem ↓] Go.wp_at_zero Go.wp_at_succ
/-- Two methods as an array. -/
def twoMet (a b : Meth) (Aa Ar Ba Br : Option Addr) (ca cr cb cq : Nat) : Value := .agg #[.int .i64 a.id, .string a.lib, .slice Aa a.pars.length ca, .int .i64 a.result.kind, .string a.result.name, .int .i64 a.result.lo, .int .i64 a.result.hi, .slice Ar a.result.args.length cr,
  .int .i64 b.id, .string b.lib, .slice Ba b.pars.length cb, .int .i64 b.result.kind, .string b.result.name, .int .i64 b.result.lo, .int .i64 b.result.hi, .slice Br b.result.args.length cq]
theorem relOf_cases (n : Int) : (n = 0 ∧ relOf n = 2) ∨ (n = 1 ∧ relOf n = 1) ∨ (n ≠ 0 ∧ n ≠ 1 ∧ relOf n ≠ 1 ∧ relOf n ≠ 2) := by
  unfold relOf
  by_cases h0 : n = 0
  · exact .inl ⟨h0, by rw [if_pos h0]⟩
  · by_cases h1 : n = 1
    · exact .inr (.inl ⟨h1, by rw [if_neg h0, if_pos h1]⟩)
    · refine .inr (.inr ⟨h0, h1, ?_, ?_⟩)
      · rw [if_neg h0, if_neg h1]; split <;> decide
      · rw [if_neg h0, if_neg h1]; split <;> decide
/-- The first k arguments do not speak against it. -/
def precUp (l : List CI) (ts : List Tag) (a b : Meth) (k : Nat) : Prop := ∀ j, j < k → cmpAt l ts a b j = 0 ∨ cmpAt l ts a b j = 1
theorem precUp.step {l : List CI} {ts : List Tag} {a b : Meth} {k : Nat} (h : precUp l ts a b k) (hk : cmpAt l ts a b k = 0 ∨ cmpAt l ts a b k = 1) : precUp l ts a b (k + 1) := fun j hj => by
  rcases Nat.lt_or_ge j k with z | z
  · exact h j z
  · obtain rfl : j = k := by omega
    exact hk
theorem precUp.done {l : List CI} {ts : List Tag} {a b : Meth} (hp : a.pars.length = ts.length) (h : precUp l ts a b ts.length) : precB l ts a b = (List.range ts.length).any fun i => decide (cmpAt l ts a b i = 1) := by
  rw [precB_true (by rw [hp]; exact h), hp]
set_option maxHeartbeats 16000000 in
set_option maxRecDepth 100000 in
theorem precedes10_calls (AH : Option Addr) (cH : Nat) (l : List CI) (hL : LookOk l) (a b : Meth) (Aa Ar Ba Br : Option Addr) (ca cr cb cq : Nat) (AT : Option Addr) (cT : Nat) (ts : List Tag) (W : World) (hi : HiIn W AH cH l) (ha : MetIn W a Aa Ar ca cr) (hb : MetIn W b Ba Br cb cq) (hT : ∃ G, Held G (Tags AT ts) W) (hts : ts.length ≤ 1000000)
    (hpa : a.pars.length = ts.length) (hpb : b.pars.length = ts.length) (hva : ∀ p ∈ a.pars, validErr l p.type = 0) (hvb : ∀ p ∈ b.pars, validErr l p.type = 0) :
    Calls Tryz.prog 73 #[.slice AH l.length cH, twoMet a b Aa Ar Ba Br ca cr cb cq, .slice AT ts.length cT] W fun e W' => e = .returned (.bool (precB l ts a b)) ∧ Below W.heap.size W W' := by
  obtain ⟨W1, hW1⟩ : ∃ W1, W1 = W.alloc (.cells #[.int .i64 a.id, .string a.lib, .slice Aa a.pars.length ca, .int .i64 a.result.kind, .string a.result.name, .int .i64 a.result.lo, .int .i64 a.result.hi, .slice Ar a.result.args.length cr,
    .int .i64 b.id, .string b.lib, .slice Ba b.pars.length cb, .int .i64 b.result.kind, .string b.result.name, .int .i64 b.result.lo, .int .i64 b.result.hi, .slice Br b.result.args.length cq] 70) := ⟨_, rfl⟩
  have b1 : Below W.heap.size W W1 := by rw [hW1]; exact (Below.refl _ W).alloc (Nat.le_refl _) _
  have x2 : W1.cell? ⟨W.heap.size, 2, none⟩ = some (.slice Aa a.pars.length ca) := by rw [hW1]; exact cell_new W _ _ _ rfl 2 _ rfl
  have x10 : W1.cell? ⟨W.heap.size, 10, none⟩ = some (.slice Ba b.pars.length cb) := by rw [hW1]; exact cell_new W _ _ _ rfl 10 _ rfl
  obtain ⟨GT, hT⟩ := hT
  obtain ⟨GP, hP⟩ := ha.h2
  obtain ⟨GQ, hQ⟩ := hb.h2
  have HRE : Hid (∀ V t x y A c A' c', Below W.heap.size W V → TyIn V x A c → TyIn V y A' c' → validErr l x = 0 → validErr l y = 0 → Calls Tryz.prog 59 #[.slice AH l.length cH, tyV x A c, tyV y A' c', tagV t] V fun e V' => e = .returned (.int .i64 (relOf (cmpT l (cplAt l t) x y))) ∧ Below V.heap.size V V') :=
    Lib.hid (fun V t x y A c A' c' hv hx hy h1 h2 => relation10_calls AH cH l hL x y A A' c c' t V (hi.keep hv) hx hy (validErr_leafs h1) (validErr_leafs h2))
  have HTG := Lib.hid (hT.keep (Keep.all b1))
  have HPG := Lib.hid (hP.keep (Keep.all b1))
  have HQG := Lib.hid (hQ.keep (Keep.all b1))
  have HSA := Lib.hid ha.hs
  have HSB := Lib.hid hb.hs
  have HPA := Lib.hid hpa
  have HPB := Lib.hid hpb
  have HVA := Lib.hid hva
  have HVB := Lib.hid hvb
  have HC : Hid (∀ (k : Nat) t x y, ts[k]? = some t → a.pars[k]? = some x → b.pars[k]? = some y → cmpAt l ts a b k = cmpT l (cplAt l t) x.type y.type) := Lib.hid (fun k t x y h1 h2 h3 => by unfold cmpAt; rw [h1, h2, h3])
  clear hT hP hQ hi ha hb hva hvb hpa hpb
  unfold twoMet
  go_enter Tryz.func73, Tryz.ntmps73
  go_wp2_with (fail)
  rw [← hW1]
  clear hW1
  go_loopw [7, 8] (fun v i wr => ∃ k : Nat, k ≤ ts.length ∧ i = .int .i64 k ∧ v = .bool ((List.range k).any fun i => decide (cmpAt l ts a b i = 1)) ∧ precUp l ts a b k ∧ Below W1.heap.size W1 wr) (fun _ i _ => ts.length - (intOf i).toNat)
  case atStart => exact ⟨0, Nat.zero_le _, rfl, rfl, fun j h => absurd h (by omega), Below.refl _ _⟩
  case round =>
    obtain ⟨k, hk, rfl, rfl, hup, hb⟩ := hrel
    have HUP := Lib.hid hup
    clear hup
    have q1 := below_step b1 hb
    by_cases hlt : k < ts.length
    · obtain ⟨bt, ot, rfl⟩ := Slc.addrH HTG.out (by omega)
      have hlp : k < a.pars.length := by rw [HPA.out]; exact hlt
      have hlq : k < b.pars.length := by rw [HPB.out]; exact hlt
      obtain ⟨bp, op, rfl⟩ := Slc.addrH HPG.out (by omega)
      obtain ⟨bq, oq, rfl⟩ := Slc.addrH HQG.out (by omega)
      have hx : ts[k]? = some ts[k] := List.getElem?_eq_getElem hlt
      generalize ts[k] = t at hx
      have hy : a.pars[k]? = some a.pars[k] := List.getElem?_eq_getElem hlp
      generalize a.pars[k] = p at hy
      have hz : b.pars[k]? = some b.pars[k] := List.getElem?_eq_getElem hlq
      generalize b.pars[k] = r at hz
      have HCK := Lib.hid (HC.out k t p r hx hy hz)
      obtain ⟨d0, d1, d2⟩ := Tags.atH (HTG.out.keep (Keep.all hb)) hx
      obtain ⟨A3, c3, r1, r2, g0, g1, g2, g3, g4, g5⟩ := Pars.atH (HPG.out.keep (Keep.all hb)) hy
      obtain ⟨A4, c4, s1, s2, e0, e1, e2, e3, e4, e5⟩ := Pars.atH (HQG.out.keep (Keep.all hb)) hz
      have m2 := cell_all x2 hb
      have m10 := cell_all x10 hb
      have HST : Hid (∀ V, Below wr.heap.size wr V → Calls Tryz.prog 59 #[.slice AH l.length cH, tyV p.type A3 c3, tyV r.type A4 c4, tagV t] V fun e V' => e = .returned (.int .i64 (relOf (cmpT l (cplAt l t) p.type r.type))) ∧ Below V.heap.size V V') := Lib.hid (fun V hv =>
        HRE.out V t p.type r.type A3 c3 A4 c4 (below_step q1 hv) ⟨r1, ⟨_, r2.keep (Keep.all hv)⟩, HSA.out p (List.mem_of_getElem? hy)⟩ ⟨s1, ⟨_, s2.keep (Keep.all hv)⟩, HSB.out r (List.mem_of_getElem? hz)⟩ (HVA.out p (List.mem_of_getElem? hy)) (HVB.out r (List.mem_of_getElem? hz)))
      rw [← HCK.out] at HST
      have HRC := Lib.hid (relOf_cases (cmpAt l ts a b k))
      have w1 : (0 : Int) ≤ (k : Int) := by omega
      have w2 : (k : Int) < (ts.length : Int) := by omega
      have w3 : (k : Int) < (a.pars.length : Int) := by omega
      have w4 : (k : Int) < (b.pars.length : Int) := by omega
      clear hx hy hz r1 r2 g0 s1 s2 e0
      have HK := Lib.hid hlt
      have HLP := Lib.hid hlp
      have HAN : Hid ((List.range (k + 1)).any (fun i => decide (cmpAt l ts a b i = 1)) = ((List.range k).any (fun i => decide (cmpAt l ts a b i = 1)) || decide (cmpAt l ts a b k = 1))) := Lib.hid (range_any_snoc _ _)
      have HFA : Hid (cmpAt l ts a b k ≠ 0 → cmpAt l ts a b k ≠ 1 → precB l ts a b = false) := Lib.hid (fun h0 h1 => precB_false HLP.out h0 h1)
      have HUS : Hid (cmpAt l ts a b k = 0 ∨ cmpAt l ts a b k = 1 → precUp l ts a b (k + 1)) := Lib.hid (fun h => HUP.out.step h)
      clear HC hlp hlq
      generalize cmpAt l ts a b k = cn at HST HRC HAN HFA HUS
      generalize hrn : relOf cn = rn at HST HRC
      clear hrn
      generalize hso : (List.range k).any (fun i => decide (cmpAt l ts a b i = 1)) = so at HAN
      clear hso
      go_wp2_with (fail)
      go_region_held3 (fun w' => Below wr.heap.size wr w' ∧ w'.cell? ⟨W.heap.size, 2, none⟩ = some (.slice (some ⟨bp, op, none⟩) a.pars.length ca) ∧ w'.cell? ⟨W.heap.size, 10, none⟩ = some (.slice (some ⟨bq, oq, none⟩) b.pars.length cb) ∧ w'.cell? ⟨bt, ot + k * 3, none⟩ = some (.int .i64 t.kind) ∧ w'.cell? ⟨bt, ot + k * 3 + 1, none⟩ = some (.int .i64 t.num) ∧ w'.cell? ⟨bt, ot + k * 3 + 2, none⟩ = some (.string t.name) ∧
          w'.cell? ⟨bp, op + k * 6 + 1, none⟩ = some (.int .i64 p.type.kind) ∧ w'.cell? ⟨bp, op + k * 6 + 2, none⟩ = some (.string p.type.name) ∧ w'.cell? ⟨bp, op + k * 6 + 3, none⟩ = some (.int .i64 p.type.lo) ∧ w'.cell? ⟨bp, op + k * 6 + 4, none⟩ = some (.int .i64 p.type.hi) ∧ w'.cell? ⟨bp, op + k * 6 + 5, none⟩ = some (.slice A3 p.type.args.length c3) ∧
          w'.cell? ⟨bq, oq + k * 6 + 1, none⟩ = some (.int .i64 r.type.kind) ∧ w'.cell? ⟨bq, oq + k * 6 + 2, none⟩ = some (.string r.type.name) ∧ w'.cell? ⟨bq, oq + k * 6 + 3, none⟩ = some (.int .i64 r.type.lo) ∧ w'.cell? ⟨bq, oq + k * 6 + 4, none⟩ = some (.int .i64 r.type.hi) ∧ w'.cell? ⟨bq, oq + k * 6 + 5, none⟩ = some (.slice A4 r.type.args.length c4))
        (first | exact ⟨(Below.refl _ wr).drew, m2, m10, d0, d1, d2, g1, g2, g3, g4, g5, e1, e2, e3, e4, e5⟩ | (go_split_ands; exact ⟨below_step (by assumption) hbu, cell_all (by assumption) hbu, cell_all (by assumption) hbu, cell_all (by assumption) hbu, cell_all (by assumption) hbu, cell_all (by assumption) hbu, cell_all (by assumption) hbu, cell_all (by assumption) hbu, cell_all (by assumption) hbu, cell_all (by assumption) hbu, cell_all (by assumption) hbu, cell_all (by assumption) hbu, cell_all (by assumption) hbu, cell_all (by assumption) hbu, cell_all (by assumption) hbu, cell_all (by assumption) hbu⟩))
        ((go_at_call 59; refine (HST.out _ (by go_split_ands; assumption)).mono ?_; rintro e U ⟨rfl, hbu⟩))
      have hb5 : Below wr.heap.size wr U := by go_split_ands; assumption
      have hb6 := below_step hb hb5
      go_split_ands
      clear HST
      rcases HRC.out with ⟨rfl, rfl⟩ | ⟨rfl, rfl⟩ | ⟨h1, h2, h3, h4⟩
      · have HU2 := Lib.hid (HUS.out (.inl rfl))
        cases so
        all_goals
          go_wp2
          go_roundw
          case rel => exact ⟨k + 1, by have := HK.out; omega, by go_num, by rw [HAN.out]; try rfl, HU2.out, hb6⟩
          case measure => have := HK.out; simp [intOf]; omega
      · have HU2 := Lib.hid (HUS.out (.inr rfl))
        cases so
        all_goals
          go_wp2
          go_roundw
          case rel => exact ⟨k + 1, by have := HK.out; omega, by go_num, by rw [HAN.out]; try rfl, HU2.out, hb6⟩
          case measure => have := HK.out; simp [intOf]; omega
      · have HR := Lib.hid (HFA.out h1 h2)
        have t1 : (rn != 1) = true := by rw [bne_iff_ne]; exact h3
        have t2 : (rn != 2) = true := by rw [bne_iff_ne]; exact h4
        have qf := below_step b1 hb6
        clear h1 h2 h3 h4
        go_wp2
        go_ret
        exact ⟨by rw [HR.out]; try rfl, qf⟩
    · obtain rfl : k = ts.length := by omega
      have HR := Lib.hid (HUP.out.done HPA.out)
      go_wp2
      go_ret
      exact ⟨by rw [HR.out]; try rfl, q1⟩
theorem Ints.atH {G : Nat → Prop} {b off : Nat} {l : List Int} {w : World} (h : Held G (Ints (some ⟨b, off, none⟩) l) w) {k : Nat} {x : Int} (hx : l[k]? = some x) : w.cell? ⟨b, off + k, none⟩ = some (.int .i64 x) := by
  obtain ⟨b', off', cs, e, _, hr, hc⟩ := h.now k x hx
  simp only [Option.some.injEq, Addr.mk.injEq, and_true] at e
  obtain ⟨rfl, rfl⟩ := e
  have e : cs = [.int .i64 x] := hr
  subst e
  simpa using hc 0 _ rfl
theorem findI_mem {ms : List Meth} {m : Meth} (hnd : (ms.map (·.id)).Nodup) (hm : m ∈ ms) : ∃ k : Nat, findI ms m.id = (k : Int) ∧ ms[k]? = some m := by
  obtain ⟨k, hk⟩ := List.mem_iff_getElem?.1 hm
  refine ⟨k, findI_some hk rfl ?_, hk⟩
  rw [hasI_false]
  intro h
  obtain ⟨y, hy, e⟩ := List.mem_map.1 h
  obtain ⟨j, hj⟩ := List.mem_iff_getElem?.1 hy
  rw [List.getElem?_take] at hj
  split at hj
  · have h1 : (ms.map (·.id))[j]? = some m.id := by rw [List.getElem?_map, hj]; exact congrArg some e
    have h2 : (ms.map (·.id))[k]? = some m.id := by rw [List.getElem?_map, hk]; rfl
    have := nodup_inj hnd h1 h2
    omega
  · cases hj
set_option maxHeartbeats 8000000 in
set_option maxRecDepth 100000 in
theorem some10_calls (A : Option Addr) (c : Nat) (ms : List Meth) (G : Nat → Prop) (AI : Option Addr) (cI : Nat) (lf : List Meth) (W : World) (hM : Held G (Meths A ms) W) (hn : ms.length ≤ 1000000) (hnd : (ms.map (·.id)).Nodup) (hlf : ∀ m ∈ lf, m ∈ ms) (hln : lf.length ≤ 1000000) (GI : Nat → Prop) (hI : Held GI (Ints AI (lf.map (·.id))) W) :
    Calls Tryz.prog 72 #[.slice A ms.length c, .slice AI lf.length cI] W fun e W' => ∃ v, e = .returned v ∧ Own metR 68 8 W.heap.size G v lf W' ∧ Below W.heap.size W W' := by
  have HM := Lib.hid hM
  have HI := Lib.hid hI
  have HFI : Hid (∀ V x, Below W.heap.size W V → Calls Tryz.prog 48 #[.slice A ms.length c, .int .i64 x] V fun e V' => e = .returned (.int .i64 (findI ms x)) ∧ V' = V) := Lib.hid (fun V x hv => find_calls A c ms x V G (hM.keep (Keep.all hv)) hn)
  have HLF := Lib.hid hlf
  have HND := Lib.hid hnd
  have HG : Hid (∀ b, G b → b < W.heap.size → True) := Lib.hid (fun _ _ _ => trivial)
  clear hM hI hlf hnd
  go_enter Tryz.func72, Tryz.ntmps72
  go_wp2_with (fail)
  go_loopw [5, 6] (fun v i wr => ∃ k : Nat, k ≤ lf.length ∧ i = .int .i64 k ∧ Own metR 68 8 W.heap.size (fun b => G b ∧ b < W.heap.size) v (lf.take k) wr ∧ Below W.heap.size W wr) (fun _ i _ => lf.length - (intOf i).toNat)
  case atStart => exact ⟨0, Nat.zero_le _, rfl, Own.nil _ _ _ _ _ _, Below.refl _ _⟩
  case round =>
    obtain ⟨k, hk, rfl, hown, hb⟩ := hrel
    by_cases hlt : k < lf.length
    · obtain ⟨bi, oi, rfl⟩ := Slc.addrH HI.out (by simpa using (show 0 < lf.length by omega))
      have hx : lf[k]? = some lf[k] := List.getElem?_eq_getElem hlt
      generalize lf[k] = x at hx
      have HX := Lib.hid hx
      have hxi : (lf.map (·.id))[k]? = some x.id := by rw [List.getElem?_map, hx]; rfl
      have g0 := cell_all (Ints.atH HI.out hxi) hb
      obtain ⟨j, hj, hmj⟩ := findI_mem HND.out (HLF.out x (List.mem_of_getElem? hx))
      have hjl : j < ms.length := (List.getElem?_eq_some_iff.1 hmj).1
      obtain ⟨bm, om, rfl⟩ := Slc.addrH HM.out (by omega)
      obtain ⟨A1, c1, A2, c2, p1, p2, p3, p4, f0, f1, f2, f3, f4, f5, f6, f7⟩ := Meths.atH (HM.out.lt.keep (Keep.all hb)) hmj
      have HF1 := Lib.hid (HFI.out wr x.id hb)
      rw [hj] at HF1
      have w1 : (0 : Int) ≤ (k : Int) := by omega
      have w2 : (k : Int) < (lf.length : Int) := by omega
      have w3 : (0 : Int) ≤ (j : Int) := by omega
      have w4 : (j : Int) < (ms.length : Int) := by omega
      have P1 := Lib.hid p1
      have P2 := Lib.hid p2
      have P3 := Lib.hid p3
      have P4 := Lib.hid p4
      clear hx hxi hmj hj p1 p2 p3 p4
      go_wp2_with (fail)
      refine HF1.out.mono ?_
      clear HF1
      rintro e V ⟨rfl, rfl⟩
      have hbz := hb.size
      go_wp2_with (at_builtin; refine Classical.byContradiction fun hneg => ?_)
      apply hneg
      refine wp_append_one metR 68 8 W.heap.size 112 (fun b => G b ∧ b < W.heap.size) _ rfl _ _ 23 _ rfl Tryz.underlying23 info68 rfl (by decide) (by decide) u5 (lf.take k) rfl (hown.alloc _) ⟨V.heap.size, 0, none⟩ 1 rfl x [.int .i64 x.id, .string x.lib, .slice A1 x.pars.length c1, .int .i64 x.result.kind, .string x.result.name, .int .i64 x.result.lo, .int .i64 x.result.hi, .slice A2 x.result.args.length c2] rfl ?cells ?one (metR.mk P1.out (P2.out.keep (Keep.alloc _ _ _)) P3.out (P4.out.keep (Keep.alloc _ _ _))) ?hG ?base ?len ?_
      case cells => exact fun j u hu => cells_new V _ _ _ rfl j u hu
      case one => intro u hu; simp at hu; rcases hu with rfl | rfl | rfl | rfl | rfl | rfl | rfl | rfl <;> rfl
      case hG => exact fun b hb e => by have := (hown.lt _ e).1; omega
      case base => simp; omega
      case len => rw [List.length_take]; omega
      intro v' w1 hown1 hg1 _
      rw [← take_snoc HX.out] at hown1
      have bw1 : Below W.heap.size W w1 := (hb.alloc hb.size _).grown hg1 (by simp; omega) fun k' e => (hown.lt k' e).1
      go_wp2
      go_roundw
      case rel => exact ⟨k + 1, by omega, by go_num, hown1, bw1⟩
      case measure => simp [intOf]; omega
    · obtain rfl : k = lf.length := by omega
      rw [List.take_length] at hown
      have HOW := Lib.hid hown
      clear hown
      go_wp2
      go_ret
      exact ⟨_, rfl, HOW.out.mono fun b _ h => h.1, hb⟩
end Go.Proofs.YtepnmejahbiacaaGreat
