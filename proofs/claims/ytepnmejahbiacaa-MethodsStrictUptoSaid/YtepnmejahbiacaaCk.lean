/- methods.CheckAll, methods.open. -/
import Derived.Test.YtepnmejahbiacaaAm
import Derived.Test.YtepnmejahbiacaaOd
import Derived.Test.YtepnmejahbiacaaCx
set_option linter.unusedVariables false
set_option linter.unusedSimpArgs false
namespace Go.Proofs.Ytepnmejahbiacaa
open Go.RowKit

theorem tagErr_zero {l : List CI} {t : Tag} : tagErr l t = 0 ↔ tagOk l t = true := by
  unfold tagErr; cases tagOk l t <;> simp
open Classical in
theorem checkAllE_hier {l : List CI} {ms : List Meth} {ts : List Tag} (h : ¬ LookOk l) : checkAllE l ms ts = 80 := by unfold checkAllE; rw [if_pos h]
open Classical in
theorem checkAllE_long {l : List CI} {ms : List Meth} {ts : List Tag} (h : LookOk l) (h2 : 300 < ms.length) : checkAllE l ms ts = 2 := by unfold checkAllE; rw [if_neg (fun q => q h), if_pos h2]
open Classical in
theorem checkAllE_meths {l : List CI} {ms : List Meth} {ts : List Tag} (h : LookOk l) (h2 : ¬ 300 < ms.length) (h3 : AreMs l ms = false ∨ 6 < ts.length ∨ (0 < ms.length ∧ (ms[0]?.map fun m => m.pars.length).getD 0 ≠ ts.length)) : checkAllE l ms ts = 101 := by
  unfold checkAllE; rw [if_neg (fun q => q h), if_neg h2, if_pos h3]
open Classical in
theorem checkAllE_tags {l : List CI} {ms : List Meth} {ts : List Tag} (h : LookOk l) (h2 : ¬ 300 < ms.length) (h3 : ¬ (AreMs l ms = false ∨ 6 < ts.length ∨ (0 < ms.length ∧ (ms[0]?.map fun m => m.pars.length).getD 0 ≠ ts.length))) : checkAllE l ms ts = if ts.all (tagOk l) then 0 else 82 := by
  unfold checkAllE; rw [if_neg (fun q => q h), if_neg h2, if_neg h3]
/-- What fits. -/
theorem checkAllE_zero {l : List CI} {ms : List Meth} {ts : List Tag} (h : checkAllE l ms ts = 0) : LookOk l ∧ ms.length ≤ 300 ∧ AreMs l ms = true ∧ ts.length ≤ 6 ∧ (∀ m ∈ ms, m.pars.length = ts.length) ∧ ∀ t ∈ ts, tagOk l t = true := by
  by_cases h1 : LookOk l
  · by_cases h2 : 300 < ms.length
    · rw [checkAllE_long h1 h2] at h; cases h
    · by_cases h3 : AreMs l ms = false ∨ 6 < ts.length ∨ (0 < ms.length ∧ (ms[0]?.map fun m => m.pars.length).getD 0 ≠ ts.length)
      · rw [checkAllE_meths h1 h2 h3] at h; cases h
      · rw [checkAllE_tags h1 h2 h3] at h
        have h4 : AreMs l ms = true := by
          cases q : AreMs l ms with
          | true => rfl
          | false => exact absurd (.inl q) h3
        have h5 : ¬ 6 < ts.length := fun q => h3 (.inr (.inl q))
        refine ⟨h1, by omega, h4, by omega, fun m hm => ?_, ?_⟩
        · have h6 : (ms[0]?.map fun m => m.pars.length).getD 0 = ts.length := Classical.byContradiction fun q => h3 (.inr (.inr ⟨List.length_pos_of_mem hm, q⟩))
          unfold AreMs at h4
          rw [h6, Bool.and_eq_true] at h4
          have := List.all_eq_true.1 h4.2 m hm
          unfold parsOk at this
          simp only [Bool.and_eq_true, decide_eq_true_eq] at this
          exact this.1.1
        · intro t ht
          cases q : ts.all (tagOk l) with
          | true => exact List.all_eq_true.1 q t ht
          | false => rw [q] at h; simp at h
  · rw [checkAllE_hier h1] at h; cases h

set_option maxHeartbeats 16000000 in
set_option maxRecDepth 100000 in
theorem checkAll_calls (AH : Option Addr) (cH : Nat) (l : List CI) (A : Option Addr) (c : Nat) (ms : List Meth) (AT : Option Addr) (cT : Nat) (ts : List Tag) (W : World) (GH : Nat → Prop) (h : Held GH (CIs AH l) W) (hcH : l.length ≤ cH) (ol : ∀ x ∈ l, ciOk x) (hl : l.length ≤ 1000000)
    (G : Nat → Prop) (hM : Held G (Meths A ms) W) (hn : ms.length ≤ 1000000) (hs : ∀ m ∈ ms, ∀ p ∈ m.pars, TySmall p.type) (hp : ∀ m ∈ ms, m.pars.length ≤ 1000000) (GT : Nat → Prop) (hT : Held GT (Tags AT ts) W) (hts : ts.length ≤ 1000000) :
    Calls Try.prog 23 #[.slice AH l.length cH, .slice A ms.length c, .slice AT ts.length cT] W fun e W' => e = .returned (.int .i64 (checkAllE l ms ts)) ∧ Below W.heap.size W W' := by
  have HC := Lib.hid (Check_calls AH cH l W hcH GH h ol hl)
  have HA : Hid (∀ V, Below W.heap.size W V → LookOk l → Calls Try.prog 41 #[.slice AH l.length cH, .slice A ms.length c] V fun e W' => e = .returned (.bool (AreMs l ms)) ∧ Below V.heap.size V W') :=
    Lib.hid (fun V hv hL => areMethods_calls AH cH l A c ms V GH (h.keep (Keep.all hv)) hcH ol hl G (hM.keep (Keep.all hv)) hn hL hs hp)
  have HT : Hid (∀ t V, Below W.heap.size W V → LookOk l → Calls Try.prog 11 #[.slice AH l.length cH, tagV t] V fun e W' => e = .returned (.int .i64 (tagErr l t)) ∧ Below V.heap.size V W') :=
    Lib.hid (fun t V hv hL => (CheckTag_calls AH cH l t V hcH GH (h.keep (Keep.all hv)) ol hl).mono (by
      rintro e w' ⟨q, (⟨q1, _⟩ | ⟨_, rfl⟩)⟩
      · exact absurd hL q1
      · exact ⟨rfl, q⟩))
  have HM := Lib.hid hM
  clear h ol hM hs hp
  go_enter Try.func23, Try.ntmps23
  go_wp2_with (fail)
  refine HC.out.mono ?_
  clear HC
  rintro e V ⟨hbv, (⟨hL, rfl⟩ | ⟨hL, rfl⟩)⟩
  · have HL := Lib.hid hL
    clear hL
    by_cases h3 : 300 < ms.length
    · have h3' : (300 : Int) < (ms.length : Int) := by omega
      have HE := Lib.hid (checkAllE_long (ts := ts) HL.out h3)
      go_wp2
      go_ret
      exact ⟨(by rw [HE.out]; try rfl), hbv⟩
    · have h3' : ¬ (300 : Int) < (ms.length : Int) := by omega
      have H3 := Lib.hid h3
      have HAV := Lib.hid (HA.out V hbv HL.out)
      clear h3 HA
      cases ha : AreMs l ms with
      | false =>
        have HE := Lib.hid (checkAllE_meths (ts := ts) HL.out H3.out (.inl ha))
        rw [ha] at HAV
        clear ha
        go_wp2_with (fail)
        refine HAV.out.mono ?_
        clear HAV
        rintro e V2 ⟨rfl, hb2⟩
        go_wp2
        go_ret
        exact ⟨(by rw [HE.out]; try rfl), hbv.trans (hb2.mono hbv.size)⟩
      | true =>
        have HAT := Lib.hid ha
        rw [ha] at HAV
        clear ha
        by_cases h6 : 6 < ts.length
        · have h6' : (6 : Int) < (ts.length : Int) := by omega
          have HE := Lib.hid (checkAllE_meths (ms := ms) HL.out H3.out (.inr (.inl h6)))
          go_wp2_with (fail)
          refine HAV.out.mono ?_
          clear HAV
          rintro e V2 ⟨rfl, hb2⟩
          go_wp2
          go_ret
          exact ⟨(by rw [HE.out]; try rfl), hbv.trans (hb2.mono hbv.size)⟩
        · have h6' : ¬ (6 : Int) < (ts.length : Int) := by omega
          have H6 := Lib.hid h6
          clear h6
          by_cases h0 : 0 < ms.length
          · have h0' : (0 : Int) < (ms.length : Int) := by omega
            obtain ⟨b, off, rfl⟩ := Slc.addrH HM.out h0
            have hx : ms[0]? = some ms[0] := List.getElem?_eq_getElem h0
            generalize ms[0] = m0 at hx
            have HX := Lib.hid hx
            clear hx
            go_wp2_with (fail)
            refine HAV.out.mono ?_
            clear HAV
            rintro e V2 ⟨rfl, hb2⟩
            have bV2 := hbv.trans (hb2.mono hbv.size)
            obtain ⟨B1, d1, B2, d2, _, _, _, _, _, _, q2, _, _, _, _, _⟩ := Meths.atH (HM.out.keep (Keep.all bV2)) HX.out
            rw [Nat.zero_mul, Nat.add_zero] at q2
            by_cases hpl : m0.pars.length = ts.length
            · have t2 : ((m0.pars.length : Int) != (ts.length : Int)) = false := bne_eq_false_iff_eq.2 (by omega)
              have HNE : Hid (checkAllE l ms ts = if ts.all (tagOk l) then 0 else 82) := Lib.hid (checkAllE_tags HL.out H3.out (by
                rintro (q | q | ⟨_, q⟩)
                · rw [HAT.out] at q; cases q
                · exact H6.out q
                · rw [HX.out] at q; exact q hpl))
              clear hpl
              go_wp2_with (fail)
              go_loopw [45] (fun i wr => ∃ k : Nat, k ≤ ts.length ∧ i = .int .i64 k ∧ (∀ (j : Nat) (t : Tag), j < k → ts[j]? = some t → tagOk l t = true) ∧ Below W.heap.size W wr) (fun i _ => ts.length - (intOf i).toNat)
              case atStart => exact ⟨0, Nat.zero_le _, rfl, fun j t hj => absurd hj (by omega), bV2⟩
              case round =>
                obtain ⟨k, hk, rfl, hok, hbr⟩ := hrel
                have HOK := Lib.hid hok
                clear hok
                by_cases hlt : k < ts.length
                · obtain ⟨bt, ot, rfl⟩ := Slc.addrH hT (by omega)
                  have hx : ts[k]? = some ts[k] := List.getElem?_eq_getElem hlt
                  generalize ts[k] = t at hx
                  have HY := Lib.hid hx
                  obtain ⟨d0, d1, d2⟩ := Tags.atH (hT.keep (Keep.all hbr)) hx
                  clear hx
                  have bal : Below W.heap.size W (wr.alloc (.cells #[.int .i64 t.kind, .int .i64 t.num, .string t.name] 25)) := hbr.alloc hbr.size _
                  have HTT := Lib.hid (HT.out t _ bal HL.out)
                  cases hto : tagOk l t with
                  | true =>
                    have hte : tagErr l t = 0 := tagErr_zero.2 hto
                    have HTO := Lib.hid hto
                    rw [hte] at HTT
                    clear hto hte
                    go_wp2_with (fail)
                    refine HTT.out.mono ?_
                    clear HTT
                    rintro e V3 ⟨rfl, hb3⟩
                    go_wp2
                    refine ⟨⟨k + 1, by omega, by go_num, fun j t' hj ht' => ?_, bal.trans (hb3.mono bal.size)⟩, by simp [intOf]; omega⟩
                    rcases Nat.lt_or_ge j k with z | z
                    · exact HOK.out j t' z ht'
                    · obtain rfl : j = k := by omega
                      rw [HY.out] at ht'; cases ht'; exact HTO.out
                  | false =>
                    have hte : tagErr l t = 82 := by unfold tagErr; rw [hto]; rfl
                    have HE : Hid (checkAllE l ms ts = 82) := Lib.hid (by
                      rw [HNE.out]
                      have : ts.all (tagOk l) = false := List.all_eq_false.2 ⟨t, List.mem_of_getElem? HY.out, by rw [hto]; decide⟩
                      rw [this]; rfl)
                    rw [hte] at HTT
                    clear hto hte
                    go_wp2_with (fail)
                    refine HTT.out.mono ?_
                    clear HTT
                    rintro e V3 ⟨rfl, hb3⟩
                    go_wp2
                    go_ret
                    exact ⟨(by rw [HE.out]; try rfl), bal.trans (hb3.mono bal.size)⟩
                · obtain rfl : k = ts.length := by omega
                  have HE : Hid (checkAllE l ms ts = 0) := Lib.hid (by
                    rw [HNE.out]
                    have : ts.all (tagOk l) = true := List.all_eq_true.2 fun t ht => by
                      obtain ⟨j, hj⟩ := List.mem_iff_getElem?.1 ht
                      exact HOK.out j t (List.getElem?_eq_some_iff.1 hj).1 hj
                    rw [this]; rfl)
                  go_wp2
                  go_ret
                  exact ⟨(by rw [HE.out]; try rfl), hbr⟩
            · have t2 : ((m0.pars.length : Int) != (ts.length : Int)) = true := by rw [bne_iff_ne]; omega
              have HE := Lib.hid (checkAllE_meths HL.out H3.out (.inr (.inr ⟨h0, by rw [HX.out]; exact hpl⟩)))
              clear hpl
              go_wp2
              go_ret
              exact ⟨(by rw [HE.out]; try rfl), bV2⟩
          · have h0' : ¬ (0 : Int) < (ms.length : Int) := by omega
            have HNE : Hid (checkAllE l ms ts = if ts.all (tagOk l) then 0 else 82) := Lib.hid (checkAllE_tags HL.out H3.out (by
              rintro (q | q | ⟨q, _⟩)
              · rw [HAT.out] at q; cases q
              · exact H6.out q
              · exact h0 q))
            go_wp2_with (fail)
            refine HAV.out.mono ?_
            clear HAV
            rintro e V2 ⟨rfl, hb2⟩
            have bV2 := hbv.trans (hb2.mono hbv.size)
            go_wp2_with (fail)
            go_loopw [45] (fun i wr => ∃ k : Nat, k ≤ ts.length ∧ i = .int .i64 k ∧ (∀ (j : Nat) (t : Tag), j < k → ts[j]? = some t → tagOk l t = true) ∧ Below W.heap.size W wr) (fun i _ => ts.length - (intOf i).toNat)
            case atStart => exact ⟨0, Nat.zero_le _, rfl, fun j t hj => absurd hj (by omega), bV2⟩
            case round =>
              obtain ⟨k, hk, rfl, hok, hbr⟩ := hrel
              have HOK := Lib.hid hok
              clear hok
              by_cases hlt : k < ts.length
              · obtain ⟨bt, ot, rfl⟩ := Slc.addrH hT (by omega)
                have hx : ts[k]? = some ts[k] := List.getElem?_eq_getElem hlt
                generalize ts[k] = t at hx
                have HY := Lib.hid hx
                obtain ⟨d0, d1, d2⟩ := Tags.atH (hT.keep (Keep.all hbr)) hx
                clear hx
                have bal : Below W.heap.size W (wr.alloc (.cells #[.int .i64 t.kind, .int .i64 t.num, .string t.name] 25)) := hbr.alloc hbr.size _
                have HTT := Lib.hid (HT.out t _ bal HL.out)
                cases hto : tagOk l t with
                | true =>
                  have hte : tagErr l t = 0 := tagErr_zero.2 hto
                  have HTO := Lib.hid hto
                  rw [hte] at HTT
                  clear hto hte
                  go_wp2_with (fail)
                  refine HTT.out.mono ?_
                  clear HTT
                  rintro e V3 ⟨rfl, hb3⟩
                  go_wp2
                  refine ⟨⟨k + 1, by omega, by go_num, fun j t' hj ht' => ?_, bal.trans (hb3.mono bal.size)⟩, by simp [intOf]; omega⟩
                  rcases Nat.lt_or_ge j k with z | z
                  · exact HOK.out j t' z ht'
                  · obtain rfl : j = k := by omega
                    rw [HY.out] at ht'; cases ht'; exact HTO.out
                | false =>
                  have hte : tagErr l t = 82 := by unfold tagErr; rw [hto]; rfl
                  have HE : Hid (checkAllE l ms ts = 82) := Lib.hid (by
                    rw [HNE.out]
                    have : ts.all (tagOk l) = false := List.all_eq_false.2 ⟨t, List.mem_of_getElem? HY.out, by rw [hto]; decide⟩
                    rw [this]; rfl)
                  rw [hte] at HTT
                  clear hto hte
                  go_wp2_with (fail)
                  refine HTT.out.mono ?_
                  clear HTT
                  rintro e V3 ⟨rfl, hb3⟩
                  go_wp2
                  go_ret
                  exact ⟨(by rw [HE.out]; try rfl), bal.trans (hb3.mono bal.size)⟩
              · obtain rfl : k = ts.length := by omega
                have HE : Hid (checkAllE l ms ts = 0) := Lib.hid (by
                  rw [HNE.out]
                  have : ts.all (tagOk l) = true := List.all_eq_true.2 fun t ht => by
                    obtain ⟨j, hj⟩ := List.mem_iff_getElem?.1 ht
                    exact HOK.out j t (List.getElem?_eq_some_iff.1 hj).1 hj
                  rw [this]; rfl)
                go_wp2
                go_ret
                exact ⟨(by rw [HE.out]; try rfl), hbr⟩
  · have HE := Lib.hid (checkAllE_hier (ms := ms) (ts := ts) hL)
    clear hL
    go_wp2
    go_ret
    exact ⟨(by rw [HE.out]; try rfl), hbv⟩
end Go.Proofs.Ytepnmejahbiacaa
