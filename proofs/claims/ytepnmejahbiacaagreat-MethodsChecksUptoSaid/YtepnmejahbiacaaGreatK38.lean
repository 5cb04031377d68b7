/- Part 38 of the proof: Ot, Af, Ve, Mk. -/
import Derived.Test.YtepnmejahbiacaaGreatK22
import Derived.Test.YtepnmejahbiacaaGreatK19
import Derived.Test.YtepnmejahbiacaaGreatK05
import Derived.Test.YtepnmejahbiacaaGreatK06
import Derived.Test.YtepnmejahbiacaaGreatK07
import Derived.Test.YtepnmejahbiacaaGreatK12
import Derived.Test.YtepnmejahbiacaaGreatK13
import Derived.Test.YtepnmejahbiacaaGreatK14
import Derived.Test.YtepnmejahbiacaaGreatK15
import Derived.Test.YtepnmejahbiacaaGreatK18
import Derived.Test.YtepnmejahbiacaaGreatK25
import Derived.Test.YtepnmejahbiacaaGreatK24
import Derived.Test.YtepnmejahbiacaaGreatK21
import Derived.Test.YtepnmejahbiacaaGreatK08
import Derived.Test.YtepnmejahbiacaaGreatK17
import Derived.Test.YtepnmejahbiacaaGreatK04
import Derived.Test.YtepnmejahbiacaaGreatK10
import Derived.Test.YtepnmejahbiacaaGreatK11
import Derived.Test.YtepnmejahbiacaaGreatK23
import Derived.Test.YtepnmejahbiacaaGreatK26
import Derived.Test.YtepnmejahbiacaaGreatK27
import Derived.Test.YtepnmejahbiacaaGreatK28
import Derived.Test.YtepnmejahbiacaaGreatK31
import Derived.Test.YtepnmejahbiacaaGreatK32
import Derived.Test.YtepnmejahbiacaaGreatK33
import Derived.Test.YtepnmejahbiacaaGreatK34
import Derived.Test.YtepnmejahbiacaaGreatK35
import Derived.Test.YtepnmejahbiacaaGreatK36
import Derived.Test.YtepnmejahbiacaaGreatK09
import Derived.Test.YtepnmejahbiacaaGreatK03
import Derived.Test.YtepnmejahbiacaaGreatK16
import Derived.Test.YtepnmejahbiacaaGreatK02
import Derived.Test.YtepnmejahbiacaaGreatK01
import Derived.Test.YtepnmejahbiacaaGreatK20
import Derived.BigQuiet
import Derived.Carry
import Derived.Deep.AppendLies
import Derived.Deep.DrawnRows
import Derived.Deep.Draws
import Derived.Deep.LoopGhost
import Derived.Deep.QuietTactic
import Derived.Deep.RegionHeld3
import Derived.Deep.RegionLaw
import Derived.Deep.RegionWith
import Derived.KernelRfl
import Derived.Laws.EntriesVeiled
import Derived.Laws.OwnMore
import Derived.Lib.Hide
import Derived.Lib.SliceRun
import Derived.LoopIn
import Derived.LoopNIn
import Derived.Maps.AppendAt
import Derived.Maps.Own
import Derived.Maps.OwnIn
import Derived.Outline
import Derived.OwnWalkIn
import Derived.RangeFuncBound
import Derived.RangeFuncCalls
import Derived.RangeFuncLeaves
import Derived.RangeFuncNested
import Derived.Recover
import Derived.StillTailTactics
import Derived.Stop.RegionWithIn
import Derived.TacticsInMore
import Derived.Test.YtepnmejahbiacaaGreatProg
import Derived.WalkKit
import Derived.WalkSpells
import Derived.Test.YtepnmejahbiacaaGreatK29
import Derived.OwnWalk
set_option linter.unusedVariables false
set_option linter.unusedSimpArgs false
namespace Go.Proofs.YtepnmejahbiacaaGreat
open Go.RowKit
/-- The methods that are left. -/
noncomputable def leftR (l : List CI) (ms : List Meth) (ts : List Tag) : List Int := if checkAllE l ms ts = 0 then (ordB l ts ms).2.map (·.id) else []
def ordV (A1 : Option Addr) (c1 : Nat) (o : List Int) (b : Bool) (A2 : Option Addr) (c2 : Nat) (lf : List Int) : Value := .agg #[.slice A1 o.length c1, .bool b, .slice A2 lf.length c2]
set_option maxHeartbeats 16000000 in
set_option maxRecDepth 100000 in
theorem order10_calls (AH : Option Addr) (cH : Nat) (l : List CI) (A : Option Addr) (c : Nat) (ms : List Meth) (AT : Option Addr) (cT : Nat) (ts : List Tag) (W : World) (q : Asks AH cH l A ms AT ts W) (hcM : ms.length ≤ c) :
    Calls Tryz.prog 27 #[.slice AH l.length cH, .slice A ms.length c, .slice AT ts.length cT] W fun e W' => ∃ A1 c1 A2 c2, e = .returned (ordV A1 c1 (orderR l ms ts).1 (orderR l ms ts).2 A2 c2 (leftR l ms ts)) ∧ (orderR l ms ts).1.length ≤ c1 ∧ Held (fun b => W.heap.size ≤ b) (Ints A1 (orderR l ms ts).1) W' ∧
      (leftR l ms ts).length ≤ c2 ∧ Held (fun b => W.heap.size ≤ b) (Ints A2 (leftR l ms ts)) W' ∧ Below W.heap.size W W' := by
  obtain ⟨W1, hW1⟩ : ∃ W1, W1 = W.alloc (.cells #[.slice none 0 0, .bool false, .slice none 0 0] 47) := ⟨_, rfl⟩
  have b1 : Below W.heap.size W W1 := by rw [hW1]; exact (Below.refl _ W).alloc (Nat.le_refl _) _
  have CR : Hid (Cel W.heap.size [.slice none 0 0, .bool false, .slice none 0 0] W1) := Lib.hid (by rw [hW1]; exact Cel.new W _ _ _ rfl)
  have HC := Lib.hid (checkAll10_calls AH cH l A c ms AT cT ts W1 (q.keep b1) hcM)
  have HSO : Hid (∀ V, Below W.heap.size W V → checkAllE l ms ts = 0 → Calls Tryz.prog 69 #[.slice AH l.length cH, .slice A ms.length c, .slice AT ts.length cT] V (ordPost l ts ms V)) := Lib.hid (fun V hv hz => sorted10_calls AH cH l A c ms AT cT ts V (q.keep hv) hz)
  have HO1 : Hid (checkAllE l ms ts ≠ 0 → orderR l ms ts = ([], false) ∧ leftR l ms ts = []) := Lib.hid (fun h => ⟨by unfold orderR; rw [if_neg h], by unfold leftR; rw [if_neg h]⟩)
  have HO2 : Hid (checkAllE l ms ts = 0 → orderR l ms ts = ((ordB l ts ms).1.map (·.id), decide (0 < (ordB l ts ms).2.length)) ∧ leftR l ms ts = (ordB l ts ms).2.map (·.id)) := Lib.hid (fun h => ⟨by unfold orderR; rw [if_pos h], by unfold leftR; rw [if_pos h]⟩)
  clear q
  obtain ⟨ce, hce⟩ : ∃ ce, checkAllE l ms ts = ce := ⟨_, rfl⟩
  rw [hce] at HC HSO HO1 HO2
  clear hce
  go_enter Tryz.func27, Tryz.ntmps27
  go_wp2_with (fail)
  rw [← hW1]
  clear hW1
  refine HC.out.mono ?_
  clear HC
  rintro e V ⟨rfl, hbv⟩
  have q1 := below_step b1 hbv
  have CV := Lib.hid (CR.out.all hbv)
  by_cases hz : ce = 0
  rotate_left
  · have t1 : (ce != 0) = true := by rw [bne_iff_ne]; exact hz
    have HE := Lib.hid (HO1.out hz)
    have r0 := (CV.out 0 _ rfl).1
    have r1 := (CV.out 1 _ rfl).1
    have r2 := (CV.out 2 _ rfl).1
    have rf0 := (CV.out 0 _ rfl).2
    have rf1 := (CV.out 1 _ rfl).2
    have rf2 := (CV.out 2 _ rfl).2
    clear hz HO1 HO2 HSO
    go_wp2
    refine bodyPost_ret (v := .agg #[.slice none 0 0, .bool false, .slice none 0 0]) (by simp [results, Tryz.results27, go_sem, r0, r1, r2]) rfl ?_
    refine ⟨none, 0, none, 0, by rw [HE.out.1, HE.out.2]; rfl, by rw [HE.out.1]; exact Nat.le_refl _, by rw [HE.out.1]; exact fun _ _ => Slc.nil _ _ _ _, by rw [HE.out.2]; exact Nat.le_refl _, by rw [HE.out.2]; exact fun _ _ => Slc.nil _ _ _ _, ?_⟩
    exact ((q1.setCell (p := ⟨W.heap.size, 0, none⟩) (Nat.le_refl _) _).setCell (p := ⟨W.heap.size, 1, none⟩) (Nat.le_refl _) _).setCell (p := ⟨W.heap.size, 2, none⟩) (Nat.le_refl _) _
  have HE := Lib.hid (HO2.out hz)
  have HSV := Lib.hid (HSO.out V q1 hz)
  clear HO1 HO2 HSO
  subst hz
  go_wp2_with (fail)
  refine HSV.out.mono ?_
  clear HSV
  rintro e V2 ⟨A1, c1, A2, c2, rfl, h1, k1, h2, k2, hb2⟩
  have q2 := below_step q1 hb2
  have CV2 := Lib.hid (CV.out.all hb2)
  have H1 := Lib.hid h1
  have H2 := Lib.hid h2
  have K1 := Lib.hid k1
  have K2 := Lib.hid k2
  have r0 := (CV2.out 0 _ rfl).1
  have r1 := (CV2.out 1 _ rfl).1
  have r2 := (CV2.out 2 _ rfl).1
  have rf0 := (CV2.out 0 _ rfl).2
  have rf1 := (CV2.out 1 _ rfl).2
  have rf2 := (CV2.out 2 _ rfl).2
  have hsz : W.heap.size < V2.heap.size := cell_lt r0
  clear h1 h2 k1 k2
  generalize (ordB l ts ms).1 = o1 at H1 K1 HE
  generalize (ordB l ts ms).2 = o2 at H2 K2 HE
  go_wp2
  refine bodyPost_ret (v := .agg #[.slice A1 o1.length c1, .bool (decide (0 < o2.length)), .slice A2 o2.length c2]) (by simp [results, Tryz.results27, go_sem, r0, r1, r2]) rfl ?_
  have kk : Keep (fun b => V.heap.size ≤ b) V2 (((V2.setCell ⟨W.heap.size, 0, none⟩ (.slice A1 o1.length c1)).setCell ⟨W.heap.size, 1, none⟩ (.bool (decide (0 < o2.length)))).setCell ⟨W.heap.size, 2, none⟩ (.slice A2 o2.length c2)) := by
    have k : ∀ (X : World) (j : Nat) (u : Value), Keep (fun b => V.heap.size ≤ b) X (X.setCell ⟨W.heap.size, j, none⟩ u) := fun X j u => Keep.setCell X (p := ⟨W.heap.size, j, none⟩) (fun b hb e => by have e2 : b = W.heap.size := e; have := CV.out.lt (by simp); omega) u
    exact ((k _ 0 _).trans (k _ 1 _)).trans (k _ 2 _)
  refine ⟨A1, c1, A2, c2, by rw [HE.out.1, HE.out.2]; simp [ordV], by rw [HE.out.1]; simpa using H1.out, by rw [HE.out.1]; exact (K1.out.keep kk).mono (fun b _ (h : V.heap.size ≤ b) => Nat.le_trans q1.size h), by rw [HE.out.2]; simpa using H2.out, by rw [HE.out.2]; exact (K2.out.keep kk).mono (fun b _ (h : V.heap.size ≤ b) => Nat.le_trans q1.size h), ?_⟩
  exact ((q2.setCell (p := ⟨W.heap.size, 0, none⟩) (Nat.le_refl _) _).setCell (p := ⟨W.heap.size, 1, none⟩) (Nat.le_refl _) _).setCell (p := ⟨W.heap.size, 2, none⟩) (Nat.le_refl _) _
end Go.Proofs.YtepnmejahbiacaaGreat
set_option linter.unusedVariables false
set_option linter.unusedSimpArgs false
namespace Go.Proofs.YtepnmejahbiacaaGreat
open Go.RowKit
theorem idxI_none {o : List Int} {x : Int} (h : ∀ j, j < o.length → o[j]? ≠ some x) : idxI o x = -1 := by
  rcases idxI_cases o x with ⟨q, _⟩ | ⟨k, _, hk, _⟩
  · exact q
  · exact absurd hk (h k (List.getElem?_eq_some_iff.1 hk).1)
theorem idxI_first {o : List Int} {x : Int} {k : Nat} (hk : o[k]? = some x) (h : ∀ j, j < k → o[j]? ≠ some x) : idxI o x = k := by
  rcases idxI_cases o x with ⟨_, q⟩ | ⟨m, hm, hmx, hb⟩
  · exact absurd (List.mem_of_getElem? hk) q
  · rw [hm]
    rcases Nat.lt_trichotomy m k with z | z | z
    · exact absurd hmx (h m z)
    · rw [z]
    · exact absurd hk (hb k z)
/-- What follows n elements of a row. -/
def restV (A : Option Addr) (n c : Nat) (b : Bool) (e : Int) : Value := .agg #[.slice A n c, .bool b, .int .i64 e]
set_option maxHeartbeats 16000000 in
set_option maxRecDepth 100000 in
theorem after_calls (A1 : Option Addr) (c1 : Nat) (o : List Int) (amb : Bool) (A2 : Option Addr) (c2 : Nat) (lf : List Int) (x : Int) (W : World) (G : Nat → Prop) (hO : Held G (Ints A1 o) W) (ho : o.length ≤ 1000000) (hc1 : o.length ≤ c1) :
    Calls Tryz.prog 64 #[ordV A1 c1 o amb A2 c2 lf, .int .i64 x] W fun e W' => ∃ A' n' c', e = .returned (restV A' n' c' (afterR o amb x).amb (afterR o amb x).err) ∧ n' = (afterR o amb x).ids.length ∧ Held G (Ints A' (afterR o amb x).ids) W' ∧ Below W.heap.size W W' := by
  obtain ⟨W1, hW1⟩ : ∃ W1, W1 = (W.alloc (.cells #[.slice A1 o.length c1, .bool amb, .slice A2 lf.length c2] 47)).alloc (.cells #[.slice none 0 0, .bool false, .int .i64 0] 53) := ⟨_, rfl⟩
  have b1 : Below W.heap.size W W1 := by rw [hW1]; exact ((Below.refl _ W).alloc (Nat.le_refl _) _).alloc (by simp) _
  have CO : Hid (Cel W.heap.size [.slice A1 o.length c1, .bool amb, .slice A2 lf.length c2] W1) := Lib.hid (by rw [hW1]; exact (Cel.new W _ _ _ rfl).all ((Below.refl _ _).alloc (Nat.le_refl _) _))
  have CR : Hid (Cel (W.heap.size + 1) [.slice none 0 0, .bool false, .int .i64 0] W1) := Lib.hid (by rw [hW1]; exact Cel.new (W.alloc _) _ _ _ (by simp))
  have o0 := (CO.out 0 _ rfl).1
  have o1 := (CO.out 1 _ rfl).1
  have r0 := (CR.out 0 _ rfl).1
  have r1 := (CR.out 1 _ rfl).1
  have r2 := (CR.out 2 _ rfl).1
  have rf0 := (CR.out 0 _ rfl).2
  have rf1 := (CR.out 1 _ rfl).2
  have rf2 := (CR.out 2 _ rfl).2
  have HO := Lib.hid hO
  have HO1 := Lib.hid (hO.keep (Keep.all b1))
  have HG : Hid (∀ (X : World) (j : Nat) (u : Value), Chg (fun b => b = W.heap.size + 1) X (X.setCell ⟨W.heap.size + 1, j, none⟩ u)) := Lib.hid (fun X j u => Chg.setCell (S := fun b => b = W.heap.size + 1) X (p := ⟨W.heap.size + 1, j, none⟩) rfl u)
  have hc1' := hc1
  clear hO
  unfold ordV
  go_enter Tryz.func64, Tryz.ntmps64
  go_wp2_with (fail)
  rw [← hW1]
  clear hW1
  go_loopw [5] (fun i wr => ∃ k : Nat, k ≤ o.length ∧ i = .int .i64 k ∧ (∀ j, j < k → o[j]? ≠ some x) ∧ wr = W1) (fun i _ => o.length - (intOf i).toNat)
  case atStart => exact ⟨0, Nat.zero_le _, rfl, fun j h => absurd h (by omega), rfl⟩
  case round =>
    obtain ⟨k, hk, rfl, hno, rfl⟩ := hrel
    have HNO := Lib.hid hno
    clear hno
    by_cases hlt : k < o.length
    · obtain ⟨b, off, rfl⟩ := Slc.addrH HO1.out (by omega)
      have hy : o[k]? = some o[k] := List.getElem?_eq_getElem hlt
      generalize o[k] = y at hy
      have g0 := Ints.atH HO1.out hy
      have HY := Lib.hid hy
      have HK := Lib.hid hlt
      clear hy
      by_cases hyx : y = x
      · have t1 : (y == x) = true := beq_iff_eq.2 hyx
        have HR : Hid (afterR o amb x = ⟨o.drop (k + 1), amb, 0⟩) := Lib.hid (afterR_some (idxI_first (hyx ▸ HY.out) HNO.out))
        have HSD : Hid (∀ AD : Option Addr, (c1 ≠ k + 1 → AD = some ⟨b, off + (k + 1), none⟩) → Held G (Slc intR 1 AD (o.drop (k + 1))) wr) := Lib.hid (fun AD had => by
          by_cases hcc : c1 = k + 1
          · have : o.drop (k + 1) = [] := List.drop_eq_nil_of_le (by omega)
            rw [this]
            exact fun _ _ => Slc.nil _ _ _ _
          · rw [had hcc]
            refine HO1.out.imp fun _ _ h => ?_
            have := Slc.drop h (k + 1)
            rwa [Nat.mul_one] at this)
        have HLD : Hid ((o.drop (k + 1)).length = o.length - (k + 1)) := Lib.hid (List.length_drop)
        have w10 : IntKind.i64.wrap ((k : Int) + 1) = (k : Int) + 1 := by rw [IntKind.wrap_i64]; omega
        have w11 : ((k : Int) + 1).toNat = k + 1 := by omega
        have w2 : (k : Int) + 1 ≤ (o.length : Int) := by omega
        have w3 : (0 : Int) ≤ (k : Int) + 1 := by omega
        clear hyx
        have HFIN : Hid (∀ (AD : Option Addr) (cd : Nat) (X : World), (c1 ≠ k + 1 → AD = some ⟨b, off + (k + 1), none⟩) → Chg (fun b => b = W.heap.size + 1) wr X → ∀ e : Ending, e = .returned (restV AD (o.length - (k + 1)) cd amb 0) →
            ∃ A' n' c', e = .returned (restV A' n' c' (afterR o amb x).amb (afterR o amb x).err) ∧ n' = (afterR o amb x).ids.length ∧ Held G (Ints A' (afterR o amb x).ids) X ∧ Below W.heap.size W X) := Lib.hid (fun AD cd X had hch e he => by
          subst he
          rw [HR.out]
          refine ⟨AD, _, cd, rfl, HLD.out.symm, ?_, b1.trans (hch.below b1.size (fun b q => by omega))⟩
          have h0 : Held (fun b => G b ∧ b < W.heap.size) (Ints (some ⟨b, off, none⟩) o) W := HO.out.lt
          have h1 := h0.keep (Keep.all b1)
          have h2 : Held (fun b => G b ∧ b < W.heap.size) (Slc intR 1 AD (o.drop (k + 1))) wr := by
            by_cases hcc : c1 = k + 1
            · have : o.drop (k + 1) = [] := List.drop_eq_nil_of_le (by omega)
              rw [this]
              exact fun _ _ => Slc.nil _ _ _ _
            · rw [had hcc]
              refine h1.imp fun _ _ h => ?_
              have := Slc.drop h (k + 1)
              rwa [Nat.mul_one] at this
          exact (h2.keep (hch.keep fun b hb q => by omega)).mono fun b _ hb => hb.1)
        clear HSD HLD HR
        by_cases hcc : c1 = k + 1
        · go_wp2_with (fail)
          go_region
          go_wp2
          refine bodyPost_ret (v := .agg #[.slice (some ⟨b, off, none⟩) (o.length - (k + 1)) 0, .bool amb, .int .i64 0]) (by simp [results, Tryz.results64, go_sem, r0, r1, r2]) rfl ?_
          exact HFIN.out _ _ _ (fun q => absurd hcc q) ((((HG.out _ 0 _).trans (HG.out _ 1 _)).trans (HG.out _ 2 _)).trans (Chg.drew _)) _ rfl
        · go_wp2_with (fail)
          go_region
          go_wp2
          refine bodyPost_ret (v := .agg #[.slice (some ⟨b, off + (k + 1), none⟩) (o.length - (k + 1)) (c1 - (k + 1)), .bool amb, .int .i64 0]) (by simp [results, Tryz.results64, go_sem, r0, r1, r2]) rfl ?_
          exact HFIN.out _ _ _ (fun _ => rfl) ((((HG.out _ 0 _).trans (HG.out _ 1 _)).trans (HG.out _ 2 _)).trans (Chg.drew _)) _ rfl
      · have t1 : (y == x) = false := beq_eq_false_iff_ne.2 hyx
        have HN : Hid (∀ j, j < k + 1 → o[j]? ≠ some x) := Lib.hid (fun j hj q => by
          rcases Nat.lt_or_ge j k with z | z
          · exact HNO.out j z q
          · obtain rfl : j = k := by omega
            rw [HY.out] at q; exact hyx (Option.some.inj q))
        clear hyx
        go_wp2
        exact ⟨⟨k + 1, by omega, by go_num, HN.out, trivial⟩, by simp [intOf]; omega⟩
    · obtain rfl : k = o.length := by omega
      have HR : Hid (afterR o amb x = ⟨[], false, 3⟩) := Lib.hid (afterR_none (idxI_none HNO.out))
      go_wp2
      refine bodyPost_ret (v := .agg #[.slice none 0 0, .bool false, .int .i64 3]) (by simp [results, Tryz.results64, go_sem, r0, r1, r2]) rfl ?_
      refine ⟨none, 0, 0, by rw [HR.out]; rfl, by rw [HR.out]; rfl, by rw [HR.out]; exact fun _ _ => Slc.nil _ _ _ _, ?_⟩
      exact b1.trans ((((HG.out _ 0 _).trans (HG.out _ 1 _)).trans (HG.out _ 2 _)).below b1.size (fun b q => by omega))
/-- Methods and arguments as a record. -/
def callV (A : Option Addr) (c : Nat) (ms : List Meth) (AT : Option Addr) (cT : Nat) (ts : List Tag) : Value := .agg #[.slice A ms.length c, .slice AT ts.length cT]
set_option maxHeartbeats 16000000 in
set_option maxRecDepth 100000 in
theorem behind10_calls (AH : Option Addr) (cH : Nat) (l : List CI) (A : Option Addr) (c : Nat) (ms : List Meth) (AT : Option Addr) (cT : Nat) (ts : List Tag) (x : Int) (W : World) (q : Asks AH cH l A ms AT ts W) (hcM : ms.length ≤ c) :
    Calls Tryz.prog 23 #[.slice AH l.length cH, callV A c ms AT cT ts, .int .i64 x] W fun e W' => ∃ A' n' c', e = .returned (restV A' n' c' (behindR l ms ts x).amb (behindR l ms ts x).err) ∧ n' = (behindR l ms ts x).ids.length ∧ Held (fun b => W.heap.size ≤ b) (Ints A' (behindR l ms ts x).ids) W' ∧ Below W.heap.size W W' := by
  obtain ⟨W1, hW1⟩ : ∃ W1, W1 = (W.alloc (.cells #[.slice A ms.length c, .slice AT ts.length cT] 45)).alloc (.cells #[.slice none 0 0, .bool false, .int .i64 0] 53) := ⟨_, rfl⟩
  have b1 : Below W.heap.size W W1 := by rw [hW1]; exact ((Below.refl _ W).alloc (Nat.le_refl _) _).alloc (by simp) _
  have CO : Hid (Cel W.heap.size [.slice A ms.length c, .slice AT ts.length cT] W1) := Lib.hid (by rw [hW1]; exact (Cel.new W _ _ _ rfl).all ((Below.refl _ _).alloc (Nat.le_refl _) _))
  have CR : Hid (Cel (W.heap.size + 1) [.slice none 0 0, .bool false, .int .i64 0] W1) := Lib.hid (by rw [hW1]; exact Cel.new (W.alloc _) _ _ _ (by simp))
  have HC := Lib.hid (checkAll10_calls AH cH l A c ms AT cT ts W1 (q.keep b1) hcM)
  have HOR := Lib.hid (fun V (hv : Below W.heap.size W V) => order10_calls AH cH l A c ms AT cT ts V (q.keep hv) hcM)
  have HL : Hid ((orderR l ms ts).1.length ≤ 1000000) := Lib.hid (by have := orderR_len l ms ts; have := q.hn; omega)
  have HB1 : Hid (checkAllE l ms ts ≠ 0 → behindR l ms ts x = ⟨[], false, checkAllE l ms ts⟩) := Lib.hid (fun h => by unfold behindR; rw [if_neg h])
  have HB2 : Hid (checkAllE l ms ts = 0 → behindR l ms ts x = afterR (orderR l ms ts).1 (orderR l ms ts).2 x) := Lib.hid (fun h => by unfold behindR; rw [if_pos h])
  have HG : Hid (∀ (X : World) (j : Nat) (u : Value), Chg (fun b => b = W.heap.size + 1) X (X.setCell ⟨W.heap.size + 1, j, none⟩ u)) := Lib.hid (fun X j u => Chg.setCell (S := fun b => b = W.heap.size + 1) X (p := ⟨W.heap.size + 1, j, none⟩) rfl u)
  have o0 := (CO.out 0 _ rfl).1
  have o1 := (CO.out 1 _ rfl).1
  clear q
  obtain ⟨ce, hce⟩ : ∃ ce, checkAllE l ms ts = ce := ⟨_, rfl⟩
  rw [hce] at HC HB1 HB2
  clear hce
  unfold callV
  go_enter Tryz.func23, Tryz.ntmps23
  go_wp2_with (fail)
  rw [← hW1]
  clear hW1
  go_wp2_with (fail)
  refine HC.out.mono ?_
  clear HC
  rintro e V ⟨rfl, hbv⟩
  have q1 := below_step b1 hbv
  have CV := Lib.hid (CR.out.all hbv)
  have v0 := cell_all o0 hbv
  have v1 := cell_all o1 hbv
  clear o0 o1
  by_cases hz : ce = 0
  rotate_left
  · have t1 : (ce != 0) = true := by rw [bne_iff_ne]; exact hz
    have HE := Lib.hid (HB1.out hz)
    have r0 := (CV.out 0 _ rfl).1
    have r1 := (CV.out 1 _ rfl).1
    have r2 := (CV.out 2 _ rfl).1
    have rf0 := (CV.out 0 _ rfl).2
    have rf1 := (CV.out 1 _ rfl).2
    have rf2 := (CV.out 2 _ rfl).2
    clear hz HB1 HB2 HOR
    go_wp2
    refine bodyPost_ret (v := .agg #[.slice none 0 0, .bool false, .int .i64 ce]) (by simp [results, Tryz.results23, go_sem, r0, r1, r2]) rfl ?_
    refine ⟨none, 0, 0, by rw [HE.out]; rfl, by rw [HE.out]; rfl, by rw [HE.out]; exact fun _ _ => Slc.nil _ _ _ _, ?_⟩
    exact q1.trans ((((HG.out _ 0 _).trans (HG.out _ 1 _)).trans (HG.out _ 2 _)).below q1.size (fun b q => by omega))
  have HE := Lib.hid (HB2.out hz)
  have HOV := Lib.hid (HOR.out V q1)
  clear HB1 HB2 HOR
  subst hz
  obtain ⟨oi, hoi⟩ : ∃ oi, (orderR l ms ts).1 = oi := ⟨_, rfl⟩
  obtain ⟨oa, hoa⟩ : ∃ oa, (orderR l ms ts).2 = oa := ⟨_, rfl⟩
  rw [hoi, hoa] at HOV HE
  rw [hoi] at HL
  clear hoi hoa
  go_wp2_with (fail)
  refine HOV.out.mono ?_
  clear HOV
  rintro e V2 ⟨A1, c1, A2, c2, rfl, h1, k1, h2, k2, hb2⟩
  have q2 := below_step q1 hb2
  have HA := Lib.hid (after_calls A1 c1 oi oa A2 c2 (leftR l ms ts) x V2 _ k1 HL.out h1)
  have hV2 := CV.out.all hb2
  have hsz := hV2.lt (by simp)
  clear h1 k1 h2 k2
  go_wp2_with (fail)
  refine HA.out.mono ?_
  clear HA
  rintro e V3 ⟨A3, n3, c3, rfl, hn3, k3, hb3⟩
  have q3 := below_step q2 hb3
  have CV3 := Lib.hid (hV2.all hb3)
  have r0 := (CV3.out 0 _ rfl).1
  have r1 := (CV3.out 1 _ rfl).1
  have r2 := (CV3.out 2 _ rfl).1
  have rf0 := (CV3.out 0 _ rfl).2
  have rf1 := (CV3.out 1 _ rfl).2
  have rf2 := (CV3.out 2 _ rfl).2
  have HN3 := Lib.hid hn3
  have K3 := Lib.hid k3
  clear hn3 k3 hV2
  generalize afterR oi oa x = af at HE HN3 K3
  unfold restV
  go_wp2
  refine bodyPost_ret (v := .agg #[.slice A3 n3 c3, .bool af.amb, .int .i64 af.err]) (by simp [results, Tryz.results23, go_sem, r0, r1, r2]) rfl ?_
  have hch : Chg (fun b => b = W.heap.size + 1) V3 (((V3.setCell ⟨W.heap.size + 1, 0, none⟩ (.slice A3 n3 c3)).setCell ⟨W.heap.size + 1, 1, none⟩ (.bool af.amb)).setCell ⟨W.heap.size + 1, 2, none⟩ (.int .i64 af.err)) := ((HG.out _ 0 _).trans (HG.out _ 1 _)).trans (HG.out _ 2 _)
  have hsV := CV.out.lt (by simp)
  refine ⟨A3, n3, c3, by rw [HE.out]; rfl, by rw [HE.out]; exact HN3.out, by rw [HE.out]; exact (K3.out.keep (hch.keep fun b (hb : V.heap.size ≤ b) q => by have q' : b = W.heap.size + 1 := q; omega)).mono (fun b _ (hb : V.heap.size ≤ b) => Nat.le_trans q1.size hb), ?_⟩
  exact q3.trans (hch.below q3.size (fun b q => by omega))
end Go.Proofs.YtepnmejahbiacaaGreat
set_option linter.unusedVariables false
set_option linter.unusedSimpArgs false
namespace Go.Proofs.YtepnmejahbiacaaGreat
open Go.RowKit
/-- As sameInts_calls; the second list is bounded by the machine's words alone. -/
theorem sameIntsW_calls (A B : Option Addr) (c d : Nat) (l m : List Int) (w : World) (GA GB : Nat → Prop) (hA : Held GA (Ints A l) w) (hB : Held GB (Ints B m) w) (hl : l.length ≤ 1000000) (hm : m.length ≤ 4000000) :
    Calls Tryz.prog 14 #[.slice A l.length c, .slice B m.length d] w fun e w' => e = .returned (.bool (decide (l = m))) ∧ Drw w w' := by
  by_cases hlen : l.length = m.length
  · exact sameInts_calls A B c d l m w GA GB hA hB hl (by omega)
  · have t2 : ((l.length : Int) != (m.length : Int)) = true := by rw [bne_iff_ne]; omega
    have HL : Hid (l ≠ m) := Lib.hid (fun e => hlen (by rw [e]))
    clear hlen hm
    go_enter Tryz.func14, Tryz.ntmps14
    go_wp2
    go_ret
    exact ⟨retB (decide_eq_false HL.out).symm, Drw.refl _⟩
set_option maxHeartbeats 16000000 in
set_option maxRecDepth 100000 in
theorem verify10_calls (AH : Option Addr) (cH : Nat) (l : List CI) (A : Option Addr) (c : Nat) (ms : List Meth) (AT : Option Addr) (cT : Nat) (ts : List Tag) (AO : Option Addr) (cO : Nat) (o : List Int) (amb : Bool) (AL : Option Addr) (cL : Nat) (lf : List Int) (W : World) (q : Asks AH cH l A ms AT ts W) (hcM : ms.length ≤ c) (GO : Nat → Prop) (hO : Held GO (Ints AO o) W) (hol : o.length ≤ 4000000) :
    Calls Tryz.prog 21 #[.slice AH l.length cH, callV A c ms AT cT ts, ordV AO cO o amb AL cL lf] W fun e W' => e = .returned (.int .i64 (verR l ms ts o amb)) ∧ Below W.heap.size W W' := by
  obtain ⟨W1, hW1⟩ : ∃ W1, W1 = (W.alloc (.cells #[.slice A ms.length c, .slice AT ts.length cT] 45)).alloc (.cells #[.slice AO o.length cO, .bool amb, .slice AL lf.length cL] 47) := ⟨_, rfl⟩
  have b1 : Below W.heap.size W W1 := by rw [hW1]; exact ((Below.refl _ W).alloc (Nat.le_refl _) _).alloc (by simp) _
  have CO : Hid (Cel W.heap.size [.slice A ms.length c, .slice AT ts.length cT] W1) := Lib.hid (by rw [hW1]; exact (Cel.new W _ _ _ rfl).all ((Below.refl _ _).alloc (Nat.le_refl _) _))
  have CR : Hid (Cel (W.heap.size + 1) [.slice AO o.length cO, .bool amb, .slice AL lf.length cL] W1) := Lib.hid (by rw [hW1]; exact Cel.new (W.alloc _) _ _ _ (by simp))
  have HC := Lib.hid (checkAll10_calls AH cH l A c ms AT cT ts W1 (q.keep b1) hcM)
  have HOR := Lib.hid (fun V (hv : Below W.heap.size W V) => order10_calls AH cH l A c ms AT cT ts V (q.keep hv) hcM)
  have HL : Hid ((orderR l ms ts).1.length ≤ 1000000) := Lib.hid (by have := orderR_len l ms ts; have := q.hn; omega)
  have HO := Lib.hid hO
  have HV1 : Hid (checkAllE l ms ts ≠ 0 → verR l ms ts o amb = checkAllE l ms ts) := Lib.hid (fun h => by unfold verR; rw [if_neg h])
  have HV2 : Hid (checkAllE l ms ts = 0 → (orderR l ms ts).1 = o → (orderR l ms ts).2 = amb → verR l ms ts o amb = 0) := Lib.hid (fun h h1 h2 => by unfold verR; rw [if_pos h, if_pos ⟨h1, h2⟩])
  have HV3 : Hid (checkAllE l ms ts = 0 → ¬ ((orderR l ms ts).1 = o ∧ (orderR l ms ts).2 = amb) → verR l ms ts o amb = 102) := Lib.hid (fun h h1 => by unfold verR; rw [if_pos h, if_neg h1])
  have o0 := (CO.out 0 _ rfl).1
  have o1 := (CO.out 1 _ rfl).1
  clear q hO
  obtain ⟨ce, hce⟩ : ∃ ce, checkAllE l ms ts = ce := ⟨_, rfl⟩
  rw [hce] at HC HV1 HV2 HV3
  obtain ⟨oi, hoi⟩ : ∃ oi, (orderR l ms ts).1 = oi := ⟨_, rfl⟩
  obtain ⟨oa, hoa⟩ : ∃ oa, (orderR l ms ts).2 = oa := ⟨_, rfl⟩
  rw [hoi, hoa] at HOR HV2 HV3
  rw [hoi] at HL
  clear hce hoi hoa
  unfold callV ordV
  unfold ordV at HOR
  go_enter Tryz.func21, Tryz.ntmps21
  go_wp2_with (fail)
  rw [← hW1]
  clear hW1
  go_wp2_with (fail)
  refine HC.out.mono ?_
  clear HC
  rintro e V ⟨rfl, hbv⟩
  have q1 := below_step b1 hbv
  have v0 := cell_all o0 hbv
  have v1 := cell_all o1 hbv
  clear o0 o1
  by_cases hz : ce = 0
  rotate_left
  · have t1 : (ce != 0) = true := by rw [bne_iff_ne]; exact hz
    have HE := Lib.hid (HV1.out hz)
    clear hz HV1 HV2 HV3 HOR
    go_wp2
    go_ret
    exact ⟨by rw [HE.out]; try rfl, q1⟩
  have HE1 := Lib.hid (HV2.out hz)
  have HE2 := Lib.hid (HV3.out hz)
  clear HV1 HV2 HV3
  subst hz
  go_wp2_with (fail)
  refine (HOR.out V q1).mono ?_
  clear HOR
  rintro e V2 ⟨A1, c1, A2, c2, rfl, h1, k1, h2, k2, hb2⟩
  have q2 := below_step q1 hb2
  have CV2 := Lib.hid ((CR.out.all hbv).all hb2)
  obtain ⟨W3, hW3⟩ : ∃ W3, W3 = V2.alloc (.cells #[.slice A1 oi.length c1, .bool oa, .slice A2 (leftR l ms ts).length c2] 47) := ⟨_, rfl⟩
  have b3 : Below V2.heap.size V2 W3 := by rw [hW3]; exact (Below.refl _ V2).alloc (Nat.le_refl _) _
  have q3 := below_step q2 b3
  have C3 : Hid (Cel V2.heap.size [.slice A1 oi.length c1, .bool oa, .slice A2 (leftR l ms ts).length c2] W3) := Lib.hid (by rw [hW3]; exact Cel.new V2 _ _ _ rfl)
  have CV3 := Lib.hid (CV2.out.all b3)
  have n0 := (C3.out 0 _ rfl).1
  have n1 := (C3.out 1 _ rfl).1
  have m0 := (CV3.out 0 _ rfl).1
  have m1 := (CV3.out 1 _ rfl).1
  have HS := Lib.hid (sameIntsW_calls A1 AO c1 cO oi o W3 _ _ (k1.keep (Keep.all b3)) (HO.out.keep (Keep.all q3)) HL.out hol)
  clear h1 k1 h2 k2
  have n0a := n0
  have m0a := m0
  rw [hW3] at n0a m0a
  go_wp2_with (fail)
  rw [← hW3]
  clear hW3 n0a m0a
  refine HS.out.mono ?_
  clear HS
  rintro e V4 ⟨rfl, hdr⟩
  have b4 : Below W3.heap.size W3 V4 := hdr.below _
  have q4 := below_step q3 b4
  have n1' := cell_all n1 b4
  have m1' := cell_all m1 b4
  clear n0 n1 m0 m1 hdr
  by_cases hoo : oi = o
  rotate_left
  · rw [decide_eq_false hoo]
    have HE := Lib.hid (HE2.out (fun q => hoo q.1))
    clear hoo
    go_wp2
    go_ret
    exact ⟨by rw [HE.out]; try rfl, q4⟩
  rw [decide_eq_true hoo]
  have HOO := Lib.hid hoo
  clear hoo
  cases oa <;> cases amb
  · have HE := Lib.hid (HE1.out HOO.out rfl)
    go_wp2
    go_ret
    exact ⟨by rw [HE.out]; try rfl, q4⟩
  · have HE := Lib.hid (HE2.out (fun q => by cases q.2))
    go_wp2
    go_ret
    exact ⟨by rw [HE.out]; try rfl, q4⟩
  · have HE := Lib.hid (HE2.out (fun q => by cases q.2))
    go_wp2
    go_ret
    exact ⟨by rw [HE.out]; try rfl, q4⟩
  · have HE := Lib.hid (HE1.out HOO.out rfl)
    go_wp2
    go_ret
    exact ⟨by rw [HE.out]; try rfl, q4⟩
end Go.Proofs.YtepnmejahbiacaaGreat
set_option linter.unusedVariables false
set_option linter.unusedSimpArgs false
namespace Go.Proofs.YtepnmejahbiacaaGreat
open Go.RowKit
attribute [local go_sem ↓] Go.wp_at_zero Go.wp_at_succ
theorem below_al {w V : World} {o : Obj} (h : Below w.heap.size w V) : Below w.heap.size w (V.alloc o) := h.alloc h.size o
theorem celBefore {U X V : World} {cs : Array Value} {T : TypeId} (h : Below X.heap.size X V) (hX : X.heap = (U.alloc (.cells cs T)).heap) : Cel U.heap.size cs.toList V := ((Cel.new U cs T _ rfl).same (by rw [hX])).all h
theorem below_st3 {U V : World} {u0 u1 u2 : Value} (h : Below U.heap.size U V) : Below U.heap.size U (((V.setCell ⟨U.heap.size, 0, none⟩ u0).setCell ⟨U.heap.size, 1, none⟩ u1).setCell ⟨U.heap.size, 2, none⟩ u2) :=
  ((h.setCell (p := ⟨U.heap.size, 0, none⟩) (Nat.le_refl _) _).setCell (p := ⟨U.heap.size, 1, none⟩) (Nat.le_refl _) _).setCell (p := ⟨U.heap.size, 2, none⟩) (Nat.le_refl _) _
theorem cell_st3 {U V : World} {u0 u1 u2 : Value} {a : Addr} {v : Value} (h : U.cell? a = some v) (hb : Below U.heap.size U V) : (((V.setCell ⟨U.heap.size, 0, none⟩ u0).setCell ⟨U.heap.size, 1, none⟩ u1).setCell ⟨U.heap.size, 2, none⟩ u2).cell? a = some v := cell_all h (below_st3 hb)
theorem cell_al {V : World} {o : Obj} {a : Addr} {v : Value} (h : V.cell? a = some v) : (V.alloc o).cell? a = some v := alloc_cell' h
set_option maxHeartbeats 32000000 in
set_option maxRecDepth 100000 in
theorem checks_calls (AH : Option Addr) (cH : Nat) (l : List CI) (AM : Option Addr) (cM : Nat) (ms : List Meth) (AT : Option Addr) (cT : Nat) (ts : List Tag) (AO : Option Addr) (cO : Nat) (o : List Int) (amb : Bool) (AL : Option Addr) (cL : Nat) (lf : List Int) (W : World) (q : Asks AH cH l AM ms AT ts W) (hcM : ms.length ≤ cM) (GO : Nat → Prop) (hO : Held GO (Ints AO o) W) (hol : o.length ≤ 4000000) :
    Calls Tryz.prog 5 #[.slice AH l.length cH, callV AM cM ms AT cT ts, ordV AO cO o amb AL cL lf] W fun e W' => e = .returned (.bool true) ∧ Below W.heap.size W W' := by
  obtain ⟨W1, hW1⟩ : ∃ W1, W1 = (W.alloc (.cells #[.slice AM ms.length cM, .slice AT ts.length cT] 45)).alloc (.cells #[.slice AO o.length cO, .bool amb, .slice AL lf.length cL] 47) := ⟨_, rfl⟩
  have b1 : Below W.heap.size W W1 := by rw [hW1]; exact ((Below.refl _ W).alloc (Nat.le_refl _) _).alloc (by simp) _
  have CC : Hid (Cel W.heap.size [.slice AM ms.length cM, .slice AT ts.length cT] W1) := Lib.hid (by rw [hW1]; exact (Cel.new W _ _ _ rfl).all ((Below.refl _ _).alloc (Nat.le_refl _) _))
  have CR : Hid (Cel (W.heap.size + 1) [.slice AO o.length cO, .bool amb, .slice AL lf.length cL] W1) := Lib.hid (by rw [hW1]; exact Cel.new (W.alloc _) _ _ _ (by simp))
  have HQ := Lib.hid q
  obtain ⟨GM, hM⟩ := q.hM
  have HM := Lib.hid hM
  have HO := Lib.hid hO
  have hn := q.hn
  have HV1 : Hid (∀ V, Below W.heap.size W V → Calls Tryz.prog 20 #[.slice AH l.length cH, .slice AM ms.length cM, .slice AT ts.length cT, .slice AO o.length cO, .bool amb] V fun e V' => e = .returned (.int .i64 (verR l ms ts o amb)) ∧ Below V.heap.size V V') := Lib.hid (fun V hv => verify_calls AH cH l AM cM ms AT cT ts AO cO o amb V (HQ.out.keep hv) GO (hO.keep (Keep.all hv)) hol)
  have HV2 : Hid (∀ V, Below W.heap.size W V → Calls Tryz.prog 21 #[.slice AH l.length cH, .agg #[.slice AM ms.length cM, .slice AT ts.length cT], .agg #[.slice AO o.length cO, .bool amb, .slice AL lf.length cL]] V fun e V' => e = .returned (.int .i64 (verR l ms ts o amb)) ∧ Below V.heap.size V V') := Lib.hid (fun V hv => verify10_calls AH cH l AM cM ms AT cT ts AO cO o amb AL cL lf V (HQ.out.keep hv) hcM GO (hO.keep (Keep.all hv)) hol)
  have HB1 : Hid (∀ x V, Below W.heap.size W V → Calls Tryz.prog 22 #[.slice AH l.length cH, .slice AM ms.length cM, .slice AT ts.length cT, .int .i64 x] V fun e V' => ∃ A' c', e = .returned (.tuple #[.slice A' (behindR l ms ts x).ids.length c', .bool (behindR l ms ts x).amb, .int .i64 (behindR l ms ts x).err]) ∧ Held (fun b => b < V'.heap.size) (Ints A' (behindR l ms ts x).ids) V' ∧ Below V.heap.size V V') := Lib.hid (fun x V hv => behind_calls AH cH l AM cM ms AT cT ts x V (HQ.out.keep hv))
  have HB2 : Hid (∀ x V, Below W.heap.size W V → Calls Tryz.prog 23 #[.slice AH l.length cH, .agg #[.slice AM ms.length cM, .slice AT ts.length cT], .int .i64 x] V fun e V' => ∃ A' n' c', e = .returned (.agg #[.slice A' n' c', .bool (behindR l ms ts x).amb, .int .i64 (behindR l ms ts x).err]) ∧ n' = (behindR l ms ts x).ids.length ∧ Held (fun b => V.heap.size ≤ b) (Ints A' (behindR l ms ts x).ids) V' ∧ Below V.heap.size V V') := Lib.hid (fun x V hv => behind10_calls AH cH l AM cM ms AT cT ts x V (HQ.out.keep hv) hcM)
  have HBL : Hid (∀ x, (behindR l ms ts x).ids.length ≤ 1000000) := Lib.hid (fun x => by
    have h1 := orderR_len l ms ts
    unfold behindR
    split
    · unfold afterR
      split
      · exact Nat.zero_le _
      · show (List.drop _ _).length ≤ _
        rw [List.length_drop]; omega
    · exact Nat.zero_le _)
  generalize verR l ms ts o amb = vr at HV1 HV2
  have o0 := (CC.out 0 _ rfl).1
  have o1 := (CC.out 1 _ rfl).1
  have r0 := (CR.out 0 _ rfl).1
  have r1 := (CR.out 1 _ rfl).1
  have r2 := (CR.out 2 _ rfl).1
  clear q hM hO
  unfold callV ordV
  go_enter Tryz.func5, Tryz.ntmps5
  go_wp2_with (fail)
  rw [← hW1]
  clear hW1
  refine (sane_calls W1).mono ?_
  rintro e V0 ⟨rfl, hb0⟩
  have q0 := below_step b1 hb0
  have u0 := cell_all o0 hb0
  have HFE := Lib.hid (few_calls AM cM ms V0 _ (HM.out.all q0) HQ.out.hp)
  cases hfe : fewB ms with
  | false =>
    rw [hfe] at HFE
    clear hfe
    go_wp2_with (fail)
    refine HFE.out.mono ?_
    rintro e V2 ⟨rfl, hb2⟩
    have q2 := below_step q0 hb2
    go_wp2
    go_ret
    exact ⟨rfl, q2⟩
  | true =>
  rw [hfe] at HFE
  clear hfe
  go_wp2_with (fail)
  refine HFE.out.mono ?_
  clear HFE u0
  rintro e V1 ⟨rfl, hb1⟩
  have q1 := below_step q0 hb1
  have hv1 := below_step hb0 hb1
  have c0 := cell_all o0 hv1
  have c1 := cell_all o1 hv1
  have d0 := cell_all r0 hv1
  have d1 := cell_all r1 hv1
  have d2 := cell_all r2 hv1
  have HX1 := Lib.hid (fun V (hv : Below V1.heap.size V1 V) => HV1.out V (below_step q1 hv))
  have HX2 := Lib.hid (fun V (hv : Below V1.heap.size V1 V) => HV2.out V (below_step q1 hv))
  clear HV1 HV2 o0 o1 r0 r1 r2
  go_wp2_with (fail)
  go_region_held3 (fun w' => Below V1.heap.size V1 w' ∧ w'.cell? ⟨W.heap.size, 0, none⟩ = some (.slice AM ms.length cM) ∧ w'.cell? ⟨W.heap.size, 1, none⟩ = some (.slice AT ts.length cT) ∧ w'.cell? ⟨W.heap.size + 1, 0, none⟩ = some (.slice AO o.length cO) ∧ w'.cell? ⟨W.heap.size + 1, 1, none⟩ = some (.bool amb) ∧ w'.cell? ⟨W.heap.size + 1, 2, none⟩ = some (.slice AL lf.length cL))
    (first | exact ⟨(Below.refl _ V1).drew, c0, c1, d0, d1, d2⟩ | (go_split_ands; exact ⟨below_step (by assumption) hbu, cell_all (by assumption) hbu, cell_all (by assumption) hbu, cell_all (by assumption) hbu, cell_all (by assumption) hbu, cell_all (by assumption) hbu⟩))
    (first
      | (go_at_call 20; refine (HX1.out _ (by go_split_ands; assumption)).mono ?_; rintro e U ⟨rfl, hbu⟩)
      | (go_at_call 21; refine (HX2.out _ (by go_split_ands; assumption)).mono ?_; rintro e U ⟨rfl, hbu⟩))
  have bU : Below V1.heap.size V1 U := by go_split_ands; assumption
  have qU := below_step q1 bU
  have CCU : Hid (Cel W.heap.size [.slice AM ms.length cM, .slice AT ts.length cT] U) := Lib.hid (CC.out.all (below_step hv1 bU))
  have CRU : Hid (Cel (W.heap.size + 1) [.slice AO o.length cO, .bool amb, .slice AL lf.length cL] U) := Lib.hid (CR.out.all (below_step hv1 bU))
  go_split_ands
  clear c0 c1 d0 d1 d2 HX1 HX2 CC CR
  obtain ⟨W2, hW2⟩ : ∃ W2 : World, W2 = U := ⟨_, rfl⟩
  subst hW2
  rename_i z1 z2 z3 z4 z5 z6
  clear z1 z2 z3 z4 z5 z6
  go_wp2_with (fail)
  go_loopw [8] (fun i wr => ∃ k : Nat, k ≤ o.length ∧ i = .int .i64 k ∧ Below W2.heap.size W2 wr) (fun i _ => o.length - (intOf i).toNat)
  case atStart => exact ⟨0, Nat.zero_le _, rfl, Below.refl _ _⟩
  case round =>
    obtain ⟨k, hk, rfl, hb⟩ := hrel
    have qr := below_step qU hb
    have d0 := (CRU.out.all hb 0 _ rfl).1
    by_cases hlt : k < o.length
    rotate_left
    · obtain rfl : k = o.length := by omega
      go_wp2
      go_ret
      exact ⟨rfl, qr⟩
    by_cases h20 : k < 20
    rotate_left
    · have t1 : decide ((k : Int) < 20) = false := decide_eq_false (by omega)
      clear h20
      go_wp2
      go_ret
      exact ⟨rfl, qr⟩
    obtain ⟨b, off, rfl⟩ := Slc.addrH HO.out (by omega)
    have hx : o[k]? = some o[k] := List.getElem?_eq_getElem hlt
    generalize o[k] = x at hx
    have g0 := Ints.atH (HO.out.all qr) hx
    have c0 := (CCU.out.all hb 0 _ rfl).1
    have c1 := (CCU.out.all hb 1 _ rfl).1
    have w1 : (0 : Int) ≤ (k : Int) := by omega
    have w2 : (k : Int) < (o.length : Int) := by omega
    have t1 : decide ((k : Int) < 20) = true := decide_eq_true (by omega)
    have HK := Lib.hid hlt
    have HB1 := Lib.hid (fun V (hv : Below wr.heap.size wr V) => HB1.out x V (below_step qr hv))
    have HB2 := Lib.hid (fun V (hv : Below wr.heap.size wr V) => HB2.out x V (below_step qr hv))
    have HBLX := Lib.hid (HBL.out x)
    clear hx h20
    generalize behindR l ms ts x = br at HB1 HB2 HBLX
    obtain ⟨bi, ba, be⟩ := br
    simp only at HB1 HB2 HBLX
    go_wp2_with (fail)
    go_region_held3 (fun w' => Below wr.heap.size wr w' ∧ w'.cell? ⟨W.heap.size, 0, none⟩ = some (.slice AM ms.length cM) ∧ w'.cell? ⟨W.heap.size, 1, none⟩ = some (.slice AT ts.length cT) ∧ w'.cell? ⟨W.heap.size + 1, 0, none⟩ = some (.slice (some ⟨b, off, none⟩) o.length cO) ∧ w'.cell? ⟨b, off + k, none⟩ = some (.int .i64 x))
      (first | exact ⟨(Below.refl _ wr).drew, c0, c1, d0, g0⟩ | (go_split_ands; exact ⟨below_step (by assumption) hbu, cell_all (by assumption) hbu, cell_all (by assumption) hbu, cell_all (by assumption) hbu, cell_all (by assumption) hbu⟩))
      ((go_at_call 22; refine (HB1.out _ (by go_split_ands; assumption)).mono ?_; rintro e U ⟨A1, n1, rfl, hi1, hbu⟩))
    have bU : Below wr.heap.size wr U := by go_split_ands; assumption
    have HI1 := Lib.hid hi1
    have qU2 := below_step qr bU
    have c0 := cell_all c0 bU
    have c1 := cell_all c1 bU
    have d0 := cell_all d0 bU
    have g0 := cell_all g0 bU
    have HBU := Lib.hid bU
    have HHB := Lib.hid hb
    have HB2 := Lib.hid (fun V (hv : Below U.heap.size U V) => HB2.out V (below_step bU hv))
    clear hi1 HB1
    go_split_ands
    rename_i z1 z2 z3 z4 z5
    clear z1 z2 z3 z4 z5 bU hb
    go_wp2_with (fail)
    go_region_held3 (fun w' => Below U.heap.size U w' ∧ w'.cell? ⟨W.heap.size, 0, none⟩ = some (.slice AM ms.length cM) ∧ w'.cell? ⟨W.heap.size, 1, none⟩ = some (.slice AT ts.length cT) ∧ w'.cell? ⟨W.heap.size + 1, 0, none⟩ = some (.slice (some ⟨b, off, none⟩) o.length cO) ∧ w'.cell? ⟨b, off + k, none⟩ = some (.int .i64 x))
      (first | exact ⟨(Below.refl _ U).drew, c0, c1, d0, g0⟩ | (go_split_ands; exact ⟨below_step (by assumption) hbu, cell_all (by assumption) hbu, cell_all (by assumption) hbu, cell_all (by assumption) hbu, cell_all (by assumption) hbu⟩) | exact ⟨below_al HSV.out, cell_al (cell_all c0 HSV.out), cell_al (cell_all c1 HSV.out), cell_al (cell_all d0 HSV.out), cell_al (cell_all g0 HSV.out)⟩ | exact ⟨(below_al (Below.refl _ U)).drew, cell_al c0, cell_al c1, cell_al d0, cell_al g0⟩ | exact ⟨below_st3 HSV.out, cell_st3 c0 HSV.out, cell_st3 c1 HSV.out, cell_st3 d0 HSV.out, cell_st3 g0 HSV.out⟩)
      ((go_at_call 23; refine (HB2.out _ (by go_split_ands; assumption)).mono ?_; rintro e V ⟨A2, n2, e2, rfl, hn2, hi2, hbu⟩; have HSV : Hid (Below U.heap.size U V) := Lib.hid (below_step (by go_split_ands; assumption) hbu); (first | (have HZ := celBefore (U := U) (T := 53) (cs := #[.slice none 0 0, .bool false, .int .i64 0]) hbu rfl; have zc0 := (HZ 0 _ rfl).1; have zc1 := (HZ 1 _ rfl).1; have zc2 := (HZ 2 _ rfl).1; have zf0 := (HZ 0 _ rfl).2; have zf1 := (HZ 1 _ rfl).2; have zf2 := (HZ 2 _ rfl).2; have HZH := Lib.hid HZ; clear HZ) | skip)))
    · subst hn2
      have bX : Below U.heap.size U (V.alloc (.cells #[.slice A2 bi.length e2, .bool ba, .int .i64 be] 53)) := below_al HSV.out
      have CX : Hid (Cel V.heap.size [.slice A2 bi.length e2, .bool ba, .int .i64 be] (V.alloc (.cells #[.slice A2 bi.length e2, .bool ba, .int .i64 be] 53))) := Lib.hid (Cel.new V _ _ _ rfl)
      have HI2 := hi2.keep (Keep.alloc _ V (.cells #[.slice A2 bi.length e2, .bool ba, .int .i64 be] 53))
      go_split_ands
      generalize V.alloc (.cells #[.slice A2 bi.length e2, .bool ba, .int .i64 be] 53) = X at bX CX HI2 ⊢
      have HS := Lib.hid (sameInts_true A1 A2 n1 e2 bi X _ _ (HI1.out.all bX) HI2 HBLX.out)
      have n0 := (CX.out 0 _ rfl).1
      have n1' := (CX.out 1 _ rfl).1
      have n2' := (CX.out 2 _ rfl).1
      have t3 : (be != be) = false := bne_self_eq_false be
      have HF : Hid (∀ Y, Below X.heap.size X Y → Below W2.heap.size W2 Y) := Lib.hid (fun Y hy => below_step (below_step (below_step HHB.out HBU.out) bX) hy)
      clear hi2 HI2 bX c0 c1 d0 g0 HSV HB2
      rename_i y1 y2 y3 y4 y5
      clear y1 y2 y3 y4 y5
      cases ba
      all_goals
        go_wp2_with (fail)
        refine HS.out.mono ?_
        rintro e Y ⟨rfl, hy⟩
        have hY := HF.out Y hy
        go_wp2
        go_roundw
        case rel => exact ⟨k + 1, by have := HK.out; omega, by go_num, hY⟩
        case measure => have := HK.out; simp [intOf]; omega
    · subst hn2
      have bX : Below U.heap.size U (((V.setCell ⟨U.heap.size, 0, none⟩ (.slice A2 bi.length e2)).setCell ⟨U.heap.size, 1, none⟩ (.bool ba)).setCell ⟨U.heap.size, 2, none⟩ (.int .i64 be)) := below_st3 HSV.out
      have CX : Hid (Cel U.heap.size [.slice A2 bi.length e2, .bool ba, .int .i64 be] (((V.setCell ⟨U.heap.size, 0, none⟩ (.slice A2 bi.length e2)).setCell ⟨U.heap.size, 1, none⟩ (.bool ba)).setCell ⟨U.heap.size, 2, none⟩ (.int .i64 be))) := Lib.hid (((HZH.out.set 0 (by simp) _).set 1 (by simp) _).set 2 (by simp) _)
      have kS : ∀ (Z : World) (j : Nat) (u : Value), Keep (fun b => U.heap.size < b) Z (Z.setCell ⟨U.heap.size, j, none⟩ u) := fun Z j u => Keep.setCell Z (p := ⟨U.heap.size, j, none⟩) (fun b (hb : U.heap.size < b) => by show b ≠ U.heap.size; omega) u
      have HI2 := (hi2.mono (G' := fun b => U.heap.size < b) (fun b _ hb => by have h2 := hb; simp at h2; show U.heap.size < b; omega)).keep (((kS V 0 (.slice A2 bi.length e2)).trans (kS _ 1 (.bool ba))).trans (kS _ 2 (.int .i64 be)))
      go_split_ands
      generalize ((V.setCell ⟨U.heap.size, 0, none⟩ (.slice A2 bi.length e2)).setCell ⟨U.heap.size, 1, none⟩ (.bool ba)).setCell ⟨U.heap.size, 2, none⟩ (.int .i64 be) = X at bX CX HI2 ⊢
      have HS := Lib.hid (sameInts_true A1 A2 n1 e2 bi X _ _ (HI1.out.all bX) HI2 HBLX.out)
      have n0 := (CX.out 0 _ rfl).1
      have n1' := (CX.out 1 _ rfl).1
      have n2' := (CX.out 2 _ rfl).1
      have t3 : (be != be) = false := bne_self_eq_false be
      have HF : Hid (∀ Y, Below X.heap.size X Y → Below W2.heap.size W2 Y) := Lib.hid (fun Y hy => below_step (below_step (below_step HHB.out HBU.out) bX) hy)
      clear hi2 HI2 bX c0 c1 d0 g0 HSV HB2 zc0 zc1 zc2 zf0 zf1 zf2 HZH
      rename_i y1 y2 y3 y4 y5
      clear y1 y2 y3 y4 y5
      cases ba
      all_goals
        go_wp2_with (fail)
        refine HS.out.mono ?_
        rintro e Y ⟨rfl, hy⟩
        have hY := HF.out Y hy
        go_wp2
        go_roundw
        case rel => exact ⟨k + 1, by have := HK.out; omega, by go_num, hY⟩
        case measure => have := HK.out; simp [intOf]; omega
end Go.Proofs.YtepnmejahbiacaaGreat
