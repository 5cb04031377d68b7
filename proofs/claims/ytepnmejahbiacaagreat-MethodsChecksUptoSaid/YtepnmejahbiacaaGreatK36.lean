/- Part 36 of the proof: Qy, Sr. -/
import Derived.Test.YtepnmejahbiacaaGreatK22
import Derived.Test.YtepnmejahbiacaaGreatK19
import Derived.Test.YtepnmejahbiacaaGreatK05
import Derived.Test.YtepnmejahbiacaaGreatK06
import Derived.Test.YtepnmejahbiacaaGreatK07
import Derived.Test.YtepnmejahbiacaaGreatK12
import Derived.Test.YtepnmejahbiacaaGreatK13
import Derived.Test.YtepnmejahbiacaaGreatK14
import Derived.Test.YtepnmejahbiacaaGreatK15
import Derived.Test.YtepnmejahbiacaaGreatK18
import Derived.Test.YtepnmejahbiacaaGreatK25
import Derived.Test.YtepnmejahbiacaaGreatK24
import Derived.Test.YtepnmejahbiacaaGreatK21
import Derived.Test.YtepnmejahbiacaaGreatK08
import Derived.Test.YtepnmejahbiacaaGreatK17
import Derived.Test.YtepnmejahbiacaaGreatK04
import Derived.Test.YtepnmejahbiacaaGreatK10
import Derived.Test.YtepnmejahbiacaaGreatK11
import Derived.Test.YtepnmejahbiacaaGreatK23
import Derived.Test.YtepnmejahbiacaaGreatK26
import Derived.Test.YtepnmejahbiacaaGreatK27
import Derived.Test.YtepnmejahbiacaaGreatK28
import Derived.Test.YtepnmejahbiacaaGreatK31
import Derived.Test.YtepnmejahbiacaaGreatK32
import Derived.Test.YtepnmejahbiacaaGreatK33
import Derived.Test.YtepnmejahbiacaaGreatK34
import Derived.Test.YtepnmejahbiacaaGreatK35
import Derived.Test.YtepnmejahbiacaaGreatK09
import Derived.Test.YtepnmejahbiacaaGreatK03
import Derived.Test.YtepnmejahbiacaaGreatK16
import Derived.Test.YtepnmejahbiacaaGreatK02
import Derived.Test.YtepnmejahbiacaaGreatK01
import Derived.Test.YtepnmejahbiacaaGreatK20
import Derived.BigQuiet
import Derived.Carry
import Derived.Deep.AppendLies
import Derived.Deep.DrawnRows
import Derived.Deep.Draws
import Derived.Deep.LoopGhost
import Derived.Deep.QuietTactic
import Derived.Deep.RegionHeld3
import Derived.Deep.RegionLaw
import Derived.Deep.RegionWith
import Derived.KernelRfl
import Derived.Laws.EntriesVeiled
import Derived.Laws.OwnMore
import Derived.Lib.Hide
import Derived.Lib.SliceRun
import Derived.LoopIn
import Derived.LoopNIn
import Derived.Maps.AppendAt
import Derived.Maps.Own
import Derived.Maps.OwnIn
import Derived.Outline
import Derived.OwnWalkIn
import Derived.RangeFuncBound
import Derived.RangeFuncCalls
import Derived.RangeFuncLeaves
import Derived.RangeFuncNested
import Derived.Recover
import Derived.StillTailTactics
import Derived.Stop.RegionWithIn
import Derived.TacticsInMore
import Derived.Test.YtepnmejahbiacaaGreatProg
import Derived.WalkKit
import Derived.WalkSpells
set_option linter.unusedVariables false
set_option linter.unusedSimpArgs false
namespace Go.Proofs.YtepnmejahbiacaaGreat
open Go.RowKit
attribute [local go_sem ↓] Go.wp_at_zero Go.wp_at_succ
def pickUp {α : Type} (P : α → α → Bool) (l : List α) (k j : Nat) : Bool := (List.range j).all fun q => decide (k = q) || pairP P l k q
theorem pickUp_step {α : Type} (P : α → α → Bool) (l : List α) (k j : Nat) : pickUp P l k (j + 1) = (pickUp P l k j && (decide (k = j) || pairP P l k j)) := by
  unfold pickUp; rw [List.range_succ, List.all_append]; simp
theorem pickUp_all {α : Type} (P : α → α → Bool) (l : List α) (k : Nat) : pickUp P l k l.length = pickOk P l k := rfl
theorem pickUp_not {α : Type} {P : α → α → Bool} {l : List α} {k j : Nat} (hj : j ≤ l.length) (h : pickUp P l k j = false) : pickOk P l k = false := by
  unfold pickUp at h
  obtain ⟨q, hq, hn⟩ := List.all_eq_false.1 h
  unfold pickOk
  exact List.all_eq_false.2 ⟨q, by rw [List.mem_range] at hq ⊢; omega, hn⟩
theorem pick_found {α : Type} {P : α → α → Bool} {l : List α} {k : Nat} (hk : k < l.length) (h : pickOk P l k = true) (hb : ∀ j, j < k → pickOk P l j = false) : pick P l = some k := by
  unfold pick
  rw [List.find?_range_eq_some]
  exact ⟨h, List.mem_range.2 hk, fun j hj => by rw [hb j hj]; rfl⟩
theorem pick_none' {α : Type} {P : α → α → Bool} {l : List α} (hb : ∀ j, j < l.length → pickOk P l j = false) : pick P l = none := by
  unfold pick
  rw [List.find?_eq_none]
  intro j hj
  rw [hb j (List.mem_range.1 hj)]; decide
/-- The index that first returns. -/
def pickI {α : Type} (P : α → α → Bool) (l : List α) : Int := match pick P l with
  | some i => (i : Int)
  | none => -1
/-- Methods whose types are valid, with n parameters each. -/
structure MsOk (l : List CI) (n : Nat) (ls : List Meth) : Prop where
  len : ∀ m ∈ ls, m.pars.length = n
  valid : ∀ m ∈ ls, ∀ p ∈ m.pars, validErr l p.type = 0
  small : ∀ m ∈ ls, ∀ p ∈ m.pars, TySmall p.type
set_option maxHeartbeats 32000000 in
set_option maxRecDepth 100000 in
theorem first10_calls (AH : Option Addr) (cH : Nat) (l : List CI) (hL : LookOk l) (A : Option Addr) (c : Nat) (ls : List Meth) (AT : Option Addr) (cT : Nat) (ts : List Tag) (W : World) (hi : HiIn W AH cH l) (G : Nat → Prop) (hM : Held G (Meths A ls) W) (hn : ls.length ≤ 1000000) (hT : ∃ G, Held G (Tags AT ts) W) (hts : ts.length ≤ 1000000) (hok : MsOk l ts.length ls) :
    Calls Tryz.prog 115 #[.slice AH l.length cH, .slice A ls.length c, .slice AT ts.length cT] W fun e W' => e = .returned (.int .i64 (pickI (precB l ts) ls)) ∧ Below W.heap.size W W' := by
  obtain ⟨P, hP⟩ : ∃ P, P = precB l ts := ⟨_, rfl⟩
  have HPR : Hid (∀ (V : World) (a b : Meth) (Aa Ar Ba Br : Option Addr) (ca cr cb cq : Nat), Below W.heap.size W V → a ∈ ls → b ∈ ls → MetIn V a Aa Ar ca cr → MetIn V b Ba Br cb cq → Calls Tryz.prog 73 #[.slice AH l.length cH, twoMet a b Aa Ar Ba Br ca cr cb cq, .slice AT ts.length cT] V fun e V' => e = .returned (.bool (P a b)) ∧ Below V.heap.size V V') :=
    Lib.hid (fun V a b Aa Ar Ba Br ca cr cb cq hv ha hb h1 h2 => by
      rw [hP]
      exact precedes10_calls AH cH l hL a b Aa Ar Ba Br ca cr cb cq AT cT ts V (hi.keep hv) h1 h2 (hT.imp fun _ h => h.keep (Keep.all hv)) hts (hok.len a ha) (hok.len b hb) (hok.valid a ha) (hok.valid b hb))
  rw [← hP]
  have HM := Lib.hid hM
  have HOK := Lib.hid hok
  have hts' := hts
  clear hP hM hi hT hok
  go_enter Tryz.func115, Tryz.ntmps115
  go_wp2_with (fail)
  go_loopw [7] (fun i wr => ∃ k : Nat, k ≤ ls.length ∧ i = .int .i64 k ∧ (∀ j, j < k → pickOk P ls j = false) ∧ Below W.heap.size W wr) (fun i _ => ls.length - (intOf i).toNat)
  case atStart => exact ⟨0, Nat.zero_le _, rfl, fun j h => absurd h (by omega), Below.refl _ _⟩
  case round =>
    obtain ⟨k, hk, rfl, hbad, hb⟩ := hrel
    have HBAD := Lib.hid hbad
    clear hbad
    by_cases hlt : k < ls.length
    · obtain ⟨b, off, rfl⟩ := Slc.addrH HM.out (by omega)
      have hx : ls[k]? = some ls[k] := List.getElem?_eq_getElem hlt
      generalize ls[k] = x at hx
      have HX := Lib.hid hx
      have hxm := List.mem_of_getElem? hx
      obtain ⟨A1, c1, A2, c2, p1, p2, p3, p4, f0, f1, f2, f3, f4, f5, f6, f7⟩ := Meths.atH (HM.out.keep (Keep.all hb)) hx
      have HF := Lib.hid (And.intro f0 (And.intro f1 (And.intro f2 (And.intro f3 (And.intro f4 (And.intro f5 (And.intro f6 f7)))))))
      have HMI : Hid (MetIn wr x A1 A2 c1 c2) := Lib.hid ⟨p1, ⟨_, p2⟩, p3, ⟨_, p4⟩, HOK.out.small x hxm, by rw [HOK.out.len x hxm]; exact hts'⟩
      have HXM := Lib.hid hxm
      have w1 : (0 : Int) ≤ (k : Int) := by omega
      have w2 : (k : Int) < (ls.length : Int) := by omega
      have HK := Lib.hid hlt
      clear hx hxm p1 p2 p3 p4 f0 f1 f2 f3 f4 f5 f6 f7
      obtain ⟨wo, hwo⟩ : ∃ wo : World, wo = wr := ⟨_, rfl⟩
      subst hwo
      go_wp2_with (fail)
      go_loopw [8, 9] (fun v i w2 => ∃ j : Nat, j ≤ ls.length ∧ v = .bool (pickUp P ls k j) ∧ i = .int .i64 j ∧ Below wo.heap.size wo w2) (fun _ i _ => ls.length - (intOf i).toNat)
      case atStart => exact ⟨0, Nat.zero_le _, rfl, rfl, Below.refl _ _⟩
      case round =>
        obtain ⟨j, hj, rfl, rfl, hb2⟩ := hrel
        have q2 := below_step hb hb2
        cases hup : pickUp P ls k j with
        | false =>
          have HNO := Lib.hid (pickUp_not hj hup)
          clear hup
          by_cases hjl : j < ls.length
          all_goals
            go_wp2
            go_roundw
            case rel =>
              refine ⟨k + 1, by have := HK.out; omega, by go_num, fun i hi => ?_, q2⟩
              rcases Nat.lt_or_ge i k with z | z
              · exact HBAD.out i z
              · obtain rfl : i = k := by have := HK.out; omega
                exact HNO.out
            case measure => have := HK.out; simp [intOf]; omega
        | true =>
          have HUP := Lib.hid hup
          have HST := Lib.hid (pickUp_step P ls k j)
          rw [hup] at HST
          clear hup
          by_cases hjl : j < ls.length
          · by_cases hkj : k = j
            · have HST2 : Hid (pickUp P ls k (j + 1) = true) := Lib.hid (by rw [HST.out, decide_eq_true hkj]; rfl)
              have t1 : ((k : Int) == (j : Int)) = true := beq_iff_eq.2 (by omega)
              have HJ := Lib.hid hjl
              clear hkj
              go_wp2_with (fail)
              go_quiet (fail)
              have hb3 : Below wo.heap.size wo (wr.drewN nq) := below_step hb2 ((Drw.of _ _).below _)
              go_wp2
              go_roundw
              case rel => exact ⟨j + 1, by have := HJ.out; omega, by rw [HST2.out]; try rfl, by go_num, hb3⟩
              case measure => have := HJ.out; simp [intOf]; omega
            · have t1 : ((k : Int) == (j : Int)) = false := beq_eq_false_iff_ne.2 (by omega)
              have hy : ls[j]? = some ls[j] := List.getElem?_eq_getElem hjl
              generalize ls[j] = y at hy
              have HST2 : Hid (pickUp P ls k (j + 1) = P x y) := Lib.hid (by rw [HST.out, decide_eq_false hkj]; unfold pairP; rw [HX.out, hy]; rfl)
              have hym := List.mem_of_getElem? hy
              obtain ⟨B1, d1, B2, d2, p1, p2, p3, p4, g0, g1, g2, g3, g4, g5, g6, g7⟩ := Meths.atH (HM.out.keep (Keep.all q2)) hy
              have HMY : Hid (MetIn wr y B1 B2 d1 d2) := Lib.hid ⟨p1, ⟨_, p2⟩, p3, ⟨_, p4⟩, HOK.out.small y hym, by rw [HOK.out.len y hym]; exact hts'⟩
              have HCP := Lib.hid (fun V (hv : Below wr.heap.size wr V) => HPR.out V x y A1 A2 B1 B2 c1 c2 d1 d2 (below_step q2 hv) HXM.out hym ((HMI.out.keep hb2).keep hv) (HMY.out.keep hv))
              have f0 := cell_all HF.out.1 hb2
              have f1 := cell_all HF.out.2.1 hb2
              have f2 := cell_all HF.out.2.2.1 hb2
              have f3 := cell_all HF.out.2.2.2.1 hb2
              have f4 := cell_all HF.out.2.2.2.2.1 hb2
              have f5 := cell_all HF.out.2.2.2.2.2.1 hb2
              have f6 := cell_all HF.out.2.2.2.2.2.2.1 hb2
              have f7 := cell_all HF.out.2.2.2.2.2.2.2 hb2
              have w3 : (0 : Int) ≤ (j : Int) := by omega
              have w4 : (j : Int) < (ls.length : Int) := by omega
              have HJ := Lib.hid hjl
              clear hkj hy hym p1 p2 p3 p4 HST
              generalize P x y = pb at HST2 HCP
              unfold twoMet at HCP
              go_wp2_with (fail)
              go_region_held3 (fun w' => Below wr.heap.size wr w' ∧ w'.cell? ⟨b, off + k * 8, none⟩ = some (.int .i64 x.id) ∧ w'.cell? ⟨b, off + k * 8 + 1, none⟩ = some (.string x.lib) ∧ w'.cell? ⟨b, off + k * 8 + 2, none⟩ = some (.slice A1 x.pars.length c1) ∧ w'.cell? ⟨b, off + k * 8 + 3, none⟩ = some (.int .i64 x.result.kind) ∧ w'.cell? ⟨b, off + k * 8 + 4, none⟩ = some (.string x.result.name) ∧ w'.cell? ⟨b, off + k * 8 + 5, none⟩ = some (.int .i64 x.result.lo) ∧ w'.cell? ⟨b, off + k * 8 + 6, none⟩ = some (.int .i64 x.result.hi) ∧ w'.cell? ⟨b, off + k * 8 + 7, none⟩ = some (.slice A2 x.result.args.length c2) ∧
                  w'.cell? ⟨b, off + j * 8, none⟩ = some (.int .i64 y.id) ∧ w'.cell? ⟨b, off + j * 8 + 1, none⟩ = some (.string y.lib) ∧ w'.cell? ⟨b, off + j * 8 + 2, none⟩ = some (.slice B1 y.pars.length d1) ∧ w'.cell? ⟨b, off + j * 8 + 3, none⟩ = some (.int .i64 y.result.kind) ∧ w'.cell? ⟨b, off + j * 8 + 4, none⟩ = some (.string y.result.name) ∧ w'.cell? ⟨b, off + j * 8 + 5, none⟩ = some (.int .i64 y.result.lo) ∧ w'.cell? ⟨b, off + j * 8 + 6, none⟩ = some (.int .i64 y.result.hi) ∧ w'.cell? ⟨b, off + j * 8 + 7, none⟩ = some (.slice B2 y.result.args.length d2))
                (first | exact ⟨(Below.refl _ wr).drew, f0, f1, f2, f3, f4, f5, f6, f7, g0, g1, g2, g3, g4, g5, g6, g7⟩ | (go_split_ands; exact ⟨below_step (by assumption) hbu, cell_all (by assumption) hbu, cell_all (by assumption) hbu, cell_all (by assumption) hbu, cell_all (by assumption) hbu, cell_all (by assumption) hbu, cell_all (by assumption) hbu, cell_all (by assumption) hbu, cell_all (by assumption) hbu, cell_all (by assumption) hbu, cell_all (by assumption) hbu, cell_all (by assumption) hbu, cell_all (by assumption) hbu, cell_all (by assumption) hbu, cell_all (by assumption) hbu, cell_all (by assumption) hbu, cell_all (by assumption) hbu⟩))
                ((go_at_call 73; refine (HCP.out _ (by go_split_ands; assumption)).mono ?_; rintro e U ⟨rfl, hbu⟩))
              have hb5 : Below wr.heap.size wr U := by go_split_ands; assumption
              have hb6 := below_step hb2 hb5
              go_split_ands
              clear HCP
              cases pb
              all_goals
                go_wp2
                go_roundw
                case rel => exact ⟨j + 1, by have := HJ.out; omega, by rw [HST2.out]; try rfl, by go_num, hb6⟩
                case measure => have := HJ.out; simp [intOf]; omega
          · obtain rfl : j = ls.length := by omega
            have HR : Hid (pickI P ls = (k : Int)) := Lib.hid (by unfold pickI; rw [pick_found HK.out (by rw [← pickUp_all]; exact HUP.out) HBAD.out])
            go_wp2
            go_ret
            exact ⟨by rw [HR.out]; try rfl, q2⟩
    · obtain rfl : k = ls.length := by omega
      have HR : Hid (pickI P ls = -1) := Lib.hid (by unfold pickI; rw [pick_none' HBAD.out])
      go_wp2
      go_ret
      exact ⟨by rw [HR.out]; try rfl, hb⟩
end Go.Proofs.YtepnmejahbiacaaGreat
set_option linter.unusedVariables false
set_option linter.unusedSimpArgs false
namespace Go.Proofs.YtepnmejahbiacaaGreat
open Go.RowKit
theorem msOk_of {l : List CI} {ms ls : List Meth} {ts : List Tag} (hz : checkAllE l ms ts = 0) (hs : ∀ m ∈ ms, ∀ p ∈ m.pars, TySmall p.type) (hsub : ∀ m ∈ ls, m ∈ ms) : MsOk l ts.length ls := by
  obtain ⟨z1, z2, z3, z4, z5, z6⟩ := checkAllE_zero hz
  refine ⟨fun m hm => z5 m (hsub m hm), fun m hm p hp => ?_, fun m hm => hs m (hsub m hm)⟩
  unfold AreMs at z3
  rw [Bool.and_eq_true] at z3
  have := List.all_eq_true.1 z3.2 m (hsub m hm)
  unfold parsOk at this
  rw [Bool.and_eq_true] at this
  exact of_decide_eq_true (List.all_eq_true.1 this.2 p hp)
theorem Own.lt' {α : Type} {R : α → List Value → World → Prop} {T sz base : Nat} {G : Nat → Prop} {v : Value} {l : List α} {w : World} (h : Own R T sz base G v l w) (k : Nat) (hk : v.ownBlock = some k) : base ≤ k := (h.lt k hk).1
/-- What Sorted returns. -/
def ordPost (l : List CI) (ts : List Tag) (ms : List Meth) (W : World) (e : Ending) (W' : World) : Prop :=
  ∃ A1 c1 A2 c2, e = .returned (.agg #[.slice A1 (ordB l ts ms).1.length c1, .bool (decide (0 < (ordB l ts ms).2.length)), .slice A2 (ordB l ts ms).2.length c2]) ∧ (ordB l ts ms).1.length ≤ c1 ∧ Held (fun b => W.heap.size ≤ b) (Ints A1 ((ordB l ts ms).1.map (·.id))) W' ∧
    (ordB l ts ms).2.length ≤ c2 ∧ Held (fun b => W.heap.size ≤ b) (Ints A2 ((ordB l ts ms).2.map (·.id))) W' ∧ Below W.heap.size W W'
/-- The end: the record is filled and copied. -/
theorem ord_fin {l : List CI} {ts : List Tag} {ms os ls : List Meth} {vo lf : Value} {W wr Wf : World} {B : Nat} (h1 : ordB l ts ms = (os, ls)) (ho : Own intR 3 1 B (fun _ => False) vo (os.map (·.id)) wr) (hl : Own intR 3 1 B (fun _ => False) lf (ls.map (·.id)) wr) (hB : W.heap.size + 2 ≤ B)
    (hb : Below W.heap.size W wr) (hc : Chg (fun b => b = W.heap.size ∨ b = W.heap.size + 1) wr Wf) (bo : Bool) (hbo : bo = decide (0 < ls.length)) (e : Ending) (he : e = .returned (.agg #[vo, .bool bo, lf])) : ordPost l ts ms W e Wf := by
  obtain ⟨A1, c1, rfl, hc1, k1⟩ := ho.out
  obtain ⟨A2, c2, rfl, hc2, k2⟩ := hl.out
  subst he hbo
  unfold ordPost
  rw [h1]
  rw [List.length_map] at hc1 hc2
  refine ⟨A1, c1, A2, c2, by simp only [List.length_map], hc1, ?_, hc2, ?_, ?_⟩
  · refine (k1.keep (hc.keep ?_)).mono ?_
    · rintro b (q | q)
      · exact q.elim
      · have := (ho.lt b q).1; omega
    · rintro b _ (q | q)
      · exact q.elim
      · have := (ho.lt' b q); omega
  · refine (k2.keep (hc.keep ?_)).mono ?_
    · rintro b (q | q)
      · exact q.elim
      · have := (hl.lt b q).1; omega
    · rintro b _ (q | q)
      · exact q.elim
      · have := (hl.lt' b q); omega
  · exact hb.trans (hc.below hb.size fun b q => by rcases q with q | q <;> omega)
set_option maxHeartbeats 32000000 in
set_option maxRecDepth 100000 in
theorem sorted10_calls (AH : Option Addr) (cH : Nat) (l : List CI) (A : Option Addr) (c : Nat) (ms : List Meth) (AT : Option Addr) (cT : Nat) (ts : List Tag) (W : World) (q : Asks AH cH l A ms AT ts W) (hz : checkAllE l ms ts = 0) :
    Calls Tryz.prog 69 #[.slice AH l.length cH, .slice A ms.length c, .slice AT ts.length cT] W (ordPost l ts ms W) := by
  obtain ⟨z1, z2, z3, z4, z5, z6⟩ := checkAllE_zero hz
  have hok := msOk_of hz q.hs (ls := ms) (fun _ h => h)
  have hnd := areMs_nodup z3
  have HI := Lib.hid q.hi
  obtain ⟨GM, hM⟩ := q.hM
  have HM := Lib.hid hM
  have HAP : Hid (∀ V m A1 c1 A2 c2, Below W.heap.size W V → m ∈ ms → MetIn V m A1 A2 c1 c2 → Calls Tryz.prog 43 #[.slice AH l.length cH, metV m A1 c1 A2 c2, .slice AT ts.length cT] V fun e V' => e = .returned (.bool (appB l ts m)) ∧ Below V.heap.size V V') :=
    Lib.hid (fun V m A1 c1 A2 c2 hv hm hmi => applies10_calls AH cH l m A1 A2 c1 c2 AT cT ts V (HI.out.keep hv) hmi (q.hT.imp fun _ h => h.keep (Keep.all hv)) q.hts z1 (z5 m hm) (hok.valid m hm) z6)
  obtain ⟨P, hP⟩ : ∃ P, P = precB l ts := ⟨_, rfl⟩
  obtain ⟨fm, hfm⟩ : ∃ fm, fm = ms.filter (appB l ts) := ⟨_, rfl⟩
  have HORD : Hid (ordB l ts ms = orderG P fm.length fm) := Lib.hid (by unfold ordB; rw [hP, hfm])
  have HFM : Hid (∀ m ∈ fm, m ∈ ms) := Lib.hid (fun m hm => by rw [hfm] at hm; exact (List.mem_filter.1 hm).1)
  have HFE : Hid (fm = ms.filter (appB l ts)) := Lib.hid hfm
  have HFL : Hid (fm.length ≤ ms.length) := Lib.hid (by rw [hfm]; exact List.length_filter_le _ _)
  have HSO : Hid (∀ V AI cI lf, Below W.heap.size W V → (∀ m ∈ lf, m ∈ ms) → lf.length ≤ 1000000 → (∃ GI, Held GI (Ints AI (lf.map (·.id))) V) → Calls Tryz.prog 72 #[.slice A ms.length c, .slice AI lf.length cI] V fun e V' => ∃ v, e = .returned v ∧ Own metR 68 8 V.heap.size GM v lf V' ∧ Below V.heap.size V V') :=
    Lib.hid (fun V AI cI lf hv h1 h2 ⟨GI, h3⟩ => some10_calls A c ms GM AI cI lf V (hM.keep (Keep.all hv)) q.hn hnd h1 h2 GI h3)
  have HFI : Hid (∀ V A' c' ls G, Below W.heap.size W V → (∀ m ∈ ls, m ∈ ms) → ls.length ≤ 1000000 → Held G (Meths A' ls) V → Calls Tryz.prog 115 #[.slice AH l.length cH, .slice A' ls.length c', .slice AT ts.length cT] V fun e V' => e = .returned (.int .i64 (pickI P ls)) ∧ Below V.heap.size V V') :=
    Lib.hid (fun V A' c' ls G hv h1 h2 h3 => by
      rw [hP]
      exact first10_calls AH cH l z1 A' c' ls AT cT ts V (HI.out.keep hv) G h3 h2 (q.hT.imp fun _ h => h.keep (Keep.all hv)) q.hts (msOk_of hz q.hs h1))
  have HS := Lib.hid q.hs
  have HP := Lib.hid q.hp
  have hn := q.hn
  clear hM q hok hnd hP hfm hz z1 z2 z3 z4 z5 z6
  obtain ⟨W1, hW1⟩ : ∃ W1, W1 = (W.alloc (.cells #[.slice none 0 0, .bool false, .slice none 0 0] 47)).alloc (.cells #[.slice none 0 0, .bool false, .slice none 0 0] 47) := ⟨_, rfl⟩
  have b1 : Below W.heap.size W W1 := by rw [hW1]; exact ((Below.refl _ W).alloc (Nat.le_refl _) _).alloc (by simp) _
  have hz1 : W1.heap.size = W.heap.size + 2 := by rw [hW1]; simp
  have CR : Hid (Cel W.heap.size [.slice none 0 0, .bool false, .slice none 0 0] W1) := Lib.hid (by rw [hW1]; exact (Cel.new W _ _ _ rfl).all ((Below.refl _ _).alloc (Nat.le_refl _) _))
  have CS : Hid (Cel (W.heap.size + 1) [.slice none 0 0, .bool false, .slice none 0 0] W1) := Lib.hid (by rw [hW1]; exact Cel.new (W.alloc _) _ _ _ (by simp))
  go_enter Tryz.func69, Tryz.ntmps69
  go_wp2_with (fail)
  rw [← hW1]
  clear hW1
  go_loopw [8, 9] (fun v i wr => ∃ k : Nat, k ≤ ms.length ∧ i = .int .i64 k ∧ Own intR 3 1 (W.heap.size + 2) (fun _ => False) v (((ms.take k).filter (appB l ts)).map (·.id)) wr ∧ Below W1.heap.size W1 wr) (fun _ i _ => ms.length - (intOf i).toNat)
  case atStart => exact ⟨0, Nat.zero_le _, rfl, Own.nil _ _ _ _ _ _, Below.refl _ _⟩
  case round =>
    obtain ⟨k, hk, rfl, hown, hb1⟩ := hrel
    have hb := below_step b1 hb1
    by_cases hlt : k < ms.length
    · obtain ⟨b, off, rfl⟩ := Slc.addrH HM.out (by omega)
      have hx : ms[k]? = some ms[k] := List.getElem?_eq_getElem hlt
      generalize ms[k] = x at hx
      have HX := Lib.hid hx
      obtain ⟨A1, c1, A2, c2, p1, p2, p3, p4, g0, g1, g2, g3, g4, g5, g6, g7⟩ := Meths.atH (HM.out.keep (Keep.all hb)) hx
      have hxm := List.mem_of_getElem? hx
      have HA := Lib.hid (HAP.out wr x A1 c1 A2 c2 hb hxm ⟨p1, ⟨_, p2⟩, p3, ⟨_, p4⟩, HS.out x hxm, HP.out x hxm⟩)
      have w1 : (0 : Int) ≤ (k : Int) := by omega
      have w2 : (k : Int) < (ms.length : Int) := by omega
      have HST := Lib.hid (filter_step (p := appB l ts) hx)
      have HLN : Hid (((ms.take k).filter (appB l ts)).length ≤ k) := Lib.hid (by
        have h1 := List.length_filter_le (appB l ts) (ms.take k)
        rw [List.length_take] at h1; omega)
      clear hx hxm p1 p2 p3 p4
      cases hap : appB l ts x with
      | false =>
        rw [hap] at HA HST
        clear hap
        go_wp2_with (fail)
        refine HA.out.mono ?_
        clear HA
        rintro e U ⟨rfl, hbu⟩
        have hownU := hown.all hbu
        go_wp2
        go_roundw
        case rel => exact ⟨k + 1, by omega, by go_num, (by rw [HST.out]; simpa using hownU), below_step hb1 hbu⟩
        case measure => simp [intOf]; omega
      | true =>
        rw [hap] at HA HST
        clear hap
        go_wp2_with (fail)
        refine HA.out.mono ?_
        clear HA
        rintro e U ⟨rfl, hbu⟩
        have hownU := hown.all hbu
        have u0 := cell_all g0 hbu
        have hb2 := below_step hb1 hbu
        clear g0 g1 g2 g3 g4 g5 g6 g7 hown
        generalize ((ms.take k).filter (appB l ts)) = fl at hownU HST HLN
        go_wp2_with (at_builtin; refine Classical.byContradiction fun hneg => ?_)
        apply hneg
        have hbz := hb2.size
        refine wp_append_one intR 3 1 (W.heap.size + 2) 8 (fun _ => False) _ rfl _ _ 27 _ rfl Tryz.underlying27 infoInt rfl (by decide) (by decide) _ (fl.map (·.id)) rfl ?own ⟨U.heap.size, 0, none⟩ 1 rfl x.id [.int .i64 x.id] rfl ?cells ?one ?held ?hG ?base ?len ?_
        case own => exact hownU.alloc _
        case cells => exact fun j u hu => cells_new U _ _ _ (by simp) j u hu
        case one => intro u hu; simp at hu; subst hu; rfl
        case held => exact fun _ _ => rfl
        case hG => exact fun b hb _ => hb.elim
        case base => simp; omega
        case len => have := HLN.out; simp; omega
        intro v' w1 hown1 hg1 _
        have hb3 : Below W1.heap.size W1 w1 := (hb2.alloc hb2.size _).grown hg1 (by simp; omega) fun k' e => by have := (hownU.lt _ e).1; omega
        have hown2 : Own intR 3 1 (W.heap.size + 2) (fun _ => False) v' ((fl ++ [x]).map (·.id)) w1 := by rw [List.map_append]; exact hown1
        clear hown1
        go_wp2
        go_roundw
        case rel => exact ⟨k + 1, by omega, by go_num, (by rw [HST.out]; exact hown2), hb3⟩
        case measure => simp [intOf]; omega
    · obtain rfl : k = ms.length := by omega
      rw [List.take_length, ← HFE.out] at hown
      have HOWN := Lib.hid hown
      have CR2 := Lib.hid (CR.out.all hb1)
      have CS2 := Lib.hid (CS.out.all hb1)
      clear hown CR CS
      obtain ⟨W2, hW2⟩ : ∃ W2 : World, W2 = wr := ⟨_, rfl⟩
      obtain ⟨v2, hv2⟩ : ∃ v2 : Value, v2 = u8 := ⟨_, rfl⟩
      subst hW2 hv2
      go_wp2_with (fail)
      go_loopw [8] (fun lf wr => ∃ (n : Nat) (os ls : List Meth) (Ao : Option Addr) (co : Nat), Own intR 3 1 (W.heap.size + 2) (fun _ => False) (.slice Ao os.length co) (os.map (·.id)) wr ∧ Own intR 3 1 (W.heap.size + 2) (fun _ => False) lf (ls.map (·.id)) wr ∧ (∀ b, (Value.slice Ao os.length co).ownBlock = some b → lf.ownBlock ≠ some b) ∧
        Cel (W.heap.size + 1) [.slice Ao os.length co, .bool false, .slice none 0 0] wr ∧ Cel W.heap.size [.slice none 0 0, .bool false, .slice none 0 0] wr ∧
        os ++ (orderG P n ls).1 = (orderG P fm.length fm).1 ∧ (orderG P n ls).2 = (orderG P fm.length fm).2 ∧ ls.length ≤ n ∧ os.length + ls.length ≤ ms.length ∧ (∀ m ∈ ls, m ∈ ms) ∧ Below W.heap.size W wr) (fun lf _ => slLen lf)
      case atStart => exact ⟨fm.length, [], fm, none, 0, Own.nil _ _ _ _ _ _, HOWN.out, by simp [Value.ownBlock], CS2.out, CR2.out, by simp, rfl, Nat.le_refl _, by simpa using HFL.out, HFM.out, hb⟩
      case round =>
        clear HOWN CR2 CS2 hb hb1
        obtain ⟨n, os, ls, Ao, co, hO, hL, hdis, cS, cR, e1, e2, hln, hlen, hmem, hb⟩ := hrel
        have HE1 := Lib.hid e1
        have HE2 := Lib.hid e2
        have HMEM := Lib.hid hmem
        have HDIS := Lib.hid hdis
        have CSR := Lib.hid cS
        have CRR := Lib.hid cR
        have HO := Lib.hid hO
        have HL := Lib.hid hL
        have hbz := hb.size
        clear e1 e2 hmem hdis cS cR hO hL
        by_cases h0 : 0 < ls.length
        · obtain ⟨g, cl, rfl, hgb, hgl⟩ := HL.out.form (by simpa using h0)
          rw [List.length_map] at HL HDIS
          have hl0 : (0 : Int) < (ls.length : Int) := by omega
          have HSC := Lib.hid (HSO.out wr (some ⟨g, 0, none⟩) cl ls hb HMEM.out (by omega) (by
            obtain ⟨A', c', e', _, k'⟩ := HL.out.out
            simp only [Value.slice.injEq] at e'
            obtain ⟨rfl, _, _⟩ := e'
            exact ⟨_, k'⟩))
          rw [List.length_map]
          go_wp2_with (fail)
          refine HSC.out.mono ?_
          clear HSC
          rintro e U ⟨v3, rfl, hown3, hbu⟩
          obtain ⟨A3, c3, rfl, hc3, k3⟩ := hown3.out
          have bU := below_step hb hbu
          have HFC := Lib.hid (HFI.out U A3 c3 ls _ bU HMEM.out (by omega) k3)
          clear hown3 hc3 k3
          cases hpk : pick P ls with
          | none =>
            have hpi : pickI P ls = -1 := by unfold pickI; rw [hpk]
            have hon := orderG_none (n := n) hpk
            rw [hpi] at HFC
            have HEQ : Hid (ordB l ts ms = (os, ls)) := Lib.hid (by
              rw [HORD.out]
              have a1 := HE1.out
              have a2 := HE2.out
              rw [hon] at a1 a2
              simp only [List.append_nil] at a1
              exact Prod.ext a1.symm a2.symm)
            clear hpk hpi hon
            go_wp2_with (fail)
            refine HFC.out.mono ?_
            clear HFC
            rintro e V ⟨rfl, hbv⟩
            have hv2 := below_step hbu hbv
            have bV := below_step bU hbv
            have HOV := Lib.hid (HO.out.all hv2)
            have HLV := Lib.hid (HL.out.all hv2)
            have s0 := ((CSR.out.all hv2) 0 _ rfl).1
            have s1 := ((CSR.out.all hv2) 1 _ rfl).1
            have s2 := ((CSR.out.all hv2) 2 _ rfl).1
            have sf1 := ((CSR.out.all hv2) 1 _ rfl).2
            have sf2 := ((CSR.out.all hv2) 2 _ rfl).2
            have r0 := ((CRR.out.all hv2) 0 _ rfl).1
            have r1 := ((CRR.out.all hv2) 1 _ rfl).1
            have r2 := ((CRR.out.all hv2) 2 _ rfl).1
            have rf0 := ((CRR.out.all hv2) 0 _ rfl).2
            have rf1 := ((CRR.out.all hv2) 1 _ rfl).2
            have rf2 := ((CRR.out.all hv2) 2 _ rfl).2
            go_wp2
            refine bodyPost_ret (v := .agg #[.slice Ao os.length co, .bool true, .slice (some ⟨g, 0, none⟩) ls.length cl]) (by simp [results, Tryz.results69, go_sem, s0, s1, s2, r0, r1, r2]) rfl ?_
            refine ord_fin HEQ.out HOV.out HLV.out (Nat.le_refl _) bV ?_ true (decide_eq_true h0).symm _ rfl
            have k : ∀ (b j : Nat) (X : World) (u : Value), b = W.heap.size ∨ b = W.heap.size + 1 → Chg (fun b => b = W.heap.size ∨ b = W.heap.size + 1) X (X.setCell ⟨b, j, none⟩ u) := fun b j X u hb => Chg.setCell X (p := ⟨b, j, none⟩) hb u
            exact ((((k _ _ _ _ (.inr rfl)).trans (k _ _ _ _ (.inr rfl))).trans (k _ _ _ _ (.inl rfl))).trans (k _ _ _ _ (.inl rfl))).trans (k _ _ _ _ (.inl rfl))
          | some i =>
            obtain ⟨hil, _, _⟩ := pick_some hpk
            have hx : ls[i]? = some ls[i] := List.getElem?_eq_getElem hil
            generalize ls[i] = x at hx
            have hpi : pickI P ls = (i : Int) := by unfold pickI; rw [hpk]
            rw [hpi] at HFC
            have hxi : (ls.map (·.id))[i]? = some x.id := by rw [List.getElem?_map, hx]; rfl
            have HXI := Lib.hid hxi
            obtain ⟨n', rfl⟩ : ∃ n', n = n' + 1 := ⟨n - 1, by omega⟩
            have hos := orderG_step (n := n') hpk hx
            have HN1 : Hid ((os ++ [x]) ++ (orderG P n' (ls.eraseIdx i)).1 = (orderG P fm.length fm).1) := Lib.hid (by
              have a1 := HE1.out
              rw [hos] at a1
              simpa using a1)
            have HN2 : Hid ((orderG P n' (ls.eraseIdx i)).2 = (orderG P fm.length fm).2) := Lib.hid (by
              have a2 := HE2.out
              rw [hos] at a2
              exact a2)
            have HN3 : Hid ((ls.eraseIdx i).length = ls.length - 1) := Lib.hid (List.length_eraseIdx_of_lt hil)
            have HN4 : Hid (∀ m ∈ ls.eraseIdx i, m ∈ ms) := Lib.hid (fun m hm => HMEM.out m (List.mem_of_mem_eraseIdx hm))
            have HN5 : Hid ((ls.eraseIdx i).map (·.id) = (ls.map (·.id)).take i ++ (ls.map (·.id)).drop (i + 1)) := Lib.hid (by rw [← List.map_take, ← List.map_drop, ← List.map_append, List.eraseIdx_eq_take_drop_succ])
            have w1 : ¬ (i : Int) < 0 := by omega
            have w2 : (0 : Int) ≤ (i : Int) := by omega
            have w3 : (i : Int) < (ls.length : Int) := by omega
            have HIL := Lib.hid hil
            have HLNN := Lib.hid hln
            have HLEN := Lib.hid hlen
            clear hpk hpi hos hx hxi HE1 HE2 HORD HFM HFE HFL
            go_wp2_with (fail)
            refine HFC.out.mono ?_
            clear HFC
            rintro e V ⟨rfl, hbv⟩
            have hv2 := below_step hbu hbv
            have bV := below_step bU hbv
            have hbzV := bV.size
            have HOV := Lib.hid (HO.out.all hv2)
            have HLV := Lib.hid (HL.out.all hv2)
            have CSV := Lib.hid (CSR.out.all hv2)
            have CRV := Lib.hid (CRR.out.all hv2)
            have s0 := (CSV.out 0 _ rfl).1
            have sf0 := (CSV.out 0 _ rfl).2
            have l0 : V.cell? ⟨g, i, none⟩ = some (.int .i64 x.id) := by
              obtain ⟨A', c', e', _, k'⟩ := HLV.out.out
              simp only [Value.slice.injEq] at e'
              obtain ⟨rfl, _, _⟩ := e'
              have := Ints.atH k' HXI.out
              simpa using this
            have hgV : g < V.heap.size := cell_lt l0
            have hsV : W.heap.size + 1 < V.heap.size := cell_lt s0
            have HVBO : Hid (∀ q, (Value.slice Ao os.length co).ownBlock = some q → W.heap.size + 2 ≤ q ∧ q < V.heap.size) := Lib.hid (fun q e => HOV.out.lt q e)
            have HNS : Hid ((Value.slice Ao os.length co).ownBlock ≠ some (W.heap.size + 1)) := Lib.hid (fun e => by have := (HVBO.out _ e).1; omega)
            have HNR : Hid ((Value.slice Ao os.length co).ownBlock ≠ some W.heap.size) := Lib.hid (fun e => by have := (HVBO.out _ e).1; omega)
            have hO2 := Lib.hid ((HOV.out.drew).alloc (.cells #[.int .i64 x.id] 3))
            have hC : Hid (∀ j u, [Value.int .i64 x.id][j]? = some u → (V.drew.alloc (.cells #[.int .i64 x.id] 3)).cell? ((⟨V.heap.size, 0, none⟩ : Addr).add j) = some u) := Lib.hid (cells_new V.drew #[.int .i64 x.id] _ _ rfl)
            have h1C : Hid (∀ u ∈ [Value.int .i64 x.id], u.oneCell' = true) := Lib.hid (by intro u hu; simp at hu; subst hu; rfl)
            have hlo : (os.map (·.id)).length = os.length := List.length_map _
            have hos6 : os.length ≤ 1000000 := by omega
            go_wp2_with (fail)
            go_region_law (refine step_append_one intR 3 1 (W.heap.size + 2) 8 (fun _ => False) _ (by rfl) _ _ 27 _ (by rfl) Tryz.underlying27 infoInt rfl (by decide) (by decide) (.slice Ao os.length co) (os.map (·.id)) (by rfl) hO2.out ⟨V.heap.size, 0, none⟩ 1 (by rfl) x.id [.int .i64 x.id] rfl hC.out h1C.out (fun _ _ => rfl) (fun b hb => hb.elim) (by simp; omega) (by rw [hlo]; omega) (V.heap.size + 1) (by simp) ?_; intro g1 cap1 w3 hown1 hgrow hat hlt3; have s2 := (hgrow.cell_far ⟨W.heap.size + 1, 0, none⟩ (show W.heap.size + 1 < _ by simp; omega) (fun e => HNS.out e.symm)).trans (cell_all s0 ((Below.refl _ V).drew.alloc (Nat.le_refl _) (.cells #[.int .i64 x.id] 3))); have s2f : w3.frozen? ⟨W.heap.size + 1, 0, none⟩ = false := (hgrow.frozen_far ⟨W.heap.size + 1, 0, none⟩ (show W.heap.size + 1 < _ by simp; omega) (fun e => HNS.out e.symm)).trans ((World.frozen?_of_block (a := ⟨W.heap.size + 1, 0, none⟩) (((Below.refl _ V).drew.alloc (Nat.le_refl _) (.cells #[.int .i64 x.id] 3)).block _ hsV)).trans sf0))
            all_goals
              have hg1 : g1 = V.heap.size + 1 ∨ (Value.slice Ao os.length co).ownBlock = some g1 := hat.symm
              have hg1' : W.heap.size + 2 ≤ g1 ∧ g1 ≠ g := by
                rcases hg1 with e | e
                · constructor <;> omega
                · exact ⟨(HVBO.out _ e).1, fun q => HDIS.out g1 e (by rw [q]; rfl)⟩
              have own2 : Own intR 3 1 (W.heap.size + 2) (fun _ => False) (.slice (some ⟨g1, 0, none⟩) (os.length + 1) cap1) ((os ++ [x]).map (·.id)) w3 := by
                rw [List.map_append]
                rw [hlo] at hown1
                exact hown1
              have kV : Keep (fun b => (Value.slice Ao os.length co).ownBlock ≠ some b) V w3 := ((Keep.drew _ V).trans (Keep.alloc _ _ _)).trans (Keep.grown hgrow fun b hb e => hb e.symm)
              have CS3 := (CSV.out.keep kV HNS.out).set 0 (by simp) (.slice (some ⟨g1, 0, none⟩) (os.length + 1) cap1)
              have CR3 := (CRV.out.keep kV HNR.out).other (b' := W.heap.size + 1) (by omega) 0 (.slice (some ⟨g1, 0, none⟩) (os.length + 1) cap1)
              have own3 := own2.setCell (p := ⟨W.heap.size + 1, 0, none⟩) (fun b hb => hb.elim) (by simp [Value.ownBlock]; omega) (.slice (some ⟨g1, 0, none⟩) (os.length + 1) cap1)
              have ownL : Own intR 3 1 (W.heap.size + 2) (fun _ => False) (.slice (some ⟨g, 0, none⟩) ls.length cl) (ls.map (·.id)) w3 := HLV.out.keep (kV.mono fun b hb => hb.elim) (fun k hk => by
                cases hk
                exact kV.2 g hgV (fun q => HDIS.out g q rfl))
              have ownL3 := ownL.setCell (p := ⟨W.heap.size + 1, 0, none⟩) (fun b hb => hb.elim) (by simp [Value.ownBlock]; omega) (.slice (some ⟨g1, 0, none⟩) (os.length + 1) cap1)
              have bF : Below W.heap.size W (w3.setCell ⟨W.heap.size + 1, 0, none⟩ (.slice (some ⟨g1, 0, none⟩) (os.length + 1) cap1)) :=
                ((bV.drew.alloc (by simpa using bV.size) _).grown hgrow (by simp; omega) (fun k' e => by have := (HVBO.out k' e).1; omega)).setCell (p := ⟨W.heap.size + 1, 0, none⟩) (by show W.heap.size ≤ W.heap.size + 1; omega) _
              generalize w3.setCell ⟨W.heap.size + 1, 0, none⟩ (.slice (some ⟨g1, 0, none⟩) (os.length + 1) cap1) = W4 at CS3 CR3 own3 ownL3 bF ⊢
              have HG1 := Lib.hid hg1'
              clear hg1 hg1' own2 kV ownL hown1 hgrow hat hlt3 s2 s2f
              obtain ⟨id4, hid4⟩ : ∃ id4, ls.map (·.id) = id4 := ⟨_, rfl⟩
              rw [hid4] at HN5 ownL3
              have HLI : Hid (id4.length = ls.length) := Lib.hid (by rw [← hid4, List.length_map])
              clear hid4
              have hzF := bF.size
              have hg4 : g < W4.heap.size := (ownL3.lt g rfl).2
              have HC4 : Hid (ls.length ≤ cl ∧ Held (fun b => b = g) (Slc intR 1 (some ⟨g, 0, none⟩) id4) W4) := Lib.hid (by
                obtain ⟨A', c', e', hc', k'⟩ := ownL3.out
                simp only [Value.slice.injEq] at e'
                obtain ⟨rfl, e2, rfl⟩ := e'
                exact ⟨by omega, k'.mono fun b _ hb => by rcases hb with hb | hb; exact hb.elim; exact (Option.some.inj hb).symm⟩)
              have hcl4 := HC4.out.1
              have w4 : i ≤ cl := by omega
              have w5 : (i : Int) + 1 ≤ (ls.length : Int) := by omega
              have w6 : i + 1 ≤ ls.length := by omega
              have w7 : (i : Int) ≤ 1000000 := by omega
              have w8 : (i : Int) ≤ (i : Int) + 1 := by omega
              have w9 : (0 : Int) ≤ (i : Int) + 1 := by omega
              have w10 : IntKind.i64.wrap ((i : Int) + 1) = (i : Int) + 1 := by rw [IntKind.wrap_i64]; omega
              have w11 : ((i : Int) + 1).toNat = i + 1 := by omega
              have HSD : Hid (∀ AD : Option Addr, (cl ≠ i + 1 → AD = some ⟨g, 0 + (i + 1), none⟩) → Held (fun b => b = g) (Slc intR 1 AD (id4.drop (i + 1))) W4) := Lib.hid (fun AD had => by
                by_cases hcc : cl = i + 1
                · have : id4.drop (i + 1) = [] := List.drop_eq_nil_of_le (by have := HLI.out; omega)
                  rw [this]
                  exact fun _ _ => Slc.nil _ _ _ _
                · rw [had hcc]
                  refine HC4.out.2.imp fun _ _ h => ?_
                  have := Slc.drop h (i + 1)
                  rwa [Nat.mul_one] at this)
              have HST : Hid (Held (fun b => b = g) (Slc intR 1 (some ⟨g, 0, none⟩) (id4.take i)) W4) := Lib.hid (HC4.out.2.imp fun _ _ h => Slc.take h i)
              have hlT : (id4.take i).length = i := by rw [List.length_take, HLI.out]; omega
              have hlD : (id4.drop (i + 1)).length = ls.length - (i + 1) := by rw [List.length_drop, HLI.out]
              have hl6 : ls.length ≤ 1000000 := by omega
              by_cases hcc : cl = i + 1
              all_goals
                go_wp2_with (fail)
                have hE : Hid (Own intR 3 1 (W.heap.size + 2) (fun b => b = g) (.slice (some ⟨W4.heap.size, 0, none⟩) 0 0) [] (W4.drew.alloc (.cells #[] 3))) := Lib.hid (Own.empty intR 3 1 (W.heap.size + 2) (fun b => b = g) W4.drew W4.heap.size rfl (by omega))
                have hS1 : Hid (Held (fun b => b = g) (Slc intR 1 (some ⟨g, 0, none⟩) (id4.take i)) (W4.drew.alloc (.cells #[] 3))) := Lib.hid (HST.out.keep ((Keep.drew _ _).trans (Keep.alloc _ _ _)))
                have hG1 : Hid (∀ b, b = g → (Value.slice (some ⟨W4.heap.size, 0, none⟩) 0 0).ownBlock ≠ some b) := Lib.hid (fun b hb e => by
                  have : W4.heap.size = b := Option.some.inj e
                  omega)
                have hG2 : Hid (∀ (v : Value) (n : Nat), W4.heap.size ≤ n → (v.ownBlock = (Value.slice (some ⟨W4.heap.size, 0, none⟩) 0 0).ownBlock ∨ v.ownBlock = some n) → ∀ b, b = g → v.ownBlock ≠ some b) := Lib.hid (fun v n hn h b hb e => by
                  rcases h with h | h
                  · rw [h] at e
                    have : W4.heap.size = b := Option.some.inj e
                    omega
                  · rw [h] at e
                    have : n = b := Option.some.inj e
                    omega)
                have hS2 : Hid (∀ (w5 : World) (row : Option Nat) (AD : Option Addr), (W4.drew.alloc (.cells #[] 3)).grownBy w5 row → (∀ b, b = g → row ≠ some b) → (cl ≠ i + 1 → AD = some ⟨g, 0 + (i + 1), none⟩) → Held (fun b => b = g) (Slc intR 1 AD (id4.drop (i + 1))) w5) := Lib.hid (fun w5 row AD hg hr had =>
                  (HSD.out AD had).keep (((Keep.drew _ _).trans (Keep.alloc _ _ _)).trans (Keep.grown hg fun b hb e => hr b hb e.symm)))
                go_region_law (first
                  | (refine step_append_all intR intR_one 3 1 (W.heap.size + 2) 8 (fun b => b = g) _ (by rfl) _ _ 27 _ (by rfl) Tryz.underlying27 infoInt rfl (by decide) (by decide) (.slice (some ⟨W4.heap.size, 0, none⟩) 0 0) [] (id4.take i) (by rfl) hE.out (some ⟨g, 0, none⟩) _ i (by rfl) hlT.symm hS1.out hG1.out (by simp; omega) (by rw [hlT]; simp; omega) ?_; intro v5 w5 hown5 hgr5 hat5)
                  | (refine step_append_all intR intR_one 3 1 (W.heap.size + 2) 8 (fun b => b = g) _ (by rfl) _ _ 27 _ (by rfl) Tryz.underlying27 infoInt rfl (by decide) (by decide) v5 ([] ++ id4.take i) (id4.drop (i + 1)) (by rfl) hown5 _ _ _ (by rfl) (by first | exact hlD.symm | (rw [hlD]; try rfl)) (hS2.out w5 _ _ hgr5 hG1.out (by first | exact fun _ => rfl | exact fun q => absurd hcc q | (intro q; simp; done))) (hG2.out v5 _ (by simp) hat5) (by have := hgr5.size; simp at this; omega) (by rw [List.nil_append, hlT, hlD]; omega) ?_; intro v6 w6 hown6 hgr6 hat6))
                all_goals
                  have z5 : ∀ k, v5.ownBlock = some k → W4.heap.size ≤ k := fun k e => by
                    rcases hat5 with q | q
                    · rw [q] at e; have : W4.heap.size = k := Option.some.inj e; omega
                    · rw [q] at e; have : (W4.drew.alloc (.cells #[] 3)).heap.size = k := Option.some.inj e; simp at this; omega
                  have b4 : Below W4.heap.size W4 w6 := by
                    have h0 : Below W4.heap.size W4 (W4.drew.alloc (.cells #[] 3)) := (Below.refl _ W4).drew.alloc (Nat.le_refl _) _
                    have h5 : Below W4.heap.size W4 w5 := h0.grown hgr5 (by simp) (fun k e => by have : W4.heap.size = k := Option.some.inj e; omega)
                    exact h5.grown hgr6 h5.size (fun k e => z5 k e)
                  have HVL : ∀ k, v6.ownBlock = some k → W4.heap.size ≤ k := fun k e => by
                    rcases hat6 with q | q
                    · exact z5 k (q ▸ e)
                    · rw [q] at e; have : w5.heap.size = k := Option.some.inj e; have := hgr5.size; simp at this; omega
                  have own6 : Own intR 3 1 (W.heap.size + 2) (fun _ => False) v6 ((ls.eraseIdx i).map (·.id)) w6 := by
                    rw [HN5.out]
                    have := ownPureI (G' := fun _ => False) hown6
                    rwa [List.nil_append] at this
                  have ownO := own3.all b4
                  have CS6 := CS3.all b4
                  have CR6 := CR3.all b4
                  have b6 := below_step bF b4
                  have g14 := (own3.lt g1 rfl).2
                  have h16 := own6.slLen
                  go_wp2
                  have hl1 : (os ++ [x]).length = os.length + 1 := by simp
                  have ownO' : Own intR 3 1 (W.heap.size + 2) (fun _ => False) (.slice (some ⟨g1, 0, none⟩) (os ++ [x]).length cap1) ((os ++ [x]).map (·.id)) w6 := by rw [hl1]; exact ownO
                  have CS6' : Cel (W.heap.size + 1) [.slice (some ⟨g1, 0, none⟩) (os ++ [x]).length cap1, .bool false, .slice none 0 0] w6 := by rw [hl1]; exact CS6
                  have hme : slLen v6 < ls.length := by rw [h16, List.length_map, HN3.out]; omega
                  go_roundw
                  case rel => ((repeat apply Exists.intro); exact ⟨⟨n', os ++ [x], ls.eraseIdx i, some ⟨g1, 0, none⟩, cap1, ownO', own6, (fun b e q => by have h1 : g1 = b := Option.some.inj e; have := HVL b q; omega), CS6', CR6, HN1.out, HN2.out, by rw [HN3.out]; have := HLNN.out; omega, by rw [HN3.out, hl1]; have := HLEN.out; omega, HN4.out, b6⟩, rfl⟩)
                  case measure => exact hme
        · obtain rfl : ls = [] := List.length_eq_zero_iff.1 (by omega)
          have hon := orderG_none (P := P) (n := n) (l := []) (by rfl)
          have HEQ : Hid (ordB l ts ms = (os, [])) := Lib.hid (by
            rw [HORD.out]
            have a1 := HE1.out
            have a2 := HE2.out
            rw [hon] at a1 a2
            simp only [List.append_nil] at a1
            exact Prod.ext a1.symm a2.symm)
          clear hon
          obtain ⟨Al, cl, rfl, _, _⟩ := HL.out.out
          rw [List.map_nil, List.length_nil] at HL ⊢
          have s0 := (CSR.out 0 _ rfl).1
          have s1 := (CSR.out 1 _ rfl).1
          have s2 := (CSR.out 2 _ rfl).1
          have sf1 := (CSR.out 1 _ rfl).2
          have sf2 := (CSR.out 2 _ rfl).2
          have r0 := (CRR.out 0 _ rfl).1
          have r1 := (CRR.out 1 _ rfl).1
          have r2 := (CRR.out 2 _ rfl).1
          have rf0 := (CRR.out 0 _ rfl).2
          have rf1 := (CRR.out 1 _ rfl).2
          have rf2 := (CRR.out 2 _ rfl).2
          go_wp2
          refine bodyPost_ret (v := .agg #[.slice Ao os.length co, .bool false, .slice Al 0 cl]) (by simp [results, Tryz.results69, go_sem, s0, s1, s2, r0, r1, r2]) rfl ?_
          refine ord_fin HEQ.out HO.out HL.out (Nat.le_refl _) hb ?_ false rfl _ rfl
          have k : ∀ (b j : Nat) (X : World) (u : Value), b = W.heap.size ∨ b = W.heap.size + 1 → Chg (fun b => b = W.heap.size ∨ b = W.heap.size + 1) X (X.setCell ⟨b, j, none⟩ u) := fun b j X u hb => Chg.setCell X (p := ⟨b, j, none⟩) hb u
          exact ((((k _ _ _ _ (.inr rfl)).trans (k _ _ _ _ (.inr rfl))).trans (k _ _ _ _ (.inl rfl))).trans (k _ _ _ _ (.inl rfl))).trans (k _ _ _ _ (.inl rfl))
end Go.Proofs.YtepnmejahbiacaaGreat
