/- Part 29 of the proof: Vf. -/
import Derived.Test.YtepnmejahbiacaaGreatK05
import Derived.Test.YtepnmejahbiacaaGreatK06
import Derived.Test.YtepnmejahbiacaaGreatK03
import Derived.Test.YtepnmejahbiacaaGreatK02
import Derived.Test.YtepnmejahbiacaaGreatK01
import Derived.BigQuiet
import Derived.Deep.Draws
import Derived.Deep.LoopGhost
import Derived.Deep.QuietTactic
import Derived.KernelRfl
import Derived.Lib.Hide
import Derived.Maps.AppendAt
import Derived.Outline
import Derived.Test.YtepnmejahbiacaaGreatProg
import Derived.WalkKit
import Derived.WalkSpells
import Derived.Test.YtepnmejahbiacaaGreatK22
import Derived.Test.YtepnmejahbiacaaGreatK19
import Derived.Test.YtepnmejahbiacaaGreatK07
import Derived.Test.YtepnmejahbiacaaGreatK12
import Derived.Test.YtepnmejahbiacaaGreatK13
import Derived.Test.YtepnmejahbiacaaGreatK14
import Derived.Test.YtepnmejahbiacaaGreatK15
import Derived.Test.YtepnmejahbiacaaGreatK18
import Derived.Test.YtepnmejahbiacaaGreatK24
import Derived.Test.YtepnmejahbiacaaGreatK21
import Derived.Test.YtepnmejahbiacaaGreatK08
import Derived.Test.YtepnmejahbiacaaGreatK17
import Derived.Test.YtepnmejahbiacaaGreatK04
import Derived.Test.YtepnmejahbiacaaGreatK10
import Derived.Test.YtepnmejahbiacaaGreatK11
import Derived.Test.YtepnmejahbiacaaGreatK25
import Derived.Test.YtepnmejahbiacaaGreatK23
import Derived.Test.YtepnmejahbiacaaGreatK09
import Derived.Test.YtepnmejahbiacaaGreatK16
import Derived.Test.YtepnmejahbiacaaGreatK20
import Derived.Carry
import Derived.Deep.AppendLies
import Derived.Deep.RegionHeld3
import Derived.Deep.RegionLaw
import Derived.Deep.RegionWith
import Derived.Laws.EntriesVeiled
import Derived.Lib.SliceRun
import Derived.LoopIn
import Derived.LoopNIn
import Derived.Maps.Own
import Derived.Maps.OwnIn
import Derived.OwnWalkIn
import Derived.RangeFuncBound
import Derived.RangeFuncCalls
import Derived.RangeFuncLeaves
import Derived.RangeFuncNested
import Derived.Recover
import Derived.StillTailTactics
import Derived.Stop.RegionWithIn
import Derived.TacticsInMore
import Derived.OwnWalk
set_option linter.unusedVariables false
set_option linter.unusedSimpArgs false
namespace Go.Proofs.YtepnmejahbiacaaGreat
open Go.RowKit
/-- What Verify returns. -/
noncomputable def verR (l : List CI) (ms : List Meth) (ts : List Tag) (o : List Int) (amb : Bool) : Int :=
  if checkAllE l ms ts = 0 then (if (orderR l ms ts).1 = o ∧ (orderR l ms ts).2 = amb then 0 else 102) else checkAllE l ms ts
theorem orderR_len (l : List CI) (ms : List Meth) (ts : List Tag) : (orderR l ms ts).1.length ≤ ms.length := by
  unfold orderR
  by_cases h : checkAllE l ms ts = 0
  · rw [if_pos h, List.length_map]; exact (ord_lens l ts ms).1
  · rw [if_neg h]; exact Nat.zero_le _
set_option maxHeartbeats 16000000 in
set_option maxRecDepth 100000 in
theorem verify_calls (AH : Option Addr) (cH : Nat) (l : List CI) (A : Option Addr) (c : Nat) (ms : List Meth) (AT : Option Addr) (cT : Nat) (ts : List Tag) (AO : Option Addr) (cO : Nat) (o : List Int) (amb : Bool) (W : World) (q : Asks AH cH l A ms AT ts W) (GO : Nat → Prop) (hO : Held GO (Ints AO o) W) (hol : o.length ≤ 4000000) :
    Calls Tryz.prog 20 #[.slice AH l.length cH, .slice A ms.length c, .slice AT ts.length cT, .slice AO o.length cO, .bool amb] W fun e W' => e = .returned (.int .i64 (verR l ms ts o amb)) ∧ Below W.heap.size W W' := by
  obtain ⟨GH, h⟩ := q.h
  obtain ⟨GM, hM⟩ := q.hM
  obtain ⟨GT, hT⟩ := q.hT
  have HC := Lib.hid (checkAll_calls AH cH l A c ms AT cT ts W GH h q.hcH q.ol q.hl GM hM q.hn q.hs q.hp GT hT q.hts)
  have HOR := Lib.hid (fun V (hv : Below W.heap.size W V) => order_calls AH cH l A c ms AT cT ts V (q.keep hv))
  have HL : Hid ((orderR l ms ts).1.length ≤ 1000000) := Lib.hid (by have := orderR_len l ms ts; have := q.hn; omega)
  have HO := Lib.hid hO
  obtain ⟨ol, hol'⟩ : ∃ ol, (orderR l ms ts).1 = ol := ⟨_, rfl⟩
  obtain ⟨oa, hoa⟩ : ∃ oa, (orderR l ms ts).2 = oa := ⟨_, rfl⟩
  obtain ⟨ce, hce⟩ : ∃ ce, checkAllE l ms ts = ce := ⟨_, rfl⟩
  have HV : Hid (verR l ms ts o amb = if ce = 0 then (if ol = o ∧ oa = amb then 0 else 102) else ce) := Lib.hid (by unfold verR; rw [hol', hoa, hce])
  rw [hol', hoa] at HOR
  rw [hol'] at HL
  rw [hce] at HC
  clear h hM hT q hO hol' hoa hce
  go_enter Tryz.func20, Tryz.ntmps20
  by_cases hz : ce = 0
  rotate_left
  · have t1 : (ce != 0) = true := by rw [bne_iff_ne]; exact hz
    have HE : Hid (verR l ms ts o amb = ce) := Lib.hid (by rw [HV.out, if_neg hz])
    clear hz
    go_wp2_with (fail)
    refine HC.out.mono ?_
    rintro e V ⟨rfl, hbv⟩
    go_wp2
    go_ret
    exact ⟨by rw [HE.out]; try rfl, hbv⟩
  have HVE : Hid (ol = o → oa = amb → verR l ms ts o amb = 0) := Lib.hid (fun h1 h2 => by rw [HV.out, if_pos hz, if_pos ⟨h1, h2⟩])
  have HVN : Hid (¬ (ol = o ∧ oa = amb) → verR l ms ts o amb = 102) := Lib.hid (fun h => by rw [HV.out, if_pos hz, if_neg h])
  clear HV
  subst hz
  go_wp2_with (fail)
  refine HC.out.mono ?_
  rintro e V ⟨rfl, hbv⟩
  go_wp2_with (fail)
  refine (HOR.out V hbv).mono ?_
  clear HOR HC
  rintro e V2 ⟨v, rfl, hown, hb2⟩
  have q2 := below_step hbv hb2
  obtain ⟨A2, c2, rfl, hc2, k2⟩ := hown.out
  by_cases ha : oa = amb
  rotate_left
  · have HE : Hid (verR l ms ts o amb = 102) := Lib.hid (HVN.out (fun q => ha q.2))
    clear hown
    cases oa <;> cases amb
    · exact absurd rfl ha
    · go_wp2
      go_ret
      exact ⟨by rw [HE.out]; try rfl, q2⟩
    · go_wp2
      go_ret
      exact ⟨by rw [HE.out]; try rfl, q2⟩
    · exact absurd rfl ha
  subst ha
  have t1 : (oa != oa) = false := bne_self_eq_false oa
  have HEQ := Lib.hid (slEqualI_calls A2 AO c2 cO ol o V2 k2.now (HO.out.keep (Keep.all q2)).now (by have := HL.out; omega) (by omega))
  clear hown k2
  go_wp2_with (fail)
  refine HEQ.out.mono ?_
  clear HEQ
  rintro e V3 ⟨rfl, hdr⟩
  have q3 := below_step q2 (hdr.below _)
  by_cases he : ol = o
  · have HE : Hid (verR l ms ts o oa = 0) := Lib.hid (HVE.out he trivial)
    have t2 : decide (ol = o) = true := decide_eq_true he
    clear he
    go_wp2
    go_ret
    exact ⟨by rw [HE.out]; try rfl, q3⟩
  · have HE : Hid (verR l ms ts o oa = 102) := Lib.hid (HVN.out (fun q => he q.1))
    have t2 : decide (ol = o) = false := decide_eq_false he
    clear he
    go_wp2
    go_ret
    exact ⟨by rw [HE.out]; try rfl, q3⟩
/-- What Behind returns. -/
structure RestT where
  ids : List Int
  amb : Bool
  err : Int
def afterR (o : List Int) (amb : Bool) (x : Int) : RestT := if idxI o x < 0 then ⟨[], false, 3⟩ else ⟨o.drop ((idxI o x).toNat + 1), amb, 0⟩
noncomputable def behindR (l : List CI) (ms : List Meth) (ts : List Tag) (x : Int) : RestT :=
  if checkAllE l ms ts = 0 then afterR (orderR l ms ts).1 (orderR l ms ts).2 x else ⟨[], false, checkAllE l ms ts⟩
theorem idxI_cases (l : List Int) (x : Int) : (idxI l x = -1 ∧ x ∉ l) ∨ ∃ k : Nat, idxI l x = k ∧ l[k]? = some x ∧ ∀ j, j < k → l[j]? ≠ some x := by
  unfold idxI
  cases hq : l.findIdx? (fun y => decide (y = x)) with
  | none =>
    refine .inl ⟨rfl, fun h => ?_⟩
    rw [List.findIdx?_eq_none_iff] at hq
    have := hq x h
    simp at this
  | some k =>
    rw [List.findIdx?_eq_some_iff_getElem] at hq
    obtain ⟨hk, h1, h2⟩ := hq
    refine .inr ⟨k, rfl, ?_, fun j hj hx => ?_⟩
    · rw [List.getElem?_eq_getElem hk]; rw [decide_eq_true_eq] at h1; rw [h1]
    · obtain ⟨hjl, hx⟩ := List.getElem?_eq_some_iff.1 hx
      have := h2 j hj
      rw [hx] at this; simp at this
theorem afterR_none {o : List Int} {amb : Bool} {x : Int} (h : idxI o x = -1) : afterR o amb x = ⟨[], false, 3⟩ := by unfold afterR; rw [h]; rfl
theorem afterR_some {o : List Int} {amb : Bool} {x : Int} {k : Nat} (h : idxI o x = k) : afterR o amb x = ⟨o.drop (k + 1), amb, 0⟩ := by
  unfold afterR; rw [h, if_neg (by omega)]; rfl
set_option maxHeartbeats 16000000 in
set_option maxRecDepth 100000 in
theorem behind_calls (AH : Option Addr) (cH : Nat) (l : List CI) (A : Option Addr) (c : Nat) (ms : List Meth) (AT : Option Addr) (cT : Nat) (ts : List Tag) (x : Int) (W : World) (q : Asks AH cH l A ms AT ts W) :
    Calls Tryz.prog 22 #[.slice AH l.length cH, .slice A ms.length c, .slice AT ts.length cT, .int .i64 x] W fun e W' => ∃ A' c', e = .returned (.tuple #[.slice A' (behindR l ms ts x).ids.length c', .bool (behindR l ms ts x).amb, .int .i64 (behindR l ms ts x).err]) ∧ Held (fun b => b < W'.heap.size) (Ints A' (behindR l ms ts x).ids) W' ∧ Below W.heap.size W W' := by
  have HC := Lib.hid (open_calls AH cH l A c ms AT cT ts W q)
  obtain ⟨GH, h⟩ := q.h
  obtain ⟨GM, hM⟩ := q.hM
  obtain ⟨GT, hT⟩ := q.hT
  have HOR : Hid (∀ V cp A2 c2, Below W.heap.size W V → checkAllE l ms ts = 0 → OpenAt cp AH cH l AT cT ts A2 c2 V → Calls Tryz.prog 61 #[.pointer (some ⟨cp, 0, none⟩), .slice A ms.length c] V fun e W' => ∃ v1 v2, e = .returned (.tuple #[v1, v2]) ∧ Own metR 68 8 V.heap.size (fun b => b < V.heap.size) v1 (ordB l ts ms).1 W' ∧
      Own metR 68 8 V.heap.size (fun b => b < V.heap.size) v2 (ordB l ts ms).2 W' ∧ Below V.heap.size V W') :=
    Lib.hid (fun V cp A2 c2 hv he ho => by
      obtain ⟨z1, z2, z3, z4, z5, z6⟩ := checkAllE_zero he
      exact ordered_calls cp AH cH l AT cT ts A2 c2 V ho GH (h.keep (Keep.all hv)) q.hcH q.hl q.ol (fun t _ => cplAt_short z1 t) q.hts GT (hT.keep (Keep.all hv)) A c ms GM (hM.keep (Keep.all hv)) q.hn z5 q.hs)
  have hn := q.hn
  have HL := Lib.hid (ord_lens l ts ms)
  clear h hM hT q
  go_enter Tryz.func22, Tryz.ntmps22
  go_wp2_with (fail)
  refine HC.out.mono ?_
  clear HC
  rintro e V ⟨hbv, (⟨hz, rfl⟩ | ⟨hz, cp, A2, c2, rfl, hcp, ho⟩)⟩
  · have t1 : (checkAllE l ms ts != 0) = true := by rw [bne_iff_ne]; exact hz
    have HR : Hid (behindR l ms ts x = ⟨[], false, checkAllE l ms ts⟩) := Lib.hid (by unfold behindR; rw [if_neg hz])
    clear hz HOR
    generalize checkAllE l ms ts = ce at t1 HR
    go_wp2
    go_ret3
    exact ⟨none, 0, by rw [HR.out]; rfl, by rw [HR.out]; exact fun _ _ => Slc.nil _ _ _ _, hbv⟩
  have HO2 := Lib.hid (HOR.out V cp A2 c2 hbv hz ho)
  have HR0 : Hid (behindR l ms ts x = afterR ((ordB l ts ms).1.map (·.id)) (decide (0 < (ordB l ts ms).2.length)) x) := Lib.hid (by
    unfold behindR orderR; rw [if_pos hz, if_pos hz])
  clear ho HOR hz
  go_wp2_with (fail)
  refine HO2.out.mono ?_
  clear HO2
  rintro e V2 ⟨v1, v2, rfl, h1, h2, hb2⟩
  obtain ⟨A5, c5, rfl, hc5, h1'⟩ := h1.out
  obtain ⟨A6, c6, rfl, hc6, _⟩ := h2.out
  have HI := Lib.hid (ids_calls A5 c5 (ordB l ts ms).1 _ V2 h1' (by have := HL.out.1; omega))
  have HLE : Hid ((ordB l ts ms).1.length ≤ 1000000) := Lib.hid (by have := HL.out.1; omega)
  have bV2 := hbv.trans (hb2.mono hbv.size)
  clear h1 h2 h1' HL
  generalize (ordB l ts ms).1 = o1 at HI HR0 HLE ⊢
  generalize (ordB l ts ms).2 = o2 at HR0 ⊢
  go_wp2_with (fail)
  refine HI.out.mono ?_
  clear HI
  rintro e V3 ⟨v, rfl, hv, hb3⟩
  obtain ⟨A7, c7, rfl, hc7, k7⟩ := hv.out
  have b3 := below_step bV2 hb3
  have HL7 : Hid ((o1.map (·.id)).length ≤ 1000000) := Lib.hid (by rw [List.length_map]; exact HLE.out)
  have HK7 := Lib.hid k7
  have HC7 := Lib.hid hc7
  clear hv k7 hc7
  generalize o1.map (·.id) = oi at HR0 HK7 HC7 HL7
  have HIX := Lib.hid (slIndexI_calls A7 c7 oi x V3 HK7.out.now (by have := HL7.out; omega))
  rcases idxI_cases oi x with ⟨hq, _⟩ | ⟨k, hq, hk, _⟩
  · have HR : Hid (behindR l ms ts x = ⟨[], false, 3⟩) := Lib.hid (by rw [HR0.out, afterR_none hq])
    rw [hq] at HIX
    clear hq
    go_wp2_with (fail)
    refine HIX.out.mono ?_
    clear HIX
    rintro e V4 ⟨rfl, rfl⟩
    go_wp2
    go_ret3
    exact ⟨none, 0, by rw [HR.out]; rfl, by rw [HR.out]; exact fun _ _ => Slc.nil _ _ _ _, b3⟩
  have HR : Hid (behindR l ms ts x = ⟨oi.drop (k + 1), decide (0 < o2.length), 0⟩) := Lib.hid (by rw [HR0.out, afterR_some hq])
  have hkl : k < oi.length := (List.getElem?_eq_some_iff.1 hk).1
  have HKL := Lib.hid hkl
  rw [hq] at HIX
  obtain ⟨b7, o7, rfl⟩ := Slc.addrH HK7.out (by omega)
  clear hq hk HR0 hkl
  go_wp2_with (fail)
  refine HIX.out.mono ?_
  clear HIX
  rintro e V4 ⟨rfl, rfl⟩
  have HSD : Hid (∀ AD : Option Addr, (c7 ≠ k + 1 → AD = some ⟨b7, o7 + (k + 1), none⟩) → ∃ G, Held G (Slc intR 1 AD (oi.drop (k + 1))) V3) := Lib.hid (fun AD had => by
    by_cases hcc : c7 = k + 1
    · have : oi.drop (k + 1) = [] := List.drop_eq_nil_of_le (by have := HC7.out; have := HKL.out; omega)
      rw [this]
      exact ⟨fun _ => True, fun _ _ => Slc.nil _ _ _ _⟩
    · rw [had hcc]
      refine ⟨_, HK7.out.imp fun _ _ h => ?_⟩
      have := Slc.drop h (k + 1)
      rwa [Nat.mul_one] at this)
  have HCL : Hid (∀ (AD : Option Addr) (m cd : Nat), m = oi.length - (k + 1) → (c7 ≠ k + 1 → AD = some ⟨b7, o7 + (k + 1), none⟩) → Calls Tryz.prog 63 #[.slice AD m cd] V3 fun e w' => ∃ v, e = .returned v ∧ Own intR 3 1 V3.heap.size (fun _ => False) v (oi.drop (k + 1)) w' ∧ Below V3.heap.size V3 w') := Lib.hid (fun AD m cd hm had => by
    obtain ⟨G, hG⟩ := HSD.out AD had
    have := cloneInt_calls AD cd (oi.drop (k + 1)) G V3 hG (by rw [List.length_drop]; have := HL7.out; omega)
    rw [List.length_drop, ← hm] at this
    refine this.mono ?_
    rintro e w' ⟨v, rfl, hown, hb⟩
    exact ⟨v, rfl, ownPureI hown, hb⟩)
  have t1 : decide ((k : Int) < 0) = false := decide_eq_false (by omega)
  have w10 : IntKind.i64.wrap ((k : Int) + 1) = (k : Int) + 1 := by have := HKL.out; have := HL7.out; rw [IntKind.wrap_i64]; omega
  have w10' : wrap64 ((k : Int) + 1) = (k : Int) + 1 := by rw [← IntWalk.i64_left]; exact w10
  have w11 : ((k : Int) + 1).toNat = k + 1 := by omega
  have w2 : (k : Int) + 1 ≤ (oi.length : Int) := by have := HKL.out; omega
  have w3 : (0 : Int) ≤ (k : Int) + 1 := by omega
  clear HSD HC7
  go_wp2_with (fail)
  all_goals
    refine (HCL.out _ _ _ (by first | rfl | omega) (by first | exact fun q => absurd (by assumption) q | exact fun _ => rfl)).mono ?_
    clear HCL
    rintro e V5 ⟨v, rfl, hown, hb5⟩
    obtain ⟨A8, c8, rfl, _, k8⟩ := hown.out
    have HK8 := Lib.hid k8
    have b5 := below_step b3 hb5
    clear hown k8
    generalize oi.drop (k + 1) = od at HR HK8
    go_wp2
    go_ret3
    exact ⟨A8, c8, by rw [HR.out]; simp, by rw [HR.out]; exact HK8.out.mono (fun b hb _ => hb), b5⟩
end Go.Proofs.YtepnmejahbiacaaGreat
