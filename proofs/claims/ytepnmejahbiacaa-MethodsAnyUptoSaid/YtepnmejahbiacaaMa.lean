/- skerrylaw10.MethodsAny. -/
import Derived.Test.YtepnmejahbiacaaSn
import Derived.Test.YtepnmejahbiacaaWt
import Derived.Test.YtepnmejahbiacaaPa
set_option linter.unusedVariables false
set_option linter.unusedSimpArgs false
namespace Go.Proofs.Ytepnmejahbiacaa
open Go.RowKit

set_option maxHeartbeats 32000000 in
set_option maxRecDepth 100000 in
theorem any_calls (AH : Option Addr) (cH : Nat) (l : List CI) (AM : Option Addr) (cM : Nat) (ms : List Meth) (AT : Option Addr) (cT : Nat) (ts : List Tag) (W : World) (q : Asks AH cH l AM ms AT ts W) :
    Calls Try.prog 5 #[.slice AH l.length cH, .slice AM ms.length cM, .slice AT ts.length cT] W fun e W' => e = .returned (.bool true) ∧ Below W.heap.size W W' := by
  have HQ := Lib.hid q
  have hn := q.hn
  obtain ⟨GM, hM⟩ := q.hM
  have HM := Lib.hid hM
  clear q hM
  have HIL : Hid ((applR l ms ts).1.length ≤ 1000000) := Lib.hid (by have := applR_len l ms ts; omega)
  have HAP := Lib.hid (fun V (hv : Below W.heap.size W V) => applicable_calls AH cH l AM cM ms AT cT ts V (HQ.out.keep hv))
  obtain ⟨ids, hids⟩ : ∃ ids, (applR l ms ts).1 = ids := ⟨_, rfl⟩
  obtain ⟨er, her⟩ : ∃ er, (applR l ms ts).2 = er := ⟨_, rfl⟩
  rw [hids, her] at HAP
  rw [hids] at HIL
  have HID := Lib.hid hids
  have HER := Lib.hid her
  clear hids her
  go_enter Try.func5, Try.ntmps5
  go_wp2_with (fail)
  refine (sane_calls _).mono ?_
  rintro e V0 ⟨rfl, q0⟩
  go_wp2_with (fail)
  refine (HAP.out V0 q0).mono ?_
  clear HAP
  rintro e V1 ⟨A1, c1, rfl, hi1, hb1⟩
  have q1 := below_step q0 hb1
  have HI1 := Lib.hid hi1
  clear hi1
  have HFE := Lib.hid (few_calls AM cM ms V1 _ (HM.out.all q1) HQ.out.hp)
  cases hfe : fewB ms with
  | false =>
    rw [hfe] at HFE
    clear hfe
    go_wp2_with (fail)
    refine HFE.out.mono ?_
    rintro e V2 ⟨rfl, hb2⟩
    have q2 := below_step q1 hb2
    go_wp2
    go_ret
    exact ⟨rfl, q2⟩
  | true =>
  rw [hfe] at HFE
  clear hfe
  by_cases hz : er = 0
  rotate_left
  · have t1 : (er != 0) = true := by rw [bne_iff_ne]; exact hz
    clear hz
    go_wp2_with (fail)
    refine HFE.out.mono ?_
    rintro e V2 ⟨rfl, hb2⟩
    have q2 := below_step q1 hb2
    go_wp2
    go_ret
    exact ⟨rfl, q2⟩
  have HZ : Hid (checkAllE l ms ts = 0) := Lib.hid (by rw [← applR_err, HER.out]; exact hz)
  subst hz
  go_wp2_with (fail)
  refine HFE.out.mono ?_
  clear HFE
  rintro e V2 ⟨rfl, hb2⟩
  have q2 := below_step q1 hb2
  have HI2 := Lib.hid (HI1.out.all hb2)
  have HM2 : Hid (Held (fun b => b < V2.heap.size) (Meths AM ms) V2) := Lib.hid (HM.out.all q2).here
  go_wp2_with (fail)
  go_loopw [10, 11] (fun m i wr => ∃ k : Nat, k ≤ ms.length ∧ i = .int .i64 ((k : Int) - 1) ∧ Own metR 39 8 V2.heap.size (fun b => b < V2.heap.size) m (backL ids ms k) wr ∧ Below V2.heap.size V2 wr) (fun _ i _ => (intOf i + 1).toNat)
  case atStart => exact ⟨ms.length, Nat.le_refl _, by go_num, by rw [backL_end]; exact Own.nil _ _ _ _ _ _, Below.refl _ _⟩
  case round =>
    obtain ⟨k, hk, rfl, hown, hbr⟩ := hrel
    have HO := Lib.hid hown
    clear hown
    have qr := below_step q2 hbr
    cases k with
    | zero =>
      have hoO := HO.out
      obtain ⟨AB, cB, rfl, hcB, hHB⟩ := hoO.out
      have HHB := Lib.hid hHB
      have HBL := Lib.hid (backL_len ids ms 0)
      have HEO : Hid (orderR l (backL ids ms 0) ts = orderR l ms ts) := Lib.hid (by
        rw [← HID.out, backL_all HZ.out]; exact (any_order HZ.out).2)
      have HC1 : Hid (∀ V, Below W.heap.size W V → Calls Try.prog 16 #[.slice AH l.length cH, .slice AM ms.length cM, .slice AT ts.length cT] V fun e W' => ∃ A' c', e = .returned (.tuple #[.slice A' (orderR l ms ts).1.length c', .bool (orderR l ms ts).2]) ∧ Held (fun b => b < W'.heap.size) (Ints A' (orderR l ms ts).1) W' ∧ Below V.heap.size V W') := Lib.hid (fun V qv => by
        refine (order_calls AH cH l AM cM ms AT cT ts V (HQ.out.keep qv)).mono ?_
        rintro e W' ⟨v, rfl, ho, hb⟩
        obtain ⟨A', c', rfl, _, h2⟩ := ho.out
        exact ⟨A', c', rfl, h2.mono fun b hb _ => hb, hb⟩)
      have HC2 : Hid (∀ V, Below wr.heap.size wr V → Calls Try.prog 16 #[.slice AH l.length cH, .slice AB (backL ids ms 0).length cB, .slice AT ts.length cT] V fun e W' => ∃ A' c', e = .returned (.tuple #[.slice A' (orderR l ms ts).1.length c', .bool (orderR l ms ts).2]) ∧ Held (fun b => b < W'.heap.size) (Ints A' (orderR l ms ts).1) W' ∧ Below V.heap.size V W') := Lib.hid (fun V qv => by
        have Q := HQ.out.keep (below_step qr qv)
        have := order_calls AH cH l AB cB (backL ids ms 0) AT cT ts V ⟨Q.h, Q.hcH, Q.ol, Q.hl, ⟨_, HHB.out.all qv⟩, by have := HBL.out; omega, fun m hm => Q.hs m (backL_mem hm), fun m hm => Q.hp m (backL_mem hm), Q.hT, Q.hts⟩
        rw [HEO.out] at this
        refine this.mono ?_
        rintro e W' ⟨v, rfl, ho, hb⟩
        obtain ⟨A', c', rfl, _, h2⟩ := ho.out
        exact ⟨A', c', rfl, h2.mono fun b hb _ => hb, hb⟩)
      have hol : Hid ((orderR l ms ts).1.length ≤ 1000000) := Lib.hid (by
        have := (ord_lens l ts ms).1
        unfold orderR
        rw [if_pos HZ.out]
        simp only [List.length_map]
        omega)
      clear hHB hoO hcB HO HEO
      generalize (orderR l ms ts).1 = oi at HC1 HC2 hol
      generalize (orderR l ms ts).2 = ob at HC1 HC2
      generalize backL ids ms 0 = back at HC2
      go_wp2_with (fail)
      refine (HC1.out wr qr).mono ?_
      clear HC1
      rintro e V4 ⟨A4, c4, rfl, hi4, hb4⟩
      have HI4 := Lib.hid hi4
      have q4 := below_step qr hb4
      clear hi4
      go_wp2_with (fail)
      refine (HC2.out V4 hb4).mono ?_
      clear HC2
      rintro e V5 ⟨A5, c5, rfl, hi5, hb5⟩
      have HSI := Lib.hid (sameInts_true A4 A5 c4 c5 oi V5 _ _ (HI4.out.all hb5) hi5 hol.out)
      have q5 := below_step q4 hb5
      clear hi5
      go_wp2_with (fail)
      refine HSI.out.mono ?_
      rintro e V6 ⟨rfl, hb6⟩
      have q6 := below_step q5 hb6
      cases ob with
      | true =>
        go_wp2
        go_ret
        exact ⟨rfl, q6⟩
      | false =>
        go_wp2
        go_ret
        exact ⟨rfl, q6⟩
    | succ k =>
      rw [show (((k + 1 : Nat) : Int) - 1) = (k : Int) by omega]
      have hlt : k < ms.length := by omega
      obtain ⟨b, off, rfl⟩ := Slc.addrH HM2.out (by omega)
      have hx : ms[k]? = some ms[k] := List.getElem?_eq_getElem hlt
      generalize ms[k] = x at hx
      have HS := Lib.hid (backL_step (ids := ids) hx)
      obtain ⟨A1', c1', A2', c2', p1, p2, p3, p4, g0, g1, g2, g3, g4, g5, g6, g7⟩ := Meths.atH (HM2.out.keep (Keep.all hbr)) hx
      have P1 := Lib.hid p1
      have P2 := Lib.hid p2
      have P3 := Lib.hid p3
      have P4 := Lib.hid p4
      have HHI := Lib.hid (hasInt_calls A1 c1 ids x.id wr (HI2.out.all hbr).now HIL.out)
      have HBK : Hid ((backL ids ms (k + 1)).length ≤ 1000000) := Lib.hid (by have := backL_len ids ms (k + 1); omega)
      have hk0 : (0 : Int) ≤ (k : Int) := Int.natCast_nonneg _
      clear hx p1 p2 p3 p4
      cases hh : hasI ids x.id with
      | false =>
        rw [hh] at HHI
        have HK : Hid (backL ids ms k = backL ids ms (k + 1)) := Lib.hid (by rw [HS.out, hh]; simp)
        clear hh HS
        go_wp2_with (fail)
        refine HHI.out.mono ?_
        clear HHI
        rintro e V ⟨rfl, rfl⟩
        go_wp2
        exact ⟨⟨k, by omega, by go_num, by rw [HK.out]; exact HO.out, hbr⟩, by simp [intOf]⟩
      | true =>
        rw [hh] at HHI
        have HK : Hid (backL ids ms k = backL ids ms (k + 1) ++ [x]) := Lib.hid (by rw [HS.out, hh]; simp)
        clear hh HS
        go_wp2_with (fail)
        refine HHI.out.mono ?_
        clear HHI
        rintro e V ⟨rfl, rfl⟩
        have hbz := hbr.size
        go_wp2_with (at_builtin; refine Classical.byContradiction fun hneg => ?_)
        apply hneg
        refine wp_append_one metR 39 8 V2.heap.size 112 (fun b => b < V2.heap.size) _ rfl _ _ 31 _ rfl Try.underlying31 info39 rfl (by decide) (by decide) u10 (backL ids ms (k + 1)) rfl (HO.out.alloc _) ⟨V.heap.size, 0, none⟩ 1 rfl x [.int .i64 x.id, .string x.lib, .slice A1' x.pars.length c1', .int .i64 x.result.kind, .string x.result.name, .int .i64 x.result.lo, .int .i64 x.result.hi, .slice A2' x.result.args.length c2'] rfl ?cells ?one ((metR.mk P1.out P2.out P3.out P4.out).keep (Keep.alloc _ _ _)) ?hG ?base ?len ?_
        case cells => exact fun j u hu => cells_new V _ _ _ rfl j u hu
        case one => intro u hu; simp at hu; rcases hu with rfl | rfl | rfl | rfl | rfl | rfl | rfl | rfl <;> rfl
        case hG => exact fun b hb e => by have := (HO.out.lt _ e).1; omega
        case base => simp; omega
        case len => have := HBK.out; omega
        intro v' w1 hown1 hg1 _
        have HO1 := Lib.hid hown1
        have bw1 : Below V2.heap.size V2 w1 := (hbr.alloc hbr.size _).grown hg1 (by simp; omega) fun k' e => (HO.out.lt k' e).1
        clear hown1
        go_wp2
        exact ⟨⟨k, by omega, by go_num, by rw [HK.out]; exact HO1.out, bw1⟩, by simp [intOf]⟩
end Go.Proofs.Ytepnmejahbiacaa
