/- Part 24 of the proof: On, He, Cf, Sa, Pr, Lb, Tp, Wh. -/
import Derived.Test.YtepnmejahbiacaaGreatL20
import Derived.Test.YtepnmejahbiacaaGreatL17
import Derived.Test.YtepnmejahbiacaaGreatL04
import Derived.Test.YtepnmejahbiacaaGreatL05
import Derived.Test.YtepnmejahbiacaaGreatL18
import Derived.Test.YtepnmejahbiacaaGreatL07
import Derived.Test.YtepnmejahbiacaaGreatL12
import Derived.Test.YtepnmejahbiacaaGreatL13
import Derived.Test.YtepnmejahbiacaaGreatL14
import Derived.Test.YtepnmejahbiacaaGreatL15
import Derived.Test.YtepnmejahbiacaaGreatL23
import Derived.Test.YtepnmejahbiacaaGreatL19
import Derived.Test.YtepnmejahbiacaaGreatL16
import Derived.Test.YtepnmejahbiacaaGreatL06
import Derived.Test.YtepnmejahbiacaaGreatL10
import Derived.Test.YtepnmejahbiacaaGreatL11
import Derived.Test.YtepnmejahbiacaaGreatL09
import Derived.Test.YtepnmejahbiacaaGreatL03
import Derived.Test.YtepnmejahbiacaaGreatL02
import Derived.Test.YtepnmejahbiacaaGreatL01
import Derived.BigQuiet
import Derived.Carry
import Derived.Deep.AppendLies
import Derived.Deep.Draws
import Derived.Deep.LoopGhost
import Derived.Deep.QuietTactic
import Derived.Deep.RegionHeld3
import Derived.Deep.RegionLaw
import Derived.Deep.RegionWith
import Derived.KernelRfl
import Derived.Laws.EntriesVeiled
import Derived.Lib.Hide
import Derived.LoopIn
import Derived.LoopNIn
import Derived.Maps.AppendAt
import Derived.Maps.Own
import Derived.Maps.OwnIn
import Derived.Outline
import Derived.OwnWalkIn
import Derived.RangeFuncBound
import Derived.RangeFuncCalls
import Derived.RangeFuncLeaves
import Derived.RangeFuncNested
import Derived.Recover
import Derived.StillTailTactics
import Derived.Stop.RegionWithIn
import Derived.TacticsInMore
import Derived.Test.YtepnmejahbiacaaGreatProg
import Derived.WalkKit
import Derived.WalkSpells
import Derived.Test.YtepnmejahbiacaaGreatL08
import Derived.Test.YtepnmejahbiacaaGreatL22
import Derived.Lib.SliceRun
set_option linter.unusedVariables false
set_option linter.unusedSimpArgs false
namespace Go.Proofs.YtepnmejahbiacaaGreat
open Go.RowKit
theorem cplAt_short {l : List CI} (h : LookOk l) (t : Tag) : (cplAt l t).length ≤ 1000000 := by
  unfold cplAt
  cases hf : l.find? (fun x => decide (x.name = classOfB t)) with
  | none => simp
  | some x =>
    obtain ⟨j, hj⟩ := List.mem_iff_getElem?.1 (List.mem_of_find?_eq_some hf)
    have h1 := line_length (c3Check_zero h.2.2.2.2.1).2 (h.2.2.2.2.2 j x hj)
    rw [heirsOf_len] at h1
    have := h.1
    show x.cpl.length ≤ _
    omega
/-- What the functions that open a call ask of their arguments' cells. -/
structure Asks (AH : Option Addr) (cH : Nat) (l : List CI) (A : Option Addr) (ms : List Meth) (AT : Option Addr) (ts : List Tag) (W : World) : Prop where
  h : ∃ G, Held G (CIs AH l) W
  hcH : l.length ≤ cH
  ol : ∀ x ∈ l, ciOk x
  hl : l.length ≤ 1000000
  hM : ∃ G, Held G (Meths A ms) W
  hn : ms.length ≤ 1000000
  hs : ∀ m ∈ ms, ∀ p ∈ m.pars, TySmall p.type
  hp : ∀ m ∈ ms, m.pars.length ≤ 1000000
  hT : ∃ G, Held G (Tags AT ts) W
  hts : ts.length ≤ 1000000
theorem Asks.keep {AH : Option Addr} {cH : Nat} {l : List CI} {A : Option Addr} {ms : List Meth} {AT : Option Addr} {ts : List Tag} {W V : World} (q : Asks AH cH l A ms AT ts W) (b : Below W.heap.size W V) : Asks AH cH l A ms AT ts V :=
  ⟨q.h.imp fun _ h => h.keep (Keep.all b), q.hcH, q.ol, q.hl, q.hM.imp fun _ h => h.keep (Keep.all b), q.hn, q.hs, q.hp, q.hT.imp fun _ h => h.keep (Keep.all b), q.hts⟩
set_option maxHeartbeats 16000000 in
set_option maxRecDepth 100000 in
theorem open_calls (AH : Option Addr) (cH : Nat) (l : List CI) (A : Option Addr) (c : Nat) (ms : List Meth) (AT : Option Addr) (cT : Nat) (ts : List Tag) (W : World) (q : Asks AH cH l A ms AT ts W) :
    Calls Tryz.prog 39 #[.slice AH l.length cH, .slice A ms.length c, .slice AT ts.length cT] W fun e W' => Below W.heap.size W W' ∧
      ((checkAllE l ms ts ≠ 0 ∧ e = .returned (.tuple #[.pointer none, .int .i64 (checkAllE l ms ts)])) ∨ (checkAllE l ms ts = 0 ∧ ∃ cp A2 c2, e = .returned (.tuple #[.pointer (some ⟨cp, 0, none⟩), .int .i64 0]) ∧ W.heap.size ≤ cp ∧ OpenAt cp AH cH l AT cT ts A2 c2 W')) := by
  obtain ⟨GH, h⟩ := q.h
  obtain ⟨GM, hM⟩ := q.hM
  obtain ⟨GT, hT⟩ := q.hT
  have HC := Lib.hid (checkAll_calls AH cH l A c ms AT cT ts W GH h q.hcH q.ol q.hl GM hM q.hn q.hs q.hp GT hT q.hts)
  have HOP : Hid (∀ V, Below W.heap.size W V → checkAllE l ms ts = 0 → Calls Tryz.prog 54 #[.slice AH l.length cH, .slice AT ts.length cT] V fun e W' => ∃ cp A2 c2, e = .returned (.pointer (some ⟨cp, 0, none⟩)) ∧ Below V.heap.size V W' ∧ V.heap.size ≤ cp ∧ OpenAt cp AH cH l AT cT ts A2 c2 W') :=
    Lib.hid (fun V hv he => by
      obtain ⟨z1, z2, z3, z4, z5, z6⟩ := checkAllE_zero he
      refine (opened_calls AH cH l AT cT ts V GH (h.keep (Keep.all hv)) q.hcH q.ol q.hl GT (hT.keep (Keep.all hv)) q.hts z1 z6).mono ?_
      rintro e w' ⟨cp, A2, c2, rfl, q1, q2, q3, q4, q5, q6⟩
      exact ⟨cp, A2, c2, rfl, q1, q2, q3, q4, q5, q6⟩)
  clear h hM hT q
  go_enter Tryz.func39, Tryz.ntmps39
  by_cases hz : checkAllE l ms ts = 0
  · have HZ := Lib.hid hz
    rw [hz] at HC
    clear hz
    go_wp2_with (fail)
    refine HC.out.mono ?_
    clear HC
    rintro e V ⟨rfl, hbv⟩
    go_wp2_with (fail)
    refine (HOP.out V hbv HZ.out).mono ?_
    clear HOP
    rintro e V2 ⟨cp, A2, c2, rfl, hb2, hcp, ho⟩
    have HO := Lib.hid ho
    clear ho
    go_wp2
    go_ret2
    exact ⟨hbv.trans (hb2.mono hbv.size), .inr ⟨HZ.out, cp, A2, c2, rfl, Nat.le_trans hbv.size hcp, HO.out⟩⟩
  · have HZ := Lib.hid hz
    have t1 : (checkAllE l ms ts != 0) = true := by rw [bne_iff_ne]; exact hz
    clear hz
    generalize checkAllE l ms ts = ce at HC t1 HZ HOP ⊢
    go_wp2_with (fail)
    refine HC.out.mono ?_
    clear HC
    rintro e V ⟨rfl, hbv⟩
    go_wp2
    go_ret2
    exact ⟨hbv, .inl ⟨HZ.out, rfl⟩⟩
/-- What Order returns. -/
noncomputable def orderR (l : List CI) (ms : List Meth) (ts : List Tag) : List Int × Bool := if checkAllE l ms ts = 0 then ((ordB l ts ms).1.map (·.id), decide (0 < (ordB l ts ms).2.length)) else ([], false)
theorem ord_lens (l : List CI) (ts : List Tag) (ms : List Meth) : (ordB l ts ms).1.length ≤ ms.length ∧ (ordB l ts ms).2.length ≤ ms.length := by
  have h1 := (orderG_perm (P := precB l ts) (ms.filter (appB l ts)).length (ms.filter (appB l ts))).length_eq
  rw [List.length_append] at h1
  have h2 := List.length_filter_le (appB l ts) ms
  unfold ordB
  omega
set_option maxHeartbeats 16000000 in
set_option maxRecDepth 100000 in
theorem order_calls (AH : Option Addr) (cH : Nat) (l : List CI) (A : Option Addr) (c : Nat) (ms : List Meth) (AT : Option Addr) (cT : Nat) (ts : List Tag) (W : World) (q : Asks AH cH l A ms AT ts W) :
    Calls Tryz.prog 26 #[.slice AH l.length cH, .slice A ms.length c, .slice AT ts.length cT] W fun e W' => ∃ v, e = .returned (.tuple #[v, .bool (orderR l ms ts).2]) ∧ Own intR 3 1 W.heap.size (fun _ => False) v (orderR l ms ts).1 W' ∧ Below W.heap.size W W' := by
  have HC := Lib.hid (open_calls AH cH l A c ms AT cT ts W q)
  obtain ⟨GH, h⟩ := q.h
  obtain ⟨GM, hM⟩ := q.hM
  obtain ⟨GT, hT⟩ := q.hT
  have HOR : Hid (∀ V cp A2 c2, Below W.heap.size W V → checkAllE l ms ts = 0 → OpenAt cp AH cH l AT cT ts A2 c2 V → Calls Tryz.prog 61 #[.pointer (some ⟨cp, 0, none⟩), .slice A ms.length c] V fun e W' => ∃ v1 v2, e = .returned (.tuple #[v1, v2]) ∧ Own metR 68 8 V.heap.size (fun b => b < V.heap.size) v1 (ordB l ts ms).1 W' ∧
      Own metR 68 8 V.heap.size (fun b => b < V.heap.size) v2 (ordB l ts ms).2 W' ∧ Below V.heap.size V W') :=
    Lib.hid (fun V cp A2 c2 hv he ho => by
      obtain ⟨z1, z2, z3, z4, z5, z6⟩ := checkAllE_zero he
      exact ordered_calls cp AH cH l AT cT ts A2 c2 V ho GH (h.keep (Keep.all hv)) q.hcH q.hl q.ol (fun t _ => cplAt_short z1 t) q.hts GT (hT.keep (Keep.all hv)) A c ms GM (hM.keep (Keep.all hv)) q.hn z5 q.hs)
  have hn := q.hn
  have HL := Lib.hid (ord_lens l ts ms)
  clear h hM hT q
  go_enter Tryz.func26, Tryz.ntmps26
  go_wp2_with (fail)
  refine HC.out.mono ?_
  clear HC
  rintro e V ⟨hbv, (⟨hz, rfl⟩ | ⟨hz, cp, A2, c2, rfl, hcp, ho⟩)⟩
  · have t1 : (checkAllE l ms ts != 0) = true := by rw [bne_iff_ne]; exact hz
    have HR : Hid (orderR l ms ts = ([], false)) := Lib.hid (by unfold orderR; rw [if_neg hz])
    clear hz HOR
    generalize checkAllE l ms ts = ce at t1
    go_wp2
    go_ret2
    exact ⟨_, by rw [HR.out]; rfl, by rw [HR.out]; exact Own.nil _ _ _ _ _ _, hbv⟩
  · have HO2 := Lib.hid (HOR.out V cp A2 c2 hbv hz ho)
    have HR : Hid (orderR l ms ts = ((ordB l ts ms).1.map (·.id), decide (0 < (ordB l ts ms).2.length))) := Lib.hid (by unfold orderR; rw [if_pos hz])
    clear ho HOR hz
    go_wp2_with (fail)
    refine HO2.out.mono ?_
    clear HO2
    rintro e V2 ⟨v1, v2, rfl, h1, h2, hb2⟩
    obtain ⟨A5, c5, rfl, hc5, h1'⟩ := h1.out
    obtain ⟨A6, c6, rfl, hc6, _⟩ := h2.out
    have HI := Lib.hid (ids_calls A5 c5 (ordB l ts ms).1 _ V2 h1' (by have := HL.out.1; omega))
    have bV2 := hbv.trans (hb2.mono hbv.size)
    clear h1 h2 h1'
    generalize (ordB l ts ms).1 = o1 at HI HR ⊢
    generalize (ordB l ts ms).2 = o2 at HR ⊢
    go_wp2_with (fail)
    refine HI.out.mono ?_
    clear HI
    rintro e V3 ⟨v, rfl, hv, hb3⟩
    have HV := Lib.hid (hv.lower bV2.size)
    clear hv
    go_wp2
    go_ret2
    refine ⟨v, by rw [HR.out]; simp, by rw [HR.out]; exact HV.out, bV2.trans (hb3.mono bV2.size)⟩
end Go.Proofs.YtepnmejahbiacaaGreat
set_option linter.unusedVariables false
set_option linter.unusedSimpArgs false
namespace Go.Proofs.YtepnmejahbiacaaGreat
open Go.RowKit
set_option maxHeartbeats 4000000 in
set_option maxRecDepth 100000 in
theorem class_calls (s : ByteArray) (w : World) : Calls Tryz.prog 38 #[.string s] w fun e w' => e = .returned (tyV (clsT s) none 0) ∧ Below w.heap.size w w' := by
  go_enter Tryz.func38, Tryz.ntmps38
  go_wp2
  refine bodyPost_ret (v := tyV (clsT s) none 0) (by simp [results, Tryz.results38, go_sem]; first | done | exact ⟨rfl, rfl, rfl, rfl, rfl⟩) rfl ?_
  exact ⟨rfl, (Below.refl _ w).alloc (Nat.le_refl _) _⟩
theorem parR.mk {G : Nat → Prop} {n : ByteArray} {t : Ty} {w : World} {A : Option Addr} {c : Nat} (h1 : t.args.length ≤ c) (h3 : Held G (Typs A t.args) w) : Held G (parR ⟨n, t⟩ [.string n, .int .i64 t.kind, .string t.name, .int .i64 t.lo, .int .i64 t.hi, .slice A t.args.length c]) w := fun w' k => ⟨_, rfl, rfl, typR.mk h1 h3 w' k⟩
def nX : ByteArray := ⟨#[120]⟩
/-- A method of one parameter, of a type. -/
def met1 (i : Int) (t : Ty) : Meth := ⟨i, ⟨#[]⟩, [⟨nX, t⟩], .mk 0 ⟨#[]⟩ 0 0 []⟩
set_option maxHeartbeats 4000000 in
set_option maxRecDepth 100000 in
theorem method_calls2 (i : Int) (t : Ty) (A : Option Addr) (c : Nat) (w : World) (G : Nat → Prop) (hA : Held G (Typs A t.args) w) (hc : t.args.length ≤ c) :
    Calls Tryz.prog 37 #[.int .i64 i, tyV t A c] w fun e w' => ∃ n, e = .returned (metV (met1 i t) (some ⟨n, 0, none⟩) 1 none 0) ∧ w.heap.size ≤ n ∧ n < w'.heap.size ∧ Held (fun b => G b ∨ b = n) (Pars (some ⟨n, 0, none⟩) (met1 i t).pars) w' ∧ Below w.heap.size w w' := by
  go_enter Tryz.func37, Tryz.ntmps37
  go_wp2
  refine bodyPost_ret (v := metV (met1 i t) (some ⟨w.heap.size + 1 + 1, 0, none⟩) 1 none 0) (by simp [results, Tryz.results37, go_sem]; first | done | rfl | exact ⟨rfl, rfl, rfl, rfl, rfl, rfl, rfl, rfl⟩) rfl ?_
  refine ⟨w.heap.size + 1 + 1, rfl, by omega, by simp, ?_, (((Below.refl _ w).alloc (Nat.le_refl _) _).alloc (by simp) _).alloc (by simp; omega) _⟩
  exact (Own.read (Own.single (R := parR) (base := 0) (x := ⟨nX, t⟩) (n := w.heap.size + 1 + 1) (by simp) (Nat.zero_le _) rfl (by simp) (parR.mk hc (hA.keep ((Keep.alloc _ _ _).trans (Keep.alloc _ _ _)))))).2.2.mono fun b _ h => by rcases h with h | h; exact .inl h; exact .inr (by simpa [Value.ownBlock] using h.symm)
theorem method_calls (i : Int) (t : Ty) (A : Option Addr) (c : Nat) (w : World) (G : Nat → Prop) (hA : Held G (Typs A t.args) w) (hc : t.args.length ≤ c) :
    Calls Tryz.prog 37 #[.int .i64 i, tyV t A c] w fun e w' => ∃ n, e = .returned (metV (met1 i t) (some ⟨n, 0, none⟩) 1 none 0) ∧ w.heap.size ≤ n ∧ n < w'.heap.size ∧ Held (fun b => b < w'.heap.size) (Pars (some ⟨n, 0, none⟩) (met1 i t).pars) w' ∧ Below w.heap.size w w' :=
  (method_calls2 i t A c w G hA hc).mono fun e w' ⟨n, h1, h2, h3, h4, h5⟩ => ⟨n, h1, h2, h3, h4.mono fun b hb _ => hb, h5⟩
set_option maxHeartbeats 4000000 in
set_option maxRecDepth 100000 in
theorem sameInts_calls (A B : Option Addr) (c d : Nat) (l m : List Int) (w : World) (GA GB : Nat → Prop) (hA : Held GA (Ints A l) w) (hB : Held GB (Ints B m) w) (hl : l.length ≤ 1000000) (hm : m.length ≤ 1000000) :
    Calls Tryz.prog 14 #[.slice A l.length c, .slice B m.length d] w fun e w' => e = .returned (.bool (decide (l = m))) ∧ Drw w w' := by
  by_cases hlen : l.length = m.length
  · have t2 : ((l.length : Int) != (m.length : Int)) = false := bne_eq_false_iff_eq.2 (by omega)
    have HL := Lib.hid hlen
    clear hlen
    go_enter Tryz.func14, Tryz.ntmps14
    go_wp2
    go_loopw [5] (fun i wr => ∃ k : Nat, k ≤ l.length ∧ i = .int .i64 k ∧ l.take k = m.take k ∧ Drw w wr) (fun i _ => l.length - (intOf i).toNat)
    case atStart => exact ⟨0, Nat.zero_le _, rfl, by simp, Drw.refl _⟩
    case round =>
      obtain ⟨k, hk, rfl, heq, hd⟩ := hrel
      obtain ⟨n, rfl⟩ := hd
      have HE := Lib.hid heq
      clear heq
      by_cases hlt : k < l.length
      · have hm' : k < m.length := by have := HL.out; omega
        obtain ⟨b, off, rfl⟩ := Slc.addrH hA (by omega)
        obtain ⟨b', off', rfl⟩ := Slc.addrH hB (by omega)
        have hx : l[k]? = some l[k] := List.getElem?_eq_getElem hlt
        have hy : m[k]? = some m[k] := List.getElem?_eq_getElem hm'
        generalize l[k] = x at hx
        generalize m[k] = y at hy
        have h1 : w.cell? ⟨b, off + k, none⟩ = some (.int .i64 x) := by
          obtain ⟨cs, _, hr, hc⟩ := Slc.atH hA (by decide) hx
          obtain rfl : cs = [.int .i64 x] := hr.now
          simpa using (hc 0 _ rfl).now
        have h2 : w.cell? ⟨b', off' + k, none⟩ = some (.int .i64 y) := by
          obtain ⟨cs, _, hr, hc⟩ := Slc.atH hB (by decide) hy
          obtain rfl : cs = [.int .i64 y] := hr.now
          simpa using (hc 0 _ rfl).now
        have HX := Lib.hid hx
        have HY := Lib.hid hy
        clear hx hy
        by_cases hxy : x = y
        · subst hxy
          have t1 : (x != x) = false := bne_self_eq_false x
          go_wp2
          go_quiet (fail)
          go_wp2
          go_roundw
          case rel =>
            refine ⟨k + 1, by omega, by go_num, ?_, Drw.of _ _⟩
            rw [List.take_add_one, List.take_add_one, HE.out, HX.out, HY.out]
          case measure => simp [intOf]; omega
        · have hne : l ≠ m := by
            rintro rfl
            have := HX.out; rw [HY.out] at this; exact hxy (Option.some.inj this).symm
          have t1 : (x != y) = true := by rw [bne_iff_ne]; exact hxy
          have HN := Lib.hid hne
          clear hne hxy
          go_wp2
          go_quiet (fail)
          go_wp2
          go_ret
          exact ⟨retB (decide_eq_false HN.out).symm, (Drw.of _ _).drewN _⟩
      · obtain rfl : k = l.length := by omega
        have : l = m := by have h := HE.out; rw [List.take_length] at h; rw [h]; exact List.take_of_length_le (by rw [HL.out]; exact Nat.le_refl _)
        have HM := Lib.hid this
        clear this
        go_wp2
        go_ret
        exact ⟨retB (decide_eq_true HM.out).symm, ⟨n, rfl⟩⟩
  · have t2 : ((l.length : Int) != (m.length : Int)) = true := by rw [bne_iff_ne]; omega
    have HL : Hid (l ≠ m) := Lib.hid (fun e => hlen (by rw [e]))
    clear hlen
    go_enter Tryz.func14, Tryz.ntmps14
    go_wp2
    go_ret
    exact ⟨retB (decide_eq_false HL.out).symm, Drw.refl _⟩
end Go.Proofs.YtepnmejahbiacaaGreat
set_option linter.unusedVariables false
set_option linter.unusedSimpArgs false
namespace Go.Proofs.YtepnmejahbiacaaGreat
open Go.RowKit
/-- What First returns: the number, and the fault. -/
noncomputable def firstR (l : List CI) (ms : List Meth) (ts : List Tag) : Int × Int := match (orderR l ms ts).1 with
  | x :: _ => (x, 0)
  | [] => if (orderR l ms ts).2 = true then (0, 2) else (0, 1)
set_option maxHeartbeats 16000000 in
set_option maxRecDepth 100000 in
theorem first_calls (AH : Option Addr) (cH : Nat) (l : List CI) (A : Option Addr) (c : Nat) (ms : List Meth) (AT : Option Addr) (cT : Nat) (ts : List Tag) (W : World) (q : Asks AH cH l A ms AT ts W) :
    Calls Tryz.prog 28 #[.slice AH l.length cH, .slice A ms.length c, .slice AT ts.length cT] W fun e W' => e = .returned (.tuple #[.int .i64 (firstR l ms ts).1, .int .i64 (firstR l ms ts).2]) ∧ Below W.heap.size W W' := by
  have HC := Lib.hid (order_calls AH cH l A c ms AT cT ts W q)
  have hn := q.hn
  clear q
  have HF : Hid (firstR l ms ts = match (orderR l ms ts).1 with | x :: _ => (x, 0) | [] => if (orderR l ms ts).2 = true then (0, 2) else (0, 1)) := Lib.hid rfl
  generalize orderR l ms ts = r at HC HF
  obtain ⟨ids, amb⟩ := r
  go_enter Tryz.func28, Tryz.ntmps28
  go_wp2_with (fail)
  refine HC.out.mono ?_
  clear HC
  rintro e V ⟨v, rfl, hv, hbv⟩
  obtain ⟨A5, c5, rfl, hc5, hH⟩ := hv.out
  cases ids with
  | nil =>
    cases amb with
    | true =>
      have H2 : Hid (firstR l ms ts = (0, 2)) := Lib.hid HF.out
      clear HF
      go_wp2
      go_ret2
      exact ⟨by rw [H2.out]; rfl, hbv⟩
    | false =>
      have H2 : Hid (firstR l ms ts = (0, 1)) := Lib.hid HF.out
      clear HF
      go_wp2
      go_ret2
      exact ⟨by rw [H2.out]; rfl, hbv⟩
  | cons x r =>
    have H2 : Hid (firstR l ms ts = (x, 0)) := Lib.hid HF.out
    obtain ⟨b, off, rfl⟩ := Slc.addrH hH (by simp)
    obtain ⟨cs, _, hr, hc⟩ := Slc.atH hH (by decide) (k := 0) (x := x) rfl
    obtain rfl : cs = [.int .i64 x] := hr.now
    have g0 : V.cell? ⟨b, off, none⟩ = some (.int .i64 x) := by simpa using (hc 0 _ rfl).now
    have hl0 : (0 : Int) < ((x :: r).length : Int) := by simp
    clear HF hc hr hH hv
    go_wp2
    go_ret2
    exact ⟨by rw [H2.out]; rfl, hbv⟩
theorem own_pair {base : Nat} {w : World} {a b x y : Int} (T : TypeId) (hb : base ≤ w.heap.size) (hx : x = min a b) (hy : y = max a b) : Own intR T 1 base (fun _ => False) (.slice (some ⟨w.heap.size, 0, none⟩) 2 2) [min a b, max a b] (w.alloc (.cells #[.int .i64 x, .int .i64 y] T)) := by
  subst hx hy
  refine ⟨[.int .i64 (min a b), .int .i64 (max a b)], ⟨by simp, .inr ⟨_, 2, #[.int .i64 (min a b), .int .i64 (max a b)], rfl, hb, heap_alloc_new w _, Nat.le_refl _, by simp [maxLen], by simp, by simp⟩⟩, ?_⟩
  have h1 := Enc.snoc (Enc.nil (R := fun x ds => Held (fun _ => False) (intR x ds) (w.alloc (.cells #[.int .i64 (min a b), .int .i64 (max a b)] T))) (sz := 1)) (x := min a b) (cs := [.int .i64 (min a b)]) (fun _ _ => rfl) rfl
  have h2 := Enc.snoc h1 (x := max a b) (cs := [.int .i64 (max a b)]) (fun _ _ => rfl) rfl
  exact h2
/-- Two that do not precede each other. -/
def Clash (P : Meth → Meth → Bool) (l : List Meth) (a b : Meth) : Prop := ∃ i k : Nat, k < i ∧ l[i]? = some a ∧ l[k]? = some b ∧ P a b = false ∧ P b a = false
def conflictPost (l : List CI) (ms : List Meth) (ts : List Tag) (W : World) (e : Ending) (W' : World) : Prop :=
  Below W.heap.size W W' ∧ ((checkAllE l ms ts ≠ 0 ∧ e = .returned (.tuple #[.slice none 0 0, .int .i64 (checkAllE l ms ts)])) ∨
    (checkAllE l ms ts = 0 ∧ (((∀ a b, ¬ Clash (precB l ts) (ordB l ts ms).2 a b) ∧ e = .returned (.tuple #[.slice none 0 0, .int .i64 3])) ∨
      ∃ a b v, Clash (precB l ts) (ordB l ts ms).2 a b ∧ e = .returned (.tuple #[v, .int .i64 0]) ∧ Own intR 3 1 W.heap.size (fun _ => False) v [min a.id b.id, max a.id b.id] W')))
set_option maxHeartbeats 32000000 in
set_option maxRecDepth 100000 in
theorem conflict_calls (AH : Option Addr) (cH : Nat) (l : List CI) (A : Option Addr) (c : Nat) (ms : List Meth) (AT : Option Addr) (cT : Nat) (ts : List Tag) (W : World) (q : Asks AH cH l A ms AT ts W) :
    Calls Tryz.prog 30 #[.slice AH l.length cH, .slice A ms.length c, .slice AT ts.length cT] W (conflictPost l ms ts W) := by
  have HC := Lib.hid (open_calls AH cH l A c ms AT cT ts W q)
  obtain ⟨GH, h⟩ := q.h
  obtain ⟨GM, hM⟩ := q.hM
  obtain ⟨GT, hT⟩ := q.hT
  have HOR : Hid (∀ V cp A2 c2, Below W.heap.size W V → checkAllE l ms ts = 0 → OpenAt cp AH cH l AT cT ts A2 c2 V → Calls Tryz.prog 61 #[.pointer (some ⟨cp, 0, none⟩), .slice A ms.length c] V fun e W' => ∃ v1 v2, e = .returned (.tuple #[v1, v2]) ∧ Own metR 68 8 V.heap.size (fun b => b < V.heap.size) v1 (ordB l ts ms).1 W' ∧
      Own metR 68 8 V.heap.size (fun b => b < V.heap.size) v2 (ordB l ts ms).2 W' ∧ Below V.heap.size V W') :=
    Lib.hid (fun V cp A2 c2 hv he ho => by
      obtain ⟨z1, z2, z3, z4, z5, z6⟩ := checkAllE_zero he
      exact ordered_calls cp AH cH l AT cT ts A2 c2 V ho GH (h.keep (Keep.all hv)) q.hcH q.hl q.ol (fun t _ => cplAt_short z1 t) q.hts GT (hT.keep (Keep.all hv)) A c ms GM (hM.keep (Keep.all hv)) q.hn z5 q.hs)
  obtain ⟨P, hP⟩ : ∃ P, P = precB l ts := ⟨_, rfl⟩
  have HPR : Hid (∀ (cp : Nat) (A2 : Option Addr) (c2 : Nat) (a b : Meth) (Aa Ar Ba Br : Option Addr) (ca cr cb cq : Nat) (V : World), OpenAt cp AH cH l AT cT ts A2 c2 V → Below W.heap.size W V → checkAllE l ms ts = 0 → a ∈ ms → b ∈ ms → (∃ G, Held G (Pars Aa a.pars) V) → (∃ G, Held G (Pars Ba b.pars) V) →
      Calls Tryz.prog 70 #[.pointer (some ⟨cp, 0, none⟩), metV a Aa ca Ar cr, metV b Ba cb Br cq] V fun e V' => e = .returned (.bool (P a b)) ∧ Below V.heap.size V V') :=
    Lib.hid (fun cp A2 c2 a b Aa Ar Ba Br ca cr cb cq V ho hv he ha hb ⟨Ga, h1⟩ ⟨Gb, h2⟩ => by
      obtain ⟨z1, z2, z3, z4, z5, z6⟩ := checkAllE_zero he
      rw [hP]
      exact precedes_calls cp AH cH l AT cT ts A2 c2 V ho GH (h.keep (Keep.all hv)) q.hl q.ol (fun t _ => cplAt_short z1 t) q.hts a b Aa Ar Ba Br ca cr cb cq Ga Gb h1 h2 (z5 a ha) (z5 b hb) (q.hs a ha) (q.hs b hb))
  have HPP := Lib.hid hP
  have hn := q.hn
  have HL := Lib.hid (ord_lens l ts ms)
  have HMEM : Hid (∀ m ∈ (ordB l ts ms).2, m ∈ ms) := Lib.hid (fun m hm => by
    have h1 := orderG_perm (P := precB l ts) (ms.filter (appB l ts)).length (ms.filter (appB l ts))
    exact (List.mem_filter.1 (h1.mem_iff.1 (List.mem_append.2 (.inr hm)))).1)
  clear h hM hT q hP
  go_enter Tryz.func30, Tryz.ntmps30
  go_wp2_with (fail)
  refine HC.out.mono ?_
  clear HC
  rintro e V ⟨hbv, (⟨hz, rfl⟩ | ⟨hz, cp, A2, c2, rfl, hcp, ho⟩)⟩
  · have t1 : (checkAllE l ms ts != 0) = true := by rw [bne_iff_ne]; exact hz
    have HZ := Lib.hid hz
    clear hz HOR HPR
    go_wp2
    go_ret2
    exact ⟨hbv, .inl ⟨HZ.out, rfl⟩⟩
  · have HO2 := Lib.hid (HOR.out V cp A2 c2 hbv hz ho)
    have HZ := Lib.hid hz
    clear HOR hz
    go_wp2_with (fail)
    refine HO2.out.mono ?_
    clear HO2
    rintro e V2 ⟨v1, v2, rfl, h1, h2, hb2⟩
    have bV2 := hbv.trans (hb2.mono hbv.size)
    have ho2 := ho.keep hb2
    clear h1 ho
    obtain ⟨ls, hls⟩ : ∃ ls, ls = (ordB l ts ms).2 := ⟨_, rfl⟩
    have HLS := Lib.hid hls
    rw [← hls] at h2 HMEM
    have hln : ls.length ≤ 1000000 := by rw [hls]; have := HL.out.2; omega
    clear hls
    obtain ⟨A6, c6, rfl, hc6, _⟩ := h2.out
    go_wp2_with (fail)
    go_loopw [34] (fun i wr => ∃ k : Nat, k ≤ ls.length ∧ i = .int .i64 k ∧ (∀ j p a b, j < k → p < j → ls[j]? = some a → ls[p]? = some b → ¬ (P a b = false ∧ P b a = false)) ∧ Below V2.heap.size V2 wr) (fun i _ => ls.length - (intOf i).toNat)
    case atStart => exact ⟨0, Nat.zero_le _, rfl, fun j p a b hj => absurd hj (by omega), Below.refl _ _⟩
    case round =>
      obtain ⟨k, hk, rfl, hok, hbr⟩ := hrel
      have HOK := Lib.hid hok
      clear hok
      by_cases hkl : k < ls.length
      · obtain ⟨g, cl, e0, hgb, hgl⟩ := h2.form (by omega)
        simp only [Value.slice.injEq] at e0
        obtain ⟨rfl, _, rfl⟩ := e0
        have hx : ls[k]? = some ls[k] := List.getElem?_eq_getElem hkl
        generalize ls[k] = a at hx
        have HX := Lib.hid hx
        obtain ⟨A1, c1, A3, c3, p1, p2, p3, p4, f0, f1, f2, f3, f4, f5, f6, f7⟩ := OwnMet.at (h2.all hbr) hx
        clear hx
        have hkc : k ≤ c6 := by omega
        go_wp2_with (fail)
        obtain ⟨W1, hW1⟩ : ∃ W1, W1 = wr.alloc (.cells #[.int .i64 a.id, .string a.lib, .slice A1 a.pars.length c1, .int .i64 a.result.kind, .string a.result.name, .int .i64 a.result.lo, .int .i64 a.result.hi, .slice A3 a.result.args.length c3] 68) := ⟨_, rfl⟩
        rw [← hW1]
        have b1 : Below wr.heap.size wr W1 := by rw [hW1]; exact (Below.refl _ wr).alloc (Nat.le_refl _) _
        have xm : ∀ j u, [Value.int .i64 a.id, .string a.lib, .slice A1 a.pars.length c1, .int .i64 a.result.kind, .string a.result.name, .int .i64 a.result.lo, .int .i64 a.result.hi, .slice A3 a.result.args.length c3][j]? = some u → W1.cell? ⟨wr.heap.size, j, none⟩ = some u := fun j u hj => by rw [hW1]; exact cell_new wr _ _ _ rfl j u hj
        have XM := Lib.hid xm
        clear hW1 f0 f1 f2 f3 f4 f5 f6 f7 xm
        have bo1 : Below V2.heap.size V2 W1 := hbr.trans (b1.mono hbr.size)
        have p2' := p2.keep (Keep.all b1)
        obtain ⟨ab, hab⟩ : ∃ ab, ab = wr.heap.size := ⟨_, rfl⟩
        rw [← hab] at XM ⊢
        clear hab p2
        go_loopw [43] (fun i w3 => ∃ j : Nat, j ≤ k ∧ i = .int .i64 j ∧ (∀ p b, p < j → ls[p]? = some b → ¬ (P a b = false ∧ P b a = false)) ∧ Below W1.heap.size W1 w3) (fun i _ => k - (intOf i).toNat)
        case atStart => exact ⟨0, Nat.zero_le _, rfl, fun p b hj => absurd hj (by omega), Below.refl _ _⟩
        case round =>
          obtain ⟨j, hj, rfl, hgood, hb3⟩ := hrel
          have HG := Lib.hid hgood
          clear hgood
          have bo3 : Below V2.heap.size V2 wr := bo1.trans (hb3.mono bo1.size)
          have bW3 : Below W.heap.size W wr := bV2.trans (bo3.mono bV2.size)
          by_cases hjl : j < k
          · have hy : ls[j]? = some ls[j] := List.getElem?_eq_getElem (by omega)
            generalize ls[j] = b at hy
            have HY := Lib.hid hy
            obtain ⟨B1, d1, B3, d3, q1, q2, q3, q4, g0, g1, g2, g3, g4, g5, g6, g7⟩ := OwnMet.at (h2.all bo3) hy
            have m0 := cell_all (XM.out 0 _ rfl) hb3
            have m1 := cell_all (XM.out 1 _ rfl) hb3
            have m2 := cell_all (XM.out 2 _ rfl) hb3
            have m3 := cell_all (XM.out 3 _ rfl) hb3
            have m4 := cell_all (XM.out 4 _ rfl) hb3
            have m5 := cell_all (XM.out 5 _ rfl) hb3
            have m6 := cell_all (XM.out 6 _ rfl) hb3
            have m7 := cell_all (XM.out 7 _ rfl) hb3
            clear hy
            have habl : ab < wr.heap.size := cell_lt m0
            obtain ⟨W4, hW4⟩ : ∃ W4, W4 = wr.alloc (.cells #[.int .i64 b.id, .string b.lib, .slice B1 b.pars.length d1, .int .i64 b.result.kind, .string b.result.name, .int .i64 b.result.lo, .int .i64 b.result.hi, .slice B3 b.result.args.length d3] 68) := ⟨_, rfl⟩
            have bal : Below wr.heap.size wr W4 := by rw [hW4]; exact (Below.refl _ wr).alloc (Nat.le_refl _) _
            have HPC := Lib.hid (fun V (hv : Below wr.heap.size wr V) => HPR.out cp A2 c2 a b A1 A3 B1 B3 c1 c3 d1 d3 V (ho2.keep (bo3.trans (hv.mono bo3.size))) (bW3.trans (hv.mono bW3.size)) HZ.out (HMEM.out a (List.mem_of_getElem? HX.out)) (HMEM.out b (List.mem_of_getElem? HY.out)) ⟨_, (p2'.keep (Keep.all hb3)).keep (Keep.all hv)⟩ ⟨_, q2.keep (Keep.all hv)⟩)
            have HPD := Lib.hid (fun V (hv : Below wr.heap.size wr V) => HPR.out cp A2 c2 b a B1 B3 A1 A3 d1 d3 c1 c3 V (ho2.keep (bo3.trans (hv.mono bo3.size))) (bW3.trans (hv.mono bW3.size)) HZ.out (HMEM.out b (List.mem_of_getElem? HY.out)) (HMEM.out a (List.mem_of_getElem? HX.out)) ⟨_, q2.keep (Keep.all hv)⟩ ⟨_, (p2'.keep (Keep.all hb3)).keep (Keep.all hv)⟩)
            have xb : ∀ j u, [Value.int .i64 b.id, .string b.lib, .slice B1 b.pars.length d1, .int .i64 b.result.kind, .string b.result.name, .int .i64 b.result.lo, .int .i64 b.result.hi, .slice B3 b.result.args.length d3][j]? = some u → W4.cell? ⟨wr.heap.size, j, none⟩ = some u := fun j u hj => by rw [hW4]; exact cell_new wr _ _ _ rfl j u hj
            have XB := Lib.hid xb
            have HM4 := Lib.hid (fun j u hj => cell_all (cell_all (XM.out j u hj) hb3) bal)
            have fin : ∀ V, Below wr.heap.size wr V → ¬ (P a b = false ∧ P b a = false) → ∃ j' : Nat, j' ≤ k ∧ Value.int .i64 ((j : Int) + 1) = .int .i64 j' ∧ (∀ p b, p < j' → ls[p]? = some b → ¬ (P a b = false ∧ P b a = false)) ∧ Below W1.heap.size W1 V := fun V hv hne =>
              ⟨j + 1, by omega, by go_num, fun p b' hp hb' => by
                rcases Nat.lt_or_ge p j with z | z
                · exact HG.out p b' z hb'
                · obtain rfl : p = j := by omega
                  rw [HY.out] at hb'; cases hb'; exact hne, hb3.trans (hv.mono hb3.size)⟩
            have HFI := Lib.hid fin
            clear fin xb
            cases hab : P a b with
            | true =>
              rw [hab] at HPC
              have HNE : Hid (¬ (P a b = false ∧ P b a = false)) := Lib.hid (fun e => by rw [hab] at e; cases e.1)
              clear hab HPD
              go_wp2_with (fail)
              rw [← hW4]
              refine (HPC.out _ bal).mono ?_
              clear HPC
              rintro e V5 ⟨rfl, hb5⟩
              go_wp2
              refine ⟨HFI.out V5 (bal.trans (hb5.mono bal.size)) HNE.out, by simp [intOf]; omega⟩
            | false =>
              rw [hab] at HPC
              have HAB := Lib.hid hab
              cases hba : P b a with
              | true =>
                rw [hba] at HPD
                have HNE : Hid (¬ (P a b = false ∧ P b a = false)) := Lib.hid (fun e => by rw [hba] at e; cases e.2)
                clear hab hba
                go_wp2_with (fail)
                rw [← hW4]
                refine (HPC.out _ bal).mono ?_
                clear HPC
                rintro e V5 ⟨rfl, hb5⟩
                have n0 := cell_all (XB.out 0 _ rfl) hb5
                have n1 := cell_all (XB.out 1 _ rfl) hb5
                have n2 := cell_all (XB.out 2 _ rfl) hb5
                have n3 := cell_all (XB.out 3 _ rfl) hb5
                have n4 := cell_all (XB.out 4 _ rfl) hb5
                have n5 := cell_all (XB.out 5 _ rfl) hb5
                have n6 := cell_all (XB.out 6 _ rfl) hb5
                have n7 := cell_all (XB.out 7 _ rfl) hb5
                have o0 := cell_all (HM4.out 0 _ rfl) hb5
                have o1 := cell_all (HM4.out 1 _ rfl) hb5
                have o2 := cell_all (HM4.out 2 _ rfl) hb5
                have o3 := cell_all (HM4.out 3 _ rfl) hb5
                have o4 := cell_all (HM4.out 4 _ rfl) hb5
                have o5 := cell_all (HM4.out 5 _ rfl) hb5
                have o6 := cell_all (HM4.out 6 _ rfl) hb5
                have o7 := cell_all (HM4.out 7 _ rfl) hb5
                have b5 := bal.trans (hb5.mono bal.size)
                go_wp2_with (fail)
                refine (HPD.out V5 b5).mono ?_
                clear HPD n0 n1 n2 n3 n4 n5 n6 n7 o0 o1 o2 o3 o4 o5 o6 o7
                rintro e V6 ⟨rfl, hb6⟩
                have b6 := b5.trans (hb6.mono b5.size)
                go_wp2
                refine ⟨HFI.out V6 b6 HNE.out, by simp [intOf]; omega⟩
              | false =>
                rw [hba] at HPD
                have HBA := Lib.hid hba
                clear hab hba
                go_wp2_with (fail)
                rw [← hW4]
                refine (HPC.out _ bal).mono ?_
                clear HPC
                rintro e V5 ⟨rfl, hb5⟩
                have n0 := cell_all (XB.out 0 _ rfl) hb5
                have n1 := cell_all (XB.out 1 _ rfl) hb5
                have n2 := cell_all (XB.out 2 _ rfl) hb5
                have n3 := cell_all (XB.out 3 _ rfl) hb5
                have n4 := cell_all (XB.out 4 _ rfl) hb5
                have n5 := cell_all (XB.out 5 _ rfl) hb5
                have n6 := cell_all (XB.out 6 _ rfl) hb5
                have n7 := cell_all (XB.out 7 _ rfl) hb5
                have o0 := cell_all (HM4.out 0 _ rfl) hb5
                have o1 := cell_all (HM4.out 1 _ rfl) hb5
                have o2 := cell_all (HM4.out 2 _ rfl) hb5
                have o3 := cell_all (HM4.out 3 _ rfl) hb5
                have o4 := cell_all (HM4.out 4 _ rfl) hb5
                have o5 := cell_all (HM4.out 5 _ rfl) hb5
                have o6 := cell_all (HM4.out 6 _ rfl) hb5
                have o7 := cell_all (HM4.out 7 _ rfl) hb5
                have b5 := bal.trans (hb5.mono bal.size)
                go_wp2_with (fail)
                refine (HPD.out V5 b5).mono ?_
                clear HPD n0 n1 n2 n3 n4 n5 n6 n7 o0 o1 o2 o3 o4 o5 o6 o7
                rintro e V6 ⟨rfl, hb6⟩
                have b6 := b5.trans (hb6.mono b5.size)
                have n0 := cell_all (cell_all (XB.out 0 _ rfl) hb5) hb6
                have o0 := cell_all (cell_all (HM4.out 0 _ rfl) hb5) hb6
                have HCL : Hid (Clash (precB l ts) (ordB l ts ms).2 a b) := Lib.hid ⟨k, j, hjl, by rw [← HLS.out]; exact HX.out, by rw [← HLS.out]; exact HY.out, by rw [← HPP.out]; exact HAB.out, by rw [← HPP.out]; exact HBA.out⟩
                have bF := bW3.trans (b6.mono bW3.size)
                go_wp2
                all_goals
                  go_ret2
                  refine ⟨bF.alloc bF.size _, .inr ⟨HZ.out, .inr ⟨a, b, _, HCL.out, rfl, ?_⟩⟩⟩
                  exact own_pair _ bF.size (by omega) (by omega)
          · obtain rfl : j = k := by omega
            go_wp2
            refine ⟨⟨j + 1, by omega, by go_num, fun i p a' b' hi hp h1 h2' => ?_, bo3⟩, by simp [intOf]; omega⟩
            rcases Nat.lt_or_ge i j with z | z
            · exact HOK.out i p a' b' z hp h1 h2'
            · obtain rfl : i = j := by omega
              rw [HX.out] at h1; cases h1
              exact HG.out p b' hp h2'
      · obtain rfl : k = ls.length := by omega
        have HNC : Hid (∀ a b, ¬ Clash (precB l ts) (ordB l ts ms).2 a b) := Lib.hid (by
          rintro a b ⟨i, p, hp, h1, h2, h3, h4⟩
          rw [← HLS.out] at h1 h2
          rw [← HPP.out] at h3 h4
          exact HOK.out i p a b (List.getElem?_eq_some_iff.1 h1).1 hp h1 h2 ⟨h3, h4⟩)
        have bf := bV2.trans (hbr.mono bV2.size)
        go_wp2
        go_ret2
        exact ⟨bf, .inr ⟨HZ.out, .inl ⟨HNC.out, rfl⟩⟩⟩
end Go.Proofs.YtepnmejahbiacaaGreat
set_option linter.unusedVariables false
set_option linter.unusedSimpArgs false
namespace Go.Proofs.YtepnmejahbiacaaGreat
open Go.RowKit
def appC (l : List CI) (ts : List Tag) (m : Meth) : Bool := (List.range m.pars.length).all fun i => match m.pars[i]?, ts[i]? with
  | some p, some t => hasTF l t p.type
  | _, _ => true
theorem appB_eq {l : List CI} {ts : List Tag} {m : Meth} (hL : LookOk l) (ht : ∀ t ∈ ts, tagOk l t = true) (hv : ∀ p ∈ m.pars, validErr l p.type = 0) : appB l ts m = appC l ts m := by
  cases hc : appC l ts m with
  | true =>
    refine appB_true fun i p t hp htt => ?_
    have := List.all_eq_true.1 hc i (List.mem_range.2 (List.getElem?_eq_some_iff.1 hp).1)
    rw [hp, htt] at this
    exact ⟨hL, ht t (List.mem_of_getElem? htt), hv p (List.mem_of_getElem? hp), this⟩
  | false =>
    refine appB_false fun hA => ?_
    obtain ⟨i, hi, e⟩ := List.all_eq_false.1 hc
    have hi' := List.mem_range.1 hi
    rw [List.getElem?_eq_getElem hi'] at e
    cases ht2 : ts[i]? with
    | none => rw [ht2] at e; simp at e
    | some t =>
      rw [ht2] at e
      exact e (hA i _ t (List.getElem?_eq_getElem hi') ht2).2.2.2
def orderC (l : List CI) (ms : List Meth) (ts : List Tag) : List Meth × List Meth := orderG (precB l ts) (ms.filter (appC l ts)).length (ms.filter (appC l ts))
def chkB (l : List CI) (ms : List Meth) (ts : List Tag) : Bool := decide (ms.length ≤ 300) && AreMs l ms && decide (ts.length ≤ 6) && (decide (ms.length = 0) || decide ((ms[0]?.map fun m => m.pars.length).getD 0 = ts.length)) && ts.all (tagOk l)
theorem chk_zero {l : List CI} {ms : List Meth} {ts : List Tag} (hL : LookOk l) (h : chkB l ms ts = true) : checkAllE l ms ts = 0 := by
  unfold chkB at h
  simp only [Bool.and_eq_true, Bool.or_eq_true, decide_eq_true_eq] at h
  obtain ⟨⟨⟨⟨h1, h2⟩, h3⟩, h4⟩, h5⟩ := h
  rw [checkAllE_tags hL (by omega) (by
    rintro (q | q | ⟨q, q2⟩)
    · rw [h2] at q; cases q
    · omega
    · rcases h4 with h4 | h4
      · omega
      · exact q2 h4), h5]; rfl
theorem areMs_valid {l : List CI} {ms : List Meth} (h : AreMs l ms = true) : ∀ m ∈ ms, ∀ p ∈ m.pars, validErr l p.type = 0 := fun m hm p hp => by
  unfold AreMs at h
  rw [Bool.and_eq_true] at h
  have := List.all_eq_true.1 h.2 m hm
  unfold parsOk at this
  rw [Bool.and_eq_true] at this
  have := List.all_eq_true.1 this.2 p hp
  simpa using this
theorem ordB_eq {l : List CI} {ms : List Meth} {ts : List Tag} (hz : checkAllE l ms ts = 0) : ordB l ts ms = orderC l ms ts := by
  obtain ⟨h1, _, h3, _, _, h6⟩ := checkAllE_zero hz
  have e : ms.filter (appB l ts) = ms.filter (appC l ts) := List.filter_congr fun m hm => appB_eq h1 h6 (areMs_valid h3 m hm)
  unfold ordB orderC
  rw [e]
theorem orderR_eq {l : List CI} {ms : List Meth} {ts : List Tag} (hz : checkAllE l ms ts = 0) : orderR l ms ts = ((orderC l ms ts).1.map (·.id), decide (0 < (orderC l ms ts).2.length)) := by
  unfold orderR; rw [if_pos hz, ordB_eq hz]
def tagC : Tag := ⟨5, 0, nC⟩
def tagI : Tag := ⟨1, 5, ⟨#[]⟩⟩
def tagB : Tag := ⟨2, 1, ⟨#[]⟩⟩
def mA : Meth := met1 0 (clsT nA)
def mB : Meth := met1 1 (clsT nB)
def mO : Meth := met1 2 (clsT nObj)
def tyU : Ty := .mk 5 ⟨#[]⟩ 0 0 [clsT nA, clsT nInteger]
def mU : Meth := met1 3 tyU
theorem ex1z : checkAllE h3L [mA, mB, mO] [tagC] = 0 := chk_zero look3 (by kernel_rfl)
theorem ex2z : checkAllE h3L [mB, mU] [tagC] = 0 := chk_zero look3 (by kernel_rfl)
theorem ex3z : checkAllE h3L [mO, mU] [tagI] = 0 := chk_zero look3 (by kernel_rfl)
theorem ex4z : checkAllE h3L [mA] [tagB] = 0 := chk_zero look3 (by kernel_rfl)
theorem ex1 : orderR h3L [mA, mB, mO] [tagC] = ([0, 1, 2], false) := by rw [orderR_eq ex1z]; kernel_rfl
theorem ex2 : orderR h3L [mB, mU] [tagC] = ([], true) := by rw [orderR_eq ex2z]; kernel_rfl
theorem ex3 : orderR h3L [mO, mU] [tagI] = ([3, 2], false) := by rw [orderR_eq ex3z]; kernel_rfl
theorem ex4 : firstR h3L [mA] [tagB] = (0, 1) := by
  have : orderR h3L [mA] [tagB] = ([], false) := by rw [orderR_eq ex4z]; kernel_rfl
  unfold firstR; rw [this]; rfl
theorem ex5p : (orderC h3L [mB, mU] [tagC]).2 = [mB, mU] := by kernel_rfl
theorem ex5c : precB h3L [tagC] mB mU = false ∧ precB h3L [tagC] mU mB = false := ⟨by kernel_rfl, by kernel_rfl⟩
/-- The conflict of the example. -/
theorem ex5e {a b : Meth} (h : Clash (precB h3L [tagC]) (ordB h3L [tagC] [mB, mU]).2 a b) : min a.id b.id = 1 ∧ max a.id b.id = 3 := by
  rw [ordB_eq ex2z, ex5p] at h
  obtain ⟨i, k, hk, h1, h2, _, _⟩ := h
  match i, k with
  | 0, _ => omega
  | 1, 0 => cases h1; cases h2; exact ⟨rfl, rfl⟩
  | 1, _ + 1 => omega
  | _ + 2, _ => simp at h1
theorem ex5h : Clash (precB h3L [tagC]) (ordB h3L [tagC] [mB, mU]).2 mU mB := by
  rw [ordB_eq ex2z, ex5p]
  exact ⟨1, 0, by omega, rfl, rfl, ex5c.2, ex5c.1⟩
theorem tySmall_cls (n : ByteArray) : TySmall (clsT n) := ⟨rfl, by show (clsT n).count ≤ _; simp [clsT, Ty.count, Ty.counts]⟩
theorem tySmall_U : TySmall tyU := ⟨rfl, by show tyU.count ≤ _; simp [tyU, clsT, Ty.count, Ty.counts]⟩
/-- A row that is laid at once. -/
theorem Own.ofEnc {α : Type} {R : α → List Value → World → Prop} {sz n : Nat} {G : Nat → Prop} {L : List α} {xs : List Value} {w : World} (T : TypeId) (hn : n = w.heap.size) (he : Enc (fun x cs => Held G (R x cs) w) sz L xs) (hl : L.length ≤ 1000000) :
    Own R T sz n G (.slice (some ⟨n, 0, none⟩) L.length L.length) L (w.alloc (.cells xs.toArray T)) := by
  subst hn
  refine ⟨xs, ⟨he.length, .inr ⟨_, L.length, xs.toArray, rfl, Nat.le_refl _, heap_alloc_new w _, Nat.le_refl _, by simp only [maxLen]; omega, by simp [he.length], by simp [← he.length]⟩⟩, he.imp fun x cs hx => hx.keep (Keep.alloc _ _ _)⟩
theorem rowsE {α : Type} {R : α → List Value → World → Prop} {sz n : Nat} {G : Nat → Prop} {L : List α} {xs : List Value} {w : World} (T : TypeId) (hn : n = w.heap.size) (he : Enc (fun x cs => Held G (R x cs) w) sz L xs) (hl : L.length ≤ 1000000) : Held (fun b => b < n + 1) (Slc R sz (some ⟨n, 0, none⟩) L) (w.alloc (.cells xs.toArray T)) :=
  (Own.read (Own.ofEnc T hn he hl)).2.2.mono fun b hb _ => by subst hn; simpa using hb
theorem rows1 {α : Type} {R : α → List Value → World → Prop} {sz n : Nat} {G : Nat → Prop} {x : α} {cx : List Value} {w : World} (T : TypeId) (hn : n = w.heap.size) (hx : Held G (R x cx) w) (lx : cx.length = sz) : Held (fun b => b < n + 1) (Slc R sz (some ⟨n, 0, none⟩) [x]) (w.alloc (.cells cx.toArray T)) := by
  have := rowsE T hn (Enc.snoc Enc.nil hx lx) (by simp)
  simpa using this
theorem rows2 {α : Type} {R : α → List Value → World → Prop} {sz n : Nat} {G : Nat → Prop} {x y : α} {cx cy : List Value} {w : World} (T : TypeId) (hn : n = w.heap.size) (hx : Held G (R x cx) w) (hy : Held G (R y cy) w) (lx : cx.length = sz) (ly : cy.length = sz) : Held (fun b => b < n + 1) (Slc R sz (some ⟨n, 0, none⟩) [x, y]) (w.alloc (.cells (cx ++ cy).toArray T)) := by
  have := rowsE T hn (Enc.snoc (Enc.snoc Enc.nil hx lx) hy ly) (by simp)
  simpa using this
theorem rows3 {α : Type} {R : α → List Value → World → Prop} {sz n : Nat} {G : Nat → Prop} {x y z : α} {cx cy cz : List Value} {w : World} (T : TypeId) (hn : n = w.heap.size) (hx : Held G (R x cx) w) (hy : Held G (R y cy) w) (hz : Held G (R z cz) w) (lx : cx.length = sz) (ly : cy.length = sz) (lz : cz.length = sz) : Held (fun b => b < n + 1) (Slc R sz (some ⟨n, 0, none⟩) [x, y, z]) (w.alloc (.cells (cx ++ cy ++ cz).toArray T)) := by
  have := rowsE T hn (Enc.snoc (Enc.snoc (Enc.snoc Enc.nil hx lx) hy ly) hz lz) (by simp)
  simpa using this
theorem sane_o (ms : List Meth) (t : Tag) (l : List Int) (b : Bool) (hr : orderR h3L ms [t] = (l, b)) (A : Option Addr) (c : Nat) (AM : Option Addr) (cM : Nat) (AT : Option Addr) (cT : Nat) (W : World) (q : Asks A c h3L AM ms AT [t] W) :
    Calls Tryz.prog 26 #[.slice A h3L.length c, .slice AM ms.length cM, .slice AT [t].length cT] W fun e W' => ∃ A' c', e = .returned (.tuple #[.slice A' l.length c', .bool b]) ∧ Held (fun b => b < W'.heap.size) (Ints A' l) W' ∧ Below W.heap.size W W' := by
  have := order_calls A c h3L AM cM ms AT cT [t] W q
  rw [hr] at this
  refine this.mono ?_
  rintro e W' ⟨v, rfl, ho, hb⟩
  obtain ⟨A', c', rfl, _, h2⟩ := ho.out
  exact ⟨A', c', rfl, h2.mono fun b hb _ => hb, hb⟩
theorem sane_f (A : Option Addr) (c : Nat) (AM : Option Addr) (cM : Nat) (AT : Option Addr) (cT : Nat) (W : World) (q : Asks A c h3L AM [mA] AT [tagB] W) :
    Calls Tryz.prog 28 #[.slice A h3L.length c, .slice AM 1 cM, .slice AT 1 cT] W fun e W' => e = .returned (.tuple #[.int .i64 0, .int .i64 1]) ∧ Below W.heap.size W W' := by
  have := first_calls A c h3L AM cM [mA] AT cT [tagB] W q
  rw [ex4] at this
  exact this
theorem sane_c (A : Option Addr) (c : Nat) (AM : Option Addr) (cM : Nat) (AT : Option Addr) (cT : Nat) (W : World) (q : Asks A c h3L AM [mB, mU] AT [tagC] W) :
    Calls Tryz.prog 30 #[.slice A h3L.length c, .slice AM 2 cM, .slice AT 1 cT] W fun e W' => ∃ A' c', e = .returned (.tuple #[.slice A' 2 c', .int .i64 0]) ∧ Held (fun b => b < W'.heap.size) (Ints A' [1, 3]) W' ∧ Below W.heap.size W W' := by
  have := conflict_calls A c h3L AM cM [mB, mU] AT cT [tagC] W q
  refine this.mono ?_
  rintro e W' ⟨hb, (⟨h, _⟩ | ⟨_, (⟨h, _⟩ | ⟨a, b, v, h, rfl, ho⟩)⟩)⟩
  · exact absurd ex2z h
  · exact absurd ex5h (h _ _)
  · obtain ⟨h1, h2⟩ := ex5e h
    rw [h1, h2] at ho
    obtain ⟨A', c', rfl, _, h2⟩ := ho.out
    exact ⟨A', c', rfl, h2.mono fun b hb _ => hb, hb⟩
/-- What is asked, of the examples. -/
theorem sane_asks {A : Option Addr} {c : Nat} {AM : Option Addr} {ms : List Meth} {AT : Option Addr} {t : Tag} {W : World} (h : ∃ G, Held G (CIs A h3L) W) (hc : h3L.length ≤ c) (hM : ∃ G, Held G (Meths AM ms) W) (hs : ∀ m ∈ ms, ∀ p ∈ m.pars, TySmall p.type) (hn : ms.length ≤ 300) (hp : ∀ m ∈ ms, m.pars.length ≤ 1000000) (hT : ∃ G, Held G (Tags AT [t]) W) :
    Asks A c h3L AM ms AT [t] W := ⟨h, hc, ciOk_of small3, by have := look3.1; omega, hM, by omega, hs, hp, hT, by simp⟩
theorem small_ms {ms : List Meth} (h : ∀ m ∈ ms, m = mA ∨ m = mB ∨ m = mO ∨ m = mU) : (∀ m ∈ ms, ∀ p ∈ m.pars, TySmall p.type) ∧ ∀ m ∈ ms, m.pars.length ≤ 1000000 := by
  constructor
  · intro m hm p hp
    rcases h m hm with rfl | rfl | rfl | rfl
    · have : p = ⟨nX, clsT nA⟩ := by simpa [mA, met1] using hp
      subst this; exact tySmall_cls _
    · have : p = ⟨nX, clsT nB⟩ := by simpa [mB, met1] using hp
      subst this; exact tySmall_cls _
    · have : p = ⟨nX, clsT nObj⟩ := by simpa [mO, met1] using hp
      subst this; exact tySmall_cls _
    · have : p = ⟨nX, tyU⟩ := by simpa [mU, met1] using hp
      subst this; exact tySmall_U
  · intro m hm
    rcases h m hm with rfl | rfl | rfl | rfl <;> simp [mA, mB, mO, mU, met1]
theorem sameInts_true (A B : Option Addr) (c d : Nat) (l : List Int) (w : World) (GA GB : Nat → Prop) (hA : Held GA (Ints A l) w) (hB : Held GB (Ints B l) w) (hl : l.length ≤ 1000000) :
    Calls Tryz.prog 14 #[.slice A l.length c, .slice B l.length d] w fun e w' => e = .returned (.bool true) ∧ Below w.heap.size w w' :=
  (sameInts_calls A B c d l l w GA GB hA hB hl hl).mono fun e w' ⟨h1, h2⟩ => ⟨by rw [h1, decide_eq_true rfl], h2.below _⟩
theorem ints2 {W : World} {a b : Int} (T : TypeId) : Held (fun x => x < W.heap.size + 1) (Ints (some ⟨W.heap.size, 0, none⟩) [a, b]) (W.alloc (.cells #[.int .i64 a, .int .i64 b] T)) :=
  rows2 (R := intR) (G := fun _ => True) (cx := [.int .i64 a]) (cy := [.int .i64 b]) T rfl (fun _ _ => rfl) (fun _ _ => rfl) rfl rfl
theorem ints3 {W : World} {a b d : Int} (T : TypeId) : Held (fun x => x < W.heap.size + 1) (Ints (some ⟨W.heap.size, 0, none⟩) [a, b, d]) (W.alloc (.cells #[.int .i64 a, .int .i64 b, .int .i64 d] T)) :=
  rows3 (R := intR) (G := fun _ => True) (cx := [.int .i64 a]) (cy := [.int .i64 b]) (cz := [.int .i64 d]) T rfl (fun _ _ => rfl) (fun _ _ => rfl) (fun _ _ => rfl) rfl rfl rfl
end Go.Proofs.YtepnmejahbiacaaGreat
set_option linter.unusedVariables false
set_option linter.unusedSimpArgs false
namespace Go.Proofs.YtepnmejahbiacaaGreat
open Go.RowKit
/-- A method as an argument: its cells are there. -/
structure MetIn (W : World) (m : Meth) (A1 A2 : Option Addr) (c1 c2 : Nat) : Prop where
  h1 : m.pars.length ≤ c1
  h2 : ∃ G, Held G (Pars A1 m.pars) W
  h3 : m.result.args.length ≤ c2
  h4 : ∃ G, Held G (Typs A2 m.result.args) W
  hs : ∀ p ∈ m.pars, TySmall p.type
  hp : m.pars.length ≤ 1000000
theorem MetIn.keep {W V : World} {m : Meth} {A1 A2 : Option Addr} {c1 c2 : Nat} (h : MetIn W m A1 A2 c1 c2) (b : Below W.heap.size W V) : MetIn V m A1 A2 c1 c2 :=
  ⟨h.h1, h.h2.imp fun _ h => h.keep (Keep.all b), h.h3, h.h4.imp fun _ h => h.keep (Keep.all b), h.hs, h.hp⟩
theorem MetIn.held {W : World} {m : Meth} {A1 A2 : Option Addr} {c1 c2 : Nat} (h : MetIn W m A1 A2 c1 c2) : Held (fun b => b < W.heap.size) (metR m [.int .i64 m.id, .string m.lib, .slice A1 m.pars.length c1, .int .i64 m.result.kind, .string m.result.name, .int .i64 m.result.lo, .int .i64 m.result.hi, .slice A2 m.result.args.length c2]) W := by
  obtain ⟨G1, g1⟩ := h.h2
  obtain ⟨G2, g2⟩ := h.h4
  exact metR.mk h.h1 g1.here h.h3 g2.here
end Go.Proofs.YtepnmejahbiacaaGreat
set_option linter.unusedVariables false
set_option linter.unusedSimpArgs false
namespace Go.Proofs.YtepnmejahbiacaaGreat
open Go.RowKit
open Classical in
/-- Within. -/
noncomputable def withinR (l : List CI) (s t : Ty) : Bool := decide (LookOk l) && decide (validErr l s = 0) && decide (validErr l t = 0) && withinB l s t
theorem withinR_ok {l : List CI} {s t : Ty} (h : LookOk l) (hs : validErr l s = 0) (ht : validErr l t = 0) : withinR l s t = withinB l s t := by
  unfold withinR; simp [h, hs, ht]
end Go.Proofs.YtepnmejahbiacaaGreat
set_option linter.unusedVariables false
set_option linter.unusedSimpArgs false
namespace Go.Proofs.YtepnmejahbiacaaGreat
open Go.RowKit
/-- A type as an argument: its cells are there. -/
structure TyIn (W : World) (t : Ty) (A : Option Addr) (c : Nat) : Prop where
  h1 : t.args.length ≤ c
  h2 : ∃ G, Held G (Typs A t.args) W
  hs : TySmall t
theorem TyIn.keep {W V : World} {t : Ty} {A : Option Addr} {c : Nat} (h : TyIn W t A c) (b : Below W.heap.size W V) : TyIn V t A c := ⟨h.h1, h.h2.imp fun _ h => h.keep (Keep.all b), h.hs⟩
/-- A hierarchy as an argument. -/
structure HiIn (W : World) (AH : Option Addr) (cH : Nat) (l : List CI) : Prop where
  h : ∃ G, Held G (CIs AH l) W
  hcH : l.length ≤ cH
  ol : ∀ x ∈ l, ciOk x
  hl : l.length ≤ 1000000
theorem HiIn.keep {W V : World} {AH : Option Addr} {cH : Nat} {l : List CI} (h : HiIn W AH cH l) (b : Below W.heap.size W V) : HiIn V AH cH l := ⟨h.h.imp fun _ h => h.keep (Keep.all b), h.hcH, h.ol, h.hl⟩
theorem Asks.hi {AH : Option Addr} {cH : Nat} {l : List CI} {A : Option Addr} {ms : List Meth} {AT : Option Addr} {ts : List Tag} {W : World} (q : Asks AH cH l A ms AT ts W) : HiIn W AH cH l := ⟨q.h, q.hcH, q.ol, q.hl⟩
end Go.Proofs.YtepnmejahbiacaaGreat
set_option linter.unusedVariables false
set_option linter.unusedSimpArgs false
namespace Go.Proofs.YtepnmejahbiacaaGreat
open Go.RowKit
set_option maxHeartbeats 16000000 in
set_option maxRecDepth 100000 in
theorem withinF_calls (AH : Option Addr) (cH : Nat) (l : List CI) (s t : Ty) (As At : Option Addr) (cs ct : Nat) (W : World) (hi : HiIn W AH cH l) (hs : TyIn W s As cs) (ht : TyIn W t At ct) :
    Calls Tryz.prog 16 #[.slice AH l.length cH, tyV s As cs, tyV t At ct] W fun e W' => e = .returned (.bool (withinR l s t)) ∧ Below W.heap.size W W' := by
  obtain ⟨Wa, hWa⟩ : ∃ Wa, Wa = W.alloc (.cells #[.int .i64 s.kind, .string s.name, .int .i64 s.lo, .int .i64 s.hi, .slice As s.args.length cs] 36) := ⟨_, rfl⟩
  obtain ⟨W1, hW1⟩ : ∃ W1, W1 = Wa.alloc (.cells #[.int .i64 t.kind, .string t.name, .int .i64 t.lo, .int .i64 t.hi, .slice At t.args.length ct] 36) := ⟨_, rfl⟩
  have za : Wa.heap.size = W.heap.size + 1 := by rw [hWa]; simp
  have b0 : Below W.heap.size W Wa := by rw [hWa]; exact (Below.refl _ W).alloc (Nat.le_refl _) _
  have ba : Below Wa.heap.size Wa W1 := by rw [hW1]; exact (Below.refl _ Wa).alloc (Nat.le_refl _) _
  have b1 : Below W.heap.size W W1 := below_step b0 ba
  have xs : ∀ j u, [Value.int .i64 s.kind, .string s.name, .int .i64 s.lo, .int .i64 s.hi, .slice As s.args.length cs][j]? = some u → W1.cell? ⟨W.heap.size, j, none⟩ = some u := fun j u hj => cell_all (by rw [hWa]; exact cell_new W _ _ _ rfl j u hj) ba
  have xt : ∀ j u, [Value.int .i64 t.kind, .string t.name, .int .i64 t.lo, .int .i64 t.hi, .slice At t.args.length ct][j]? = some u → W1.cell? ⟨W.heap.size + 1, j, none⟩ = some u := fun j u hj => by rw [hW1]; exact cell_new Wa _ _ _ za.symm j u hj
  have XS := Lib.hid xs
  have XT := Lib.hid xt
  have HI := Lib.hid hi
  have HS := Lib.hid hs
  have HT := Lib.hid ht
  have HVA : Hid (∀ V x A c, Below W.heap.size W V → TyIn W x A c → Calls Tryz.prog 25 #[.slice AH l.length cH, tyV x A c] V fun e V' => ∃ z, e = .returned (.int .i64 z) ∧ Below V.heap.size V V' ∧ (z = 0 ↔ LookOk l ∧ validErr l x = 0)) := Lib.hid (fun V x A c hv hx => by
    obtain ⟨G, h⟩ := (HI.out.keep hv).h
    obtain ⟨G2, h2⟩ := (hx.keep hv).h2
    refine (Valid_calls AH cH l x A c V HI.out.hcH G h HI.out.ol HI.out.hl G2 h2 hx.h1 hx.hs).mono ?_
    rintro e V' ⟨q, (⟨q1, rfl⟩ | ⟨q1, rfl⟩)⟩
    · exact ⟨_, rfl, q, fun e => absurd e (by decide), fun e => (q1 e.1).elim⟩
    · exact ⟨_, rfl, q, fun e => ⟨q1, e⟩, fun e => e.2⟩)
  have HWI : Hid (∀ V, Below W.heap.size W V → Calls Tryz.prog 51 #[.slice AH l.length cH, tyV s As cs, tyV t At ct] V fun e V' => e = .returned (.bool (withinB l s t)) ∧ Below V.heap.size V V') := Lib.hid (fun V hv => by
    obtain ⟨G, h⟩ := (HI.out.keep hv).h
    obtain ⟨G1, h1⟩ := (HS.out.keep hv).h2
    obtain ⟨G2, h2⟩ := (HT.out.keep hv).h2
    exact within_calls AH cH l s t As At cs ct V G h HI.out.hl HI.out.ol G1 G2 h1 h2 HS.out.hs.1 HT.out.hs.1)
  have HR : Hid (withinR l s t = true ↔ LookOk l ∧ validErr l s = 0 ∧ validErr l t = 0 ∧ withinB l s t = true) := Lib.hid (by unfold withinR; simp [and_assoc])
  have HF : Hid (∀ (P : Prop), (withinR l s t = true → P) → ¬ P → withinR l s t = false) := Lib.hid (fun P h1 h2 => by
    cases h : withinR l s t with
    | false => rfl
    | true => exact (h2 (h1 h)).elim)
  clear xs xt hi hs ht b0 ba za
  subst hW1 hWa
  have s0 := XS.out 0 _ rfl
  have s1 := XS.out 1 _ rfl
  have s2 := XS.out 2 _ rfl
  have s3 := XS.out 3 _ rfl
  have s4 := XS.out 4 _ rfl
  go_enter Tryz.func16, Tryz.ntmps16
  go_wp2_with (fail)
  refine (HVA.out _ s As cs b1 HS.out).mono ?_
  rintro e V ⟨z, rfl, hbv, hz⟩
  have q1 := below_step b1 hbv
  clear s0 s1 s2 s3 s4
  by_cases hz0 : z = 0
  rotate_left
  · have HE : Hid (withinR l s t = false) := Lib.hid (HF.out _ (fun h => ⟨(HR.out.1 h).1, (HR.out.1 h).2.1⟩) (fun h => hz0 (hz.2 h)))
    have t1 : (z == 0) = false := beq_eq_false_iff_ne.2 hz0
    clear hz hz0
    go_wp2
    go_ret
    exact ⟨(by rw [HE.out]; try rfl), q1⟩
  have H1 := Lib.hid (hz.1 hz0)
  subst hz0
  clear hz
  have t0 := cell_all (XT.out 0 _ rfl) hbv
  have t1 := cell_all (XT.out 1 _ rfl) hbv
  have t2 := cell_all (XT.out 2 _ rfl) hbv
  have t3 := cell_all (XT.out 3 _ rfl) hbv
  have t4 := cell_all (XT.out 4 _ rfl) hbv
  go_wp2_with (fail)
  refine (HVA.out V t At ct q1 HT.out).mono ?_
  clear HVA
  rintro e V2 ⟨z, rfl, hb2, hz⟩
  have q2 := below_step q1 hb2
  have hv2 := below_step hbv hb2
  clear t0 t1 t2 t3 t4
  by_cases hz0 : z = 0
  rotate_left
  · have HE : Hid (withinR l s t = false) := Lib.hid (HF.out _ (fun h => ⟨(HR.out.1 h).1, (HR.out.1 h).2.2.1⟩) (fun h => hz0 (hz.2 h)))
    have t1 : (z == 0) = false := beq_eq_false_iff_ne.2 hz0
    clear hz hz0
    go_wp2
    go_ret
    exact ⟨(by rw [HE.out]; try rfl), q2⟩
  have H2 := Lib.hid (hz.1 hz0)
  subst hz0
  clear hz
  have HE : Hid (withinR l s t = withinB l s t) := Lib.hid (withinR_ok H1.out.1 H1.out.2 H2.out.2)
  have s0 := cell_all (XS.out 0 _ rfl) hv2
  have s1 := cell_all (XS.out 1 _ rfl) hv2
  have s2 := cell_all (XS.out 2 _ rfl) hv2
  have s3 := cell_all (XS.out 3 _ rfl) hv2
  have s4 := cell_all (XS.out 4 _ rfl) hv2
  have t0 := cell_all (XT.out 0 _ rfl) hv2
  have t1 := cell_all (XT.out 1 _ rfl) hv2
  have t2 := cell_all (XT.out 2 _ rfl) hv2
  have t3 := cell_all (XT.out 3 _ rfl) hv2
  have t4 := cell_all (XT.out 4 _ rfl) hv2
  have HW2 := Lib.hid (HWI.out V2 q2)
  clear HWI HI HS HT HR HF H1 H2
  generalize withinB l s t = wb at HW2 HE
  go_wp2_with (fail)
  refine HW2.out.mono ?_
  clear HW2
  rintro e V3 ⟨rfl, hb3⟩
  have q3 := below_step q2 hb3
  go_wp2
  go_ret
  exact ⟨(by rw [HE.out]; try rfl), q3⟩
end Go.Proofs.YtepnmejahbiacaaGreat
