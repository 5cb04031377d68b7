/- methods.open, Order, First. -/
import Derived.Test.YtepnmejahbiacaaCk
import Derived.Test.YtepnmejahbiacaaOo
import Derived.Test.YtepnmejahbiacaaPs
set_option linter.unusedVariables false
set_option linter.unusedSimpArgs false
namespace Go.Proofs.Ytepnmejahbiacaa
open Go.RowKit

theorem cplAt_short {l : List CI} (h : LookOk l) (t : Tag) : (cplAt l t).length ≤ 1000000 := by
  unfold cplAt
  cases hf : l.find? (fun x => decide (x.name = classOfB t)) with
  | none => simp
  | some x =>
    obtain ⟨j, hj⟩ := List.mem_iff_getElem?.1 (List.mem_of_find?_eq_some hf)
    have h1 := line_length (c3Check_zero h.2.2.2.2.1).2 (h.2.2.2.2.2 j x hj)
    rw [heirsOf_len] at h1
    have := h.1
    show x.cpl.length ≤ _
    omega

/-- What the functions that open a call ask of their arguments' cells. -/
structure Asks (AH : Option Addr) (cH : Nat) (l : List CI) (A : Option Addr) (ms : List Meth) (AT : Option Addr) (ts : List Tag) (W : World) : Prop where
  h : ∃ G, Held G (CIs AH l) W
  hcH : l.length ≤ cH
  ol : ∀ x ∈ l, ciOk x
  hl : l.length ≤ 1000000
  hM : ∃ G, Held G (Meths A ms) W
  hn : ms.length ≤ 1000000
  hs : ∀ m ∈ ms, ∀ p ∈ m.pars, TySmall p.type
  hp : ∀ m ∈ ms, m.pars.length ≤ 1000000
  hT : ∃ G, Held G (Tags AT ts) W
  hts : ts.length ≤ 1000000
theorem Asks.keep {AH : Option Addr} {cH : Nat} {l : List CI} {A : Option Addr} {ms : List Meth} {AT : Option Addr} {ts : List Tag} {W V : World} (q : Asks AH cH l A ms AT ts W) (b : Below W.heap.size W V) : Asks AH cH l A ms AT ts V :=
  ⟨q.h.imp fun _ h => h.keep (Keep.all b), q.hcH, q.ol, q.hl, q.hM.imp fun _ h => h.keep (Keep.all b), q.hn, q.hs, q.hp, q.hT.imp fun _ h => h.keep (Keep.all b), q.hts⟩

set_option maxHeartbeats 16000000 in
set_option maxRecDepth 100000 in
theorem open_calls (AH : Option Addr) (cH : Nat) (l : List CI) (A : Option Addr) (c : Nat) (ms : List Meth) (AT : Option Addr) (cT : Nat) (ts : List Tag) (W : World) (q : Asks AH cH l A ms AT ts W) :
    Calls Try.prog 36 #[.slice AH l.length cH, .slice A ms.length c, .slice AT ts.length cT] W fun e W' => Below W.heap.size W W' ∧
      ((checkAllE l ms ts ≠ 0 ∧ e = .returned (.tuple #[.pointer none, .int .i64 (checkAllE l ms ts)])) ∨ (checkAllE l ms ts = 0 ∧ ∃ cp A2 c2, e = .returned (.tuple #[.pointer (some ⟨cp, 0, none⟩), .int .i64 0]) ∧ W.heap.size ≤ cp ∧ OpenAt cp AH cH l AT cT ts A2 c2 W')) := by
  obtain ⟨GH, h⟩ := q.h
  obtain ⟨GM, hM⟩ := q.hM
  obtain ⟨GT, hT⟩ := q.hT
  have HC := Lib.hid (checkAll_calls AH cH l A c ms AT cT ts W GH h q.hcH q.ol q.hl GM hM q.hn q.hs q.hp GT hT q.hts)
  have HOP : Hid (∀ V, Below W.heap.size W V → checkAllE l ms ts = 0 → Calls Try.prog 46 #[.slice AH l.length cH, .slice AT ts.length cT] V fun e W' => ∃ cp A2 c2, e = .returned (.pointer (some ⟨cp, 0, none⟩)) ∧ Below V.heap.size V W' ∧ V.heap.size ≤ cp ∧ OpenAt cp AH cH l AT cT ts A2 c2 W') :=
    Lib.hid (fun V hv he => by
      obtain ⟨z1, z2, z3, z4, z5, z6⟩ := checkAllE_zero he
      refine (opened_calls AH cH l AT cT ts V GH (h.keep (Keep.all hv)) q.hcH q.ol q.hl GT (hT.keep (Keep.all hv)) q.hts z1 z6).mono ?_
      rintro e w' ⟨cp, A2, c2, rfl, q1, q2, q3, q4, q5, q6⟩
      exact ⟨cp, A2, c2, rfl, q1, q2, q3, q4, q5, q6⟩)
  clear h hM hT q
  go_enter Try.func36, Try.ntmps36
  by_cases hz : checkAllE l ms ts = 0
  · have HZ := Lib.hid hz
    rw [hz] at HC
    clear hz
    go_wp2_with (fail)
    refine HC.out.mono ?_
    clear HC
    rintro e V ⟨rfl, hbv⟩
    go_wp2_with (fail)
    refine (HOP.out V hbv HZ.out).mono ?_
    clear HOP
    rintro e V2 ⟨cp, A2, c2, rfl, hb2, hcp, ho⟩
    have HO := Lib.hid ho
    clear ho
    go_wp2
    go_ret2
    exact ⟨hbv.trans (hb2.mono hbv.size), .inr ⟨HZ.out, cp, A2, c2, rfl, Nat.le_trans hbv.size hcp, HO.out⟩⟩
  · have HZ := Lib.hid hz
    have t1 : (checkAllE l ms ts != 0) = true := by rw [bne_iff_ne]; exact hz
    clear hz
    generalize checkAllE l ms ts = ce at HC t1 HZ HOP ⊢
    go_wp2_with (fail)
    refine HC.out.mono ?_
    clear HC
    rintro e V ⟨rfl, hbv⟩
    go_wp2
    go_ret2
    exact ⟨hbv, .inl ⟨HZ.out, rfl⟩⟩

/-- What Order returns. -/
noncomputable def orderR (l : List CI) (ms : List Meth) (ts : List Tag) : List Int × Bool := if checkAllE l ms ts = 0 then ((ordB l ts ms).1.map (·.id), decide (0 < (ordB l ts ms).2.length)) else ([], false)

theorem ord_lens (l : List CI) (ts : List Tag) (ms : List Meth) : (ordB l ts ms).1.length ≤ ms.length ∧ (ordB l ts ms).2.length ≤ ms.length := by
  have h1 := (orderG_perm (P := precB l ts) (ms.filter (appB l ts)).length (ms.filter (appB l ts))).length_eq
  rw [List.length_append] at h1
  have h2 := List.length_filter_le (appB l ts) ms
  unfold ordB
  omega

set_option maxHeartbeats 16000000 in
set_option maxRecDepth 100000 in
theorem order_calls (AH : Option Addr) (cH : Nat) (l : List CI) (A : Option Addr) (c : Nat) (ms : List Meth) (AT : Option Addr) (cT : Nat) (ts : List Tag) (W : World) (q : Asks AH cH l A ms AT ts W) :
    Calls Try.prog 16 #[.slice AH l.length cH, .slice A ms.length c, .slice AT ts.length cT] W fun e W' => ∃ v, e = .returned (.tuple #[v, .bool (orderR l ms ts).2]) ∧ Own intR 3 1 W.heap.size (fun _ => False) v (orderR l ms ts).1 W' ∧ Below W.heap.size W W' := by
  have HC := Lib.hid (open_calls AH cH l A c ms AT cT ts W q)
  obtain ⟨GH, h⟩ := q.h
  obtain ⟨GM, hM⟩ := q.hM
  obtain ⟨GT, hT⟩ := q.hT
  have HOR : Hid (∀ V cp A2 c2, Below W.heap.size W V → checkAllE l ms ts = 0 → OpenAt cp AH cH l AT cT ts A2 c2 V → Calls Try.prog 37 #[.pointer (some ⟨cp, 0, none⟩), .slice A ms.length c] V fun e W' => ∃ v1 v2, e = .returned (.tuple #[v1, v2]) ∧ Own metR 39 8 V.heap.size (fun b => b < V.heap.size) v1 (ordB l ts ms).1 W' ∧
      Own metR 39 8 V.heap.size (fun b => b < V.heap.size) v2 (ordB l ts ms).2 W' ∧ Below V.heap.size V W') :=
    Lib.hid (fun V cp A2 c2 hv he ho => by
      obtain ⟨z1, z2, z3, z4, z5, z6⟩ := checkAllE_zero he
      exact ordered_calls cp AH cH l AT cT ts A2 c2 V ho GH (h.keep (Keep.all hv)) q.hcH q.hl q.ol (fun t _ => cplAt_short z1 t) q.hts GT (hT.keep (Keep.all hv)) A c ms GM (hM.keep (Keep.all hv)) q.hn z5 q.hs)
  have hn := q.hn
  have HL := Lib.hid (ord_lens l ts ms)
  clear h hM hT q
  go_enter Try.func16, Try.ntmps16
  go_wp2_with (fail)
  refine HC.out.mono ?_
  clear HC
  rintro e V ⟨hbv, (⟨hz, rfl⟩ | ⟨hz, cp, A2, c2, rfl, hcp, ho⟩)⟩
  · have t1 : (checkAllE l ms ts != 0) = true := by rw [bne_iff_ne]; exact hz
    have HR : Hid (orderR l ms ts = ([], false)) := Lib.hid (by unfold orderR; rw [if_neg hz])
    clear hz HOR
    generalize checkAllE l ms ts = ce at t1
    go_wp2
    go_ret2
    exact ⟨_, by rw [HR.out]; rfl, by rw [HR.out]; exact Own.nil _ _ _ _ _ _, hbv⟩
  · have HO2 := Lib.hid (HOR.out V cp A2 c2 hbv hz ho)
    have HR : Hid (orderR l ms ts = ((ordB l ts ms).1.map (·.id), decide (0 < (ordB l ts ms).2.length))) := Lib.hid (by unfold orderR; rw [if_pos hz])
    clear ho HOR hz
    go_wp2_with (fail)
    refine HO2.out.mono ?_
    clear HO2
    rintro e V2 ⟨v1, v2, rfl, h1, h2, hb2⟩
    obtain ⟨A5, c5, rfl, hc5, h1'⟩ := h1.out
    obtain ⟨A6, c6, rfl, hc6, _⟩ := h2.out
    have HI := Lib.hid (ids_calls A5 c5 (ordB l ts ms).1 _ V2 h1' (by have := HL.out.1; omega))
    have bV2 := hbv.trans (hb2.mono hbv.size)
    clear h1 h2 h1'
    generalize (ordB l ts ms).1 = o1 at HI HR ⊢
    generalize (ordB l ts ms).2 = o2 at HR ⊢
    go_wp2_with (fail)
    refine HI.out.mono ?_
    clear HI
    rintro e V3 ⟨v, rfl, hv, hb3⟩
    have HV := Lib.hid (hv.lower bV2.size)
    clear hv
    go_wp2
    go_ret2
    refine ⟨v, by rw [HR.out]; simp, by rw [HR.out]; exact HV.out, bV2.trans (hb3.mono bV2.size)⟩
end Go.Proofs.Ytepnmejahbiacaa
