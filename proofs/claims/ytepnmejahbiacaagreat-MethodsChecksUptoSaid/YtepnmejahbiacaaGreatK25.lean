/- Part 25 of the proof: On, He, Cf. -/
import Derived.Test.YtepnmejahbiacaaGreatK22
import Derived.Test.YtepnmejahbiacaaGreatK19
import Derived.Test.YtepnmejahbiacaaGreatK05
import Derived.Test.YtepnmejahbiacaaGreatK06
import Derived.Test.YtepnmejahbiacaaGreatK07
import Derived.Test.YtepnmejahbiacaaGreatK12
import Derived.Test.YtepnmejahbiacaaGreatK13
import Derived.Test.YtepnmejahbiacaaGreatK14
import Derived.Test.YtepnmejahbiacaaGreatK15
import Derived.Test.YtepnmejahbiacaaGreatK18
import Derived.Test.YtepnmejahbiacaaGreatK24
import Derived.Test.YtepnmejahbiacaaGreatK21
import Derived.Test.YtepnmejahbiacaaGreatK17
import Derived.Test.YtepnmejahbiacaaGreatK04
import Derived.Test.YtepnmejahbiacaaGreatK10
import Derived.Test.YtepnmejahbiacaaGreatK11
import Derived.Test.YtepnmejahbiacaaGreatK09
import Derived.Test.YtepnmejahbiacaaGreatK03
import Derived.Test.YtepnmejahbiacaaGreatK16
import Derived.Test.YtepnmejahbiacaaGreatK02
import Derived.Test.YtepnmejahbiacaaGreatK01
import Derived.Test.YtepnmejahbiacaaGreatK20
import Derived.BigQuiet
import Derived.Carry
import Derived.Deep.AppendLies
import Derived.Deep.Draws
import Derived.Deep.LoopGhost
import Derived.Deep.QuietTactic
import Derived.Deep.RegionHeld3
import Derived.Deep.RegionLaw
import Derived.Deep.RegionWith
import Derived.KernelRfl
import Derived.Laws.EntriesVeiled
import Derived.Lib.Hide
import Derived.LoopIn
import Derived.LoopNIn
import Derived.Maps.AppendAt
import Derived.Maps.Own
import Derived.Maps.OwnIn
import Derived.Outline
import Derived.OwnWalkIn
import Derived.RangeFuncBound
import Derived.RangeFuncCalls
import Derived.RangeFuncLeaves
import Derived.RangeFuncNested
import Derived.Recover
import Derived.StillTailTactics
import Derived.Stop.RegionWithIn
import Derived.TacticsInMore
import Derived.Test.YtepnmejahbiacaaGreatProg
import Derived.WalkKit
import Derived.WalkSpells
import Derived.Test.YtepnmejahbiacaaGreatK08
import Derived.Test.YtepnmejahbiacaaGreatK23
import Derived.Lib.SliceRun
set_option linter.unusedVariables false
set_option linter.unusedSimpArgs false
namespace Go.Proofs.YtepnmejahbiacaaGreat
open Go.RowKit
theorem cplAt_short {l : List CI} (h : LookOk l) (t : Tag) : (cplAt l t).length ≤ 1000000 := by
  unfold cplAt
  cases hf : l.find? (fun x => decide (x.name = classOfB t)) with
  | none => simp
  | some x =>
    obtain ⟨j, hj⟩ := List.mem_iff_getElem?.1 (List.mem_of_find?_eq_some hf)
    have h1 := line_length (c3Check_zero h.2.2.2.2.1).2 (h.2.2.2.2.2 j x hj)
    rw [heirsOf_len] at h1
    have := h.1
    show x.cpl.length ≤ _
    omega
/-- What the functions that open a call ask of their arguments' cells. -/
structure Asks (AH : Option Addr) (cH : Nat) (l : List CI) (A : Option Addr) (ms : List Meth) (AT : Option Addr) (ts : List Tag) (W : World) : Prop where
  h : ∃ G, Held G (CIs AH l) W
  hcH : l.length ≤ cH
  ol : ∀ x ∈ l, ciOk x
  hl : l.length ≤ 1000000
  hM : ∃ G, Held G (Meths A ms) W
  hn : ms.length ≤ 1000000
  hs : ∀ m ∈ ms, ∀ p ∈ m.pars, TySmall p.type
  hp : ∀ m ∈ ms, m.pars.length ≤ 1000000
  hT : ∃ G, Held G (Tags AT ts) W
  hts : ts.length ≤ 1000000
theorem Asks.keep {AH : Option Addr} {cH : Nat} {l : List CI} {A : Option Addr} {ms : List Meth} {AT : Option Addr} {ts : List Tag} {W V : World} (q : Asks AH cH l A ms AT ts W) (b : Below W.heap.size W V) : Asks AH cH l A ms AT ts V :=
  ⟨q.h.imp fun _ h => h.keep (Keep.all b), q.hcH, q.ol, q.hl, q.hM.imp fun _ h => h.keep (Keep.all b), q.hn, q.hs, q.hp, q.hT.imp fun _ h => h.keep (Keep.all b), q.hts⟩
set_option maxHeartbeats 16000000 in
set_option maxRecDepth 100000 in
theorem open_calls (AH : Option Addr) (cH : Nat) (l : List CI) (A : Option Addr) (c : Nat) (ms : List Meth) (AT : Option Addr) (cT : Nat) (ts : List Tag) (W : World) (q : Asks AH cH l A ms AT ts W) :
    Calls Tryz.prog 39 #[.slice AH l.length cH, .slice A ms.length c, .slice AT ts.length cT] W fun e W' => Below W.heap.size W W' ∧
      ((checkAllE l ms ts ≠ 0 ∧ e = .returned (.tuple #[.pointer none, .int .i64 (checkAllE l ms ts)])) ∨ (checkAllE l ms ts = 0 ∧ ∃ cp A2 c2, e = .returned (.tuple #[.pointer (some ⟨cp, 0, none⟩), .int .i64 0]) ∧ W.heap.size ≤ cp ∧ OpenAt cp AH cH l AT cT ts A2 c2 W')) := by
  obtain ⟨GH, h⟩ := q.h
  obtain ⟨GM, hM⟩ := q.hM
  obtain ⟨GT, hT⟩ := q.hT
  have HC := Lib.hid (checkAll_calls AH cH l A c ms AT cT ts W GH h q.hcH q.ol q.hl GM hM q.hn q.hs q.hp GT hT q.hts)
  have HOP : Hid (∀ V, Below W.heap.size W V → checkAllE l ms ts = 0 → Calls Tryz.prog 54 #[.slice AH l.length cH, .slice AT ts.length cT] V fun e W' => ∃ cp A2 c2, e = .returned (.pointer (some ⟨cp, 0, none⟩)) ∧ Below V.heap.size V W' ∧ V.heap.size ≤ cp ∧ OpenAt cp AH cH l AT cT ts A2 c2 W') :=
    Lib.hid (fun V hv he => by
      obtain ⟨z1, z2, z3, z4, z5, z6⟩ := checkAllE_zero he
      refine (opened_calls AH cH l AT cT ts V GH (h.keep (Keep.all hv)) q.hcH q.ol q.hl GT (hT.keep (Keep.all hv)) q.hts z1 z6).mono ?_
      rintro e w' ⟨cp, A2, c2, rfl, q1, q2, q3, q4, q5, q6⟩
      exact ⟨cp, A2, c2, rfl, q1, q2, q3, q4, q5, q6⟩)
  clear h hM hT q
  go_enter Tryz.func39, Tryz.ntmps39
  by_cases hz : checkAllE l ms ts = 0
  · have HZ := Lib.hid hz
    rw [hz] at HC
    clear hz
    go_wp2_with (fail)
    refine HC.out.mono ?_
    clear HC
    rintro e V ⟨rfl, hbv⟩
    go_wp2_with (fail)
    refine (HOP.out V hbv HZ.out).mono ?_
    clear HOP
    rintro e V2 ⟨cp, A2, c2, rfl, hb2, hcp, ho⟩
    have HO := Lib.hid ho
    clear ho
    go_wp2
    go_ret2
    exact ⟨hbv.trans (hb2.mono hbv.size), .inr ⟨HZ.out, cp, A2, c2, rfl, Nat.le_trans hbv.size hcp, HO.out⟩⟩
  · have HZ := Lib.hid hz
    have t1 : (checkAllE l ms ts != 0) = true := by rw [bne_iff_ne]; exact hz
    clear hz
    generalize checkAllE l ms ts = ce at HC t1 HZ HOP ⊢
    go_wp2_with (fail)
    refine HC.out.mono ?_
    clear HC
    rintro e V ⟨rfl, hbv⟩
    go_wp2
    go_ret2
    exact ⟨hbv, .inl ⟨HZ.out, rfl⟩⟩
/-- What Order returns. -/
noncomputable def orderR (l : List CI) (ms : List Meth) (ts : List Tag) : List Int × Bool := if checkAllE l ms ts = 0 then ((ordB l ts ms).1.map (·.id), decide (0 < (ordB l ts ms).2.length)) else ([], false)
theorem ord_lens (l : List CI) (ts : List Tag) (ms : List Meth) : (ordB l ts ms).1.length ≤ ms.length ∧ (ordB l ts ms).2.length ≤ ms.length := by
  have h1 := (orderG_perm (P := precB l ts) (ms.filter (appB l ts)).length (ms.filter (appB l ts))).length_eq
  rw [List.length_append] at h1
  have h2 := List.length_filter_le (appB l ts) ms
  unfold ordB
  omega
set_option maxHeartbeats 16000000 in
set_option maxRecDepth 100000 in
theorem order_calls (AH : Option Addr) (cH : Nat) (l : List CI) (A : Option Addr) (c : Nat) (ms : List Meth) (AT : Option Addr) (cT : Nat) (ts : List Tag) (W : World) (q : Asks AH cH l A ms AT ts W) :
    Calls Tryz.prog 26 #[.slice AH l.length cH, .slice A ms.length c, .slice AT ts.length cT] W fun e W' => ∃ v, e = .returned (.tuple #[v, .bool (orderR l ms ts).2]) ∧ Own intR 3 1 W.heap.size (fun _ => False) v (orderR l ms ts).1 W' ∧ Below W.heap.size W W' := by
  have HC := Lib.hid (open_calls AH cH l A c ms AT cT ts W q)
  obtain ⟨GH, h⟩ := q.h
  obtain ⟨GM, hM⟩ := q.hM
  obtain ⟨GT, hT⟩ := q.hT
  have HOR : Hid (∀ V cp A2 c2, Below W.heap.size W V → checkAllE l ms ts = 0 → OpenAt cp AH cH l AT cT ts A2 c2 V → Calls Tryz.prog 61 #[.pointer (some ⟨cp, 0, none⟩), .slice A ms.length c] V fun e W' => ∃ v1 v2, e = .returned (.tuple #[v1, v2]) ∧ Own metR 68 8 V.heap.size (fun b => b < V.heap.size) v1 (ordB l ts ms).1 W' ∧
      Own metR 68 8 V.heap.size (fun b => b < V.heap.size) v2 (ordB l ts ms).2 W' ∧ Below V.heap.size V W') :=
    Lib.hid (fun V cp A2 c2 hv he ho => by
      obtain ⟨z1, z2, z3, z4, z5, z6⟩ := checkAllE_zero he
      exact ordered_calls cp AH cH l AT cT ts A2 c2 V ho GH (h.keep (Keep.all hv)) q.hcH q.hl q.ol (fun t _ => cplAt_short z1 t) q.hts GT (hT.keep (Keep.all hv)) A c ms GM (hM.keep (Keep.all hv)) q.hn z5 q.hs)
  have hn := q.hn
  have HL := Lib.hid (ord_lens l ts ms)
  clear h hM hT q
  go_enter Tryz.func26, Tryz.ntmps26
  go_wp2_with (fail)
  refine HC.out.mono ?_
  clear HC
  rintro e V ⟨hbv, (⟨hz, rfl⟩ | ⟨hz, cp, A2, c2, rfl, hcp, ho⟩)⟩
  · have t1 : (checkAllE l ms ts != 0) = true := by rw [bne_iff_ne]; exact hz
    have HR : Hid (orderR l ms ts = ([], false)) := Lib.hid (by unfold orderR; rw [if_neg hz])
    clear hz HOR
    generalize checkAllE l ms ts = ce at t1
    go_wp2
    go_ret2
    exact ⟨_, by rw [HR.out]; rfl, by rw [HR.out]; exact Own.nil _ _ _ _ _ _, hbv⟩
  · have HO2 := Lib.hid (HOR.out V cp A2 c2 hbv hz ho)
    have HR : Hid (orderR l ms ts = ((ordB l ts ms).1.map (·.id), decide (0 < (ordB l ts ms).2.length))) := Lib.hid (by unfold orderR; rw [if_pos hz])
    clear ho HOR hz
    go_wp2_with (fail)
    refine HO2.out.mono ?_
    clear HO2
    rintro e V2 ⟨v1, v2, rfl, h1, h2, hb2⟩
    obtain ⟨A5, c5, rfl, hc5, h1'⟩ := h1.out
    obtain ⟨A6, c6, rfl, hc6, _⟩ := h2.out
    have HI := Lib.hid (ids_calls A5 c5 (ordB l ts ms).1 _ V2 h1' (by have := HL.out.1; omega))
    have bV2 := hbv.trans (hb2.mono hbv.size)
    clear h1 h2 h1'
    generalize (ordB l ts ms).1 = o1 at HI HR ⊢
    generalize (ordB l ts ms).2 = o2 at HR ⊢
    go_wp2_with (fail)
    refine HI.out.mono ?_
    clear HI
    rintro e V3 ⟨v, rfl, hv, hb3⟩
    have HV := Lib.hid (hv.lower bV2.size)
    clear hv
    go_wp2
    go_ret2
    refine ⟨v, by rw [HR.out]; simp, by rw [HR.out]; exact HV.out, bV2.trans (hb3.mono bV2.size)⟩
end Go.Proofs.YtepnmejahbiacaaGreat
set_option linter.unusedVariables false
set_option linter.unusedSimpArgs false
namespace Go.Proofs.YtepnmejahbiacaaGreat
open Go.RowKit
set_option maxHeartbeats 4000000 in
set_option maxRecDepth 100000 in
theorem class_calls (s : ByteArray) (w : World) : Calls Tryz.prog 38 #[.string s] w fun e w' => e = .returned (tyV (clsT s) none 0) ∧ Below w.heap.size w w' := by
  go_enter Tryz.func38, Tryz.ntmps38
  go_wp2
  refine bodyPost_ret (v := tyV (clsT s) none 0) (by simp [results, Tryz.results38, go_sem]; first | done | exact ⟨rfl, rfl, rfl, rfl, rfl⟩) rfl ?_
  exact ⟨rfl, (Below.refl _ w).alloc (Nat.le_refl _) _⟩
theorem parR.mk {G : Nat → Prop} {n : ByteArray} {t : Ty} {w : World} {A : Option Addr} {c : Nat} (h1 : t.args.length ≤ c) (h3 : Held G (Typs A t.args) w) : Held G (parR ⟨n, t⟩ [.string n, .int .i64 t.kind, .string t.name, .int .i64 t.lo, .int .i64 t.hi, .slice A t.args.length c]) w := fun w' k => ⟨_, rfl, rfl, typR.mk h1 h3 w' k⟩
def nX : ByteArray := ⟨#[120]⟩
/-- A method of one parameter, of a type. -/
def met1 (i : Int) (t : Ty) : Meth := ⟨i, ⟨#[]⟩, [⟨nX, t⟩], .mk 0 ⟨#[]⟩ 0 0 []⟩
set_option maxHeartbeats 4000000 in
set_option maxRecDepth 100000 in
theorem method_calls2 (i : Int) (t : Ty) (A : Option Addr) (c : Nat) (w : World) (G : Nat → Prop) (hA : Held G (Typs A t.args) w) (hc : t.args.length ≤ c) :
    Calls Tryz.prog 37 #[.int .i64 i, tyV t A c] w fun e w' => ∃ n, e = .returned (metV (met1 i t) (some ⟨n, 0, none⟩) 1 none 0) ∧ w.heap.size ≤ n ∧ n < w'.heap.size ∧ Held (fun b => G b ∨ b = n) (Pars (some ⟨n, 0, none⟩) (met1 i t).pars) w' ∧ Below w.heap.size w w' := by
  go_enter Tryz.func37, Tryz.ntmps37
  go_wp2
  refine bodyPost_ret (v := metV (met1 i t) (some ⟨w.heap.size + 1 + 1, 0, none⟩) 1 none 0) (by simp [results, Tryz.results37, go_sem]; first | done | rfl | exact ⟨rfl, rfl, rfl, rfl, rfl, rfl, rfl, rfl⟩) rfl ?_
  refine ⟨w.heap.size + 1 + 1, rfl, by omega, by simp, ?_, (((Below.refl _ w).alloc (Nat.le_refl _) _).alloc (by simp) _).alloc (by simp; omega) _⟩
  exact (Own.read (Own.single (R := parR) (base := 0) (x := ⟨nX, t⟩) (n := w.heap.size + 1 + 1) (by simp) (Nat.zero_le _) rfl (by simp) (parR.mk hc (hA.keep ((Keep.alloc _ _ _).trans (Keep.alloc _ _ _)))))).2.2.mono fun b _ h => by rcases h with h | h; exact .inl h; exact .inr (by simpa [Value.ownBlock] using h.symm)
theorem method_calls (i : Int) (t : Ty) (A : Option Addr) (c : Nat) (w : World) (G : Nat → Prop) (hA : Held G (Typs A t.args) w) (hc : t.args.length ≤ c) :
    Calls Tryz.prog 37 #[.int .i64 i, tyV t A c] w fun e w' => ∃ n, e = .returned (metV (met1 i t) (some ⟨n, 0, none⟩) 1 none 0) ∧ w.heap.size ≤ n ∧ n < w'.heap.size ∧ Held (fun b => b < w'.heap.size) (Pars (some ⟨n, 0, none⟩) (met1 i t).pars) w' ∧ Below w.heap.size w w' :=
  (method_calls2 i t A c w G hA hc).mono fun e w' ⟨n, h1, h2, h3, h4, h5⟩ => ⟨n, h1, h2, h3, h4.mono fun b hb _ => hb, h5⟩
set_option maxHeartbeats 4000000 in
set_option maxRecDepth 100000 in
theorem rIndex_calls (A : Option Addr) (c : Nat) (l : List ByteArray) (x : ByteArray) (w : World) (hA : Strs A l w) (hl : l.length ≤ 1000000) :
    Calls Tryz.prog 97 #[.slice A l.length c, .string x] w fun e w' => e = .returned (.int .i64 (idx l x)) ∧ w = w' := by
  go_enter Tryz.func97, Tryz.ntmps97
  go_wp2
  go_loop [5] (fun i => ∃ k : Nat, k ≤ l.length ∧ i = .int .i64 k ∧ ∀ j y, j < k → l[j]? = some y → y ≠ x) (fun i => l.length - (intOf i).toNat)
  case atStart => exact ⟨0, Nat.zero_le _, rfl, fun j y h => absurd h (by omega)⟩
  case round =>
    obtain ⟨k, hk, rfl, heq⟩ := hrel
    have HE := Lib.hid heq
    clear heq
    by_cases hlt : k < l.length
    · obtain ⟨b, off, rfl⟩ := hA.addr (by omega)
      have hy : l[k]? = some l[k] := List.getElem?_eq_getElem hlt
      have h1 := Strs.at hA hy
      generalize l[k] = y at hy h1
      have HY := Lib.hid hy
      clear hy
      by_cases hyx : y = x
      · subst hyx
        have HI : Hid (idx l y = k) := Lib.hid (by
          unfold idx
          have : l.findIdx? (fun z => decide (z = y)) = some k := by
            rw [List.findIdx?_eq_some_iff_getElem]
            obtain ⟨h0, e0⟩ := List.getElem?_eq_some_iff.1 HY.out
            refine ⟨h0, by simp [e0], fun j hj => ?_⟩
            have := HE.out j _ hj (List.getElem?_eq_getElem (by omega))
            simpa using this
          rw [this])
        go_wp2
        go_ret
        exact ⟨(by rw [HI.out]; try rfl), rfl⟩
      · have HN := Lib.hid hyx
        go_wp2
        go_round
        case rel =>
          refine ⟨k + 1, by omega, by go_num, fun j z hj hz => ?_⟩
          rcases Nat.lt_or_ge j k with q | q
          · exact HE.out j z q hz
          · obtain rfl : j = k := by omega
            rw [HY.out] at hz; cases hz; exact HN.out
        case measure => simp [intOf]; omega
    · have HI : Hid (idx l x = -1) := Lib.hid (idx_neg (by
        intro hx
        obtain ⟨j, hj⟩ := List.mem_iff_getElem?.1 hx
        exact HE.out j x (by have := (List.getElem?_eq_some_iff.1 hj).1; omega) hj rfl))
      go_wp2
      go_ret
      exact ⟨(by rw [HI.out]; try rfl), rfl⟩
def distinctB (l : List ByteArray) : Bool := (List.range l.length).all fun i => match l[i]? with | some x => !hasS (l.take i) x | none => true
theorem distinct_nodup {l : List ByteArray} (h : distinctB l = true) : l.Nodup := by
  rw [List.nodup_iff_pairwise_ne, List.pairwise_iff_getElem]
  intro i j hi hj hij e
  unfold distinctB at h
  have := List.all_eq_true.1 h j (List.mem_range.2 hj)
  rw [List.getElem?_eq_getElem hj] at this
  have h1 : hasS (l.take j) l[j] = false := by simpa using this
  refine hasS_false.1 h1 ?_
  rw [← e]
  exact List.mem_of_getElem? (i := i) (by rw [List.getElem?_take, if_pos hij]; exact List.getElem?_eq_getElem hi)
theorem idx_ge {l : List ByteArray} {x : ByteArray} : decide (0 ≤ idx l x) = hasS l x := by
  unfold idx hasS
  cases h : l.findIdx? (fun y => decide (y = x)) with
  | none =>
    have : (l.any fun y => decide (y = x)) = false := by
      rw [List.any_eq_false]; intro y hy
      have := List.findIdx?_eq_none_iff.1 h y hy
      simpa using this
    rw [this]; rfl
  | some i =>
    have : (l.any fun y => decide (y = x)) = true := by
      obtain ⟨h0, h1, _⟩ := List.findIdx?_eq_some_iff_getElem.1 h
      exact List.any_eq_true.2 ⟨l[i], List.getElem_mem h0, h1⟩
    rw [this]; exact decide_eq_true (show (0 : Int) ≤ (i : Int) by omega)
set_option maxHeartbeats 4000000 in
set_option maxRecDepth 100000 in
theorem distinct_calls (A : Option Addr) (c : Nat) (l : List ByteArray) (w : World) (G : Nat → Prop) (h : Held G (Strs A l) w) (hc : l.length ≤ c) (hl : l.length ≤ 1000000) :
    Calls Tryz.prog 171 #[.slice A l.length c] w fun e w' => e = .returned (.bool (distinctB l)) ∧ Drw w w' := by
  go_enter Tryz.func171, Tryz.ntmps171
  go_wp2
  go_loopw [3] (fun i wr => ∃ k : Nat, k ≤ l.length ∧ i = .int .i64 k ∧ (∀ j y, j < k → l[j]? = some y → hasS (l.take j) y = false) ∧ Drw w wr) (fun i _ => l.length - (intOf i).toNat)
  case atStart => exact ⟨0, Nat.zero_le _, rfl, fun j y h => absurd h (by omega), Drw.refl _⟩
  case round =>
    obtain ⟨k, hk, rfl, heq, hd⟩ := hrel
    obtain ⟨n, rfl⟩ := hd
    have HE := Lib.hid heq
    clear heq
    by_cases hlt : k < l.length
    · obtain ⟨b, off, rfl⟩ := Slc.addrH h (by omega)
      have hy : l[k]? = some l[k] := List.getElem?_eq_getElem hlt
      have h1 : w.cell? ⟨b, off + k, none⟩ = some (.string l[k]) := (Strs.atH h hy).now
      generalize l[k] = y at hy h1
      have HY := Lib.hid hy
      clear hy
      have hkc : k ≤ c := by omega
      have hlk : (l.take k).length = k := by rw [List.length_take]; omega
      have HX : Hid (∀ U, Drw w U → Calls Tryz.prog 97 #[.slice (some ⟨b, off, none⟩) k c, .string y] U fun e w' => e = .returned (.int .i64 (idx (l.take k) y)) ∧ U = w') := Lib.hid (fun U hu => by
        obtain ⟨m, rfl⟩ := hu
        have := rIndex_calls (some ⟨b, off, none⟩) c (l.take k) y (w.drewN m) (((h.imp fun _ _ q => Slc.take q k).keep (Keep.drewN _ _ _)).now) (by omega)
        rw [hlk] at this
        exact this)
      clear hlk
      have HI : Hid (decide (0 ≤ idx (l.take k) y) = hasS (l.take k) y) := Lib.hid idx_ge
      cases hh : hasS (l.take k) y with
      | true =>
        have t1 : decide ((0 : Int) ≤ idx (l.take k) y) = true := HI.out.trans hh
        have HB : Hid (distinctB l = false) := Lib.hid (by
          unfold distinctB; rw [List.all_eq_false]
          exact ⟨k, List.mem_range.2 hlt, by rw [HY.out]; simp [hh]⟩)
        generalize idx (l.take k) y = ix at HX t1
        clear hh HI
        go_wp2
        go_quiet ((go_at_call 97; exact (HX.out _ (by first | exact Drw.of _ _ | exact (Drw.of _ _).drewN _)).mono fun _ _ ⟨a, b⟩ => ⟨a, _, b.symm⟩))
        go_wp2
        go_ret
        exact ⟨(by rw [HB.out]; try rfl), by first | exact Drw.of _ _ | exact (Drw.of _ _).drewN _⟩
      | false =>
        have t1 : decide ((0 : Int) ≤ idx (l.take k) y) = false := HI.out.trans hh
        have HH := Lib.hid hh
        generalize idx (l.take k) y = ix at HX t1
        clear hh HI
        go_wp2
        go_quiet ((go_at_call 97; exact (HX.out _ (by first | exact Drw.of _ _ | exact (Drw.of _ _).drewN _)).mono fun _ _ ⟨a, b⟩ => ⟨a, _, b.symm⟩))
        go_wp2
        go_roundw
        case rel =>
          refine ⟨k + 1, by omega, by go_num, fun j z hj hz => ?_, by first | exact Drw.of _ _ | exact (Drw.of _ _).drewN _⟩
          rcases Nat.lt_or_ge j k with q | q
          · exact HE.out j z q hz
          · obtain rfl : j = k := by omega
            rw [HY.out] at hz; cases hz; exact HH.out
        case measure => simp [intOf]; omega
    · have HB : Hid (distinctB l = true) := Lib.hid (by
        unfold distinctB; rw [List.all_eq_true]
        intro j hj
        have hj' := List.mem_range.1 hj
        rw [List.getElem?_eq_getElem hj']
        simp [HE.out j _ (by omega) (List.getElem?_eq_getElem hj')])
      go_wp2
      go_ret
      exact ⟨(by rw [HB.out]; try rfl), Drw.of _ _⟩
set_option maxHeartbeats 4000000 in
set_option maxRecDepth 100000 in
theorem rCpl_calls (A : Option Addr) (c : Nat) (l : List CI) (s : ByteArray) (w : World) (G : Nat → Prop) (h : Held G (CIs A l) w) (hl : l.length ≤ 1000000) :
    Calls Tryz.prog 95 #[.slice A l.length c, .string s] w fun e w' => w' = w ∧ ∃ A' c', e = .returned (.slice A' (((l.find? fun x => decide (x.name = s)).map CI.cpl).getD []).length c') ∧ (((l.find? fun x => decide (x.name = s)).map CI.cpl).getD []).length ≤ c' ∧ Held G (Strs A' (((l.find? fun x => decide (x.name = s)).map CI.cpl).getD [])) w := by
  go_enter Tryz.func95, Tryz.ntmps95
  go_wp2
  go_loop [5] (fun i => ∃ k : Nat, k ≤ l.length ∧ i = .int .i64 k ∧ ∀ j y, j < k → l[j]? = some y → y.name ≠ s) (fun i => l.length - (intOf i).toNat)
  case atStart => exact ⟨0, Nat.zero_le _, rfl, fun j y h => absurd h (by omega)⟩
  case round =>
    obtain ⟨k, hk, rfl, heq⟩ := hrel
    have HE := Lib.hid heq
    clear heq
    by_cases hlt : k < l.length
    · obtain ⟨b, off, rfl⟩ := Slc.addrH h (by omega)
      have hy : l[k]? = some l[k] := List.getElem?_eq_getElem hlt
      generalize l[k] = y at hy
      obtain ⟨A2, c2, A3, c3, p1, p2, p3, p4, g0, g1, g2, g3, g4, g5⟩ := CIs.atH h hy
      have HY := Lib.hid hy
      clear hy
      by_cases hyx : y.name = s
      · have HI : Hid (l.find? (fun x => decide (x.name = s)) = some y) := Lib.hid (by
          rw [List.find?_eq_some_iff_getElem]
          obtain ⟨h0, e0⟩ := List.getElem?_eq_some_iff.1 HY.out
          refine ⟨by simpa using hyx, k, h0, e0, fun j hj => ?_⟩
          have := HE.out j _ hj (List.getElem?_eq_getElem (by omega))
          simpa using this)
        rw [hyx] at g0
        clear hyx
        go_wp2
        go_ret
        refine ⟨rfl, A3, c3, ?_, ?_, ?_⟩
        · rw [HI.out]; rfl
        · rw [HI.out]; exact p2
        · rw [HI.out]; exact p4
      · have HN := Lib.hid hyx
        go_wp2
        go_round
        case rel =>
          refine ⟨k + 1, by omega, by go_num, fun j z hj hz => ?_⟩
          rcases Nat.lt_or_ge j k with q | q
          · exact HE.out j z q hz
          · obtain rfl : j = k := by omega
            rw [HY.out] at hz; cases hz; exact HN.out
        case measure => simp [intOf]; omega
    · have HI : Hid (l.find? (fun x => decide (x.name = s)) = none) := Lib.hid (by
        rw [List.find?_eq_none]
        intro y hy
        obtain ⟨j, hj⟩ := List.mem_iff_getElem?.1 hy
        have := HE.out j y (by have := (List.getElem?_eq_some_iff.1 hj).1; omega) hj
        simpa using this)
      go_wp2
      go_ret
      refine ⟨rfl, none, 0, ?_, ?_, ?_⟩
      · rw [HI.out]; rfl
      · rw [HI.out]; exact Nat.le_refl _
      · rw [HI.out]; exact fun _ _ => Slc.nil _ _ _ _
set_option maxHeartbeats 4000000 in
set_option maxRecDepth 100000 in
theorem sameInts_calls (A B : Option Addr) (c d : Nat) (l m : List Int) (w : World) (GA GB : Nat → Prop) (hA : Held GA (Ints A l) w) (hB : Held GB (Ints B m) w) (hl : l.length ≤ 1000000) (hm : m.length ≤ 1000000) :
    Calls Tryz.prog 14 #[.slice A l.length c, .slice B m.length d] w fun e w' => e = .returned (.bool (decide (l = m))) ∧ Drw w w' := by
  by_cases hlen : l.length = m.length
  · have t2 : ((l.length : Int) != (m.length : Int)) = false := bne_eq_false_iff_eq.2 (by omega)
    have HL := Lib.hid hlen
    clear hlen
    go_enter Tryz.func14, Tryz.ntmps14
    go_wp2
    go_loopw [5] (fun i wr => ∃ k : Nat, k ≤ l.length ∧ i = .int .i64 k ∧ l.take k = m.take k ∧ Drw w wr) (fun i _ => l.length - (intOf i).toNat)
    case atStart => exact ⟨0, Nat.zero_le _, rfl, by simp, Drw.refl _⟩
    case round =>
      obtain ⟨k, hk, rfl, heq, hd⟩ := hrel
      obtain ⟨n, rfl⟩ := hd
      have HE := Lib.hid heq
      clear heq
      by_cases hlt : k < l.length
      · have hm' : k < m.length := by have := HL.out; omega
        obtain ⟨b, off, rfl⟩ := Slc.addrH hA (by omega)
        obtain ⟨b', off', rfl⟩ := Slc.addrH hB (by omega)
        have hx : l[k]? = some l[k] := List.getElem?_eq_getElem hlt
        have hy : m[k]? = some m[k] := List.getElem?_eq_getElem hm'
        generalize l[k] = x at hx
        generalize m[k] = y at hy
        have h1 : w.cell? ⟨b, off + k, none⟩ = some (.int .i64 x) := by
          obtain ⟨cs, _, hr, hc⟩ := Slc.atH hA (by decide) hx
          obtain rfl : cs = [.int .i64 x] := hr.now
          simpa using (hc 0 _ rfl).now
        have h2 : w.cell? ⟨b', off' + k, none⟩ = some (.int .i64 y) := by
          obtain ⟨cs, _, hr, hc⟩ := Slc.atH hB (by decide) hy
          obtain rfl : cs = [.int .i64 y] := hr.now
          simpa using (hc 0 _ rfl).now
        have HX := Lib.hid hx
        have HY := Lib.hid hy
        clear hx hy
        by_cases hxy : x = y
        · subst hxy
          have t1 : (x != x) = false := bne_self_eq_false x
          go_wp2
          go_quiet (fail)
          go_wp2
          go_roundw
          case rel =>
            refine ⟨k + 1, by omega, by go_num, ?_, Drw.of _ _⟩
            rw [List.take_add_one, List.take_add_one, HE.out, HX.out, HY.out]
          case measure => simp [intOf]; omega
        · have hne : l ≠ m := by
            rintro rfl
            have := HX.out; rw [HY.out] at this; exact hxy (Option.some.inj this).symm
          have t1 : (x != y) = true := by rw [bne_iff_ne]; exact hxy
          have HN := Lib.hid hne
          clear hne hxy
          go_wp2
          go_quiet (fail)
          go_wp2
          go_ret
          exact ⟨retB (decide_eq_false HN.out).symm, (Drw.of _ _).drewN _⟩
      · obtain rfl : k = l.length := by omega
        have : l = m := by have h := HE.out; rw [List.take_length] at h; rw [h]; exact List.take_of_length_le (by rw [HL.out]; exact Nat.le_refl _)
        have HM := Lib.hid this
        clear this
        go_wp2
        go_ret
        exact ⟨retB (decide_eq_true HM.out).symm, ⟨n, rfl⟩⟩
  · have t2 : ((l.length : Int) != (m.length : Int)) = true := by rw [bne_iff_ne]; omega
    have HL : Hid (l ≠ m) := Lib.hid (fun e => hlen (by rw [e]))
    clear hlen
    go_enter Tryz.func14, Tryz.ntmps14
    go_wp2
    go_ret
    exact ⟨retB (decide_eq_false HL.out).symm, Drw.refl _⟩
end Go.Proofs.YtepnmejahbiacaaGreat
set_option linter.unusedVariables false
set_option linter.unusedSimpArgs false
namespace Go.Proofs.YtepnmejahbiacaaGreat
open Go.RowKit
/-- What First returns: the number, and the fault. -/
noncomputable def firstR (l : List CI) (ms : List Meth) (ts : List Tag) : Int × Int := match (orderR l ms ts).1 with
  | x :: _ => (x, 0)
  | [] => if (orderR l ms ts).2 = true then (0, 2) else (0, 1)
set_option maxHeartbeats 16000000 in
set_option maxRecDepth 100000 in
theorem first_calls (AH : Option Addr) (cH : Nat) (l : List CI) (A : Option Addr) (c : Nat) (ms : List Meth) (AT : Option Addr) (cT : Nat) (ts : List Tag) (W : World) (q : Asks AH cH l A ms AT ts W) :
    Calls Tryz.prog 28 #[.slice AH l.length cH, .slice A ms.length c, .slice AT ts.length cT] W fun e W' => e = .returned (.tuple #[.int .i64 (firstR l ms ts).1, .int .i64 (firstR l ms ts).2]) ∧ Below W.heap.size W W' := by
  have HC := Lib.hid (order_calls AH cH l A c ms AT cT ts W q)
  have hn := q.hn
  clear q
  have HF : Hid (firstR l ms ts = match (orderR l ms ts).1 with | x :: _ => (x, 0) | [] => if (orderR l ms ts).2 = true then (0, 2) else (0, 1)) := Lib.hid rfl
  generalize orderR l ms ts = r at HC HF
  obtain ⟨ids, amb⟩ := r
  go_enter Tryz.func28, Tryz.ntmps28
  go_wp2_with (fail)
  refine HC.out.mono ?_
  clear HC
  rintro e V ⟨v, rfl, hv, hbv⟩
  obtain ⟨A5, c5, rfl, hc5, hH⟩ := hv.out
  cases ids with
  | nil =>
    cases amb with
    | true =>
      have H2 : Hid (firstR l ms ts = (0, 2)) := Lib.hid HF.out
      clear HF
      go_wp2
      go_ret2
      exact ⟨by rw [H2.out]; rfl, hbv⟩
    | false =>
      have H2 : Hid (firstR l ms ts = (0, 1)) := Lib.hid HF.out
      clear HF
      go_wp2
      go_ret2
      exact ⟨by rw [H2.out]; rfl, hbv⟩
  | cons x r =>
    have H2 : Hid (firstR l ms ts = (x, 0)) := Lib.hid HF.out
    obtain ⟨b, off, rfl⟩ := Slc.addrH hH (by simp)
    obtain ⟨cs, _, hr, hc⟩ := Slc.atH hH (by decide) (k := 0) (x := x) rfl
    obtain rfl : cs = [.int .i64 x] := hr.now
    have g0 : V.cell? ⟨b, off, none⟩ = some (.int .i64 x) := by simpa using (hc 0 _ rfl).now
    have hl0 : (0 : Int) < ((x :: r).length : Int) := by simp
    clear HF hc hr hH hv
    go_wp2
    go_ret2
    exact ⟨by rw [H2.out]; rfl, hbv⟩
theorem own_pair {base : Nat} {w : World} {a b x y : Int} (T : TypeId) (hb : base ≤ w.heap.size) (hx : x = min a b) (hy : y = max a b) : Own intR T 1 base (fun _ => False) (.slice (some ⟨w.heap.size, 0, none⟩) 2 2) [min a b, max a b] (w.alloc (.cells #[.int .i64 x, .int .i64 y] T)) := by
  subst hx hy
  refine ⟨[.int .i64 (min a b), .int .i64 (max a b)], ⟨by simp, .inr ⟨_, 2, #[.int .i64 (min a b), .int .i64 (max a b)], rfl, hb, heap_alloc_new w _, Nat.le_refl _, by simp [maxLen], by simp, by simp⟩⟩, ?_⟩
  have h1 := Enc.snoc (Enc.nil (R := fun x ds => Held (fun _ => False) (intR x ds) (w.alloc (.cells #[.int .i64 (min a b), .int .i64 (max a b)] T))) (sz := 1)) (x := min a b) (cs := [.int .i64 (min a b)]) (fun _ _ => rfl) rfl
  have h2 := Enc.snoc h1 (x := max a b) (cs := [.int .i64 (max a b)]) (fun _ _ => rfl) rfl
  exact h2
/-- Two that do not precede each other. -/
def Clash (P : Meth → Meth → Bool) (l : List Meth) (a b : Meth) : Prop := ∃ i k : Nat, k < i ∧ l[i]? = some a ∧ l[k]? = some b ∧ P a b = false ∧ P b a = false
def conflictPost (l : List CI) (ms : List Meth) (ts : List Tag) (W : World) (e : Ending) (W' : World) : Prop :=
  Below W.heap.size W W' ∧ ((checkAllE l ms ts ≠ 0 ∧ e = .returned (.tuple #[.slice none 0 0, .int .i64 (checkAllE l ms ts)])) ∨
    (checkAllE l ms ts = 0 ∧ (((∀ a b, ¬ Clash (precB l ts) (ordB l ts ms).2 a b) ∧ e = .returned (.tuple #[.slice none 0 0, .int .i64 3])) ∨
      ∃ a b v, Clash (precB l ts) (ordB l ts ms).2 a b ∧ e = .returned (.tuple #[v, .int .i64 0]) ∧ Own intR 3 1 W.heap.size (fun _ => False) v [min a.id b.id, max a.id b.id] W')))
set_option maxHeartbeats 32000000 in
set_option maxRecDepth 100000 in
theorem conflict_calls (AH : Option Addr) (cH : Nat) (l : List CI) (A : Option Addr) (c : Nat) (ms : List Meth) (AT : Option Addr) (cT : Nat) (ts : List Tag) (W : World) (q : Asks AH cH l A ms AT ts W) :
    Calls Tryz.prog 30 #[.slice AH l.length cH, .slice A ms.length c, .slice AT ts.length cT] W (conflictPost l ms ts W) := by
  have HC := Lib.hid (open_calls AH cH l A c ms AT cT ts W q)
  obtain ⟨GH, h⟩ := q.h
  obtain ⟨GM, hM⟩ := q.hM
  obtain ⟨GT, hT⟩ := q.hT
  have HOR : Hid (∀ V cp A2 c2, Below W.heap.size W V → checkAllE l ms ts = 0 → OpenAt cp AH cH l AT cT ts A2 c2 V → Calls Tryz.prog 61 #[.pointer (some ⟨cp, 0, none⟩), .slice A ms.length c] V fun e W' => ∃ v1 v2, e = .returned (.tuple #[v1, v2]) ∧ Own metR 68 8 V.heap.size (fun b => b < V.heap.size) v1 (ordB l ts ms).1 W' ∧
      Own metR 68 8 V.heap.size (fun b => b < V.heap.size) v2 (ordB l ts ms).2 W' ∧ Below V.heap.size V W') :=
    Lib.hid (fun V cp A2 c2 hv he ho => by
      obtain ⟨z1, z2, z3, z4, z5, z6⟩ := checkAllE_zero he
      exact ordered_calls cp AH cH l AT cT ts A2 c2 V ho GH (h.keep (Keep.all hv)) q.hcH q.hl q.ol (fun t _ => cplAt_short z1 t) q.hts GT (hT.keep (Keep.all hv)) A c ms GM (hM.keep (Keep.all hv)) q.hn z5 q.hs)
  obtain ⟨P, hP⟩ : ∃ P, P = precB l ts := ⟨_, rfl⟩
  have HPR : Hid (∀ (cp : Nat) (A2 : Option Addr) (c2 : Nat) (a b : Meth) (Aa Ar Ba Br : Option Addr) (ca cr cb cq : Nat) (V : World), OpenAt cp AH cH l AT cT ts A2 c2 V → Below W.heap.size W V → checkAllE l ms ts = 0 → a ∈ ms → b ∈ ms → (∃ G, Held G (Pars Aa a.pars) V) → (∃ G, Held G (Pars Ba b.pars) V) →
      Calls Tryz.prog 70 #[.pointer (some ⟨cp, 0, none⟩), metV a Aa ca Ar cr, metV b Ba cb Br cq] V fun e V' => e = .returned (.bool (P a b)) ∧ Below V.heap.size V V') :=
    Lib.hid (fun cp A2 c2 a b Aa Ar Ba Br ca cr cb cq V ho hv he ha hb ⟨Ga, h1⟩ ⟨Gb, h2⟩ => by
      obtain ⟨z1, z2, z3, z4, z5, z6⟩ := checkAllE_zero he
      rw [hP]
      exact precedes_calls cp AH cH l AT cT ts A2 c2 V ho GH (h.keep (Keep.all hv)) q.hl q.ol (fun t _ => cplAt_short z1 t) q.hts a b Aa Ar Ba Br ca cr cb cq Ga Gb h1 h2 (z5 a ha) (z5 b hb) (q.hs a ha) (q.hs b hb))
  have HPP := Lib.hid hP
  have hn := q.hn
  have HL := Lib.hid (ord_lens l ts ms)
  have HMEM : Hid (∀ m ∈ (ordB l ts ms).2, m ∈ ms) := Lib.hid (fun m hm => by
    have h1 := orderG_perm (P := precB l ts) (ms.filter (appB l ts)).length (ms.filter (appB l ts))
    exact (List.mem_filter.1 (h1.mem_iff.1 (List.mem_append.2 (.inr hm)))).1)
  clear h hM hT q hP
  go_enter Tryz.func30, Tryz.ntmps30
  go_wp2_with (fail)
  refine HC.out.mono ?_
  clear HC
  rintro e V ⟨hbv, (⟨hz, rfl⟩ | ⟨hz, cp, A2, c2, rfl, hcp, ho⟩)⟩
  · have t1 : (checkAllE l ms ts != 0) = true := by rw [bne_iff_ne]; exact hz
    have HZ := Lib.hid hz
    clear hz HOR HPR
    go_wp2
    go_ret2
    exact ⟨hbv, .inl ⟨HZ.out, rfl⟩⟩
  · have HO2 := Lib.hid (HOR.out V cp A2 c2 hbv hz ho)
    have HZ := Lib.hid hz
    clear HOR hz
    go_wp2_with (fail)
    refine HO2.out.mono ?_
    clear HO2
    rintro e V2 ⟨v1, v2, rfl, h1, h2, hb2⟩
    have bV2 := hbv.trans (hb2.mono hbv.size)
    have ho2 := ho.keep hb2
    clear h1 ho
    obtain ⟨ls, hls⟩ : ∃ ls, ls = (ordB l ts ms).2 := ⟨_, rfl⟩
    have HLS := Lib.hid hls
    rw [← hls] at h2 HMEM
    have hln : ls.length ≤ 1000000 := by rw [hls]; have := HL.out.2; omega
    clear hls
    obtain ⟨A6, c6, rfl, hc6, _⟩ := h2.out
    go_wp2_with (fail)
    go_loopw [34] (fun i wr => ∃ k : Nat, k ≤ ls.length ∧ i = .int .i64 k ∧ (∀ j p a b, j < k → p < j → ls[j]? = some a → ls[p]? = some b → ¬ (P a b = false ∧ P b a = false)) ∧ Below V2.heap.size V2 wr) (fun i _ => ls.length - (intOf i).toNat)
    case atStart => exact ⟨0, Nat.zero_le _, rfl, fun j p a b hj => absurd hj (by omega), Below.refl _ _⟩
    case round =>
      obtain ⟨k, hk, rfl, hok, hbr⟩ := hrel
      have HOK := Lib.hid hok
      clear hok
      by_cases hkl : k < ls.length
      · obtain ⟨g, cl, e0, hgb, hgl⟩ := h2.form (by omega)
        simp only [Value.slice.injEq] at e0
        obtain ⟨rfl, _, rfl⟩ := e0
        have hx : ls[k]? = some ls[k] := List.getElem?_eq_getElem hkl
        generalize ls[k] = a at hx
        have HX := Lib.hid hx
        obtain ⟨A1, c1, A3, c3, p1, p2, p3, p4, f0, f1, f2, f3, f4, f5, f6, f7⟩ := OwnMet.at (h2.all hbr) hx
        clear hx
        have hkc : k ≤ c6 := by omega
        go_wp2_with (fail)
        obtain ⟨W1, hW1⟩ : ∃ W1, W1 = wr.alloc (.cells #[.int .i64 a.id, .string a.lib, .slice A1 a.pars.length c1, .int .i64 a.result.kind, .string a.result.name, .int .i64 a.result.lo, .int .i64 a.result.hi, .slice A3 a.result.args.length c3] 68) := ⟨_, rfl⟩
        rw [← hW1]
        have b1 : Below wr.heap.size wr W1 := by rw [hW1]; exact (Below.refl _ wr).alloc (Nat.le_refl _) _
        have xm : ∀ j u, [Value.int .i64 a.id, .string a.lib, .slice A1 a.pars.length c1, .int .i64 a.result.kind, .string a.result.name, .int .i64 a.result.lo, .int .i64 a.result.hi, .slice A3 a.result.args.length c3][j]? = some u → W1.cell? ⟨wr.heap.size, j, none⟩ = some u := fun j u hj => by rw [hW1]; exact cell_new wr _ _ _ rfl j u hj
        have XM := Lib.hid xm
        clear hW1 f0 f1 f2 f3 f4 f5 f6 f7 xm
        have bo1 : Below V2.heap.size V2 W1 := hbr.trans (b1.mono hbr.size)
        have p2' := p2.keep (Keep.all b1)
        obtain ⟨ab, hab⟩ : ∃ ab, ab = wr.heap.size := ⟨_, rfl⟩
        rw [← hab] at XM ⊢
        clear hab p2
        go_loopw [43] (fun i w3 => ∃ j : Nat, j ≤ k ∧ i = .int .i64 j ∧ (∀ p b, p < j → ls[p]? = some b → ¬ (P a b = false ∧ P b a = false)) ∧ Below W1.heap.size W1 w3) (fun i _ => k - (intOf i).toNat)
        case atStart => exact ⟨0, Nat.zero_le _, rfl, fun p b hj => absurd hj (by omega), Below.refl _ _⟩
        case round =>
          obtain ⟨j, hj, rfl, hgood, hb3⟩ := hrel
          have HG := Lib.hid hgood
          clear hgood
          have bo3 : Below V2.heap.size V2 wr := bo1.trans (hb3.mono bo1.size)
          have bW3 : Below W.heap.size W wr := bV2.trans (bo3.mono bV2.size)
          by_cases hjl : j < k
          · have hy : ls[j]? = some ls[j] := List.getElem?_eq_getElem (by omega)
            generalize ls[j] = b at hy
            have HY := Lib.hid hy
            obtain ⟨B1, d1, B3, d3, q1, q2, q3, q4, g0, g1, g2, g3, g4, g5, g6, g7⟩ := OwnMet.at (h2.all bo3) hy
            have m0 := cell_all (XM.out 0 _ rfl) hb3
            have m1 := cell_all (XM.out 1 _ rfl) hb3
            have m2 := cell_all (XM.out 2 _ rfl) hb3
            have m3 := cell_all (XM.out 3 _ rfl) hb3
            have m4 := cell_all (XM.out 4 _ rfl) hb3
            have m5 := cell_all (XM.out 5 _ rfl) hb3
            have m6 := cell_all (XM.out 6 _ rfl) hb3
            have m7 := cell_all (XM.out 7 _ rfl) hb3
            clear hy
            have habl : ab < wr.heap.size := cell_lt m0
            obtain ⟨W4, hW4⟩ : ∃ W4, W4 = wr.alloc (.cells #[.int .i64 b.id, .string b.lib, .slice B1 b.pars.length d1, .int .i64 b.result.kind, .string b.result.name, .int .i64 b.result.lo, .int .i64 b.result.hi, .slice B3 b.result.args.length d3] 68) := ⟨_, rfl⟩
            have bal : Below wr.heap.size wr W4 := by rw [hW4]; exact (Below.refl _ wr).alloc (Nat.le_refl _) _
            have HPC := Lib.hid (fun V (hv : Below wr.heap.size wr V) => HPR.out cp A2 c2 a b A1 A3 B1 B3 c1 c3 d1 d3 V (ho2.keep (bo3.trans (hv.mono bo3.size))) (bW3.trans (hv.mono bW3.size)) HZ.out (HMEM.out a (List.mem_of_getElem? HX.out)) (HMEM.out b (List.mem_of_getElem? HY.out)) ⟨_, (p2'.keep (Keep.all hb3)).keep (Keep.all hv)⟩ ⟨_, q2.keep (Keep.all hv)⟩)
            have HPD := Lib.hid (fun V (hv : Below wr.heap.size wr V) => HPR.out cp A2 c2 b a B1 B3 A1 A3 d1 d3 c1 c3 V (ho2.keep (bo3.trans (hv.mono bo3.size))) (bW3.trans (hv.mono bW3.size)) HZ.out (HMEM.out b (List.mem_of_getElem? HY.out)) (HMEM.out a (List.mem_of_getElem? HX.out)) ⟨_, q2.keep (Keep.all hv)⟩ ⟨_, (p2'.keep (Keep.all hb3)).keep (Keep.all hv)⟩)
            have xb : ∀ j u, [Value.int .i64 b.id, .string b.lib, .slice B1 b.pars.length d1, .int .i64 b.result.kind, .string b.result.name, .int .i64 b.result.lo, .int .i64 b.result.hi, .slice B3 b.result.args.length d3][j]? = some u → W4.cell? ⟨wr.heap.size, j, none⟩ = some u := fun j u hj => by rw [hW4]; exact cell_new wr _ _ _ rfl j u hj
            have XB := Lib.hid xb
            have HM4 := Lib.hid (fun j u hj => cell_all (cell_all (XM.out j u hj) hb3) bal)
            have fin : ∀ V, Below wr.heap.size wr V → ¬ (P a b = false ∧ P b a = false) → ∃ j' : Nat, j' ≤ k ∧ Value.int .i64 ((j : Int) + 1) = .int .i64 j' ∧ (∀ p b, p < j' → ls[p]? = some b → ¬ (P a b = false ∧ P b a = false)) ∧ Below W1.heap.size W1 V := fun V hv hne =>
              ⟨j + 1, by omega, by go_num, fun p b' hp hb' => by
                rcases Nat.lt_or_ge p j with z | z
                · exact HG.out p b' z hb'
                · obtain rfl : p = j := by omega
                  rw [HY.out] at hb'; cases hb'; exact hne, hb3.trans (hv.mono hb3.size)⟩
            have HFI := Lib.hid fin
            clear fin xb
            cases hab : P a b with
            | true =>
              rw [hab] at HPC
              have HNE : Hid (¬ (P a b = false ∧ P b a = false)) := Lib.hid (fun e => by rw [hab] at e; cases e.1)
              clear hab HPD
              go_wp2_with (fail)
              rw [← hW4]
              refine (HPC.out _ bal).mono ?_
              clear HPC
              rintro e V5 ⟨rfl, hb5⟩
              go_wp2
              refine ⟨HFI.out V5 (bal.trans (hb5.mono bal.size)) HNE.out, by simp [intOf]; omega⟩
            | false =>
              rw [hab] at HPC
              have HAB := Lib.hid hab
              cases hba : P b a with
              | true =>
                rw [hba] at HPD
                have HNE : Hid (¬ (P a b = false ∧ P b a = false)) := Lib.hid (fun e => by rw [hba] at e; cases e.2)
                clear hab hba
                go_wp2_with (fail)
                rw [← hW4]
                refine (HPC.out _ bal).mono ?_
                clear HPC
                rintro e V5 ⟨rfl, hb5⟩
                have n0 := cell_all (XB.out 0 _ rfl) hb5
                have n1 := cell_all (XB.out 1 _ rfl) hb5
                have n2 := cell_all (XB.out 2 _ rfl) hb5
                have n3 := cell_all (XB.out 3 _ rfl) hb5
                have n4 := cell_all (XB.out 4 _ rfl) hb5
                have n5 := cell_all (XB.out 5 _ rfl) hb5
                have n6 := cell_all (XB.out 6 _ rfl) hb5
                have n7 := cell_all (XB.out 7 _ rfl) hb5
                have o0 := cell_all (HM4.out 0 _ rfl) hb5
                have o1 := cell_all (HM4.out 1 _ rfl) hb5
                have o2 := cell_all (HM4.out 2 _ rfl) hb5
                have o3 := cell_all (HM4.out 3 _ rfl) hb5
                have o4 := cell_all (HM4.out 4 _ rfl) hb5
                have o5 := cell_all (HM4.out 5 _ rfl) hb5
                have o6 := cell_all (HM4.out 6 _ rfl) hb5
                have o7 := cell_all (HM4.out 7 _ rfl) hb5
                have b5 := bal.trans (hb5.mono bal.size)
                go_wp2_with (fail)
                refine (HPD.out V5 b5).mono ?_
                clear HPD n0 n1 n2 n3 n4 n5 n6 n7 o0 o1 o2 o3 o4 o5 o6 o7
                rintro e V6 ⟨rfl, hb6⟩
                have b6 := b5.trans (hb6.mono b5.size)
                go_wp2
                refine ⟨HFI.out V6 b6 HNE.out, by simp [intOf]; omega⟩
              | false =>
                rw [hba] at HPD
                have HBA := Lib.hid hba
                clear hab hba
                go_wp2_with (fail)
                rw [← hW4]
                refine (HPC.out _ bal).mono ?_
                clear HPC
                rintro e V5 ⟨rfl, hb5⟩
                have n0 := cell_all (XB.out 0 _ rfl) hb5
                have n1 := cell_all (XB.out 1 _ rfl) hb5
                have n2 := cell_all (XB.out 2 _ rfl) hb5
                have n3 := cell_all (XB.out 3 _ rfl) hb5
                have n4 := cell_all (XB.out 4 _ rfl) hb5
                have n5 := cell_all (XB.out 5 _ rfl) hb5
                have n6 := cell_all (XB.out 6 _ rfl) hb5
                have n7 := cell_all (XB.out 7 _ rfl) hb5
                have o0 := cell_all (HM4.out 0 _ rfl) hb5
                have o1 := cell_all (HM4.out 1 _ rfl) hb5
                have o2 := cell_all (HM4.out 2 _ rfl) hb5
                have o3 := cell_all (HM4.out 3 _ rfl) hb5
                have o4 := cell_all (HM4.out 4 _ rfl) hb5
                have o5 := cell_all (HM4.out 5 _ rfl) hb5
                have o6 := cell_all (HM4.out 6 _ rfl) hb5
                have o7 := cell_all (HM4.out 7 _ rfl) hb5
                have b5 := bal.trans (hb5.mono bal.size)
                go_wp2_with (fail)
                refine (HPD.out V5 b5).mono ?_
                clear HPD n0 n1 n2 n3 n4 n5 n6 n7 o0 o1 o2 o3 o4 o5 o6 o7
                rintro e V6 ⟨rfl, hb6⟩
                have b6 := b5.trans (hb6.mono b5.size)
                have n0 := cell_all (cell_all (XB.out 0 _ rfl) hb5) hb6
                have o0 := cell_all (cell_all (HM4.out 0 _ rfl) hb5) hb6
                have HCL : Hid (Clash (precB l ts) (ordB l ts ms).2 a b) := Lib.hid ⟨k, j, hjl, by rw [← HLS.out]; exact HX.out, by rw [← HLS.out]; exact HY.out, by rw [← HPP.out]; exact HAB.out, by rw [← HPP.out]; exact HBA.out⟩
                have bF := bW3.trans (b6.mono bW3.size)
                go_wp2
                all_goals
                  go_ret2
                  refine ⟨bF.alloc bF.size _, .inr ⟨HZ.out, .inr ⟨a, b, _, HCL.out, rfl, ?_⟩⟩⟩
                  exact own_pair _ bF.size (by omega) (by omega)
          · obtain rfl : j = k := by omega
            go_wp2
            refine ⟨⟨j + 1, by omega, by go_num, fun i p a' b' hi hp h1 h2' => ?_, bo3⟩, by simp [intOf]; omega⟩
            rcases Nat.lt_or_ge i j with z | z
            · exact HOK.out i p a' b' z hp h1 h2'
            · obtain rfl : i = j := by omega
              rw [HX.out] at h1; cases h1
              exact HG.out p b' hp h2'
      · obtain rfl : k = ls.length := by omega
        have HNC : Hid (∀ a b, ¬ Clash (precB l ts) (ordB l ts ms).2 a b) := Lib.hid (by
          rintro a b ⟨i, p, hp, h1, h2, h3, h4⟩
          rw [← HLS.out] at h1 h2
          rw [← HPP.out] at h3 h4
          exact HOK.out i p a b (List.getElem?_eq_some_iff.1 h1).1 hp h1 h2 ⟨h3, h4⟩)
        have bf := bV2.trans (hbr.mono bV2.size)
        go_wp2
        go_ret2
        exact ⟨bf, .inr ⟨HZ.out, .inl ⟨HNC.out, rfl⟩⟩⟩
end Go.Proofs.YtepnmejahbiacaaGreat
