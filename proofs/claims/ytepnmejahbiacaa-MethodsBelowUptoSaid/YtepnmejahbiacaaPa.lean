/- An + Pa: texts joined. -/
import Derived.Test.YtepnmejahbiacaaOn
import Derived.Laws.EntriesVeiled
import Derived.Test.YtepnmejahbiacaaSa
/- methods.Applicable; HasInt, Find. -/
set_option linter.unusedVariables false
set_option linter.unusedSimpArgs false
namespace Go.Proofs.Ytepnmejahbiacaa
open Go.RowKit

/-- What Applicable returns. -/
noncomputable def applR (l : List CI) (ms : List Meth) (ts : List Tag) : List Int × Int := if checkAllE l ms ts = 0 then ((ms.filter (appB l ts)).map (·.id), 0) else ([], checkAllE l ms ts)
theorem applR_ok {l : List CI} {ms : List Meth} {ts : List Tag} (h : checkAllE l ms ts = 0) : applR l ms ts = ((ms.filter (appB l ts)).map (·.id), 0) := by unfold applR; rw [if_pos h]
theorem applR_bad {l : List CI} {ms : List Meth} {ts : List Tag} (h : ¬ checkAllE l ms ts = 0) : applR l ms ts = ([], checkAllE l ms ts) := by unfold applR; rw [if_neg h]
theorem applR_err (l : List CI) (ms : List Meth) (ts : List Tag) : (applR l ms ts).2 = checkAllE l ms ts := by
  by_cases h : checkAllE l ms ts = 0
  · rw [applR_ok h, h]
  · rw [applR_bad h]
theorem applR_len (l : List CI) (ms : List Meth) (ts : List Tag) : (applR l ms ts).1.length ≤ ms.length := by
  by_cases h : checkAllE l ms ts = 0
  · rw [applR_ok h, List.length_map]; exact List.length_filter_le _ _
  · rw [applR_bad h]; exact Nat.zero_le _

set_option maxHeartbeats 16000000 in
set_option maxRecDepth 100000 in
theorem applicable_calls (AH : Option Addr) (cH : Nat) (l : List CI) (A : Option Addr) (c : Nat) (ms : List Meth) (AT : Option Addr) (cT : Nat) (ts : List Tag) (W : World) (q : Asks AH cH l A ms AT ts W) :
    Calls Try.prog 24 #[.slice AH l.length cH, .slice A ms.length c, .slice AT ts.length cT] W fun e W' => ∃ A' c', e = .returned (.tuple #[.slice A' (applR l ms ts).1.length c', .int .i64 (applR l ms ts).2]) ∧ Held (fun b => b < W'.heap.size) (Ints A' (applR l ms ts).1) W' ∧ Below W.heap.size W W' := by
  have HC := Lib.hid (open_calls AH cH l A c ms AT cT ts W q)
  have hmf : ∀ (fn : Fn) (first cap : Array Value) (w : World), (Instr.makeFunc fn first cap).run Try.prog w = .ok (.func fn first cap) w := fun _ _ _ _ => rfl
  obtain ⟨GH, h⟩ := q.h
  obtain ⟨GM, hM⟩ := q.hM
  obtain ⟨GT, hT⟩ := q.hT
  have HFI : Hid (∀ V cp A2 c2, Below W.heap.size W V → checkAllE l ms ts = 0 → OpenAt cp AH cH l AT cT ts A2 c2 V → Calls Try.prog 42 #[.slice A ms.length c, .func (.func 43) #[.pointer (some ⟨cp, 0, none⟩)] #[]] V fun e W' => ∃ v, e = .returned v ∧
      Own metR 39 8 V.heap.size (fun b => b < V.heap.size) v (ms.filter (appB l ts)) W' ∧ Below V.heap.size V W') :=
    Lib.hid (fun V cp A2 c2 hv he ho => by
      obtain ⟨z1, z2, z3, z4, z5, z6⟩ := checkAllE_zero he
      refine (filter_calls A c ms (fun b => b < V.heap.size) V (hM.keep (Keep.all hv)).here q.hn 43 #[.pointer (some ⟨cp, 0, none⟩)] #[] (appB l ts) (enters Try.func43 (by kernel_rfl) rfl)
        (fun m hm A1 c1 A2' c2' wr hb h1 h2 => by
          have hvr := below_step hv hb
          refine (applies_calls cp AH cH l AT cT ts m A1 A2' c1 c2' wr (ho.call.keep hb) GH (h.keep (Keep.all hvr)) q.hcH q.ol q.hl GT (hT.keep (Keep.all hvr)) _ h2 (z5 m hm) (by rw [z5 m hm]; exact q.hts) (q.hs m hm)).mono ?_
          rintro e w' ⟨q, (⟨q1, rfl⟩ | ⟨q1, rfl⟩)⟩
          · exact ⟨by rw [appB_true q1], q⟩
          · exact ⟨by rw [appB_false q1], q⟩)).mono ?_
      rintro e W' ⟨v, rfl, ho2, hb⟩
      exact ⟨v, rfl, ho2.mono fun b _ hb => hb.2, hb⟩)
  have hn := q.hn
  clear h hM hT q
  go_enter Try.func24, Try.ntmps24
  go_wp2_with (fail)
  refine HC.out.mono ?_
  clear HC
  rintro e V ⟨hbv, (⟨hz, rfl⟩ | ⟨hz, cp, A2, c2, rfl, hcp, ho⟩)⟩
  · have t1 : (checkAllE l ms ts != 0) = true := by rw [bne_iff_ne]; exact hz
    have HR := Lib.hid (applR_bad hz)
    clear hz HFI
    generalize checkAllE l ms ts = ce at t1 HR
    go_wp2
    go_ret2
    exact ⟨none, 0, (by rw [HR.out]; try rfl), (by rw [HR.out]; exact fun _ _ => Slc.nil _ _ _ _), hbv⟩
  · have HF := Lib.hid (HFI.out V cp A2 c2 hbv hz ho)
    have HR := Lib.hid (applR_ok hz)
    have HFL : Hid ((ms.filter (appB l ts)).length ≤ ms.length) := Lib.hid (List.length_filter_le _ _)
    clear hz ho HFI
    generalize ms.filter (appB l ts) = fm at HF HR HFL
    go_wp2_with (fail)
    refine HF.out.mono ?_
    clear HF
    rintro e V2 ⟨v, rfl, hown, hb2⟩
    obtain ⟨A5, c5, rfl, hc5, h5⟩ := hown.out
    have q2 := below_step hbv hb2
    have HI := Lib.hid (ids_calls A5 c5 fm _ V2 h5 (by have := HFL.out; omega))
    clear hown h5
    go_wp2_with (fail)
    refine HI.out.mono ?_
    clear HI
    rintro e V3 ⟨v, rfl, hv, hb3⟩
    obtain ⟨A6, c6, rfl, _, h6⟩ := hv.out
    have H6 := Lib.hid h6
    have q3 := below_step q2 hb3
    have HLE : Hid ((fm.map (·.id)).length = (fm.map (·.id)).length) := Lib.hid rfl
    clear hv h6
    generalize fm.map (·.id) = ids at H6 HR
    go_wp2
    go_ret2
    exact ⟨A6, c6, (by rw [HR.out]; try rfl), (by rw [HR.out]; exact H6.out.mono fun b hb _ => hb), q3⟩

set_option maxHeartbeats 8000000 in
set_option maxRecDepth 100000 in
theorem hasInt_calls (A : Option Addr) (c : Nat) (l : List Int) (x : Int) (W : World) (h : Ints A l W) (hl : l.length ≤ 1000000) :
    Calls Try.prog 25 #[.slice A l.length c, .int .i64 x] W fun e W' => e = .returned (.bool (hasI l x)) ∧ W' = W := by
  have H := Lib.hid h
  clear h
  go_enter Try.func25, Try.ntmps25
  go_wp2_with (fail)
  go_loopw [5] (fun i wr => ∃ k : Nat, k ≤ l.length ∧ i = .int .i64 k ∧ hasI (l.take k) x = false ∧ wr = W) (fun i _ => l.length - (intOf i).toNat)
  case atStart => exact ⟨0, Nat.zero_le _, rfl, rfl, rfl⟩
  case round =>
    obtain ⟨k, hk, rfl, hno, rfl⟩ := hrel
    have HNO := Lib.hid hno
    clear hno
    by_cases hlt : k < l.length
    · have hy : l[k]? = some l[k] := List.getElem?_eq_getElem hlt
      generalize l[k] = y at hy
      have HY := Lib.hid hy
      obtain ⟨b, off, cs, rfl, _, hr, hc⟩ := H.out k y hy
      have g0 : wr.cell? ⟨b, off + k, none⟩ = some (.int .i64 y) := by
        have e : cs = [.int .i64 y] := hr
        subst e
        simpa using hc 0 _ rfl
      clear hy hr hc
      by_cases hyx : y = x
      · have t1 : (y == x) = true := beq_iff_eq.2 hyx
        have HB : Hid (hasI l x = true) := Lib.hid (hasI_iff.2 (by rw [← hyx]; exact List.mem_of_getElem? HY.out))
        clear hyx
        go_wp2
        go_ret
        exact ⟨(by rw [HB.out]; try rfl), rfl⟩
      · have t1 : (y == x) = false := beq_eq_false_iff_ne.2 hyx
        have HN : Hid (hasI (l.take (k + 1)) x = false) := Lib.hid (by
          rw [take_snoc HY.out]
          have := HNO.out
          unfold hasI at this ⊢
          rw [List.any_append, this]
          simp [hyx])
        clear hyx
        go_wp2
        exact ⟨⟨k + 1, by omega, by go_num, HN.out, trivial⟩, by simp [intOf]; omega⟩
    · obtain rfl : k = l.length := by omega
      have HB : Hid (hasI l x = false) := Lib.hid (by have := HNO.out; rwa [List.take_length] at this)
      go_wp2
      go_ret
      exact ⟨(by rw [HB.out]; try rfl), rfl⟩

/-- The place of a method. -/
def findI (ms : List Meth) (x : Int) : Int := match ms.findIdx? (fun m => decide (m.id = x)) with
  | some i => i
  | none => -1
theorem findI_some {ms : List Meth} {x : Int} {k : Nat} {m : Meth} (hm : ms[k]? = some m) (hx : m.id = x) (hno : hasI ((ms.take k).map (·.id)) x = false) : findI ms x = k := by
  obtain ⟨hk, rfl⟩ := List.getElem?_eq_some_iff.1 hm
  unfold findI
  have : ms.findIdx? (fun m => decide (m.id = x)) = some k := by
    rw [List.findIdx?_eq_some_iff_getElem]
    refine ⟨hk, by simpa using hx, fun j hj => ?_⟩
    simp only [decide_eq_true_eq]
    intro e
    refine hasI_false.1 hno (List.mem_map.2 ⟨ms[j], ?_, e⟩)
    rw [List.mem_iff_getElem?]
    exact ⟨j, by rw [List.getElem?_take, if_pos hj, List.getElem?_eq_getElem (by omega)]⟩
  rw [this]
theorem findI_none {ms : List Meth} {x : Int} (hno : hasI (ms.map (·.id)) x = false) : findI ms x = -1 := by
  unfold findI
  have : ms.findIdx? (fun m => decide (m.id = x)) = none := by
    rw [List.findIdx?_eq_none_iff]
    intro y hy
    simp only [decide_eq_false_iff_not]
    exact fun e => hasI_false.1 hno (List.mem_map.2 ⟨y, hy, e⟩)
  rw [this]
set_option maxHeartbeats 8000000 in
set_option maxRecDepth 100000 in
theorem find_calls (A : Option Addr) (c : Nat) (ms : List Meth) (x : Int) (W : World) (G : Nat → Prop) (h : Held G (Meths A ms) W) (hl : ms.length ≤ 1000000) :
    Calls Try.prog 28 #[.slice A ms.length c, .int .i64 x] W fun e W' => e = .returned (.int .i64 (findI ms x)) ∧ W' = W := by
  have H := Lib.hid h
  clear h
  go_enter Try.func28, Try.ntmps28
  go_wp2_with (fail)
  go_loopw [5] (fun i wr => ∃ k : Nat, k ≤ ms.length ∧ i = .int .i64 k ∧ hasI ((ms.take k).map (·.id)) x = false ∧ wr = W) (fun i _ => ms.length - (intOf i).toNat)
  case atStart => exact ⟨0, Nat.zero_le _, rfl, rfl, rfl⟩
  case round =>
    obtain ⟨k, hk, rfl, hno, rfl⟩ := hrel
    have HNO := Lib.hid hno
    clear hno
    by_cases hlt : k < ms.length
    · obtain ⟨b, off, rfl⟩ := Slc.addrH H.out (by omega)
      have hy : ms[k]? = some ms[k] := List.getElem?_eq_getElem hlt
      generalize ms[k] = y at hy
      have HY := Lib.hid hy
      obtain ⟨A1, c1, A2, c2, _, _, _, _, g0, _, _, _, _, _, _, _⟩ := Meths.atH H.out hy
      clear hy
      by_cases hyx : y.id = x
      · have t1 : (y.id == x) = true := beq_iff_eq.2 hyx
        have HB := Lib.hid (findI_some HY.out hyx HNO.out)
        clear hyx
        go_wp2
        go_ret
        exact ⟨(by rw [HB.out]; try rfl), rfl⟩
      · have t1 : (y.id == x) = false := beq_eq_false_iff_ne.2 hyx
        have HN : Hid (hasI ((ms.take (k + 1)).map (·.id)) x = false) := Lib.hid (by
          rw [take_snoc HY.out, List.map_append]
          have := HNO.out
          unfold hasI at this ⊢
          rw [List.any_append, this]
          simp [hyx])
        clear hyx
        go_wp2
        exact ⟨⟨k + 1, by omega, by go_num, HN.out, trivial⟩, by simp [intOf]; omega⟩
    · obtain rfl : k = ms.length := by omega
      have HB := Lib.hid (findI_none (ms := ms) (x := x) (by have := HNO.out; rwa [List.take_length] at this))
      go_wp2
      go_ret
      exact ⟨(by rw [HB.out]; try rfl), rfl⟩
end Go.Proofs.Ytepnmejahbiacaa

/- The order of a list of methods does not change what Order returns, nor do methods that are not applicable. No program in sight. -/
namespace Go.Proofs.Ytepnmejahbiacaa
open Go.RowKit

theorem pickOk_dom {α : Type} {P : α → α → Bool} {l : List α} {i : Nat} {a : α} (hd : l.Nodup) (ha : l[i]? = some a) : pickOk P l i = true ↔ ∀ b ∈ l, b ≠ a → P a b = true := by
  rw [pickOk_iff]
  constructor
  · intro h b hb hne
    obtain ⟨k, hk⟩ := List.mem_iff_getElem?.1 hb
    rcases h k (List.getElem?_eq_some_iff.1 hk).1 with q | q
    · subst q
      rw [ha] at hk
      exact absurd (Option.some.inj hk).symm hne
    · rwa [pairP_at ha hk] at q
  · intro h k hk
    rcases Nat.decEq i k with q | q
    · right
      have hb := List.getElem?_eq_getElem hk
      rw [pairP_at ha hb]
      refine h _ (List.getElem_mem hk) fun e => q ?_
      rw [e] at hb
      exact nodup_inj hd ha hb
    · exact .inl q
theorem pick_dom {α : Type} {P : α → α → Bool} {l : List α} {i : Nat} (hd : l.Nodup) (h : pick P l = some i) : ∃ a, l[i]? = some a ∧ a ∈ l ∧ ∀ b ∈ l, b ≠ a → P a b = true := by
  obtain ⟨h1, h2, _⟩ := pick_some h
  have ha := List.getElem?_eq_getElem h1
  exact ⟨l[i], ha, List.getElem_mem h1, (pickOk_dom hd ha).1 h2⟩
theorem pick_not {α : Type} {P : α → α → Bool} {l : List α} {a : α} (hd : l.Nodup) (h : pick P l = none) (ha : a ∈ l) (hdom : ∀ b ∈ l, b ≠ a → P a b = true) : False := by
  obtain ⟨i, hi⟩ := List.mem_iff_getElem?.1 ha
  have := pick_none h i (List.getElem?_eq_some_iff.1 hi).1
  rw [(pickOk_dom hd hi).2 hdom] at this
  cases this
theorem erase_perm {α : Type} {l : List α} {i : Nat} {a : α} (h : l[i]? = some a) : (a :: l.eraseIdx i).Perm l := by
  obtain ⟨hi, rfl⟩ := List.getElem?_eq_some_iff.1 h
  rw [List.eraseIdx_eq_take_drop_succ]
  have e : l = l.take i ++ l[i] :: l.drop (i + 1) := by simp
  refine List.Perm.trans (List.perm_middle.symm) ?_
  rw [← e]
theorem orderG_any {α : Type} {P : α → α → Bool} (hirr : ∀ a b, P a b = true → P b a = true → False) : ∀ (n : Nat) (l m : List α), l.Perm m → l.Nodup → (orderG P n l).1 = (orderG P n m).1 ∧ (orderG P n l).2.Perm (orderG P n m).2
  | 0, l, m, h, _ => ⟨rfl, h⟩
  | n + 1, l, m, h, hd => by
    have hdm : m.Nodup := h.nodup_iff.1 hd
    rw [orderG, orderG]
    cases hl : pick P l with
    | none =>
      cases hm : pick P m with
      | none => exact ⟨rfl, h⟩
      | some j =>
        obtain ⟨b, _, hb, hdom⟩ := pick_dom hdm hm
        exact (pick_not hd hl (h.mem_iff.2 hb) fun x hx hne => hdom x (h.mem_iff.1 hx) hne).elim
    | some i =>
      obtain ⟨a, hia, ha, hda⟩ := pick_dom hd hl
      cases hm : pick P m with
      | none => exact (pick_not hdm hm (h.mem_iff.1 ha) fun x hx hne => hda x (h.mem_iff.2 hx) hne).elim
      | some j =>
        obtain ⟨b, hjb, hb, hdb⟩ := pick_dom hdm hm
        have hab : a = b := by
          apply Classical.byContradiction
          intro hne
          exact hirr a b (hda b (h.mem_iff.2 hb) fun e => hne e.symm) (hdb a (h.mem_iff.1 ha) hne)
        subst hab
        simp only [hia, hjb]
        have hp : (l.eraseIdx i).Perm (m.eraseIdx j) := by
          have h1 := (erase_perm hia).trans (h.trans (erase_perm hjb).symm)
          exact h1.cons_inv
        obtain ⟨r1, r2⟩ := orderG_any hirr n _ _ hp (hd.sublist (List.eraseIdx_sublist l i))
        exact ⟨by rw [r1], r2⟩

theorem areMs_nodup {l : List CI} {ms : List Meth} (h : AreMs l ms = true) : (ms.map (·.id)).Nodup := by
  unfold AreMs at h
  rw [Bool.and_eq_true] at h
  exact of_decide_eq_true h.1
theorem ids_nodup {ms : List Meth} (h : (ms.map (·.id)).Nodup) : ms.Nodup := by
  rw [List.nodup_iff_pairwise_ne, List.pairwise_map] at h
  rw [List.nodup_iff_pairwise_ne]
  exact h.imp fun {a b} hab e => hab (by rw [e])
theorem any_chk {l : List CI} {ms back : List Meth} {ts : List Tag} (hz : checkAllE l ms ts = 0) (hlen : back.length ≤ ms.length) (hmem : ∀ m ∈ back, m ∈ ms) (hnd : (back.map (·.id)).Nodup) : checkAllE l back ts = 0 := by
  obtain ⟨h0, h1, h2, h3, h4, h5⟩ := checkAllE_zero hz
  have hv := areMs_valid h2
  have h6 : (back[0]?.map fun m => m.pars.length).getD 0 = ts.length ∨ back.length = 0 := by
    cases back with
    | nil => exact .inr rfl
    | cons m b => exact .inl (h4 m (hmem m (by simp)))
  have h7 : AreMs l back = true := by
    unfold AreMs
    rw [Bool.and_eq_true]
    refine ⟨decide_eq_true hnd, List.all_eq_true.2 fun m hm => ?_⟩
    have h8 : (back[0]?.map fun m => m.pars.length).getD 0 = ts.length := by
      rcases h6 with h6 | h6
      · exact h6
      · have := List.length_pos_of_mem hm; omega
    unfold parsOk
    simp only [Bool.and_eq_true, decide_eq_true_eq]
    refine ⟨⟨by rw [h8]; exact h4 m (hmem m hm), by rw [h4 m (hmem m hm)]; exact h3⟩, List.all_eq_true.2 fun p hp => decide_eq_true (hv m (hmem m hm) p hp)⟩
  refine chk_zero h0 ?_
  have h8 : ts.all (tagOk l) = true := List.all_eq_true.2 h5
  unfold chkB
  rw [h7, h8, decide_eq_true (show back.length ≤ 300 by omega), decide_eq_true h3]
  rcases h6 with h6 | h6
  · rw [decide_eq_true h6]; simp
  · rw [decide_eq_true h6]; simp
/-- Order of the applicable ones, turned round. -/
theorem any_order {l : List CI} {ms : List Meth} {ts : List Tag} (hz : checkAllE l ms ts = 0) : checkAllE l (ms.filter (appB l ts)).reverse ts = 0 ∧ orderR l (ms.filter (appB l ts)).reverse ts = orderR l ms ts := by
  obtain ⟨h0, h1, h2, h3, h4, h5⟩ := checkAllE_zero hz
  have hnd := areMs_nodup h2
  have hsub : ((ms.filter (appB l ts)).map (·.id)).Nodup := hnd.sublist (List.Sublist.map _ List.filter_sublist)
  have hrev : ((ms.filter (appB l ts)).reverse.map (·.id)).Nodup := by
    rw [List.map_reverse]
    exact (List.reverse_perm _).nodup_iff.2 hsub
  have hzb : checkAllE l (ms.filter (appB l ts)).reverse ts = 0 := any_chk hz (by rw [List.length_reverse]; exact List.length_filter_le _ _) (fun m hm => (List.mem_filter.1 (List.mem_reverse.1 hm)).1) hrev
  refine ⟨hzb, ?_⟩
  have hf : (ms.filter (appB l ts)).reverse.filter (appB l ts) = (ms.filter (appB l ts)).reverse := List.filter_eq_self.2 fun m hm => (List.mem_filter.1 (List.mem_reverse.1 hm)).2
  have hp := orderG_any (P := precB l ts) (fun a b => precB_asymm) (ms.filter (appB l ts)).length (ms.filter (appB l ts)).reverse (ms.filter (appB l ts)) (List.reverse_perm _) (ids_nodup hrev)
  have e : ordB l ts (ms.filter (appB l ts)).reverse = orderG (precB l ts) (ms.filter (appB l ts)).length (ms.filter (appB l ts)).reverse := by
    unfold ordB
    rw [hf, List.length_reverse]
  have e2 : ordB l ts ms = orderG (precB l ts) (ms.filter (appB l ts)).length (ms.filter (appB l ts)) := rfl
  unfold orderR
  rw [if_pos hz, if_pos hzb, e, e2, hp.1, hp.2.length_eq]

/-- What the law's list holds. -/
def backL (ids : List Int) (ms : List Meth) (k : Nat) : List Meth := ((ms.drop k).filter fun m => hasI ids m.id).reverse
theorem backL_step {ids : List Int} {ms : List Meth} {k : Nat} {x : Meth} (hx : ms[k]? = some x) : backL ids ms k = backL ids ms (k + 1) ++ (if hasI ids x.id = true then [x] else []) := by
  obtain ⟨hk, rfl⟩ := List.getElem?_eq_some_iff.1 hx
  unfold backL
  rw [List.drop_eq_getElem_cons hk, List.filter_cons]
  split <;> simp
theorem backL_end (ids : List Int) (ms : List Meth) : backL ids ms ms.length = [] := by unfold backL; simp
theorem backL_len (ids : List Int) (ms : List Meth) (k : Nat) : (backL ids ms k).length ≤ ms.length := by
  unfold backL
  rw [List.length_reverse]
  refine Nat.le_trans (List.length_filter_le _ _) ?_
  rw [List.length_drop]; omega
theorem backL_mem {ids : List Int} {ms : List Meth} {k : Nat} {m : Meth} (h : m ∈ backL ids ms k) : m ∈ ms := by
  unfold backL at h
  exact List.mem_of_mem_drop (List.mem_filter.1 (List.mem_reverse.1 h)).1
theorem ids_hasI {ms : List Meth} (hnd : (ms.map (·.id)).Nodup) (q : Meth → Bool) {m : Meth} (hm : m ∈ ms) : hasI ((ms.filter q).map (·.id)) m.id = q m := by
  cases hq : q m with
  | true => exact hasI_iff.2 (List.mem_map.2 ⟨m, List.mem_filter.2 ⟨hm, hq⟩, rfl⟩)
  | false =>
    rw [hasI_false]
    intro h
    obtain ⟨y, hy, e⟩ := List.mem_map.1 h
    obtain ⟨hy1, hy2⟩ := List.mem_filter.1 hy
    obtain ⟨i, hi⟩ := List.mem_iff_getElem?.1 hm
    obtain ⟨j, hj⟩ := List.mem_iff_getElem?.1 hy1
    have e1 : (ms.map (·.id))[i]? = some m.id := by rw [List.getElem?_map, hi]; rfl
    have e2 : (ms.map (·.id))[j]? = some m.id := by rw [List.getElem?_map, hj]; exact congrArg some e
    obtain rfl := nodup_inj hnd e1 e2
    rw [hi] at hj
    obtain rfl := Option.some.inj hj
    rw [hq] at hy2; cases hy2
theorem backL_all {l : List CI} {ms : List Meth} {ts : List Tag} (hz : checkAllE l ms ts = 0) : backL (applR l ms ts).1 ms 0 = (ms.filter (appB l ts)).reverse := by
  obtain ⟨_, _, h2, _, _, _⟩ := checkAllE_zero hz
  rw [applR_ok hz]
  unfold backL
  rw [List.drop_zero]
  congr 1
  exact List.filter_congr fun m hm => ids_hasI (areMs_nodup h2) (appB l ts) hm
end Go.Proofs.Ytepnmejahbiacaa
