/- The law's helpers: class, method; the references' Index, Distinct, Cpl, SameInts. -/
import Derived.Test.YtepnmejahbiacaaOn
set_option linter.unusedVariables false
set_option linter.unusedSimpArgs false
namespace Go.Proofs.Ytepnmejahbiacaa
open Go.RowKit

set_option maxHeartbeats 4000000 in
set_option maxRecDepth 100000 in
theorem class_calls (s : ByteArray) (w : World) : Calls Try.prog 14 #[.string s] w fun e w' => e = .returned (tyV (clsT s) none 0) ∧ Below w.heap.size w w' := by
  go_enter Try.func14, Try.ntmps14
  go_wp2
  refine bodyPost_ret (v := tyV (clsT s) none 0) (by simp [results, Try.results14, go_sem]; first | done | exact ⟨rfl, rfl, rfl, rfl, rfl⟩) rfl ?_
  exact ⟨rfl, (Below.refl _ w).alloc (Nat.le_refl _) _⟩

theorem parR.mk {G : Nat → Prop} {n : ByteArray} {t : Ty} {w : World} {A : Option Addr} {c : Nat} (h1 : t.args.length ≤ c) (h3 : Held G (Typs A t.args) w) : Held G (parR ⟨n, t⟩ [.string n, .int .i64 t.kind, .string t.name, .int .i64 t.lo, .int .i64 t.hi, .slice A t.args.length c]) w := fun w' k => ⟨_, rfl, rfl, typR.mk h1 h3 w' k⟩
def nX : ByteArray := ⟨#[120]⟩
/-- A method of one parameter, of a type. -/
def met1 (i : Int) (t : Ty) : Meth := ⟨i, ⟨#[]⟩, [⟨nX, t⟩], .mk 0 ⟨#[]⟩ 0 0 []⟩
set_option maxHeartbeats 4000000 in
set_option maxRecDepth 100000 in
theorem method_calls2 (i : Int) (t : Ty) (A : Option Addr) (c : Nat) (w : World) (G : Nat → Prop) (hA : Held G (Typs A t.args) w) (hc : t.args.length ≤ c) :
    Calls Try.prog 15 #[.int .i64 i, tyV t A c] w fun e w' => ∃ n, e = .returned (metV (met1 i t) (some ⟨n, 0, none⟩) 1 none 0) ∧ w.heap.size ≤ n ∧ n < w'.heap.size ∧ Held (fun b => G b ∨ b = n) (Pars (some ⟨n, 0, none⟩) (met1 i t).pars) w' ∧ Below w.heap.size w w' := by
  go_enter Try.func15, Try.ntmps15
  go_wp2
  refine bodyPost_ret (v := metV (met1 i t) (some ⟨w.heap.size + 1 + 1, 0, none⟩) 1 none 0) (by simp [results, Try.results15, go_sem]; first | done | rfl | exact ⟨rfl, rfl, rfl, rfl, rfl, rfl, rfl, rfl⟩) rfl ?_
  refine ⟨w.heap.size + 1 + 1, rfl, by omega, by simp, ?_, (((Below.refl _ w).alloc (Nat.le_refl _) _).alloc (by simp) _).alloc (by simp; omega) _⟩
  exact (Own.read (Own.single (R := parR) (base := 0) (x := ⟨nX, t⟩) (n := w.heap.size + 1 + 1) (by simp) (Nat.zero_le _) rfl (by simp) (parR.mk hc (hA.keep ((Keep.alloc _ _ _).trans (Keep.alloc _ _ _)))))).2.2.mono fun b _ h => by rcases h with h | h; exact .inl h; exact .inr (by simpa [Value.ownBlock] using h.symm)

theorem method_calls (i : Int) (t : Ty) (A : Option Addr) (c : Nat) (w : World) (G : Nat → Prop) (hA : Held G (Typs A t.args) w) (hc : t.args.length ≤ c) :
    Calls Try.prog 15 #[.int .i64 i, tyV t A c] w fun e w' => ∃ n, e = .returned (metV (met1 i t) (some ⟨n, 0, none⟩) 1 none 0) ∧ w.heap.size ≤ n ∧ n < w'.heap.size ∧ Held (fun b => b < w'.heap.size) (Pars (some ⟨n, 0, none⟩) (met1 i t).pars) w' ∧ Below w.heap.size w w' :=
  (method_calls2 i t A c w G hA hc).mono fun e w' ⟨n, h1, h2, h3, h4, h5⟩ => ⟨n, h1, h2, h3, h4.mono fun b hb _ => hb, h5⟩

set_option maxHeartbeats 4000000 in
set_option maxRecDepth 100000 in
theorem rIndex_calls (A : Option Addr) (c : Nat) (l : List ByteArray) (x : ByteArray) (w : World) (hA : Strs A l w) (hl : l.length ≤ 1000000) :
    Calls Try.prog 19 #[.slice A l.length c, .string x] w fun e w' => e = .returned (.int .i64 (idx l x)) ∧ w = w' := by
  go_enter Try.func19, Try.ntmps19
  go_wp2
  go_loop [5] (fun i => ∃ k : Nat, k ≤ l.length ∧ i = .int .i64 k ∧ ∀ j y, j < k → l[j]? = some y → y ≠ x) (fun i => l.length - (intOf i).toNat)
  case atStart => exact ⟨0, Nat.zero_le _, rfl, fun j y h => absurd h (by omega)⟩
  case round =>
    obtain ⟨k, hk, rfl, heq⟩ := hrel
    have HE := Lib.hid heq
    clear heq
    by_cases hlt : k < l.length
    · obtain ⟨b, off, rfl⟩ := hA.addr (by omega)
      have hy : l[k]? = some l[k] := List.getElem?_eq_getElem hlt
      have h1 := Strs.at hA hy
      generalize l[k] = y at hy h1
      have HY := Lib.hid hy
      clear hy
      by_cases hyx : y = x
      · subst hyx
        have HI : Hid (idx l y = k) := Lib.hid (by
          unfold idx
          have : l.findIdx? (fun z => decide (z = y)) = some k := by
            rw [List.findIdx?_eq_some_iff_getElem]
            obtain ⟨h0, e0⟩ := List.getElem?_eq_some_iff.1 HY.out
            refine ⟨h0, by simp [e0], fun j hj => ?_⟩
            have := HE.out j _ hj (List.getElem?_eq_getElem (by omega))
            simpa using this
          rw [this])
        go_wp2
        go_ret
        exact ⟨(by rw [HI.out]; try rfl), rfl⟩
      · have HN := Lib.hid hyx
        go_wp2
        go_round
        case rel =>
          refine ⟨k + 1, by omega, by go_num, fun j z hj hz => ?_⟩
          rcases Nat.lt_or_ge j k with q | q
          · exact HE.out j z q hz
          · obtain rfl : j = k := by omega
            rw [HY.out] at hz; cases hz; exact HN.out
        case measure => simp [intOf]; omega
    · have HI : Hid (idx l x = -1) := Lib.hid (idx_neg (by
        intro hx
        obtain ⟨j, hj⟩ := List.mem_iff_getElem?.1 hx
        exact HE.out j x (by have := (List.getElem?_eq_some_iff.1 hj).1; omega) hj rfl))
      go_wp2
      go_ret
      exact ⟨(by rw [HI.out]; try rfl), rfl⟩

def distinctB (l : List ByteArray) : Bool := (List.range l.length).all fun i => match l[i]? with | some x => !hasS (l.take i) x | none => true
theorem distinct_nodup {l : List ByteArray} (h : distinctB l = true) : l.Nodup := by
  rw [List.nodup_iff_pairwise_ne, List.pairwise_iff_getElem]
  intro i j hi hj hij e
  unfold distinctB at h
  have := List.all_eq_true.1 h j (List.mem_range.2 hj)
  rw [List.getElem?_eq_getElem hj] at this
  have h1 : hasS (l.take j) l[j] = false := by simpa using this
  refine hasS_false.1 h1 ?_
  rw [← e]
  exact List.mem_of_getElem? (i := i) (by rw [List.getElem?_take, if_pos hij]; exact List.getElem?_eq_getElem hi)
theorem idx_ge {l : List ByteArray} {x : ByteArray} : decide (0 ≤ idx l x) = hasS l x := by
  unfold idx hasS
  cases h : l.findIdx? (fun y => decide (y = x)) with
  | none =>
    have : (l.any fun y => decide (y = x)) = false := by
      rw [List.any_eq_false]; intro y hy
      have := List.findIdx?_eq_none_iff.1 h y hy
      simpa using this
    rw [this]; rfl
  | some i =>
    have : (l.any fun y => decide (y = x)) = true := by
      obtain ⟨h0, h1, _⟩ := List.findIdx?_eq_some_iff_getElem.1 h
      exact List.any_eq_true.2 ⟨l[i], List.getElem_mem h0, h1⟩
    rw [this]; exact decide_eq_true (show (0 : Int) ≤ (i : Int) by omega)

set_option maxHeartbeats 4000000 in
set_option maxRecDepth 100000 in
theorem distinct_calls (A : Option Addr) (c : Nat) (l : List ByteArray) (w : World) (G : Nat → Prop) (h : Held G (Strs A l) w) (hc : l.length ≤ c) (hl : l.length ≤ 1000000) :
    Calls Try.prog 12 #[.slice A l.length c] w fun e w' => e = .returned (.bool (distinctB l)) ∧ Drw w w' := by
  go_enter Try.func12, Try.ntmps12
  go_wp2
  go_loopw [3] (fun i wr => ∃ k : Nat, k ≤ l.length ∧ i = .int .i64 k ∧ (∀ j y, j < k → l[j]? = some y → hasS (l.take j) y = false) ∧ Drw w wr) (fun i _ => l.length - (intOf i).toNat)
  case atStart => exact ⟨0, Nat.zero_le _, rfl, fun j y h => absurd h (by omega), Drw.refl _⟩
  case round =>
    obtain ⟨k, hk, rfl, heq, hd⟩ := hrel
    obtain ⟨n, rfl⟩ := hd
    have HE := Lib.hid heq
    clear heq
    by_cases hlt : k < l.length
    · obtain ⟨b, off, rfl⟩ := Slc.addrH h (by omega)
      have hy : l[k]? = some l[k] := List.getElem?_eq_getElem hlt
      have h1 : w.cell? ⟨b, off + k, none⟩ = some (.string l[k]) := (Strs.atH h hy).now
      generalize l[k] = y at hy h1
      have HY := Lib.hid hy
      clear hy
      have hkc : k ≤ c := by omega
      have hlk : (l.take k).length = k := by rw [List.length_take]; omega
      have HX : Hid (∀ U, Drw w U → Calls Try.prog 19 #[.slice (some ⟨b, off, none⟩) k c, .string y] U fun e w' => e = .returned (.int .i64 (idx (l.take k) y)) ∧ U = w') := Lib.hid (fun U hu => by
        obtain ⟨m, rfl⟩ := hu
        have := rIndex_calls (some ⟨b, off, none⟩) c (l.take k) y (w.drewN m) (((h.imp fun _ _ q => Slc.take q k).keep (Keep.drewN _ _ _)).now) (by omega)
        rw [hlk] at this
        exact this)
      clear hlk
      have HI : Hid (decide (0 ≤ idx (l.take k) y) = hasS (l.take k) y) := Lib.hid idx_ge
      cases hh : hasS (l.take k) y with
      | true =>
        have t1 : decide ((0 : Int) ≤ idx (l.take k) y) = true := HI.out.trans hh
        have HB : Hid (distinctB l = false) := Lib.hid (by
          unfold distinctB; rw [List.all_eq_false]
          exact ⟨k, List.mem_range.2 hlt, by rw [HY.out]; simp [hh]⟩)
        generalize idx (l.take k) y = ix at HX t1
        clear hh HI
        go_wp2
        go_quiet ((go_at_call 19; exact (HX.out _ (by first | exact Drw.of _ _ | exact (Drw.of _ _).drewN _)).mono fun _ _ ⟨a, b⟩ => ⟨a, _, b.symm⟩))
        go_wp2
        go_ret
        exact ⟨(by rw [HB.out]; try rfl), by first | exact Drw.of _ _ | exact (Drw.of _ _).drewN _⟩
      | false =>
        have t1 : decide ((0 : Int) ≤ idx (l.take k) y) = false := HI.out.trans hh
        have HH := Lib.hid hh
        generalize idx (l.take k) y = ix at HX t1
        clear hh HI
        go_wp2
        go_quiet ((go_at_call 19; exact (HX.out _ (by first | exact Drw.of _ _ | exact (Drw.of _ _).drewN _)).mono fun _ _ ⟨a, b⟩ => ⟨a, _, b.symm⟩))
        go_wp2
        go_roundw
        case rel =>
          refine ⟨k + 1, by omega, by go_num, fun j z hj hz => ?_, by first | exact Drw.of _ _ | exact (Drw.of _ _).drewN _⟩
          rcases Nat.lt_or_ge j k with q | q
          · exact HE.out j z q hz
          · obtain rfl : j = k := by omega
            rw [HY.out] at hz; cases hz; exact HH.out
        case measure => simp [intOf]; omega
    · have HB : Hid (distinctB l = true) := Lib.hid (by
        unfold distinctB; rw [List.all_eq_true]
        intro j hj
        have hj' := List.mem_range.1 hj
        rw [List.getElem?_eq_getElem hj']
        simp [HE.out j _ (by omega) (List.getElem?_eq_getElem hj')])
      go_wp2
      go_ret
      exact ⟨(by rw [HB.out]; try rfl), Drw.of _ _⟩

set_option maxHeartbeats 4000000 in
set_option maxRecDepth 100000 in
theorem rCpl_calls (A : Option Addr) (c : Nat) (l : List CI) (s : ByteArray) (w : World) (G : Nat → Prop) (h : Held G (CIs A l) w) (hl : l.length ≤ 1000000) :
    Calls Try.prog 17 #[.slice A l.length c, .string s] w fun e w' => w' = w ∧ ∃ A' c', e = .returned (.slice A' (((l.find? fun x => decide (x.name = s)).map CI.cpl).getD []).length c') ∧ (((l.find? fun x => decide (x.name = s)).map CI.cpl).getD []).length ≤ c' ∧ Held G (Strs A' (((l.find? fun x => decide (x.name = s)).map CI.cpl).getD [])) w := by
  go_enter Try.func17, Try.ntmps17
  go_wp2
  go_loop [5] (fun i => ∃ k : Nat, k ≤ l.length ∧ i = .int .i64 k ∧ ∀ j y, j < k → l[j]? = some y → y.name ≠ s) (fun i => l.length - (intOf i).toNat)
  case atStart => exact ⟨0, Nat.zero_le _, rfl, fun j y h => absurd h (by omega)⟩
  case round =>
    obtain ⟨k, hk, rfl, heq⟩ := hrel
    have HE := Lib.hid heq
    clear heq
    by_cases hlt : k < l.length
    · obtain ⟨b, off, rfl⟩ := Slc.addrH h (by omega)
      have hy : l[k]? = some l[k] := List.getElem?_eq_getElem hlt
      generalize l[k] = y at hy
      obtain ⟨A2, c2, A3, c3, p1, p2, p3, p4, g0, g1, g2, g3, g4, g5⟩ := CIs.atH h hy
      have HY := Lib.hid hy
      clear hy
      by_cases hyx : y.name = s
      · have HI : Hid (l.find? (fun x => decide (x.name = s)) = some y) := Lib.hid (by
          rw [List.find?_eq_some_iff_getElem]
          obtain ⟨h0, e0⟩ := List.getElem?_eq_some_iff.1 HY.out
          refine ⟨by simpa using hyx, k, h0, e0, fun j hj => ?_⟩
          have := HE.out j _ hj (List.getElem?_eq_getElem (by omega))
          simpa using this)
        rw [hyx] at g0
        clear hyx
        go_wp2
        go_ret
        refine ⟨rfl, A3, c3, ?_, ?_, ?_⟩
        · rw [HI.out]; rfl
        · rw [HI.out]; exact p2
        · rw [HI.out]; exact p4
      · have HN := Lib.hid hyx
        go_wp2
        go_round
        case rel =>
          refine ⟨k + 1, by omega, by go_num, fun j z hj hz => ?_⟩
          rcases Nat.lt_or_ge j k with q | q
          · exact HE.out j z q hz
          · obtain rfl : j = k := by omega
            rw [HY.out] at hz; cases hz; exact HN.out
        case measure => simp [intOf]; omega
    · have HI : Hid (l.find? (fun x => decide (x.name = s)) = none) := Lib.hid (by
        rw [List.find?_eq_none]
        intro y hy
        obtain ⟨j, hj⟩ := List.mem_iff_getElem?.1 hy
        have := HE.out j y (by have := (List.getElem?_eq_some_iff.1 hj).1; omega) hj
        simpa using this)
      go_wp2
      go_ret
      refine ⟨rfl, none, 0, ?_, ?_, ?_⟩
      · rw [HI.out]; rfl
      · rw [HI.out]; exact Nat.le_refl _
      · rw [HI.out]; exact fun _ _ => Slc.nil _ _ _ _

set_option maxHeartbeats 4000000 in
set_option maxRecDepth 100000 in
theorem sameInts_calls (A B : Option Addr) (c d : Nat) (l m : List Int) (w : World) (GA GB : Nat → Prop) (hA : Held GA (Ints A l) w) (hB : Held GB (Ints B m) w) (hl : l.length ≤ 1000000) (hm : m.length ≤ 1000000) :
    Calls Try.prog 20 #[.slice A l.length c, .slice B m.length d] w fun e w' => e = .returned (.bool (decide (l = m))) ∧ Drw w w' := by
  by_cases hlen : l.length = m.length
  · have t2 : ((l.length : Int) != (m.length : Int)) = false := bne_eq_false_iff_eq.2 (by omega)
    have HL := Lib.hid hlen
    clear hlen
    go_enter Try.func20, Try.ntmps20
    go_wp2
    go_loopw [5] (fun i wr => ∃ k : Nat, k ≤ l.length ∧ i = .int .i64 k ∧ l.take k = m.take k ∧ Drw w wr) (fun i _ => l.length - (intOf i).toNat)
    case atStart => exact ⟨0, Nat.zero_le _, rfl, by simp, Drw.refl _⟩
    case round =>
      obtain ⟨k, hk, rfl, heq, hd⟩ := hrel
      obtain ⟨n, rfl⟩ := hd
      have HE := Lib.hid heq
      clear heq
      by_cases hlt : k < l.length
      · have hm' : k < m.length := by have := HL.out; omega
        obtain ⟨b, off, rfl⟩ := Slc.addrH hA (by omega)
        obtain ⟨b', off', rfl⟩ := Slc.addrH hB (by omega)
        have hx : l[k]? = some l[k] := List.getElem?_eq_getElem hlt
        have hy : m[k]? = some m[k] := List.getElem?_eq_getElem hm'
        generalize l[k] = x at hx
        generalize m[k] = y at hy
        have h1 : w.cell? ⟨b, off + k, none⟩ = some (.int .i64 x) := by
          obtain ⟨cs, _, hr, hc⟩ := Slc.atH hA (by decide) hx
          obtain rfl : cs = [.int .i64 x] := hr.now
          simpa using (hc 0 _ rfl).now
        have h2 : w.cell? ⟨b', off' + k, none⟩ = some (.int .i64 y) := by
          obtain ⟨cs, _, hr, hc⟩ := Slc.atH hB (by decide) hy
          obtain rfl : cs = [.int .i64 y] := hr.now
          simpa using (hc 0 _ rfl).now
        have HX := Lib.hid hx
        have HY := Lib.hid hy
        clear hx hy
        by_cases hxy : x = y
        · subst hxy
          have t1 : (x != x) = false := bne_self_eq_false x
          go_wp2
          go_quiet (fail)
          go_wp2
          go_roundw
          case rel =>
            refine ⟨k + 1, by omega, by go_num, ?_, Drw.of _ _⟩
            rw [List.take_add_one, List.take_add_one, HE.out, HX.out, HY.out]
          case measure => simp [intOf]; omega
        · have hne : l ≠ m := by
            rintro rfl
            have := HX.out; rw [HY.out] at this; exact hxy (Option.some.inj this).symm
          have t1 : (x != y) = true := by rw [bne_iff_ne]; exact hxy
          have HN := Lib.hid hne
          clear hne hxy
          go_wp2
          go_quiet (fail)
          go_wp2
          go_ret
          exact ⟨retB (decide_eq_false HN.out).symm, (Drw.of _ _).drewN _⟩
      · obtain rfl : k = l.length := by omega
        have : l = m := by have h := HE.out; rw [List.take_length] at h; rw [h]; exact List.take_of_length_le (by rw [HL.out]; exact Nat.le_refl _)
        have HM := Lib.hid this
        clear this
        go_wp2
        go_ret
        exact ⟨retB (decide_eq_true HM.out).symm, ⟨n, rfl⟩⟩
  · have t2 : ((l.length : Int) != (m.length : Int)) = true := by rw [bne_iff_ne]; omega
    have HL : Hid (l ≠ m) := Lib.hid (fun e => hlen (by rw [e]))
    clear hlen
    go_enter Try.func20, Try.ntmps20
    go_wp2
    go_ret
    exact ⟨retB (decide_eq_false HL.out).symm, Drw.refl _⟩
end Go.Proofs.Ytepnmejahbiacaa
