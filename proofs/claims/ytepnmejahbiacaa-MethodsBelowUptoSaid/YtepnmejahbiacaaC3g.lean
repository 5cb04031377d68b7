/- The iterator of c3's lists: it yields the lines of the superclasses, then these. -/
import Derived.Test.YtepnmejahbiacaaC3d
import Derived.Stop.RegionWithIn
set_option linter.unusedVariables false
set_option linter.unusedSimpArgs false
namespace Go.Proofs.Ytepnmejahbiacaa
open Go.RowKit

/-- What the loop's body does with a list. -/
def Yields1 (P : Program) (l : Nat) (Bo : Nat → Prop) (M2 : Nat) (J : List (List ByteArray) → (Nat → Prop) → World → Prop) : Prop :=
  ∀ (n : Nat) pre Bi y A c W, J pre Bi W → y.length ≤ c → y.length ≤ 1000000 → pre.length ≤ 1000 → Held (fun b => ¬ (Bi b ∨ Bo b) ∧ b ≠ M2) (Strs A y) W →
    YieldAt Fence.wide n P l #[.slice A y.length c] W fun e W' => e = .returned (.bool true) ∧ ∃ Bi', J (pre ++ [y]) Bi' W' ∧ Chg Bi W W' ∧ ∀ b, Bi' b → b < W'.heap.size ∧ (Bi b ∨ W.heap.size ≤ b)
def IterPost (T hp M1 M2 : Nat) (A : Option Addr) (c : Nat) (g : List Heir) (x : Heir) (Bo : Nat → Prop) (N : Nat) (J : List (List ByteArray) → (Nat → Prop) → World → Prop) (W0 : World) (e : Ending) (W' : World) : Prop :=
  Chg (fun b => b = M2 ∨ N ≤ b) W0 W' ∧
  ((∃ xs Bi, allSome (lineOf g) x.supers = some xs ∧ (∃ v, e = .returned v) ∧ J (xs ++ [x.supers]) Bi W' ∧ TreeInv hp M1 M2 A c g (fun b => Bi b ∨ Bo b) W') ∨
   (allSome (lineOf g) x.supers = none ∧ ∃ ch, e = .panicked ch ∧ Stuck T ch ∧ ∃ pre Bi, J pre Bi W'))

set_option maxHeartbeats 4000000 in
set_option maxRecDepth 100000 in
theorem lists1_calls (hp M1 M2 : Nat) (A : Option Addr) (c : Nat) (g : List Heir) (hck : c3Check g = 0) (i : Nat) (x : Heir) (hx : g[i]? = some x) (tb ib : Nat) (Bo : Nat → Prop) (N : Nat)
    (HL : ∀ j, j < i → ∀ B W, (∀ b, B b → b < W.heap.size) → TreeInv hp M1 M2 A c g B W → Calls Try.prog 90 #[.pointer (some ⟨hp, 0, none⟩), .int .i64 (j : Int)] W (LinePost 155 hp M1 M2 A c g B j W))
    (l : Nat) (J : List (List ByteArray) → (Nat → Prop) → World → Prop) (hJs : ∀ pre Bi W W', J pre Bi W → Chg (fun b => b = M2) W W' → J pre Bi W') (hY : Yields1 Try.prog l Bo M2 J)
    (Bi0 : Nat → Prop) (W0 : World) (h0 : J [] Bi0 W0) (hT : TreeInv hp M1 M2 A c g (fun b => Bi0 b ∨ Bo b) W0) (hN : ∀ b, Bi0 b → N ≤ b ∧ b < W0.heap.size) (hN2 : N ≤ W0.heap.size) (hBo : ∀ b, Bo b → b < N)
    (hG : Held (fun b => b < N ∧ b ≠ M2) (Heirs A g) W0)
    (htb : W0.cell? ⟨tb, 0, none⟩ = some (.pointer (some ⟨hp, 0, none⟩))) (hib : W0.cell? ⟨ib, 0, none⟩ = some (.int .i64 (i : Int))) (htn : tb < N ∧ ib < N ∧ tb ≠ M2 ∧ ib ≠ M2) :
    Calls Try.prog 107 #[.func (.yield l) #[] #[], .pointer (some ⟨tb, 0, none⟩), .pointer (some ⟨ib, 0, none⟩)] W0 (IterPost 155 hp M1 M2 A c g x Bo N J W0) := by
  have hok := (c3Check_zero hck).2
  have hi : i < g.length := (List.getElem?_eq_some_iff.1 hx).1
  have HX := Lib.hid hx
  have HOK := Lib.hid hok
  have hxs : x.supers.length ≤ 8 := by
    have := heirsOk_at hok i x hx
    unfold heirOk at this
    simp only [Bool.and_eq_true, decide_eq_true_eq] at this
    exact this.1.2
  have hgl := (c3Check_zero hck).1
  obtain ⟨b, off, rfl⟩ := Slc.addrH hG (by omega)
  obtain ⟨A2, c2, r2, R2, g1, g2⟩ := Heirs.atH hG hx
  obtain ⟨lines, tr, mm⟩ := hT.tr
  have c0 := tr.c0
  have hbl := cell_lt g1
  clear hx hok hck
  go_enter Try.func107, Try.ntmps107
  go_wp2
  go_quiet (fail)
  go_wp2
  clear c0 tr mm lines
  go_loopw [15] (fun i wr => ∃ k : Nat, k ≤ x.supers.length ∧ i = .int .i64 k ∧ ∃ pre Bi, J pre Bi wr ∧ TreeInv hp M1 M2 (some ⟨b, off, none⟩) c g (fun b => Bi b ∨ Bo b) wr ∧ allSome (lineOf g) (x.supers.take k) = some pre ∧ (∀ b, Bi b → N ≤ b ∧ b < wr.heap.size) ∧ Chg (fun b => b = M2 ∨ N ≤ b) W0 wr) (fun i _ => x.supers.length - (intOf i).toNat)
  case atStart => exact ⟨0, Nat.zero_le _, rfl, [], Bi0, hJs _ _ _ _ h0 (Chg.drewN _ _), hT.all (drewN_below _ _ _), rfl, hN, Chg.drewN _ _⟩
  case round =>
    clear h0 hT hN
    obtain ⟨k, hk, rfl, pre, Bi, hJ, hT, hpre, hBi, hch⟩ := hrel
    have kp : Keep (fun b => b < N ∧ b ≠ M2) W0 wr := hch.keep fun b hb hh => by rcases hh with hh | hh; exact hb.2 hh; omega
    have htb' := cell_keep htb kp ⟨htn.1, htn.2.2.1⟩
    have hib' := cell_keep hib kp ⟨htn.2.1, htn.2.2.2⟩
    have R3 := R2.keep kp
    have g2' := cell_keep g2 kp (Slc.inG hG (by omega) (by decide)).2
    obtain ⟨lines, tr, mm⟩ := hT.tr
    have c0 := tr.c0
    have c1 := tr.c1
    have HPRE := Lib.hid hpre
    clear hpre
    by_cases hlt : k < x.supers.length
    · have HS := Lib.hid (getElem?_lt hlt)
      obtain ⟨j, hj, hla⟩ := super_at HOK.out HX.out (List.getElem_mem hlt)
      generalize x.supers[k] = s at *
      obtain ⟨b2, o2, rfl⟩ := Slc.addrH R3 (by omega)
      have g3 := (Strs.atH R3 HS.out).now
      have hlk1 : (Instr.lookup 94 (.map (some M1)) (.string s) false).run Try.prog wr.drew = .ok (.int .i64 (j : Int)) wr.drew := by
        have := run_at (w := wr.drew) (tr.at_.keep (Keep.drew (fun _ => True) _) trivial) s false
        rw [show lastAt (g.map (·.name)) s = some j from hla] at this
        exact this
      have HLA := Lib.hid hla
      have HL1 := Lib.hid (HL j hj (fun b => Bi b ∨ Bo b) wr.drew (fun b hb => by rcases hb with hb | hb; exact (hBi b hb).2; have := hBo b hb; have := hch.size; show b < wr.heap.size; omega) (hT.all ((Below.refl _ wr).drew)))
      clear hla tr mm lines
      go_wp2
      refine (wpIn_wide (n := 9)).1 ?_
      have HNone : line g j = none → allSome (lineOf g) x.supers = none := fun hh => allSome_take_none HS.out (by unfold lineOf; rw [HLA.out]; exact hh)
      have HSome : ∀ y, line g j = some y → allSome (lineOf g) (x.supers.take (k + 1)) = some (pre ++ [y]) := fun y hh => by
        rw [take_snoc HS.out, allSome_snoc, HPRE.out]
        show (some pre).bind _ = _
        have : lineOf g s = some y := by unfold lineOf; rw [HLA.out]; exact hh
        rw [this]; rfl
      have HN1 := Lib.hid HNone
      have HS1 := Lib.hid HSome
      have HpreL := Lib.hid (allSome_get HPRE.out).1
      have HLL := Lib.hid (fun y hh => line_length HOK.out (i := j) (l := y) hh)
      clear HNone HSome
      gi_region_with (first
        | (refine ⟨trivial, ?_⟩; gi_at_call 90; refine (callsIn_wide.2 HL1.out).mono ?_; rintro e W1 ⟨hch1, (⟨y, A3, c3, q1, rfl, q2, q3, q4⟩ | ⟨q1, ch, rfl, q2⟩)⟩; rotate_left; (exact ⟨rfl, (hch.trans (Chg.drew _)).trans (hch1.mono fun b _ hb => .inl hb), .inr ⟨HN1.out q1, ch, rfl, q2, pre, Bi, hJs _ _ _ _ hJ ((Chg.drew _).trans hch1)⟩⟩); obtain ⟨fn, tm, asg, bd, hy, hR⟩ := hY 8 pre Bi y A3 c3 W1 (hJs _ _ _ _ hJ ((Chg.drew _).trans hch1)) q2 (by have := HLL.out y q1; omega) (by have := HpreL.out; rw [List.length_take] at this; omega) q3)
        | (refine hR.mono ?_; rintro e W2 ⟨rfl, Bi2, hJ2, hch2, hB2⟩))
      all_goals go_wp2
      all_goals
        have s1 := hch.size
        have s2 := hch1.size
        have s3 : wr.drew.heap.size = wr.heap.size := rfl
        refine ⟨⟨k + 1, by omega, by go_num, pre ++ [y], Bi2, hJ2, ?_, HS1.out y q1, fun b hb => ⟨?_, (hB2 b hb).1⟩, ((hch.trans (Chg.drew _)).trans (hch1.mono fun b _ hb => .inl hb)).trans (hch2.mono fun b _ hb => .inr (hBi b hb).1)⟩, by simp [intOf]; omega⟩
        · refine q4.others (hch2.mono fun b _ hb => .inl hb) fun b _ hb => ?_
          rcases hb with hb | hb
          · rcases (hB2 b hb).2 with h | h
            · exact .inl (.inl h)
            · exact .inr h
          · exact .inl (.inr hb)
        · rcases (hB2 b hb).2 with h | h
          · exact (hBi b h).1
          · omega
    · obtain rfl : k = x.supers.length := by omega
      rw [List.take_length] at HPRE
      have HpreL := Lib.hid (allSome_get HPRE.out).1
      have hGR : Held (fun b => ¬ (Bi b ∨ Bo b) ∧ b ≠ M2) (Strs A2 x.supers) wr.drew := by
        obtain ⟨A3, c3, _, R4, _, g5⟩ := Heirs.atH hT.gs HX.out
        rw [g2'] at g5
        simp only [Option.some.injEq, Value.slice.injEq, true_and] at g5
        obtain ⟨rfl, _⟩ := g5
        exact R4.keep (Keep.drew _ _)
      have HCl := Lib.hid (cloneStr_calls A2 c2 x.supers (fun b => ¬ (Bi b ∨ Bo b) ∧ b ≠ M2) wr.drew hGR (by omega))
      have hbl2 : b < wr.heap.size := cell_lt g2'
      have HM2 := Lib.hid tr.ln.lt
      clear tr mm lines
      go_wp2
      refine (wpIn_wide (n := 9)).1 ?_
      gi_region_with (first
        | (refine ⟨trivial, ?_⟩; gi_at_call 76; refine (callsIn_wide.2 HCl.out).mono ?_; rintro e W1 ⟨v, rfl, hown, hb1⟩; obtain ⟨A3, c3, rfl, q2, q3⟩ := hown.out; have q4 : Held (fun b => ¬ (Bi b ∨ Bo b) ∧ b ≠ M2) (Strs A3 x.supers) W1 := (by
          have hs0 : wr.drew.heap.size = wr.heap.size := rfl
          refine q3.mono fun b' hb' hh => ⟨fun q => ?_, fun q => ?_⟩
          · rcases hh with hh | hh
            · exact hh.1 q
            · have h1 : wr.drew.heap.size ≤ b' := (hown.lt b' hh).1
              rcases q with q | q
              · have := (hBi b' q).2; omega
              · have := hBo b' q; have := hch.size; omega
          · rcases hh with hh | hh
            · exact hh.2 q
            · have h1 : wr.drew.heap.size ≤ b' := (hown.lt b' hh).1
              have := HM2.out; omega); obtain ⟨fn, tm, asg, bd, hy, hR⟩ := hY 8 pre Bi x.supers A3 c3 W1 (hJs _ _ _ _ hJ ((Chg.drew _).trans (Chg.of hb1))) q2 (by omega) (by have := HpreL.out; omega) q4)
        | (refine hR.mono ?_; rintro e W2 ⟨rfl, Bi2, hJ2, hch2, hB2⟩))
      all_goals go_wp2
      all_goals
        go_end0
        have s1 := hch.size
        have s2 := hb1.size
        have s3 : wr.drew.heap.size = wr.heap.size := rfl
        have cb1 : ∀ B : Nat → Prop, Chg B wr W1 := fun B => (Chg.drew _).trans (Chg.of hb1)
        refine ⟨(hch.trans (cb1 _)).trans (hch2.mono fun b _ hb => .inr (hBi b hb).1), .inl ⟨pre, Bi2, HPRE.out, ⟨_, rfl⟩, hJ2, ?_⟩⟩
        refine ((hT.all ((Below.refl _ wr).drew)).all hb1).others (hch2.mono fun b _ hb => .inl hb) fun b _ hb => ?_
        rcases hb with hb | hb
        · rcases (hB2 b hb).2 with h | h
          · exact .inl (.inl h)
          · exact .inr h
        · exact .inl (.inr hb)
end Go.Proofs.Ytepnmejahbiacaa
