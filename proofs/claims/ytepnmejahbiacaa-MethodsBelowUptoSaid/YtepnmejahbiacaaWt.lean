/- The law's helpers Weight, few, Mod. -/
import Derived.Test.YtepnmejahbiacaaVa
import Derived.Test.YtepnmejahbiacaaCx
set_option linter.unusedVariables false
set_option linter.unusedSimpArgs false
namespace Go.Proofs.Ytepnmejahbiacaa
open Go.RowKit

mutual
/-- What Weight adds up: the types in a type, until 1000. -/
def Ty.wei : Ty → Int → Int
  | .mk _ _ _ _ args, n => Ty.weis args (n + 1)
def Ty.weis : List Ty → Int → Int
  | [], n => n
  | t :: r, n => if n < 1000 then Ty.weis r (Ty.wei t n) else n
end
theorem Ty.wei_args (t : Ty) (n : Int) : t.wei n = Ty.weis t.args (n + 1) := by cases t; rw [Ty.wei]; rfl
theorem Ty.weis_stop (l : List Ty) {n : Int} (h : ¬ n < 1000) : Ty.weis l n = n := by
  cases l with
  | nil => rw [Ty.weis]
  | cons t r => rw [Ty.weis, if_neg h]
mutual
theorem Ty.wei_ge : ∀ (t : Ty) (n : Int), n + 1 ≤ t.wei n
  | .mk _ _ _ _ args, n => by rw [Ty.wei]; exact Ty.weis_ge args (n + 1)
theorem Ty.weis_ge : ∀ (l : List Ty) (n : Int), n ≤ Ty.weis l n
  | [], n => by rw [Ty.weis]; exact Int.le_refl _
  | t :: r, n => by
    rw [Ty.weis]
    split
    · have h1 := Ty.wei_ge t n
      have h2 := Ty.weis_ge r (t.wei n)
      omega
    · exact Int.le_refl _
end
mutual
theorem Ty.wei_le : ∀ (t : Ty) (n : Int), n < 1000 → t.wei n ≤ 1000
  | .mk _ _ _ _ args, n, h => by rw [Ty.wei]; exact Ty.weis_le args (n + 1) (by omega)
theorem Ty.weis_le : ∀ (l : List Ty) (n : Int), n ≤ 1000 → Ty.weis l n ≤ 1000
  | [], n, h => by rw [Ty.weis]; exact h
  | t :: r, n, h => by
    rw [Ty.weis]
    split
    · rename_i h1
      exact Ty.weis_le r _ (Ty.wei_le t n h1)
    · exact h
end
mutual
theorem Ty.wei_count : ∀ (t : Ty) (n : Int), t.wei n < 1000 → t.wei n = n + t.count
  | .mk _ _ _ _ args, n, h => by
    rw [Ty.wei] at h ⊢
    rw [Ty.weis_count args (n + 1) h, Ty.count]; omega
theorem Ty.weis_count : ∀ (l : List Ty) (n : Int), Ty.weis l n < 1000 → Ty.weis l n = n + Ty.counts l
  | [], n, h => by rw [Ty.weis, Ty.counts]; omega
  | t :: r, n, h => by
    rw [Ty.weis] at h ⊢
    split at h
    · rename_i h1
      rw [if_pos h1]
      have e1 := Ty.weis_count r (t.wei n) h
      have h2 := Ty.weis_ge r (t.wei n)
      have e2 := Ty.wei_count t n (by omega)
      rw [e1, e2, Ty.counts]; omega
    · rename_i h1
      exact absurd h h1
end
theorem Ty.len_counts : ∀ (l : List Ty), l.length ≤ Ty.counts l
  | [] => by simp
  | t :: r => by have := Ty.len_counts r; have := t.count_pos; rw [Ty.counts, List.length_cons]; omega
mutual
theorem Ty.all_small : ∀ (t : Ty) (k : Nat), t.count ≤ k → t.all (fun x => decide (x.args.length ≤ k)) = true
  | .mk a b c d args, k, h => by
    rw [Ty.count] at h
    rw [Ty.all, Bool.and_eq_true]
    have := Ty.len_counts args
    exact ⟨decide_eq_true (by show args.length ≤ k; omega), Ty.alls_small args k (by omega)⟩
theorem Ty.alls_small : ∀ (l : List Ty) (k : Nat), Ty.counts l ≤ k → Ty.alls (fun x => decide (x.args.length ≤ k)) l = true
  | [], k, h => by rw [Ty.alls]
  | t :: r, k, h => by
    rw [Ty.counts] at h
    rw [Ty.alls, Ty.all_small t k (by omega), Ty.alls_small r k (by omega)]; rfl
end
theorem tySmall_wei {t : Ty} (h : t.wei 0 ≤ 40) : TySmall t := by
  have h1 := Ty.wei_count t 0 (by omega)
  have h2 : t.count ≤ 40 := by omega
  exact ⟨Ty.all_small t 1000000 (by omega), by omega⟩
theorem weis_drop {l : List Ty} {k : Nat} {x : Ty} (hx : l[k]? = some x) {n : Int} (h : n < 1000) : Ty.weis (l.drop k) n = Ty.weis (l.drop (k + 1)) (x.wei n) := by
  obtain ⟨hk, rfl⟩ := List.getElem?_eq_some_iff.1 hx
  rw [List.drop_eq_getElem_cons hk, Ty.weis, if_pos h]

set_option maxHeartbeats 16000000 in
set_option maxRecDepth 100000 in
theorem weight_calls : ∀ (q : Nat) (t : Ty), t.count ≤ q → ∀ (A : Option Addr) (c : Nat) (n : Int) (W : World) (G : Nat → Prop), 0 ≤ n → n < 1000 → Held G (Typs A t.args) W →
    Calls Try.prog 40 #[tyV t A c, .int .i64 n] W fun e W' => e = .returned (.int .i64 (t.wei n)) ∧ Below W.heap.size W W' := by
  intro q
  induction q with
  | zero => intro t hq; have := t.count_pos; omega
  | succ q ih =>
    intro t hq A c n W G hn0 hn1 hT
    have HIH := Lib.hid ih
    clear ih
    have HQ := Lib.hid hq
    clear hq
    obtain ⟨W1, hW1⟩ : ∃ W1, W1 = W.alloc (.cells #[.int .i64 t.kind, .string t.name, .int .i64 t.lo, .int .i64 t.hi, .slice A t.args.length c] 35) := ⟨_, rfl⟩
    have b1 : Below W.heap.size W W1 := by rw [hW1]; exact (Below.refl _ W).alloc (Nat.le_refl _) _
    have xt : ∀ j u, [Value.int .i64 t.kind, .string t.name, .int .i64 t.lo, .int .i64 t.hi, .slice A t.args.length c][j]? = some u → W1.cell? ⟨W.heap.size, j, none⟩ = some u := fun j u hj => by rw [hW1]; exact cell_new W _ _ _ rfl j u hj
    have C4 := Lib.hid (xt 4 _ rfl)
    have hcl := cell_lt C4.out
    clear xt
    have HT := Lib.hid hT
    clear hT
    go_enter Try.func40, Try.ntmps40
    go_wp2_with (fail)
    rw [← hW1]
    clear hW1
    go_loopw [1, 5] (fun m i wr => ∃ (k : Nat) (n' : Int), k ≤ t.args.length ∧ (k : Int) ≤ n' ∧ 0 ≤ n' ∧ n' ≤ 1000 ∧ m = .int .i64 n' ∧ i = .int .i64 k ∧ Ty.weis (t.args.drop k) n' = t.wei n ∧ Below W1.heap.size W1 wr) (fun _ i _ => t.args.length - (intOf i).toNat)
    case atStart => exact ⟨0, n + 1, Nat.zero_le _, by omega, by omega, by omega, by go_num, rfl, by rw [Ty.wei_args]; rfl, Below.refl _ _⟩
    case round =>
      obtain ⟨k, n', hk, hkn, hn0', hn1', rfl, rfl, hw, hb⟩ := hrel
      have HW := Lib.hid hw
      have HKN := Lib.hid hkn
      have hk3 : k ≤ 1000 := by omega
      have HN1 := Lib.hid hn1'
      clear hw hkn hn1'
      have q1 := below_step b1 hb
      have c4 := cell_all C4.out hb
      by_cases hlt : k < t.args.length
      · by_cases hnn : n' < 1000
        · obtain ⟨b, off, rfl⟩ := Slc.addrH HT.out (by omega)
          have hx : t.args[k]? = some t.args[k] := List.getElem?_eq_getElem hlt
          generalize t.args[k] = x at hx
          have HX := Lib.hid hx
          obtain ⟨A3, c3', r1, r2, g0, g1, g2, g3, g4⟩ := Typs.atH (HT.out.all q1) hx
          have hxm : x ∈ t.args := List.mem_of_getElem? hx
          have hcx : x.count ≤ q := by have := Ty.count_mem hxm; have := HQ.out; omega
          have HST := Lib.hid (HIH.out x hcx A3 c3' n' wr _ hn0' hnn r2)
          have HD := Lib.hid (weis_drop hx hnn)
          have HG := Lib.hid (Ty.wei_ge x n')
          have HL := Lib.hid (Ty.wei_le x n' hnn)
          clear hx hcx hxm r1 r2
          go_wp2_with (fail)
          refine HST.out.mono ?_
          clear HST
          rintro e V ⟨rfl, hbV⟩
          generalize x.wei n' = n2 at HD HG HL
          go_wp2
          exact ⟨⟨k + 1, n2, by omega, by have := HG.out; have := HKN.out; omega, by have := HG.out; omega, HL.out, rfl, by go_num, by rw [← HD.out]; exact HW.out, below_step hb hbV⟩, by simp [intOf]; omega⟩
        · have t1 : decide (n' < 1000) = false := decide_eq_false hnn
          have HR : Hid (t.wei n = n') := Lib.hid (by rw [← HW.out, Ty.weis_stop _ hnn])
          clear hnn
          go_wp2
          go_ret
          exact ⟨(by rw [HR.out]; try rfl), q1⟩
      · obtain rfl : k = t.args.length := by omega
        have HR : Hid (t.wei n = n') := Lib.hid (by rw [← HW.out, List.drop_length, Ty.weis])
        go_wp2
        go_ret
        exact ⟨(by rw [HR.out]; try rfl), q1⟩

/-- What few says. -/
def fewM (m : Meth) : Bool := m.pars.all fun p => decide (p.type.wei 0 ≤ 40)
def fewB (ms : List Meth) : Bool := decide (ms.length ≤ 12) && ms.all fewM
theorem fewB_iff {ms : List Meth} : fewB ms = true ↔ ms.length ≤ 12 ∧ ∀ m ∈ ms, ∀ p ∈ m.pars, p.type.wei 0 ≤ 40 := by
  unfold fewB fewM
  simp [List.all_eq_true]
theorem fewB_long {ms : List Meth} (h : ¬ ms.length ≤ 12) : fewB ms = false := by unfold fewB; simp [h]
theorem fewB_bad {ms : List Meth} {x : Meth} {p : Par} (hx : x ∈ ms) (hp : p ∈ x.pars) (h : ¬ p.type.wei 0 ≤ 40) : fewB ms = false := by
  cases hf : fewB ms with
  | false => rfl
  | true => exact absurd ((fewB_iff.1 hf).2 x hx p hp) h

set_option maxHeartbeats 16000000 in
set_option maxRecDepth 100000 in
theorem few_calls (A : Option Addr) (c : Nat) (ms : List Meth) (W : World) (G : Nat → Prop) (hM : Held G (Meths A ms) W) (hp : ∀ m ∈ ms, m.pars.length ≤ 1000000) :
    Calls Try.prog 21 #[.slice A ms.length c] W fun e W' => e = .returned (.bool (fewB ms)) ∧ Below W.heap.size W W' := by
  have HM := Lib.hid hM
  clear hM
  have HP := Lib.hid hp
  clear hp
  go_enter Try.func21, Try.ntmps21
  by_cases h12 : 12 < ms.length
  · have h12' : (12 : Int) < (ms.length : Int) := by omega
    have HB : Hid (fewB ms = false) := Lib.hid (fewB_long (by omega))
    go_wp2
    go_ret
    exact ⟨(by rw [HB.out]; try rfl), Below.refl _ _⟩
  have h12' : ¬ (12 : Int) < (ms.length : Int) := by omega
  go_wp2_with (fail)
  go_loopw [3] (fun i wr => ∃ k : Nat, k ≤ ms.length ∧ i = .int .i64 k ∧ (∀ m ∈ ms.take k, ∀ p ∈ m.pars, p.type.wei 0 ≤ 40) ∧ Below W.heap.size W wr) (fun i _ => ms.length - (intOf i).toNat)
  case atStart => exact ⟨0, Nat.zero_le _, rfl, by simp, Below.refl _ _⟩
  case round =>
    obtain ⟨k, hk, rfl, hall, hb⟩ := hrel
    have HALL := Lib.hid hall
    clear hall
    by_cases hlt : k < ms.length
    · obtain ⟨b, off, rfl⟩ := Slc.addrH HM.out (by omega)
      have hx : ms[k]? = some ms[k] := List.getElem?_eq_getElem hlt
      have hxm : ms[k] ∈ ms := List.getElem_mem hlt
      generalize ms[k] = x at hx hxm
      have HX := Lib.hid hx
      have HXM := Lib.hid hxm
      have hpx := HP.out x hxm
      obtain ⟨A1, c1, A2, c2, _, p2, _, _, _, _, g2, _, _, _, _, _⟩ := Meths.atH HM.out hx
      have P2 := Lib.hid p2
      have G2 := Lib.hid g2
      clear hx hxm p2 g2
      have g2w := cell_all G2.out hb
      go_wp2_with (fail)
      go_loopw [4] (fun j wr => ∃ p : Nat, p ≤ x.pars.length ∧ j = .int .i64 p ∧ (∀ y ∈ x.pars.take p, y.type.wei 0 ≤ 40) ∧ Below W.heap.size W wr) (fun j _ => x.pars.length - (intOf j).toNat)
      case atStart => exact ⟨0, Nat.zero_le _, rfl, by simp, hb⟩
      case round =>
        obtain ⟨j, hj, rfl, hv, hb2⟩ := hrel
        have HV := Lib.hid hv
        clear hv g2w
        have g2w := cell_all G2.out hb2
        by_cases hjl : j < x.pars.length
        · obtain ⟨bp, offp, rfl⟩ := Slc.addrH P2.out (by omega)
          have hy : x.pars[j]? = some x.pars[j] := List.getElem?_eq_getElem hjl
          generalize x.pars[j] = p at hy
          have HY := Lib.hid hy
          obtain ⟨A3, c3, r1, r2, _, e1, e2, e3, e4, e5⟩ := Pars.atH (P2.out.all hb2) hy
          have HWE := Lib.hid (weight_calls p.type.count p.type (Nat.le_refl _) A3 c3 0 wr _ (by omega) (by omega) r2)
          clear hy r1 r2
          go_wp2_with (fail)
          refine HWE.out.mono ?_
          clear HWE
          rintro e V ⟨rfl, hbV⟩
          have bV := below_step hb2 hbV
          by_cases hz : p.type.wei 0 ≤ 40
          · have HZ := Lib.hid hz
            have t3 : ¬ (40 : Int) < p.type.wei 0 := by omega
            clear hz
            go_wp2
            exact ⟨⟨j + 1, by omega, by go_num, fun y hy => by
              rw [take_snoc HY.out] at hy
              rcases List.mem_append.1 hy with h | h
              · exact HV.out y h
              · simp at h; subst h; exact HZ.out, bV⟩, by simp [intOf]; omega⟩
          · have t3 : (40 : Int) < p.type.wei 0 := by omega
            have HB : Hid (fewB ms = false) := Lib.hid (fewB_bad HXM.out (List.mem_of_getElem? HY.out) hz)
            clear hz
            go_wp2
            go_ret
            exact ⟨(by rw [HB.out]; try rfl), bV⟩
        · obtain rfl : j = x.pars.length := by omega
          go_wp2
          exact ⟨⟨k + 1, by omega, by go_num, fun m hm p hp => by
            rw [take_snoc HX.out] at hm
            rcases List.mem_append.1 hm with h | h
            · exact HALL.out m h p hp
            · simp at h; subst h; exact HV.out p (by rwa [List.take_length]), hb2⟩, by simp [intOf]; omega⟩
    · obtain rfl : k = ms.length := by omega
      have HB : Hid (fewB ms = true) := Lib.hid (fewB_iff.2 ⟨by omega, by have := HALL.out; rwa [List.take_length] at this⟩)
      go_wp2
      go_ret
      exact ⟨(by rw [HB.out]; try rfl), hb⟩

/-- The rest of a division, never negative: what Mod returns. -/
theorem mod_calls (n : Int) (L : Nat) (W : World) (hL : L ≤ 1000000) :
    Calls Try.prog 22 #[.int .i64 n, .int .i64 ((L : Int) + 1)] W fun e W' => ∃ k : Nat, e = .returned (.int .i64 (k : Int)) ∧ k ≤ L ∧ W' = W := by
  have hm : (0 : Int) < (L : Int) + 1 := by omega
  have h1 : n.tmod ((L : Int) + 1) < (L : Int) + 1 := Int.tmod_lt_of_pos n hm
  have h2 : -((L : Int) + 1) < n.tmod ((L : Int) + 1) := by
    have := Int.tmod_lt_of_pos (-n) hm
    rw [Int.neg_tmod] at this
    omega
  have hne : (((L : Int) + 1) == 0) = false := beq_eq_false_iff_ne.2 (by omega)
  go_enter Try.func22, Try.ntmps22
  by_cases h3 : n.tmod ((L : Int) + 1) < 0
  · obtain ⟨k, hk⟩ : ∃ k : Nat, (k : Int) = n.tmod ((L : Int) + 1) + ((L : Int) + 1) := ⟨(n.tmod ((L : Int) + 1) + ((L : Int) + 1)).toNat, by omega⟩
    go_wp2
    go_ret
    exact ⟨k, (by rw [hk]; try rfl), by omega, rfl⟩
  · obtain ⟨k, hk⟩ : ∃ k : Nat, (k : Int) = n.tmod ((L : Int) + 1) := ⟨(n.tmod ((L : Int) + 1)).toNat, by omega⟩
    go_wp2
    go_ret
    exact ⟨k, (by rw [hk]; try rfl), by omega, rfl⟩
end Go.Proofs.Ytepnmejahbiacaa
