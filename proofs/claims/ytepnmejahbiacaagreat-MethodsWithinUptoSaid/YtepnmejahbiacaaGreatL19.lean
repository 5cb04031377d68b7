/- Part 19 of the proof: Cx, Wz. -/
import Derived.Test.YtepnmejahbiacaaGreatL04
import Derived.Test.YtepnmejahbiacaaGreatL05
import Derived.Test.YtepnmejahbiacaaGreatL18
import Derived.Test.YtepnmejahbiacaaGreatL07
import Derived.Test.YtepnmejahbiacaaGreatL12
import Derived.Test.YtepnmejahbiacaaGreatL13
import Derived.Test.YtepnmejahbiacaaGreatL14
import Derived.Test.YtepnmejahbiacaaGreatL15
import Derived.Test.YtepnmejahbiacaaGreatL17
import Derived.Test.YtepnmejahbiacaaGreatL16
import Derived.Test.YtepnmejahbiacaaGreatL06
import Derived.Test.YtepnmejahbiacaaGreatL10
import Derived.Test.YtepnmejahbiacaaGreatL11
import Derived.Test.YtepnmejahbiacaaGreatL09
import Derived.Test.YtepnmejahbiacaaGreatL03
import Derived.Test.YtepnmejahbiacaaGreatL02
import Derived.Test.YtepnmejahbiacaaGreatL01
import Derived.BigQuiet
import Derived.Carry
import Derived.Deep.Draws
import Derived.Deep.LoopGhost
import Derived.Deep.QuietTactic
import Derived.KernelRfl
import Derived.Laws.EntriesVeiled
import Derived.Lib.Hide
import Derived.LoopIn
import Derived.LoopNIn
import Derived.Maps.AppendAt
import Derived.Maps.Own
import Derived.Maps.OwnIn
import Derived.Outline
import Derived.OwnWalkIn
import Derived.RangeFuncBound
import Derived.RangeFuncCalls
import Derived.RangeFuncLeaves
import Derived.RangeFuncNested
import Derived.Recover
import Derived.StillTailTactics
import Derived.Stop.RegionWithIn
import Derived.TacticsInMore
import Derived.Test.YtepnmejahbiacaaGreatProg
import Derived.WalkKit
import Derived.WalkSpells
import Derived.Deep.RegionHeld3
set_option linter.unusedVariables false
set_option linter.unusedSimpArgs false
namespace Go.Proofs.YtepnmejahbiacaaGreat
open Go.RowKit
/-- A call, opened: its block. -/
structure OpenAt (cp : Nat) (AH : Option Addr) (cH : Nat) (l : List CI) (AT : Option Addr) (cT : Nat) (ts : List Tag) (A2 : Option Addr) (c2 : Nat) (w : World) : Prop where
  call : CallAt cp AH cH l AT cT ts w
  c2 : w.cell? ⟨cp, 2, none⟩ = some (.slice A2 ts.length c2)
  c3 : w.cell? ⟨cp, 3, none⟩ = some (.func (.func 55) #[.pointer (some ⟨cp, 0, none⟩)] #[])
  cpls : Held (fun b => b < w.heap.size) (Lsts A2 (ts.map (cplAt l))) w
theorem OpenAt.keep {cp : Nat} {AH : Option Addr} {cH : Nat} {l : List CI} {AT : Option Addr} {cT : Nat} {ts : List Tag} {A2 : Option Addr} {c2 : Nat} {w w' : World} (h : OpenAt cp AH cH l AT cT ts A2 c2 w) (q : Below w.heap.size w w') : OpenAt cp AH cH l AT cT ts A2 c2 w' :=
  ⟨h.call.keep q, cell_all h.c2 q, cell_all h.c3 q, (h.cpls.all q).mono fun b _ hb => Nat.lt_of_lt_of_le hb q.size⟩
theorem below_step {W V0 V : World} (h : Below W.heap.size W V0) (q : Below V0.heap.size V0 V) : Below W.heap.size W V := h.trans (q.mono h.size)
/-- A type whose cells are there. -/
def TypIn (W : World) (x : Ty) (A : Option Addr) : Prop := ∃ G, Held G (Typs A x.args) W ∧ x.all (fun x => decide (x.args.length ≤ 1000000)) = true
/-- The two ways round, put together. -/
def cmp4 : Bool → Bool → Int
  | true, true => 0
  | true, false => 1
  | false, true => 2
  | false, false => 3
set_option maxHeartbeats 16000000 in
set_option maxRecDepth 100000 in
theorem compared_calls (cp : Nat) (AH : Option Addr) (cH : Nat) (l : List CI) (AT : Option Addr) (cT : Nat) (ts : List Tag) (A2 : Option Addr) (c2 : Nat) (W : World) (HO : OpenAt cp AH cH l AT cT ts A2 c2 W)
    (GH : Nat → Prop) (h : Held GH (CIs AH l) W) (hl : l.length ≤ 1000000) (ol : ∀ x ∈ l, ciOk x) (hcl : ∀ t ∈ ts, (cplAt l t).length ≤ 1000000) (hts : ts.length ≤ 1000000) (i : Nat) (tg : Tag) (hi : ts[i]? = some tg)
    (s t : Ty) (As At : Option Addr) (cs ct : Nat) (Gs Gt : Nat → Prop) (hS : Held Gs (Typs As s.args) W) (hT : Held Gt (Typs At t.args) W) (hs : s.all (fun x => decide (x.args.length ≤ 1000000)) = true) (ht : t.all (fun x => decide (x.args.length ≤ 1000000)) = true) :
    Calls Tryz.prog 55 #[.pointer (some ⟨cp, 0, none⟩), tyV s As cs, tyV t At ct, .int .i64 i] W fun e W' => e = .returned (.int .i64 (cmpT l (cplAt l tg) s t)) ∧ Below W.heap.size W W' := by
  obtain ⟨W1, hW1⟩ : ∃ W1, W1 = (W.alloc (.cells #[.int .i64 s.kind, .string s.name, .int .i64 s.lo, .int .i64 s.hi, .slice As s.args.length cs] 36)).alloc (.cells #[.int .i64 t.kind, .string t.name, .int .i64 t.lo, .int .i64 t.hi, .slice At t.args.length ct] 36) := ⟨_, rfl⟩
  have b1 : Below W.heap.size W W1 := by rw [hW1]; exact ((Below.refl _ W).alloc (Nat.le_refl _) _).alloc (by simp) _
  have xs : ∀ j u, [Value.int .i64 s.kind, .string s.name, .int .i64 s.lo, .int .i64 s.hi, .slice As s.args.length cs][j]? = some u → W1.cell? ⟨W.heap.size, j, none⟩ = some u := fun j u hj => by rw [hW1]; exact alloc_cell' (cell_new W _ _ _ rfl j u hj)
  have xt : ∀ j u, [Value.int .i64 t.kind, .string t.name, .int .i64 t.lo, .int .i64 t.hi, .slice At t.args.length ct][j]? = some u → W1.cell? ⟨W.heap.size + 1, j, none⟩ = some u := fun j u hj => by rw [hW1]; exact cell_new (W.alloc _) _ _ _ (by simp) j u hj
  have s0 := xs 0 _ rfl
  have s1 := xs 1 _ rfl
  have s2 := xs 2 _ rfl
  have s3 := xs 3 _ rfl
  have s4 := xs 4 _ rfl
  have t0 := xt 0 _ rfl
  have t1 := xt 1 _ rfl
  have t2 := xt 2 _ rfl
  have t3 := xt 3 _ rfl
  have t4 := xt 4 _ rfl
  clear xs xt
  have HO1 := HO.keep b1
  have q0 := HO1.call.c0
  have q2 := HO1.c2
  have hil : i < ts.length := (List.getElem?_eq_some_iff.1 hi).1
  obtain ⟨b2, off2, rfl⟩ := Slc.addrH HO1.cpls (by simpa using (by omega : 0 < ts.length))
  obtain ⟨A3, c3, p1, p2, g0⟩ := Lsts.atH HO1.cpls (k := i) (x := cplAt l tg) (by rw [List.getElem?_map, hi]; rfl)
  have hcx := hcl tg (List.mem_of_getElem? hi)
  have hi0 : (0 : Int) ≤ (i : Int) := Int.natCast_nonneg _
  have hi1 : (i : Int) < (ts.length : Int) := by omega
  have HIX := Lib.hid (fun x n => slIndex_calls A3 c3 (cplAt l tg) x (W1.drewN n) ((p2.keep (Keep.drewN _ _ _)).now) (by omega))
  have HCM := Lib.hid (fun a b n => compare_calls a b (W1.drewN n))
  have HW : Hid (∀ (x y : Ty) (Ax Ay : Option Addr) (cx cy : Nat) (V : World), Below W.heap.size W V → TypIn W x Ax → TypIn W y Ay → Calls Tryz.prog 51 #[.slice AH l.length cH, tyV x Ax cx, tyV y Ay cy] V fun e W' => e = .returned (.bool (withinB l x y)) ∧ Below V.heap.size V W') :=
    Lib.hid (fun x y Ax Ay cx cy V hv ⟨Gx, hx, ax⟩ ⟨Gy, hy, ay⟩ => within_calls AH cH l x y Ax Ay cx cy V GH (h.keep (Keep.all hv)) hl ol Gx Gy (hx.keep (Keep.all hv)) (hy.keep (Keep.all hv)) ax ay)
  have hts : TypIn W s As := ⟨Gs, hS, hs⟩
  have htt : TypIn W t At := ⟨Gt, hT, ht⟩
  have hcpl : cp < W1.heap.size := cell_lt q0
  have hb2l : b2 < W1.heap.size := cell_lt g0
  have hsl : W.heap.size < W1.heap.size := cell_lt s0
  have htl : W.heap.size + 1 < W1.heap.size := cell_lt t0
  clear hi hcl h hS hT hs ht ol HO HO1
  by_cases hk : s.kind = 1 ∧ t.kind = 1
  · have k1 : (s.kind == 1) = true := beq_iff_eq.2 hk.1
    have k2 : (t.kind == 1) = true := beq_iff_eq.2 hk.2
    have HC : Hid (cmpT l (cplAt l tg) s t = if idx (cplAt l tg) t.name < idx (cplAt l tg) s.name then 2 else if idx (cplAt l tg) s.name < idx (cplAt l tg) t.name then 1 else 0) := Lib.hid (by unfold cmpT; rw [if_pos hk])
    clear hk
    have fin : ∀ (c m r : Int), IntKind.i64.wrap (1 + c) = m → cmpI (idx (cplAt l tg) t.name) (idx (cplAt l tg) s.name) = c → cmpT l (cplAt l tg) s t = r → (∀ w, (Instr.index 126 (.agg #[.int .i64 2, .int .i64 0, .int .i64 1]) (.int .i64 m)).run Tryz.prog w = .ok (.int .i64 r) w) →
        Calls Tryz.prog 55 #[.pointer (some ⟨cp, 0, none⟩), tyV s As cs, tyV t At ct, .int .i64 i] W fun e W' => e = .returned (.int .i64 (cmpT l (cplAt l tg) s t)) ∧ Below W.heap.size W W' := by
      intro c m r hwr hc hr hix
      have HR := Lib.hid hr
      have HC2 : Hid (∀ n, Calls Tryz.prog 93 #[.int .i64 (idx (cplAt l tg) t.name), .int .i64 (idx (cplAt l tg) s.name)] (W1.drewN n) fun e w' => e = .returned (.int .i64 c) ∧ w' = W1.drewN n) := Lib.hid (fun n => by rw [← hc]; exact HCM.out _ _ n)
      clear hc hr HCM HW HC hts htt
      go_enter Tryz.func55, Tryz.ntmps55
      go_wp2_with (fail)
      rw [← hW1]
      clear hW1
      go_quiet ((first | (go_at_call 94; exact (HIX.out _ _).mono fun _ _ ⟨a, b⟩ => ⟨a, _, b.symm⟩) | (go_at_call 93; exact (HC2.out _).mono fun _ _ ⟨a, b⟩ => ⟨a, _, b⟩)))
      go_wp2
      go_ret
      exact ⟨(by rw [HR.out]; try rfl), b1.trans ((drewN_below _ _ _).mono b1.size)⟩
    by_cases h1 : idx (cplAt l tg) t.name < idx (cplAt l tg) s.name
    · exact fin (-1) 0 2 (by decide) (by unfold cmpI; rw [if_pos h1]) (by rw [HC.out, if_pos h1]) (fun w => by kernel_rfl)
    · by_cases h2 : idx (cplAt l tg) s.name < idx (cplAt l tg) t.name
      · exact fin 1 2 1 (by decide) (by unfold cmpI; rw [if_neg h1, if_pos h2]) (by rw [HC.out, if_neg h1, if_pos h2]) (fun w => by kernel_rfl)
      · exact fin 0 1 0 (by decide) (by unfold cmpI; rw [if_neg h1, if_neg h2]) (by rw [HC.out, if_neg h1, if_neg h2]) (fun w => by kernel_rfl)
  · have HC : Hid (cmpT l (cplAt l tg) s t = cmp4 (withinB l s t) (withinB l t s)) := Lib.hid (by
      unfold cmpT cmp4; rw [if_neg hk]
      cases withinB l s t <;> cases withinB l t s <;> rfl)
    have fin : ∀ (k1 : (s.kind == 1) = true ∧ (t.kind == 1) = false ∨ (s.kind == 1) = false),
        Calls Tryz.prog 55 #[.pointer (some ⟨cp, 0, none⟩), tyV s As cs, tyV t At ct, .int .i64 i] W fun e W' => e = .returned (.int .i64 (cmpT l (cplAt l tg) s t)) ∧ Below W.heap.size W W' := by
      clear HIX HCM g0 q2 hk
      rintro (⟨k1, k2⟩ | k1)
      all_goals
        go_enter Tryz.func55, Tryz.ntmps55
        go_wp2_with (fail)
        rw [← hW1]
        clear hW1
        go_region_held3 (fun w' => Below W.heap.size W w' ∧ w'.cell? ⟨cp, 0, none⟩ = some (.slice AH l.length cH) ∧ w'.cell? ⟨W.heap.size, 0, none⟩ = some (.int .i64 s.kind) ∧ w'.cell? ⟨W.heap.size, 1, none⟩ = some (.string s.name) ∧ w'.cell? ⟨W.heap.size, 2, none⟩ = some (.int .i64 s.lo) ∧ w'.cell? ⟨W.heap.size, 3, none⟩ = some (.int .i64 s.hi) ∧ w'.cell? ⟨W.heap.size, 4, none⟩ = some (.slice As s.args.length cs) ∧
            w'.cell? ⟨W.heap.size + 1, 0, none⟩ = some (.int .i64 t.kind) ∧ w'.cell? ⟨W.heap.size + 1, 1, none⟩ = some (.string t.name) ∧ w'.cell? ⟨W.heap.size + 1, 2, none⟩ = some (.int .i64 t.lo) ∧ w'.cell? ⟨W.heap.size + 1, 3, none⟩ = some (.int .i64 t.hi) ∧ w'.cell? ⟨W.heap.size + 1, 4, none⟩ = some (.slice At t.args.length ct))
          (first | exact ⟨b1.drew, q0, s0, s1, s2, s3, s4, t0, t1, t2, t3, t4⟩ | (go_split_ands; exact ⟨below_step (by assumption) hbv, cell_all (by assumption) hbv, cell_all (by assumption) hbv, cell_all (by assumption) hbv, cell_all (by assumption) hbv, cell_all (by assumption) hbv, cell_all (by assumption) hbv, cell_all (by assumption) hbv, cell_all (by assumption) hbv, cell_all (by assumption) hbv, cell_all (by assumption) hbv, cell_all (by assumption) hbv⟩))
          ((go_at_call 51; refine (HW.out _ _ _ _ _ _ _ (by go_split_ands; assumption) (by assumption) (by assumption)).mono ?_; rintro e V ⟨rfl, hbv⟩))
        all_goals
          generalize withinB l s t = x at HC ⊢
          generalize withinB l t s = y at HC ⊢
          clear HW
          cases x <;> cases y
        all_goals
          go_wp2
          go_ret
          exact ⟨(by rw [HC.out]; rfl), by go_split_ands; assumption⟩
    by_cases h1 : s.kind = 1
    · exact fin (.inl ⟨beq_iff_eq.2 h1, beq_eq_false_iff_ne.2 fun e => hk ⟨h1, e⟩⟩)
    · exact fin (.inr (beq_eq_false_iff_ne.2 h1))
end Go.Proofs.YtepnmejahbiacaaGreat
set_option linter.unusedVariables false
set_option linter.unusedSimpArgs false
namespace Go.Proofs.YtepnmejahbiacaaGreat
open Go.RowKit
mutual
/-- What Weight adds up: the types in a type, until 1000. -/
def Ty.wei : Ty → Int → Int
  | .mk _ _ _ _ args, n => Ty.weis args (n + 1)
def Ty.weis : List Ty → Int → Int
  | [], n => n
  | t :: r, n => if n < 1000 then Ty.weis r (Ty.wei t n) else n
end
theorem Ty.wei_args (t : Ty) (n : Int) : t.wei n = Ty.weis t.args (n + 1) := by cases t; rw [Ty.wei]; rfl
theorem Ty.weis_stop (l : List Ty) {n : Int} (h : ¬ n < 1000) : Ty.weis l n = n := by
  cases l with
  | nil => rw [Ty.weis]
  | cons t r => rw [Ty.weis, if_neg h]
mutual
theorem Ty.wei_ge : ∀ (t : Ty) (n : Int), n + 1 ≤ t.wei n
  | .mk _ _ _ _ args, n => by rw [Ty.wei]; exact Ty.weis_ge args (n + 1)
theorem Ty.weis_ge : ∀ (l : List Ty) (n : Int), n ≤ Ty.weis l n
  | [], n => by rw [Ty.weis]; exact Int.le_refl _
  | t :: r, n => by
    rw [Ty.weis]
    split
    · have h1 := Ty.wei_ge t n
      have h2 := Ty.weis_ge r (t.wei n)
      omega
    · exact Int.le_refl _
end
mutual
theorem Ty.wei_le : ∀ (t : Ty) (n : Int), n < 1000 → t.wei n ≤ 1000
  | .mk _ _ _ _ args, n, h => by rw [Ty.wei]; exact Ty.weis_le args (n + 1) (by omega)
theorem Ty.weis_le : ∀ (l : List Ty) (n : Int), n ≤ 1000 → Ty.weis l n ≤ 1000
  | [], n, h => by rw [Ty.weis]; exact h
  | t :: r, n, h => by
    rw [Ty.weis]
    split
    · rename_i h1
      exact Ty.weis_le r _ (Ty.wei_le t n h1)
    · exact h
end
theorem Ty.len_counts : ∀ (l : List Ty), l.length ≤ Ty.counts l
  | [] => by simp
  | t :: r => by have := Ty.len_counts r; have := t.count_pos; rw [Ty.counts, List.length_cons]; omega
mutual
theorem Ty.all_small : ∀ (t : Ty) (k : Nat), t.count ≤ k → t.all (fun x => decide (x.args.length ≤ k)) = true
  | .mk a b c d args, k, h => by
    rw [Ty.count] at h
    rw [Ty.all, Bool.and_eq_true]
    have := Ty.len_counts args
    exact ⟨decide_eq_true (by show args.length ≤ k; omega), Ty.alls_small args k (by omega)⟩
theorem Ty.alls_small : ∀ (l : List Ty) (k : Nat), Ty.counts l ≤ k → Ty.alls (fun x => decide (x.args.length ≤ k)) l = true
  | [], k, h => by rw [Ty.alls]
  | t :: r, k, h => by
    rw [Ty.counts] at h
    rw [Ty.alls, Ty.all_small t k (by omega), Ty.alls_small r k (by omega)]; rfl
end
theorem weis_drop {l : List Ty} {k : Nat} {x : Ty} (hx : l[k]? = some x) {n : Int} (h : n < 1000) : Ty.weis (l.drop k) n = Ty.weis (l.drop (k + 1)) (x.wei n) := by
  obtain ⟨hk, rfl⟩ := List.getElem?_eq_some_iff.1 hx
  rw [List.drop_eq_getElem_cons hk, Ty.weis, if_pos h]
set_option maxHeartbeats 16000000 in
set_option maxRecDepth 100000 in
theorem weight_calls : ∀ (q : Nat) (t : Ty), t.count ≤ q → ∀ (A : Option Addr) (c : Nat) (n : Int) (W : World) (G : Nat → Prop), 0 ≤ n → n < 1000 → Held G (Typs A t.args) W →
    Calls Tryz.prog 15 #[tyV t A c, .int .i64 n] W fun e W' => e = .returned (.int .i64 (t.wei n)) ∧ Below W.heap.size W W' := by
  intro q
  induction q with
  | zero => intro t hq; have := t.count_pos; omega
  | succ q ih =>
    intro t hq A c n W G hn0 hn1 hT
    have HIH := Lib.hid ih
    clear ih
    have HQ := Lib.hid hq
    clear hq
    obtain ⟨W1, hW1⟩ : ∃ W1, W1 = W.alloc (.cells #[.int .i64 t.kind, .string t.name, .int .i64 t.lo, .int .i64 t.hi, .slice A t.args.length c] 36) := ⟨_, rfl⟩
    have b1 : Below W.heap.size W W1 := by rw [hW1]; exact (Below.refl _ W).alloc (Nat.le_refl _) _
    have xt : ∀ j u, [Value.int .i64 t.kind, .string t.name, .int .i64 t.lo, .int .i64 t.hi, .slice A t.args.length c][j]? = some u → W1.cell? ⟨W.heap.size, j, none⟩ = some u := fun j u hj => by rw [hW1]; exact cell_new W _ _ _ rfl j u hj
    have C4 := Lib.hid (xt 4 _ rfl)
    have hcl := cell_lt C4.out
    clear xt
    have HT := Lib.hid hT
    clear hT
    go_enter Tryz.func15, Tryz.ntmps15
    go_wp2_with (fail)
    rw [← hW1]
    clear hW1
    go_loopw [1, 5] (fun m i wr => ∃ (k : Nat) (n' : Int), k ≤ t.args.length ∧ (k : Int) ≤ n' ∧ 0 ≤ n' ∧ n' ≤ 1000 ∧ m = .int .i64 n' ∧ i = .int .i64 k ∧ Ty.weis (t.args.drop k) n' = t.wei n ∧ Below W1.heap.size W1 wr) (fun _ i _ => t.args.length - (intOf i).toNat)
    case atStart => exact ⟨0, n + 1, Nat.zero_le _, by omega, by omega, by omega, by go_num, rfl, by rw [Ty.wei_args]; rfl, Below.refl _ _⟩
    case round =>
      obtain ⟨k, n', hk, hkn, hn0', hn1', rfl, rfl, hw, hb⟩ := hrel
      have HW := Lib.hid hw
      have HKN := Lib.hid hkn
      have hk3 : k ≤ 1000 := by omega
      have HN1 := Lib.hid hn1'
      clear hw hkn hn1'
      have q1 := below_step b1 hb
      have c4 := cell_all C4.out hb
      by_cases hlt : k < t.args.length
      · by_cases hnn : n' < 1000
        · obtain ⟨b, off, rfl⟩ := Slc.addrH HT.out (by omega)
          have hx : t.args[k]? = some t.args[k] := List.getElem?_eq_getElem hlt
          generalize t.args[k] = x at hx
          have HX := Lib.hid hx
          obtain ⟨A3, c3', r1, r2, g0, g1, g2, g3, g4⟩ := Typs.atH (HT.out.all q1) hx
          have hxm : x ∈ t.args := List.mem_of_getElem? hx
          have hcx : x.count ≤ q := by have := Ty.count_mem hxm; have := HQ.out; omega
          have HST := Lib.hid (HIH.out x hcx A3 c3' n' wr _ hn0' hnn r2)
          have HD := Lib.hid (weis_drop hx hnn)
          have HG := Lib.hid (Ty.wei_ge x n')
          have HL := Lib.hid (Ty.wei_le x n' hnn)
          clear hx hcx hxm r1 r2
          go_wp2_with (fail)
          refine HST.out.mono ?_
          clear HST
          rintro e V ⟨rfl, hbV⟩
          generalize x.wei n' = n2 at HD HG HL
          go_wp2
          exact ⟨⟨k + 1, n2, by omega, by have := HG.out; have := HKN.out; omega, by have := HG.out; omega, HL.out, rfl, by go_num, by rw [← HD.out]; exact HW.out, below_step hb hbV⟩, by simp [intOf]; omega⟩
        · have t1 : decide (n' < 1000) = false := decide_eq_false hnn
          have HR : Hid (t.wei n = n') := Lib.hid (by rw [← HW.out, Ty.weis_stop _ hnn])
          clear hnn
          go_wp2
          go_ret
          exact ⟨(by rw [HR.out]; try rfl), q1⟩
      · obtain rfl : k = t.args.length := by omega
        have HR : Hid (t.wei n = n') := Lib.hid (by rw [← HW.out, List.drop_length, Ty.weis])
        go_wp2
        go_ret
        exact ⟨(by rw [HR.out]; try rfl), q1⟩
end Go.Proofs.YtepnmejahbiacaaGreat
