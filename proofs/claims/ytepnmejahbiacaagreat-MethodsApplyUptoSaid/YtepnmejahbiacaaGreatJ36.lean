/- Part 36 of the proof: Mt, Qv, Qw, My. -/
import Derived.Test.YtepnmejahbiacaaGreatJ22
import Derived.Test.YtepnmejahbiacaaGreatJ20
import Derived.Test.YtepnmejahbiacaaGreatJ05
import Derived.Test.YtepnmejahbiacaaGreatJ06
import Derived.Test.YtepnmejahbiacaaGreatJ19
import Derived.Test.YtepnmejahbiacaaGreatJ07
import Derived.Test.YtepnmejahbiacaaGreatJ12
import Derived.Test.YtepnmejahbiacaaGreatJ13
import Derived.Test.YtepnmejahbiacaaGreatJ14
import Derived.Test.YtepnmejahbiacaaGreatJ15
import Derived.Test.YtepnmejahbiacaaGreatJ18
import Derived.Test.YtepnmejahbiacaaGreatJ25
import Derived.Test.YtepnmejahbiacaaGreatJ24
import Derived.Test.YtepnmejahbiacaaGreatJ21
import Derived.Test.YtepnmejahbiacaaGreatJ08
import Derived.Test.YtepnmejahbiacaaGreatJ17
import Derived.Test.YtepnmejahbiacaaGreatJ26
import Derived.Test.YtepnmejahbiacaaGreatJ04
import Derived.Test.YtepnmejahbiacaaGreatJ10
import Derived.Test.YtepnmejahbiacaaGreatJ11
import Derived.Test.YtepnmejahbiacaaGreatJ23
import Derived.Test.YtepnmejahbiacaaGreatJ28
import Derived.Test.YtepnmejahbiacaaGreatJ29
import Derived.Test.YtepnmejahbiacaaGreatJ31
import Derived.Test.YtepnmejahbiacaaGreatJ32
import Derived.Test.YtepnmejahbiacaaGreatJ33
import Derived.Test.YtepnmejahbiacaaGreatJ34
import Derived.Test.YtepnmejahbiacaaGreatJ35
import Derived.Test.YtepnmejahbiacaaGreatJ09
import Derived.Test.YtepnmejahbiacaaGreatJ03
import Derived.Test.YtepnmejahbiacaaGreatJ16
import Derived.Test.YtepnmejahbiacaaGreatJ02
import Derived.Test.YtepnmejahbiacaaGreatJ01
import Derived.BigQuiet
import Derived.Carry
import Derived.Deep.AppendLies
import Derived.Deep.DrawnRows
import Derived.Deep.Draws
import Derived.Deep.LoopGhost
import Derived.Deep.QuietTactic
import Derived.Deep.RegionHeld3
import Derived.Deep.RegionLaw
import Derived.Deep.RegionWith
import Derived.KernelRfl
import Derived.Laws.EntriesVeiled
import Derived.Laws.OwnMore
import Derived.Lib.Hide
import Derived.Lib.SliceRun
import Derived.LoopIn
import Derived.LoopNIn
import Derived.Maps.AppendAt
import Derived.Maps.Own
import Derived.Maps.OwnIn
import Derived.Outline
import Derived.OwnWalkIn
import Derived.RangeFuncBound
import Derived.RangeFuncCalls
import Derived.RangeFuncLeaves
import Derived.RangeFuncNested
import Derived.Recover
import Derived.StillTailTactics
import Derived.Stop.RegionWithIn
import Derived.TacticsInMore
import Derived.Test.YtepnmejahbiacaaGreatProg
import Derived.WalkKit
import Derived.WalkSpells
import Derived.Test.YtepnmejahbiacaaGreatJ27
set_option linter.unusedVariables false
set_option linter.unusedSimpArgs false
namespace Go.Proofs.YtepnmejahbiacaaGreat
open Go.RowKit
attribute [local go_sem ↓] Go.wp_at_zero Go.wp_at_succ
set_option maxHeartbeats 64000000 in
set_option maxRecDepth 100000 in
theorem types_calls (AH : Option Addr) (cH : Nat) (l : List CI) (s t : Ty) (As At : Option Addr) (cs ct : Nat) (v : Tag) (W : World) (hi : HiIn W AH cH l) (hs : TyIn W s As cs) (ht : TyIn W t At ct) :
    Calls Tryz.prog 4 #[.slice AH l.length cH, twoTy s t As At cs ct, tagV v] W fun e W' => e = .returned (.bool true) ∧ Below W.heap.size W W' := by
  obtain ⟨W1, hW1⟩ : ∃ W1, W1 = (W.alloc (.cells #[.int .i64 s.kind, .string s.name, .int .i64 s.lo, .int .i64 s.hi, .slice As s.args.length cs, .int .i64 t.kind, .string t.name, .int .i64 t.lo, .int .i64 t.hi, .slice At t.args.length ct] 37)).alloc (.cells #[.int .i64 v.kind, .int .i64 v.num, .string v.name] 39) := ⟨_, rfl⟩
  have b1 : Below W.heap.size W W1 := by rw [hW1]; exact ((Below.refl _ W).alloc (Nat.le_refl _) _).alloc (by simp) _
  have xs : ∀ j u, [Value.int .i64 s.kind, .string s.name, .int .i64 s.lo, .int .i64 s.hi, .slice As s.args.length cs, .int .i64 t.kind, .string t.name, .int .i64 t.lo, .int .i64 t.hi, .slice At t.args.length ct][j]? = some u → W1.cell? ⟨W.heap.size, j, none⟩ = some u := fun j u hj => by rw [hW1]; exact alloc_cell' (cell_new W _ _ _ rfl j u hj)
  have xv : ∀ j u, [Value.int .i64 v.kind, .int .i64 v.num, .string v.name][j]? = some u → W1.cell? ⟨W.heap.size + 1, j, none⟩ = some u := fun j u hj => by rw [hW1]; exact cell_new (W.alloc _) _ _ _ (by simp) j u hj
  have XS := Lib.hid xs
  have XV := Lib.hid xv
  have HWE : Hid (∀ V x A c, Below W.heap.size W V → TyIn W x A c → Calls Tryz.prog 15 #[tyV x A c, .int .i64 0] V fun e V' => e = .returned (.int .i64 (x.wei 0)) ∧ Below V.heap.size V V') := Lib.hid (fun V x A c hv hx => by
    obtain ⟨G2, h2⟩ := (hx.keep hv).h2
    exact weight_calls x.count x (Nat.le_refl _) A c 0 V G2 (by omega) (by omega) h2)
  have HWA := Lib.hid (fun V (hv : Below W.heap.size W V) => withinF_calls AH cH l s t As At cs ct V (hi.keep hv) (hs.keep hv) (ht.keep hv))
  have HWB := Lib.hid (fun V (hv : Below W.heap.size W V) => within10_calls AH cH l s t As At cs ct V (hi.keep hv) (hs.keep hv) (ht.keep hv))
  have HTA := Lib.hid (fun V (hv : Below W.heap.size W V) => typePrecedes_calls AH cH l s t As At cs ct v V (hi.keep hv) (hs.keep hv) (ht.keep hv))
  have HTB : Hid (∀ V, Below W.heap.size W V → Calls Tryz.prog 19 #[.slice AH l.length cH, .agg #[.int .i64 s.kind, .string s.name, .int .i64 s.lo, .int .i64 s.hi, .slice As s.args.length cs, .int .i64 t.kind, .string t.name, .int .i64 t.lo, .int .i64 t.hi, .slice At t.args.length ct], tagV v] V fun e W' => e = .returned (.bool (tpR l v s t)) ∧ Below V.heap.size V W') := Lib.hid (fun V (hv : Below W.heap.size W V) => typePrecedes10_calls AH cH l s t As At cs ct v V (hi.keep hv) (hs.keep hv) (ht.keep hv))
  have HS := Lib.hid hs
  have HT := Lib.hid ht
  generalize withinR l s t = wb at HWA HWB
  generalize tpR l v s t = tb at HTA HTB
  clear xs xv hi hs ht
  unfold twoTy
  go_enter Tryz.func4, Tryz.ntmps4
  go_wp2_with (fail)
  rw [← hW1]
  clear hW1
  refine (sane_calls W1).mono ?_
  rintro e V ⟨rfl, hbv⟩
  have q1 := below_step b1 hbv
  have s0 := cell_all (XS.out 0 _ rfl) hbv
  have s1 := cell_all (XS.out 1 _ rfl) hbv
  have s2 := cell_all (XS.out 2 _ rfl) hbv
  have s3 := cell_all (XS.out 3 _ rfl) hbv
  have s4 := cell_all (XS.out 4 _ rfl) hbv
  have H1 := Lib.hid (HWE.out V s As cs q1 HS.out)
  generalize s.wei 0 = wa at H1
  go_wp2_with (fail)
  refine H1.out.mono ?_
  clear H1 s0 s1 s2 s3 s4
  rintro e V2 ⟨rfl, hb2⟩
  have q2 := below_step q1 hb2
  have hv2 := below_step hbv hb2
  by_cases hwa : wa ≤ 40
  rotate_left
  · have d1 : decide ((40 : Int) < wa) = true := decide_eq_true (by omega)
    clear hwa
    go_wp2
    go_ret
    exact ⟨rfl, q2⟩
  have d1 : decide ((40 : Int) < wa) = false := decide_eq_false (by omega)
  have t0 := cell_all (XS.out 5 _ rfl) hv2
  have t1 := cell_all (XS.out 6 _ rfl) hv2
  have t2 := cell_all (XS.out 7 _ rfl) hv2
  have t3 := cell_all (XS.out 8 _ rfl) hv2
  have t4 := cell_all (XS.out 9 _ rfl) hv2
  have H2 := Lib.hid (HWE.out V2 t At ct q2 HT.out)
  generalize t.wei 0 = wt at H2
  clear hwa HWE
  go_wp2_with (fail)
  refine H2.out.mono ?_
  clear H2 t0 t1 t2 t3 t4
  rintro e V3 ⟨rfl, hb3⟩
  have q3 := below_step q2 hb3
  have hv3 := below_step hv2 hb3
  by_cases hwt : wt ≤ 40
  rotate_left
  · have d2 : decide ((40 : Int) < wt) = true := decide_eq_true (by omega)
    clear hwt
    go_wp2
    go_ret
    exact ⟨rfl, q3⟩
  have d2 : decide ((40 : Int) < wt) = false := decide_eq_false (by omega)
  clear hwt
  have s0 := cell_all (XS.out 0 _ rfl) hv3
  have s1 := cell_all (XS.out 1 _ rfl) hv3
  have s2 := cell_all (XS.out 2 _ rfl) hv3
  have s3 := cell_all (XS.out 3 _ rfl) hv3
  have s4 := cell_all (XS.out 4 _ rfl) hv3
  have t0 := cell_all (XS.out 5 _ rfl) hv3
  have t1 := cell_all (XS.out 6 _ rfl) hv3
  have t2 := cell_all (XS.out 7 _ rfl) hv3
  have t3 := cell_all (XS.out 8 _ rfl) hv3
  have t4 := cell_all (XS.out 9 _ rfl) hv3
  have c0 := cell_all (XV.out 0 _ rfl) hv3
  have c1 := cell_all (XV.out 1 _ rfl) hv3
  have c2 := cell_all (XV.out 2 _ rfl) hv3
  have HW2 : Hid (∀ V, Below V3.heap.size V3 V → Calls Tryz.prog 16 #[.slice AH l.length cH, tyV s As cs, tyV t At ct] V fun e W' => e = .returned (.bool wb) ∧ Below V.heap.size V W') := Lib.hid (fun V h => HWA.out V (below_step q3 h))
  have HW3 : Hid (∀ V, Below V3.heap.size V3 V → Calls Tryz.prog 17 #[.slice AH l.length cH, tyV s As cs, tyV t At ct] V fun e W' => e = .returned (.bool wb) ∧ Below V.heap.size V W') := Lib.hid (fun V h => HWB.out V (below_step q3 h))
  have HT2 : Hid (∀ V, Below V3.heap.size V3 V → Calls Tryz.prog 18 #[.slice AH l.length cH, tyV s As cs, tyV t At ct, tagV v] V fun e W' => e = .returned (.bool tb) ∧ Below V.heap.size V W') := Lib.hid (fun V h => HTA.out V (below_step q3 h))
  have HT3 := Lib.hid (fun V (h : Below V3.heap.size V3 V) => HTB.out V (below_step q3 h))
  have Q3 := Lib.hid q3
  clear HWA HWB HTA HTB XS XV HS HT hv3 hb3 hv2 hb2 hbv q1 q2 q3 b1
  cases wb <;> cases tb
  all_goals
    go_wp2_with (fail)
    go_region_held3 (fun w' => Below V3.heap.size V3 w' ∧ w'.cell? ⟨W.heap.size, 0, none⟩ = some (.int .i64 s.kind) ∧ w'.cell? ⟨W.heap.size, 1, none⟩ = some (.string s.name) ∧ w'.cell? ⟨W.heap.size, 2, none⟩ = some (.int .i64 s.lo) ∧ w'.cell? ⟨W.heap.size, 3, none⟩ = some (.int .i64 s.hi) ∧ w'.cell? ⟨W.heap.size, 4, none⟩ = some (.slice As s.args.length cs) ∧
        w'.cell? ⟨W.heap.size, 5, none⟩ = some (.int .i64 t.kind) ∧ w'.cell? ⟨W.heap.size, 6, none⟩ = some (.string t.name) ∧ w'.cell? ⟨W.heap.size, 7, none⟩ = some (.int .i64 t.lo) ∧ w'.cell? ⟨W.heap.size, 8, none⟩ = some (.int .i64 t.hi) ∧ w'.cell? ⟨W.heap.size, 9, none⟩ = some (.slice At t.args.length ct) ∧
        w'.cell? ⟨W.heap.size + 1, 0, none⟩ = some (.int .i64 v.kind) ∧ w'.cell? ⟨W.heap.size + 1, 1, none⟩ = some (.int .i64 v.num) ∧ w'.cell? ⟨W.heap.size + 1, 2, none⟩ = some (.string v.name))
      (first
        | exact ⟨(Below.refl _ V3).drew, s0, s1, s2, s3, s4, t0, t1, t2, t3, t4, c0, c1, c2⟩
        | (go_split_ands; exact ⟨below_step (by assumption) hbu, cell_all (by assumption) hbu, cell_all (by assumption) hbu, cell_all (by assumption) hbu, cell_all (by assumption) hbu, cell_all (by assumption) hbu, cell_all (by assumption) hbu, cell_all (by assumption) hbu, cell_all (by assumption) hbu, cell_all (by assumption) hbu, cell_all (by assumption) hbu, cell_all (by assumption) hbu, cell_all (by assumption) hbu, cell_all (by assumption) hbu⟩))
      (first
        | ((go_at_call 16; refine (HW2.out _ (by go_split_ands; assumption)).mono ?_; rintro e U ⟨rfl, hbu⟩))
        | ((go_at_call 17; refine (HW3.out _ (by go_split_ands; assumption)).mono ?_; rintro e U ⟨rfl, hbu⟩))
        | ((go_at_call 18; refine (HT2.out _ (by go_split_ands; assumption)).mono ?_; rintro e U ⟨rfl, hbu⟩))
        | ((go_at_call 19; refine (HT3.out _ (by go_split_ands; assumption)).mono ?_; rintro e U ⟨rfl, hbu⟩)))
  all_goals
    clear HW2 HW3 HT2 HT3
    go_split_ands
    go_wp2
    go_ret
    exact ⟨(by try rfl), below_step Q3.out (by assumption)⟩
end Go.Proofs.YtepnmejahbiacaaGreat
set_option linter.unusedVariables false
set_option linter.unusedSimpArgs false
namespace Go.Proofs.YtepnmejahbiacaaGreat
open Go.RowKit
theorem findI_ge {ms : List Meth} {x : Int} (h : hasI (ms.map (·.id)) x = true) : 0 ≤ findI ms x := by
  unfold findI
  cases hq : ms.findIdx? (fun m => decide (m.id = x)) with
  | some i => show (0 : Int) ≤ (i : Int); omega
  | none =>
    rw [List.findIdx?_eq_none_iff] at hq
    obtain ⟨m, hm, e⟩ := List.mem_map.1 (hasI_iff.1 h)
    have := hq m hm
    rw [decide_eq_false_iff_not] at this
    exact absurd e this
theorem chk_len {l : List CI} {ms : List Meth} {ts : List Tag} {x : Meth} (hL : LookOk l) (hn : ¬ 300 < ms.length) (hx : x ∈ ms) (h : x.pars.length ≠ ts.length) : checkAllE l ms ts = 101 := by
  apply checkAllE_meths hL hn
  by_cases h0 : (ms[0]?.map fun m => m.pars.length).getD 0 = ts.length
  · refine .inl (areMs_bad rfl hx ?_)
    unfold parsOk; rw [h0, decide_eq_false h]; rfl
  · exact .inr (.inr ⟨List.length_pos_of_mem hx, h0⟩)
theorem chk_dup {l : List CI} {ms : List Meth} {ts : List Tag} {x : Meth} {k : Nat} (hL : LookOk l) (hn : ¬ 300 < ms.length) (hx : ms[k]? = some x) (h : hasI ((ms.take k).map (·.id)) x.id = true) : checkAllE l ms ts = 101 :=
  checkAllE_meths hL hn (.inl (areMs_dup hx h))
theorem chk_type {l : List CI} {ms : List Meth} {ts : List Tag} {x : Meth} {p : Par} (hL : LookOk l) (hn : ¬ 300 < ms.length) (hx : x ∈ ms) (hp : p ∈ x.pars) (h : validErr l p.type ≠ 0) : checkAllE l ms ts = 101 :=
  checkAllE_meths hL hn (.inl (areMs_bad rfl hx (parsOk_type hp h)))
/-- The first k methods fit. -/
structure ChkUp (l : List CI) (ms : List Meth) (n k : Nat) : Prop where
  nd : ((ms.take k).map (·.id)).Nodup
  all : ∀ (j : Nat) (m : Meth), j < k → ms[j]? = some m → m.pars.length = n ∧ ∀ p ∈ m.pars, validErr l p.type = 0
theorem ChkUp.zero (l : List CI) (ms : List Meth) (n : Nat) : ChkUp l ms n 0 := ⟨by simp, fun j m h => absurd h (by omega)⟩
theorem ChkUp.step {l : List CI} {ms : List Meth} {n k : Nat} {x : Meth} (h : ChkUp l ms n k) (hx : ms[k]? = some x) (hno : hasI ((ms.take k).map (·.id)) x.id = false) (hl : x.pars.length = n) (hv : ∀ (j : Nat) (p : Par), j < n → x.pars[j]? = some p → validErr l p.type = 0) : ChkUp l ms n (k + 1) := by
  refine ⟨?_, fun j m hj hm => ?_⟩
  · rw [take_snoc hx, List.map_append]
    refine List.nodup_append.2 ⟨h.nd, by simp, fun a ha b hb e => ?_⟩
    simp at hb; subst hb; subst e
    exact hasI_false.1 hno ha
  · rcases Nat.lt_or_ge j k with z | z
    · exact h.all j m z hm
    · obtain rfl : j = k := by omega
      rw [hx] at hm; cases hm
      refine ⟨hl, fun p hp => ?_⟩
      obtain ⟨i, hi⟩ := List.mem_iff_getElem?.1 hp
      exact hv i p (by have := (List.getElem?_eq_some_iff.1 hi).1; omega) hi
theorem ChkUp.done {l : List CI} {ms : List Meth} {ts : List Tag} (h : ChkUp l ms ts.length ms.length) (hL : LookOk l) (hn : ¬ 300 < ms.length) (h6 : ¬ 6 < ts.length) : checkAllE l ms ts = if ts.all (tagOk l) then 0 else 82 := by
  have hall : ∀ m ∈ ms, m.pars.length = ts.length ∧ ∀ p ∈ m.pars, validErr l p.type = 0 := fun m hm => by
    obtain ⟨j, hj⟩ := List.mem_iff_getElem?.1 hm
    exact h.all j m (List.getElem?_eq_some_iff.1 hj).1 hj
  have hn0 : 0 < ms.length → (ms[0]?.map fun m => m.pars.length).getD 0 = ts.length := fun h0 => by
    rw [List.getElem?_eq_getElem h0]
    exact (hall _ (List.getElem_mem h0)).1
  refine checkAllE_tags hL hn ?_
  rintro (q | q | ⟨q, r⟩)
  · have : AreMs l ms = true := by
      unfold AreMs
      have hd := h.nd
      rw [List.take_length] at hd
      rw [decide_eq_true hd, Bool.true_and, List.all_eq_true]
      intro m hm
      obtain ⟨a, b⟩ := hall m hm
      unfold parsOk
      rw [hn0 (List.length_pos_of_mem hm), decide_eq_true a, decide_eq_true (show m.pars.length ≤ 6 by omega), Bool.true_and, Bool.true_and, List.all_eq_true]
      exact fun p hp => decide_eq_true (b p hp)
    rw [this] at q; cases q
  · exact h6 q
  · exact r (hn0 q)
set_option maxHeartbeats 16000000 in
set_option maxRecDepth 100000 in
theorem checkAll10_calls (AH : Option Addr) (cH : Nat) (l : List CI) (A : Option Addr) (c : Nat) (ms : List Meth) (AT : Option Addr) (cT : Nat) (ts : List Tag) (W : World) (q : Asks AH cH l A ms AT ts W) (hcM : ms.length ≤ c) :
    Calls Tryz.prog 13 #[.slice AH l.length cH, .slice A ms.length c, .slice AT ts.length cT] W fun e W' => e = .returned (.int .i64 (checkAllE l ms ts)) ∧ Below W.heap.size W W' := by
  obtain ⟨GH, h⟩ := q.h
  obtain ⟨GM, hM⟩ := q.hM
  obtain ⟨GT, hT⟩ := q.hT
  have HC := Lib.hid (check8_calls AH cH l W GH h q.hcH q.ol q.hl)
  have HSH : Hid (∀ V x A c G, Below W.heap.size W V → TySmall x → Held G (Typs A x.args) V → Calls Tryz.prog 49 #[.slice AH l.length cH, tyV x A c] V fun e V' => e = .returned (.int .i64 (validErr l x)) ∧ Below V.heap.size V V') :=
    Lib.hid (fun V x A c G hv hs h2 => shaped8_calls AH cH l q.hl x A c V G GH (h.keep (Keep.all hv)) hs.1 h2)
  have HTG : Hid (LookOk l → ∀ V t, Below W.heap.size W V → Calls Tryz.prog 50 #[.slice AH l.length cH, tagV t] V fun e V' => e = .returned (.bool (tagOk l t)) ∧ Below V.heap.size V V') :=
    Lib.hid (fun hL V t hv => tagged8_calls AH cH l q.hl t V GH (h.keep (Keep.all hv)) hL)
  have HF : Hid (∀ (k : Nat) x V, k ≤ ms.length → Below W.heap.size W V → Calls Tryz.prog 48 #[.slice A k c, .int .i64 x] V fun e V' => e = .returned (.int .i64 (findI (ms.take k) x)) ∧ V' = V) :=
    Lib.hid (fun k x V hk hv => by
      have := find_calls A c (ms.take k) x V GM ((hM.keep (Keep.all hv)).imp fun _ _ hs => Slc.take hs k) (by rw [List.length_take]; have := q.hn; omega)
      rwa [List.length_take, Nat.min_eq_left hk] at this)
  have HM := Lib.hid hM
  have HS := Lib.hid q.hs
  have HCM := Lib.hid hcM
  have hcMi : (ms.length : Int) ≤ (c : Int) := by omega
  clear h hM q
  go_enter Tryz.func13, Tryz.ntmps13
  go_wp2_with (fail)
  refine HC.out.mono ?_
  clear HC
  rintro e V ⟨hbv, (⟨hL, rfl⟩ | ⟨hL, rfl⟩)⟩
  rotate_left
  · have HE := Lib.hid (checkAllE_hier (ms := ms) (ts := ts) hL)
    clear hL
    go_wp2
    go_ret
    exact ⟨(by rw [HE.out]; try rfl), hbv⟩
  have HL := Lib.hid hL
  clear hL
  by_cases h3 : 300 < ms.length
  · have h3' : (300 : Int) < (ms.length : Int) := by omega
    have HE := Lib.hid (checkAllE_long (ts := ts) HL.out h3)
    go_wp2
    go_ret
    exact ⟨(by rw [HE.out]; try rfl), hbv⟩
  have h3' : ¬ (300 : Int) < (ms.length : Int) := by omega
  have H3 := Lib.hid h3
  clear h3
  by_cases h6 : 6 < ts.length
  · have h6' : (6 : Int) < (ts.length : Int) := by omega
    have HE := Lib.hid (checkAllE_meths (ms := ms) HL.out H3.out (.inr (.inl h6)))
    go_wp2
    go_ret
    exact ⟨(by rw [HE.out]; try rfl), hbv⟩
  have h6' : ¬ (6 : Int) < (ts.length : Int) := by omega
  have H6 := Lib.hid h6
  clear h6
  go_wp2_with (fail)
  go_loopw [8] (fun i wr => ∃ k : Nat, k ≤ ms.length ∧ i = .int .i64 k ∧ ChkUp l ms ts.length k ∧ Below W.heap.size W wr) (fun i _ => ms.length - (intOf i).toNat)
  case atStart => exact ⟨0, Nat.zero_le _, rfl, ChkUp.zero _ _ _, hbv⟩
  case round =>
    obtain ⟨k, hk, rfl, hup, hbr⟩ := hrel
    have HUP := Lib.hid hup
    clear hup
    by_cases hlt : k < ms.length
    · obtain ⟨b, off, rfl⟩ := Slc.addrH HM.out (by omega)
      have hx : ms[k]? = some ms[k] := List.getElem?_eq_getElem hlt
      have hxm : ms[k] ∈ ms := List.getElem_mem hlt
      generalize ms[k] = x at hx hxm
      have HX := Lib.hid hx
      have HXM := Lib.hid hxm
      obtain ⟨A1, c1, A2, c2, p1, p2, p3, p4, g0, g1, g2, g3, g4, g5, g6, g7⟩ := Meths.atH (HM.out.keep (Keep.all hbr)) hx
      clear hx hxm g1 g3 g4 g5 g6 g7 p3 p4
      have w1 : (0 : Int) ≤ (k : Int) := by omega
      have w2 : (k : Int) < (ms.length : Int) := by omega
      have w3 : k ≤ c := by omega
      by_cases hpl : x.pars.length = ts.length
      rotate_left
      · have HE := Lib.hid (chk_len HL.out H3.out HXM.out hpl)
        have t2 : ((x.pars.length : Int) != (ts.length : Int)) = true := by rw [bne_iff_ne]; omega
        clear hpl
        go_wp2_with (fail)
        go_quiet (fail)
        go_wp2
        go_ret
        exact ⟨(by rw [HE.out]; try rfl), hbr.trans ((Drw.of _ _).below _)⟩
      have HPL := Lib.hid hpl
      have t2 : ((x.pars.length : Int) != (ts.length : Int)) = false := bne_eq_false_iff_eq.2 (by omega)
      clear hpl
      have HFI := Lib.hid (fun V (hv : Drw wr V) => HF.out k x.id V hk (hbr.trans (hv.below _)))
      have HFA : Hid (∀ y, findI (ms.take k) x.id = y → (0 ≤ y → hasI ((ms.take k).map (·.id)) x.id = true) ∧ (¬ 0 ≤ y → hasI ((ms.take k).map (·.id)) x.id = false)) := Lib.hid (fun y hy => by
        cases hh : hasI ((ms.take k).map (·.id)) x.id with
        | true => exact ⟨fun _ => rfl, fun q => absurd (hy ▸ findI_ge hh) q⟩
        | false => exact ⟨fun q => absurd q (by rw [← hy, findI_none hh]; decide), fun _ => rfl⟩)
      obtain ⟨fi, hfi⟩ : ∃ fi, findI (ms.take k) x.id = fi := ⟨_, rfl⟩
      have HFA2 := Lib.hid (HFA.out fi hfi)
      rw [hfi] at HFI
      clear hfi HFA
      by_cases hf0 : 0 ≤ fi
      · have HE := Lib.hid (chk_dup (ts := ts) HL.out H3.out HX.out (HFA2.out.1 hf0))
        go_wp2_with (fail)
        go_quiet ((go_at_call 48; exact (HFI.out _ (by first | exact Drw.of _ _ | exact (Drw.of _ _).drewN _)).mono fun _ _ ⟨a, b⟩ => ⟨a, _, b⟩))
        go_wp2
        go_ret
        exact ⟨(by rw [HE.out]; try rfl), hbr.trans ((Drw.of _ _).below _)⟩
      have HNO := Lib.hid (HFA2.out.2 hf0)
      go_wp2_with (fail)
      go_quiet ((go_at_call 48; exact (HFI.out _ (by first | exact Drw.of _ _ | exact (Drw.of _ _).drewN _)).mono fun _ _ ⟨a, b⟩ => ⟨a, _, b⟩))
      have hbq : Below wr.heap.size wr (wr.drewN nq) := (Drw.of _ _).below _
      have G2 := Lib.hid g2
      have P2 := Lib.hid p2
      clear g0 g2 p2 HFI HFA2
      go_wp2_with (fail)
      go_loopw [9] (fun i w2 => ∃ j : Nat, j ≤ ts.length ∧ i = .int .i64 j ∧ (∀ (i : Nat) (p : Par), i < j → x.pars[i]? = some p → validErr l p.type = 0) ∧ Below wr.heap.size wr w2) (fun i _ => ts.length - (intOf i).toNat)
      case atStart => exact ⟨0, Nat.zero_le _, rfl, fun i p h => absurd h (by omega), hbq⟩
      case round =>
        obtain ⟨j, hj, rfl, hv, hb2⟩ := hrel
        have HV := Lib.hid hv
        clear hv hbq
        have bW2 := below_step hbr hb2
        by_cases hjl : j < ts.length
        · have hjl2 : j < x.pars.length := by rw [HPL.out]; exact hjl
          obtain ⟨bp, offp, rfl⟩ := Slc.addrH P2.out (by omega)
          have hy : x.pars[j]? = some x.pars[j] := List.getElem?_eq_getElem hjl2
          generalize x.pars[j] = p at hy
          have HY := Lib.hid hy
          obtain ⟨A3, c3, r1, r2, g0, g1, g2, g3, g4, g5⟩ := Pars.atH (P2.out.keep (Keep.all hb2)) hy
          have m2 := cell_all G2.out hb2
          have HVal := Lib.hid (HSH.out _ p.type A3 c3 _ bW2 (HS.out x HXM.out p (List.mem_of_getElem? hy)) r2)
          have w5 : (0 : Int) ≤ (j : Int) := by omega
          have w6 : (j : Int) < (x.pars.length : Int) := by omega
          obtain ⟨ve, hve⟩ : ∃ ve, validErr l p.type = ve := ⟨_, rfl⟩
          rw [hve] at HVal
          have HVE := Lib.hid hve
          clear hy hve g0 r1 r2 t2
          go_wp2_with (fail)
          refine HVal.out.mono ?_
          clear HVal
          rintro e V2 ⟨rfl, hb3⟩
          have hb4 := below_step hb2 hb3
          by_cases hz : ve = 0
          · subst hz
            go_wp2
            go_roundw
            case rel =>
              refine ⟨j + 1, by omega, by go_num, fun i p' hi hp => ?_, hb4⟩
              rcases Nat.lt_or_ge i j with q | q
              · exact HV.out i p' q hp
              · obtain rfl : i = j := by omega
                rw [HY.out] at hp; cases hp; exact HVE.out
            case measure => simp [intOf]; omega
          · have t3 : (ve != 0) = true := by rw [bne_iff_ne]; exact hz
            have HE := Lib.hid (chk_type (ts := ts) HL.out H3.out HXM.out (List.mem_of_getElem? HY.out) (fun q => hz (HVE.out.symm.trans q)))
            clear hz
            go_wp2
            go_ret
            exact ⟨(by rw [HE.out]; try rfl), below_step hbr hb4⟩
        · obtain rfl : j = ts.length := by omega
          have HUP2 := Lib.hid (HUP.out.step HX.out HNO.out HPL.out HV.out)
          go_wp2
          go_roundw
          case rel => exact ⟨k + 1, by omega, by go_num, HUP2.out, bW2⟩
          case measure => simp [intOf]; omega
    · obtain rfl : k = ms.length := by omega
      have HNE := Lib.hid (HUP.out.done HL.out H3.out H6.out)
      clear HUP
      go_wp2_with (fail)
      go_loopw [10] (fun i w2 => ∃ j : Nat, j ≤ ts.length ∧ i = .int .i64 j ∧ (∀ (i : Nat) (t : Tag), i < j → ts[i]? = some t → tagOk l t = true) ∧ Below W.heap.size W w2) (fun i _ => ts.length - (intOf i).toNat)
      case atStart => exact ⟨0, Nat.zero_le _, rfl, fun i t h => absurd h (by omega), hbr⟩
      case round =>
        obtain ⟨j, hj, rfl, hok, hb2⟩ := hrel
        have HOK := Lib.hid hok
        clear hok
        by_cases hjl : j < ts.length
        · obtain ⟨bt, ot, rfl⟩ := Slc.addrH hT (by omega)
          have hx : ts[j]? = some ts[j] := List.getElem?_eq_getElem hjl
          generalize ts[j] = t at hx
          have HY := Lib.hid hx
          obtain ⟨d0, d1, d2⟩ := Tags.atH (hT.keep (Keep.all hb2)) hx
          have HTT := Lib.hid (HTG.out HL.out _ t hb2)
          have w5 : (0 : Int) ≤ (j : Int) := by omega
          have w6 : (j : Int) < (ts.length : Int) := by omega
          clear hx
          cases hto : tagOk l t with
          | true =>
            have HTO := Lib.hid hto
            rw [hto] at HTT
            clear hto
            go_wp2_with (fail)
            refine HTT.out.mono ?_
            clear HTT
            rintro e V3 ⟨rfl, hb3⟩
            go_wp2
            go_roundw
            case rel =>
              refine ⟨j + 1, by omega, by go_num, fun i t' hi ht' => ?_, below_step hb2 hb3⟩
              rcases Nat.lt_or_ge i j with z | z
              · exact HOK.out i t' z ht'
              · obtain rfl : i = j := by omega
                rw [HY.out] at ht'; cases ht'; exact HTO.out
            case measure => simp [intOf]; omega
          | false =>
            have HE : Hid (checkAllE l ms ts = 82) := Lib.hid (by
              rw [HNE.out]
              have : ts.all (tagOk l) = false := List.all_eq_false.2 ⟨t, List.mem_of_getElem? HY.out, by rw [hto]; decide⟩
              rw [this]; rfl)
            rw [hto] at HTT
            clear hto
            go_wp2_with (fail)
            refine HTT.out.mono ?_
            clear HTT
            rintro e V3 ⟨rfl, hb3⟩
            go_wp2
            go_ret
            exact ⟨(by rw [HE.out]; try rfl), below_step hb2 hb3⟩
        · obtain rfl : j = ts.length := by omega
          have HE : Hid (checkAllE l ms ts = 0) := Lib.hid (by
            rw [HNE.out]
            have : ts.all (tagOk l) = true := List.all_eq_true.2 fun t ht => by
              obtain ⟨j, hj⟩ := List.mem_iff_getElem?.1 ht
              exact HOK.out j t (List.getElem?_eq_some_iff.1 hj).1 hj
            rw [this]; rfl)
          go_wp2
          go_ret
          exact ⟨(by rw [HE.out]; try rfl), hb2⟩
end Go.Proofs.YtepnmejahbiacaaGreat
set_option linter.unusedVariables false
set_option linter.unusedSimpArgs false
namespace Go.Proofs.YtepnmejahbiacaaGreat
open Go.RowKit
attribute [local go_sem ↓] Go.wp_at_zero Go.wp_at_succ
/-- Which of the parameters a method's arguments have. -/
def fitsUp (l : List CI) (ts : List Tag) (m : Meth) (k : Nat) : Prop := ∀ (j : Nat) (p : Par) (t : Tag), j < k → m.pars[j]? = some p → ts[j]? = some t → hasTF l t p.type = true
theorem fits_app {l : List CI} {ts : List Tag} {m : Meth} (hL : LookOk l) (hv : ∀ p ∈ m.pars, validErr l p.type = 0) (ht : ∀ t ∈ ts, tagOk l t = true) (h : fitsUp l ts m ts.length) : appB l ts m = true :=
  appB_true fun i p t hp hq => ⟨hL, ht t (List.mem_of_getElem? hq), hv p (List.mem_of_getElem? hp), h i p t (List.getElem?_eq_some_iff.1 hq).1 hp hq⟩
theorem fits_not {l : List CI} {ts : List Tag} {m : Meth} {i : Nat} {p : Par} {t : Tag} (hp : m.pars[i]? = some p) (hq : ts[i]? = some t) (h : hasTF l t p.type = false) : appB l ts m = false :=
  appB_false fun q => by
    have := (q i p t hp hq).2.2.2
    rw [h] at this; cases this
set_option maxHeartbeats 16000000 in
set_option maxRecDepth 100000 in
theorem applies10_calls (AH : Option Addr) (cH : Nat) (l : List CI) (m : Meth) (A1 A2 : Option Addr) (c1 c2 : Nat) (AT : Option Addr) (cT : Nat) (ts : List Tag) (W : World) (hi : HiIn W AH cH l) (hm : MetIn W m A1 A2 c1 c2) (hT : ∃ G, Held G (Tags AT ts) W) (hts : ts.length ≤ 1000000)
    (hL : LookOk l) (hpl : m.pars.length = ts.length) (hv : ∀ p ∈ m.pars, validErr l p.type = 0) (hok : ∀ t ∈ ts, tagOk l t = true) :
    Calls Tryz.prog 43 #[.slice AH l.length cH, metV m A1 c1 A2 c2, .slice AT ts.length cT] W fun e W' => e = .returned (.bool (appB l ts m)) ∧ Below W.heap.size W W' := by
  obtain ⟨W1, hW1⟩ : ∃ W1, W1 = W.alloc (.cells #[.int .i64 m.id, .string m.lib, .slice A1 m.pars.length c1, .int .i64 m.result.kind, .string m.result.name, .int .i64 m.result.lo, .int .i64 m.result.hi, .slice A2 m.result.args.length c2] 68) := ⟨_, rfl⟩
  have b1 : Below W.heap.size W W1 := by rw [hW1]; exact (Below.refl _ W).alloc (Nat.le_refl _) _
  have x2 : W1.cell? ⟨W.heap.size, 2, none⟩ = some (.slice A1 m.pars.length c1) := by rw [hW1]; exact cell_new W _ _ _ rfl 2 _ rfl
  obtain ⟨GT, hT⟩ := hT
  obtain ⟨GP, hP⟩ := hm.h2
  obtain ⟨GH, hH⟩ := hi.h
  have HFT : Hid (∀ V t x A c G, Below W.heap.size W V → TySmall x → Held G (Typs A x.args) V → Calls Tryz.prog 77 #[.slice AH l.length cH, tagV t, tyV x A c] V fun e V' => e = .returned (.bool (hasTF l t x)) ∧ Below V.heap.size V V') :=
    Lib.hid (fun V t x A c G hb hs hx => fits8_calls AH cH l hi.hl (cpl_short hL) hL t x.count x (Nat.le_refl _) A c V G GH (hH.keep (Keep.all hb)) hs.all hx)
  have HAP : Hid (fitsUp l ts m ts.length → appB l ts m = true) := Lib.hid (fits_app hL hv hok)
  have HTG := Lib.hid (hT.keep (Keep.all b1))
  have HPG := Lib.hid (hP.keep (Keep.all b1))
  have HS := Lib.hid hm.hs
  have HPL := Lib.hid hpl
  clear hT hP hH hi hm hv hok hL hpl
  go_enter Tryz.func43, Tryz.ntmps43
  go_wp2_with (fail)
  rw [← hW1]
  clear hW1
  go_loopw [7] (fun i wr => ∃ k : Nat, k ≤ ts.length ∧ i = .int .i64 k ∧ fitsUp l ts m k ∧ Below W1.heap.size W1 wr) (fun i _ => ts.length - (intOf i).toNat)
  case atStart => exact ⟨0, Nat.zero_le _, rfl, fun j p t h => absurd h (by omega), Below.refl _ _⟩
  case round =>
    obtain ⟨k, hk, rfl, hup, hb⟩ := hrel
    have HUP := Lib.hid hup
    clear hup
    have q1 := below_step b1 hb
    by_cases hlt : k < ts.length
    · obtain ⟨bt, ot, rfl⟩ := Slc.addrH HTG.out (by omega)
      have hlp : k < m.pars.length := by rw [HPL.out]; exact hlt
      obtain ⟨bp, op, rfl⟩ := Slc.addrH HPG.out (by omega)
      have hx : ts[k]? = some ts[k] := List.getElem?_eq_getElem hlt
      generalize ts[k] = t at hx
      have hy : m.pars[k]? = some m.pars[k] := List.getElem?_eq_getElem hlp
      generalize m.pars[k] = p at hy
      have HX := Lib.hid hx
      have HY := Lib.hid hy
      obtain ⟨d0, d1, d2⟩ := Tags.atH (HTG.out.keep (Keep.all hb)) hx
      obtain ⟨A3, c3, r1, r2, g0, g1, g2, g3, g4, g5⟩ := Pars.atH (HPG.out.keep (Keep.all hb)) hy
      have m2 := cell_all x2 hb
      have HST := Lib.hid (fun V (hv : Below wr.heap.size wr V) => HFT.out V t p.type A3 c3 _ (below_step q1 hv) (HS.out p (List.mem_of_getElem? HY.out)) (r2.keep (Keep.all hv)))
      have w1 : (0 : Int) ≤ (k : Int) := by omega
      have w2 : (k : Int) < (ts.length : Int) := by omega
      have w3 : (k : Int) < (m.pars.length : Int) := by omega
      clear hx hy r1 r2 g0
      obtain ⟨fx, hfx⟩ : ∃ fx, hasTF l t p.type = fx := ⟨_, rfl⟩
      have HFX := Lib.hid hfx
      rw [hfx] at HST
      clear hfx
      have HK := Lib.hid hlt
      go_wp2_with (fail)
      go_region_held3 (fun w' => Below wr.heap.size wr w' ∧ w'.cell? ⟨W.heap.size, 2, none⟩ = some (.slice (some ⟨bp, op, none⟩) m.pars.length c1) ∧ w'.cell? ⟨bt, ot + k * 3, none⟩ = some (.int .i64 t.kind) ∧ w'.cell? ⟨bt, ot + k * 3 + 1, none⟩ = some (.int .i64 t.num) ∧ w'.cell? ⟨bt, ot + k * 3 + 2, none⟩ = some (.string t.name) ∧
          w'.cell? ⟨bp, op + k * 6 + 1, none⟩ = some (.int .i64 p.type.kind) ∧ w'.cell? ⟨bp, op + k * 6 + 2, none⟩ = some (.string p.type.name) ∧ w'.cell? ⟨bp, op + k * 6 + 3, none⟩ = some (.int .i64 p.type.lo) ∧ w'.cell? ⟨bp, op + k * 6 + 4, none⟩ = some (.int .i64 p.type.hi) ∧ w'.cell? ⟨bp, op + k * 6 + 5, none⟩ = some (.slice A3 p.type.args.length c3))
        (first | exact ⟨(Below.refl _ wr).drew, m2, d0, d1, d2, g1, g2, g3, g4, g5⟩ | (go_split_ands; exact ⟨below_step (by assumption) hbu, cell_all (by assumption) hbu, cell_all (by assumption) hbu, cell_all (by assumption) hbu, cell_all (by assumption) hbu, cell_all (by assumption) hbu, cell_all (by assumption) hbu, cell_all (by assumption) hbu, cell_all (by assumption) hbu, cell_all (by assumption) hbu⟩))
        ((go_at_call 77; refine (HST.out _ (by go_split_ands; assumption)).mono ?_; rintro e U ⟨rfl, hbu⟩))
      have hb5 : Below wr.heap.size wr U := by go_split_ands; assumption
      have hb6 := below_step hb hb5
      go_split_ands
      clear HST
      cases fx with
      | false =>
        have HR := Lib.hid (fits_not HY.out HX.out HFX.out)
        have qf := below_step b1 hb6
        go_wp2
        go_ret
        exact ⟨by rw [HR.out]; try rfl, qf⟩
      | true =>
        have HN : Hid (fitsUp l ts m (k + 1)) := Lib.hid (fun j p' t' hj hp' ht' => by
          rcases Nat.lt_or_ge j k with z | z
          · exact HUP.out j p' t' z hp' ht'
          · obtain rfl : j = k := by omega
            rw [HX.out] at ht'; cases ht'
            rw [HY.out] at hp'; cases hp'
            exact HFX.out)
        go_wp2
        go_roundw
        case rel => exact ⟨k + 1, by have := HK.out; omega, by go_num, HN.out, hb6⟩
        case measure => have := HK.out; simp [intOf]; omega
    · obtain rfl : k = ts.length := by omega
      have HR := Lib.hid (HAP.out HUP.out)
      go_wp2
      go_ret
      exact ⟨by rw [HR.out]; try rfl, q1⟩
theorem filter_step {α : Type} {p : α → Bool} {l : List α} {k : Nat} {x : α} (hx : l[k]? = some x) : (l.take (k + 1)).filter p = (l.take k).filter p ++ (if p x = true then [x] else []) := by
  rw [take_snoc hx, List.filter_append]
  cases h : p x <;> simp [h]
set_option maxHeartbeats 16000000 in
set_option maxRecDepth 100000 in
theorem applicable10_calls (AH : Option Addr) (cH : Nat) (l : List CI) (A : Option Addr) (c : Nat) (ms : List Meth) (AT : Option Addr) (cT : Nat) (ts : List Tag) (W : World) (q : Asks AH cH l A ms AT ts W) (hcM : ms.length ≤ c) :
    Calls Tryz.prog 11 #[.slice AH l.length cH, .slice A ms.length c, .slice AT ts.length cT] W fun e W' => ∃ A' c', e = .returned (.tuple #[.slice A' (applR l ms ts).1.length c', .int .i64 (applR l ms ts).2]) ∧ (applR l ms ts).1.length ≤ c' ∧ Held (fun b => b < W'.heap.size) (Ints A' (applR l ms ts).1) W' ∧ Below W.heap.size W W' := by
  have HC := Lib.hid (checkAll10_calls AH cH l A c ms AT cT ts W q hcM)
  have HI := Lib.hid q.hi
  obtain ⟨GM, hM⟩ := q.hM
  have HM := Lib.hid hM
  have HAP : Hid (checkAllE l ms ts = 0 → ∀ V m A1 c1 A2 c2, Below W.heap.size W V → m ∈ ms → MetIn V m A1 A2 c1 c2 → Calls Tryz.prog 43 #[.slice AH l.length cH, metV m A1 c1 A2 c2, .slice AT ts.length cT] V fun e V' => e = .returned (.bool (appB l ts m)) ∧ Below V.heap.size V V') :=
    Lib.hid (fun hz V m A1 c1 A2 c2 hv hm hmi => by
      obtain ⟨z1, z2, z3, z4, z5, z6⟩ := checkAllE_zero hz
      refine applies10_calls AH cH l m A1 A2 c1 c2 AT cT ts V (HI.out.keep hv) hmi (q.hT.imp fun _ h => h.keep (Keep.all hv)) q.hts z1 (z5 m hm) ?_ z6
      intro p hp
      unfold AreMs at z3
      rw [Bool.and_eq_true] at z3
      have := List.all_eq_true.1 z3.2 m hm
      unfold parsOk at this
      rw [Bool.and_eq_true] at this
      exact of_decide_eq_true (List.all_eq_true.1 this.2 p hp))
  have HS := Lib.hid q.hs
  have HP := Lib.hid q.hp
  have hn := q.hn
  clear hM q
  go_enter Tryz.func11, Tryz.ntmps11
  by_cases hz : checkAllE l ms ts = 0
  rotate_left
  · have t1 : (checkAllE l ms ts != 0) = true := by rw [bne_iff_ne]; exact hz
    have HR := Lib.hid (applR_bad hz)
    clear hz HAP
    generalize checkAllE l ms ts = ce at t1 HR HC
    go_wp2_with (fail)
    refine HC.out.mono ?_
    clear HC
    rintro e V ⟨rfl, hbv⟩
    go_wp2
    go_ret2
    exact ⟨none, 0, (by rw [HR.out]; try rfl), (by rw [HR.out]; exact Nat.le_refl _), (by rw [HR.out]; exact fun _ _ => Slc.nil _ _ _ _), hbv⟩
  have HAZ := Lib.hid (HAP.out hz)
  have HR := Lib.hid (applR_ok hz)
  rw [hz] at HC
  clear hz HAP
  go_wp2_with (fail)
  refine HC.out.mono ?_
  clear HC
  rintro e V ⟨rfl, hbv⟩
  go_wp2_with (fail)
  go_loopw [9, 10] (fun v i wr => ∃ k : Nat, k ≤ ms.length ∧ i = .int .i64 k ∧ Own intR 3 1 W.heap.size (fun _ => False) v (((ms.take k).filter (appB l ts)).map (·.id)) wr ∧ Below W.heap.size W wr) (fun _ i _ => ms.length - (intOf i).toNat)
  case atStart => exact ⟨0, Nat.zero_le _, rfl, Own.nil _ _ _ _ _ _, hbv⟩
  case round =>
    obtain ⟨k, hk, rfl, hown, hb⟩ := hrel
    by_cases hlt : k < ms.length
    · obtain ⟨b, off, rfl⟩ := Slc.addrH HM.out (by omega)
      have hx : ms[k]? = some ms[k] := List.getElem?_eq_getElem hlt
      generalize ms[k] = x at hx
      have HX := Lib.hid hx
      obtain ⟨A1, c1, A2, c2, p1, p2, p3, p4, g0, g1, g2, g3, g4, g5, g6, g7⟩ := Meths.atH (HM.out.keep (Keep.all hb)) hx
      have hxm := List.mem_of_getElem? hx
      have HA := Lib.hid (HAZ.out wr x A1 c1 A2 c2 hb hxm ⟨p1, ⟨_, p2⟩, p3, ⟨_, p4⟩, HS.out x hxm, HP.out x hxm⟩)
      have w1 : (0 : Int) ≤ (k : Int) := by omega
      have w2 : (k : Int) < (ms.length : Int) := by omega
      have HST := Lib.hid (filter_step (p := appB l ts) hx)
      have HLN : Hid (((ms.take k).filter (appB l ts)).length ≤ k) := Lib.hid (by
        have h1 := List.length_filter_le (appB l ts) (ms.take k)
        rw [List.length_take] at h1; omega)
      clear hx hxm p1 p2 p3 p4
      cases hap : appB l ts x with
      | false =>
        rw [hap] at HA HST
        clear hap
        go_wp2_with (fail)
        refine HA.out.mono ?_
        clear HA
        rintro e U ⟨rfl, hbu⟩
        have hownU := hown.all hbu
        go_wp2
        go_roundw
        case rel => exact ⟨k + 1, by omega, by go_num, (by rw [HST.out]; simpa using hownU), below_step hb hbu⟩
        case measure => simp [intOf]; omega
      | true =>
        rw [hap] at HA HST
        clear hap
        go_wp2_with (fail)
        refine HA.out.mono ?_
        clear HA
        rintro e U ⟨rfl, hbu⟩
        have hownU := hown.all hbu
        have u0 := cell_all g0 hbu
        have hb2 := below_step hb hbu
        clear g0 g1 g2 g3 g4 g5 g6 g7 hown
        generalize ((ms.take k).filter (appB l ts)) = fl at hownU HST HLN
        go_wp2_with (at_builtin; refine Classical.byContradiction fun hneg => ?_)
        apply hneg
        have hbz := hb2.size
        refine wp_append_one intR 3 1 W.heap.size 8 (fun _ => False) _ rfl _ _ 27 _ rfl Tryz.underlying27 infoInt rfl (by decide) (by decide) _ (fl.map (·.id)) rfl ?own ⟨U.heap.size, 0, none⟩ 1 rfl x.id [.int .i64 x.id] rfl ?cells ?one ?held ?hG ?base ?len ?_
        case own => exact hownU.alloc _
        case cells => exact fun j u hu => cells_new U _ _ _ (by simp) j u hu
        case one => intro u hu; simp at hu; subst hu; rfl
        case held => exact fun _ _ => rfl
        case hG => exact fun b hb _ => hb.elim
        case base => simp; omega
        case len => have := HLN.out; simp; omega
        intro v' w1 hown1 hg1 _
        have hb3 : Below W.heap.size W w1 := (hb2.alloc hb2.size _).grown hg1 (by simp; omega) fun k' e => (hownU.lt _ e).1
        have hown2 : Own intR 3 1 W.heap.size (fun _ => False) v' ((fl ++ [x]).map (·.id)) w1 := by rw [List.map_append]; exact hown1
        clear hown1
        go_wp2
        go_roundw
        case rel => exact ⟨k + 1, by omega, by go_num, (by rw [HST.out]; exact hown2), hb3⟩
        case measure => simp [intOf]; omega
    · obtain rfl : k = ms.length := by omega
      rw [List.take_length] at hown
      obtain ⟨A6, c6, rfl, hc6, h6⟩ := hown.out
      have H6 := Lib.hid h6
      have HC6 := Lib.hid hc6
      clear hown h6 hc6
      generalize (ms.filter (appB l ts)).map (·.id) = fl at H6 HR HC6
      go_wp2
      go_ret2
      exact ⟨A6, c6, (by rw [HR.out]; try rfl), (by rw [HR.out]; exact HC6.out), (by rw [HR.out]; exact H6.out.mono fun b hb _ => hb), hb⟩
end Go.Proofs.YtepnmejahbiacaaGreat
set_option linter.unusedVariables false
set_option linter.unusedSimpArgs false
namespace Go.Proofs.YtepnmejahbiacaaGreat
open Go.RowKit
set_option maxHeartbeats 32000000 in
set_option maxRecDepth 100000 in
theorem apply_calls (AH : Option Addr) (cH : Nat) (l : List CI) (AM : Option Addr) (cM : Nat) (ms : List Meth) (AT : Option Addr) (cT : Nat) (ts : List Tag) (W : World) (q : Asks AH cH l AM ms AT ts W) (hcM : ms.length ≤ cM) :
    Calls Tryz.prog 3 #[.slice AH l.length cH, .slice AM ms.length cM, .slice AT ts.length cT] W fun e W' => e = .returned (.bool true) ∧ Below W.heap.size W W' := by
  have HQ := Lib.hid q
  have hn := q.hn
  obtain ⟨GM, hM⟩ := q.hM
  have HM := Lib.hid hM
  have HIL : Hid ((applR l ms ts).1.length ≤ 1000000) := Lib.hid (by have := applR_len l ms ts; omega)
  have HA1 := Lib.hid (fun V (hv : Below W.heap.size W V) => applicable_calls AH cH l AM cM ms AT cT ts V (HQ.out.keep hv))
  have HA2 := Lib.hid (fun V (hv : Below W.heap.size W V) => applicable10_calls AH cH l AM cM ms AT cT ts V (HQ.out.keep hv) hcM)
  have HC1 := Lib.hid (fun V (hv : Below W.heap.size W V) => by
    obtain ⟨GH, h⟩ := (HQ.out.keep hv).h
    obtain ⟨GM, hM⟩ := (HQ.out.keep hv).hM
    obtain ⟨GT, hT⟩ := (HQ.out.keep hv).hT
    exact checkAll_calls AH cH l AM cM ms AT cT ts V GH h q.hcH q.ol q.hl GM hM q.hn q.hs q.hp GT hT q.hts)
  have HC2 := Lib.hid (fun V (hv : Below W.heap.size W V) => checkAll10_calls AH cH l AM cM ms AT cT ts V (HQ.out.keep hv) hcM)
  clear q hM
  obtain ⟨ids, hids⟩ : ∃ ids, (applR l ms ts).1 = ids := ⟨_, rfl⟩
  obtain ⟨er, her⟩ : ∃ er, (applR l ms ts).2 = er := ⟨_, rfl⟩
  obtain ⟨ce, hce⟩ : ∃ ce, checkAllE l ms ts = ce := ⟨_, rfl⟩
  rw [hids, her] at HA1 HA2
  rw [hids] at HIL
  rw [hce] at HC1 HC2
  clear hids her hce
  go_enter Tryz.func3, Tryz.ntmps3
  go_wp2_with (fail)
  refine (sane_calls _).mono ?_
  rintro e V0 ⟨rfl, q0⟩
  have HFE := Lib.hid (few_calls AM cM ms V0 _ (HM.out.all q0) HQ.out.hp)
  cases hfe : fewB ms with
  | false =>
    rw [hfe] at HFE
    clear hfe
    go_wp2_with (fail)
    refine HFE.out.mono ?_
    rintro e V2 ⟨rfl, hb2⟩
    have q2 := below_step q0 hb2
    go_wp2
    go_ret
    exact ⟨rfl, q2⟩
  | true =>
  rw [hfe] at HFE
  clear hfe
  go_wp2_with (fail)
  refine HFE.out.mono ?_
  clear HFE
  rintro e V1 ⟨rfl, hb1⟩
  have q1 := below_step q0 hb1
  go_wp2_with (fail)
  refine (HA1.out V1 q1).mono ?_
  clear HA1
  rintro e V2 ⟨A1, c1, rfl, hi1, hb2⟩
  have HI1 := Lib.hid hi1
  have q2 := below_step q1 hb2
  clear hi1
  go_wp2_with (fail)
  refine (HA2.out V2 q2).mono ?_
  clear HA2
  rintro e V3 ⟨A2, c2, rfl, _, hi2, hb3⟩
  have HI2 := Lib.hid hi2
  have q3 := below_step q2 hb3
  clear hi2
  go_wp2_with (fail)
  refine (HC1.out V3 q3).mono ?_
  clear HC1
  rintro e V4 ⟨rfl, hb4⟩
  have q4 := below_step q3 hb4
  go_wp2_with (fail)
  refine (HC2.out V4 q4).mono ?_
  clear HC2
  rintro e V5 ⟨rfl, hb5⟩
  have q5 := below_step q4 hb5
  have HSI := Lib.hid (sameInts_true A1 A2 c1 c2 ids V5 _ _ (HI1.out.all (below_step (below_step hb3 hb4) hb5)) (HI2.out.all (below_step hb4 hb5)) HIL.out)
  have t1 : (ce == ce) = true := beq_self_eq_true ce
  have t2 : (er == er) = true := beq_self_eq_true er
  go_wp2_with (fail)
  refine HSI.out.mono ?_
  rintro e V6 ⟨rfl, hb6⟩
  have q6 := below_step q5 hb6
  go_wp2
  go_ret
  exact ⟨by try rfl, q6⟩
end Go.Proofs.YtepnmejahbiacaaGreat
