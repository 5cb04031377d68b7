/- Part 35 of the proof: Qs, Qt, Qu. -/
import Derived.Test.YtepnmejahbiacaaGreatJ22
import Derived.Test.YtepnmejahbiacaaGreatJ20
import Derived.Test.YtepnmejahbiacaaGreatJ05
import Derived.Test.YtepnmejahbiacaaGreatJ06
import Derived.Test.YtepnmejahbiacaaGreatJ19
import Derived.Test.YtepnmejahbiacaaGreatJ07
import Derived.Test.YtepnmejahbiacaaGreatJ12
import Derived.Test.YtepnmejahbiacaaGreatJ13
import Derived.Test.YtepnmejahbiacaaGreatJ14
import Derived.Test.YtepnmejahbiacaaGreatJ15
import Derived.Test.YtepnmejahbiacaaGreatJ18
import Derived.Test.YtepnmejahbiacaaGreatJ25
import Derived.Test.YtepnmejahbiacaaGreatJ24
import Derived.Test.YtepnmejahbiacaaGreatJ21
import Derived.Test.YtepnmejahbiacaaGreatJ08
import Derived.Test.YtepnmejahbiacaaGreatJ17
import Derived.Test.YtepnmejahbiacaaGreatJ04
import Derived.Test.YtepnmejahbiacaaGreatJ10
import Derived.Test.YtepnmejahbiacaaGreatJ11
import Derived.Test.YtepnmejahbiacaaGreatJ23
import Derived.Test.YtepnmejahbiacaaGreatJ28
import Derived.Test.YtepnmejahbiacaaGreatJ29
import Derived.Test.YtepnmejahbiacaaGreatJ31
import Derived.Test.YtepnmejahbiacaaGreatJ32
import Derived.Test.YtepnmejahbiacaaGreatJ33
import Derived.Test.YtepnmejahbiacaaGreatJ34
import Derived.Test.YtepnmejahbiacaaGreatJ09
import Derived.Test.YtepnmejahbiacaaGreatJ26
import Derived.Test.YtepnmejahbiacaaGreatJ03
import Derived.Test.YtepnmejahbiacaaGreatJ16
import Derived.Test.YtepnmejahbiacaaGreatJ02
import Derived.Test.YtepnmejahbiacaaGreatJ01
import Derived.BigQuiet
import Derived.Carry
import Derived.Deep.AppendLies
import Derived.Deep.DrawnRows
import Derived.Deep.Draws
import Derived.Deep.LoopGhost
import Derived.Deep.QuietTactic
import Derived.Deep.RegionHeld3
import Derived.Deep.RegionLaw
import Derived.Deep.RegionWith
import Derived.KernelRfl
import Derived.Laws.EntriesVeiled
import Derived.Laws.OwnMore
import Derived.Lib.Hide
import Derived.Lib.SliceRun
import Derived.LoopIn
import Derived.LoopNIn
import Derived.Maps.AppendAt
import Derived.Maps.Own
import Derived.Maps.OwnIn
import Derived.Outline
import Derived.OwnWalkIn
import Derived.RangeFuncBound
import Derived.RangeFuncCalls
import Derived.RangeFuncLeaves
import Derived.RangeFuncNested
import Derived.Recover
import Derived.StillTailTactics
import Derived.Stop.RegionWithIn
import Derived.TacticsInMore
import Derived.Test.YtepnmejahbiacaaGreatProg
import Derived.WalkKit
import Derived.WalkSpells
set_option linter.unusedVariables false
set_option linter.unusedSimpArgs false
namespace Go.Proofs.YtepnmejahbiacaaGreat
open Go.RowKit
attribute [local go_sem ↓] Go.wp_at_zero Go.wp_at_succ
mutual
theorem Ty.leaf_mem {p : Ty → Bool} : ∀ t : Ty, t.all p = true → ∀ x ∈ t.pieces, p x = true ∧ x.kind ≠ 5
  | .mk a b c d args, e, x, hx => by
    rw [Ty.all, Bool.and_eq_true] at e
    by_cases h5 : a = 5
    · rw [Ty.pieces, if_pos h5] at hx
      exact Ty.leaf_memL args e.2 x hx
    · rw [Ty.pieces, if_neg h5, List.mem_singleton] at hx
      subst hx
      exact ⟨e.1, h5⟩
theorem Ty.leaf_memL {p : Ty → Bool} : ∀ l : List Ty, Ty.alls p l = true → ∀ x ∈ Ty.piecesL l, p x = true ∧ x.kind ≠ 5
  | [], _, x, hx => by simp [Ty.piecesL] at hx
  | t :: r, e, x, hx => by
    rw [Ty.alls, Bool.and_eq_true] at e
    rw [Ty.piecesL, List.mem_append] at hx
    rcases hx with h | h
    · exact Ty.leaf_mem t e.1 x h
    · exact Ty.leaf_memL r e.2 x h
end
theorem leafs_of {l : List CI} {t : Ty} (h : formedB l t = true) : ∀ x ∈ t.pieces, leafK x := by
  intro x hx
  obtain ⟨h1, h2⟩ := Ty.leaf_mem t h x hx
  unfold formed0 at h1
  unfold leafK
  by_cases k1 : x.kind = 1 ∨ x.kind = 4
  · rcases k1 with k | k
    · exact .inl k
    · exact .inr (.inr (.inr k))
  · rw [if_neg k1] at h1
    by_cases k2 : x.kind = 2
    · exact .inr (.inl k2)
    · rw [if_neg k2] at h1
      by_cases k3 : x.kind = 3
      · exact .inr (.inr (.inl k3))
      · rw [if_neg k3, if_neg h2] at h1; cases h1
theorem validErr_leafs {l : List CI} {t : Ty} (h : validErr l t = 0) : ∀ x ∈ t.pieces, leafK x := by
  refine leafs_of (l := l) ?_
  unfold validErr at h
  split at h
  · split at h
    · assumption
    · cases h
  · contradiction
set_option maxHeartbeats 32000000 in
set_option maxRecDepth 100000 in
theorem inside10_calls (AH : Option Addr) (cH : Nat) (l : List CI) (hcp : ∀ x ∈ l, x.cpl.length ≤ 1000000) (s t : Ty) (As At : Option Addr) (cs ct : Nat) (W : World) (hi : HiIn W AH cH l) (hs : TyIn W s As cs) (ht : TyIn W t At ct) (hks : ∀ x ∈ s.pieces, leafK x) :
    Calls Tryz.prog 52 #[.slice AH l.length cH, tyV s As cs, tyV t At ct] W fun e W' => e = .returned (.bool (withinB l s t)) ∧ Below W.heap.size W W' := by
  obtain ⟨W1, hW1⟩ : ∃ W1, W1 = (W.alloc (.cells #[.int .i64 s.kind, .string s.name, .int .i64 s.lo, .int .i64 s.hi, .slice As s.args.length cs] 36)).alloc (.cells #[.int .i64 t.kind, .string t.name, .int .i64 t.lo, .int .i64 t.hi, .slice At t.args.length ct] 36) := ⟨_, rfl⟩
  have b1 : Below W.heap.size W W1 := by rw [hW1]; exact ((Below.refl _ W).alloc (Nat.le_refl _) _).alloc (by simp) _
  have xs : ∀ j u, [Value.int .i64 s.kind, .string s.name, .int .i64 s.lo, .int .i64 s.hi, .slice As s.args.length cs][j]? = some u → W1.cell? ⟨W.heap.size, j, none⟩ = some u := fun j u hj => by rw [hW1]; exact alloc_cell' (cell_new W _ _ _ rfl j u hj)
  have xt : ∀ j u, [Value.int .i64 t.kind, .string t.name, .int .i64 t.lo, .int .i64 t.hi, .slice At t.args.length ct][j]? = some u → W1.cell? ⟨W.heap.size + 1, j, none⟩ = some u := fun j u hj => by rw [hW1]; exact cell_new (W.alloc _) _ _ _ (by simp) j u hj
  have s0 := xs 0 _ rfl
  have s1 := xs 1 _ rfl
  have s2 := xs 2 _ rfl
  have s3 := xs 3 _ rfl
  have s4 := xs 4 _ rfl
  have XT := Lib.hid xt
  have HI := Lib.hid hi
  have HPS : Hid (Calls Tryz.prog 87 #[.slice none 0 0, tyV s As cs] W1 fun e V => ∃ A c, e = .returned (.slice A s.pieces.length c) ∧ s.pieces.length ≤ c ∧ (∃ G, Held G (Typs A s.pieces) V) ∧ Below W1.heap.size W1 V) := Lib.hid (by
    obtain ⟨G, h2⟩ := hs.h2
    refine (pieces10_calls W.heap.size s.count s (Nat.le_refl _) As cs W1 [] (.slice none 0 0) b1.size (Own.nil _ _ _ _ _ _) hs.h1 (h2.here.keep (Keep.below b1)) hs.hs.1 (by simpa using hs.hs.2)).mono ?_
    rintro e V ⟨v, rfl, ho, hc, _⟩
    obtain ⟨A, c, rfl, h3, h4⟩ := ho.out
    exact ⟨A, c, rfl, h3, ⟨_, h4⟩, hc.below (Nat.le_refl _) (fun b e => by cases e)⟩)
  have HPT : Hid (∀ V0, Below W.heap.size W V0 → Calls Tryz.prog 87 #[.slice none 0 0, tyV t At ct] V0 fun e V => ∃ A c, e = .returned (.slice A t.pieces.length c) ∧ t.pieces.length ≤ c ∧ (∃ G, Held G (Typs A t.pieces) V) ∧ Below V0.heap.size V0 V) := Lib.hid (fun V0 hv => by
    obtain ⟨G, h2⟩ := ht.h2
    refine (pieces10_calls W.heap.size t.count t (Nat.le_refl _) At ct V0 [] (.slice none 0 0) hv.size (Own.nil _ _ _ _ _ _) ht.h1 (h2.here.keep (Keep.below hv)) ht.hs.1 (by simpa using ht.hs.2)).mono ?_
    rintro e V ⟨v, rfl, ho, hc, _⟩
    obtain ⟨A, c, rfl, h3, h4⟩ := ho.out
    exact ⟨A, c, rfl, h3, ⟨_, h4⟩, hc.below (Nat.le_refl _) (fun b e => by cases e)⟩)
  have HPC : Hid (∀ V x y Ax Ay cx cy, x ∈ s.pieces → Below W.heap.size W V → Calls Tryz.prog 88 #[.slice AH l.length cH, tyV x Ax cx, tyV y Ay cy] V fun e V' => e = .returned (.bool (insideB l x y)) ∧ Below V.heap.size V V') := Lib.hid (fun V x y Ax Ay cx cy hx hv => by
    obtain ⟨G, h⟩ := (HI.out.keep hv).h
    exact piece10_calls AH cH l x y Ax Ay cx cy V G h HI.out.hl hcp (hks x hx))
  have hls : s.pieces.length ≤ 1000000000 := Nat.le_trans (Ty.pieces_len s) (hs.hs.2)
  have hlt : t.pieces.length ≤ 1000000000 := Nat.le_trans (Ty.pieces_len t) (ht.hs.2)
  obtain ⟨r, hr⟩ : ∃ r, withinB l s t = r := ⟨_, rfl⟩
  rw [hr]
  have HR : Hid (withinB l s t = r) := Lib.hid hr
  unfold withinB at HR
  clear hr hi hs ht hcp hks xs xt
  go_enter Tryz.func52, Tryz.ntmps52
  generalize s.pieces = P at HPS HPC HR hls
  generalize t.pieces = T at HPT HR hlt
  have HLS := Lib.hid hls
  have HLT := Lib.hid hlt
  clear hls hlt
  go_wp2_with (fail)
  rw [← hW1]
  clear hW1
  refine HPS.out.mono ?_
  clear HPS
  rintro e V1 ⟨AP, cP, rfl, hcP, ⟨GP, hP⟩, hb1⟩
  have q1 := below_step b1 hb1
  have HP1 := Lib.hid hP
  clear hP s0 s1 s2 s3 s4
  have t0 := cell_all (XT.out 0 _ rfl) hb1
  have t1 := cell_all (XT.out 1 _ rfl) hb1
  have t2 := cell_all (XT.out 2 _ rfl) hb1
  have t3 := cell_all (XT.out 3 _ rfl) hb1
  have t4 := cell_all (XT.out 4 _ rfl) hb1
  go_wp2_with (fail)
  refine (HPT.out V1 q1).mono ?_
  clear HPT t0 t1 t2 t3 t4
  rintro e V2 ⟨AT, cT, rfl, hcT, ⟨GT, hT⟩, hb2⟩
  have q2 := below_step q1 hb2
  have HP := Lib.hid (HP1.out.keep (Keep.all hb2))
  have HT := Lib.hid hT
  clear hT HP1
  go_wp2_with (fail)
  go_loopw [9] (fun i wr => ∃ k : Nat, k ≤ P.length ∧ i = .int .i64 k ∧ ((P.take k).all fun a => T.any fun b => insideB l a b) = true ∧ Below V2.heap.size V2 wr) (fun i _ => P.length - (intOf i).toNat)
  case atStart => exact ⟨0, Nat.zero_le _, rfl, by simp, Below.refl _ _⟩
  case round =>
    obtain ⟨k, hk, rfl, hall, hb⟩ := hrel
    have HALL := Lib.hid hall
    clear hall
    have qr := below_step q2 hb
    by_cases hlt : k < P.length
    rotate_left
    · obtain rfl : k = P.length := by omega
      have HE : Hid (r = true) := Lib.hid (by rw [← HR.out]; have := HALL.out; rwa [List.take_length] at this)
      go_wp2
      go_ret
      exact ⟨by rw [HE.out]; try rfl, qr⟩
    obtain ⟨b, off, rfl⟩ := Slc.addrH HP.out (by omega)
    have hx : P[k]? = some P[k] := List.getElem?_eq_getElem hlt
    generalize P[k] = x at hx
    have hk9 : k ≤ 1000000000 := by have := HLS.out; omega
    have HX := Lib.hid hx
    clear hx
    go_wp2_with (fail)
    go_loopw [10, 11] (fun v i w2 => ∃ j : Nat, j ≤ T.length ∧ i = .int .i64 j ∧ v = .bool ((T.take j).any fun b => insideB l x b) ∧ Below wr.heap.size wr w2) (fun _ i _ => T.length - (intOf i).toNat)
    case atStart => exact ⟨0, Nat.zero_le _, rfl, by simp, Below.refl _ _⟩
    case round =>
      obtain ⟨j, hj, rfl, rfl, hbi⟩ := hrel
      have hb2i := below_step hb hbi
      have qi := below_step qr hbi
      cases hany : ((T.take j).any fun b => insideB l x b) with
      | true =>
        have HA : Hid ((T.any fun b => insideB l x b) = true) := Lib.hid (by
          obtain ⟨y, hy, hy2⟩ := List.any_eq_true.1 hany
          exact List.any_eq_true.2 ⟨y, List.mem_of_mem_take hy, hy2⟩)
        have HN : Hid (((P.take (k + 1)).all fun a => T.any fun b => insideB l a b) = true) := Lib.hid (by
          rw [take_snoc HX.out, List.all_append, HALL.out]; simp only [List.all_cons, List.all_nil, Bool.and_true, Bool.true_and]; exact HA.out)
        clear hany
        have HLK := Lib.hid hlt
        by_cases hjl : j < T.length
        · have d1 : decide ((j : Int) < (T.length : Int)) = true := decide_eq_true (by omega)
          go_wp2
          go_roundw
          case rel => exact ⟨k + 1, by have := HLK.out; omega, by go_num, HN.out, hb2i⟩
          case measure => have := HLK.out; simp [intOf]; omega
        · have d1 : decide ((j : Int) < (T.length : Int)) = false := decide_eq_false (by omega)
          go_wp2
          go_roundw
          case rel => exact ⟨k + 1, by have := HLK.out; omega, by go_num, HN.out, hb2i⟩
          case measure => have := HLK.out; simp [intOf]; omega
      | false =>
      by_cases hjl : j < T.length
      rotate_left
      · obtain rfl : j = T.length := by omega
        have HE : Hid (r = false) := Lib.hid (by
          rw [← HR.out]
          refine List.all_eq_false.2 ⟨x, List.mem_of_getElem? HX.out, ?_⟩
          rw [List.take_length] at hany
          rw [hany]; simp)
        clear hany
        go_wp2
        go_ret
        exact ⟨by rw [HE.out]; try rfl, qi⟩
      have HANY := Lib.hid hany
      clear hany
      obtain ⟨b', off', rfl⟩ := Slc.addrH HT.out (by omega)
      have hy : T[j]? = some T[j] := List.getElem?_eq_getElem hjl
      generalize T[j] = y at hy
      have hj9 : j ≤ 1000000000 := by have := HLT.out; omega
      have HY := Lib.hid hy
      obtain ⟨A3, c3, _, _, g0, g1, g2, g3, g4⟩ := Typs.atH (HP.out.keep (Keep.all hb2i)) HX.out
      obtain ⟨A4, c4, _, _, f0, f1, f2, f3, f4⟩ := Typs.atH (HT.out.keep (Keep.all hb2i)) HY.out
      have HPC2 := Lib.hid (fun V (hv : Below wr.heap.size wr V) => HPC.out V x y A3 A4 c3 c4 (List.mem_of_getElem? HX.out) (below_step qi hv))
      clear hy
      have HN2 : Hid (∀ z, insideB l x y = z → ((T.take (j + 1)).any fun b => insideB l x b) = z) := Lib.hid (fun z hz => by
        rw [take_snoc HY.out, List.any_append, HANY.out]; simpa using hz)
      obtain ⟨z, hz⟩ : ∃ z, insideB l x y = z := ⟨_, rfl⟩
      have HN3 := Lib.hid (HN2.out z hz)
      rw [hz] at HPC2
      clear HN2 hz
      have w1 : (0 : Int) ≤ (k : Int) := by omega
      have wr' : (k : Int) < (P.length : Int) := by omega
      have w3 : (0 : Int) ≤ (j : Int) := by omega
      have w4 : (j : Int) < (T.length : Int) := by omega
      have HJL := Lib.hid hjl
      go_wp2_with (fail)
      go_region_held3 (fun w' => Below wr.heap.size wr w' ∧
          w'.cell? ⟨b, off + k * 5, none⟩ = some (.int .i64 x.kind) ∧ w'.cell? ⟨b, off + k * 5 + 1, none⟩ = some (.string x.name) ∧ w'.cell? ⟨b, off + k * 5 + 2, none⟩ = some (.int .i64 x.lo) ∧ w'.cell? ⟨b, off + k * 5 + 3, none⟩ = some (.int .i64 x.hi) ∧ w'.cell? ⟨b, off + k * 5 + 4, none⟩ = some (.slice A3 x.args.length c3) ∧
          w'.cell? ⟨b', off' + j * 5, none⟩ = some (.int .i64 y.kind) ∧ w'.cell? ⟨b', off' + j * 5 + 1, none⟩ = some (.string y.name) ∧ w'.cell? ⟨b', off' + j * 5 + 2, none⟩ = some (.int .i64 y.lo) ∧ w'.cell? ⟨b', off' + j * 5 + 3, none⟩ = some (.int .i64 y.hi) ∧ w'.cell? ⟨b', off' + j * 5 + 4, none⟩ = some (.slice A4 y.args.length c4))
        (first | exact ⟨(Below.refl _ wr).drew, g0, g1, g2, g3, g4, f0, f1, f2, f3, f4⟩ | (go_split_ands; exact ⟨below_step (by assumption) hbu, cell_all (by assumption) hbu, cell_all (by assumption) hbu, cell_all (by assumption) hbu, cell_all (by assumption) hbu, cell_all (by assumption) hbu, cell_all (by assumption) hbu, cell_all (by assumption) hbu, cell_all (by assumption) hbu, cell_all (by assumption) hbu, cell_all (by assumption) hbu⟩))
        ((go_at_call 88; refine (HPC2.out _ (by go_split_ands; assumption)).mono ?_; rintro e U ⟨rfl, hbu⟩))
      have hb5 : Below wr.heap.size wr U := by go_split_ands; assumption
      have hb6 := below_step hbi hb5
      clear HPC2
      go_wp2
      go_roundw
      case rel => exact ⟨j + 1, by have := HJL.out; omega, by go_num, by rw [HN3.out], hb6⟩
      case measure => have := HJL.out; simp [intOf]; omega
end Go.Proofs.YtepnmejahbiacaaGreat
set_option linter.unusedVariables false
set_option linter.unusedSimpArgs false
namespace Go.Proofs.YtepnmejahbiacaaGreat
open Go.RowKit
set_option maxHeartbeats 16000000 in
set_option maxRecDepth 100000 in
theorem within10_calls (AH : Option Addr) (cH : Nat) (l : List CI) (s t : Ty) (As At : Option Addr) (cs ct : Nat) (W : World) (hi : HiIn W AH cH l) (hs : TyIn W s As cs) (ht : TyIn W t At ct) :
    Calls Tryz.prog 17 #[.slice AH l.length cH, tyV s As cs, tyV t At ct] W fun e W' => e = .returned (.bool (withinR l s t)) ∧ Below W.heap.size W W' := by
  obtain ⟨W1, hW1⟩ : ∃ W1, W1 = (W.alloc (.cells #[.int .i64 s.kind, .string s.name, .int .i64 s.lo, .int .i64 s.hi, .slice As s.args.length cs] 36)).alloc (.cells #[.int .i64 t.kind, .string t.name, .int .i64 t.lo, .int .i64 t.hi, .slice At t.args.length ct] 36) := ⟨_, rfl⟩
  have b1 : Below W.heap.size W W1 := by rw [hW1]; exact ((Below.refl _ W).alloc (Nat.le_refl _) _).alloc (by simp) _
  have xs : ∀ j u, [Value.int .i64 s.kind, .string s.name, .int .i64 s.lo, .int .i64 s.hi, .slice As s.args.length cs][j]? = some u → W1.cell? ⟨W.heap.size, j, none⟩ = some u := fun j u hj => by rw [hW1]; exact alloc_cell' (cell_new W _ _ _ rfl j u hj)
  have xt : ∀ j u, [Value.int .i64 t.kind, .string t.name, .int .i64 t.lo, .int .i64 t.hi, .slice At t.args.length ct][j]? = some u → W1.cell? ⟨W.heap.size + 1, j, none⟩ = some u := fun j u hj => by rw [hW1]; exact cell_new (W.alloc _) _ _ _ (by simp) j u hj
  have XS := Lib.hid xs
  have XT := Lib.hid xt
  have HI := Lib.hid hi
  have HS := Lib.hid hs
  have HT := Lib.hid ht
  have HCK : Hid (Calls Tryz.prog 47 #[.slice AH l.length cH] W1 fun e V => Below W1.heap.size W1 V ∧ ((LookOk l ∧ e = .returned (.int .i64 0)) ∨ (¬ LookOk l ∧ e = .returned (.int .i64 80)))) := Lib.hid (by
    obtain ⟨G, h⟩ := (HI.out.keep b1).h
    exact check8_calls AH cH l W1 G h hi.hcH hi.ol hi.hl)
  have HSH : Hid (∀ V x A c, Below W.heap.size W V → TyIn W x A c → Calls Tryz.prog 49 #[.slice AH l.length cH, tyV x A c] V fun e V' => e = .returned (.int .i64 (validErr l x)) ∧ Below V.heap.size V V') := Lib.hid (fun V x A c hv hx => by
    obtain ⟨G, h⟩ := (HI.out.keep hv).h
    obtain ⟨G2, h2⟩ := (hx.keep hv).h2
    exact shaped8_calls AH cH l HI.out.hl x A c V G2 G h hx.hs.1 h2)
  have HIN : Hid (LookOk l → validErr l s = 0 → ∀ V, Below W.heap.size W V → Calls Tryz.prog 52 #[.slice AH l.length cH, tyV s As cs, tyV t At ct] V fun e V' => e = .returned (.bool (withinB l s t)) ∧ Below V.heap.size V V') := Lib.hid (fun hL hv V q => inside10_calls AH cH l (cpl_short hL) s t As At cs ct V (HI.out.keep q) (HS.out.keep q) (HT.out.keep q) (validErr_leafs hv))
  have HR : Hid (withinR l s t = true ↔ LookOk l ∧ validErr l s = 0 ∧ validErr l t = 0 ∧ withinB l s t = true) := Lib.hid (by unfold withinR; simp [and_assoc])
  have HF : Hid (∀ (P : Prop), (withinR l s t = true → P) → ¬ P → withinR l s t = false) := Lib.hid (fun P h1 h2 => by
    cases h : withinR l s t with
    | false => rfl
    | true => exact (h2 (h1 h)).elim)
  clear xs xt hi hs ht
  go_enter Tryz.func17, Tryz.ntmps17
  go_wp2_with (fail)
  rw [← hW1]
  clear hW1
  refine HCK.out.mono ?_
  clear HCK
  rintro e V ⟨hbv, (⟨hL, rfl⟩ | ⟨hL, rfl⟩)⟩
  rotate_left
  · have HE : Hid (withinR l s t = false) := Lib.hid (HF.out _ (fun h => (HR.out.1 h).1) hL)
    have qf := below_step b1 hbv
    clear hL
    go_wp2
    go_ret
    exact ⟨(by rw [HE.out]; try rfl), qf⟩
  have HL := Lib.hid hL
  have q1 := below_step b1 hbv
  clear hL
  have s0 := cell_all (XS.out 0 _ rfl) hbv
  have s1 := cell_all (XS.out 1 _ rfl) hbv
  have s2 := cell_all (XS.out 2 _ rfl) hbv
  have s3 := cell_all (XS.out 3 _ rfl) hbv
  have s4 := cell_all (XS.out 4 _ rfl) hbv
  have H1 := Lib.hid (HSH.out V s As cs q1 HS.out)
  obtain ⟨va, hva⟩ : ∃ va, validErr l s = va := ⟨_, rfl⟩
  rw [hva] at H1
  have HVA := Lib.hid hva
  clear hva
  go_wp2_with (fail)
  refine H1.out.mono ?_
  clear H1 s0 s1 s2 s3 s4
  rintro e V2 ⟨rfl, hb2⟩
  have q2 := below_step q1 hb2
  have hv2 := below_step hbv hb2
  by_cases hva0 : va = 0
  rotate_left
  · have HE : Hid (withinR l s t = false) := Lib.hid (HF.out _ (fun h => (HR.out.1 h).2.1) (fun h => hva0 (HVA.out.symm.trans h)))
    have t1 : (va == 0) = false := beq_eq_false_iff_ne.2 hva0
    clear hva0
    go_wp2
    go_ret
    exact ⟨(by rw [HE.out]; try rfl), q2⟩
  subst hva0
  have t0 := cell_all (XT.out 0 _ rfl) hv2
  have t1 := cell_all (XT.out 1 _ rfl) hv2
  have t2 := cell_all (XT.out 2 _ rfl) hv2
  have t3 := cell_all (XT.out 3 _ rfl) hv2
  have t4 := cell_all (XT.out 4 _ rfl) hv2
  have H2 := Lib.hid (HSH.out V2 t At ct q2 HT.out)
  obtain ⟨vb, hvb⟩ : ∃ vb, validErr l t = vb := ⟨_, rfl⟩
  rw [hvb] at H2
  have HVB := Lib.hid hvb
  clear hvb
  go_wp2_with (fail)
  refine H2.out.mono ?_
  clear H2 t0 t1 t2 t3 t4
  rintro e V3 ⟨rfl, hb3⟩
  have q3 := below_step q2 hb3
  have hv3 := below_step hv2 hb3
  by_cases hvb0 : vb = 0
  rotate_left
  · have HE : Hid (withinR l s t = false) := Lib.hid (HF.out _ (fun h => (HR.out.1 h).2.2.1) (fun h => hvb0 (HVB.out.symm.trans h)))
    have t1 : (vb == 0) = false := beq_eq_false_iff_ne.2 hvb0
    clear hvb0
    go_wp2
    go_ret
    exact ⟨(by rw [HE.out]; try rfl), q3⟩
  subst hvb0
  have s0 := cell_all (XS.out 0 _ rfl) hv3
  have s1 := cell_all (XS.out 1 _ rfl) hv3
  have s2 := cell_all (XS.out 2 _ rfl) hv3
  have s3 := cell_all (XS.out 3 _ rfl) hv3
  have s4 := cell_all (XS.out 4 _ rfl) hv3
  have t0 := cell_all (XT.out 0 _ rfl) hv3
  have t1 := cell_all (XT.out 1 _ rfl) hv3
  have t2 := cell_all (XT.out 2 _ rfl) hv3
  have t3 := cell_all (XT.out 3 _ rfl) hv3
  have t4 := cell_all (XT.out 4 _ rfl) hv3
  have HE : Hid (withinR l s t = withinB l s t) := Lib.hid (withinR_ok HL.out HVA.out HVB.out)
  have H3 := Lib.hid (HIN.out HL.out HVA.out V3 q3)
  clear HIN HSH HI HS HT HR HF HL HVA HVB XS XT
  generalize withinB l s t = wb at H3 HE
  go_wp2_with (fail)
  refine H3.out.mono ?_
  clear H3
  rintro e V4 ⟨rfl, hb4⟩
  have q4 := below_step q3 hb4
  go_wp2
  go_ret
  exact ⟨(by rw [HE.out]; try rfl), q4⟩
/-- How the reference writes what cmpT says. -/
def relOf (c : Int) : Int := if c = 0 then 2 else if c = 1 then 1 else if c = 2 then -1 else 0
set_option maxHeartbeats 16000000 in
set_option maxRecDepth 100000 in
theorem relation10_calls (AH : Option Addr) (cH : Nat) (l : List CI) (hL : LookOk l) (s t : Ty) (As At : Option Addr) (cs ct : Nat) (v : Tag) (W : World) (hi : HiIn W AH cH l) (hs : TyIn W s As cs) (ht : TyIn W t At ct) (hks : ∀ x ∈ s.pieces, leafK x) (hkt : ∀ x ∈ t.pieces, leafK x) :
    Calls Tryz.prog 59 #[.slice AH l.length cH, tyV s As cs, tyV t At ct, tagV v] W fun e W' => e = .returned (.int .i64 (relOf (cmpT l (cplAt l v) s t))) ∧ Below W.heap.size W W' := by
  obtain ⟨W1, hW1⟩ : ∃ W1, W1 = ((W.alloc (.cells #[.int .i64 s.kind, .string s.name, .int .i64 s.lo, .int .i64 s.hi, .slice As s.args.length cs] 36)).alloc (.cells #[.int .i64 t.kind, .string t.name, .int .i64 t.lo, .int .i64 t.hi, .slice At t.args.length ct] 36)).alloc (.cells #[.int .i64 v.kind, .int .i64 v.num, .string v.name] 39) := ⟨_, rfl⟩
  have b1 : Below W.heap.size W W1 := by rw [hW1]; exact (((Below.refl _ W).alloc (Nat.le_refl _) _).alloc (by simp) _).alloc (by simp; omega) _
  have xs : ∀ j u, [Value.int .i64 s.kind, .string s.name, .int .i64 s.lo, .int .i64 s.hi, .slice As s.args.length cs][j]? = some u → W1.cell? ⟨W.heap.size, j, none⟩ = some u := fun j u hj => by rw [hW1]; exact alloc_cell' (alloc_cell' (cell_new W _ _ _ rfl j u hj))
  have xt : ∀ j u, [Value.int .i64 t.kind, .string t.name, .int .i64 t.lo, .int .i64 t.hi, .slice At t.args.length ct][j]? = some u → W1.cell? ⟨W.heap.size + 1, j, none⟩ = some u := fun j u hj => by rw [hW1]; exact alloc_cell' (cell_new (W.alloc _) _ _ _ (by simp) j u hj)
  have xv : ∀ j u, [Value.int .i64 v.kind, .int .i64 v.num, .string v.name][j]? = some u → W1.cell? ⟨W.heap.size + 2, j, none⟩ = some u := fun j u hj => by rw [hW1]; exact cell_new ((W.alloc _).alloc _) _ _ _ (by simp) j u hj
  have XS := Lib.hid xs
  have XT := Lib.hid xt
  have XV := Lib.hid xv
  have HI := Lib.hid hi
  have HCP := Lib.hid (cpl_short hL)
  have HLK := Lib.hid hL
  have HIA : Hid (∀ V, Below W.heap.size W V → Calls Tryz.prog 52 #[.slice AH l.length cH, tyV s As cs, tyV t At ct] V fun e V' => e = .returned (.bool (withinB l s t)) ∧ Below V.heap.size V V') := Lib.hid (fun V q => inside10_calls AH cH l (cpl_short hL) s t As At cs ct V (hi.keep q) (hs.keep q) (ht.keep q) hks)
  have HIB : Hid (∀ V, Below W.heap.size W V → Calls Tryz.prog 52 #[.slice AH l.length cH, tyV t At ct, tyV s As cs] V fun e V' => e = .returned (.bool (withinB l t s)) ∧ Below V.heap.size V V') := Lib.hid (fun V q => inside10_calls AH cH l (cpl_short hL) t s At As ct cs V (hi.keep q) (ht.keep q) (hs.keep q) hkt)
  have s0 := xs 0 _ rfl
  have s1 := xs 1 _ rfl
  have t0 := xt 0 _ rfl
  have t1 := xt 1 _ rfl
  have v0 := xv 0 _ rfl
  have v1 := xv 1 _ rfl
  have v2 := xv 2 _ rfl
  clear xs xt xv hi hs ht hks hkt hL
  obtain ⟨r, hr⟩ : ∃ r, relOf (cmpT l (cplAt l v) s t) = r := ⟨_, rfl⟩
  rw [hr]
  have HF : Hid (relOf (cmpT l (cplAt l v) s t) = r) := Lib.hid hr
  unfold cmpT at HF
  clear hr
  by_cases hk : s.kind = 1 ∧ t.kind = 1
  · have k1 : (s.kind == 1) = true := beq_iff_eq.2 hk.1
    have k2 : (t.kind == 1) = true := beq_iff_eq.2 hk.2
    have HFA : Hid (relOf (if idx (cplAt l v) t.name < idx (cplAt l v) s.name then 2 else if idx (cplAt l v) s.name < idx (cplAt l v) t.name then 1 else 0) = r) := Lib.hid (by rw [← HF.out, if_pos hk])
    have HSC : Hid ((cplAt l v).length ≤ 1000000) := Lib.hid (cplAt_short HLK.out v)
    clear hk HF
    go_enter Tryz.func59, Tryz.ntmps59
    go_wp2_with (fail)
    rw [← hW1]
    clear hW1
    refine (tagClass8_calls v W1).mono ?_
    rintro e V ⟨rfl, hb⟩
    have q1 := below_step b1 hb
    obtain ⟨G, h⟩ := (HI.out.keep q1).h
    have HC : Hid (Calls Tryz.prog 95 #[.slice AH l.length cH, .string (classOfB v)] V fun e w' => w' = V ∧ ∃ A' c', e = .returned (.slice A' (cplAt l v).length c') ∧ (cplAt l v).length ≤ c' ∧ Held G (Strs A' (cplAt l v)) V) := Lib.hid (rCpl_calls AH cH l (classOfB v) V G h HI.out.hl)
    generalize cplAt l v = z at HC HFA HSC
    clear h s0 s1 t0 t1 v0 v1 v2
    go_wp2_with (fail)
    refine HC.out.mono ?_
    clear HC
    rintro e V2 ⟨rfl, A', c', rfl, h1, h2⟩
    have HX := Lib.hid (fun y => rIndex_calls A' c' z y V2 h2.now HSC.out)
    clear h1 h2
    have s1 := cell_all (XS.out 1 _ rfl) hb
    have t1 := cell_all (XT.out 1 _ rfl) hb
    have HXS := Lib.hid (HX.out s.name)
    have HXT := Lib.hid (HX.out t.name)
    clear HX
    generalize idx z s.name = is at HXS HFA
    generalize idx z t.name = it at HXT HFA
    go_wp2_with (fail)
    refine HXS.out.mono ?_
    clear HXS
    rintro e V3 ⟨rfl, rfl⟩
    go_wp2_with (fail)
    refine HXT.out.mono ?_
    clear HXT
    rintro e V3 ⟨rfl, rfl⟩
    by_cases e1 : is = it
    · have HE : Hid (r = 2) := Lib.hid (by rw [← HFA.out, if_neg (by omega), if_neg (by omega)]; rfl)
      have d1 : (is == it) = true := beq_iff_eq.2 e1
      clear e1
      go_wp2
      go_ret
      exact ⟨(by rw [HE.out]; try rfl), q1⟩
    · have d1 : (is == it) = false := beq_eq_false_iff_ne.2 e1
      by_cases e2 : is < it
      · have HE : Hid (r = 1) := Lib.hid (by rw [← HFA.out, if_neg (by omega), if_pos e2]; rfl)
        have d2 : decide (is < it) = true := decide_eq_true e2
        clear e1 e2
        go_wp2
        go_ret
        exact ⟨(by rw [HE.out]; try rfl), q1⟩
      · have HE : Hid (r = -1) := Lib.hid (by rw [← HFA.out, if_pos (by omega)]; rfl)
        have d2 : decide (is < it) = false := decide_eq_false e2
        clear e1 e2
        go_wp2
        go_ret
        exact ⟨(by rw [HE.out]; try rfl), q1⟩
  · have HFA : Hid (relOf (if withinB l s t then (if withinB l t s then 0 else 1) else (if withinB l t s then 2 else 3)) = r) := Lib.hid (by rw [← HF.out, if_neg hk])
    clear HF
    have HA := Lib.hid (HIA.out W1 b1)
    generalize withinB l s t = a at HIA HA HFA
    generalize withinB l t s = b at HIB HFA
    have s2 := XS.out 2 _ rfl
    have s3 := XS.out 3 _ rfl
    have s4 := XS.out 4 _ rfl
    have t2 := XT.out 2 _ rfl
    have t3 := XT.out 3 _ rfl
    have t4 := XT.out 4 _ rfl
    have tail : ∀ V, Below W1.heap.size W1 V → V.cell? ⟨W.heap.size, 0, none⟩ = some (.int .i64 s.kind) := fun V hv => cell_all s0 hv
    by_cases k1 : s.kind = 1
    · have d1 : (s.kind == 1) = true := beq_iff_eq.2 k1
      have d2 : (t.kind == 1) = false := beq_eq_false_iff_ne.2 fun h => hk ⟨k1, h⟩
      clear k1 hk tail
      go_enter Tryz.func59, Tryz.ntmps59
      go_wp2_with (fail)
      rw [← hW1]
      clear hW1
      refine HA.out.mono ?_
      clear HA HIA
      rintro e V ⟨rfl, hb⟩
      have q1 := below_step b1 hb
      have HB := Lib.hid (HIB.out V q1)
      have s0 := cell_all s0 hb
      have s1 := cell_all s1 hb
      have s2 := cell_all s2 hb
      have s3 := cell_all s3 hb
      have s4 := cell_all s4 hb
      have t0 := cell_all t0 hb
      have t1 := cell_all t1 hb
      have t2 := cell_all t2 hb
      have t3 := cell_all t3 hb
      have t4 := cell_all t4 hb
      clear HIB
      go_wp2_with (fail)
      refine HB.out.mono ?_
      clear HB
      rintro e V2 ⟨rfl, hb2⟩
      have q2 := below_step q1 hb2
      cases a <;> cases b
      all_goals
        go_wp2
        go_ret
        exact ⟨(by rw [← HFA.out]; try rfl), q2⟩
    · have d1 : (s.kind == 1) = false := beq_eq_false_iff_ne.2 k1
      clear k1 hk tail
      go_enter Tryz.func59, Tryz.ntmps59
      go_wp2_with (fail)
      rw [← hW1]
      clear hW1
      refine HA.out.mono ?_
      clear HA HIA
      rintro e V ⟨rfl, hb⟩
      have q1 := below_step b1 hb
      have HB := Lib.hid (HIB.out V q1)
      have s0 := cell_all s0 hb
      have s1 := cell_all s1 hb
      have s2 := cell_all s2 hb
      have s3 := cell_all s3 hb
      have s4 := cell_all s4 hb
      have t0 := cell_all t0 hb
      have t1 := cell_all t1 hb
      have t2 := cell_all t2 hb
      have t3 := cell_all t3 hb
      have t4 := cell_all t4 hb
      clear HIB
      go_wp2_with (fail)
      refine HB.out.mono ?_
      clear HB
      rintro e V2 ⟨rfl, hb2⟩
      have q2 := below_step q1 hb2
      cases a <;> cases b
      all_goals
        go_wp2
        go_ret
        exact ⟨(by rw [← HFA.out]; try rfl), q2⟩
end Go.Proofs.YtepnmejahbiacaaGreat
set_option linter.unusedVariables false
set_option linter.unusedSimpArgs false
namespace Go.Proofs.YtepnmejahbiacaaGreat
open Go.RowKit
theorem hasR_iff {l : List CI} {v : Tag} {t : Ty} : hasR l v t = true ↔ HasOk l v t := by
  refine ⟨fun h => Classical.byContradiction fun q => ?_, hasR_true⟩
  rw [hasR_false q] at h; cases h
/-- Two types as an array. -/
def twoTy (s t : Ty) (As At : Option Addr) (cs ct : Nat) : Value := .agg #[.int .i64 s.kind, .string s.name, .int .i64 s.lo, .int .i64 s.hi, .slice As s.args.length cs, .int .i64 t.kind, .string t.name, .int .i64 t.lo, .int .i64 t.hi, .slice At t.args.length ct]
set_option maxHeartbeats 16000000 in
set_option maxRecDepth 100000 in
theorem typePrecedes10_calls (AH : Option Addr) (cH : Nat) (l : List CI) (s t : Ty) (As At : Option Addr) (cs ct : Nat) (v : Tag) (W : World) (hi : HiIn W AH cH l) (hs : TyIn W s As cs) (ht : TyIn W t At ct) :
    Calls Tryz.prog 19 #[.slice AH l.length cH, twoTy s t As At cs ct, tagV v] W fun e W' => e = .returned (.bool (tpR l v s t)) ∧ Below W.heap.size W W' := by
  obtain ⟨W1, hW1⟩ : ∃ W1, W1 = (W.alloc (.cells #[.int .i64 s.kind, .string s.name, .int .i64 s.lo, .int .i64 s.hi, .slice As s.args.length cs, .int .i64 t.kind, .string t.name, .int .i64 t.lo, .int .i64 t.hi, .slice At t.args.length ct] 37)).alloc (.cells #[.int .i64 v.kind, .int .i64 v.num, .string v.name] 39) := ⟨_, rfl⟩
  have b1 : Below W.heap.size W W1 := by rw [hW1]; exact ((Below.refl _ W).alloc (Nat.le_refl _) _).alloc (by simp) _
  have xs : ∀ j u, [Value.int .i64 s.kind, .string s.name, .int .i64 s.lo, .int .i64 s.hi, .slice As s.args.length cs, .int .i64 t.kind, .string t.name, .int .i64 t.lo, .int .i64 t.hi, .slice At t.args.length ct][j]? = some u → W1.cell? ⟨W.heap.size, j, none⟩ = some u := fun j u hj => by rw [hW1]; exact alloc_cell' (cell_new W _ _ _ rfl j u hj)
  have xv : ∀ j u, [Value.int .i64 v.kind, .int .i64 v.num, .string v.name][j]? = some u → W1.cell? ⟨W.heap.size + 1, j, none⟩ = some u := fun j u hj => by rw [hW1]; exact cell_new (W.alloc _) _ _ _ (by simp) j u hj
  have XS := Lib.hid xs
  have XV := Lib.hid xv
  have HI := Lib.hid hi
  have HS := Lib.hid hs
  have HT := Lib.hid ht
  have HCK : Hid (Calls Tryz.prog 47 #[.slice AH l.length cH] W1 fun e V => Below W1.heap.size W1 V ∧ ((LookOk l ∧ e = .returned (.int .i64 0)) ∨ (¬ LookOk l ∧ e = .returned (.int .i64 80)))) := Lib.hid (by
    obtain ⟨G, h⟩ := (HI.out.keep b1).h
    exact check8_calls AH cH l W1 G h hi.hcH hi.ol hi.hl)
  have HVA : Hid (LookOk l → ∀ V x A c, Below W.heap.size W V → TyIn W x A c → Calls Tryz.prog 56 #[.slice AH l.length cH, tyV x A c] V fun e V' => e = .returned (.int .i64 (validErr l x)) ∧ Below V.heap.size V V') := Lib.hid (fun hL V x A c hv hx => by
    obtain ⟨G, h⟩ := (HI.out.keep hv).h
    obtain ⟨G2, h2⟩ := (hx.keep hv).h2
    refine (valid8_calls AH cH l x A c V G2 G h HI.out.hcH HI.out.ol HI.out.hl hx.hs.1 h2).mono ?_
    rintro e V' ⟨hb, (⟨h, _⟩ | ⟨_, rfl⟩)⟩
    · exact (h hL).elim
    · exact ⟨rfl, hb⟩)
  have HCT : Hid (LookOk l → ∀ V, Below W.heap.size W V → Calls Tryz.prog 57 #[.slice AH l.length cH, tagV v] V fun e V' => e = .returned (.int .i64 (tagErr l v)) ∧ Below V.heap.size V V') := Lib.hid (fun hL V hv => by
    obtain ⟨G, h⟩ := (HI.out.keep hv).h
    refine (checkTag8_calls AH cH l v V G h HI.out.hcH HI.out.ol HI.out.hl).mono ?_
    rintro e V' ⟨hb, (⟨h, _⟩ | ⟨_, rfl⟩)⟩
    · exact (h hL).elim
    · exact ⟨rfl, hb⟩)
  have HHA : Hid (∀ V x A c, Below W.heap.size W V → TyIn W x A c → Calls Tryz.prog 58 #[.slice AH l.length cH, tagV v, tyV x A c] V fun e V' => e = .returned (.bool (hasR l v x)) ∧ Below V.heap.size V V') := Lib.hid (fun V x A c hv hx => by
    obtain ⟨G, h⟩ := (HI.out.keep hv).h
    obtain ⟨G2, h2⟩ := (hx.keep hv).h2
    exact has8_calls AH cH l v x A c V G2 G h HI.out.hcH HI.out.ol HI.out.hl hx.hs.1 h2)
  have HRE : Hid (LookOk l → validErr l s = 0 → validErr l t = 0 → ∀ V, Below W.heap.size W V → Calls Tryz.prog 59 #[.slice AH l.length cH, tyV s As cs, tyV t At ct, tagV v] V fun e V' => e = .returned (.int .i64 (relOf (cmpT l (cplAt l v) s t))) ∧ Below V.heap.size V V') := Lib.hid (fun hL h1 h2 V q => relation10_calls AH cH l hL s t As At cs ct v V (HI.out.keep q) (HS.out.keep q) (HT.out.keep q) (validErr_leafs h1) (validErr_leafs h2))
  have HR : Hid (tpR l v s t = true ↔ HasOk l v s ∧ HasOk l v t ∧ cmpT l (cplAt l v) s t = 1) := Lib.hid tpR_iff
  have HF : Hid (∀ (P : Prop), (tpR l v s t = true → P) → ¬ P → tpR l v s t = false) := Lib.hid (fun P h1 h2 => by
    cases h : tpR l v s t with
    | false => rfl
    | true => exact (h2 (h1 h)).elim)
  clear xs xv hi hs ht
  unfold twoTy
  go_enter Tryz.func19, Tryz.ntmps19
  go_wp2_with (fail)
  rw [← hW1]
  clear hW1
  refine HCK.out.mono ?_
  clear HCK
  rintro e V ⟨hbv, (⟨hL, rfl⟩ | ⟨hL, rfl⟩)⟩
  rotate_left
  · have HE : Hid (tpR l v s t = false) := Lib.hid (HF.out _ (fun h => (HR.out.1 h).1.1) hL)
    have qf := below_step b1 hbv
    clear hL
    go_wp2
    go_ret
    exact ⟨(by rw [HE.out]; try rfl), qf⟩
  have HL := Lib.hid hL
  have q1 := below_step b1 hbv
  clear hL
  have s0 := cell_all (XS.out 0 _ rfl) hbv
  have s1 := cell_all (XS.out 1 _ rfl) hbv
  have s2 := cell_all (XS.out 2 _ rfl) hbv
  have s3 := cell_all (XS.out 3 _ rfl) hbv
  have s4 := cell_all (XS.out 4 _ rfl) hbv
  have H1 := Lib.hid (HVA.out HL.out V s As cs q1 HS.out)
  obtain ⟨va, hva⟩ : ∃ va, validErr l s = va := ⟨_, rfl⟩
  rw [hva] at H1
  have HVA1 := Lib.hid hva
  clear hva
  go_wp2_with (fail)
  refine H1.out.mono ?_
  clear H1 s0 s1 s2 s3 s4
  rintro e V2 ⟨rfl, hb2⟩
  have q2 := below_step q1 hb2
  have hv2 := below_step hbv hb2
  by_cases hva0 : va = 0
  rotate_left
  · have HE : Hid (tpR l v s t = false) := Lib.hid (HF.out _ (fun h => (HR.out.1 h).1.2.2.1) (fun h => hva0 (HVA1.out.symm.trans h)))
    have t1 : (va != 0) = true := by rw [bne_iff_ne]; exact hva0
    clear hva0
    go_wp2
    go_ret
    exact ⟨(by rw [HE.out]; try rfl), q2⟩
  subst hva0
  have t0 := cell_all (XS.out 5 _ rfl) hv2
  have t1 := cell_all (XS.out 6 _ rfl) hv2
  have t2 := cell_all (XS.out 7 _ rfl) hv2
  have t3 := cell_all (XS.out 8 _ rfl) hv2
  have t4 := cell_all (XS.out 9 _ rfl) hv2
  have H2 := Lib.hid (HVA.out HL.out V2 t At ct q2 HT.out)
  obtain ⟨vb, hvb⟩ : ∃ vb, validErr l t = vb := ⟨_, rfl⟩
  rw [hvb] at H2
  have HVB := Lib.hid hvb
  clear hvb
  go_wp2_with (fail)
  refine H2.out.mono ?_
  clear H2 t0 t1 t2 t3 t4
  rintro e V3 ⟨rfl, hb3⟩
  have q3 := below_step q2 hb3
  have hv3 := below_step hv2 hb3
  by_cases hvb0 : vb = 0
  rotate_left
  · have HE : Hid (tpR l v s t = false) := Lib.hid (HF.out _ (fun h => (HR.out.1 h).2.1.2.2.1) (fun h => hvb0 (HVB.out.symm.trans h)))
    have t1 : (vb != 0) = true := by rw [bne_iff_ne]; exact hvb0
    clear hvb0
    go_wp2
    go_ret
    exact ⟨(by rw [HE.out]; try rfl), q3⟩
  subst hvb0
  have v0 := cell_all (XV.out 0 _ rfl) hv3
  have v1 := cell_all (XV.out 1 _ rfl) hv3
  have v2 := cell_all (XV.out 2 _ rfl) hv3
  have H3 := Lib.hid (HCT.out HL.out V3 q3)
  have HTE : Hid (∀ y, tagErr l v = y → (y = 0 ↔ tagOk l v = true)) := Lib.hid (fun y hy => by
    rw [← hy]; unfold tagErr
    by_cases h : tagOk l v = true
    · rw [if_pos h]; exact ⟨fun _ => h, fun _ => rfl⟩
    · rw [if_neg h]; exact ⟨fun q => absurd q (by decide), fun q => (h q).elim⟩)
  obtain ⟨te, hte⟩ : ∃ te, tagErr l v = te := ⟨_, rfl⟩
  have HTE2 := Lib.hid (HTE.out te hte)
  rw [hte] at H3
  clear hte HTE
  go_wp2_with (fail)
  refine H3.out.mono ?_
  clear H3 v0 v1 v2
  rintro e V4 ⟨rfl, hb4⟩
  have q4 := below_step q3 hb4
  have hv4 := below_step hv3 hb4
  by_cases hte0 : te = 0
  rotate_left
  · have HE : Hid (tpR l v s t = false) := Lib.hid (HF.out _ (fun h => (HR.out.1 h).1.2.1) (fun h => hte0 (HTE2.out.2 h)))
    have t1 : (te != 0) = true := by rw [bne_iff_ne]; exact hte0
    clear hte0
    go_wp2
    go_ret
    exact ⟨(by rw [HE.out]; try rfl), q4⟩
  have HTK := Lib.hid (HTE2.out.1 hte0)
  subst hte0
  clear HTE2
  have v0 := cell_all (XV.out 0 _ rfl) hv4
  have v1 := cell_all (XV.out 1 _ rfl) hv4
  have v2 := cell_all (XV.out 2 _ rfl) hv4
  have s0 := cell_all (XS.out 0 _ rfl) hv4
  have s1 := cell_all (XS.out 1 _ rfl) hv4
  have s2 := cell_all (XS.out 2 _ rfl) hv4
  have s3 := cell_all (XS.out 3 _ rfl) hv4
  have s4 := cell_all (XS.out 4 _ rfl) hv4
  have H4 := Lib.hid (HHA.out V4 s As cs q4 HS.out)
  have HA1 : Hid (∀ y, hasR l v s = y → (y = true ↔ HasOk l v s)) := Lib.hid (fun y hy => by rw [← hy]; exact hasR_iff)
  obtain ⟨ha, hha⟩ : ∃ ha, hasR l v s = ha := ⟨_, rfl⟩
  have HA2 := Lib.hid (HA1.out ha hha)
  rw [hha] at H4
  clear hha HA1
  go_wp2_with (fail)
  refine H4.out.mono ?_
  clear H4 v0 v1 v2 s0 s1 s2 s3 s4
  rintro e V5 ⟨rfl, hb5⟩
  have q5 := below_step q4 hb5
  have hv5 := below_step hv4 hb5
  cases ha with
  | false =>
    have HE : Hid (tpR l v s t = false) := Lib.hid (HF.out _ (fun h => (HR.out.1 h).1) (fun h => by have := HA2.out.2 h; cases this))
    go_wp2
    go_ret
    exact ⟨(by rw [HE.out]; try rfl), q5⟩
  | true =>
  have v0 := cell_all (XV.out 0 _ rfl) hv5
  have v1 := cell_all (XV.out 1 _ rfl) hv5
  have v2 := cell_all (XV.out 2 _ rfl) hv5
  have t0 := cell_all (XS.out 5 _ rfl) hv5
  have t1 := cell_all (XS.out 6 _ rfl) hv5
  have t2 := cell_all (XS.out 7 _ rfl) hv5
  have t3 := cell_all (XS.out 8 _ rfl) hv5
  have t4 := cell_all (XS.out 9 _ rfl) hv5
  have H5 := Lib.hid (HHA.out V5 t At ct q5 HT.out)
  have HB1 : Hid (∀ y, hasR l v t = y → (y = true ↔ HasOk l v t)) := Lib.hid (fun y hy => by rw [← hy]; exact hasR_iff)
  obtain ⟨hb, hhb⟩ : ∃ hb, hasR l v t = hb := ⟨_, rfl⟩
  have HB2 := Lib.hid (HB1.out hb hhb)
  rw [hhb] at H5
  clear hhb HB1
  go_wp2_with (fail)
  refine H5.out.mono ?_
  clear H5 v0 v1 v2 t0 t1 t2 t3 t4
  rintro e V6 ⟨rfl, hb6⟩
  have q6 := below_step q5 hb6
  have hv6 := below_step hv5 hb6
  cases hb with
  | false =>
    have HE : Hid (tpR l v s t = false) := Lib.hid (HF.out _ (fun h => (HR.out.1 h).2.1) (fun h => by have := HB2.out.2 h; cases this))
    go_wp2
    go_ret
    exact ⟨(by rw [HE.out]; try rfl), q6⟩
  | true =>
  have v0 := cell_all (XV.out 0 _ rfl) hv6
  have v1 := cell_all (XV.out 1 _ rfl) hv6
  have v2 := cell_all (XV.out 2 _ rfl) hv6
  have s0 := cell_all (XS.out 0 _ rfl) hv6
  have s1 := cell_all (XS.out 1 _ rfl) hv6
  have s2 := cell_all (XS.out 2 _ rfl) hv6
  have s3 := cell_all (XS.out 3 _ rfl) hv6
  have s4 := cell_all (XS.out 4 _ rfl) hv6
  have t0 := cell_all (XS.out 5 _ rfl) hv6
  have t1 := cell_all (XS.out 6 _ rfl) hv6
  have t2 := cell_all (XS.out 7 _ rfl) hv6
  have t3 := cell_all (XS.out 8 _ rfl) hv6
  have t4 := cell_all (XS.out 9 _ rfl) hv6
  have H6 := Lib.hid (HRE.out HL.out HVA1.out HVB.out V6 q6)
  have HE : Hid (tpR l v s t = (relOf (cmpT l (cplAt l v) s t) == 1)) := Lib.hid (by
    rw [Bool.eq_iff_iff, HR.out, beq_iff_eq]
    have : relOf (cmpT l (cplAt l v) s t) = 1 ↔ cmpT l (cplAt l v) s t = 1 := by
      unfold relOf
      by_cases h0 : cmpT l (cplAt l v) s t = 0
      · rw [if_pos h0, h0]; decide
      · rw [if_neg h0]
        by_cases h1 : cmpT l (cplAt l v) s t = 1
        · rw [if_pos h1, h1]
        · rw [if_neg h1]
          refine ⟨fun h => ?_, fun h => (h1 h).elim⟩
          split at h <;> simp at h
    rw [this]
    exact ⟨fun h => h.2.2, fun h => ⟨HA2.out.1 (by trivial), HB2.out.1 (by trivial), h⟩⟩)
  generalize relOf (cmpT l (cplAt l v) s t) = rr at H6 HE
  clear HRE HHA HCT HVA HI HS HT HR HF HL HVA1 HVB HA2 HB2 HTK XS XV
  go_wp2_with (fail)
  refine H6.out.mono ?_
  clear H6
  rintro e V7 ⟨rfl, hb7⟩
  have q7 := below_step q6 hb7
  go_wp2
  go_ret
  exact ⟨(by rw [HE.out]; try rfl), q7⟩
end Go.Proofs.YtepnmejahbiacaaGreat
