/- methods.pieces: it calls a function for the pieces of a type, in order. -/
import Derived.Test.YtepnmejahbiacaaPs
set_option linter.unusedVariables false
set_option linter.unusedSimpArgs false
namespace Go.Proofs.Ytepnmejahbiacaa
open Go.RowKit

set_option maxHeartbeats 16000000 in
set_option maxRecDepth 100000 in
theorem pieces_calls (fid : Nat) (first cap : Array Value) (hfn : ∀ args w, (callFunc fid args).run Try.prog w = .ok (.enter fid args) w) (N : Nat) (W0 : World) (J : List Ty → World → Prop)
    (hJ : ∀ d w w', J d w → Below w.heap.size w w' → J d w') (hJN : ∀ d w, J d w → Below N W0 w)
    (step : ∀ d x A c w, J d w → Calls Try.prog fid (first.push (tyV x A c) ++ cap) w fun e w' => e = .returned (.tuple #[]) ∧ J (d ++ [x]) w') :
    ∀ (q : Nat) (t : Ty), t.count ≤ q → ∀ (A : Option Addr) (c : Nat) (W : World) (d : List Ty), J d W → Held (· < N) (Typs A t.args) W0 → t.all (fun x => decide (x.args.length ≤ 1000000)) = true →
      Calls Try.prog 70 #[tyV t A c, .func (.func fid) first cap] W fun e W' => e = .returned (.tuple #[]) ∧ J (d ++ t.pieces) W' := by
  have HS := Lib.hid step
  have HJ := Lib.hid hJ
  have HJN := Lib.hid hJN
  clear step hJ hJN
  intro q
  induction q with
  | zero => intro t hq; have := t.count_pos; omega
  | succ q ih =>
    intro t hq A c W d hd hT hall
    have HIH := Lib.hid ih
    clear ih
    have HALL := Lib.hid hall
    have HQ := Lib.hid hq
    clear hall hq
    obtain ⟨W1, hW1⟩ : ∃ W1, W1 = W.alloc (.cells #[.int .i64 t.kind, .string t.name, .int .i64 t.lo, .int .i64 t.hi, .slice A t.args.length c] 35) := ⟨_, rfl⟩
    have b1 : Below W.heap.size W W1 := by rw [hW1]; exact (Below.refl _ W).alloc (Nat.le_refl _) _
    have xt : ∀ j u, [Value.int .i64 t.kind, .string t.name, .int .i64 t.lo, .int .i64 t.hi, .slice A t.args.length c][j]? = some u → W1.cell? ⟨W.heap.size, j, none⟩ = some u := fun j u hj => by rw [hW1]; exact cell_new W _ _ _ rfl j u hj
    have c0 := xt 0 _ rfl
    have c1 := xt 1 _ rfl
    have c2 := xt 2 _ rfl
    have c3 := xt 3 _ rfl
    have c4 := xt 4 _ rfl
    clear xt
    have hd1 := HJ.out d W W1 hd b1
    have HD := Lib.hid hd1
    clear hd hd1
    go_enter Try.func70, Try.ntmps70
    by_cases hk : t.kind = 5
    · have t1 : (t.kind != 5) = false := bne_eq_false_iff_eq.2 hk
      have HP := Lib.hid (Ty.pieces_union hk)
      have hlen : t.args.length ≤ 1000000 := by
        have := HALL.out; rw [Ty.all_args, Bool.and_eq_true] at this
        exact of_decide_eq_true this.1
      have HK := Lib.hid hk
      clear hk
      go_wp2_with (fail)
      rw [← hW1]
      clear hW1
      go_loopw [15] (fun i wr => ∃ k : Nat, k ≤ t.args.length ∧ i = .int .i64 k ∧ J (d ++ (t.args.take k).flatMap Ty.pieces) wr) (fun i _ => t.args.length - (intOf i).toNat)
      case atStart => exact ⟨0, Nat.zero_le _, rfl, by simpa using HD.out⟩
      case round =>
        obtain ⟨k, hk, rfl, hd⟩ := hrel
        have HDK := Lib.hid hd
        have hbN := HJN.out _ _ hd
        clear hd
        by_cases hlt : k < t.args.length
        · obtain ⟨b, off, rfl⟩ := Slc.addrH hT (by omega)
          have hx : t.args[k]? = some t.args[k] := List.getElem?_eq_getElem hlt
          generalize t.args[k] = x at hx
          have HX := Lib.hid hx
          obtain ⟨A3, c3', r1, r2, g0, g1, g2, g3, g4⟩ := Typs.atH hT hx
          have hbN' : b < N := (Slc.inG hT (by omega) (by decide)).2
          have kN : Keep (· < N) W0 wr := Keep.below hbN
          have e0 := cell_keep g0 kN hbN'
          have e1 := cell_keep g1 kN hbN'
          have e2 := cell_keep g2 kN hbN'
          have e3 := cell_keep g3 kN hbN'
          have e4 := cell_keep g4 kN hbN'
          have hxm : x ∈ t.args := List.mem_of_getElem? hx
          have hax : x.all (fun x => decide (x.args.length ≤ 1000000)) = true := by
            have := HALL.out; rw [Ty.all_args, Bool.and_eq_true] at this
            exact List.all_eq_true.1 this.2 x hxm
          have hcx : x.count ≤ q := by have := Ty.count_mem hxm; have := HQ.out; omega
          have HST := Lib.hid (fun V (hv : Below wr.heap.size wr V) => HIH.out x hcx A3 c3' V _ (HJ.out _ wr V HDK.out hv) r2 hax)
          have bx : Below wr.heap.size wr (wr.alloc (.cells #[.int .i64 x.kind, .string x.name, .int .i64 x.lo, .int .i64 x.hi, .slice A3 x.args.length c3'] 35)) := (Below.refl _ wr).alloc (Nat.le_refl _) _
          clear hx g0 g1 g2 g3 g4 kN c0 c1 c2 c3 c4 hax hcx hxm
          go_wp2_with (fail)
          refine (HST.out _ bx).mono ?_
          clear HST
          rintro e V ⟨rfl, hJV⟩
          have HJV := Lib.hid hJV
          clear hJV
          go_wp2
          go_roundw
          case rel =>
            refine ⟨k + 1, by omega, by go_num, ?_⟩
            rw [take_snoc HX.out, List.flatMap_append]
            have := HJV.out
            simpa using this
          case measure => simp [intOf]; omega
        · obtain rfl : k = t.args.length := by omega
          go_wp2
          go_end0
          exact ⟨rfl, by rw [HP.out]; have := HDK.out; rwa [List.take_length] at this⟩
    · have t1 : (t.kind != 5) = true := by rw [bne_iff_ne]; exact hk
      have HP := Lib.hid (Ty.pieces_leaf hk)
      clear hk
      go_wp2_with (fail)
      refine (HS.out d t A c _ (hW1 ▸ HD.out)).mono ?_
      rintro e V ⟨rfl, hJV⟩
      have HJV := Lib.hid hJV
      clear hJV
      go_wp2
      refine bodyPost_ret (results_none rfl _ _ _) rfl ?_
      exact ⟨rfl, by rw [HP.out]; exact HJV.out⟩
end Go.Proofs.Ytepnmejahbiacaa
