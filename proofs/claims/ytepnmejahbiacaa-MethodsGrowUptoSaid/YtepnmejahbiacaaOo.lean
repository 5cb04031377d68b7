/- methods.call.ordered. -/
import Derived.Test.YtepnmejahbiacaaPx
import Derived.Test.YtepnmejahbiacaaFi
import Derived.Laws.EntriesVeiled
set_option linter.unusedVariables false
set_option linter.unusedSimpArgs false
namespace Go.Proofs.Ytepnmejahbiacaa
open Go.RowKit

def slLen : Value → Nat
  | .slice _ n _ => n
  | _ => 0
theorem Own.slLen {α : Type} {R : α → List Value → World → Prop} {T sz base : Nat} {G : Nat → Prop} {v : Value} {l : List α} {w : World} (h : Own R T sz base G v l w) : slLen v = l.length := by
  obtain ⟨A, c, rfl, _, _⟩ := h.out; rfl
theorem orderG_step {α : Type} {P : α → α → Bool} {l : List α} {i n : Nat} {a : α} (hp : pick P l = some i) (ha : l[i]? = some a) : orderG P (n + 1) l = (a :: (orderG P n (l.eraseIdx i)).1, (orderG P n (l.eraseIdx i)).2) := by
  rw [orderG, hp]; simp only [ha]
theorem orderG_none {α : Type} {P : α → α → Bool} {l : List α} {n : Nat} (hp : pick P l = none) : orderG P n l = ([], l) := by
  cases n with
  | zero => rfl
  | succ n => rw [orderG, hp]

open Classical in
theorem appB_true {l : List CI} {ts : List Tag} {m : Meth} (h : Applies l ts m) : appB l ts m = true := decide_eq_true h
open Classical in
theorem appB_false {l : List CI} {ts : List Tag} {m : Meth} (h : ¬ Applies l ts m) : appB l ts m = false := decide_eq_false h

set_option maxHeartbeats 32000000 in
set_option maxRecDepth 100000 in
theorem ordered_calls (cp : Nat) (AH : Option Addr) (cH : Nat) (l : List CI) (AT : Option Addr) (cT : Nat) (ts : List Tag) (A2 : Option Addr) (c2 : Nat) (W : World) (HO : OpenAt cp AH cH l AT cT ts A2 c2 W)
    (GH : Nat → Prop) (h : Held GH (CIs AH l) W) (hcH : l.length ≤ cH) (hl : l.length ≤ 1000000) (ol : ∀ x ∈ l, ciOk x) (hcl : ∀ t ∈ ts, (cplAt l t).length ≤ 1000000) (hts : ts.length ≤ 1000000) (GT : Nat → Prop) (hT : Held GT (Tags AT ts) W)
    (A : Option Addr) (c : Nat) (ms : List Meth) (G : Nat → Prop) (hM : Held G (Meths A ms) W) (hn : ms.length ≤ 1000000) (hp : ∀ m ∈ ms, m.pars.length = ts.length) (hs : ∀ m ∈ ms, ∀ p ∈ m.pars, TySmall p.type) :
    Calls Try.prog 37 #[.pointer (some ⟨cp, 0, none⟩), .slice A ms.length c] W fun e W' => ∃ v1 v2, e = .returned (.tuple #[v1, v2]) ∧ Own metR 39 8 W.heap.size (fun b => b < W.heap.size) v1 (ordB l ts ms).1 W' ∧
      Own metR 39 8 W.heap.size (fun b => b < W.heap.size) v2 (ordB l ts ms).2 W' ∧ Below W.heap.size W W' := by
  have hmf : ∀ (fn : Fn) (first cap : Array Value) (w : World), (Instr.makeFunc fn first cap).run Try.prog w = .ok (.func fn first cap) w := fun _ _ _ _ => rfl
  have HF := Lib.hid (filter_calls A c ms (fun b => b < W.heap.size) W hM.here hn 43 #[.pointer (some ⟨cp, 0, none⟩)] #[] (appB l ts) (enters Try.func43 (by kernel_rfl) rfl)
    (fun m hm A1 c1 A2 c2 wr hb h1 h2 => by
      refine (applies_calls cp AH cH l AT cT ts m A1 A2 c1 c2 wr (HO.call.keep hb) GH (h.keep (Keep.all hb)) hcH ol hl GT (hT.keep (Keep.all hb)) _ h2 (hp m hm) (by rw [hp m hm]; exact hts) (hs m hm)).mono ?_
      rintro e w' ⟨q, (⟨q1, rfl⟩ | ⟨q1, rfl⟩)⟩
      · exact ⟨by rw [appB_true q1], q⟩
      · exact ⟨by rw [appB_false q1], q⟩))
  obtain ⟨P, hP⟩ : ∃ P, P = precB l ts := ⟨_, rfl⟩
  obtain ⟨fm, hfm⟩ : ∃ fm, fm = ms.filter (appB l ts) := ⟨_, rfl⟩
  have HORD : Hid (ordB l ts ms = orderG P fm.length fm) := Lib.hid (by unfold ordB; rw [hP, hfm])
  have HFM : Hid (∀ m ∈ fm, m ∈ ms) := Lib.hid (fun m hm => by rw [hfm] at hm; exact (List.mem_filter.1 hm).1)
  have HFL : Hid (fm.length ≤ ms.length) := Lib.hid (by rw [hfm]; exact List.length_filter_le _ _)
  rw [← hfm] at HF
  have HPR : Hid (∀ (a b : Meth) (Aa Ar Ba Br : Option Addr) (ca cr cb cq : Nat) (V : World), Below W.heap.size W V → a ∈ ms → b ∈ ms → (∃ G, Held G (Pars Aa a.pars) V) → (∃ G, Held G (Pars Ba b.pars) V) →
      Calls Try.prog 44 #[.pointer (some ⟨cp, 0, none⟩), metV a Aa ca Ar cr, metV b Ba cb Br cq] V fun e V' => e = .returned (.bool (P a b)) ∧ Below V.heap.size V V') :=
    Lib.hid (fun a b Aa Ar Ba Br ca cr cb cq V hv ha hb ⟨Ga, h1⟩ ⟨Gb, h2⟩ => by
      rw [hP]
      exact precedes_calls cp AH cH l AT cT ts A2 c2 V (HO.keep hv) GH (h.keep (Keep.all hv)) hl ol hcl hts a b Aa Ar Ba Br ca cr cb cq Ga Gb h1 h2 (hp a ha) (hp b hb) (hs a ha) (hs b hb))
  clear hP hfm HO h hcl hT hM hp hs ol
  go_enter Try.func37, Try.ntmps37
  go_wp2
  go_step3
  go_wp2_with (fail)
  refine HF.out.mono ?_
  clear HF hmf
  rintro e V ⟨v, rfl, hown, hbv⟩
  have hown := hown.mono (G' := fun b => b < W.heap.size) (fun b _ h => h.1)
  go_wp2_with (fail)
  go_step3
  go_wp2_with (fail)
  go_loopw [4, 5] (fun o lf wr => ∃ (n : Nat) (os ls : List Meth), Own metR 39 8 W.heap.size (fun b => b < W.heap.size) o os wr ∧ Own metR 39 8 W.heap.size (fun b => b < W.heap.size) lf ls wr ∧ (∀ b, o.ownBlock = some b → lf.ownBlock ≠ some b) ∧
    os ++ (orderG P n ls).1 = (orderG P fm.length fm).1 ∧ (orderG P n ls).2 = (orderG P fm.length fm).2 ∧ ls.length ≤ n ∧ os.length + ls.length ≤ ms.length ∧ (∀ m ∈ ls, m ∈ ms) ∧ Below W.heap.size W wr) (fun _ lf _ => slLen lf)
  case atStart => exact ⟨fm.length, [], fm, Own.nil _ _ _ _ _ _, hown, by simp [Value.ownBlock], by simp, rfl, Nat.le_refl _, by simpa using HFL.out, HFM.out, hbv⟩
  case round =>
    obtain ⟨n, os, ls, hO, hL, hdis, e1, e2, hln, hlen, hmem, hb⟩ := hrel
    have HE1 := Lib.hid e1
    have HE2 := Lib.hid e2
    have HMEM := Lib.hid hmem
    have HDIS := Lib.hid hdis
    clear e1 e2 hmem hdis
    by_cases h0 : 0 < ls.length
    · obtain ⟨g, cl, rfl, hgb, hgl⟩ := hL.form h0
      have hl0 : (0 : Int) < (ls.length : Int) := by omega
      go_wp2_with (fail)
      go_step3
      go_wp2_with (fail)
      go_step3
      go_wp2_with (fail)
      obtain ⟨Wo, hWo⟩ : ∃ Wo, Wo = wr := ⟨_, rfl⟩
      subst hWo
      obtain ⟨ov, hov⟩ : ∃ ov, ov = u4 := ⟨_, rfl⟩
      subst hov
      go_loopw [4, 5, 19] (fun o' lf' i w2 => ∃ k : Nat, o' = ov ∧ lf' = .slice (some ⟨g, 0, none⟩) ls.length cl ∧ k ≤ ls.length ∧ i = .int .i64 k ∧ (∀ j, j < k → pickOk P ls j = false) ∧ Below Wo.heap.size Wo w2) (fun _ _ i _ => ls.length - (intOf i).toNat)
      case atStart => exact ⟨0, rfl, rfl, Nat.zero_le _, rfl, fun j hj => absurd hj (by omega), Below.refl _ _⟩
      case round =>
        obtain ⟨k, rfl, rfl, hk, rfl, hbad, hb2⟩ := hrel
        have HBAD := Lib.hid hbad
        clear hbad
        by_cases hkl : k < ls.length
        · have hx : ls[k]? = some ls[k] := List.getElem?_eq_getElem hkl
          generalize ls[k] = a at hx
          have HX := Lib.hid hx
          obtain ⟨A1, c1, A3, c3, p1, p2, p3, p4, f0, f1, f2, f3, f4, f5, f6, f7⟩ := OwnMet.at hL hx
          have g0 := cell_all f0 hb2
          have g1 := cell_all f1 hb2
          have g2 := cell_all f2 hb2
          have g3 := cell_all f3 hb2
          have g4 := cell_all f4 hb2
          have g5 := cell_all f5 hb2
          have g6 := cell_all f6 hb2
          have g7 := cell_all f7 hb2
          clear hx f0 f1 f2 f3 f4 f5 f6 f7
          go_wp2_with (fail)
          obtain ⟨W1, hW1⟩ : ∃ W1, W1 = wr.alloc (.cells #[.int .i64 a.id, .string a.lib, .slice A1 a.pars.length c1, .int .i64 a.result.kind, .string a.result.name, .int .i64 a.result.lo, .int .i64 a.result.hi, .slice A3 a.result.args.length c3] 39) := ⟨_, rfl⟩
          rw [← hW1]
          have b1 : Below wr.heap.size wr W1 := by rw [hW1]; exact (Below.refl _ wr).alloc (Nat.le_refl _) _
          have xm : ∀ j u, [Value.int .i64 a.id, .string a.lib, .slice A1 a.pars.length c1, .int .i64 a.result.kind, .string a.result.name, .int .i64 a.result.lo, .int .i64 a.result.hi, .slice A3 a.result.args.length c3][j]? = some u → W1.cell? ⟨wr.heap.size, j, none⟩ = some u := fun j u hj => by rw [hW1]; exact cell_new wr _ _ _ rfl j u hj
          have XM := Lib.hid xm
          clear hW1 g0 g1 g2 g3 g4 g5 g6 g7 xm
          have bo1 : Below Wo.heap.size Wo W1 := hb2.trans (b1.mono hb2.size)
          obtain ⟨ab, hab⟩ : ∃ ab, ab = wr.heap.size := ⟨_, rfl⟩
          rw [← hab] at XM ⊢
          clear hab b1 hb2
          go_wp2_with (fail)
          go_loopw [26] (fun i w3 => ∃ j : Nat, j ≤ ls.length ∧ i = .int .i64 j ∧ (∀ q, q < j → k = q ∨ pairP P ls k q = true) ∧ Below W1.heap.size W1 w3) (fun i _ => ls.length - (intOf i).toNat)
          case atStart => exact ⟨0, Nat.zero_le _, rfl, fun j hj => absurd hj (by omega), Below.refl _ _⟩
          case round =>
            obtain ⟨j, hj, rfl, hgood, hb3⟩ := hrel
            have HG := Lib.hid hgood
            clear hgood
            have bo3 : Below Wo.heap.size Wo wr := bo1.trans (hb3.mono bo1.size)
            have bW3 : Below W.heap.size W wr := hb.trans (bo3.mono hb.size)
            by_cases hjl : j < ls.length
            · have hy : ls[j]? = some ls[j] := List.getElem?_eq_getElem hjl
              generalize ls[j] = b at hy
              have HY := Lib.hid hy
              obtain ⟨B1, d1, B3, d3, q1, q2, q3, q4, f0, f1, f2, f3, f4, f5, f6, f7⟩ := OwnMet.at hL hy
              have g0 := cell_all f0 bo3
              have g1 := cell_all f1 bo3
              have g2 := cell_all f2 bo3
              have g3 := cell_all f3 bo3
              have g4 := cell_all f4 bo3
              have g5 := cell_all f5 bo3
              have g6 := cell_all f6 bo3
              have g7 := cell_all f7 bo3
              have m0 := cell_all (XM.out 0 _ rfl) hb3
              have m1 := cell_all (XM.out 1 _ rfl) hb3
              have m2 := cell_all (XM.out 2 _ rfl) hb3
              have m3 := cell_all (XM.out 3 _ rfl) hb3
              have m4 := cell_all (XM.out 4 _ rfl) hb3
              have m5 := cell_all (XM.out 5 _ rfl) hb3
              have m6 := cell_all (XM.out 6 _ rfl) hb3
              have m7 := cell_all (XM.out 7 _ rfl) hb3
              clear hy f0 f1 f2 f3 f4 f5 f6 f7
              have habl : ab < wr.heap.size := cell_lt m0
              have bal : Below wr.heap.size wr (wr.alloc (.cells #[.int .i64 b.id, .string b.lib, .slice B1 b.pars.length d1, .int .i64 b.result.kind, .string b.result.name, .int .i64 b.result.lo, .int .i64 b.result.hi, .slice B3 b.result.args.length d3] 39)) := (Below.refl _ wr).alloc (Nat.le_refl _) _
              by_cases hkj : k = j
              · have t1 : ((k : Int) != (j : Int)) = false := bne_eq_false_iff_eq.2 (by omega)
                have HKJ := Lib.hid hkj
                clear hkj
                go_wp2
                go_roundw
                case rel =>
                  refine ⟨j + 1, by omega, by go_num, fun q hq => ?_, hb3.trans (bal.mono hb3.size)⟩
                  rcases Nat.lt_or_ge q j with z | z
                  · exact HG.out q z
                  · exact .inl (by have := HKJ.out; omega)
                case measure => simp [intOf]; omega
              · have t1 : ((k : Int) != (j : Int)) = true := by rw [bne_iff_ne]; omega
                have HKJ := Lib.hid hkj
                clear hkj
                have HPC := Lib.hid (fun V (hv : Below wr.heap.size wr V) => HPR.out a b A1 A3 B1 B3 c1 c3 d1 d3 V (bW3.trans (hv.mono bW3.size)) (HMEM.out a (List.mem_of_getElem? HX.out)) (HMEM.out b (List.mem_of_getElem? HY.out)) ⟨_, p2.keep (Keep.all (bo3.trans (hv.mono bo3.size)))⟩ ⟨_, q2.keep (Keep.all (bo3.trans (hv.mono bo3.size)))⟩)
                have HPP : Hid (pairP P ls k j = P a b) := Lib.hid (pairP_at HX.out HY.out)
                cases hpab : P a b with
                | true =>
                  have HPT : Hid (pairP P ls k j = true) := Lib.hid (HPP.out.trans hpab)
                  rw [hpab] at HPC
                  clear hpab HPP
                  go_wp2_with (fail)
                  refine (HPC.out _ bal).mono ?_
                  clear HPC
                  rintro e V ⟨rfl, hbv⟩
                  go_wp2
                  go_roundw
                  case rel =>
                    refine ⟨j + 1, by omega, by go_num, fun q hq => ?_, hb3.trans ((bal.trans (hbv.mono bal.size)).mono hb3.size)⟩
                    rcases Nat.lt_or_ge q j with z | z
                    · exact HG.out q z
                    · obtain rfl : q = j := by omega
                      exact .inr HPT.out
                  case measure => simp [intOf]; omega
                | false =>
                  have HPT : Hid (pickOk P ls k = false) := Lib.hid (by
                    cases hq : pickOk P ls k with
                    | false => rfl
                    | true =>
                      rcases pickOk_iff.1 hq j hjl with z | z
                      · exact absurd z HKJ.out
                      · rw [HPP.out, hpab] at z; cases z)
                  rw [hpab] at HPC
                  clear hpab HPP
                  go_wp2_with (fail)
                  refine (HPC.out _ bal).mono ?_
                  clear HPC
                  rintro e V ⟨rfl, hbv⟩
                  go_wp2
                  go_roundw
                  case rel =>
                    refine ⟨k + 1, rfl, rfl, by omega, by go_num, fun q hq => ?_, bo3.trans ((bal.trans (hbv.mono bal.size)).mono bo3.size)⟩
                    rcases Nat.lt_or_ge q k with z | z
                    · exact HBAD.out q z
                    · obtain rfl : q = k := by omega
                      exact HPT.out
                  case measure => simp [intOf]; omega
            · obtain rfl : j = ls.length := by omega
              have HPK : Hid (pick P ls = some k) := Lib.hid (pick_eq hkl (pickOk_iff.2 fun q hq => HG.out q hq) HBAD.out)
              have m0 := cell_all (XM.out 0 _ rfl) hb3
              have m1 := cell_all (XM.out 1 _ rfl) hb3
              have m2 := cell_all (XM.out 2 _ rfl) hb3
              have m3 := cell_all (XM.out 3 _ rfl) hb3
              have m4 := cell_all (XM.out 4 _ rfl) hb3
              have m5 := cell_all (XM.out 5 _ rfl) hb3
              have m6 := cell_all (XM.out 6 _ rfl) hb3
              have m7 := cell_all (XM.out 7 _ rfl) hb3
              have hOr := hO.all bo3
              have hLr := hL.all bo3
              have hbz := bW3.size
              have hO2 := Lib.hid (fun b e => (hOr.lt b e))
              go_wp2_with (at_builtin; refine Classical.byContradiction fun hneg => ?_)
              apply hneg
              refine wp_append_one metR 39 8 W.heap.size 112 (fun b => b < W.heap.size) _ rfl _ _ 31 _ rfl Try.underlying31 info39 rfl (by decide) (by decide) u4 os rfl (hOr.alloc _) ⟨wr.heap.size, 0, none⟩ 1 rfl a [.int .i64 a.id, .string a.lib, .slice A1 a.pars.length c1, .int .i64 a.result.kind, .string a.result.name, .int .i64 a.result.lo, .int .i64 a.result.hi, .slice A3 a.result.args.length c3] rfl ?cells ?one ((metR.mk p1 (p2.keep (Keep.all bo3)) p3 (p4.keep (Keep.all bo3))).keep (Keep.alloc _ _ _)) ?hG ?base ?len ?_
              case cells => exact fun j u hu => cells_new wr _ _ _ rfl j u hu
              case one => intro u hu; simp at hu; rcases hu with rfl | rfl | rfl | rfl | rfl | rfl | rfl | rfl <;> rfl
              case hG => exact fun b hb e => by have := (hO2.out b e).1; omega
              case base => simp; omega
              case len => omega
              intro v' w1 hown1 hg1 hat1
              have bw1 : Below W.heap.size W w1 := (bW3.alloc bW3.size _).grown hg1 (by simp; omega) fun k' e => (hO2.out k' e).1
              have hL1 : Own metR 39 8 W.heap.size (fun b => b < W.heap.size) (.slice (some ⟨g, 0, none⟩) ls.length cl) ls w1 := by
                refine (hLr.alloc (.cells #[.int .i64 a.id, .string a.lib, .slice A1 a.pars.length c1, .int .i64 a.result.kind, .string a.result.name, .int .i64 a.result.lo, .int .i64 a.result.hi, .slice A3 a.result.args.length c3] 39)).keep (Keep.grown hg1 fun b hb e => by have := (hO2.out b e.symm).1; omega) fun k' e => ?_
                refine hg1.block k' (by have := (hLr.lt k' e).2; simp; omega) fun e2 => HDIS.out k' e2.symm e
              clear m0 m1 m2 m3 m4 m5 m6 m7 hOr hLr
              go_wp2_with (fail)
              refine (cloneOwn_calls (some ⟨g, 0, none⟩) cl W.heap.size ls _ w1 hL1 (by omega)).mono ?_
              rintro e V ⟨v2, rfl, hC, hbC⟩
              obtain ⟨g2, cl2, rfl, hg2, hg2l⟩ := hC.form h0
              have hv1 : Hid (∀ b, v'.ownBlock = some b → b < w1.heap.size) := Lib.hid (fun b e => (hown1.lt b e).2)
              have hownV := hown1.all hbC
              have hbWV := bw1.trans (hbC.mono bw1.size)
              have hw1z := bw1.size
              clear hL1
              go_wp2_with (fail)
              refine (delete_calls g2 cl2 ls k hkl (by omega) W.heap.size (fun b => b < W.heap.size) (fun b hb => by omega) V (hC.lower (by omega))).mono ?_
              rintro e V2 ⟨n2, hn2, rfl, hD, hch⟩
              have hownV2 : Own metR 39 8 W.heap.size (fun b => b < W.heap.size) v' (os ++ [a]) V2 := hownV.keep (hch.keep fun b hb => by omega) fun k' e => hch.block k' (hownV.lt k' e).2 (by have := hv1.out k' e; omega)
              have hbF : Below W.heap.size W V2 := hbWV.trans (hch.below (by have := hbWV.size; omega) (fun b e => by omega))
              have HV2 := Lib.hid hownV2
              have HD2 := Lib.hid hD
              have HN2 := Lib.hid hn2
              obtain ⟨n', hn'⟩ : ∃ n', n = n' + 1 := ⟨n - 1, by omega⟩
              have HST : Hid (orderG P n ls = (a :: (orderG P n' (ls.eraseIdx k)).1, (orderG P n' (ls.eraseIdx k)).2)) := Lib.hid (by rw [hn']; exact orderG_step HPK.out HX.out)
              have HNN := Lib.hid hn'
              clear hownV2 hD hn2 hn' hownV hown1 hC
              go_wp2
              rw [Exit.noGoto_exit]
              go_wp2
              go_roundw
              case rel =>
                refine ⟨n', os ++ [a], ls.eraseIdx k, HV2.out, HD2.out, fun b e e2 => ?_, ?_, ?_, ?_, ?_, ?_, hbF⟩
                · have h1 := hv1.out b e
                  simp [Value.ownBlock] at e2
                  omega
                · have := HE1.out
                  rw [HST.out] at this
                  simpa using this
                · have := HE2.out
                  rw [HST.out] at this
                  exact this
                · rw [List.length_eraseIdx_of_lt hkl]; have := HNN.out; omega
                · rw [List.length_eraseIdx_of_lt hkl, List.length_append, List.length_singleton]; omega
                · exact fun m hm => HMEM.out m (List.mem_of_mem_eraseIdx hm)
              case measure =>
                have := HN2.out
                simp [slLen]; omega
        · obtain rfl : k = ls.length := by omega
          have HPK : Hid (pick P ls = none) := Lib.hid (pick_eq_none HBAD.out)
          have HNO : Hid (orderG P n ls = ([], ls)) := Lib.hid (orderG_none HPK.out)
          have hOf := Lib.hid (hO.all hb2)
          have hLf := Lib.hid (hL.all hb2)
          have hbf := hb.trans (hb2.mono hb.size)
          clear hO hL
          go_wp2
          rw [Exit.noGoto_exit]
          go_wp2
          rw [Exit.noGoto_ret]
          go_ret2
          refine ⟨_, _, rfl, ?_, ?_, hbf⟩
          · have e := HE1.out
            rw [HNO.out, List.append_nil] at e
            rw [HORD.out, ← e]; exact hOf.out
          · have e := HE2.out
            rw [HNO.out] at e
            rw [HORD.out, ← e]; exact hLf.out
    · have hnil : ls = [] := List.length_eq_zero_iff.1 (by omega)
      subst hnil
      have HNO : Hid (orderG P n [] = (([] : List Meth), [])) := Lib.hid (orderG_none rfl)
      obtain ⟨A9, c9, rfl, _, _⟩ := hL.out
      have HL := Lib.hid hL
      have HOo := Lib.hid hO
      clear hL hO
      go_wp2
      rw [Exit.noGoto_ret]
      go_ret2
      refine ⟨_, _, rfl, ?_, ?_, hb⟩
      · have e := HE1.out
        rw [HNO.out, List.append_nil] at e
        rw [HORD.out, ← e]; exact HOo.out
      · have e := HE2.out
        rw [HNO.out] at e
        rw [HORD.out, ← e]; exact HL.out
end Go.Proofs.Ytepnmejahbiacaa
