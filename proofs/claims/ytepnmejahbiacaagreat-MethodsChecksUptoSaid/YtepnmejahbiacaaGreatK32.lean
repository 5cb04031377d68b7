/- Part 32 of the proof: Qg, Qi, Qj, Ql. -/
import Derived.Test.YtepnmejahbiacaaGreatK22
import Derived.Test.YtepnmejahbiacaaGreatK19
import Derived.Test.YtepnmejahbiacaaGreatK05
import Derived.Test.YtepnmejahbiacaaGreatK06
import Derived.Test.YtepnmejahbiacaaGreatK07
import Derived.Test.YtepnmejahbiacaaGreatK12
import Derived.Test.YtepnmejahbiacaaGreatK13
import Derived.Test.YtepnmejahbiacaaGreatK14
import Derived.Test.YtepnmejahbiacaaGreatK15
import Derived.Test.YtepnmejahbiacaaGreatK18
import Derived.Test.YtepnmejahbiacaaGreatK25
import Derived.Test.YtepnmejahbiacaaGreatK24
import Derived.Test.YtepnmejahbiacaaGreatK21
import Derived.Test.YtepnmejahbiacaaGreatK08
import Derived.Test.YtepnmejahbiacaaGreatK17
import Derived.Test.YtepnmejahbiacaaGreatK04
import Derived.Test.YtepnmejahbiacaaGreatK10
import Derived.Test.YtepnmejahbiacaaGreatK11
import Derived.Test.YtepnmejahbiacaaGreatK23
import Derived.Test.YtepnmejahbiacaaGreatK27
import Derived.Test.YtepnmejahbiacaaGreatK28
import Derived.Test.YtepnmejahbiacaaGreatK31
import Derived.Test.YtepnmejahbiacaaGreatK09
import Derived.Test.YtepnmejahbiacaaGreatK26
import Derived.Test.YtepnmejahbiacaaGreatK03
import Derived.Test.YtepnmejahbiacaaGreatK16
import Derived.Test.YtepnmejahbiacaaGreatK02
import Derived.Test.YtepnmejahbiacaaGreatK01
import Derived.Test.YtepnmejahbiacaaGreatK20
import Derived.BigQuiet
import Derived.Carry
import Derived.Deep.AppendLies
import Derived.Deep.DrawnRows
import Derived.Deep.Draws
import Derived.Deep.LoopGhost
import Derived.Deep.QuietTactic
import Derived.Deep.RegionHeld3
import Derived.Deep.RegionLaw
import Derived.Deep.RegionWith
import Derived.KernelRfl
import Derived.Laws.EntriesVeiled
import Derived.Laws.OwnMore
import Derived.Lib.Hide
import Derived.Lib.SliceRun
import Derived.LoopIn
import Derived.LoopNIn
import Derived.Maps.AppendAt
import Derived.Maps.Own
import Derived.Maps.OwnIn
import Derived.Outline
import Derived.OwnWalkIn
import Derived.RangeFuncBound
import Derived.RangeFuncCalls
import Derived.RangeFuncLeaves
import Derived.RangeFuncNested
import Derived.Recover
import Derived.StillTailTactics
import Derived.Stop.RegionWithIn
import Derived.TacticsInMore
import Derived.Test.YtepnmejahbiacaaGreatProg
import Derived.WalkKit
import Derived.WalkSpells
set_option linter.unusedVariables false
set_option linter.unusedSimpArgs false
namespace Go.Proofs.YtepnmejahbiacaaGreat
open Go.RowKit
/-- A row of lists, whose parts lie in other blocks than its own. -/
def RowsAt (base : Nat) (u : Value) (L : List (List ByteArray)) (w : World) : Prop := ∃ Gr : Nat → Prop, Own lstR 108 1 base Gr u L w ∧ ∀ b, Gr b → b < w.heap.size ∧ u.ownBlock ≠ some b
theorem RowsAt.all {base : Nat} {u : Value} {L : List (List ByteArray)} {w w' : World} (h : RowsAt base u L w) (q : Below w.heap.size w w') : RowsAt base u L w' := by
  obtain ⟨Gr, h1, h2⟩ := h
  exact ⟨Gr, h1.all q, fun b hb => ⟨Nat.lt_of_lt_of_le (h2 b hb).1 q.size, (h2 b hb).2⟩⟩
set_option maxHeartbeats 32000000 in
set_option maxRecDepth 100000 in
theorem linear7_calls (A : Option Addr) (c : Nat) (g : List Heir) (n : Nat) (W : World) (G : Nat → Prop) (hH : Held G (Heirs A g) W) (hgk : heirsOk [] g = true) (hg : g.length ≤ 120) (hn : n ≤ g.length) :
    Calls Tryz.prog 126 #[.slice A g.length c, .int .i64 ((n : Int) - 1)] W fun e w' => Below W.heap.size W w' ∧ ∃ v, e = .returned v ∧ RowsAt W.heap.size v (rowsN g n) w' := by
  have H := Lib.hid hH.here
  have HH := Lib.hid hH
  have HLI : Hid (∀ (V : World) (i : Nat) (x : Heir) AL cl, Below W.heap.size W V → g[i]? = some x → (∃ GL, Held GL (Lsts AL (rowsN g i)) V) → Calls Tryz.prog 172 #[.slice A g.length c, .slice AL i cl, .int .i64 i] V fun e w' => Below V.heap.size V w' ∧ ((∃ ls, linesUp g x = some ls ∧ ∃ v, e = .returned (.tuple #[v, .bool true]) ∧ Own lstR 108 1 V.heap.size (fun b => b < V.heap.size) v (ls ++ [x.supers]) w') ∨ (linesUp g x = none ∧ e = .returned (.tuple #[.slice none 0 0, .bool false])))) :=
    Lib.hid (fun V i x AL cl hv hx ⟨GL, hL⟩ => lists7_calls A c g AL cl i x V G GL (HH.out.keep (Keep.all hv)) hgk hg hx hL)
  have HLU : Hid (∀ (i : Nat) (x : Heir), g[i]? = some x → line g i = (linesUp g x).bind fun ls => (merge (ls ++ [x.supers])).map (x.name :: ·)) := Lib.hid (fun i x h => linesUp_line hgk h)
  have HLF : Hid (∀ (i : Nat) (x : Heir) ls, g[i]? = some x → linesUp g x = some ls → (ls ++ [x.supers]).length ≤ 20 ∧ ∀ y ∈ ls ++ [x.supers], y.length ≤ 120 ∧ y.Nodup) := Lib.hid (fun i x ls h h2 => linesUp_facts hgk hg h h2)
  have HLL : Hid (∀ (j : Nat) (l : List ByteArray), line g j = some l → l.length ≤ 120) := Lib.hid (fun j l h => by have := line_length hgk h; omega)
  clear hH hgk HH
  go_enter Tryz.func126, Tryz.ntmps126
  go_wp2_with (fail)
  go_loopw [5, 6] (fun v i wr => ∃ (k : Nat) (u : Value), k ≤ n ∧ i = .int .i64 k ∧ v = u ∧ RowsAt W.heap.size u (rowsN g k) wr ∧ Below W.heap.size W wr) (fun _ i _ => n - (intOf i).toNat)
  case atStart => exact ⟨0, _, Nat.zero_le _, rfl, rfl, ⟨fun _ => False, Own.nil _ _ _ _ _ _, fun b h => h.elim⟩, Below.refl _ _⟩
  case round =>
    obtain ⟨k, u, hk, rfl, rfl, hrows, hb⟩ := hrel
    by_cases hkn : k < n
    · have hle : (k : Int) ≤ (n : Int) - 1 := by omega
      have hx : g[k]? = some g[k] := List.getElem?_eq_getElem (by omega)
      generalize g[k] = x at hx
      have HX := Lib.hid hx
      obtain ⟨Gr, hown, hgr⟩ := hrows
      obtain ⟨AL, cl, rfl, hcl, hHL⟩ := hown.out
      rw [rowsN_len] at hown hgr hHL hcl ⊢
      have HC := Lib.hid (HLI.out wr k x AL cl hb hx ⟨_, hHL⟩)
      have HR := Lib.hid (And.intro hown hgr)
      have hLU := HLU.out k x hx
      have hkg : k < g.length := by omega
      obtain ⟨ba, oa, rfl⟩ := Slc.addrH H.out (by omega)
      clear hHL hown hgr hx
      go_wp2_with (fail)
      refine HC.out.mono ?_
      clear HC
      rintro e V ⟨hbv, (⟨ls, hls, v, rfl, hv⟩ | ⟨hls, rfl⟩)⟩
      rotate_left
      · have HLN : Hid (lineOr g k = []) := Lib.hid (by unfold lineOr; rw [hLU, hls]; simp only [Option.bind_none, Option.getD_none])
        have hbV := below_step hb hbv
        obtain ⟨hown, hgr⟩ := HR.out
        have hownV := hown.all hbv
        have hsz := hbv.size
        have hszW := hb.size
        clear hls hLU HR
        go_wp2_with (at_builtin; refine wp_append_one lstR 108 1 W.heap.size 24 Gr _ rfl _ _ 111 _ rfl Tryz.underlying111 info108 rfl (by decide) (by decide) _ (rowsN g k) rfl ?own ⟨_, 0, none⟩ 1 rfl [] [.slice none 0 0] rfl ?cells ?one ?held ?hG ?base ?len ?_)
        case own => exact hownV.alloc _
        case cells => exact cells_new _ _ _ _ (by simp)
        case one => simp [Value.oneCell']
        case held => exact lstR.mk (Nat.le_refl _) (fun _ _ => Slc.nil _ _ _ _)
        case hG => exact fun b hb' => (hgr b hb').2
        case base => simp; omega
        case len => rw [rowsN_len]; omega
        intro v' w3 hown1 hg1 hat1
        have bF : Below W.heap.size W w3 := (hbV.alloc hbV.size _).grown hg1 (by simp; omega) fun k' e => (hownV.lt _ e).1
        have hRF : RowsAt W.heap.size v' (rowsN g (k + 1)) w3 := by
          rw [rowsN_succ, HLN.out]
          refine ⟨Gr, hown1, fun b hb' => ⟨by have := (hgr b hb').1; have := hg1.size; simp at this; omega, fun e => ?_⟩⟩
          rcases hat1 with q | q
          · exact (hgr b hb').2 (q.symm.trans e)
          · rw [e] at q
            have := Option.some.inj q
            have := (hgr b hb').1
            first | omega | (simp at *; omega)
        have HRF := Lib.hid hRF
        clear hRF hown1 hg1 hat1 hown hgr hownV
        go_wp2
        exact ⟨⟨k + 1, _, by omega, by go_num, rfl, HRF.out, bF⟩, by simp [intOf]; omega⟩
      obtain ⟨Av, cv, rfl, hcv, hHv⟩ := hv.out
      have hbV := below_step hb hbv
      obtain ⟨f1, f2⟩ := HLF.out k x ls HX.out hls
      have HM := Lib.hid (merge7_calls Av cv (ls ++ [x.supers]) V _ hHv f1 f2)
      have hll : (ls ++ [x.supers]).length = ls.length + 1 := by simp
      rw [hll] at HM
      rw [hls] at hLU
      have HLS := Lib.hid hLU
      clear hLU hls hv hHv f2 f1 hcv hll
      go_wp2_with (fail)
      refine HM.out.mono ?_
      clear HM
      rintro e V2 ⟨hbv2, (⟨out, vm, hm, rfl, hvm⟩ | ⟨hm, rfl⟩)⟩
      rotate_left
      · have HLN : Hid (lineOr g k = []) := Lib.hid (by
          unfold lineOr; rw [HLS.out]
          simp only [Option.bind_some, hm, Option.map_none, Option.getD_none])
        have hbV2 := below_step hbV hbv2
        obtain ⟨hown, hgr⟩ := HR.out
        have hownV := (hown.all hbv).all hbv2
        have hsz := hbv.size
        have hsz2 := hbv2.size
        have hszW := hb.size
        clear hm HLS HR
        go_wp2_with (at_builtin; refine wp_append_one lstR 108 1 W.heap.size 24 Gr _ rfl _ _ 111 _ rfl Tryz.underlying111 info108 rfl (by decide) (by decide) _ (rowsN g k) rfl ?own ⟨_, 0, none⟩ 1 rfl [] [.slice none 0 0] rfl ?cells ?one ?held ?hG ?base ?len ?_)
        case own => exact hownV.alloc _
        case cells => exact cells_new _ _ _ _ (by simp)
        case one => simp [Value.oneCell']
        case held => exact lstR.mk (Nat.le_refl _) (fun _ _ => Slc.nil _ _ _ _)
        case hG => exact fun b hb' => (hgr b hb').2
        case base => simp; omega
        case len => rw [rowsN_len]; omega
        intro v' w3 hown1 hg1 hat1
        have bF : Below W.heap.size W w3 := (hbV2.alloc hbV2.size _).grown hg1 (by simp; omega) fun k' e => (hownV.lt _ e).1
        have hRF : RowsAt W.heap.size v' (rowsN g (k + 1)) w3 := by
          rw [rowsN_succ, HLN.out]
          refine ⟨Gr, hown1, fun b hb' => ⟨by have := (hgr b hb').1; have := hg1.size; simp at this; omega, fun e => ?_⟩⟩
          rcases hat1 with q | q
          · exact (hgr b hb').2 (q.symm.trans e)
          · rw [e] at q
            have := Option.some.inj q
            have := (hgr b hb').1
            first | omega | (simp at *; omega)
        have HRF := Lib.hid hRF
        clear hRF hown1 hg1 hat1 hown hgr hownV
        go_wp2
        exact ⟨⟨k + 1, _, by omega, by go_num, rfl, HRF.out, bF⟩, by simp [intOf]; omega⟩
      have HLN : Hid (lineOr g k = x.name :: out ∧ line g k = some (x.name :: out)) := Lib.hid (by
        have e : line g k = some (x.name :: out) := by
          rw [HLS.out]
          simp only [Option.bind_some, hm, Option.map_some]
        exact ⟨by unfold lineOr; rw [e, Option.getD_some], e⟩)
      have hol : out.length ≤ 120 := by have := HLL.out k _ HLN.out.2; simp at this; omega
      have hbV2 := below_step hbV hbv2
      obtain ⟨Am, cm, rfl, hcm, hHm⟩ := hvm.out
      obtain ⟨A2, c2, _, _, g0, _⟩ := Heirs.atH (H.out.below hbV2) HX.out
      obtain ⟨hown, hgr⟩ := HR.out
      have hownV := (hown.all hbv).all hbv2
      have hsz := hbv.size
      have hsz2 := hbv2.size
      have hszW := hb.size
      have w1 : (0 : Int) ≤ (k : Int) := by omega
      have w2 : (k : Int) < (g.length : Int) := by omega
      have HMM := Lib.hid hHm.here
      have HOV := Lib.hid hownV
      have HGR := Lib.hid hgr
      have HLT : Hid (∀ b, (Value.slice AL k cl).ownBlock = some b → b < wr.heap.size) := Lib.hid (fun b e => (hown.lt b e).2)
      clear hm HLS HR hvm hHm hown hownV hgr
      go_wp2_with (at_builtin; refine Classical.byContradiction fun hneg => ?_)
      apply hneg
      clear hneg
      refine wp_append_all strR strR_one 9 1 V2.heap.size 16 (fun b => b < V2.heap.size) _ rfl _ _ 108 _ rfl Tryz.underlying108 info9 rfl (by decide) (by decide) (.slice (some ⟨V2.heap.size, 0, none⟩) 1 1) [x.name] out rfl (Own.single rfl (Nat.le_refl _) rfl (by decide) (fun _ _ => rfl)) Am cm out.length rfl rfl ?src ?hG ?base ?len ?_
      case src => exact HMM.out.keep (Keep.alloc _ _ _)
      case hG => intro b hb' e; simp [Value.ownBlock] at e; omega
      case base => simp
      case len => simp; omega
      intro vx w3 hownx hgx hatx
      obtain ⟨Ax, cx, rfl, hcx, hHx⟩ := (ownPure (G' := fun _ => False) hownx).out
      have hb3 : Below V2.heap.size V2 w3 := ((Below.refl _ _).alloc (Nat.le_refl _) _).grown hgx (by simp) (fun k e => by simp [Value.ownBlock] at e; omega)
      have hxb : ∀ b, (Value.slice Ax ([x.name] ++ out).length cx).ownBlock = some b → V2.heap.size ≤ b ∧ b < w3.heap.size := fun b e => hownx.lt b e
      have hsz3 := hb3.size
      have HO3 := Lib.hid ((HOV.out.all hb3).mono (G' := fun b => Gr b ∨ (Value.slice Ax ([x.name] ++ out).length cx).ownBlock = some b) fun b _ h => .inl h)
      have HX3 : Hid (Held (fun b => Gr b ∨ (Value.slice Ax ([x.name] ++ out).length cx).ownBlock = some b) (lstR ([x.name] ++ out) [.slice Ax ([x.name] ++ out).length cx]) w3) := Lib.hid (lstR.mk hcx (hHx.mono fun b _ h => by
        rcases h with h | h
        · exact h.elim
        · exact .inr h))
      have HB3 := Lib.hid hxb
      clear hownx hgx hatx hHx hxb g0
      have hlen2 : ([x.name] ++ out).length = out.length + 1 := by simp
      rw [hlen2] at HO3 HX3 HB3
      go_wp2_with (at_builtin; refine Classical.byContradiction fun hneg => ?_)
      apply hneg
      clear hneg
      refine wp_append_one lstR 108 1 W.heap.size 24 (fun b => Gr b ∨ (Value.slice Ax (out.length + 1) cx).ownBlock = some b) _ rfl _ _ 111 _ rfl Tryz.underlying111 info108 rfl (by decide) (by decide) (.slice AL k cl) (rowsN g k) rfl (HO3.out.alloc _) ⟨_, 0, none⟩ 1 rfl ([x.name] ++ out) [.slice Ax (out.length + 1) cx] rfl (cells_new _ _ _ _ (by simp)) ?one ?held ?hG ?base ?len ?_
      case one => simp [Value.oneCell']
      case held => exact HX3.out.keep (Keep.alloc _ _ _)
      case hG =>
        rintro b (q | q) e
        · exact (HGR.out b q).2 e
        · have h1 := (HB3.out b q).1
          have h2 := HLT.out b e
          omega
      case base => simp; omega
      case len => rw [rowsN_len]; omega
      intro v' w4 hown1 hg1 hat1
      have hbV3 := below_step hbV2 hb3
      have bF : Below W.heap.size W w4 := (hbV3.alloc hbV3.size _).grown hg1 (by have := hbV3.size; simp; omega) fun k' e => (HO3.out.lt _ e).1
      have hRF : RowsAt W.heap.size v' (rowsN g (k + 1)) w4 := by
        rw [rowsN_succ, HLN.out.1]
        refine ⟨_, hown1, fun b hb' => ?_⟩
        have h4 : w3.heap.size < w4.heap.size := by have := hg1.size; simp at this; omega
        have h5 : b < w3.heap.size := by
          rcases hb' with q | q
          · have := (HGR.out b q).1; omega
          · exact (HB3.out b q).2
        refine ⟨by omega, fun e => ?_⟩
        rcases hat1 with q | q
        · rcases hb' with p | p
          · exact (HGR.out b p).2 (q.symm.trans e)
          · have h1 := (HB3.out b p).1
            have h2 := HLT.out b (q.symm.trans e)
            omega
        · rw [e] at q
          have q2 := Option.some.inj q
          simp only [World.alloc, Array.size_push] at q2
          omega
      have HRF := Lib.hid hRF
      clear hRF hown1 hg1 hat1
      go_wp2
      exact ⟨⟨k + 1, _, by omega, by go_num, rfl, HRF.out, bF⟩, by simp [intOf]; omega⟩
    · obtain rfl : k = n := by omega
      have hle : ¬ (k : Int) ≤ (k : Int) - 1 := by omega
      have HR := Lib.hid hrows
      clear hrows
      go_wp2
      go_ret
      exact ⟨hb, _, rfl, HR.out⟩
end Go.Proofs.YtepnmejahbiacaaGreat
set_option linter.unusedVariables false
set_option linter.unusedSimpArgs false
namespace Go.Proofs.YtepnmejahbiacaaGreat
open Go.RowKit
/-- The classes behind the predefined ones are right, up to a place. -/
def RightTo (l : List CI) (k : Nat) : Prop := 11 ≤ l.length ∧ l.take 11 = baseL ∧ ∀ (j : Nat) (x : CI), 11 ≤ j → j < k → l[j]? = some x → crB l j x = true
theorem base_at {l : List CI} (hb : l.take 11 = baseL) {j : Nat} {x : CI} (hj : j < 11) (hx : l[j]? = some x) : baseL[j]? = some x := by
  rw [← hb, List.getElem?_take, if_pos hj]; exact hx
theorem crB_parts {l : List CI} {k : Nat} {x : CI} (h : crB l k x = true) : x.name ≠ ⟨#[]⟩ ∧ x.name.size ≤ 100 ∧ x.name ∉ nsTo l k ∧ 1 ≤ x.supers.length ∧ x.supers.length ≤ 8 ∧ distinctB x.supers = true ∧ ∀ s ∈ x.supers, supBad l k x s = false := by
  unfold crB crHead at h
  simp only [Bool.and_eq_true, Bool.not_eq_true', decide_eq_true_eq, decide_eq_false_iff_not] at h
  obtain ⟨⟨⟨⟨⟨⟨h1, h2⟩, h3⟩, h4⟩, h5⟩, h6⟩, h7⟩ := h
  exact ⟨h1, h2, hasS_false.1 h3, h4, h5, h6, fun s hs => by
    have := List.any_eq_false.1 h7 s hs
    simpa using this⟩
theorem nodup_to {l : List CI} {n : Nat} (h : RightTo l n) : ∀ k, k ≤ n → (nsTo l k).Nodup := by
  intro k
  induction k with
  | zero => intro _; exact List.nodup_nil
  | succ k ih =>
    intro hk
    have hi := ih (by omega)
    by_cases hkl : k < l.length
    · have hx : l[k]? = some l[k] := List.getElem?_eq_getElem hkl
      have e : nsTo l (k + 1) = nsTo l k ++ [l[k].name] := by unfold nsTo; rw [take_snoc hx, List.map_append]; rfl
      rw [e]
      refine List.nodup_append.2 ⟨hi, by simp, ?_⟩
      intro a ha b hb
      rw [List.mem_singleton.1 hb]
      rintro rfl
      by_cases h11 : k < 11
      · have h1 := base_at h.2.1 h11 hx
        have h2 : nsTo l k = nsTo baseL k := by
          unfold nsTo
          rw [← h.2.1, List.take_take, Nat.min_eq_left (by omega)]
        rw [h2] at ha
        have hd : ((baseL.map (·.name)).take 11).Nodup := by
          have : distinctB ((baseL.map (·.name)).take 11) = true := by kernel_rfl
          exact distinct_nodup this
        have hd2 : (baseL.map (·.name)).Nodup := by rwa [List.take_of_length_le (by simp [baseL_len])] at hd
        have h3 : (baseL.map (·.name))[k]? = some l[k].name := by rw [List.getElem?_map, h1]; rfl
        unfold nsTo at ha
        rw [List.map_take] at ha
        obtain ⟨i, hi'⟩ := List.mem_iff_getElem?.1 ha
        rw [List.getElem?_take] at hi'
        split at hi'
        · have := nodup_inj hd2 hi' h3; omega
        · cases hi'
      · exact (crB_parts (h.2.2 k _ (by omega) (by omega) hx)).2.2.1 ha
    · have e : nsTo l (k + 1) = nsTo l k := by unfold nsTo; rw [List.take_of_length_le (by omega), List.take_of_length_le (by omega)]
      rw [e]; exact hi
theorem lastAt_idx {ns : List ByteArray} (hd : ns.Nodup) (s : ByteArray) : (lastAt ns s = none ∧ idx ns s = -1) ∨ ∃ j : Nat, lastAt ns s = some j ∧ idx ns s = j ∧ ns[j]? = some s := by
  cases h : lastAt ns s with
  | none =>
    left
    refine ⟨rfl, idx_neg fun hm => ?_⟩
    obtain ⟨j, hj⟩ := List.mem_iff_getElem?.1 hm
    rw [lastAt_of hj hd] at h; cases h
  | some j =>
    right
    have := lastAt_some h
    exact ⟨j, rfl, idx_some hd this, this⟩
theorem bad_eq {l : List CI} {k : Nat} {x : CI} {s : ByteArray} (hd : (nsTo l k).Nodup) : badSup l k x s = supBad l k x s := by
  unfold badSup supBad
  show (match lastAt (nsTo l k) s with | none => true | some i => _) = _
  rcases lastAt_idx hd s with ⟨h1, h2⟩ | ⟨j, h1, h2, h3⟩
  · rw [h1, h2]; rfl
  · rw [h1, h2]
    have e1 : decide ((j : Int) < 0) = false := decide_eq_false (by omega)
    have e2 : decide ((1 : Int) ≤ (j : Int)) = decide (1 ≤ j) := decide_eq_decide.2 (by omega)
    have e3 : decide ((j : Int) ≤ 4) = decide (j ≤ 4) := decide_eq_decide.2 (by omega)
    rw [e1, e2, e3, Int.toNat_natCast]; rfl
theorem sup_seen {l : List CI} {k : Nat} {x : CI} {s : ByteArray} (h : supBad l k x s = false) : s ∈ nsTo l k := by
  apply Classical.byContradiction
  intro hn
  unfold supBad at h
  rw [idx_neg hn] at h
  simp at h
theorem heirsOk_of {g : List Heir} : ∀ {seen : List ByteArray}, (∀ i h, g[i]? = some h → heirOk (seen ++ (names g).take i) h = true) → heirsOk seen g = true := by
  induction g with
  | nil => intro seen _; rfl
  | cons a r ih =>
    intro seen h
    simp only [heirsOk, Bool.and_eq_true]
    refine ⟨by simpa using h 0 a rfl, ih fun i x hx => ?_⟩
    have := h (i + 1) x (by simpa using hx)
    simpa [names] using this
theorem nsTo_heirs (l : List CI) (k : Nat) : (names (heirsOf l)).take k = nsTo l k := by rw [heirNames, ← List.map_take]; rfl
theorem nsTo_base {l : List CI} (hb : l.take 11 = baseL) {k : Nat} (hk : k ≤ 11) : nsTo l k = nsTo baseL k := by
  unfold nsTo
  rw [← hb, List.take_take, Nat.min_eq_left hk]
theorem not_seen {l : List CI} {k : Nat} {x : CI} (hd : (nsTo l (k + 1)).Nodup) (hx : l[k]? = some x) : x.name ∉ nsTo l k := by
  have e : nsTo l (k + 1) = nsTo l k ++ [x.name] := by unfold nsTo; rw [take_snoc hx, List.map_append]; rfl
  rw [e] at hd
  intro hm
  exact (List.nodup_append.1 hd).2.2 _ hm _ (List.mem_singleton.2 rfl) rfl
theorem base_heirs : heirsOk [] (heirsOf baseL) = true := (c3Check_zero look0.2.2.2.2.1).2
theorem base_plain : baseL.all (fun y => !decide (y.name = ⟨#[]⟩) && decide (y.name.size ≤ 100)) = true := by kernel_rfl
/-- The classes are right just where look takes them. -/
theorem classes_iff {l : List CI} (h11 : 11 ≤ l.length) (hb : l.take 11 = baseL) : RightTo l l.length ↔ ClassesOk l ∧ heirsOk [] (heirsOf l) = true := by
  constructor
  · intro h
    have hnd := nodup_to h
    refine ⟨fun k x hx => ?_, heirsOk_of fun k y hy => ?_⟩
    · have hkl := (List.getElem?_eq_some_iff.1 hx).1
      have hns := not_seen (hnd (k + 1) (by omega)) hx
      have hla : lastAt (nsTo l k) x.name = none := by
        rcases lastAt_idx (hnd k (by omega)) x.name with ⟨q, _⟩ | ⟨j, _, _, q⟩
        · exact q
        · exact (hns (List.mem_of_getElem? q)).elim
      unfold classOk
      show (!(lastAt (nsTo l k) x.name).isSome && _ && _ && _) = true
      rw [hla]
      by_cases h1 : k < 11
      · have hp := List.all_eq_true.1 base_plain x (List.mem_of_getElem? (base_at hb h1 hx))
        simp only [Bool.and_eq_true] at hp
        rw [hp.1, hp.2, decide_eq_true h1]; rfl
      · obtain ⟨c1, c2, c3, c4, c5, c6, c7⟩ := crB_parts (h.2.2 k x (by omega) hkl hx)
        have hm : mayInh l k x = true := by
          unfold mayInh
          have : x.supers.any (badSup l k x) = false := by
            rw [List.any_eq_false]
            intro s hs
            rw [bad_eq (hnd k (by omega)), c7 s hs]; simp
          rw [this]; rfl
        rw [hm, decide_eq_false c1, decide_eq_true c2, decide_eq_false (show ¬ x.supers.length = 0 by omega), decide_eq_true c5]; simp
    · rw [List.nil_append, nsTo_heirs]
      unfold heirsOf at hy
      rw [List.getElem?_map] at hy
      obtain ⟨x, hx, rfl⟩ := Option.map_eq_some_iff.1 hy
      have hkl := (List.getElem?_eq_some_iff.1 hx).1
      by_cases h1 : k < 11
      · have := heirsOk_at base_heirs k x.heir (heirsOf_get (base_at hb h1 hx))
        rw [List.nil_append, nsTo_heirs] at this
        rw [nsTo_base hb (by omega)]; exact this
      · obtain ⟨c1, c2, c3, c4, c5, c6, c7⟩ := crB_parts (h.2.2 k x (by omega) hkl hx)
        unfold heirOk
        have hs : supersOk (nsTo l k) x.heir.supers = true := supersOk_true fun i s hi hs => by
          refine ⟨hasS_iff.2 (sup_seen (c7 s (List.mem_of_getElem? hs))), hasS_false.2 fun hm => ?_⟩
          obtain ⟨i2, hi2⟩ := List.mem_iff_getElem?.1 hm
          rw [List.getElem?_take] at hi2
          split at hi2
          · have := nodup_inj (distinct_nodup c6) hi2 hs; omega
          · cases hi2
        rw [hs]
        have h2 : hasS (nsTo l k) x.heir.name = false := hasS_false.2 c3
        rw [h2, decide_eq_false (show ¬ x.heir.name = ⟨#[]⟩ from c1), decide_eq_true (show x.heir.supers.length ≤ 8 from c5)]; rfl
  · rintro ⟨hc, hh⟩
    have hnd : ∀ k, (nsTo l k).Nodup := fun k => by
      rw [← nsTo_heirs]
      exact (names_nodup hh).sublist (List.take_sublist _ _)
    refine ⟨h11, hb, fun k x hk hkl hx => ?_⟩
    have h1 := hc k x hx
    unfold classOk at h1
    rw [decide_eq_false (show ¬ k < 11 by omega)] at h1
    simp only [Bool.false_or, Bool.and_eq_true, Bool.not_eq_true', decide_eq_true_eq, decide_eq_false_iff_not] at h1
    obtain ⟨⟨⟨_, h3⟩, h4⟩, ⟨h5, h6⟩, h7⟩ := h1
    have hns := not_seen (hnd (k + 1)) hx
    have hdi := distinct_of (heir_facts hh (heirsOf_get hx)).2
    unfold crB crHead
    have ha : x.supers.any (supBad l k x) = false := by
      rw [List.any_eq_false]
      intro s hs
      unfold mayInh at h7
      simp only [Bool.not_eq_true'] at h7
      have := List.any_eq_false.1 h7 s hs
      rw [bad_eq (hnd k)] at this
      exact this
    have h8 : hasS (nsTo l k) x.name = false := hasS_false.2 hns
    have h9 : distinctB x.supers = true := hdi
    rw [ha, h8, h9, decide_eq_false h3, decide_eq_true h4, decide_eq_true (show 1 ≤ x.supers.length by omega), decide_eq_true h6]; rfl
/-- A hierarchy is right just where look takes it. -/
theorem look_iff {l : List CI} (h120 : l.length ≤ 120) (h11 : 11 ≤ l.length) (hb : l.take 11 = baseL) : LookOk l ↔ RightTo l l.length ∧ ∀ (k : Nat) (x : CI), l[k]? = some x → line (heirsOf l) k = some x.cpl := by
  rw [classes_iff h11 hb]
  constructor
  · intro h
    exact ⟨⟨h.2.2.2.1, (c3Check_zero h.2.2.2.2.1).2⟩, h.2.2.2.2.2⟩
  · rintro ⟨⟨h1, h2⟩, h3⟩
    exact ⟨h120, h11, hb, h1, by unfold c3Check; rw [heirsOf_len, if_neg (by omega), if_pos h2], h3⟩
end Go.Proofs.YtepnmejahbiacaaGreat
set_option linter.unusedVariables false
set_option linter.unusedSimpArgs false
namespace Go.Proofs.YtepnmejahbiacaaGreat
open Go.RowKit
theorem quietE {W U V : World} {n : Nat} (q : Drw (W.drewN n) V) : ∃ m, V = W.drewN m := by
  obtain ⟨b, rfl⟩ := q
  exact ⟨n + b, World.drewN_drewN _ _ _⟩
theorem quietF {W V : World} {q a : Nat} (h : Drw (W.drewN (q + a)) V) : ∃ n, V = W.drewN (q + n) := by
  obtain ⟨b, rfl⟩ := h
  exact ⟨a + b, by rw [World.drewN_drewN, Nat.add_assoc]⟩
open Classical in
/-- Whether a list of classes is a hierarchy. -/
noncomputable def lookR (l : List CI) : Bool := decide (LookOk l)
theorem lookR_true {l : List CI} (h : LookOk l) : lookR l = true := by unfold lookR; simp [h]
theorem lookR_false {l : List CI} (h : ¬ LookOk l) : lookR l = false := by unfold lookR; simp [h]
set_option maxHeartbeats 32000000 in
set_option maxRecDepth 100000 in
theorem right8_calls (A : Option Addr) (c : Nat) (l : List CI) (W : World) (G : Nat → Prop) (hH : Held G (CIs A l) W) (hc : l.length ≤ c) (ol : ∀ x ∈ l, ciOk x) (hl : l.length ≤ 1000000) :
    Calls Tryz.prog 79 #[.slice A l.length c] W fun e w' => e = .returned (.bool (lookR l)) ∧ Below W.heap.size W w' := by
  have H := Lib.hid hH
  have HOL := Lib.hid ol
  clear hH ol
  go_enter Tryz.func79, Tryz.ntmps79
  go_wp2_with (fail)
  refine (base8_calls _).mono ?_
  rintro e V1 ⟨A0, c0, rfl, hc0, hB, hb1⟩
  have HB0 := Lib.hid hB
  clear hB
  by_cases h120 : (120 : Int) < (l.length : Int)
  · have HR : Hid (lookR l = false) := Lib.hid (lookR_false fun h => by have := h.1; omega)
    go_wp2
    go_ret
    exact ⟨(by rw [HR.out]; try rfl), hb1⟩
  by_cases h11 : (l.length : Int) < 11
  · have HR : Hid (lookR l = false) := Lib.hid (lookR_false fun h => by have := h.2.1; omega)
    go_wp2
    go_ret
    exact ⟨(by rw [HR.out]; try rfl), hb1⟩
  have h11c : 11 ≤ c := by omega
  obtain ⟨b, off, rfl⟩ := Slc.addrH H.out (by omega)
  have hlt : (l.take 11).length = 11 := by rw [List.length_take]; omega
  have HSH : Hid (Calls Tryz.prog 124 #[.slice (some ⟨b, off, none⟩) 11 c, .slice A0 11 c0] V1 fun e w' => e = .returned (.bool (decide (l.take 11 = baseL))) ∧ Below V1.heap.size V1 w') := Lib.hid (by
    have := sameHier_calls (some ⟨b, off, none⟩) A0 c c0 (l.take 11) baseL V1 (((H.out.keep (Keep.all hb1)).imp fun _ _ q => Slc.take q 11).now) HB0.out.now (by rw [hlt]; omega) (by rw [baseL_len]; omega) (fun x hx => HOL.out x (List.mem_of_mem_take hx)) (fun x hx => by
      have : baseL.all (fun x => decide (x.supers.length ≤ 100) && decide (x.cpl.length ≤ 100)) = true := by kernel_rfl
      have := List.all_eq_true.1 this x hx
      simp only [Bool.and_eq_true, decide_eq_true_eq] at this
      exact ⟨by omega, by omega⟩)
    rw [hlt, baseL_len] at this
    exact this)
  clear hlt
  by_cases hbase : l.take 11 = baseL
  rotate_left
  · have HR : Hid (lookR l = false) := Lib.hid (lookR_false fun h => hbase h.2.2.1)
    rw [decide_eq_false hbase] at HSH
    clear hbase
    go_wp2_with (fail)
    refine HSH.out.mono ?_
    rintro e V2 ⟨rfl, hb2⟩
    have q2 := below_step hb1 hb2
    go_wp2
    go_ret
    exact ⟨(by rw [HR.out]; try rfl), q2⟩
  rw [decide_eq_true hbase] at HSH
  have HBA := Lib.hid hbase
  have HIF := Lib.hid (look_iff (l := l) (by omega) (by omega) hbase)
  have HCI := Lib.hid (classes_iff (l := l) (by omega) hbase)
  clear hbase
  go_wp2_with (fail)
  refine HSH.out.mono ?_
  clear HSH
  rintro e V2 ⟨rfl, hb2⟩
  have q2 := below_step hb1 hb2
  go_wp2_with (fail)
  go_loopw [4] (fun i wr => ∃ k : Nat, 11 ≤ k ∧ k ≤ l.length ∧ i = .int .i64 k ∧ (∀ (j : Nat) (x : CI), 11 ≤ j → j < k → l[j]? = some x → crB l j x = true) ∧ Below W.heap.size W wr) (fun i _ => l.length - (intOf i).toNat)
  case atStart => exact ⟨11, Nat.le_refl _, by omega, rfl, fun j x h1 h2 => by omega, q2⟩
  case round =>
    obtain ⟨k, hk11, hk, rfl, hall, hb⟩ := hrel
    have HALL := Lib.hid hall
    clear hall
    by_cases hkl : k < l.length
    · have hx : l[k]? = some l[k] := List.getElem?_eq_getElem hkl
      generalize l[k] = x at hx
      have HX := Lib.hid hx
      have HC := Lib.hid (classRight_calls (some ⟨b, off, none⟩) c l k x wr G (H.out.keep (Keep.all hb)) hc (by omega) hx)
      clear hx
      cases hcr : crB l k x with
      | false =>
        have HR : Hid (lookR l = false) := Lib.hid (lookR_false fun h => by
          have := (HIF.out.1 h).1.2.2 k x hk11 hkl HX.out
          rw [hcr] at this; cases this)
        rw [hcr] at HC
        clear hcr
        go_wp2_with (fail)
        refine HC.out.mono ?_
        rintro e V ⟨rfl, hbv⟩
        have qv := below_step hb hbv
        go_wp2
        go_ret
        exact ⟨(by rw [HR.out]; try rfl), qv⟩
      | true =>
        have HA2 : Hid (∀ (j : Nat) (y : CI), 11 ≤ j → j < k + 1 → l[j]? = some y → crB l j y = true) := Lib.hid (fun j y h1 h2 h3 => by
          rcases Nat.lt_or_ge j k with p | p
          · exact HALL.out j y h1 p h3
          · obtain rfl : j = k := by omega
            rw [HX.out] at h3; cases h3; exact hcr)
        rw [hcr] at HC
        clear hcr
        go_wp2_with (fail)
        refine HC.out.mono ?_
        rintro e V ⟨rfl, hbv⟩
        have qv := below_step hb hbv
        go_wp2
        exact ⟨⟨k + 1, by omega, by omega, by go_num, HA2.out, qv⟩, by simp [intOf]; omega⟩
    · obtain rfl : k = l.length := by omega
      have hrt : RightTo l l.length := ⟨by omega, HBA.out, HALL.out⟩
      have HRT := Lib.hid hrt
      have hho := (HCI.out.1 hrt).2
      have HHE := Lib.hid (heirs8_calls (some ⟨b, off, none⟩) c l wr G (H.out.keep (Keep.all hb)) (by omega))
      have HLI : Hid (∀ A' c' U, (∃ G, Held G (Heirs A' (heirsOf l)) U) → Calls Tryz.prog 126 #[.slice A' l.length c', .int .i64 ((l.length : Int) - 1)] U fun e w' => Below U.heap.size U w' ∧ ∃ v, e = .returned v ∧ RowsAt U.heap.size v (rowsN (heirsOf l) l.length) w') := Lib.hid (fun A' c' U ⟨G, hG⟩ => by
        have := linear7_calls A' c' (heirsOf l) l.length U G hG hho (by rw [heirsOf_len]; omega) (by rw [heirsOf_len]; omega)
        rw [heirsOf_len] at this
        exact this)
      have HLP : Hid (∀ (k : Nat) z, line (heirsOf l) k = some z → 0 < z.length ∧ z.length ≤ 120) := Lib.hid (fun k z h => ⟨line_pos hho h, by have := line_length hho h; rw [heirsOf_len] at this; omega⟩)
      clear hrt hho HCI HALL
      go_wp2_with (fail)
      refine HHE.out.mono ?_
      clear HHE
      rintro e V3 ⟨A', c', rfl, hc', hHe, hb3⟩
      have q3 := below_step hb hb3
      have HL2 := Lib.hid (HLI.out A' c' V3 ⟨_, hHe⟩)
      clear HLI hHe
      go_wp2_with (fail)
      refine HL2.out.mono ?_
      clear HL2
      rintro e V4 ⟨hb4, v, rfl, Gr, hown, _⟩
      obtain ⟨AL, cl, rfl, hcl, hHL⟩ := hown.out
      rw [rowsN_len] at hcl ⊢
      have q4 := below_step q3 hb4
      have HRO := Lib.hid hHL.here
      clear hown hHL
      go_wp2_with (fail)
      go_loopw [6] (fun i wr => ∃ k : Nat, k ≤ l.length ∧ i = .int .i64 k ∧ (∀ (j : Nat) (x : CI), j < k → l[j]? = some x → line (heirsOf l) j = some x.cpl) ∧ Drw V4 wr) (fun i _ => l.length - (intOf i).toNat)
      case atStart => exact ⟨0, Nat.zero_le _, rfl, fun j x h => absurd h (Nat.not_lt_zero _), Drw.refl _⟩
      case round =>
        obtain ⟨k, hk, rfl, hall, hdr⟩ := hrel
        obtain ⟨q, rfl⟩ := hdr
        have HALL := Lib.hid hall
        clear hall
        by_cases hkl : k < l.length
        · have hx : l[k]? = some l[k] := List.getElem?_eq_getElem hkl
          generalize l[k] = x at hx
          have HX := Lib.hid hx
          obtain ⟨A2, c2, A3, c3, _, p3, _, S3, _, _, _, g3, _, _⟩ := CIs.atH (H.out.keep (Keep.all q4)) hx
          obtain ⟨bl, ol', rfl⟩ := Slc.addrH HRO.out (by rw [rowsN_len]; omega)
          obtain ⟨A5, c5, r1, r2, g5⟩ := Lsts.atH HRO.out (rowsN_get (g := heirsOf l) hkl)
          have hox := HOL.out x (List.mem_of_getElem? hx)
          have HS3 := Lib.hid (And.intro S3 r2)
          have w1 : (0 : Int) ≤ (k : Int) := by omega
          have w2 : (k : Int) < (l.length : Int) := by omega
          clear hx S3 r2
          cases hln : line (heirsOf l) k with
          | none =>
            have e0 : lineOr (heirsOf l) k = [] := by unfold lineOr; rw [hln]; rfl
            have HR : Hid (lookR l = false) := Lib.hid (lookR_false fun h => by
              have := (HIF.out.1 h).2 k x HX.out
              rw [hln] at this; cases this)
            rw [e0] at g5
            clear hln e0 HS3 hox
            go_wp2_with (fail)
            go_quiet (fail)
            go_wp2
            go_ret
            exact ⟨(by rw [HR.out]; try rfl), q4.trans (Drw.below (by first | exact Drw.of _ _ | exact (Drw.of _ _).drewN _) _)⟩
          | some z =>
            have e0 : lineOr (heirsOf l) k = z := by unfold lineOr; rw [hln]; rfl
            obtain ⟨z1, z2⟩ := HLP.out k z hln
            rw [e0] at g5 HS3
            have t3 : ((z.length : Int) == 0) = false := beq_eq_false_iff_ne.2 (by omega)
            have HSA : Hid (∀ U, Drw V4 U → Calls Tryz.prog 128 #[.slice A5 z.length c5, .slice A3 x.cpl.length c3] U fun e w' => e = .returned (.bool (decide (z = x.cpl))) ∧ Drw U w') := Lib.hid (fun U hu => by
              obtain ⟨m, rfl⟩ := hu
              exact same7_calls A5 A3 c5 c3 z x.cpl (V4.drewN m) ((HS3.out.2.keep (Keep.drewN _ _ _)).now) ((HS3.out.1.keep (Keep.drewN _ _ _)).now) (by omega) hox.2)
            have HLN := Lib.hid hln
            clear hln e0 hox HS3
            by_cases hzc : z = x.cpl
            · have HA2 : Hid (∀ (j : Nat) (y : CI), j < k + 1 → l[j]? = some y → line (heirsOf l) j = some y.cpl) := Lib.hid (fun j y h2 h3 => by
                rcases Nat.lt_or_ge j k with p | p
                · exact HALL.out j y p h3
                · obtain rfl : j = k := by omega
                  rw [HX.out] at h3; cases h3; rw [HLN.out, hzc])
              rw [decide_eq_true hzc] at HSA
              clear hzc
              go_wp2_with (fail)
              go_quiet ((go_at_call 128; exact (HSA.out _ (by first | exact Drw.of _ _ | exact (Drw.of _ _).drewN _)).mono fun _ _ ⟨a, b⟩ => ⟨a, by first | exact quietF b | exact quietE b⟩))
              go_wp2
              go_roundw
              case rel => exact ⟨k + 1, by omega, by go_num, HA2.out, Drw.of _ _⟩
              case measure => simp [intOf]; omega
            · have HR : Hid (lookR l = false) := Lib.hid (lookR_false fun h => by
                have := (HIF.out.1 h).2 k x HX.out
                rw [HLN.out] at this
                exact hzc (Option.some.inj this))
              rw [decide_eq_false hzc] at HSA
              clear hzc
              go_wp2_with (fail)
              go_quiet ((go_at_call 128; exact (HSA.out _ (by first | exact Drw.of _ _ | exact (Drw.of _ _).drewN _)).mono fun _ _ ⟨a, b⟩ => ⟨a, by first | exact quietF b | exact quietE b⟩))
              go_wp2
              go_ret
              exact ⟨(by rw [HR.out]; try rfl), q4.trans (Drw.below (by first | exact Drw.of _ _ | exact (Drw.of _ _).drewN _) _)⟩
        · obtain rfl : k = l.length := by omega
          have HR : Hid (lookR l = true) := Lib.hid (lookR_true (HIF.out.2 ⟨HRT.out, fun j x hx => HALL.out j x (List.getElem?_eq_some_iff.1 hx).1 hx⟩))
          go_wp2
          go_ret
          exact ⟨(by rw [HR.out]; try rfl), q4.trans (Drw.below (Drw.of _ _) _)⟩
set_option maxHeartbeats 4000000 in
set_option maxRecDepth 100000 in
theorem check8_calls (A : Option Addr) (c : Nat) (l : List CI) (W : World) (G : Nat → Prop) (hH : Held G (CIs A l) W) (hc : l.length ≤ c) (ol : ∀ x ∈ l, ciOk x) (hl : l.length ≤ 1000000) :
    Calls Tryz.prog 47 #[.slice A l.length c] W fun e w' => Below W.heap.size W w' ∧ ((LookOk l ∧ e = .returned (.int .i64 0)) ∨ (¬ LookOk l ∧ e = .returned (.int .i64 80))) := by
  have HR := Lib.hid (right8_calls A c l W G hH hc ol hl)
  clear hH ol
  by_cases h : LookOk l
  · rw [lookR_true h] at HR
    have HL := Lib.hid h
    clear h
    go_enter Tryz.func47, Tryz.ntmps47
    go_wp2_with (fail)
    refine HR.out.mono ?_
    rintro e V ⟨rfl, hb⟩
    go_wp2
    go_ret
    exact ⟨hb, .inl ⟨HL.out, rfl⟩⟩
  · rw [lookR_false h] at HR
    have HL := Lib.hid h
    clear h
    go_enter Tryz.func47, Tryz.ntmps47
    go_wp2_with (fail)
    refine HR.out.mono ?_
    rintro e V ⟨rfl, hb⟩
    go_wp2
    go_ret
    exact ⟨hb, .inr ⟨HL.out, rfl⟩⟩
end Go.Proofs.YtepnmejahbiacaaGreat
set_option linter.unusedVariables false
set_option linter.unusedSimpArgs false
namespace Go.Proofs.YtepnmejahbiacaaGreat
open Go.RowKit
theorem find_idx (l : List CI) (a : ByteArray) : (l.find? (fun x => decide (x.name = a)) = none ∧ idx (l.map (·.name)) a = -1) ∨ ∃ (j : Nat) (x : CI), l[j]? = some x ∧ l.find? (fun x => decide (x.name = a)) = some x ∧ idx (l.map (·.name)) a = j := by
  cases hf : l.find? (fun x => decide (x.name = a)) with
  | none =>
    left
    refine ⟨rfl, idx_neg fun hm => ?_⟩
    obtain ⟨x, hx, e⟩ := List.mem_map.1 hm
    have := List.find?_eq_none.1 hf x hx
    simp [e] at this
  | some x =>
    right
    obtain ⟨h1, j, hj, e, h2⟩ := List.find?_eq_some_iff_getElem.1 hf
    refine ⟨j, x, List.getElem?_eq_some_iff.2 ⟨hj, e⟩, rfl, idx_at ?_ ?_⟩
    · rw [List.getElem?_map, List.getElem?_eq_getElem hj, e]
      simpa using h1
    · intro hm
      obtain ⟨i, hi⟩ := List.mem_iff_getElem?.1 hm
      rw [List.getElem?_take] at hi
      split at hi
      · rename_i hij
        have := h2 i hij
        rw [List.getElem?_map, List.getElem?_eq_getElem (by omega)] at hi
        simp at this hi
        exact this hi
      · cases hi
theorem hasB_idx (l : List CI) (s : ByteArray) : decide (0 ≤ idx (l.map (·.name)) s) = hasB l s := by
  rw [idx_ge]
  unfold hasB clsAt
  cases h : lastAt (l.map (·.name)) s with
  | none =>
    refine hasS_false.2 fun hm => ?_
    obtain ⟨j, hj⟩ := List.mem_iff_getElem?.1 hm
    exact lastAtN_none _ _ h j (List.getElem?_eq_some_iff.1 hj).1 hj
  | some j => exact hasS_iff.2 (List.mem_of_getElem? (lastAt_some h))
set_option maxHeartbeats 8000000 in
set_option maxRecDepth 100000 in
theorem under8_calls (A : Option Addr) (c : Nat) (l : List CI) (a b : ByteArray) (W : World) (G : Nat → Prop) (h : Held G (CIs A l) W) (hl : l.length ≤ 1000000) (hcp : ∀ x ∈ l, x.cpl.length ≤ 1000000) :
    Calls Tryz.prog 121 #[.slice A l.length c, .string a, .string b] W fun e W' => e = .returned (.bool (belowC l a b)) ∧ W = W' := by
  have HC := Lib.hid (at8_calls A c l a W G h hl)
  rcases find_idx l a with ⟨h1, h2⟩ | ⟨j, x, hx, h1, h2⟩
  · have HE : Hid (belowC l a b = false) := Lib.hid (by unfold belowC; rw [h1])
    rw [h2] at HC
    clear h1 h2 h
    go_enter Tryz.func121, Tryz.ntmps121
    go_wp2_with (fail)
    refine HC.out.mono ?_
    rintro e V ⟨rfl, rfl⟩
    go_wp2
    go_ret
    exact ⟨(by rw [HE.out]; try rfl), rfl⟩
  · have HE : Hid (belowC l a b = hasS x.cpl b) := Lib.hid (by unfold belowC; rw [h1])
    rw [h2] at HC
    have hjl := (List.getElem?_eq_some_iff.1 hx).1
    obtain ⟨bb, off, rfl⟩ := Slc.addrH h (by omega)
    obtain ⟨A2, c2, A3, c3, p2, p3, S2, S3, _, _, _, g3, _, _⟩ := CIs.atH h hx
    have HI := Lib.hid (rIndex_calls A3 c3 x.cpl b W S3.now (hcp x (List.mem_of_getElem? hx)))
    have HG := Lib.hid (idx_ge (l := x.cpl) (x := b))
    have t1 : decide ((0 : Int) ≤ (j : Int)) = true := decide_eq_true (by omega)
    have w1 : (0 : Int) ≤ (j : Int) := by omega
    have w2 : (j : Int) < (l.length : Int) := by omega
    clear h1 h2 hx h S2 S3
    generalize hasS x.cpl b = r at HE HG
    generalize idx x.cpl b = ix at HI HG
    go_enter Tryz.func121, Tryz.ntmps121
    go_wp2_with (fail)
    refine HC.out.mono ?_
    rintro e V ⟨rfl, rfl⟩
    go_wp2_with (fail)
    refine HI.out.mono ?_
    rintro e V ⟨rfl, rfl⟩
    have t2 := HG.out
    go_wp2
    go_ret
    exact ⟨(by rw [HE.out, ← HG.out]; try rfl), rfl⟩
set_option maxHeartbeats 8000000 in
set_option maxRecDepth 100000 in
theorem tagClass8_calls (t : Tag) (w : World) : Calls Tryz.prog 96 #[tagV t] w fun e w' => e = .returned (.string (classOfB t)) ∧ Below w.heap.size w w' := by
  obtain ⟨kd, nm, s⟩ := t
  have b1 : ∀ o : Obj, Below w.heap.size w (w.alloc o) := fun o => (Below.refl _ w).alloc (Nat.le_refl _) _
  by_cases k1 : kd = 1
  · subst k1
    go_enter Tryz.func96, Tryz.ntmps96
    go_wp2
    go_ret
    exact ⟨rfl, b1 _⟩
  by_cases k2 : kd = 2
  · subst k2
    go_enter Tryz.func96, Tryz.ntmps96
    go_wp2
    go_ret
    exact ⟨rfl, b1 _⟩
  by_cases k3 : kd = 3
  · subst k3
    go_enter Tryz.func96, Tryz.ntmps96
    go_wp2
    go_ret
    exact ⟨rfl, b1 _⟩
  by_cases k4 : kd = 4
  · subst k4
    go_enter Tryz.func96, Tryz.ntmps96
    go_wp2
    go_ret
    exact ⟨rfl, b1 _⟩
  have HE : Hid (classOfB ⟨kd, nm, s⟩ = s) := Lib.hid (by unfold classOfB; simp [k1, k2, k3, k4])
  have t1 : (kd == 1) = false := beq_eq_false_iff_ne.2 k1
  have t2 : (kd == 2) = false := beq_eq_false_iff_ne.2 k2
  have t3 : (kd == 3) = false := beq_eq_false_iff_ne.2 k3
  have t4 : (kd == 4) = false := beq_eq_false_iff_ne.2 k4
  clear k1 k2 k3 k4
  go_enter Tryz.func96, Tryz.ntmps96
  go_wp2
  go_ret
  exact ⟨(by rw [HE.out]; try rfl), b1 _⟩
end Go.Proofs.YtepnmejahbiacaaGreat
