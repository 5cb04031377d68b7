/- Part 23 of the proof: Od, Ck. -/
import Derived.Test.YtepnmejahbiacaaGreatL04
import Derived.Test.YtepnmejahbiacaaGreatL05
import Derived.Test.YtepnmejahbiacaaGreatL07
import Derived.Test.YtepnmejahbiacaaGreatL12
import Derived.Test.YtepnmejahbiacaaGreatL13
import Derived.Test.YtepnmejahbiacaaGreatL14
import Derived.Test.YtepnmejahbiacaaGreatL15
import Derived.Test.YtepnmejahbiacaaGreatL17
import Derived.Test.YtepnmejahbiacaaGreatL16
import Derived.Test.YtepnmejahbiacaaGreatL06
import Derived.Test.YtepnmejahbiacaaGreatL10
import Derived.Test.YtepnmejahbiacaaGreatL11
import Derived.Test.YtepnmejahbiacaaGreatL09
import Derived.Test.YtepnmejahbiacaaGreatL03
import Derived.Test.YtepnmejahbiacaaGreatL02
import Derived.Test.YtepnmejahbiacaaGreatL01
import Derived.BigQuiet
import Derived.Carry
import Derived.Deep.Draws
import Derived.Deep.LoopGhost
import Derived.Deep.QuietTactic
import Derived.KernelRfl
import Derived.Laws.EntriesVeiled
import Derived.Lib.Hide
import Derived.LoopIn
import Derived.LoopNIn
import Derived.Maps.AppendAt
import Derived.Maps.Own
import Derived.Maps.OwnIn
import Derived.Outline
import Derived.OwnWalkIn
import Derived.RangeFuncBound
import Derived.RangeFuncCalls
import Derived.RangeFuncLeaves
import Derived.RangeFuncNested
import Derived.Recover
import Derived.StillTailTactics
import Derived.Stop.RegionWithIn
import Derived.TacticsInMore
import Derived.Test.YtepnmejahbiacaaGreatProg
import Derived.WalkKit
import Derived.WalkSpells
import Derived.Test.YtepnmejahbiacaaGreatL20
import Derived.Deep.AppendLies
import Derived.Deep.RegionHeld3
import Derived.Deep.RegionWith
import Derived.Deep.RegionLaw
import Derived.Test.YtepnmejahbiacaaGreatL18
import Derived.Test.YtepnmejahbiacaaGreatL19
set_option linter.unusedVariables false
set_option linter.unusedSimpArgs false
namespace Go.Proofs.YtepnmejahbiacaaGreat
open Go.RowKit
set_option maxHeartbeats 8000000 in
set_option maxRecDepth 100000 in
theorem opened_calls (AH : Option Addr) (cH : Nat) (l : List CI) (AT : Option Addr) (cT : Nat) (ts : List Tag) (W : World) (GH : Nat → Prop) (h : Held GH (CIs AH l) W) (hcH : l.length ≤ cH) (ol : ∀ x ∈ l, ciOk x) (hl : l.length ≤ 1000000)
    (GT : Nat → Prop) (hT : Held GT (Tags AT ts) W) (hn : ts.length ≤ 1000000) (hL : LookOk l) (htg : ∀ t ∈ ts, tagOk l t = true) :
    Calls Tryz.prog 54 #[.slice AH l.length cH, .slice AT ts.length cT] W fun e W' => ∃ cp A2 c2, e = .returned (.pointer (some ⟨cp, 0, none⟩)) ∧ Below W.heap.size W W' ∧ W.heap.size ≤ cp ∧ CallAt cp AH cH l AT cT ts W' ∧
      W'.cell? ⟨cp, 2, none⟩ = some (.slice A2 ts.length c2) ∧ W'.cell? ⟨cp, 3, none⟩ = some (.func (.func 55) #[.pointer (some ⟨cp, 0, none⟩)] #[]) ∧ Held (fun b => b < W'.heap.size) (Lsts A2 (ts.map (cplAt l))) W' := by
  go_enter Tryz.func54, Tryz.ntmps54
  go_wp2
  obtain ⟨cp, hcp⟩ : ∃ cp, cp = W.heap.size := ⟨_, rfl⟩
  rw [← hcp]
  obtain ⟨W1, hW1⟩ : ∃ W1, W1 = W.alloc (.cells #[.slice AH l.length cH, .slice AT ts.length cT, .slice none 0 0, Value.nilFunc] 113) := ⟨_, rfl⟩
  rw [← hW1]
  have b1 : Below W.heap.size W W1 := by rw [hW1]; exact (Below.refl _ W).alloc (Nat.le_refl _) _
  have x0 : ∀ j u, [Value.slice AH l.length cH, .slice AT ts.length cT, .slice none 0 0, Value.nilFunc][j]? = some u → W1.cell? ⟨cp, j, none⟩ = some u ∧ W1.frozen? ⟨cp, j, none⟩ = false := fun j u hj => by
    rw [hW1]; exact ⟨cell_new W _ _ _ hcp j u hj, by subst hcp; unfold World.frozen?; rw [heap_alloc_new]; simp⟩
  have HCP := Lib.hid hcp
  clear hW1 hcp
  go_loopw [16] (fun i wr => ∃ k : Nat, k ≤ ts.length ∧ i = .int .i64 k ∧ ∃ v, Own lstR 108 1 W.heap.size (fun b => b < W.heap.size) v ((ts.take k).map (cplAt l)) wr ∧ v.ownBlock ≠ some cp ∧
    wr.cell? ⟨cp, 0, none⟩ = some (.slice AH l.length cH) ∧ wr.cell? ⟨cp, 1, none⟩ = some (.slice AT ts.length cT) ∧ wr.cell? ⟨cp, 2, none⟩ = some v ∧ wr.frozen? ⟨cp, 2, none⟩ = false ∧ wr.cell? ⟨cp, 3, none⟩ = some Value.nilFunc ∧ wr.frozen? ⟨cp, 3, none⟩ = false ∧ Below W.heap.size W wr) (fun i _ => ts.length - (intOf i).toNat)
  case atStart => exact ⟨0, Nat.zero_le _, rfl, _, Own.nil _ _ _ _ _ _, by simp [Value.ownBlock], (x0 0 _ rfl).1, (x0 1 _ rfl).1, (x0 2 _ rfl).1, (x0 2 _ rfl).2, (x0 3 _ rfl).1, (x0 3 _ rfl).2, b1⟩
  case round =>
    obtain ⟨k, hk, rfl, v, hown, hvc, q0, q1, q2, qf2, q3, qf3, hb⟩ := hrel
    by_cases hlt : k < ts.length
    · obtain ⟨b2, off2, rfl⟩ := Slc.addrH hT (by omega)
      have ht : ts[k]? = some ts[k] := List.getElem?_eq_getElem hlt
      generalize ts[k] = t at ht
      have HT := Lib.hid ht
      have HTG := Lib.hid (htg t (List.mem_of_getElem? ht))
      obtain ⟨d0, d1, d2⟩ := Tags.atH (hT.keep (Keep.all hb)) ht
      clear ht
      have HCO := Lib.hid (fun V (hv : Below wr.heap.size wr V) => ClassOf_calls AH cH l t V hcH GH ((h.keep (Keep.all hb)).keep (Keep.all hv)) ol hl)
      have bw1 : Below wr.heap.size wr (wr.alloc (.cells #[.int .i64 t.kind, .int .i64 t.num, .string t.name] 39)) := (Below.refl _ wr).alloc (Nat.le_refl _) _
      go_wp2_with (fail)
      refine (HCO.out _ bw1).mono ?_
      clear HCO
      rintro e V ⟨hbv, hcase⟩
      have e1 : e = .returned (.string (classOfB t)) := by
        rcases hcase with q | q
        · exact q.2
        · exact absurd ⟨hL, HTG.out⟩ q.1
      subst e1
      clear hcase
      have bV : Below wr.heap.size wr V := bw1.trans (hbv.mono bw1.size)
      have bWV := hb.trans (bV.mono hb.size)
      have HPL := Lib.hid (fun V' (hv : Below V.heap.size V V') (hs : V'.cell? ⟨V.heap.size, 0, none⟩ = some (.string (classOfB t))) => place_calls AH cH l (classOfB t) V.heap.size V' hs GH ((h.keep (Keep.all bWV)).keep (Keep.all hv)) hl)
      go_wp2_with (fail)
      refine (HPL.out _ ((Below.refl _ V).alloc (Nat.le_refl _) _) (cell_new V _ _ _ rfl 0 _ rfl)).mono ?_
      clear HPL
      rintro e V2 (⟨rfl, hbv2, hno⟩ | ⟨i, hi, rfl, hbv2, hfst, x, hx, hxn⟩ | ⟨_, _, hf⟩)
      · exfalso
        obtain ⟨x, hx, e⟩ := classOf_in hL HTG.out
        obtain ⟨j, hj⟩ := List.mem_iff_getElem?.1 hx
        exact hno j x (List.getElem?_eq_some_iff.1 hj).1 hj e
      rotate_left
      · exact hf.elim
      go_wp2_with (fail)
      have bV2 : Below wr.heap.size wr V2 := (bV.alloc bV.size _).trans (hbv2.mono (by have := bV.size; simp; omega))
      have r0 := cell_all q0 bV2
      have r1 := cell_all q1 bV2
      have r2 := cell_all q2 bV2
      have r3 := cell_all q3 bV2
      have hownV := hown.all bV2
      have bWV2 := hb.trans (bV2.mono hb.size)
      obtain ⟨bh, offh, rfl⟩ := Slc.addrH h (by omega)
      obtain ⟨A2, c2, A3, c3, p1, p2, p3, p4, g0, g1, g2, g3, g4, g5⟩ := CIs.atH (h.here.keep (Keep.below bWV2)) hx
      have hcpV : cp < V2.heap.size := cell_lt r0
      have hbhV : bh < V2.heap.size := cell_lt g0
      have hsz := bWV2.size
      have rf2 : V2.frozen? ⟨cp, 2, none⟩ = false := (World.frozen?_of_block (a := ⟨cp, 2, none⟩) (bV2.block cp (cell_lt q0))).trans qf2
      have rf3 : V2.frozen? ⟨cp, 3, none⟩ = false := (World.frozen?_of_block (a := ⟨cp, 3, none⟩) (bV2.block cp (cell_lt q0))).trans qf3
      have hcv : x.cpl = cplAt l t := by
        unfold cplAt
        have hf : l.find? (fun x => decide (x.name = classOfB t)) = some x := by
          rw [List.find?_eq_some_iff_getElem]
          obtain ⟨hi', hx'⟩ := List.getElem?_eq_some_iff.1 hx
          refine ⟨by simpa using hxn, i, hi', hx', fun j hj => ?_⟩
          have := hfst j _ hj (List.getElem?_eq_getElem (by omega))
          simpa using this
        rw [hf]; rfl
      have HCV := Lib.hid hcv
      have HS : Hid ((ts.take (k + 1)).map (cplAt l) = (ts.take k).map (cplAt l) ++ [x.cpl]) := Lib.hid (by rw [take_snoc HT.out, List.map_append, hcv]; rfl)
      have hlen : ((ts.take k).map (cplAt l)).length = k := by simp; omega
      have kW : Keep (fun b => b < W.heap.size) V2 (V2.drew.alloc (.cells #[.slice A3 x.cpl.length c3] 108)) := (Keep.drew _ _).trans (Keep.alloc _ _ _)
      have hO := Lib.hid ((hownV.drew).alloc (.cells #[.slice A3 x.cpl.length c3] 108))
      have hC : Hid (∀ j u, [Value.slice A3 x.cpl.length c3][j]? = some u → (V2.drew.alloc (.cells #[.slice A3 x.cpl.length c3] 108)).cell? ((⟨V2.heap.size, 0, none⟩ : Addr).add j) = some u) := Lib.hid (cells_new V2.drew #[.slice A3 x.cpl.length c3] _ _ rfl)
      have h1C : Hid (∀ u ∈ [Value.slice A3 x.cpl.length c3], u.oneCell' = true) := Lib.hid (by intro u hu; simp at hu; subst hu; rfl)
      have hRR : Hid (Held (fun b => b < W.heap.size) (lstR x.cpl [.slice A3 x.cpl.length c3]) (V2.drew.alloc (.cells #[.slice A3 x.cpl.length c3] 108))) := Lib.hid ((lstR.mk p2 p4).keep kW)
      have hGG : Hid (∀ b, b < W.heap.size → v.ownBlock ≠ some b) := Lib.hid (fun b hb e => by have := (hown.lt _ e).1; omega)
      have HVB : Hid (∀ g, v.ownBlock = some g → W.heap.size ≤ g) := Lib.hid (fun g e => (hown.lt _ e).1)
      have hvlt : Hid (∀ g, v.ownBlock = some g → g < V2.heap.size) := Lib.hid (fun g e => (hownV.lt _ e).2)
      have HVC := Lib.hid hvc
      have HI : Hid (i < l.length) := Lib.hid hi
      have HK := Lib.hid hlt
      clear hcv hfst hown hownV hx hxn hbv hbv2 bV bw1 hvc q0 q1 q2 q3 qf2 qf3 d0 d1 d2 g1 g2 g4 g5 g0
      go_region_law (refine step_append_one lstR 108 1 W.heap.size 24 (fun b => b < W.heap.size) _ (by rfl) _ _ 111 _ (by rfl) Tryz.underlying111 info108 rfl (by decide) (by decide) v ((ts.take k).map (cplAt l)) (by rfl) hO.out ⟨V2.heap.size, 0, none⟩ 1 (by rfl) x.cpl [.slice A3 x.cpl.length c3] rfl hC.out h1C.out hRR.out hGG.out (by simp; omega) (by rw [hlen]; omega) (V2.heap.size + 1) (by simp) ?_; intro g cap w3 hown1 hgrow hat hlt3; have s2 := (hgrow.cell_far ⟨cp, 2, none⟩ (show cp < _ by simp; omega) (fun e => HVC.out e.symm)).trans (cell_all r2 ((Below.refl _ V2).drew.alloc (Nat.le_refl _) (.cells #[.slice A3 x.cpl.length c3] 108))); have s2f : w3.frozen? ⟨cp, 2, none⟩ = false := (hgrow.frozen_far ⟨cp, 2, none⟩ (show cp < _ by simp; omega) (fun e => HVC.out e.symm)).trans ((World.frozen?_of_block (a := ⟨cp, 2, none⟩) (((Below.refl _ V2).drew.alloc (Nat.le_refl _) (.cells #[.slice A3 x.cpl.length c3] 108)).block cp hcpV)).trans rf2))
      all_goals go_wp2
      all_goals
        have hgc : g ≠ cp := by
          rintro rfl
          rcases hat with e | e
          · exact HVC.out e
          · omega
        have hszw : V2.heap.size < w3.heap.size := by have := hgrow.size; simp at this; omega
        have chs : Chg (fun b => b = cp ∨ v.ownBlock = some b ∨ V2.heap.size ≤ b) V2 (w3.setCell ⟨cp, 2, none⟩ (.slice (some ⟨g, 0, none⟩) (k + 1) cap)) :=
          ((Chg.of (((Below.refl _ V2).drew.alloc (Nat.le_refl _) (.cells #[.slice A3 x.cpl.length c3] 108)))).trans (Chg.grown hgrow fun b e => .inr (.inl e))).trans (Chg.setCell w3 (p := ⟨cp, 2, none⟩) (.inl rfl) _)
        have own2 : Own lstR 108 1 W.heap.size (fun b => b < W.heap.size) (.slice (some ⟨g, 0, none⟩) (k + 1) cap) ((ts.take (k + 1)).map (cplAt l)) (w3.setCell ⟨cp, 2, none⟩ (.slice (some ⟨g, 0, none⟩) (k + 1) cap)) := by
          rw [HS.out]
          have e : ((ts.take k).map (cplAt l)).length + 1 = k + 1 := by rw [hlen]
          rw [e] at hown1
          exact hown1.setCell (p := ⟨cp, 2, none⟩) (fun b hb => by have := HCP.out; show b ≠ cp; omega) (by simp [Value.ownBlock]; exact hgc) _
        have k3 : Keep (fun b => b = cp) V2 w3 := ((Keep.drew _ V2).trans (Keep.alloc _ _ _)).trans (Keep.grown hgrow fun b hb e => HVC.out (by rw [hb] at e; exact e.symm))
        have f3 : w3.frozen? ⟨cp, 3, none⟩ = false := (World.frozen?_of_block (a := ⟨cp, 3, none⟩) (k3.2 cp hcpV rfl)).trans rf3
        have k0 := k3.trans (Keep.refl _ w3)
        have e0 : (w3.setCell ⟨cp, 2, none⟩ (.slice (some ⟨g, 0, none⟩) (k + 1) cap)).cell? ⟨cp, 0, none⟩ = some (.slice (some ⟨bh, offh, none⟩) l.length cH) := (World.cell?_setCell_other _ _ _ _ (by simp)).trans (cell_keep r0 k3 rfl)
        have e1 : (w3.setCell ⟨cp, 2, none⟩ (.slice (some ⟨g, 0, none⟩) (k + 1) cap)).cell? ⟨cp, 1, none⟩ = some (.slice (some ⟨b2, off2, none⟩) ts.length cT) := (World.cell?_setCell_other _ _ _ _ (by simp)).trans (cell_keep r1 k3 rfl)
        have e2 : (w3.setCell ⟨cp, 2, none⟩ (.slice (some ⟨g, 0, none⟩) (k + 1) cap)).cell? ⟨cp, 2, none⟩ = some (.slice (some ⟨g, 0, none⟩) (k + 1) cap) := World.cell?_setCell_same' _ _ _ (by rw [s2]; rfl)
        have e3 : (w3.setCell ⟨cp, 2, none⟩ (.slice (some ⟨g, 0, none⟩) (k + 1) cap)).cell? ⟨cp, 3, none⟩ = some Value.nilFunc := (World.cell?_setCell_other _ _ _ _ (by simp)).trans (cell_keep r3 k3 rfl)
        have bF : Below W.heap.size W (w3.setCell ⟨cp, 2, none⟩ (.slice (some ⟨g, 0, none⟩) (k + 1) cap)) := by
          exact ((bWV2.drew.alloc (by simpa using hsz) _).grown hgrow (by simp; omega) (fun k' e => HVB.out k' e)).setCell (p := ⟨cp, 2, none⟩) (by have := HCP.out; show W.heap.size ≤ cp; omega) _
        refine ⟨⟨k + 1, by have := HK.out; omega, by go_num, _, own2, by simp [Value.ownBlock]; exact hgc, e0, e1, e2, by rw [World.frozen?_setCell]; exact s2f, e3, by rw [World.frozen?_setCell]; exact f3, bF⟩, by simp [intOf]; have := HK.out; omega⟩
    · obtain rfl : k = ts.length := by omega
      have hmf : ∀ (fn : Fn) (first cap : Array Value) (w : World), (Instr.makeFunc fn first cap).run Tryz.prog w = .ok (.func fn first cap) w := fun _ _ _ _ => rfl
      rw [List.take_length] at hown
      obtain ⟨A2, c2, rfl, hc2, hH⟩ := hown.out
      rw [List.length_map] at hown hH hvc q2 hc2
      have HH := Lib.hid hH
      have HV := Lib.hid hvc
      have HO := Lib.hid hown
      clear hH hvc hown
      go_wp2
      go_ret
      have HCP2 := HCP.out
      have k3 : Keep (fun b => b ≠ cp) wr (wr.setCell ⟨cp, 3, none⟩ (.func (.func 55) #[.pointer (some ⟨cp, 0, none⟩)] #[])) := Keep.setCell wr (p := ⟨cp, 3, none⟩) (fun b hb => hb) _
      refine ⟨cp, A2, c2, rfl, hb.setCell (p := ⟨cp, 3, none⟩) (by show W.heap.size ≤ cp; omega) _, by omega, ⟨(World.cell?_setCell_other _ _ _ _ (by simp)).trans q0, (World.cell?_setCell_other _ _ _ _ (by simp)).trans q1⟩, (World.cell?_setCell_other _ _ _ _ (by simp)).trans q2, World.cell?_setCell_same' _ _ _ (by rw [q3]; rfl), ?_⟩
      have hg : (wr.setCell ⟨cp, 3, none⟩ (.func (.func 55) #[.pointer (some ⟨cp, 0, none⟩)] #[])).heap.size = wr.heap.size := by simp [World.setCell]
      refine (HH.out.keep (k3.mono ?_)).mono (fun b hb1 hb2 => by rw [hg] at *; assumption)
      rintro b (hb' | hb') rfl
      · omega
      · exact HV.out hb'
end Go.Proofs.YtepnmejahbiacaaGreat
set_option linter.unusedVariables false
set_option linter.unusedSimpArgs false
namespace Go.Proofs.YtepnmejahbiacaaGreat
open Go.RowKit
theorem tagErr_zero {l : List CI} {t : Tag} : tagErr l t = 0 ↔ tagOk l t = true := by
  unfold tagErr; cases tagOk l t <;> simp
open Classical in
theorem checkAllE_hier {l : List CI} {ms : List Meth} {ts : List Tag} (h : ¬ LookOk l) : checkAllE l ms ts = 80 := by unfold checkAllE; rw [if_pos h]
open Classical in
theorem checkAllE_long {l : List CI} {ms : List Meth} {ts : List Tag} (h : LookOk l) (h2 : 300 < ms.length) : checkAllE l ms ts = 2 := by unfold checkAllE; rw [if_neg (fun q => q h), if_pos h2]
open Classical in
theorem checkAllE_meths {l : List CI} {ms : List Meth} {ts : List Tag} (h : LookOk l) (h2 : ¬ 300 < ms.length) (h3 : AreMs l ms = false ∨ 6 < ts.length ∨ (0 < ms.length ∧ (ms[0]?.map fun m => m.pars.length).getD 0 ≠ ts.length)) : checkAllE l ms ts = 101 := by
  unfold checkAllE; rw [if_neg (fun q => q h), if_neg h2, if_pos h3]
open Classical in
theorem checkAllE_tags {l : List CI} {ms : List Meth} {ts : List Tag} (h : LookOk l) (h2 : ¬ 300 < ms.length) (h3 : ¬ (AreMs l ms = false ∨ 6 < ts.length ∨ (0 < ms.length ∧ (ms[0]?.map fun m => m.pars.length).getD 0 ≠ ts.length))) : checkAllE l ms ts = if ts.all (tagOk l) then 0 else 82 := by
  unfold checkAllE; rw [if_neg (fun q => q h), if_neg h2, if_neg h3]
/-- What fits. -/
theorem checkAllE_zero {l : List CI} {ms : List Meth} {ts : List Tag} (h : checkAllE l ms ts = 0) : LookOk l ∧ ms.length ≤ 300 ∧ AreMs l ms = true ∧ ts.length ≤ 6 ∧ (∀ m ∈ ms, m.pars.length = ts.length) ∧ ∀ t ∈ ts, tagOk l t = true := by
  by_cases h1 : LookOk l
  · by_cases h2 : 300 < ms.length
    · rw [checkAllE_long h1 h2] at h; cases h
    · by_cases h3 : AreMs l ms = false ∨ 6 < ts.length ∨ (0 < ms.length ∧ (ms[0]?.map fun m => m.pars.length).getD 0 ≠ ts.length)
      · rw [checkAllE_meths h1 h2 h3] at h; cases h
      · rw [checkAllE_tags h1 h2 h3] at h
        have h4 : AreMs l ms = true := by
          cases q : AreMs l ms with
          | true => rfl
          | false => exact absurd (.inl q) h3
        have h5 : ¬ 6 < ts.length := fun q => h3 (.inr (.inl q))
        refine ⟨h1, by omega, h4, by omega, fun m hm => ?_, ?_⟩
        · have h6 : (ms[0]?.map fun m => m.pars.length).getD 0 = ts.length := Classical.byContradiction fun q => h3 (.inr (.inr ⟨List.length_pos_of_mem hm, q⟩))
          unfold AreMs at h4
          rw [h6, Bool.and_eq_true] at h4
          have := List.all_eq_true.1 h4.2 m hm
          unfold parsOk at this
          simp only [Bool.and_eq_true, decide_eq_true_eq] at this
          exact this.1.1
        · intro t ht
          cases q : ts.all (tagOk l) with
          | true => exact List.all_eq_true.1 q t ht
          | false => rw [q] at h; simp at h
  · rw [checkAllE_hier h1] at h; cases h
set_option maxHeartbeats 16000000 in
set_option maxRecDepth 100000 in
theorem checkAll_calls (AH : Option Addr) (cH : Nat) (l : List CI) (A : Option Addr) (c : Nat) (ms : List Meth) (AT : Option Addr) (cT : Nat) (ts : List Tag) (W : World) (GH : Nat → Prop) (h : Held GH (CIs AH l) W) (hcH : l.length ≤ cH) (ol : ∀ x ∈ l, ciOk x) (hl : l.length ≤ 1000000)
    (G : Nat → Prop) (hM : Held G (Meths A ms) W) (hn : ms.length ≤ 1000000) (hs : ∀ m ∈ ms, ∀ p ∈ m.pars, TySmall p.type) (hp : ∀ m ∈ ms, m.pars.length ≤ 1000000) (GT : Nat → Prop) (hT : Held GT (Tags AT ts) W) (hts : ts.length ≤ 1000000) :
    Calls Tryz.prog 12 #[.slice AH l.length cH, .slice A ms.length c, .slice AT ts.length cT] W fun e W' => e = .returned (.int .i64 (checkAllE l ms ts)) ∧ Below W.heap.size W W' := by
  have HC := Lib.hid (Check_calls AH cH l W hcH GH h ol hl)
  have HA : Hid (∀ V, Below W.heap.size W V → LookOk l → Calls Tryz.prog 45 #[.slice AH l.length cH, .slice A ms.length c] V fun e W' => e = .returned (.bool (AreMs l ms)) ∧ Below V.heap.size V W') :=
    Lib.hid (fun V hv hL => areMethods_calls AH cH l A c ms V GH (h.keep (Keep.all hv)) hcH ol hl G (hM.keep (Keep.all hv)) hn hL hs hp)
  have HT : Hid (∀ t V, Below W.heap.size W V → LookOk l → Calls Tryz.prog 46 #[.slice AH l.length cH, tagV t] V fun e W' => e = .returned (.int .i64 (tagErr l t)) ∧ Below V.heap.size V W') :=
    Lib.hid (fun t V hv hL => (CheckTag_calls AH cH l t V hcH GH (h.keep (Keep.all hv)) ol hl).mono (by
      rintro e w' ⟨q, (⟨q1, _⟩ | ⟨_, rfl⟩)⟩
      · exact absurd hL q1
      · exact ⟨rfl, q⟩))
  have HM := Lib.hid hM
  clear h ol hM hs hp
  go_enter Tryz.func12, Tryz.ntmps12
  go_wp2_with (fail)
  refine HC.out.mono ?_
  clear HC
  rintro e V ⟨hbv, (⟨hL, rfl⟩ | ⟨hL, rfl⟩)⟩
  · have HL := Lib.hid hL
    clear hL
    by_cases h3 : 300 < ms.length
    · have h3' : (300 : Int) < (ms.length : Int) := by omega
      have HE := Lib.hid (checkAllE_long (ts := ts) HL.out h3)
      go_wp2
      go_ret
      exact ⟨(by rw [HE.out]; try rfl), hbv⟩
    · have h3' : ¬ (300 : Int) < (ms.length : Int) := by omega
      have H3 := Lib.hid h3
      have HAV := Lib.hid (HA.out V hbv HL.out)
      clear h3 HA
      cases ha : AreMs l ms with
      | false =>
        have HE := Lib.hid (checkAllE_meths (ts := ts) HL.out H3.out (.inl ha))
        rw [ha] at HAV
        clear ha
        go_wp2_with (fail)
        refine HAV.out.mono ?_
        clear HAV
        rintro e V2 ⟨rfl, hb2⟩
        go_wp2
        go_ret
        exact ⟨(by rw [HE.out]; try rfl), hbv.trans (hb2.mono hbv.size)⟩
      | true =>
        have HAT := Lib.hid ha
        rw [ha] at HAV
        clear ha
        by_cases h6 : 6 < ts.length
        · have h6' : (6 : Int) < (ts.length : Int) := by omega
          have HE := Lib.hid (checkAllE_meths (ms := ms) HL.out H3.out (.inr (.inl h6)))
          go_wp2_with (fail)
          refine HAV.out.mono ?_
          clear HAV
          rintro e V2 ⟨rfl, hb2⟩
          go_wp2
          go_ret
          exact ⟨(by rw [HE.out]; try rfl), hbv.trans (hb2.mono hbv.size)⟩
        · have h6' : ¬ (6 : Int) < (ts.length : Int) := by omega
          have H6 := Lib.hid h6
          clear h6
          by_cases h0 : 0 < ms.length
          · have h0' : (0 : Int) < (ms.length : Int) := by omega
            obtain ⟨b, off, rfl⟩ := Slc.addrH HM.out h0
            have hx : ms[0]? = some ms[0] := List.getElem?_eq_getElem h0
            generalize ms[0] = m0 at hx
            have HX := Lib.hid hx
            clear hx
            go_wp2_with (fail)
            refine HAV.out.mono ?_
            clear HAV
            rintro e V2 ⟨rfl, hb2⟩
            have bV2 := hbv.trans (hb2.mono hbv.size)
            obtain ⟨B1, d1, B2, d2, _, _, _, _, _, _, q2, _, _, _, _, _⟩ := Meths.atH (HM.out.keep (Keep.all bV2)) HX.out
            rw [Nat.zero_mul, Nat.add_zero] at q2
            by_cases hpl : m0.pars.length = ts.length
            · have t2 : ((m0.pars.length : Int) != (ts.length : Int)) = false := bne_eq_false_iff_eq.2 (by omega)
              have HNE : Hid (checkAllE l ms ts = if ts.all (tagOk l) then 0 else 82) := Lib.hid (checkAllE_tags HL.out H3.out (by
                rintro (q | q | ⟨_, q⟩)
                · rw [HAT.out] at q; cases q
                · exact H6.out q
                · rw [HX.out] at q; exact q hpl))
              clear hpl
              go_wp2_with (fail)
              go_loopw [45] (fun i wr => ∃ k : Nat, k ≤ ts.length ∧ i = .int .i64 k ∧ (∀ (j : Nat) (t : Tag), j < k → ts[j]? = some t → tagOk l t = true) ∧ Below W.heap.size W wr) (fun i _ => ts.length - (intOf i).toNat)
              case atStart => exact ⟨0, Nat.zero_le _, rfl, fun j t hj => absurd hj (by omega), bV2⟩
              case round =>
                obtain ⟨k, hk, rfl, hok, hbr⟩ := hrel
                have HOK := Lib.hid hok
                clear hok
                by_cases hlt : k < ts.length
                · obtain ⟨bt, ot, rfl⟩ := Slc.addrH hT (by omega)
                  have hx : ts[k]? = some ts[k] := List.getElem?_eq_getElem hlt
                  generalize ts[k] = t at hx
                  have HY := Lib.hid hx
                  obtain ⟨d0, d1, d2⟩ := Tags.atH (hT.keep (Keep.all hbr)) hx
                  clear hx
                  have bal : Below W.heap.size W (wr.alloc (.cells #[.int .i64 t.kind, .int .i64 t.num, .string t.name] 39)) := hbr.alloc hbr.size _
                  have HTT := Lib.hid (HT.out t _ bal HL.out)
                  cases hto : tagOk l t with
                  | true =>
                    have hte : tagErr l t = 0 := tagErr_zero.2 hto
                    have HTO := Lib.hid hto
                    rw [hte] at HTT
                    clear hto hte
                    go_wp2_with (fail)
                    refine HTT.out.mono ?_
                    clear HTT
                    rintro e V3 ⟨rfl, hb3⟩
                    go_wp2
                    refine ⟨⟨k + 1, by omega, by go_num, fun j t' hj ht' => ?_, bal.trans (hb3.mono bal.size)⟩, by simp [intOf]; omega⟩
                    rcases Nat.lt_or_ge j k with z | z
                    · exact HOK.out j t' z ht'
                    · obtain rfl : j = k := by omega
                      rw [HY.out] at ht'; cases ht'; exact HTO.out
                  | false =>
                    have hte : tagErr l t = 82 := by unfold tagErr; rw [hto]; rfl
                    have HE : Hid (checkAllE l ms ts = 82) := Lib.hid (by
                      rw [HNE.out]
                      have : ts.all (tagOk l) = false := List.all_eq_false.2 ⟨t, List.mem_of_getElem? HY.out, by rw [hto]; decide⟩
                      rw [this]; rfl)
                    rw [hte] at HTT
                    clear hto hte
                    go_wp2_with (fail)
                    refine HTT.out.mono ?_
                    clear HTT
                    rintro e V3 ⟨rfl, hb3⟩
                    go_wp2
                    go_ret
                    exact ⟨(by rw [HE.out]; try rfl), bal.trans (hb3.mono bal.size)⟩
                · obtain rfl : k = ts.length := by omega
                  have HE : Hid (checkAllE l ms ts = 0) := Lib.hid (by
                    rw [HNE.out]
                    have : ts.all (tagOk l) = true := List.all_eq_true.2 fun t ht => by
                      obtain ⟨j, hj⟩ := List.mem_iff_getElem?.1 ht
                      exact HOK.out j t (List.getElem?_eq_some_iff.1 hj).1 hj
                    rw [this]; rfl)
                  go_wp2
                  go_ret
                  exact ⟨(by rw [HE.out]; try rfl), hbr⟩
            · have t2 : ((m0.pars.length : Int) != (ts.length : Int)) = true := by rw [bne_iff_ne]; omega
              have HE := Lib.hid (checkAllE_meths HL.out H3.out (.inr (.inr ⟨h0, by rw [HX.out]; exact hpl⟩)))
              clear hpl
              go_wp2
              go_ret
              exact ⟨(by rw [HE.out]; try rfl), bV2⟩
          · have h0' : ¬ (0 : Int) < (ms.length : Int) := by omega
            have HNE : Hid (checkAllE l ms ts = if ts.all (tagOk l) then 0 else 82) := Lib.hid (checkAllE_tags HL.out H3.out (by
              rintro (q | q | ⟨q, _⟩)
              · rw [HAT.out] at q; cases q
              · exact H6.out q
              · exact h0 q))
            go_wp2_with (fail)
            refine HAV.out.mono ?_
            clear HAV
            rintro e V2 ⟨rfl, hb2⟩
            have bV2 := hbv.trans (hb2.mono hbv.size)
            go_wp2_with (fail)
            go_loopw [45] (fun i wr => ∃ k : Nat, k ≤ ts.length ∧ i = .int .i64 k ∧ (∀ (j : Nat) (t : Tag), j < k → ts[j]? = some t → tagOk l t = true) ∧ Below W.heap.size W wr) (fun i _ => ts.length - (intOf i).toNat)
            case atStart => exact ⟨0, Nat.zero_le _, rfl, fun j t hj => absurd hj (by omega), bV2⟩
            case round =>
              obtain ⟨k, hk, rfl, hok, hbr⟩ := hrel
              have HOK := Lib.hid hok
              clear hok
              by_cases hlt : k < ts.length
              · obtain ⟨bt, ot, rfl⟩ := Slc.addrH hT (by omega)
                have hx : ts[k]? = some ts[k] := List.getElem?_eq_getElem hlt
                generalize ts[k] = t at hx
                have HY := Lib.hid hx
                obtain ⟨d0, d1, d2⟩ := Tags.atH (hT.keep (Keep.all hbr)) hx
                clear hx
                have bal : Below W.heap.size W (wr.alloc (.cells #[.int .i64 t.kind, .int .i64 t.num, .string t.name] 39)) := hbr.alloc hbr.size _
                have HTT := Lib.hid (HT.out t _ bal HL.out)
                cases hto : tagOk l t with
                | true =>
                  have hte : tagErr l t = 0 := tagErr_zero.2 hto
                  have HTO := Lib.hid hto
                  rw [hte] at HTT
                  clear hto hte
                  go_wp2_with (fail)
                  refine HTT.out.mono ?_
                  clear HTT
                  rintro e V3 ⟨rfl, hb3⟩
                  go_wp2
                  refine ⟨⟨k + 1, by omega, by go_num, fun j t' hj ht' => ?_, bal.trans (hb3.mono bal.size)⟩, by simp [intOf]; omega⟩
                  rcases Nat.lt_or_ge j k with z | z
                  · exact HOK.out j t' z ht'
                  · obtain rfl : j = k := by omega
                    rw [HY.out] at ht'; cases ht'; exact HTO.out
                | false =>
                  have hte : tagErr l t = 82 := by unfold tagErr; rw [hto]; rfl
                  have HE : Hid (checkAllE l ms ts = 82) := Lib.hid (by
                    rw [HNE.out]
                    have : ts.all (tagOk l) = false := List.all_eq_false.2 ⟨t, List.mem_of_getElem? HY.out, by rw [hto]; decide⟩
                    rw [this]; rfl)
                  rw [hte] at HTT
                  clear hto hte
                  go_wp2_with (fail)
                  refine HTT.out.mono ?_
                  clear HTT
                  rintro e V3 ⟨rfl, hb3⟩
                  go_wp2
                  go_ret
                  exact ⟨(by rw [HE.out]; try rfl), bal.trans (hb3.mono bal.size)⟩
              · obtain rfl : k = ts.length := by omega
                have HE : Hid (checkAllE l ms ts = 0) := Lib.hid (by
                  rw [HNE.out]
                  have : ts.all (tagOk l) = true := List.all_eq_true.2 fun t ht => by
                    obtain ⟨j, hj⟩ := List.mem_iff_getElem?.1 ht
                    exact HOK.out j t (List.getElem?_eq_some_iff.1 hj).1 hj
                  rw [this]; rfl)
                go_wp2
                go_ret
                exact ⟨(by rw [HE.out]; try rfl), hbr⟩
  · have HE := Lib.hid (checkAllE_hier (ms := ms) (ts := ts) hL)
    clear hL
    go_wp2
    go_ret
    exact ⟨(by rw [HE.out]; try rfl), hbv⟩
end Go.Proofs.YtepnmejahbiacaaGreat
