/- methods.opened. -/
import Derived.Test.YtepnmejahbiacaaPs
import Derived.Test.YtepnmejahbiacaaCa
import Derived.Test.YtepnmejahbiacaaHa
import Derived.Test.YtepnmejahbiacaaAd
import Derived.Deep.RegionLaw
import Derived.Laws.EntriesVeiled
set_option linter.unusedVariables false
set_option linter.unusedSimpArgs false
namespace Go.Proofs.Ytepnmejahbiacaa
open Go.RowKit

set_option maxHeartbeats 8000000 in
set_option maxRecDepth 100000 in
theorem opened_calls (AH : Option Addr) (cH : Nat) (l : List CI) (AT : Option Addr) (cT : Nat) (ts : List Tag) (W : World) (GH : Nat → Prop) (h : Held GH (CIs AH l) W) (hcH : l.length ≤ cH) (ol : ∀ x ∈ l, ciOk x) (hl : l.length ≤ 1000000)
    (GT : Nat → Prop) (hT : Held GT (Tags AT ts) W) (hn : ts.length ≤ 1000000) (hL : LookOk l) (htg : ∀ t ∈ ts, tagOk l t = true) :
    Calls Try.prog 46 #[.slice AH l.length cH, .slice AT ts.length cT] W fun e W' => ∃ cp A2 c2, e = .returned (.pointer (some ⟨cp, 0, none⟩)) ∧ Below W.heap.size W W' ∧ W.heap.size ≤ cp ∧ CallAt cp AH cH l AT cT ts W' ∧
      W'.cell? ⟨cp, 2, none⟩ = some (.slice A2 ts.length c2) ∧ W'.cell? ⟨cp, 3, none⟩ = some (.func (.func 47) #[.pointer (some ⟨cp, 0, none⟩)] #[]) ∧ Held (fun b => b < W'.heap.size) (Lsts A2 (ts.map (cplAt l))) W' := by
  go_enter Try.func46, Try.ntmps46
  go_wp2
  obtain ⟨cp, hcp⟩ : ∃ cp, cp = W.heap.size := ⟨_, rfl⟩
  rw [← hcp]
  obtain ⟨W1, hW1⟩ : ∃ W1, W1 = W.alloc (.cells #[.slice AH l.length cH, .slice AT ts.length cT, .slice none 0 0, Value.nilFunc] 115) := ⟨_, rfl⟩
  rw [← hW1]
  have b1 : Below W.heap.size W W1 := by rw [hW1]; exact (Below.refl _ W).alloc (Nat.le_refl _) _
  have x0 : ∀ j u, [Value.slice AH l.length cH, .slice AT ts.length cT, .slice none 0 0, Value.nilFunc][j]? = some u → W1.cell? ⟨cp, j, none⟩ = some u ∧ W1.frozen? ⟨cp, j, none⟩ = false := fun j u hj => by
    rw [hW1]; exact ⟨cell_new W _ _ _ hcp j u hj, by subst hcp; unfold World.frozen?; rw [heap_alloc_new]; simp⟩
  have HCP := Lib.hid hcp
  clear hW1 hcp
  go_loopw [16] (fun i wr => ∃ k : Nat, k ≤ ts.length ∧ i = .int .i64 k ∧ ∃ v, Own lstR 23 1 W.heap.size (fun b => b < W.heap.size) v ((ts.take k).map (cplAt l)) wr ∧ v.ownBlock ≠ some cp ∧
    wr.cell? ⟨cp, 0, none⟩ = some (.slice AH l.length cH) ∧ wr.cell? ⟨cp, 1, none⟩ = some (.slice AT ts.length cT) ∧ wr.cell? ⟨cp, 2, none⟩ = some v ∧ wr.frozen? ⟨cp, 2, none⟩ = false ∧ wr.cell? ⟨cp, 3, none⟩ = some Value.nilFunc ∧ wr.frozen? ⟨cp, 3, none⟩ = false ∧ Below W.heap.size W wr) (fun i _ => ts.length - (intOf i).toNat)
  case atStart => exact ⟨0, Nat.zero_le _, rfl, _, Own.nil _ _ _ _ _ _, by simp [Value.ownBlock], (x0 0 _ rfl).1, (x0 1 _ rfl).1, (x0 2 _ rfl).1, (x0 2 _ rfl).2, (x0 3 _ rfl).1, (x0 3 _ rfl).2, b1⟩
  case round =>
    obtain ⟨k, hk, rfl, v, hown, hvc, q0, q1, q2, qf2, q3, qf3, hb⟩ := hrel
    by_cases hlt : k < ts.length
    · obtain ⟨b2, off2, rfl⟩ := Slc.addrH hT (by omega)
      have ht : ts[k]? = some ts[k] := List.getElem?_eq_getElem hlt
      generalize ts[k] = t at ht
      have HT := Lib.hid ht
      have HTG := Lib.hid (htg t (List.mem_of_getElem? ht))
      obtain ⟨d0, d1, d2⟩ := Tags.atH (hT.keep (Keep.all hb)) ht
      clear ht
      have HCO := Lib.hid (fun V (hv : Below wr.heap.size wr V) => ClassOf_calls AH cH l t V hcH GH ((h.keep (Keep.all hb)).keep (Keep.all hv)) ol hl)
      have bw1 : Below wr.heap.size wr (wr.alloc (.cells #[.int .i64 t.kind, .int .i64 t.num, .string t.name] 25)) := (Below.refl _ wr).alloc (Nat.le_refl _) _
      go_wp2_with (fail)
      refine (HCO.out _ bw1).mono ?_
      clear HCO
      rintro e V ⟨hbv, hcase⟩
      have e1 : e = .returned (.string (classOfB t)) := by
        rcases hcase with q | q
        · exact q.2
        · exact absurd ⟨hL, HTG.out⟩ q.1
      subst e1
      clear hcase
      have bV : Below wr.heap.size wr V := bw1.trans (hbv.mono bw1.size)
      have bWV := hb.trans (bV.mono hb.size)
      have HPL := Lib.hid (fun V' (hv : Below V.heap.size V V') (hs : V'.cell? ⟨V.heap.size, 0, none⟩ = some (.string (classOfB t))) => place_calls AH cH l (classOfB t) V.heap.size V' hs GH ((h.keep (Keep.all bWV)).keep (Keep.all hv)) hl)
      go_wp2_with (fail)
      refine (HPL.out _ ((Below.refl _ V).alloc (Nat.le_refl _) _) (cell_new V _ _ _ rfl 0 _ rfl)).mono ?_
      clear HPL
      rintro e V2 (⟨rfl, hbv2, hno⟩ | ⟨i, hi, rfl, hbv2, hfst, x, hx, hxn⟩ | ⟨_, _, hf⟩)
      · exfalso
        obtain ⟨x, hx, e⟩ := classOf_in hL HTG.out
        obtain ⟨j, hj⟩ := List.mem_iff_getElem?.1 hx
        exact hno j x (List.getElem?_eq_some_iff.1 hj).1 hj e
      rotate_left
      · exact hf.elim
      go_wp2_with (fail)
      have bV2 : Below wr.heap.size wr V2 := (bV.alloc bV.size _).trans (hbv2.mono (by have := bV.size; simp; omega))
      have r0 := cell_all q0 bV2
      have r1 := cell_all q1 bV2
      have r2 := cell_all q2 bV2
      have r3 := cell_all q3 bV2
      have hownV := hown.all bV2
      have bWV2 := hb.trans (bV2.mono hb.size)
      obtain ⟨bh, offh, rfl⟩ := Slc.addrH h (by omega)
      obtain ⟨A2, c2, A3, c3, p1, p2, p3, p4, g0, g1, g2, g3, g4, g5⟩ := CIs.atH (h.here.keep (Keep.below bWV2)) hx
      have hcpV : cp < V2.heap.size := cell_lt r0
      have hbhV : bh < V2.heap.size := cell_lt g0
      have hsz := bWV2.size
      have rf2 : V2.frozen? ⟨cp, 2, none⟩ = false := (World.frozen?_of_block (a := ⟨cp, 2, none⟩) (bV2.block cp (cell_lt q0))).trans qf2
      have rf3 : V2.frozen? ⟨cp, 3, none⟩ = false := (World.frozen?_of_block (a := ⟨cp, 3, none⟩) (bV2.block cp (cell_lt q0))).trans qf3
      have hcv : x.cpl = cplAt l t := by
        unfold cplAt
        have hf : l.find? (fun x => decide (x.name = classOfB t)) = some x := by
          rw [List.find?_eq_some_iff_getElem]
          obtain ⟨hi', hx'⟩ := List.getElem?_eq_some_iff.1 hx
          refine ⟨by simpa using hxn, i, hi', hx', fun j hj => ?_⟩
          have := hfst j _ hj (List.getElem?_eq_getElem (by omega))
          simpa using this
        rw [hf]; rfl
      have HCV := Lib.hid hcv
      have HS : Hid ((ts.take (k + 1)).map (cplAt l) = (ts.take k).map (cplAt l) ++ [x.cpl]) := Lib.hid (by rw [take_snoc HT.out, List.map_append, hcv]; rfl)
      have hlen : ((ts.take k).map (cplAt l)).length = k := by simp; omega
      have kW : Keep (fun b => b < W.heap.size) V2 (V2.drew.alloc (.cells #[.slice A3 x.cpl.length c3] 23)) := (Keep.drew _ _).trans (Keep.alloc _ _ _)
      have hO := Lib.hid ((hownV.drew).alloc (.cells #[.slice A3 x.cpl.length c3] 23))
      have hC : Hid (∀ j u, [Value.slice A3 x.cpl.length c3][j]? = some u → (V2.drew.alloc (.cells #[.slice A3 x.cpl.length c3] 23)).cell? ((⟨V2.heap.size, 0, none⟩ : Addr).add j) = some u) := Lib.hid (cells_new V2.drew #[.slice A3 x.cpl.length c3] _ _ rfl)
      have h1C : Hid (∀ u ∈ [Value.slice A3 x.cpl.length c3], u.oneCell' = true) := Lib.hid (by intro u hu; simp at hu; subst hu; rfl)
      have hRR : Hid (Held (fun b => b < W.heap.size) (lstR x.cpl [.slice A3 x.cpl.length c3]) (V2.drew.alloc (.cells #[.slice A3 x.cpl.length c3] 23))) := Lib.hid ((lstR.mk p2 p4).keep kW)
      have hGG : Hid (∀ b, b < W.heap.size → v.ownBlock ≠ some b) := Lib.hid (fun b hb e => by have := (hown.lt _ e).1; omega)
      have HVB : Hid (∀ g, v.ownBlock = some g → W.heap.size ≤ g) := Lib.hid (fun g e => (hown.lt _ e).1)
      have hvlt : Hid (∀ g, v.ownBlock = some g → g < V2.heap.size) := Lib.hid (fun g e => (hownV.lt _ e).2)
      have HVC := Lib.hid hvc
      have HI : Hid (i < l.length) := Lib.hid hi
      have HK := Lib.hid hlt
      clear hcv hfst hown hownV hx hxn hbv hbv2 bV bw1 hvc q0 q1 q2 q3 qf2 qf3 d0 d1 d2 g1 g2 g4 g5 g0
      go_region_law (refine step_append_one lstR 23 1 W.heap.size 24 (fun b => b < W.heap.size) _ (by rfl) _ _ 100 _ (by rfl) Try.underlying100 info23 rfl (by decide) (by decide) v ((ts.take k).map (cplAt l)) (by rfl) hO.out ⟨V2.heap.size, 0, none⟩ 1 (by rfl) x.cpl [.slice A3 x.cpl.length c3] rfl hC.out h1C.out hRR.out hGG.out (by simp; omega) (by rw [hlen]; omega) (V2.heap.size + 1) (by simp) ?_; intro g cap w3 hown1 hgrow hat hlt3; have s2 := (hgrow.cell_far ⟨cp, 2, none⟩ (show cp < _ by simp; omega) (fun e => HVC.out e.symm)).trans (cell_all r2 ((Below.refl _ V2).drew.alloc (Nat.le_refl _) (.cells #[.slice A3 x.cpl.length c3] 23))); have s2f : w3.frozen? ⟨cp, 2, none⟩ = false := (hgrow.frozen_far ⟨cp, 2, none⟩ (show cp < _ by simp; omega) (fun e => HVC.out e.symm)).trans ((World.frozen?_of_block (a := ⟨cp, 2, none⟩) (((Below.refl _ V2).drew.alloc (Nat.le_refl _) (.cells #[.slice A3 x.cpl.length c3] 23)).block cp hcpV)).trans rf2))
      all_goals go_wp2
      all_goals
        have hgc : g ≠ cp := by
          rintro rfl
          rcases hat with e | e
          · exact HVC.out e
          · omega
        have hszw : V2.heap.size < w3.heap.size := by have := hgrow.size; simp at this; omega
        have chs : Chg (fun b => b = cp ∨ v.ownBlock = some b ∨ V2.heap.size ≤ b) V2 (w3.setCell ⟨cp, 2, none⟩ (.slice (some ⟨g, 0, none⟩) (k + 1) cap)) :=
          ((Chg.of (((Below.refl _ V2).drew.alloc (Nat.le_refl _) (.cells #[.slice A3 x.cpl.length c3] 23)))).trans (Chg.grown hgrow fun b e => .inr (.inl e))).trans (Chg.setCell w3 (p := ⟨cp, 2, none⟩) (.inl rfl) _)
        have own2 : Own lstR 23 1 W.heap.size (fun b => b < W.heap.size) (.slice (some ⟨g, 0, none⟩) (k + 1) cap) ((ts.take (k + 1)).map (cplAt l)) (w3.setCell ⟨cp, 2, none⟩ (.slice (some ⟨g, 0, none⟩) (k + 1) cap)) := by
          rw [HS.out]
          have e : ((ts.take k).map (cplAt l)).length + 1 = k + 1 := by rw [hlen]
          rw [e] at hown1
          exact hown1.setCell (p := ⟨cp, 2, none⟩) (fun b hb => by have := HCP.out; show b ≠ cp; omega) (by simp [Value.ownBlock]; exact hgc) _
        have k3 : Keep (fun b => b = cp) V2 w3 := ((Keep.drew _ V2).trans (Keep.alloc _ _ _)).trans (Keep.grown hgrow fun b hb e => HVC.out (by rw [hb] at e; exact e.symm))
        have f3 : w3.frozen? ⟨cp, 3, none⟩ = false := (World.frozen?_of_block (a := ⟨cp, 3, none⟩) (k3.2 cp hcpV rfl)).trans rf3
        have k0 := k3.trans (Keep.refl _ w3)
        have e0 : (w3.setCell ⟨cp, 2, none⟩ (.slice (some ⟨g, 0, none⟩) (k + 1) cap)).cell? ⟨cp, 0, none⟩ = some (.slice (some ⟨bh, offh, none⟩) l.length cH) := (World.cell?_setCell_other _ _ _ _ (by simp)).trans (cell_keep r0 k3 rfl)
        have e1 : (w3.setCell ⟨cp, 2, none⟩ (.slice (some ⟨g, 0, none⟩) (k + 1) cap)).cell? ⟨cp, 1, none⟩ = some (.slice (some ⟨b2, off2, none⟩) ts.length cT) := (World.cell?_setCell_other _ _ _ _ (by simp)).trans (cell_keep r1 k3 rfl)
        have e2 : (w3.setCell ⟨cp, 2, none⟩ (.slice (some ⟨g, 0, none⟩) (k + 1) cap)).cell? ⟨cp, 2, none⟩ = some (.slice (some ⟨g, 0, none⟩) (k + 1) cap) := World.cell?_setCell_same' _ _ _ (by rw [s2]; rfl)
        have e3 : (w3.setCell ⟨cp, 2, none⟩ (.slice (some ⟨g, 0, none⟩) (k + 1) cap)).cell? ⟨cp, 3, none⟩ = some Value.nilFunc := (World.cell?_setCell_other _ _ _ _ (by simp)).trans (cell_keep r3 k3 rfl)
        have bF : Below W.heap.size W (w3.setCell ⟨cp, 2, none⟩ (.slice (some ⟨g, 0, none⟩) (k + 1) cap)) := by
          exact ((bWV2.drew.alloc (by simpa using hsz) _).grown hgrow (by simp; omega) (fun k' e => HVB.out k' e)).setCell (p := ⟨cp, 2, none⟩) (by have := HCP.out; show W.heap.size ≤ cp; omega) _
        refine ⟨⟨k + 1, by have := HK.out; omega, by go_num, _, own2, by simp [Value.ownBlock]; exact hgc, e0, e1, e2, by rw [World.frozen?_setCell]; exact s2f, e3, by rw [World.frozen?_setCell]; exact f3, bF⟩, by simp [intOf]; have := HK.out; omega⟩
    · obtain rfl : k = ts.length := by omega
      have hmf : ∀ (fn : Fn) (first cap : Array Value) (w : World), (Instr.makeFunc fn first cap).run Try.prog w = .ok (.func fn first cap) w := fun _ _ _ _ => rfl
      rw [List.take_length] at hown
      obtain ⟨A2, c2, rfl, hc2, hH⟩ := hown.out
      rw [List.length_map] at hown hH hvc q2 hc2
      have HH := Lib.hid hH
      have HV := Lib.hid hvc
      have HO := Lib.hid hown
      clear hH hvc hown
      go_wp2
      go_ret
      have HCP2 := HCP.out
      have k3 : Keep (fun b => b ≠ cp) wr (wr.setCell ⟨cp, 3, none⟩ (.func (.func 47) #[.pointer (some ⟨cp, 0, none⟩)] #[])) := Keep.setCell wr (p := ⟨cp, 3, none⟩) (fun b hb => hb) _
      refine ⟨cp, A2, c2, rfl, hb.setCell (p := ⟨cp, 3, none⟩) (by show W.heap.size ≤ cp; omega) _, by omega, ⟨(World.cell?_setCell_other _ _ _ _ (by simp)).trans q0, (World.cell?_setCell_other _ _ _ _ (by simp)).trans q1⟩, (World.cell?_setCell_other _ _ _ _ (by simp)).trans q2, World.cell?_setCell_same' _ _ _ (by rw [q3]; rfl), ?_⟩
      have hg : (wr.setCell ⟨cp, 3, none⟩ (.func (.func 47) #[.pointer (some ⟨cp, 0, none⟩)] #[])).heap.size = wr.heap.size := by simp [World.setCell]
      refine (HH.out.keep (k3.mono ?_)).mono (fun b hb1 hb2 => by rw [hg] at *; assumption)
      rintro b (hb' | hb') rfl
      · omega
      · exact HV.out hb'
end Go.Proofs.Ytepnmejahbiacaa
