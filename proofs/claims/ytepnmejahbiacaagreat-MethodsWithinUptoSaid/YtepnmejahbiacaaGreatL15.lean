/- Part 15 of the proof: C3j, Lk, Tg. -/
import Derived.Test.YtepnmejahbiacaaGreatL04
import Derived.Test.YtepnmejahbiacaaGreatL07
import Derived.Test.YtepnmejahbiacaaGreatL12
import Derived.Test.YtepnmejahbiacaaGreatL13
import Derived.Test.YtepnmejahbiacaaGreatL14
import Derived.Test.YtepnmejahbiacaaGreatL06
import Derived.Test.YtepnmejahbiacaaGreatL09
import Derived.Test.YtepnmejahbiacaaGreatL03
import Derived.Test.YtepnmejahbiacaaGreatL01
import Derived.BigQuiet
import Derived.Carry
import Derived.Deep.Draws
import Derived.Deep.LoopGhost
import Derived.Deep.QuietTactic
import Derived.KernelRfl
import Derived.Lib.Hide
import Derived.LoopIn
import Derived.LoopNIn
import Derived.Maps.AppendAt
import Derived.Maps.Own
import Derived.Maps.OwnIn
import Derived.Outline
import Derived.OwnWalkIn
import Derived.RangeFuncBound
import Derived.RangeFuncCalls
import Derived.RangeFuncLeaves
import Derived.RangeFuncNested
import Derived.StillTailTactics
import Derived.Stop.RegionWithIn
import Derived.TacticsInMore
import Derived.Test.YtepnmejahbiacaaGreatProg
import Derived.WalkKit
import Derived.WalkSpells
import Derived.Recover
import Derived.Test.YtepnmejahbiacaaGreatL05
set_option linter.unusedVariables false
set_option linter.unusedSimpArgs false
namespace Go.Proofs.YtepnmejahbiacaaGreat
open Go.RowKit
set_option maxHeartbeats 4000000 in
set_option maxRecDepth 100000 in
theorem caught_calls (eb : Nat) (j : Int) (w : World) (v0 : Value) (hc : w.cell? ⟨eb, 0, none⟩ = some v0) (hf : w.frozen? ⟨eb, 0, none⟩ = false) :
    CallsD Tryz.prog 168 #[.pointer (some ⟨eb, 0, none⟩)] (.panicking [{ v := .iface 229 (.agg #[.int .i64 j]), recovered := false }]) w fun e u' w' =>
      e = .returned (.tuple #[]) ∧ u' = .panicking [{ v := .iface 229 (.agg #[.int .i64 j]), recovered := true }] ∧ Chg (fun b => b = eb) w w' ∧ w'.cell? ⟨eb, 0, none⟩ = some (.int .i64 71) := by
  have hta : ∀ w, (Instr.typeAssert (.iface 229 (.agg #[.int .i64 j])) 20 229 true).run Tryz.prog w = .ok (.tuple #[.agg #[.int .i64 j], .bool true]) w := fun w => by kernel_rfl
  have hc' : ∀ cs T, (w.alloc (.cells cs T)).cell? ⟨eb, 0, none⟩ = some v0 := fun _ _ => alloc_cell hc
  have hf' : ∀ cs T, (w.alloc (.cells cs T)).frozen? ⟨eb, 0, none⟩ = false := fun _ _ => alloc_frozen hc hf
  refine callsD_of_wpS Tryz.func168 rfl fun c₀ cs hu => ?_
  apply wpS_seq
  apply wpS_region
  simp [wpOpsS, go_sem, recoverD, hu, Tryz.ntmps168, Exit.thenS, Array.replicate]
  refine wpS_of_wp ?_
  go_wp2
  refine ⟨rfl, _, rfl, _, results_none rfl _ _ _, rfl, rfl, (Chg.alloc _ _).trans (Chg.setCell (S := fun b => b = eb) _ rfl _), World.cell?_setCell_same' _ _ _ (by rw [hc']; rfl)⟩
theorem caught_idle (eb : Nat) (w : World) :
    CallsD Tryz.prog 168 #[.pointer (some ⟨eb, 0, none⟩)] .returning w fun e u' w' => e = .returned (.tuple #[]) ∧ u' = .returning ∧ w' = w := by
  refine callsD_of_wpS Tryz.func168 rfl fun c₀ cs hu => ?_
  apply wpS_seq
  apply wpS_region
  simp [wpOpsS, go_sem, recoverD, hu, Tryz.ntmps168, Exit.thenS, Array.replicate]
  refine wpS_of_wp ?_
  go_wp2
  refine ⟨rfl, _, ?_, _, results_none rfl _ _ _, rfl, rfl, rfl⟩
  cases c₀
  simp_all
/-- What trying a line comes to. -/
def TriedPost (hp M1 M2 : Nat) (A : Option Addr) (c : Nat) (g : List Heir) (B : Nat → Prop) (i : Nat) (w : World) (e : Ending) (w' : World) : Prop :=
  Chg (fun b => b = M2) w w' ∧
  ((∃ x A' c', line g i = some x ∧ e = .returned (.tuple #[.slice A' x.length c', .int .i64 0]) ∧ x.length ≤ c' ∧ Held (fun b => ¬ B b ∧ b ≠ M2) (Strs A' x) w' ∧ TreeInv hp M1 M2 A c g B w') ∨
   (line g i = none ∧ e = .returned (.tuple #[.slice none 0 0, .int .i64 71])))
set_option maxHeartbeats 4000000 in
set_option maxRecDepth 100000 in
theorem tried_calls (hp M1 M2 : Nat) (A : Option Addr) (c : Nat) (g : List Heir) (hck : c3Check g = 0) (i : Nat) (hi : i < g.length) (B : Nat → Prop) (w : World) (hB : ∀ b, B b → b < w.heap.size) (hT : TreeInv hp M1 M2 A c g B w) :
    Calls Tryz.prog 160 #[.pointer (some ⟨hp, 0, none⟩), .int .i64 (i : Int)] w (TriedPost hp M1 M2 A c g B i w) := by
  have hb0 : Below w.heap.size w (w.alloc (.cells #[.int .i64 0] 28)) := (Below.refl _ w).alloc (Nat.le_refl _) _
  have hT0 : TreeInv hp M1 M2 A c g (fun b => B b ∨ b = w.heap.size) _ := hT.others (Chg.of hb0) (fun b _ h => by rcases h with h | h; exact .inl h; exact .inr (by omega))
  have hM2 : M2 < w.heap.size := by obtain ⟨_, tr, _⟩ := hT.tr; exact tr.ln.lt
  have HL := Lib.hid (line_calls hp M1 M2 A c g hck i hi _ _ (fun b hb => by rcases hb with hb | hb; (have := hB b hb; simp; omega); (simp; omega)) hT0)
  clear hT hck
  go_enter_defers Tryz.func160, Tryz.ntmps160
  go_wp2_with (fail)
  refine HL.out.mono ?_
  have e0 : (w.alloc (.cells #[.int .i64 0] 28)).cell? ⟨w.heap.size, 0, none⟩ = some (.int .i64 0) := cell_new w _ _ _ rfl 0 _ rfl
  have f0 : (w.alloc (.cells #[.int .i64 0] 28)).frozen? ⟨w.heap.size, 0, none⟩ = false := by unfold World.frozen?; rw [heap_alloc_new]; rfl
  have hsz : (w.alloc (.cells #[.int .i64 0] 28)).heap.size = w.heap.size + 1 := by simp
  rintro e W1 ⟨hch, (⟨x, A', c', q1, rfl, q2, q3, q4⟩ | ⟨q1, ch, rfl, q2⟩)⟩
  · have hbk := hch.block w.heap.size (by omega) (by omega)
    have e1 : W1.cell? ⟨w.heap.size, 0, none⟩ = some (.int .i64 0) := (World.cell?_of_block (a := ⟨w.heap.size, 0, none⟩) hbk).trans e0
    have f1 : W1.frozen? ⟨w.heap.size, 0, none⟩ = false := (World.frozen?_of_block (a := ⟨w.heap.size, 0, none⟩) hbk).trans f0
    go_wp2
    refine leaves_cons (f := 168) (args := #[.pointer (some ⟨w.heap.size, 0, none⟩)]) (by simp) (by kernel_rfl) ?_
    refine (caught_idle w.heap.size _).mono ?_
    rintro e u' w'' ⟨rfl, rfl, rfl⟩
    have e2 : (W1.setCell ⟨w.heap.size, 0, none⟩ (.int .i64 0)).cell? ⟨w.heap.size, 0, none⟩ = some (.int .i64 0) := World.cell?_setCell_same' _ _ _ (by rw [e1]; rfl)
    have cs := Chg.setCell (S := fun b => B b ∨ b = w.heap.size) W1 (p := ⟨w.heap.size, 0, none⟩) (.inr rfl) (.int .i64 0)
    have cq : Chg (fun b => b = M2) w (W1.setCell ⟨w.heap.size, 0, none⟩ (.int .i64 0)) := (((Chg.of hb0).trans (hch.mono (S' := fun b => b = M2 ∨ b = w.heap.size) fun b _ h => .inl h)).trans (Chg.setCell (S := fun b => b = M2 ∨ b = w.heap.size) W1 (p := ⟨w.heap.size, 0, none⟩) (.inr rfl) (.int .i64 0))).mono fun b hb h => by rcases h with h | h; exact h; omega
    refine ⟨.tuple #[.slice A' x.length c', .int .i64 0], ?_, cq, .inl ⟨x, A', c', q1, rfl, q2, ?_, ?_⟩⟩
    · simp [results, Tryz.results160, go_sem, e2]
    · exact (q3.keep (cs.keep fun b h => h.1)).mono fun b _ h => ⟨fun q => h.1 (.inl q), h.2⟩
    · exact (q4.others cs (B' := fun b => B b ∨ b = w.heap.size) fun b _ h => .inl h).fewer fun b h => .inl h
  · obtain ⟨j, rfl⟩ := q2
    have hbk := hch.block w.heap.size (by omega) (by omega)
    have e1 : W1.cell? ⟨w.heap.size, 0, none⟩ = some (.int .i64 0) := (World.cell?_of_block (a := ⟨w.heap.size, 0, none⟩) hbk).trans e0
    have f1 : W1.frozen? ⟨w.heap.size, 0, none⟩ = false := (World.frozen?_of_block (a := ⟨w.heap.size, 0, none⟩) hbk).trans f0
    refine leaves_cons (f := 168) (args := #[.pointer (some ⟨w.heap.size, 0, none⟩)]) (by simp) (by kernel_rfl) ?_
    refine (caught_calls w.heap.size j _ _ e1 f1).mono ?_
    rintro e u' w'' ⟨rfl, rfl, h1, h2⟩
    refine ⟨.tuple #[.slice none 0 0, .int .i64 71], ?_, ?_, .inr ⟨q1, rfl⟩⟩
    · simp [results, Tryz.results160, go_sem, h2]
    · exact (((Chg.of hb0).trans (hch.mono (S' := fun b => b = M2 ∨ b = w.heap.size) fun b _ h => .inl h)).trans (h1.mono (S' := fun b => b = M2 ∨ b = w.heap.size) fun b _ h => .inr h)).mono fun b hb h => by rcases h with h | h; exact h; omega
end Go.Proofs.YtepnmejahbiacaaGreat
namespace Go.Proofs.YtepnmejahbiacaaGreat
open Go.RowKit
/-- What c3.All comes to. -/
def allPost (T : Nat) (g : List Heir) (w : World) (e : Ending) (w' : World) : Prop :=
  Below w.heap.size w w' ∧
  ((c3Check g ≠ 0 ∧ e = .returned (.tuple #[.slice none 0 0, .int .i64 0, .int .i64 (c3Check g)])) ∨
   (c3Check g = 0 ∧ ∃ i, i < g.length ∧ (∀ j, j < i → (line g j).isSome = true) ∧ line g i = none ∧ e = .returned (.tuple #[.slice none 0 0, .int .i64 (i : Int), .int .i64 71])) ∨
   (c3Check g = 0 ∧ ∃ ls v S, ls.length = g.length ∧ (∀ (i : Nat) (x : List ByteArray), ls[i]? = some x → line g i = some x) ∧ e = .returned (.tuple #[v, .int .i64 0, .int .i64 0]) ∧ Own lstR T 1 w.heap.size S v ls w' ∧ ∀ b, S b → w.heap.size ≤ b))
theorem OwnStr.pure {T base : Nat} {G G' : Nat → Prop} {v : Value} {l : List ByteArray} {w : World} (h : Own strR T 1 base G v l w) : Own strR T 1 base G' v l w := by
  obtain ⟨xs, h1, h2⟩ := h
  exact ⟨xs, h1, h2.imp fun _ _ hx => fun _ _ => hx.now⟩
set_option maxHeartbeats 8000000 in
set_option maxRecDepth 100000 in
theorem all_calls (A : Option Addr) (c : Nat) (g : List Heir) (w : World) (h : Heirs A g w) (hl : g.length ≤ 1000000) (hgs : ∀ x ∈ g, x.supers.length ≤ 1000000) :
    Calls Tryz.prog 107 #[.slice A g.length c] w (allPost 108 g w) := by
  have H := (Slc.stable heirR_stable h).here
  have HO := Lib.hid (c3open_calls A c g ⟨#[]⟩ w h hl hgs)
  clear h
  go_enter Tryz.func107, Tryz.ntmps107
  go_wp2_with (fail)
  refine HO.out.mono ?_
  clear HO
  rintro e W1 ⟨hb1, (⟨hne, rfl⟩ | ⟨hz, hp, M1, M2, n1, n2, n3, n4, tr, he⟩)⟩
  · have hne' : c3Check g = 2 ∨ c3Check g = 70 := by
      unfold c3Check at hne ⊢
      split
      · exact .inl rfl
      · split
        · rename_i h1 h2; rw [if_neg h1, if_pos h2] at hne; exact absurd rfl hne
        · exact .inr rfl
    rcases hne' with hq | hq
    · rw [hq]
      go_wp2
      go_ret3
      exact ⟨hb1, .inl ⟨hne, by rw [hq]; rfl⟩⟩
    · rw [hq]
      go_wp2
      go_ret3
      exact ⟨hb1, .inl ⟨hne, by rw [hq]; rfl⟩⟩
  · have hz' := Lib.hid hz
    have hgl := (c3Check_zero hz).1
    have hTree : TreeInv hp M1 M2 A c g (fun _ => False) W1 := by
      obtain ⟨es, cc, m, hbm, _⟩ := tr.ln
      have hne : hp ≠ M2 := by
        rintro rfl
        have := tr.c0
        unfold World.cell? at this
        rw [show (⟨hp, 0, none⟩ : Addr).block = hp from rfl, hbm] at this
        simp at this
      exact ⟨⟨id, id, id, n4, hne⟩, (H.keep (Keep.below hb1)).mono fun b _ hb => ⟨id, by omega⟩, _, tr, fun s v hv => by cases hv⟩
    have he' : ∃ (k : Int) (x : Int), (x = 0 ∨ x = 3) ∧ e = .returned (.tuple #[.pointer (some ⟨hp, 0, none⟩), .int .i64 k, .int .i64 x]) := by
      rcases he with ⟨i, _, rfl⟩ | ⟨_, rfl⟩
      · exact ⟨_, 0, .inl rfl, rfl⟩
      · exact ⟨_, 3, .inr rfl, rfl⟩
    clear he hz tr
    obtain ⟨k0, x0, hx0, rfl⟩ := he'
    rcases hx0 with rfl | rfl
    all_goals go_wp2
    all_goals
      go_loopw [8, 27] (fun v i wr => ∃ k : Nat, k ≤ g.length ∧ i = .int .i64 k ∧ Below w.heap.size w wr ∧ TreeInv hp M1 M2 A c g (fun b => v.ownBlock = some b) wr ∧
        ∃ ls S, ls.length = k ∧ (∀ (i : Nat) (x : List ByteArray), ls[i]? = some x → line g i = some x) ∧ Own lstR 108 1 w.heap.size S v ls wr ∧ ∀ b, S b → w.heap.size ≤ b ∧ b < wr.heap.size ∧ b ≠ M2 ∧ v.ownBlock ≠ some b) (fun _ i _ => g.length - (intOf i).toNat)
      case atStart => exact ⟨0, Nat.zero_le _, rfl, hb1, hTree.fewer (fun b h => by simp [Value.ownBlock] at h), [], fun _ => False, rfl, (fun i x h => by simp at h), Own.nil _ _ _ _ _ _, fun b h => h.elim⟩
      case round =>
        clear hTree hb1
        obtain ⟨k, hk, rfl, hbr, hT, ls, S, rfl, l2, l3, l4⟩ := hrel
        by_cases hlt : ls.length < g.length
        · have HTR := Lib.hid (tried_calls hp M1 M2 A c g hz'.out ls.length hlt _ wr (fun b hb => (l3.lt b hb).2) hT)
          obtain ⟨Av, cv, rfl, _, _⟩ := l3.out
          have l0 : ls.length < g.length := hlt
          go_wp2_with (fail)
          refine HTR.out.mono ?_
          clear HTR
          rintro e W2 ⟨hch, (⟨x, A2, c2, q1, rfl, q2, q3, q4⟩ | ⟨q1, rfl⟩)⟩
          · have hx := line_length (c3Check_zero hz'.out).2 q1
            have HCL := Lib.hid (cloneStr_calls A2 c2 x _ W2 q3 (by omega))
            have s2 := hch.size
            have s1 := hbr.size
            have nb := hT.nb
            have hM2w : M2 < wr.heap.size := by obtain ⟨_, tr, _⟩ := hT.tr; exact tr.ln.lt
            have l3' : Own lstR 108 1 w.heap.size S (Value.slice Av ls.length cv) ls W2 := l3.keep (hch.keep fun b hb => (l4 b hb).2.2.1) fun b hb => hch.block b (l3.lt b hb).2 (fun e => nb.2.2.1 (by rw [← e]; exact hb))
            have bl2 : Below w.heap.size w W2 := hbr.trans (hch.below s1 (fun b hb => by omega))
            clear l3 hT
            go_wp2_with (fail)
            refine HCL.out.mono ?_
            clear HCL
            rintro e W3 ⟨vc, rfl, hown, hb3⟩
            obtain ⟨Ac, cc, rfl, p1, _⟩ := hown.out
            have s3 := hb3.size
            have hc3 : Held (fun b => (Value.slice Ac x.length cc).ownBlock = some b) (Strs Ac x) W3 := by
              obtain ⟨Ac', cc', e, _, hh⟩ := (OwnStr.pure (G' := fun _ => False) hown).out
              cases e
              exact hh.mono fun b _ h => by rcases h with h | h; exact h.elim; exact h
            have l3'' := l3'.all hb3
            go_wp2_with (at_builtin; refine wp_append_one lstR 108 1 w.heap.size 24 (fun b => S b ∨ (Value.slice Ac x.length cc).ownBlock = some b) _ rfl _ _ 111 _ rfl Tryz.underlying111 info108 rfl (by decide) (by decide) (Value.slice Av ls.length cv) ls rfl ?_ ⟨W3.heap.size, 0, none⟩ 1 rfl x [.slice Ac x.length cc] rfl ?_ ?_ (lstR.mk p1 ((hc3.mono fun b _ h => .inr h).keep (Keep.alloc _ _ _))) ?_ ?_ ?_ ?_; rotate_right 1; intro v' w5 hown' hgrow hat)
            · have hlen : (ls ++ [x]).length = ls.length + 1 := by simp
              have hown2 : ∀ b, v'.ownBlock = some b → (Value.slice Av ls.length cv).ownBlock = some b ∨ W3.heap.size < b := fun b hb => by
                rcases hat with h | h
                · exact .inl (h ▸ hb)
                · rw [h] at hb; simp at hb; exact .inr (by omega)
              have c5 : Chg (fun b => (Value.slice Av ls.length cv).ownBlock = some b) W2 w5 := ((Chg.of hb3).trans (Chg.alloc _ _)).trans (Chg.grown hgrow fun b hb => hb)
              have s5 := hgrow.size
              rw [World.size_alloc] at s5
              refine ⟨⟨ls.length + 1, by omega, by go_num, bl2.trans (c5.below (by omega) fun b hb => (l3'.lt b hb).1), q4.others c5 (fun b _ hb => by rcases hown2 b hb with h | h; exact .inl h; exact .inr (by omega)), ls ++ [x], _, hlen, ?_, hown', ?_⟩, by simp [intOf]; omega⟩
              · intro i y hy
                rcases Nat.lt_or_ge i ls.length with hi | hi
                · rw [List.getElem?_append_left hi] at hy; exact l2 i y hy
                · have := (List.getElem?_eq_some_iff.1 hy).1
                  obtain rfl : i = ls.length := by omega
                  rw [List.getElem?_append_right (Nat.le_refl _), Nat.sub_self] at hy
                  cases hy
                  exact q1
              · intro b hb
                rcases hb with hb | hb
                · obtain ⟨h1, h2, h3, h4⟩ := l4 b hb
                  exact ⟨h1, by omega, h3, fun e => by rcases hown2 b e with h | h; exact h4 h; omega⟩
                · obtain ⟨h1, h2⟩ := hown.lt b hb
                  exact ⟨by omega, by omega, by omega, fun e => by
                    rcases hown2 b e with h | h
                    · have := (l3'.lt b h).2; omega
                    · omega⟩
            · exact (l3''.mono fun b _ h => .inl h).alloc _
            · exact fun j u hu => cells_new W3 _ _ _ rfl j u hu
            · intro u hu; simp at hu; subst hu; rfl
            · intro b hb
              rcases hb with hb | hb
              · exact (l4 b hb).2.2.2
              · exact fun e => by have := (l3'.lt b e).2; have := (hown.lt b hb).1; omega
            · simp; omega
            · omega
          · go_wp2_with (fail)
            go_ret3
            refine ⟨hbr.trans (hch.below hbr.size fun b hb => by omega), .inr (.inl ⟨hz'.out, ls.length, hlt, fun j hj => ?_, q1, rfl⟩)⟩
            rw [l2 j _ (List.getElem?_eq_getElem hj)]; rfl
        · have l1 : ls.length = g.length := by omega
          go_wp2_with (fail)
          go_ret3
          exact ⟨hbr, .inr (.inr ⟨hz'.out, ls, u8, S, l1, l2, rfl, l3, fun b hb => (l4 b hb).1⟩)⟩
end Go.Proofs.YtepnmejahbiacaaGreat
set_option linter.unusedVariables false
set_option linter.unusedSimpArgs false
namespace Go.Proofs.YtepnmejahbiacaaGreat
open Go.RowKit
theorem heirsOf_len (l : List CI) : (heirsOf l).length = l.length := by simp [heirsOf]
theorem heirsOf_get {l : List CI} {i : Nat} {x : CI} (h : l[i]? = some x) : (heirsOf l)[i]? = some x.heir := by unfold heirsOf; rw [List.getElem?_map, h]; rfl
theorem baseL_len : baseL.length = 11 := sealN_len 4
def classOk (l : List CI) (k : Nat) (x : CI) : Bool :=
  !(lastAt ((l.take k).map (·.name)) x.name).isSome && !decide (x.name = ⟨#[]⟩) && decide (x.name.size ≤ 100) &&
    (decide (k < 11) || (!decide (x.supers.length = 0) && decide (x.supers.length ≤ 8) && mayInh l k x))
def ClassesOk (l : List CI) : Prop := ∀ (k : Nat) (x : CI), l[k]? = some x → classOk l k x = true
def LinesOk (l : List CI) : Prop := c3Check (heirsOf l) = 0 ∧ ∀ (k : Nat) (x : CI), l[k]? = some x → line (heirsOf l) k = some x.cpl
theorem sup_small {l : List CI} (hb : l.take 11 = baseL) (hok : ClassesOk l) : ∀ x ∈ l, x.supers.length ≤ 8 := by
  intro x hx
  obtain ⟨j, hj⟩ := List.mem_iff_getElem?.1 hx
  rcases Nat.lt_or_ge j 11 with h | h
  · have h1 : (l.take 11)[j]? = some x := by rw [List.getElem?_take, if_pos h]; exact hj
    rw [hb] at h1
    have : baseL.all (fun y => decide (y.supers.length ≤ 1)) = true := by decide
    have := of_decide_eq_true (List.all_eq_true.1 this x (List.mem_of_getElem? h1))
    omega
  · have h2 := hok j x hj
    unfold classOk at h2
    rw [decide_eq_false (show ¬ j < 11 by omega)] at h2
    simp only [Bool.false_or, Bool.and_eq_true, decide_eq_true_eq] at h2
    exact h2.2.1.2
/-- A list of classes that is a hierarchy. -/
def LookOk (l : List CI) : Prop := l.length ≤ 120 ∧ 11 ≤ l.length ∧ l.take 11 = baseL ∧ ClassesOk l ∧ LinesOk l
def lookPost (A : Option Addr) (c : Nat) (l : List CI) (w : World) (e : Ending) (w' : World) : Prop :=
  Below w.heap.size w w' ∧ ((¬ LookOk l ∧ e = .returned (.pointer none)) ∨ (LookOk l ∧ ∃ hp M1, w.heap.size ≤ hp ∧ w.heap.size ≤ M1 ∧ e = .returned (.pointer (some ⟨hp, 0, none⟩)) ∧ HierAt hp M1 A c l l.length w'))
set_option maxHeartbeats 8000000 in
set_option maxRecDepth 100000 in
theorem look_calls (A : Option Addr) (c : Nat) (l : List CI) (w : World) (hc : l.length ≤ c) (G : Nat → Prop) (h : Held G (CIs A l) w) (ol : ∀ x ∈ l, ciOk x) (hl : l.length ≤ 1000000) :
    Calls Tryz.prog 67 #[.slice A l.length c] w (lookPost A c l w) := by
  have HB := Lib.hid (Base_calls w)
  have hmm := @run_makeMap Tryz.prog
  by_cases q1 : 120 < l.length
  · have t1 : decide ((120 : Int) < (l.length : Int)) = true := decide_eq_true (by omega)
    go_enter Tryz.func67, Tryz.ntmps67
    go_wp2_with (fail)
    refine HB.out.mono ?_
    rintro e w1 ⟨v, rfl, hown, hb1⟩
    obtain ⟨A', c', rfl, _, _⟩ := hown.out
    rw [baseL_len]
    go_wp2
    go_ret
    exact ⟨hb1, .inl ⟨fun hh => absurd hh.1 (by omega), rfl⟩⟩
  have t1 : decide ((120 : Int) < (l.length : Int)) = false := decide_eq_false (by omega)
  by_cases q2 : l.length < 11
  · have t2 : decide ((l.length : Int) < 11) = true := decide_eq_true (by omega)
    go_enter Tryz.func67, Tryz.ntmps67
    go_wp2_with (fail)
    refine HB.out.mono ?_
    rintro e w1 ⟨v, rfl, hown, hb1⟩
    obtain ⟨A', c', rfl, _, _⟩ := hown.out
    rw [baseL_len]
    go_wp2
    go_ret
    exact ⟨hb1, .inl ⟨fun hh => absurd hh.2.1 (by omega), rfl⟩⟩
  have t2 : decide ((l.length : Int) < 11) = false := decide_eq_false (by omega)
  go_enter Tryz.func67, Tryz.ntmps67
  go_wp2_with (fail)
  refine HB.out.mono ?_
  clear HB
  rintro e w1 ⟨v, rfl, hown, hb1⟩
  obtain ⟨A', c', rfl, hc', hS⟩ := hown.out
  have h1 := h.keep (Keep.all hb1)
  have HE := equalSame_calls A A' c c' (l.take 11) baseL w1 (Slc.take h1.now 11) hS.now (by simp; omega) (by rw [baseL_len]; decide) (fun x hx => ol x (List.mem_of_mem_take hx)) (by
    have : baseL.all (fun y => decide (y.supers.length ≤ 1) && decide (y.cpl.length ≤ 6)) = true := by decide
    intro x hx
    have := List.all_eq_true.1 this x hx
    simp only [Bool.and_eq_true, decide_eq_true_eq] at this
    exact ⟨by omega, by omega⟩)
  rw [List.length_take, Nat.min_eq_left (by omega), baseL_len] at HE
  rw [baseL_len]
  obtain ⟨b, off, rfl⟩ := Slc.addrH h (by omega)
  have HEQ := Lib.hid HE
  clear HE
  go_wp2_with (fail)
  refine HEQ.out.mono ?_
  clear HEQ
  rintro e w2 ⟨rfl, hb2⟩
  have hb0 : Below w.heap.size w w2 := hb1.trans (hb2.mono hb1.size)
  by_cases q3 : l.take 11 = baseL
  rotate_left
  · rw [decide_eq_false q3]
    have Q3 := Lib.hid q3
    clear q3
    go_wp2
    go_ret
    exact ⟨hb0, .inl ⟨fun hh => Q3.out hh.2.2.1, rfl⟩⟩
  rw [decide_eq_true q3]
  have Q3 := Lib.hid q3
  have h2 := h.keep (Keep.all hb0)
  clear q3 h1 hS hown hb1 hb2 h2
  go_wp2_with (fail)
  clear hmm
  obtain ⟨M1, hM1⟩ : ∃ M, M = w2.heap.size := ⟨_, rfl⟩
  obtain ⟨hp, hhp⟩ : ∃ M, M = w2.heap.size + 1 + 1 + 1 := ⟨_, rfl⟩
  rw [← hhp, ← hM1]
  have hsz := hb0.size
  generalize hw3 : (((w2.alloc (.map #[] 0)).alloc (.map #[] 0)).alloc (.map #[] 0)).alloc (.cells #[.slice (some ⟨b, off, none⟩) l.length c, .map (some M1), .map (some (M1 + 1)), .map (some (M1 + 1 + 1))] 142) = w3
  have hb3 : Below w2.heap.size w2 w3 := by rw [← hw3]; exact ((((Below.refl _ w2).alloc (Nat.le_refl _) _).alloc (by simp) _).alloc (by simp; omega) _).alloc (by simp; omega) _
  have H0 : HierAt hp M1 (some ⟨b, off, none⟩) c l 0 w3 := by
    rw [← hw3]
    refine ⟨cell_new _ _ _ _ (by simp; omega) 0 _ rfl, cell_new _ _ _ _ (by simp; omega) 1 _ rfl, ?_, cell_new _ _ _ _ (by simp; omega) 2 _ rfl, cell_new _ _ _ _ (by simp; omega) 3 _ rfl, ?_, ?_, by omega⟩
    · exact ((((MapF.made strKey w2 M1 hM1).keep (Keep.alloc (fun _ => True) _ _) trivial).keep (Keep.alloc (fun _ => True) _ _) trivial).keep (Keep.alloc (fun _ => True) _ _) trivial)
    · exact ⟨_, (((MapF.made strKey (w2.alloc (.map #[] 0)) (M1 + 1) (by simp; omega)).keep (Keep.alloc (fun _ => True) _ _) trivial).keep (Keep.alloc (fun _ => True) _ _) trivial), fun s v h => by cases h⟩
    · exact ⟨_, ((MapF.made strKey ((w2.alloc (.map #[] 0)).alloc (.map #[] 0)) (M1 + 1 + 1) (by simp; omega)).keep (Keep.alloc (fun _ => True) _ _) trivial), fun s v h => by cases h⟩
  have hb4 : Below w.heap.size w w3 := hb0.trans (hb3.mono hsz)
  have hne : hp ≠ M1 := by omega
  have hbs : w.heap.size ≤ hp ∧ w.heap.size ≤ M1 := by omega
  have HNE := Lib.hid hne
  clear hw3 hb3 hM1 hhp hne hsz hb0
  go_loopw [40] (fun i wr => ∃ k : Nat, k ≤ l.length ∧ i = .int .i64 k ∧ HierAt hp M1 (some ⟨b, off, none⟩) c l k wr ∧ (∀ (j : Nat) (x : CI), j < k → l[j]? = some x → classOk l j x = true) ∧ Below w.heap.size w wr) (fun i _ => l.length - (intOf i).toNat)
  case atStart => exact ⟨0, Nat.zero_le _, rfl, H0, fun j x h => absurd h (by omega), hb4⟩
  case round =>
    clear H0 hb4
    obtain ⟨k, hk, rfl, H, hok, hb⟩ := hrel
    have HOK := Lib.hid hok
    clear hok
    have h3 := h.keep (Keep.all hb)
    by_cases hlt : k < l.length
    · have hx : l[k]? = some l[k] := List.getElem?_eq_getElem hlt
      generalize l[k] = x at hx
      have HX := Lib.hid hx
      obtain ⟨A2, c2, A3, c3, p1, p2, p3, p4, g0, g1, g2, g3, g4, g5⟩ := CIs.atH h3 hx
      clear hx
      have c0 := H.c0
      have c1 := H.c1
      obtain ⟨W1, hW1⟩ : ∃ W1, W1 = wr.alloc (.cells #[.string x.name, .string x.lib, .slice A2 x.supers.length c2, .slice A3 x.cpl.length c3, .bool x.abs, .bool x.seal_] 110) := ⟨_, rfl⟩
      have hbW : Below wr.heap.size wr W1 := by rw [hW1]; exact (Below.refl _ wr).alloc (Nat.le_refl _) _
      have H1 := H.keep hbW
      have hlk : ∀ n, (Instr.lookup 140 (.map (some M1)) (.string x.name) true).run Tryz.prog (W1.drewN n) = .ok (.tuple #[.int .i64 (((lastAt ((l.take k).map (·.name)) x.name).getD 0 : Nat) : Int), .bool (lastAt ((l.take k).map (·.name)) x.name).isSome]) (W1.drewN n) := fun n => run_at ((H1.keep (drewN_below _ n _)).at_) x.name true
      subst hW1
      have hhpl := cell_lt c0
      have hbl := cell_lt g0
      have HNO : Hid (classOk l k x = false → ¬ LookOk l) := Lib.hid (fun hf hh => by rw [hh.2.2.2.1 k x HX.out] at hf; cases hf)
      cases hla : (lastAt ((l.take k).map (·.name)) x.name).isSome with
      | true =>
        rw [hla] at hlk
        have HC : Hid (classOk l k x = false) := Lib.hid (by unfold classOk; rw [hla]; rfl)
        clear hla
        go_wp2_with (fail)
        go_quiet (fail)
        go_wp2_with (fail)
        go_ret
        exact ⟨(hb.alloc hb.size _).trans (drewN_below _ _ _), .inl ⟨HNO.out HC.out, rfl⟩⟩
      | false =>
        rw [hla] at hlk
        have HL := Lib.hid hla
        clear hla
        by_cases n1 : x.name = ⟨#[]⟩
        · have HC : Hid (classOk l k x = false) := Lib.hid (by unfold classOk; rw [decide_eq_true n1]; simp)
          have t3 : decide (x.name = ⟨#[]⟩) = true := decide_eq_true n1
          clear n1
          go_wp2_with (fail)
          go_quiet (fail)
          go_wp2_with (fail)
          go_ret
          exact ⟨(hb.alloc hb.size _).trans (drewN_below _ _ _), .inl ⟨HNO.out HC.out, rfl⟩⟩
        · have t3 : decide (x.name = ⟨#[]⟩) = false := decide_eq_false n1
          have N1 := Lib.hid n1
          clear n1
          by_cases n2 : 100 < x.name.size
          · have HC : Hid (classOk l k x = false) := Lib.hid (by unfold classOk; rw [show decide (x.name.size ≤ 100) = false from decide_eq_false (by omega)]; simp)
            have t4 : decide ((100 : Int) < (x.name.size : Int)) = true := decide_eq_true (by omega)
            go_wp2_with (fail)
            go_quiet (fail)
            go_wp2_with (fail)
            go_ret
            exact ⟨(hb.alloc hb.size _).trans (drewN_below _ _ _), .inl ⟨HNO.out HC.out, rfl⟩⟩
          · have t4 : decide ((100 : Int) < (x.name.size : Int)) = false := decide_eq_false (by omega)
            have HLL : Hid (classOk l k x = (decide (k < 11) || (!decide (x.supers.length = 0) && decide (x.supers.length ≤ 8) && mayInh l k x))) := Lib.hid (by unfold classOk; rw [HL.out, decide_eq_false N1.out, decide_eq_true (show x.name.size ≤ 100 by omega)]; rfl)
            by_cases n3 : k < 11
            · have t5 : decide ((11 : Int) ≤ (k : Int)) = false := decide_eq_false (by omega)
              have HCT : Hid (classOk l k x = true) := Lib.hid (by rw [HLL.out, decide_eq_true n3]; rfl)
              go_wp2_with (fail)
              go_quiet (fail)
              go_wp2_with (fail)
              obtain ⟨V, hV⟩ : ∃ V, V = (wr.alloc (.cells #[.string x.name, .string x.lib, .slice A2 x.supers.length c2, .slice A3 x.cpl.length c3, .bool x.abs, .bool x.seal_] 110)).drewN nq := ⟨_, rfl⟩
              rw [← hV]
              have HV : HierAt hp M1 (some ⟨b, off, none⟩) c l k V := by rw [hV]; exact H1.keep (drewN_below _ _ _)
              have vb : V.cell? ⟨wr.heap.size, 0, none⟩ = some (.string x.name) := by rw [hV]; exact cell_new wr _ _ _ rfl 0 _ rfl
              have hbV : Below w.heap.size w V := by rw [hV]; exact (hb.alloc hb.size _).trans (drewN_below _ _ _)
              clear hV
              have HVM : MapF strKey M1 (atMap ((l.take k).map (·.name))) V.drew := (HV.at_).keep (Keep.drew (fun _ => True) _) trivial
              have v0 := HV.c0
              have v1 := HV.c1
              have HVC := Lib.hid HV
              have vh := cell_lt v0
              clear H H1 HV hlk c0 c1 g0 g1 g2 g3 g4 g5
              refine wp_region_still_tail 7 (by kernel_rfl) (by kernel_rfl) ?_
              simp only [List.take_succ_cons, List.take_zero, List.drop_succ_cons, List.drop_zero]
              change wpStill _ _ (World.drew _) (fun a' => wpList _ _ _ _ a' (World.drew _)) _ _
              repeat still_step
              refine wpStill_nil ?_
              go_wp2_with (at_mapUpdate; refine wp_mapUpdate strKey _ rfl 140 3 _ _ _ rfl Tryz.underlying140 M1 (atMap ((l.take k).map (·.name))) HVM rfl x.name rfl (.int .i64 (k : Int)) rfl ?_)
              intro w5 hm5 hg5
              rw [atMap_snoc _ _ k (by simp; omega), ← List.map_take] at hm5
              have hb5 : Below w.heap.size w w5 := (hbV.drew).grown hg5 (by have := hbV.size; exact this) fun k e => by cases e; exact hbs.2
              have kg : Keep (fun b => b ≠ M1) V w5 := ((Keep.drew (fun _ => True) V).mono (fun _ _ => trivial)).trans (Keep.grown hg5 fun b hb e => hb (by injection e))
              have H5 : HierAt hp M1 (some ⟨b, off, none⟩) c l (k + 1) w5 := by
                refine ⟨cell_keep v0 kg HNE.out, cell_keep v1 kg HNE.out, ?_, cell_keep HVC.out.c2 kg HNE.out, cell_keep HVC.out.c3 kg HNE.out, HVC.out.m2.imp fun f hf => ⟨hf.1.keep kg (by show M1 + 1 ≠ M1; omega), hf.2⟩, HVC.out.m3.imp fun f hf => ⟨hf.1.keep kg (by show M1 + 1 + 1 ≠ M1; omega), hf.2⟩, HVC.out.hpe⟩
                have e : (l.take (k + 1)).map (·.name) = (l.take k).map (·.name) ++ [x.name] := by rw [take_snoc HX.out, List.map_append]; rfl
                rw [e]; exact hm5
              clear v0 v1 HVM hg5 hm5
              go_wp2_with (fail)
              go_roundw
              case rel =>
                refine ⟨k + 1, by omega, by go_num, H5, fun j y hj hy => ?_, hb5⟩
                rcases Nat.lt_or_ge j k with h | h
                · exact HOK.out j y h hy
                · obtain rfl : j = k := by omega
                  rw [HX.out] at hy; cases hy; exact HCT.out
              case measure => simp [intOf]; omega
            · have t5 : decide ((11 : Int) ≤ (k : Int)) = true := decide_eq_true (by omega)
              by_cases n4 : x.supers.length = 0
              · have t6 : ((x.supers.length : Int) == 0) = true := beq_iff_eq.2 (by omega)
                have HC : Hid (classOk l k x = false) := Lib.hid (by rw [HLL.out, decide_eq_false n3, decide_eq_true n4]; rfl)
                clear n4
                go_wp2_with (fail)
                go_quiet (fail)
                go_wp2_with (fail)
                go_ret
                exact ⟨(hb.alloc hb.size _).trans (drewN_below _ _ _), .inl ⟨HNO.out HC.out, rfl⟩⟩
              have t6 : ((x.supers.length : Int) == 0) = false := beq_eq_false_iff_ne.2 (by omega)
              by_cases n5 : 8 < x.supers.length
              · have t7 : decide ((8 : Int) < (x.supers.length : Int)) = true := decide_eq_true (by omega)
                have HC : Hid (classOk l k x = false) := Lib.hid (by rw [HLL.out, decide_eq_false n3, decide_eq_false (show ¬ x.supers.length ≤ 8 by omega)]; simp)
                go_wp2_with (fail)
                go_quiet (fail)
                go_wp2_with (fail)
                go_ret
                exact ⟨(hb.alloc hb.size _).trans (drewN_below _ _ _), .inl ⟨HNO.out HC.out, rfl⟩⟩
              have t7 : decide ((8 : Int) < (x.supers.length : Int)) = false := decide_eq_false (by omega)
              have HMI : Hid (classOk l k x = mayInh l k x) := Lib.hid (by rw [HLL.out, decide_eq_false n3, decide_eq_false n4, decide_eq_true (show x.supers.length ≤ 8 by omega)]; rfl)
              have hp3 := p3
              have hh3 := h3
              have HMY := Lib.hid (fun W (hbw : Below wr.heap.size wr W) => mayInherit_calls hp M1 (some ⟨b, off, none⟩) c l k hk (by omega) x A2 A3 c2 c3 W (H.keep hbw) G (h3.keep (Keep.all hbw)) G (p3.keep (Keep.all hbw)) (by omega))
              go_wp2_with (fail)
              go_quiet (fail)
              go_wp2_with (fail)
              have bq : Below wr.heap.size wr ((wr.alloc (.cells #[.string x.name, .string x.lib, .slice A2 x.supers.length c2, .slice A3 x.cpl.length c3, .bool x.abs, .bool x.seal_] 110)).drewN nq) := ((Below.refl _ wr).alloc (Nat.le_refl _) _).trans (drewN_below _ _ _)
              refine (HMY.out _ bq).mono ?_
              have vb0 : ((wr.alloc (.cells #[.string x.name, .string x.lib, .slice A2 x.supers.length c2, .slice A3 x.cpl.length c3, .bool x.abs, .bool x.seal_] 110)).drewN nq).cell? ⟨wr.heap.size, 0, none⟩ = some (.string x.name) := cell_new wr _ _ _ rfl 0 _ rfl
              rintro e V ⟨rfl, hbv⟩
              have HV : HierAt hp M1 (some ⟨b, off, none⟩) c l k V := (H.keep bq).keep hbv
              have vb := cell_all vb0 hbv
              have hbV : Below w.heap.size w V := hb.trans ((bq.trans (hbv.mono bq.size)).mono hb.size)
              clear HMY bq vb0
              cases hmi : mayInh l k x with
              | false =>
                have HC : Hid (classOk l k x = false) := Lib.hid (by rw [HMI.out, hmi])
                clear hmi
                go_wp2_with (fail)
                go_ret
                exact ⟨hbV, .inl ⟨HNO.out HC.out, rfl⟩⟩
              | true =>
                have HCT : Hid (classOk l k x = true) := Lib.hid (by rw [HMI.out, hmi])
                clear hmi
                go_wp2_with (fail)
                have HVM : MapF strKey M1 (atMap ((l.take k).map (·.name))) V.drew := (HV.at_).keep (Keep.drew (fun _ => True) _) trivial
                have v0 := HV.c0
                have v1 := HV.c1
                have HVC := Lib.hid HV
                have vh := cell_lt v0
                clear H H1 HV hlk c0 c1 g0 g1 g2 g3 g4 g5
                refine wp_region_still_tail 7 (by kernel_rfl) (by kernel_rfl) ?_
                simp only [List.take_succ_cons, List.take_zero, List.drop_succ_cons, List.drop_zero]
                change wpStill _ _ (World.drew _) (fun a' => wpList _ _ _ _ a' (World.drew _)) _ _
                repeat still_step
                refine wpStill_nil ?_
                go_wp2_with (at_mapUpdate; refine wp_mapUpdate strKey _ rfl 140 3 _ _ _ rfl Tryz.underlying140 M1 (atMap ((l.take k).map (·.name))) HVM rfl x.name rfl (.int .i64 (k : Int)) rfl ?_)
                intro w5 hm5 hg5
                rw [atMap_snoc _ _ k (by simp; omega), ← List.map_take] at hm5
                have hb5 : Below w.heap.size w w5 := (hbV.drew).grown hg5 (by have := hbV.size; exact this) fun k e => by cases e; exact hbs.2
                have kg : Keep (fun b => b ≠ M1) V w5 := ((Keep.drew (fun _ => True) V).mono (fun _ _ => trivial)).trans (Keep.grown hg5 fun b hb e => hb (by injection e))
                have H5 : HierAt hp M1 (some ⟨b, off, none⟩) c l (k + 1) w5 := by
                  refine ⟨cell_keep v0 kg HNE.out, cell_keep v1 kg HNE.out, ?_, cell_keep HVC.out.c2 kg HNE.out, cell_keep HVC.out.c3 kg HNE.out, HVC.out.m2.imp fun f hf => ⟨hf.1.keep kg (by show M1 + 1 ≠ M1; omega), hf.2⟩, HVC.out.m3.imp fun f hf => ⟨hf.1.keep kg (by show M1 + 1 + 1 ≠ M1; omega), hf.2⟩, HVC.out.hpe⟩
                  have e : (l.take (k + 1)).map (·.name) = (l.take k).map (·.name) ++ [x.name] := by rw [take_snoc HX.out, List.map_append]; rfl
                  rw [e]; exact hm5
                clear v0 v1 HVM hg5 hm5
                go_wp2_with (fail)
                go_roundw
                case rel =>
                  refine ⟨k + 1, by omega, by go_num, H5, fun j y hj hy => ?_, hb5⟩
                  rcases Nat.lt_or_ge j k with h | h
                  · exact HOK.out j y h hy
                  · obtain rfl : j = k := by omega
                    rw [HX.out] at hy; cases hy; exact HCT.out
                case measure => simp [intOf]; omega
    · have hkl : k = l.length := by omega
      subst hkl
      have HCO : Hid (ClassesOk l) := Lib.hid (fun j x hx => HOK.out j x (List.getElem?_eq_some_iff.1 hx).1 hx)
      have HSM := Lib.hid (sup_small Q3.out HCO.out)
      have HH := Lib.hid (heirs_calls (some ⟨b, off, none⟩) c l wr h3.now (by omega))
      clear HOK
      go_wp2_with (fail)
      refine HH.out.mono ?_
      clear HH
      rintro e V1 ⟨Ah, ch, rfl, _, hhe, hv1⟩
      have HA := all_calls Ah ch (heirsOf l) V1 hhe.now (by rw [heirsOf_len]; omega) (fun x hx => by
        obtain ⟨y, hy, rfl⟩ := List.mem_map.1 hx
        have := HSM.out y hy
        show y.supers.length ≤ 1000000
        omega)
      rw [heirsOf_len] at HA
      have HA1 := Lib.hid HA
      clear HA hhe
      go_wp2_with (fail)
      refine HA1.out.mono ?_
      clear HA1
      rintro e V2 ⟨hv2, (⟨a1, rfl⟩ | ⟨a1, i, a2, a3, a4, rfl⟩ | ⟨a1, ls, v, S, a2, a3, rfl, a4, a5⟩)⟩
      all_goals have hbV : Below w.heap.size w V2 := hb.trans ((hv1.trans (hv2.mono hv1.size)).mono hb.size)
      · have t8 : (c3Check (heirsOf l) == 0) = false := beq_eq_false_iff_ne.2 a1
        have t9 : (c3Check (heirsOf l) != 0) = true := by rw [bne_iff_ne]; exact a1
        have A1 := Lib.hid a1
        clear a1
        go_wp2_with (fail)
        go_ret
        exact ⟨hbV, .inl ⟨fun hh => A1.out hh.2.2.2.2.1, rfl⟩⟩
      · have hi : i < l.length := by rw [← heirsOf_len]; exact a2
        have A4 : Hid (¬ LookOk l) := Lib.hid (fun hh => by
          have := hh.2.2.2.2.2 i _ (List.getElem?_eq_getElem hi)
          rw [a4] at this; cases this)
        clear a1 a2 a3 a4
        go_wp2_with (fail)
        go_ret
        exact ⟨hbV, .inl ⟨A4.out, rfl⟩⟩
      · obtain ⟨Al, cl, rfl, _, hS⟩ := a4.out
        have A2 := Lib.hid a2
        have A3 := Lib.hid a3
        have A1 := Lib.hid a1
        have h4 := h.keep (Keep.all hbV)
        have HE := Lib.hid (equalCpl_calls (some ⟨b, off, none⟩) Al c cl l ls V2 h4.now hS.now (by omega) (by rw [a2, heirsOf_len]; omega) ol (fun y hy => by
          obtain ⟨j, hj⟩ := List.mem_iff_getElem?.1 hy
          have := line_length (c3Check_zero a1).2 (a3 j y hj)
          have := (c3Check_zero a1).1
          omega))
        clear a1 a2 a3 a4 hS h4
        go_wp2_with (fail)
        refine HE.out.mono ?_
        clear HE
        rintro e V3 ⟨rfl, hv3⟩
        have hbV3 : Below w.heap.size w V3 := hbV.trans (hv3.mono hbV.size)
        have H3 : HierAt hp M1 (some ⟨b, off, none⟩) c l l.length V3 := ((H.keep hv1).keep hv2).keep hv3
        have HEQ : Hid (l.map CI.cpl = ls ↔ ∀ (k : Nat) (x : CI), l[k]? = some x → line (heirsOf l) k = some x.cpl) := Lib.hid (by
          constructor
          · rintro rfl k x hx
            exact A3.out k x.cpl (by rw [List.getElem?_map, hx]; rfl)
          · intro hh
            apply List.ext_getElem?
            intro k
            rw [List.getElem?_map]
            cases hk : l[k]? with
            | none =>
              have := List.getElem?_eq_none_iff.1 hk
              rw [List.getElem?_eq_none (by rw [A2.out, heirsOf_len]; exact this)]; rfl
            | some x =>
              have h1 := hh k x hk
              have hkl := (List.getElem?_eq_some_iff.1 hk).1
              have h2 : ls[k]? = some (ls[k]'(by rw [A2.out, heirsOf_len]; exact hkl)) := List.getElem?_eq_getElem _
              have h3 := A3.out k _ h2
              rw [h1] at h3
              rw [h2]; simp only [Option.map_some]; exact congrArg some (Option.some.inj h3))
        by_cases hq : l.map CI.cpl = ls
        · rw [decide_eq_true hq]
          have HOK : Hid (LookOk l) := Lib.hid ⟨by omega, by omega, Q3.out, HCO.out, A1.out, HEQ.out.1 hq⟩
          clear hq
          go_wp2_with (fail)
          go_ret
          exact ⟨hbV3, .inr ⟨HOK.out, hp, M1, hbs.1, hbs.2, rfl, H3⟩⟩
        · rw [decide_eq_false hq]
          have HNK : Hid (¬ LookOk l) := Lib.hid (fun hh => hq (HEQ.out.2 hh.2.2.2.2.2))
          clear hq
          go_wp2_with (fail)
          go_ret
          exact ⟨hbV3, .inl ⟨HNK.out, rfl⟩⟩
end Go.Proofs.YtepnmejahbiacaaGreat
set_option linter.unusedVariables false
set_option linter.unusedSimpArgs false
namespace Go.Proofs.YtepnmejahbiacaaGreat
open Go.RowKit
structure Tag where
  kind : Int
  num : Int
  name : ByteArray
  deriving DecidableEq
abbrev tagV (t : Tag) : Value := .agg #[.int .i64 t.kind, .int .i64 t.num, .string t.name]
def hasB (l : List CI) (s : ByteArray) : Bool := (clsAt l s).isSome
theorem clsAt_get {l : List CI} {s : ByteArray} {i : Nat} (h : clsAt l s = some i) : ∃ x, l[i]? = some x ∧ x.name = s := by
  have := lastAt_some h
  rw [List.getElem?_map] at this
  obtain ⟨x, hx, e⟩ := Option.map_eq_some_iff.1 this
  exact ⟨x, hx, e⟩
theorem absAt_eq (l : List CI) (s : ByteArray) : absAt l s = (l[(clsAt l s).getD 0]?.map CI.abs).getD false := by
  unfold absAt; cases clsAt l s <;> rfl
def tagOk (l : List CI) (t : Tag) : Bool :=
  if t.kind = 1 then decide (t.name = ⟨#[]⟩)
  else if t.kind = 2 then decide (t.name = ⟨#[]⟩) && (decide (t.num = 0) || decide (t.num = 1))
  else if t.kind = 3 then decide (t.num = 0) && hasB l t.name
  else if t.kind = 4 then decide (t.num = 0) && decide (t.name = ⟨#[]⟩)
  else if t.kind = 5 then decide (t.num = 0) && hasB l t.name && decide (4 < (clsAt l t.name).getD 0) && !absAt l t.name
  else false
def tagErr (l : List CI) (t : Tag) : Int := if tagOk l t then 0 else 82
theorem HierAt.look {hp M1 : Nat} {A : Option Addr} {c : Nat} {l : List CI} {w : World} (H : HierAt hp M1 A c l l.length w) (s : ByteArray) (ok : Bool) :
    (Instr.lookup 140 (.map (some M1)) (.string s) ok).run Tryz.prog w = .ok (if ok then .tuple #[.int .i64 (((clsAt l s).getD 0 : Nat) : Int), .bool (hasB l s)] else .int .i64 (((clsAt l s).getD 0 : Nat) : Int)) w := by
  have := run_at H.at_ s ok
  rw [List.take_length] at this
  exact this
set_option maxHeartbeats 4000000 in
set_option maxRecDepth 100000 in
theorem Check_calls (A : Option Addr) (c : Nat) (l : List CI) (w : World) (hc : l.length ≤ c) (G : Nat → Prop) (h : Held G (CIs A l) w) (ol : ∀ x ∈ l, ciOk x) (hl : l.length ≤ 1000000) :
    Calls Tryz.prog 44 #[.slice A l.length c] w fun e w' => Below w.heap.size w w' ∧ ((LookOk l ∧ e = .returned (.int .i64 0)) ∨ (¬ LookOk l ∧ e = .returned (.int .i64 80))) := by
  have HL := Lib.hid (look_calls A c l w hc G h ol hl)
  clear h ol
  go_enter Tryz.func44, Tryz.ntmps44
  go_wp2_with (fail)
  refine HL.out.mono ?_
  clear HL
  rintro e w1 ⟨hb, (⟨h1, rfl⟩ | ⟨h1, hp, M1, _, _, rfl, _⟩)⟩
  · have H1 := Lib.hid h1
    clear h1
    go_wp2
    go_ret
    exact ⟨hb, .inr ⟨H1.out, rfl⟩⟩
  · have H1 := Lib.hid h1
    clear h1
    go_wp2
    go_ret
    exact ⟨hb, .inl ⟨H1.out, rfl⟩⟩
set_option maxHeartbeats 4000000 in
set_option maxRecDepth 100000 in
theorem has_calls (hp M1 : Nat) (A : Option Addr) (c : Nat) (l : List CI) (s : ByteArray) (w : World) (H : HierAt hp M1 A c l l.length w) :
    Calls Tryz.prog 114 #[.pointer (some ⟨hp, 0, none⟩), .string s] w fun e w' => e = .returned (.bool (hasB l s)) ∧ w' = w := by
  have hlk := H.look s true
  simp only [if_true] at hlk
  have c0 := H.c0
  have c1 := H.c1
  clear H
  go_enter Tryz.func114, Tryz.ntmps114
  go_wp2
  go_ret
  exact ⟨rfl, rfl⟩
set_option maxHeartbeats 4000000 in
set_option maxRecDepth 100000 in
theorem abstract_calls (hp M1 : Nat) (A : Option Addr) (c : Nat) (l : List CI) (s : ByteArray) (w : World) (H : HierAt hp M1 A c l l.length w) (G : Nat → Prop) (hA : Held G (CIs A l) w) (hl : 0 < l.length) :
    Calls Tryz.prog 122 #[.pointer (some ⟨hp, 0, none⟩), .string s] w fun e w' => e = .returned (.bool (absAt l s)) ∧ Drw w w' := by
  have hlk : ∀ n, (Instr.lookup 140 (.map (some M1)) (.string s) false).run Tryz.prog (w.drewN n) = .ok (.int .i64 (((clsAt l s).getD 0 : Nat) : Int)) (w.drewN n) := fun n => (H.keep (drewN_below _ n _)).look s false
  have c0 := H.c0
  have c1 := H.c1
  have hi : (clsAt l s).getD 0 < l.length := by
    cases hq : clsAt l s with
    | none => exact hl
    | some i => obtain ⟨x, hx, _⟩ := clsAt_get hq; exact (List.getElem?_eq_some_iff.1 hx).1
  have hx : l[(clsAt l s).getD 0]? = some (l[(clsAt l s).getD 0]'hi) := List.getElem?_eq_getElem hi
  have HA : Hid (absAt l s = (l[(clsAt l s).getD 0]'hi).abs) := Lib.hid (by rw [absAt_eq, hx]; rfl)
  obtain ⟨b, off, rfl⟩ := Slc.addrH hA hl
  obtain ⟨A2, c2, A3, c3, p1, p2, p3, p4, g0, g1, g2, g3, g4, g5⟩ := CIs.atH hA hx
  generalize (l[(clsAt l s).getD 0]'hi) = x at *
  generalize (clsAt l s).getD 0 = i at *
  clear H hA hx
  go_enter Tryz.func122, Tryz.ntmps122
  go_wp2
  go_quiet (fail)
  go_wp2
  go_ret
  exact ⟨by rw [HA.out]; rfl, Drw.of _ _⟩
set_option maxHeartbeats 4000000 in
set_option maxRecDepth 100000 in
theorem isTag_calls (hp M1 : Nat) (A : Option Addr) (c : Nat) (l : List CI) (t : Tag) (w : World) (H : HierAt hp M1 A c l l.length w) (G : Nat → Prop) (hA : Held G (CIs A l) w) (hl : 0 < l.length) :
    Calls Tryz.prog 78 #[.pointer (some ⟨hp, 0, none⟩), tagV t] w fun e w' => e = .returned (.bool (tagOk l t)) ∧ Below w.heap.size w w' := by
  obtain ⟨kd, nm, s⟩ := t
  have HH := Lib.hid (fun W (h : Below w.heap.size w W) => has_calls hp M1 A c l s W (H.keep h))
  by_cases k1 : kd = 1
  · subst k1
    clear H hA
    go_enter Tryz.func78, Tryz.ntmps78
    go_wp2
    go_ret
    exact ⟨rfl, (Below.refl _ w).alloc (Nat.le_refl _) _⟩
  have t1 : (kd == 1) = false := beq_eq_false_iff_ne.2 k1
  have HA := Lib.hid (fun W (h : Below w.heap.size w W) => abstract_calls hp M1 A c l s W (H.keep h) G (hA.keep (Keep.all h)) hl)
  by_cases k2 : kd = 2
  · subst k2
    clear H hA
    by_cases n0 : nm = 0
    · subst n0
      go_enter Tryz.func78, Tryz.ntmps78
      go_wp2
      all_goals (go_ret; exact ⟨by simp_all [tagOk], (Below.refl _ w).alloc (Nat.le_refl _) _⟩)
    · have t3 : (nm == 0) = false := beq_eq_false_iff_ne.2 n0
      go_enter Tryz.func78, Tryz.ntmps78
      go_wp2
      all_goals (go_ret; exact ⟨by simp_all [tagOk]; try rfl, (Below.refl _ w).alloc (Nat.le_refl _) _⟩)
  have t2 : (kd == 2) = false := beq_eq_false_iff_ne.2 k2
  by_cases k3 : kd = 3
  · subst k3
    clear H hA
    by_cases n0 : nm = 0
    · subst n0
      go_enter Tryz.func78, Tryz.ntmps78
      go_wp2_with (go_at_call 114; refine (HH.out _ ((Below.refl _ w).alloc (Nat.le_refl _) _)).mono ?_; rintro e w' ⟨rfl, rfl⟩)
      go_ret
      exact ⟨by simp [tagOk], (Below.refl _ w).alloc (Nat.le_refl _) _⟩
    · have t3 : (nm == 0) = false := beq_eq_false_iff_ne.2 n0
      go_enter Tryz.func78, Tryz.ntmps78
      go_wp2
      go_ret
      exact ⟨by simp [tagOk, n0], (Below.refl _ w).alloc (Nat.le_refl _) _⟩
  have t4 : (kd == 3) = false := beq_eq_false_iff_ne.2 k3
  by_cases k4 : kd = 4
  · subst k4
    clear H hA
    by_cases n0 : nm = 0
    · subst n0
      go_enter Tryz.func78, Tryz.ntmps78
      go_wp2
      all_goals (go_ret; exact ⟨by simp_all [tagOk], (Below.refl _ w).alloc (Nat.le_refl _) _⟩)
    · have t3 : (nm == 0) = false := beq_eq_false_iff_ne.2 n0
      go_enter Tryz.func78, Tryz.ntmps78
      go_wp2
      all_goals (go_ret; exact ⟨by simp_all [tagOk], (Below.refl _ w).alloc (Nat.le_refl _) _⟩)
  have t5 : (kd == 4) = false := beq_eq_false_iff_ne.2 k4
  by_cases k5 : kd = 5
  · subst k5
    have hlk : ∀ n, (Instr.lookup 140 (.map (some M1)) (.string s) false).run Tryz.prog ((w.alloc (.cells #[.int .i64 5, .int .i64 nm, .string s] 39)).drewN n) = .ok (.int .i64 (((clsAt l s).getD 0 : Nat) : Int)) ((w.alloc (.cells #[.int .i64 5, .int .i64 nm, .string s] 39)).drewN n) := fun n => (H.keep (((Below.refl _ w).alloc (Nat.le_refl _) _).trans (drewN_below _ n _))).look s false
    have c0 := H.c0
    have c1 := H.c1
    have hhp := cell_lt c0
    have HH2 := Lib.hid (fun n => HH.out ((w.alloc (.cells #[.int .i64 5, .int .i64 nm, .string s] 39)).drewN n) (((Below.refl _ w).alloc (Nat.le_refl _) _).trans (drewN_below _ n _)))
    have HA2 := Lib.hid (fun n => HA.out ((w.alloc (.cells #[.int .i64 5, .int .i64 nm, .string s] 39)).drewN n) (((Below.refl _ w).alloc (Nat.le_refl _) _).trans (drewN_below _ n _)))
    clear HH HA H hA
    by_cases n0 : nm = 0
    · subst n0
      cases hb : hasB l s with
      | false =>
        have HB := Lib.hid hb
        rw [hb] at HH2
        clear hb
        go_enter Tryz.func78, Tryz.ntmps78
        go_wp2
        go_quiet ((go_at_call 114; exact (HH2.out _).mono fun _ _ ⟨a, b⟩ => ⟨a, _, b⟩))
        go_wp2
        go_ret
        exact ⟨by simp [tagOk, HB.out], ((Below.refl _ w).alloc (Nat.le_refl _) _).trans (drewN_below _ _ _)⟩
      | true =>
        have HB := Lib.hid hb
        rw [hb] at HH2
        clear hb
        obtain ⟨i, hi⟩ : ∃ i, i = (clsAt l s).getD 0 := ⟨_, rfl⟩
        rw [← hi] at hlk
        have HI := Lib.hid hi
        clear hi
        by_cases q : 4 < i
        · have t7 : decide ((4 : Int) < (i : Int)) = true := decide_eq_true (by omega)
          cases ha : absAt l s with
          | false =>
            have HAB := Lib.hid ha
            rw [ha] at HA2
            clear ha
            go_enter Tryz.func78, Tryz.ntmps78
            go_wp2
            go_quiet ((first | (go_at_call 114; exact (HH2.out _).mono fun _ _ ⟨a, b⟩ => ⟨a, _, b⟩) | (go_at_call 122; exact (HA2.out _).mono fun _ _ ⟨a, b⟩ => ⟨a, by obtain ⟨n, rfl⟩ := b; exact ⟨_, World.drewN_drewN _ _ _⟩⟩)))
            go_wp2
            go_ret
            exact ⟨by simp [tagOk, HB.out, HAB.out, ← HI.out, q], ((Below.refl _ w).alloc (Nat.le_refl _) _).trans (drewN_below _ _ _)⟩
          | true =>
            have HAB := Lib.hid ha
            rw [ha] at HA2
            clear ha
            go_enter Tryz.func78, Tryz.ntmps78
            go_wp2
            go_quiet ((first | (go_at_call 114; exact (HH2.out _).mono fun _ _ ⟨a, b⟩ => ⟨a, _, b⟩) | (go_at_call 122; exact (HA2.out _).mono fun _ _ ⟨a, b⟩ => ⟨a, by obtain ⟨n, rfl⟩ := b; exact ⟨_, World.drewN_drewN _ _ _⟩⟩)))
            go_wp2
            go_ret
            exact ⟨by simp [tagOk, HB.out, HAB.out, ← HI.out, q], ((Below.refl _ w).alloc (Nat.le_refl _) _).trans (drewN_below _ _ _)⟩
        · have t7 : decide ((4 : Int) < (i : Int)) = false := decide_eq_false (by omega)
          go_enter Tryz.func78, Tryz.ntmps78
          go_wp2
          go_quiet ((go_at_call 114; exact (HH2.out _).mono fun _ _ ⟨a, b⟩ => ⟨a, _, b⟩))
          go_wp2
          go_ret
          exact ⟨by simp [tagOk, HB.out, ← HI.out, q], ((Below.refl _ w).alloc (Nat.le_refl _) _).trans (drewN_below _ _ _)⟩
    · have t3 : (nm == 0) = false := beq_eq_false_iff_ne.2 n0
      go_enter Tryz.func78, Tryz.ntmps78
      go_wp2
      go_quiet (fail)
      go_wp2
      go_ret
      exact ⟨by simp [tagOk, n0], ((Below.refl _ w).alloc (Nat.le_refl _) _).trans (drewN_below _ _ _)⟩
  have t6 : (kd == 5) = false := beq_eq_false_iff_ne.2 k5
  clear H hA
  go_enter Tryz.func78, Tryz.ntmps78
  go_wp2
  go_ret
  exact ⟨by simp [tagOk, k1, k2, k3, k4, k5], (Below.refl _ w).alloc (Nat.le_refl _) _⟩
set_option maxHeartbeats 4000000 in
set_option maxRecDepth 100000 in
theorem CheckTag_calls (A : Option Addr) (c : Nat) (l : List CI) (t : Tag) (w : World) (hc : l.length ≤ c) (G : Nat → Prop) (h : Held G (CIs A l) w) (ol : ∀ x ∈ l, ciOk x) (hl : l.length ≤ 1000000) :
    Calls Tryz.prog 46 #[.slice A l.length c, tagV t] w fun e w' => Below w.heap.size w w' ∧ ((¬ LookOk l ∧ e = .returned (.int .i64 80)) ∨ (LookOk l ∧ e = .returned (.int .i64 (tagErr l t)))) := by
  have HL := Lib.hid (fun W (hb : Below w.heap.size w W) => look_calls A c l W hc G (h.keep (Keep.all hb)) ol hl)
  obtain ⟨kd, nm, s⟩ := t
  have bt : Below w.heap.size w (w.alloc (.cells #[.int .i64 kd, .int .i64 nm, .string s] 39)) := (Below.refl _ w).alloc (Nat.le_refl _) _
  go_enter Tryz.func46, Tryz.ntmps46
  go_wp2_with (fail)
  have b0 : (w.alloc (.cells #[.int .i64 kd, .int .i64 nm, .string s] 39)).cell? ⟨w.heap.size, 0, none⟩ = some (.int .i64 kd) := cell_new w _ _ _ rfl 0 _ rfl
  have b1 : (w.alloc (.cells #[.int .i64 kd, .int .i64 nm, .string s] 39)).cell? ⟨w.heap.size, 1, none⟩ = some (.int .i64 nm) := cell_new w _ _ _ rfl 1 _ rfl
  have b2 : (w.alloc (.cells #[.int .i64 kd, .int .i64 nm, .string s] 39)).cell? ⟨w.heap.size, 2, none⟩ = some (.string s) := cell_new w _ _ _ rfl 2 _ rfl
  refine (HL.out _ bt).mono ?_
  clear HL
  rintro e w1 ⟨hb, (⟨h1, rfl⟩ | ⟨h1, hp, M1, _, _, rfl, H⟩)⟩
  · have H1 := Lib.hid h1
    clear h1
    have hb' := bt.trans (hb.mono bt.size)
    go_wp2
    go_ret
    exact ⟨hb', .inl ⟨H1.out, rfl⟩⟩
  · have hb' := bt.trans (hb.mono bt.size)
    have d0 := cell_all b0 hb
    have d1 := cell_all b1 hb
    have d2 := cell_all b2 hb
    have HT := Lib.hid (isTag_calls hp M1 A c l ⟨kd, nm, s⟩ w1 H G (h.keep (Keep.all hb')) (by have := h1.2.1; omega))
    have H1 := Lib.hid h1
    clear h1 H h
    go_wp2_with (fail)
    refine HT.out.mono ?_
    clear HT
    rintro e w2 ⟨rfl, hb2⟩
    have hb3 := hb'.trans (hb2.mono hb'.size)
    cases hq : tagOk l ⟨kd, nm, s⟩ with
    | false =>
      have HQ := Lib.hid hq
      clear hq
      go_wp2
      go_ret
      exact ⟨hb3, .inr ⟨H1.out, by unfold tagErr; rw [HQ.out]; rfl⟩⟩
    | true =>
      have HQ := Lib.hid hq
      clear hq
      go_wp2
      go_ret
      exact ⟨hb3, .inr ⟨H1.out, by unfold tagErr; rw [HQ.out]; rfl⟩⟩
end Go.Proofs.YtepnmejahbiacaaGreat
