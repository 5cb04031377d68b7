/- C3j + C3k: texts joined. -/
import Derived.Test.YtepnmejahbiacaaC3h
import Derived.Recover
/- c3.caught, tried, All, Linearize. -/
set_option linter.unusedVariables false
set_option linter.unusedSimpArgs false
namespace Go.Proofs.Ytepnmejahbiacaa
open Go.RowKit

set_option maxHeartbeats 4000000 in
set_option maxRecDepth 100000 in
theorem caught_calls (eb : Nat) (j : Int) (w : World) (v0 : Value) (hc : w.cell? ⟨eb, 0, none⟩ = some v0) (hf : w.frozen? ⟨eb, 0, none⟩ = false) :
    CallsD Try.prog 89 #[.pointer (some ⟨eb, 0, none⟩)] (.panicking [{ v := .iface 155 (.agg #[.int .i64 j]), recovered := false }]) w fun e u' w' =>
      e = .returned (.tuple #[]) ∧ u' = .panicking [{ v := .iface 155 (.agg #[.int .i64 j]), recovered := true }] ∧ Chg (fun b => b = eb) w w' ∧ w'.cell? ⟨eb, 0, none⟩ = some (.int .i64 71) := by
  have hta : ∀ w, (Instr.typeAssert (.iface 155 (.agg #[.int .i64 j])) 20 155 true).run Try.prog w = .ok (.tuple #[.agg #[.int .i64 j], .bool true]) w := fun w => by kernel_rfl
  have hc' : ∀ cs T, (w.alloc (.cells cs T)).cell? ⟨eb, 0, none⟩ = some v0 := fun _ _ => alloc_cell hc
  have hf' : ∀ cs T, (w.alloc (.cells cs T)).frozen? ⟨eb, 0, none⟩ = false := fun _ _ => alloc_frozen hc hf
  refine callsD_of_wpS Try.func89 rfl fun c₀ cs hu => ?_
  apply wpS_seq
  apply wpS_region
  simp [wpOpsS, go_sem, recoverD, hu, Try.ntmps89, Exit.thenS, Array.replicate]
  refine wpS_of_wp ?_
  go_wp2
  refine ⟨rfl, _, rfl, _, results_none rfl _ _ _, rfl, rfl, (Chg.alloc _ _).trans (Chg.setCell (S := fun b => b = eb) _ rfl _), World.cell?_setCell_same' _ _ _ (by rw [hc']; rfl)⟩
theorem caught_idle (eb : Nat) (w : World) :
    CallsD Try.prog 89 #[.pointer (some ⟨eb, 0, none⟩)] .returning w fun e u' w' => e = .returned (.tuple #[]) ∧ u' = .returning ∧ w' = w := by
  refine callsD_of_wpS Try.func89 rfl fun c₀ cs hu => ?_
  apply wpS_seq
  apply wpS_region
  simp [wpOpsS, go_sem, recoverD, hu, Try.ntmps89, Exit.thenS, Array.replicate]
  refine wpS_of_wp ?_
  go_wp2
  refine ⟨rfl, _, ?_, _, results_none rfl _ _ _, rfl, rfl, rfl⟩
  cases c₀
  simp_all

/-- What trying a line comes to. -/
def TriedPost (hp M1 M2 : Nat) (A : Option Addr) (c : Nat) (g : List Heir) (B : Nat → Prop) (i : Nat) (w : World) (e : Ending) (w' : World) : Prop :=
  Chg (fun b => b = M2) w w' ∧
  ((∃ x A' c', line g i = some x ∧ e = .returned (.tuple #[.slice A' x.length c', .int .i64 0]) ∧ x.length ≤ c' ∧ Held (fun b => ¬ B b ∧ b ≠ M2) (Strs A' x) w' ∧ TreeInv hp M1 M2 A c g B w') ∨
   (line g i = none ∧ e = .returned (.tuple #[.slice none 0 0, .int .i64 71])))
set_option maxHeartbeats 4000000 in
set_option maxRecDepth 100000 in
theorem tried_calls (hp M1 M2 : Nat) (A : Option Addr) (c : Nat) (g : List Heir) (hck : c3Check g = 0) (i : Nat) (hi : i < g.length) (B : Nat → Prop) (w : World) (hB : ∀ b, B b → b < w.heap.size) (hT : TreeInv hp M1 M2 A c g B w) :
    Calls Try.prog 81 #[.pointer (some ⟨hp, 0, none⟩), .int .i64 (i : Int)] w (TriedPost hp M1 M2 A c g B i w) := by
  have hb0 : Below w.heap.size w (w.alloc (.cells #[.int .i64 0] 27)) := (Below.refl _ w).alloc (Nat.le_refl _) _
  have hT0 : TreeInv hp M1 M2 A c g (fun b => B b ∨ b = w.heap.size) _ := hT.others (Chg.of hb0) (fun b _ h => by rcases h with h | h; exact .inl h; exact .inr (by omega))
  have hM2 : M2 < w.heap.size := by obtain ⟨_, tr, _⟩ := hT.tr; exact tr.ln.lt
  have HL := Lib.hid (line_calls hp M1 M2 A c g hck i hi _ _ (fun b hb => by rcases hb with hb | hb; (have := hB b hb; simp; omega); (simp; omega)) hT0)
  clear hT hck
  go_enter_defers Try.func81, Try.ntmps81
  go_wp2_with (fail)
  refine HL.out.mono ?_
  have e0 : (w.alloc (.cells #[.int .i64 0] 27)).cell? ⟨w.heap.size, 0, none⟩ = some (.int .i64 0) := cell_new w _ _ _ rfl 0 _ rfl
  have f0 : (w.alloc (.cells #[.int .i64 0] 27)).frozen? ⟨w.heap.size, 0, none⟩ = false := by unfold World.frozen?; rw [heap_alloc_new]; rfl
  have hsz : (w.alloc (.cells #[.int .i64 0] 27)).heap.size = w.heap.size + 1 := by simp
  rintro e W1 ⟨hch, (⟨x, A', c', q1, rfl, q2, q3, q4⟩ | ⟨q1, ch, rfl, q2⟩)⟩
  · have hbk := hch.block w.heap.size (by omega) (by omega)
    have e1 : W1.cell? ⟨w.heap.size, 0, none⟩ = some (.int .i64 0) := (World.cell?_of_block (a := ⟨w.heap.size, 0, none⟩) hbk).trans e0
    have f1 : W1.frozen? ⟨w.heap.size, 0, none⟩ = false := (World.frozen?_of_block (a := ⟨w.heap.size, 0, none⟩) hbk).trans f0
    go_wp2
    refine leaves_cons (f := 89) (args := #[.pointer (some ⟨w.heap.size, 0, none⟩)]) (by simp) (by kernel_rfl) ?_
    refine (caught_idle w.heap.size _).mono ?_
    rintro e u' w'' ⟨rfl, rfl, rfl⟩
    have e2 : (W1.setCell ⟨w.heap.size, 0, none⟩ (.int .i64 0)).cell? ⟨w.heap.size, 0, none⟩ = some (.int .i64 0) := World.cell?_setCell_same' _ _ _ (by rw [e1]; rfl)
    have cs := Chg.setCell (S := fun b => B b ∨ b = w.heap.size) W1 (p := ⟨w.heap.size, 0, none⟩) (.inr rfl) (.int .i64 0)
    have cq : Chg (fun b => b = M2) w (W1.setCell ⟨w.heap.size, 0, none⟩ (.int .i64 0)) := (((Chg.of hb0).trans (hch.mono (S' := fun b => b = M2 ∨ b = w.heap.size) fun b _ h => .inl h)).trans (Chg.setCell (S := fun b => b = M2 ∨ b = w.heap.size) W1 (p := ⟨w.heap.size, 0, none⟩) (.inr rfl) (.int .i64 0))).mono fun b hb h => by rcases h with h | h; exact h; omega
    refine ⟨.tuple #[.slice A' x.length c', .int .i64 0], ?_, cq, .inl ⟨x, A', c', q1, rfl, q2, ?_, ?_⟩⟩
    · simp [results, Try.results81, go_sem, e2]
    · exact (q3.keep (cs.keep fun b h => h.1)).mono fun b _ h => ⟨fun q => h.1 (.inl q), h.2⟩
    · exact (q4.others cs (B' := fun b => B b ∨ b = w.heap.size) fun b _ h => .inl h).fewer fun b h => .inl h
  · obtain ⟨j, rfl⟩ := q2
    have hbk := hch.block w.heap.size (by omega) (by omega)
    have e1 : W1.cell? ⟨w.heap.size, 0, none⟩ = some (.int .i64 0) := (World.cell?_of_block (a := ⟨w.heap.size, 0, none⟩) hbk).trans e0
    have f1 : W1.frozen? ⟨w.heap.size, 0, none⟩ = false := (World.frozen?_of_block (a := ⟨w.heap.size, 0, none⟩) hbk).trans f0
    refine leaves_cons (f := 89) (args := #[.pointer (some ⟨w.heap.size, 0, none⟩)]) (by simp) (by kernel_rfl) ?_
    refine (caught_calls w.heap.size j _ _ e1 f1).mono ?_
    rintro e u' w'' ⟨rfl, rfl, h1, h2⟩
    refine ⟨.tuple #[.slice none 0 0, .int .i64 71], ?_, ?_, .inr ⟨q1, rfl⟩⟩
    · simp [results, Try.results81, go_sem, h2]
    · exact (((Chg.of hb0).trans (hch.mono (S' := fun b => b = M2 ∨ b = w.heap.size) fun b _ h => .inl h)).trans (h1.mono (S' := fun b => b = M2 ∨ b = w.heap.size) fun b _ h => .inr h)).mono fun b hb h => by rcases h with h | h; exact h; omega
end Go.Proofs.Ytepnmejahbiacaa

/- c3.All. -/
namespace Go.Proofs.Ytepnmejahbiacaa
open Go.RowKit

/-- What c3.All comes to. -/
def allPost (T : Nat) (g : List Heir) (w : World) (e : Ending) (w' : World) : Prop :=
  Below w.heap.size w w' ∧
  ((c3Check g ≠ 0 ∧ e = .returned (.tuple #[.slice none 0 0, .int .i64 0, .int .i64 (c3Check g)])) ∨
   (c3Check g = 0 ∧ ∃ i, i < g.length ∧ (∀ j, j < i → (line g j).isSome = true) ∧ line g i = none ∧ e = .returned (.tuple #[.slice none 0 0, .int .i64 (i : Int), .int .i64 71])) ∨
   (c3Check g = 0 ∧ ∃ ls v S, ls.length = g.length ∧ (∀ (i : Nat) (x : List ByteArray), ls[i]? = some x → line g i = some x) ∧ e = .returned (.tuple #[v, .int .i64 0, .int .i64 0]) ∧ Own lstR T 1 w.heap.size S v ls w' ∧ ∀ b, S b → w.heap.size ≤ b))

theorem OwnStr.pure {T base : Nat} {G G' : Nat → Prop} {v : Value} {l : List ByteArray} {w : World} (h : Own strR T 1 base G v l w) : Own strR T 1 base G' v l w := by
  obtain ⟨xs, h1, h2⟩ := h
  exact ⟨xs, h1, h2.imp fun _ _ hx => fun _ _ => hx.now⟩
set_option maxHeartbeats 8000000 in
set_option maxRecDepth 100000 in
theorem all_calls (A : Option Addr) (c : Nat) (g : List Heir) (w : World) (h : Heirs A g w) (hl : g.length ≤ 1000000) (hgs : ∀ x ∈ g, x.supers.length ≤ 1000000) :
    Calls Try.prog 54 #[.slice A g.length c] w (allPost 23 g w) := by
  have H := (Slc.stable heirR_stable h).here
  have HO := Lib.hid (c3open_calls A c g ⟨#[]⟩ w h hl hgs)
  clear h
  go_enter Try.func54, Try.ntmps54
  go_wp2_with (fail)
  refine HO.out.mono ?_
  clear HO
  rintro e W1 ⟨hb1, (⟨hne, rfl⟩ | ⟨hz, hp, M1, M2, n1, n2, n3, n4, tr, he⟩)⟩
  · have hne' : c3Check g = 2 ∨ c3Check g = 70 := by
      unfold c3Check at hne ⊢
      split
      · exact .inl rfl
      · split
        · rename_i h1 h2; rw [if_neg h1, if_pos h2] at hne; exact absurd rfl hne
        · exact .inr rfl
    rcases hne' with hq | hq
    · rw [hq]
      go_wp2
      go_ret3
      exact ⟨hb1, .inl ⟨hne, by rw [hq]; rfl⟩⟩
    · rw [hq]
      go_wp2
      go_ret3
      exact ⟨hb1, .inl ⟨hne, by rw [hq]; rfl⟩⟩
  · have hz' := Lib.hid hz
    have hgl := (c3Check_zero hz).1
    have hTree : TreeInv hp M1 M2 A c g (fun _ => False) W1 := by
      obtain ⟨es, cc, m, hbm, _⟩ := tr.ln
      have hne : hp ≠ M2 := by
        rintro rfl
        have := tr.c0
        unfold World.cell? at this
        rw [show (⟨hp, 0, none⟩ : Addr).block = hp from rfl, hbm] at this
        simp at this
      exact ⟨⟨id, id, id, n4, hne⟩, (H.keep (Keep.below hb1)).mono fun b _ hb => ⟨id, by omega⟩, _, tr, fun s v hv => by cases hv⟩
    have he' : ∃ (k : Int) (x : Int), (x = 0 ∨ x = 3) ∧ e = .returned (.tuple #[.pointer (some ⟨hp, 0, none⟩), .int .i64 k, .int .i64 x]) := by
      rcases he with ⟨i, _, rfl⟩ | ⟨_, rfl⟩
      · exact ⟨_, 0, .inl rfl, rfl⟩
      · exact ⟨_, 3, .inr rfl, rfl⟩
    clear he hz tr
    obtain ⟨k0, x0, hx0, rfl⟩ := he'
    rcases hx0 with rfl | rfl
    all_goals go_wp2
    all_goals
      go_loopw [8, 27] (fun v i wr => ∃ k : Nat, k ≤ g.length ∧ i = .int .i64 k ∧ Below w.heap.size w wr ∧ TreeInv hp M1 M2 A c g (fun b => v.ownBlock = some b) wr ∧
        ∃ ls S, ls.length = k ∧ (∀ (i : Nat) (x : List ByteArray), ls[i]? = some x → line g i = some x) ∧ Own lstR 23 1 w.heap.size S v ls wr ∧ ∀ b, S b → w.heap.size ≤ b ∧ b < wr.heap.size ∧ b ≠ M2 ∧ v.ownBlock ≠ some b) (fun _ i _ => g.length - (intOf i).toNat)
      case atStart => exact ⟨0, Nat.zero_le _, rfl, hb1, hTree.fewer (fun b h => by simp [Value.ownBlock] at h), [], fun _ => False, rfl, (fun i x h => by simp at h), Own.nil _ _ _ _ _ _, fun b h => h.elim⟩
      case round =>
        clear hTree hb1
        obtain ⟨k, hk, rfl, hbr, hT, ls, S, rfl, l2, l3, l4⟩ := hrel
        by_cases hlt : ls.length < g.length
        · have HTR := Lib.hid (tried_calls hp M1 M2 A c g hz'.out ls.length hlt _ wr (fun b hb => (l3.lt b hb).2) hT)
          obtain ⟨Av, cv, rfl, _, _⟩ := l3.out
          have l0 : ls.length < g.length := hlt
          go_wp2_with (fail)
          refine HTR.out.mono ?_
          clear HTR
          rintro e W2 ⟨hch, (⟨x, A2, c2, q1, rfl, q2, q3, q4⟩ | ⟨q1, rfl⟩)⟩
          · have hx := line_length (c3Check_zero hz'.out).2 q1
            have HCL := Lib.hid (cloneStr_calls A2 c2 x _ W2 q3 (by omega))
            have s2 := hch.size
            have s1 := hbr.size
            have nb := hT.nb
            have hM2w : M2 < wr.heap.size := by obtain ⟨_, tr, _⟩ := hT.tr; exact tr.ln.lt
            have l3' : Own lstR 23 1 w.heap.size S (Value.slice Av ls.length cv) ls W2 := l3.keep (hch.keep fun b hb => (l4 b hb).2.2.1) fun b hb => hch.block b (l3.lt b hb).2 (fun e => nb.2.2.1 (by rw [← e]; exact hb))
            have bl2 : Below w.heap.size w W2 := hbr.trans (hch.below s1 (fun b hb => by omega))
            clear l3 hT
            go_wp2_with (fail)
            refine HCL.out.mono ?_
            clear HCL
            rintro e W3 ⟨vc, rfl, hown, hb3⟩
            obtain ⟨Ac, cc, rfl, p1, _⟩ := hown.out
            have s3 := hb3.size
            have hc3 : Held (fun b => (Value.slice Ac x.length cc).ownBlock = some b) (Strs Ac x) W3 := by
              obtain ⟨Ac', cc', e, _, hh⟩ := (OwnStr.pure (G' := fun _ => False) hown).out
              cases e
              exact hh.mono fun b _ h => by rcases h with h | h; exact h.elim; exact h
            have l3'' := l3'.all hb3
            go_wp2_with (at_builtin; refine wp_append_one lstR 23 1 w.heap.size 24 (fun b => S b ∨ (Value.slice Ac x.length cc).ownBlock = some b) _ rfl _ _ 100 _ rfl Try.underlying100 info23 rfl (by decide) (by decide) (Value.slice Av ls.length cv) ls rfl ?_ ⟨W3.heap.size, 0, none⟩ 1 rfl x [.slice Ac x.length cc] rfl ?_ ?_ (lstR.mk p1 ((hc3.mono fun b _ h => .inr h).keep (Keep.alloc _ _ _))) ?_ ?_ ?_ ?_; rotate_right 1; intro v' w5 hown' hgrow hat)
            · have hlen : (ls ++ [x]).length = ls.length + 1 := by simp
              have hown2 : ∀ b, v'.ownBlock = some b → (Value.slice Av ls.length cv).ownBlock = some b ∨ W3.heap.size < b := fun b hb => by
                rcases hat with h | h
                · exact .inl (h ▸ hb)
                · rw [h] at hb; simp at hb; exact .inr (by omega)
              have c5 : Chg (fun b => (Value.slice Av ls.length cv).ownBlock = some b) W2 w5 := ((Chg.of hb3).trans (Chg.alloc _ _)).trans (Chg.grown hgrow fun b hb => hb)
              have s5 := hgrow.size
              rw [World.size_alloc] at s5
              refine ⟨⟨ls.length + 1, by omega, by go_num, bl2.trans (c5.below (by omega) fun b hb => (l3'.lt b hb).1), q4.others c5 (fun b _ hb => by rcases hown2 b hb with h | h; exact .inl h; exact .inr (by omega)), ls ++ [x], _, hlen, ?_, hown', ?_⟩, by simp [intOf]; omega⟩
              · intro i y hy
                rcases Nat.lt_or_ge i ls.length with hi | hi
                · rw [List.getElem?_append_left hi] at hy; exact l2 i y hy
                · have := (List.getElem?_eq_some_iff.1 hy).1
                  obtain rfl : i = ls.length := by omega
                  rw [List.getElem?_append_right (Nat.le_refl _), Nat.sub_self] at hy
                  cases hy
                  exact q1
              · intro b hb
                rcases hb with hb | hb
                · obtain ⟨h1, h2, h3, h4⟩ := l4 b hb
                  exact ⟨h1, by omega, h3, fun e => by rcases hown2 b e with h | h; exact h4 h; omega⟩
                · obtain ⟨h1, h2⟩ := hown.lt b hb
                  exact ⟨by omega, by omega, by omega, fun e => by
                    rcases hown2 b e with h | h
                    · have := (l3'.lt b h).2; omega
                    · omega⟩
            · exact (l3''.mono fun b _ h => .inl h).alloc _
            · exact fun j u hu => cells_new W3 _ _ _ rfl j u hu
            · intro u hu; simp at hu; subst hu; rfl
            · intro b hb
              rcases hb with hb | hb
              · exact (l4 b hb).2.2.2
              · exact fun e => by have := (l3'.lt b e).2; have := (hown.lt b hb).1; omega
            · simp; omega
            · omega
          · go_wp2_with (fail)
            go_ret3
            refine ⟨hbr.trans (hch.below hbr.size fun b hb => by omega), .inr (.inl ⟨hz'.out, ls.length, hlt, fun j hj => ?_, q1, rfl⟩)⟩
            rw [l2 j _ (List.getElem?_eq_getElem hj)]; rfl
        · have l1 : ls.length = g.length := by omega
          go_wp2_with (fail)
          go_ret3
          exact ⟨hbr, .inr (.inr ⟨hz'.out, ls, u8, S, l1, l2, rfl, l3, fun b hb => (l4 b hb).1⟩)⟩
end Go.Proofs.Ytepnmejahbiacaa
