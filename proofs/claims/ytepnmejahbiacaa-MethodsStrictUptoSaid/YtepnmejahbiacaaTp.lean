/- methods.TypePrecedes and methods.Within. -/
import Derived.Test.YtepnmejahbiacaaLb
import Derived.Deep.RegionHeld3
set_option linter.unusedVariables false
set_option linter.unusedSimpArgs false
namespace Go.Proofs.Ytepnmejahbiacaa
open Go.RowKit

/-- A type as an argument: its cells are there. -/
structure TyIn (W : World) (t : Ty) (A : Option Addr) (c : Nat) : Prop where
  h1 : t.args.length ≤ c
  h2 : ∃ G, Held G (Typs A t.args) W
  hs : TySmall t
theorem TyIn.keep {W V : World} {t : Ty} {A : Option Addr} {c : Nat} (h : TyIn W t A c) (b : Below W.heap.size W V) : TyIn V t A c := ⟨h.h1, h.h2.imp fun _ h => h.keep (Keep.all b), h.hs⟩
/-- A hierarchy as an argument. -/
structure HiIn (W : World) (AH : Option Addr) (cH : Nat) (l : List CI) : Prop where
  h : ∃ G, Held G (CIs AH l) W
  hcH : l.length ≤ cH
  ol : ∀ x ∈ l, ciOk x
  hl : l.length ≤ 1000000
theorem HiIn.keep {W V : World} {AH : Option Addr} {cH : Nat} {l : List CI} (h : HiIn W AH cH l) (b : Below W.heap.size W V) : HiIn V AH cH l := ⟨h.h.imp fun _ h => h.keep (Keep.all b), h.hcH, h.ol, h.hl⟩
theorem Asks.hi {AH : Option Addr} {cH : Nat} {l : List CI} {A : Option Addr} {ms : List Meth} {AT : Option Addr} {ts : List Tag} {W : World} (q : Asks AH cH l A ms AT ts W) : HiIn W AH cH l := ⟨q.h, q.hcH, q.ol, q.hl⟩
theorem pos_of_kept {W : World} {a : Addr} {v : Value} (h : W.cell? a = some v) (o : Obj) : (W.alloc o).cell? a = some v := alloc_cell' h

set_option maxHeartbeats 16000000 in
set_option maxRecDepth 100000 in
theorem typePrecedes_calls (AH : Option Addr) (cH : Nat) (l : List CI) (s t : Ty) (As At : Option Addr) (cs ct : Nat) (v : Tag) (W : World) (hi : HiIn W AH cH l) (hs : TyIn W s As cs) (ht : TyIn W t At ct) :
    Calls Try.prog 27 #[.slice AH l.length cH, tyV s As cs, tyV t At ct, tagV v] W fun e W' => e = .returned (.bool (tpR l v s t)) ∧ Below W.heap.size W W' := by
  obtain ⟨Wa, hWa⟩ : ∃ Wa, Wa = W.alloc (.cells #[.int .i64 s.kind, .string s.name, .int .i64 s.lo, .int .i64 s.hi, .slice As s.args.length cs] 35) := ⟨_, rfl⟩
  obtain ⟨Wb, hWb⟩ : ∃ Wb, Wb = Wa.alloc (.cells #[.int .i64 t.kind, .string t.name, .int .i64 t.lo, .int .i64 t.hi, .slice At t.args.length ct] 35) := ⟨_, rfl⟩
  obtain ⟨W1, hW1⟩ : ∃ W1, W1 = Wb.alloc (.cells #[.int .i64 v.kind, .int .i64 v.num, .string v.name] 25) := ⟨_, rfl⟩
  have za : Wa.heap.size = W.heap.size + 1 := by rw [hWa]; simp
  have zb : Wb.heap.size = W.heap.size + 2 := by rw [hWb]; simp [za]
  have b0 : Below W.heap.size W Wa := by rw [hWa]; exact (Below.refl _ W).alloc (Nat.le_refl _) _
  have ba : Below Wa.heap.size Wa Wb := by rw [hWb]; exact (Below.refl _ Wa).alloc (Nat.le_refl _) _
  have bb : Below Wb.heap.size Wb W1 := by rw [hW1]; exact (Below.refl _ Wb).alloc (Nat.le_refl _) _
  have b1 : Below W.heap.size W W1 := below_step (below_step b0 ba) bb
  have xs : ∀ j u, [Value.int .i64 s.kind, .string s.name, .int .i64 s.lo, .int .i64 s.hi, .slice As s.args.length cs][j]? = some u → W1.cell? ⟨W.heap.size, j, none⟩ = some u := fun j u hj => cell_all (by rw [hWa]; exact cell_new W _ _ _ rfl j u hj) (below_step ba bb)
  have xt : ∀ j u, [Value.int .i64 t.kind, .string t.name, .int .i64 t.lo, .int .i64 t.hi, .slice At t.args.length ct][j]? = some u → W1.cell? ⟨W.heap.size + 1, j, none⟩ = some u := fun j u hj => cell_all (by rw [hWb]; exact cell_new Wa _ _ _ za.symm j u hj) bb
  have xv : ∀ j u, [Value.int .i64 v.kind, .int .i64 v.num, .string v.name][j]? = some u → W1.cell? ⟨W.heap.size + 2, j, none⟩ = some u := fun j u hj => by rw [hW1]; exact cell_new Wb _ _ _ zb.symm j u hj
  have XS := Lib.hid xs
  have XT := Lib.hid xt
  have XV := Lib.hid xv
  have HI := Lib.hid hi
  have HS := Lib.hid hs
  have HT := Lib.hid ht
  have HCT : Hid (∀ V, Below W.heap.size W V → Calls Try.prog 11 #[.slice AH l.length cH, tagV v] V fun e V' => Below V.heap.size V V' ∧ ((¬ LookOk l ∧ e = .returned (.int .i64 80)) ∨ (LookOk l ∧ e = .returned (.int .i64 (tagErr l v))))) := Lib.hid (fun V hv => by
    obtain ⟨G, h⟩ := (HI.out.keep hv).h
    exact CheckTag_calls AH cH l v V HI.out.hcH G h HI.out.ol HI.out.hl)
  have HHA : Hid (∀ V x A c, Below W.heap.size W V → TyIn W x A c → Calls Try.prog 45 #[.slice AH l.length cH, tagV v, tyV x A c] V fun e V' => Below V.heap.size V V' ∧ ((HasOk l v x ∧ e = .returned (.bool true)) ∨ (¬ HasOk l v x ∧ e = .returned (.bool false)))) := Lib.hid (fun V x A c hv hx => by
    obtain ⟨G, h⟩ := (HI.out.keep hv).h
    obtain ⟨G2, h2⟩ := (hx.keep hv).h2
    exact Has_calls AH cH l v x A c V HI.out.hcH G h HI.out.ol HI.out.hl G2 h2 hx.h1 hx.hs)
  have HR : Hid (tpR l v s t = true ↔ HasOk l v s ∧ HasOk l v t ∧ cmpT l (cplAt l v) s t = 1) := Lib.hid tpR_iff
  have HF : Hid (∀ (P : Prop), (tpR l v s t = true → P) → ¬ P → tpR l v s t = false) := Lib.hid (fun P h1 h2 => by
    cases h : tpR l v s t with
    | false => rfl
    | true => exact (h2 (h1 h)).elim)
  clear xs xt xv hi hs ht b0 ba bb za zb
  subst hW1 hWb hWa
  have c0 := XV.out 0 _ rfl
  have c1 := XV.out 1 _ rfl
  have c2 := XV.out 2 _ rfl
  go_enter Try.func27, Try.ntmps27
  go_wp2_with (fail)
  refine (HCT.out _ b1).mono ?_
  clear HCT
  rintro e V ⟨hbv, hE⟩
  have q1 := below_step b1 hbv
  by_cases hok : LookOk l ∧ tagOk l v = true
  rotate_left
  · have HE : Hid (tpR l v s t = false) := Lib.hid (HF.out _ (fun h => ⟨(HR.out.1 h).1.1, (HR.out.1 h).1.2.1⟩) hok)
    obtain ⟨ce, rfl, hce⟩ : ∃ ce, e = .returned (.int .i64 ce) ∧ ce ≠ 0 := by
      rcases hE with ⟨_, rfl⟩ | ⟨q, rfl⟩
      · exact ⟨_, rfl, by decide⟩
      · refine ⟨_, rfl, ?_⟩
        unfold tagErr
        rw [if_neg (fun h => hok ⟨q, h⟩)]
        decide
    have t1 : (ce != 0) = true := by rw [bne_iff_ne]; exact hce
    clear hE hok hce
    go_wp2
    go_ret
    exact ⟨(by rw [HE.out]; try rfl), q1⟩
  obtain rfl : e = .returned (.int .i64 0) := by
    rcases hE with ⟨q, rfl⟩ | ⟨q, rfl⟩
    · exact (q hok.1).elim
    · unfold tagErr; rw [if_pos hok.2]
  have HOK := Lib.hid hok
  clear hE hok c0 c1 c2
  have s0 := cell_all (XS.out 0 _ rfl) hbv
  have s1 := cell_all (XS.out 1 _ rfl) hbv
  have s2 := cell_all (XS.out 2 _ rfl) hbv
  have s3 := cell_all (XS.out 3 _ rfl) hbv
  have s4 := cell_all (XS.out 4 _ rfl) hbv
  have c0 := cell_all (XV.out 0 _ rfl) hbv
  have c1 := cell_all (XV.out 1 _ rfl) hbv
  have c2 := cell_all (XV.out 2 _ rfl) hbv
  go_wp2_with (fail)
  refine (HHA.out V s As cs q1 HS.out).mono ?_
  rintro e V2 ⟨hb2, (⟨h1, rfl⟩ | ⟨h1, rfl⟩)⟩
  rotate_left
  · have HE : Hid (tpR l v s t = false) := Lib.hid (HF.out _ (fun h => (HR.out.1 h).1) h1)
    have q2 := below_step q1 hb2
    clear h1
    go_wp2
    go_ret
    exact ⟨(by rw [HE.out]; try rfl), q2⟩
  have H1 := Lib.hid h1
  have q2 := below_step q1 hb2
  have hv2 := below_step hbv hb2
  clear h1 s0 s1 s2 s3 s4 c0 c1 c2
  have t0 := cell_all (XT.out 0 _ rfl) hv2
  have t1 := cell_all (XT.out 1 _ rfl) hv2
  have t2 := cell_all (XT.out 2 _ rfl) hv2
  have t3 := cell_all (XT.out 3 _ rfl) hv2
  have t4 := cell_all (XT.out 4 _ rfl) hv2
  have c0 := cell_all (XV.out 0 _ rfl) hv2
  have c1 := cell_all (XV.out 1 _ rfl) hv2
  have c2 := cell_all (XV.out 2 _ rfl) hv2
  go_wp2_with (fail)
  refine (HHA.out V2 t At ct q2 HT.out).mono ?_
  clear HHA
  rintro e V3 ⟨hb3, (⟨h2, rfl⟩ | ⟨h2, rfl⟩)⟩
  rotate_left
  · have HE : Hid (tpR l v s t = false) := Lib.hid (HF.out _ (fun h => (HR.out.1 h).2.1) h2)
    have q3 := below_step q2 hb3
    clear h2
    go_wp2
    go_ret
    exact ⟨(by rw [HE.out]; try rfl), q3⟩
  have q3 := below_step q2 hb3
  have hv3 := below_step hv2 hb3
  have HE : Hid (tpR l v s t = (cmpT l (cplAt l v) s t == 1)) := Lib.hid (by
    rw [Bool.eq_iff_iff, HR.out, beq_iff_eq]
    exact ⟨fun h => h.2.2, fun h => ⟨H1.out, h2, h⟩⟩)
  clear h2 t0 t1 t2 t3 t4 c0 c1 c2
  have s0 := cell_all (XS.out 0 _ rfl) hv3
  have s1 := cell_all (XS.out 1 _ rfl) hv3
  have s2 := cell_all (XS.out 2 _ rfl) hv3
  have s3 := cell_all (XS.out 3 _ rfl) hv3
  have s4 := cell_all (XS.out 4 _ rfl) hv3
  have t0 := cell_all (XT.out 0 _ rfl) hv3
  have t1 := cell_all (XT.out 1 _ rfl) hv3
  have t2 := cell_all (XT.out 2 _ rfl) hv3
  have t3 := cell_all (XT.out 3 _ rfl) hv3
  have t4 := cell_all (XT.out 4 _ rfl) hv3
  have c0 := cell_all (XV.out 0 _ rfl) hv3
  have c1 := cell_all (XV.out 1 _ rfl) hv3
  have c2 := cell_all (XV.out 2 _ rfl) hv3
  obtain ⟨V4, hV4⟩ : ∃ V4, V4 = (V3.alloc (.cells #[.int .i64 v.kind, .int .i64 v.num, .string v.name] 25)).drew := ⟨_, rfl⟩
  have b4 : Below V3.heap.size V3 V4 := by rw [hV4]; exact ((Below.refl _ V3).alloc (Nat.le_refl _) _).drew
  have HOP : Hid (Calls Try.prog 46 #[.slice AH l.length cH, .slice (some ⟨V3.heap.size, 0, none⟩) 1 1] (V3.alloc (.cells #[.int .i64 v.kind, .int .i64 v.num, .string v.name] 25)).drew fun e U' => ∃ cp A2 c2, e = .returned (.pointer (some ⟨cp, 0, none⟩)) ∧ Below V3.heap.size V3 U' ∧ Below V4.heap.size V4 U' ∧ OpenAt cp AH cH l (some ⟨V3.heap.size, 0, none⟩) 1 [v] A2 c2 U') := Lib.hid (by
    have hU := below_step q3 b4
    obtain ⟨G, h⟩ := (HI.out.keep hU).h
    have hT := rows1 (R := tagR) (n := V3.heap.size) (w := V3) (G := fun _ => True) (x := v) 25 rfl (tagR_stable _ _ _ rfl) rfl
    have hT4 := hT.keep (Keep.drew _ _)
    rw [← hV4]
    refine (opened_calls AH cH l (some ⟨V3.heap.size, 0, none⟩) 1 [v] V4 G h HI.out.hcH HI.out.ol HI.out.hl _ (by rw [hV4]; exact hT4) (by simp) HOK.out.1 (by simpa using HOK.out.2)).mono ?_
    rintro e w' ⟨cp, A2, c2, rfl, z1, z2, z3, z4, z5, z6⟩
    exact ⟨cp, A2, c2, rfl, below_step b4 z1, z1, z3, z4, z5, z6⟩)
  rw [hV4] at HOP
  clear hV4
  have HCM : Hid (∀ U cp AT cT A2 c2, Below V3.heap.size V3 U → OpenAt cp AH cH l AT cT [v] A2 c2 U → Calls Try.prog 47 #[.pointer (some ⟨cp, 0, none⟩), tyV s As cs, tyV t At ct, .int .i64 0] U fun e U' => e = .returned (.int .i64 (cmpT l (cplAt l v) s t)) ∧ Below U.heap.size U U') := Lib.hid (fun U cp AT cT A2 c2 hu ho => by
    have hU := below_step q3 hu
    obtain ⟨G, h⟩ := (HI.out.keep hU).h
    obtain ⟨Gs, h1⟩ := (HS.out.keep hU).h2
    obtain ⟨Gt, h2⟩ := (HT.out.keep hU).h2
    exact compared_calls cp AH cH l AT cT [v] A2 c2 U ho G h HI.out.hl HI.out.ol (fun t _ => cplAt_short HOK.out.1 t) (by simp) 0 v rfl s t As At cs ct Gs Gt h1 h2 HS.out.hs.1 HT.out.hs.1)
  have HOK' := HOK
  clear HI HS HT HR HF H1 HOK XS XT XV b4
  go_wp2_with (fail)
  go_region_held3 (fun w' => Below V3.heap.size V3 w' ∧ w'.cell? ⟨W.heap.size, 0, none⟩ = some (.int .i64 s.kind) ∧ w'.cell? ⟨W.heap.size, 1, none⟩ = some (.string s.name) ∧ w'.cell? ⟨W.heap.size, 2, none⟩ = some (.int .i64 s.lo) ∧ w'.cell? ⟨W.heap.size, 3, none⟩ = some (.int .i64 s.hi) ∧ w'.cell? ⟨W.heap.size, 4, none⟩ = some (.slice As s.args.length cs) ∧
      w'.cell? ⟨W.heap.size + 1, 0, none⟩ = some (.int .i64 t.kind) ∧ w'.cell? ⟨W.heap.size + 1, 1, none⟩ = some (.string t.name) ∧ w'.cell? ⟨W.heap.size + 1, 2, none⟩ = some (.int .i64 t.lo) ∧ w'.cell? ⟨W.heap.size + 1, 3, none⟩ = some (.int .i64 t.hi) ∧ w'.cell? ⟨W.heap.size + 1, 4, none⟩ = some (.slice At t.args.length ct) ∧
      w'.cell? ⟨W.heap.size + 2, 0, none⟩ = some (.int .i64 v.kind) ∧ w'.cell? ⟨W.heap.size + 2, 1, none⟩ = some (.int .i64 v.num) ∧ w'.cell? ⟨W.heap.size + 2, 2, none⟩ = some (.string v.name))
    (first
      | exact ⟨(Below.refl _ V3).drew, s0, s1, s2, s3, s4, t0, t1, t2, t3, t4, c0, c1, c2⟩
      | (go_split_ands; exact ⟨below_step (by assumption) hbu, cell_all (by assumption) hbu, cell_all (by assumption) hbu, cell_all (by assumption) hbu, cell_all (by assumption) hbu, cell_all (by assumption) hbu, cell_all (by assumption) hbu, cell_all (by assumption) hbu, cell_all (by assumption) hbu, cell_all (by assumption) hbu, cell_all (by assumption) hbu, cell_all (by assumption) hbu, cell_all (by assumption) hbu, cell_all (by assumption) hbu⟩)
      | (go_split_ands; exact ⟨below_step (by assumption) ((Below.refl _ _).alloc (Nat.le_refl _) _), alloc_cell' (by assumption), alloc_cell' (by assumption), alloc_cell' (by assumption), alloc_cell' (by assumption), alloc_cell' (by assumption), alloc_cell' (by assumption), alloc_cell' (by assumption), alloc_cell' (by assumption), alloc_cell' (by assumption), alloc_cell' (by assumption), alloc_cell' (by assumption), alloc_cell' (by assumption), alloc_cell' (by assumption)⟩)
      | (go_split_ands; exact ⟨hbu3, cell_all (by assumption) hbu2, cell_all (by assumption) hbu2, cell_all (by assumption) hbu2, cell_all (by assumption) hbu2, cell_all (by assumption) hbu2, cell_all (by assumption) hbu2, cell_all (by assumption) hbu2, cell_all (by assumption) hbu2, cell_all (by assumption) hbu2, cell_all (by assumption) hbu2, cell_all (by assumption) hbu2, cell_all (by assumption) hbu2, cell_all (by assumption) hbu2⟩))
    (first
      | ((go_at_call 46; refine HOP.out.mono ?_; rintro e U ⟨cp, A3, c3, rfl, hbu3, hbu2, ho⟩))
      | ((go_at_call 47; refine (HCM.out _ cp _ _ A3 c3 (by go_split_ands; assumption) (by assumption)).mono ?_; rintro e U2 ⟨rfl, hbu⟩)))
  all_goals
    have qe : Below V3.heap.size V3 U2 := by go_split_ands; assumption
    have qf := below_step q3 qe
    generalize cmpT l (cplAt l v) s t = cm at HE ⊢
    clear HOP HCM
    go_wp2
    go_ret
    exact ⟨(by rw [HE.out]; try rfl), qf⟩
end Go.Proofs.Ytepnmejahbiacaa
