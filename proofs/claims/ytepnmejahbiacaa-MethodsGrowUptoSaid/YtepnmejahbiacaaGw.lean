/- Classes at the end of a hierarchy change nothing for the methods and arguments of its head. No program in sight. -/
import Derived.Test.YtepnmejahbiacaaSa
set_option linter.unusedVariables false
set_option linter.unusedSimpArgs false
namespace Go.Proofs.Ytepnmejahbiacaa
open Go.RowKit

theorem pick_congr {α : Type} {P Q : α → α → Bool} {l : List α} (h : ∀ a ∈ l, ∀ b ∈ l, P a b = Q a b) : pick P l = pick Q l := by
  have e : pickOk P l = pickOk Q l := by
    funext i
    unfold pickOk
    have : (fun k => decide (i = k) || pairP P l i k) = fun k => decide (i = k) || pairP Q l i k := by
      funext k
      unfold pairP
      cases h1 : l[i]? with
      | none => rfl
      | some a =>
        cases h2 : l[k]? with
        | none => rfl
        | some b =>
          show (decide (i = k) || P a b) = (decide (i = k) || Q a b)
          rw [h a (List.mem_of_getElem? h1) b (List.mem_of_getElem? h2)]
    rw [this]
  unfold pick
  rw [e]
theorem orderG_congr {α : Type} {P Q : α → α → Bool} : ∀ (n : Nat) (l : List α), (∀ a ∈ l, ∀ b ∈ l, P a b = Q a b) → orderG P n l = orderG Q n l
  | 0, l, h => rfl
  | n + 1, l, h => by
    rw [orderG, orderG, pick_congr h]
    cases pick Q l with
    | none => rfl
    | some i =>
      cases hi : l[i]? with
      | none => simp only [hi]
      | some a =>
        simp only [hi]
        rw [orderG_congr n (l.eraseIdx i) fun a ha b hb => h a (List.mem_of_mem_eraseIdx ha) b (List.mem_of_mem_eraseIdx hb)]

mutual
theorem Ty.all_mono {p q : Ty → Bool} (h : ∀ x, p x = true → q x = true) : ∀ t : Ty, t.all p = true → t.all q = true
  | .mk a b c d args, e => by
    rw [Ty.all, Bool.and_eq_true] at e ⊢
    exact ⟨h _ e.1, Ty.alls_mono h args e.2⟩
theorem Ty.alls_mono {p q : Ty → Bool} (h : ∀ x, p x = true → q x = true) : ∀ l : List Ty, Ty.alls p l = true → Ty.alls q l = true
  | [], e => by rw [Ty.alls]
  | t :: r, e => by
    rw [Ty.alls, Bool.and_eq_true] at e ⊢
    exact ⟨Ty.all_mono h t e.1, Ty.alls_mono h r e.2⟩
end
mutual
theorem Ty.mem_pieces {p : Ty → Bool} : ∀ t : Ty, t.all p = true → ∀ x ∈ t.pieces, p x = true ∧ x.kind ≠ 5
  | .mk a b c d args, e, x, hx => by
    rw [Ty.all, Bool.and_eq_true] at e
    by_cases h5 : a = 5
    · rw [Ty.pieces, if_pos h5] at hx
      exact Ty.mem_piecesL args e.2 x hx
    · rw [Ty.pieces, if_neg h5, List.mem_singleton] at hx
      subst hx
      exact ⟨e.1, h5⟩
theorem Ty.mem_piecesL {p : Ty → Bool} : ∀ l : List Ty, Ty.alls p l = true → ∀ x ∈ Ty.piecesL l, p x = true ∧ x.kind ≠ 5
  | [], e, x, hx => by rw [Ty.piecesL] at hx; cases hx
  | t :: r, e, x, hx => by
    rw [Ty.alls, Bool.and_eq_true] at e
    rw [Ty.piecesL] at hx
    rcases List.mem_append.1 hx with h | h
    · exact Ty.mem_pieces t e.1 x h
    · exact Ty.mem_piecesL r e.2 x h
end
theorem all_congr' {α : Type} {f g : α → Bool} : ∀ {l : List α}, (∀ x ∈ l, f x = g x) → l.all f = l.all g
  | [], _ => rfl
  | x :: l, h => by rw [List.all_cons, List.all_cons, h x (by simp), all_congr' fun y hy => h y (List.mem_cons_of_mem _ hy)]
theorem any_congr' {α : Type} {f g : α → Bool} : ∀ {l : List α}, (∀ x ∈ l, f x = g x) → l.any f = l.any g
  | [], _ => rfl
  | x :: l, h => by rw [List.any_cons, List.any_cons, h x (by simp), any_congr' fun y hy => h y (List.mem_cons_of_mem _ hy)]

theorem clsAt_grow {l r : List CI} (hl : LookOk l) (hr : LookOk (l ++ r)) {s : ByteArray} {i : Nat} (h : clsAt l s = some i) : clsAt (l ++ r) s = some i ∧ ∃ x, l[i]? = some x ∧ (l ++ r)[i]? = some x ∧ l.find? (fun x => decide (x.name = s)) = some x ∧ (l ++ r).find? (fun x => decide (x.name = s)) = some x := by
  obtain ⟨x, hx, e⟩ := clsAt_get h
  have h2 : (l ++ r)[i]? = some x := by rw [List.getElem?_append_left (List.getElem?_eq_some_iff.1 hx).1]; exact hx
  have q1 := find_at hl hx e
  have q2 := find_at hr h2 e
  exact ⟨q2.2, x, hx, h2, q1.1, q2.1⟩
theorem has_grow {l r : List CI} (hl : LookOk l) (hr : LookOk (l ++ r)) {s : ByteArray} (h : hasB l s = true) : hasB (l ++ r) s = true := by
  unfold hasB at h ⊢
  obtain ⟨i, hi⟩ := Option.isSome_iff_exists.1 h
  rw [(clsAt_grow hl hr hi).1]; rfl
theorem tagOk_grow {l r : List CI} (hl : LookOk l) (hr : LookOk (l ++ r)) {t : Tag} (h : tagOk l t = true) : tagOk (l ++ r) t = true := by
  unfold tagOk at h ⊢
  by_cases k1 : t.kind = 1
  · rw [if_pos k1] at h ⊢; exact h
  rw [if_neg k1] at h ⊢
  by_cases k2 : t.kind = 2
  · rw [if_pos k2] at h ⊢; exact h
  rw [if_neg k2] at h ⊢
  by_cases k3 : t.kind = 3
  · rw [if_pos k3] at h ⊢
    rw [Bool.and_eq_true] at h ⊢
    exact ⟨h.1, has_grow hl hr h.2⟩
  rw [if_neg k3] at h ⊢
  by_cases k4 : t.kind = 4
  · rw [if_pos k4] at h ⊢; exact h
  rw [if_neg k4] at h ⊢
  by_cases k5 : t.kind = 5
  · rw [if_pos k5] at h ⊢
    simp only [Bool.and_eq_true] at h ⊢
    obtain ⟨⟨⟨h1, h2⟩, h3⟩, h4⟩ := h
    have h2' := h2
    unfold hasB at h2'
    obtain ⟨i, hi⟩ := Option.isSome_iff_exists.1 h2'
    obtain ⟨c1, x, c2, c3, _, _⟩ := clsAt_grow hl hr hi
    refine ⟨⟨⟨h1, has_grow hl hr h2⟩, by rw [c1]; rwa [hi] at h3⟩, ?_⟩
    rw [absAt_eq, hi] at h4
    rw [absAt_eq, c1]
    simp only [Option.getD_some, c2, c3] at h4 ⊢
    exact h4
  · rw [if_neg k5] at h; cases h
theorem valid_grow {l r : List CI} (hl : LookOk l) (hr : LookOk (l ++ r)) {t : Ty} (h : validErr l t = 0) : limErr t = 0 ∧ formedB l t = true ∧ validErr (l ++ r) t = 0 := by
  unfold validErr at h
  by_cases h1 : limErr t = 0
  · rw [if_pos h1] at h
    cases hf : formedB l t with
    | false => rw [hf] at h; simp at h
    | true =>
      have hg : formedB (l ++ r) t = true := by
        unfold formedB at hf ⊢
        have hm : ∀ x, formed0 l x = true → formed0 (l ++ r) x = true := fun x hx => by
          unfold formed0 at hx ⊢
          by_cases k : x.kind = 1 ∨ x.kind = 4
          · rw [if_pos k] at hx ⊢
            simp only [Bool.and_eq_true] at hx ⊢
            exact ⟨⟨⟨has_grow hl hr hx.1.1.1, hx.1.1.2⟩, hx.1.2⟩, hx.2⟩
          · rw [if_neg k] at hx ⊢; exact hx
        exact Ty.all_mono hm t hf
      exact ⟨h1, rfl, by unfold validErr; rw [if_pos h1, hg]; rfl⟩
  · rw [if_neg h1] at h; exact absurd h h1
theorem base_grow {l : List CI} (hl : LookOk l) {s : ByteArray} (h : baseL.any (fun x => decide (x.name = s)) = true) : ∃ i, clsAt l s = some i := by
  obtain ⟨x, hx, e⟩ := List.any_eq_true.1 h
  obtain ⟨i, hi⟩ := List.mem_iff_getElem?.1 hx
  rw [← hl.2.2.1, List.getElem?_take] at hi
  split at hi
  · exact ⟨i, (find_at hl hi (by simpa using e)).2⟩
  · cases hi
theorem belowC_grow {l r : List CI} (hl : LookOk l) (hr : LookOk (l ++ r)) {a : ByteArray} {i : Nat} (h : clsAt l a = some i) (b : ByteArray) : belowC (l ++ r) a b = belowC l a b := by
  obtain ⟨_, x, _, _, h3, h4⟩ := clsAt_grow hl hr h
  unfold belowC
  rw [h3, h4]
theorem hasB_at {l : List CI} {s : ByteArray} (h : hasB l s = true) : ∃ i, clsAt l s = some i := by
  unfold hasB at h; exact Option.isSome_iff_exists.1 h
theorem tag_at {l : List CI} (hl : LookOk l) {t : Tag} (h : tagOk l t = true) : ∃ i, clsAt l (classOfB t) = some i := by
  unfold tagOk at h
  unfold classOfB
  by_cases k1 : t.kind = 1
  · rw [if_pos k1]; exact base_grow hl (by decide)
  rw [if_neg k1] at h ⊢
  by_cases k2 : t.kind = 2
  · rw [if_pos k2]; exact base_grow hl (by decide)
  rw [if_neg k2] at h ⊢
  by_cases k3 : t.kind = 3
  · rw [if_pos k3]; exact base_grow hl (by decide)
  rw [if_neg k3] at h ⊢
  by_cases k4 : t.kind = 4
  · rw [if_pos k4]; exact base_grow hl (by decide)
  rw [if_neg k4] at h ⊢
  by_cases k5 : t.kind = 5
  · rw [if_pos k5] at h
    simp only [Bool.and_eq_true] at h
    exact hasB_at h.1.1.2
  · rw [if_neg k5] at h; cases h
theorem cplAt_grow {l r : List CI} (hl : LookOk l) (hr : LookOk (l ++ r)) {t : Tag} (h : tagOk l t = true) : cplAt (l ++ r) t = cplAt l t := by
  obtain ⟨i, hi⟩ := tag_at hl h
  obtain ⟨_, x, _, _, h3, h4⟩ := clsAt_grow hl hr hi
  unfold cplAt
  rw [h3, h4]
mutual
theorem hasTF_grow {l r : List CI} (hl : LookOk l) (hr : LookOk (l ++ r)) {t : Tag} (ht : tagOk l t = true) : ∀ x : Ty, hasTF (l ++ r) t x = hasTF l t x
  | .mk k n lo hi args => by
    rw [hasTF_eq, hasTF_eq]
    show (if k = 1 then _ else if k = 2 then _ else if k = 3 then _ else if k = 4 then _ else _) = (if k = 1 then _ else if k = 2 then _ else if k = 3 then _ else if k = 4 then _ else _)
    have e1 : belowB (l ++ r) (classOfB t) n = belowB l (classOfB t) n := by
      obtain ⟨i, hi⟩ := tag_at hl ht
      rw [belowB_C hr, belowB_C hl, belowC_grow hl hr hi]
    have e4 : (decide (t.kind = 3) && belowB (l ++ r) t.name n) = (decide (t.kind = 3) && belowB l t.name n) := by
      by_cases k3 : t.kind = 3
      · have h3 : hasB l t.name = true := by
          have := ht
          unfold tagOk at this
          rw [if_neg (by omega), if_neg (by omega), if_pos k3, Bool.and_eq_true] at this
          exact this.2
        obtain ⟨i, hi⟩ := hasB_at h3
        rw [belowB_C hr, belowB_C hl, belowC_grow hl hr hi]
      · rw [decide_eq_false k3]; rfl
    have e5 := hasTFs_grow hl hr ht args
    simp only [Ty.kind, Ty.name, Ty.lo, Ty.hi, Ty.args, e1, e4, e5]
theorem hasTFs_grow {l r : List CI} (hl : LookOk l) (hr : LookOk (l ++ r)) {t : Tag} (ht : tagOk l t = true) : ∀ a : List Ty, a.any (hasTF (l ++ r) t) = a.any (hasTF l t)
  | [] => rfl
  | x :: a => by rw [List.any_cons, List.any_cons, hasTF_grow hl hr ht x, hasTFs_grow hl hr ht a]
end
theorem inside_grow {l r : List CI} (hl : LookOk l) (hr : LookOk (l ++ r)) {a : Ty} (ha : formed0 l a = true) (h5 : a.kind ≠ 5) (b : Ty) : insideB (l ++ r) a b = insideB l a b := by
  have hk : a.kind = 1 ∨ a.kind = 2 ∨ a.kind = 3 ∨ a.kind = 4 := by
    unfold formed0 at ha
    by_cases k : a.kind = 1 ∨ a.kind = 4
    · rcases k with k | k <;> simp [k]
    rw [if_neg k] at ha
    by_cases k2 : a.kind = 2
    · simp [k2]
    rw [if_neg k2] at ha
    by_cases k3 : a.kind = 3
    · simp [k3]
    rw [if_neg k3, if_neg h5] at ha; cases ha
  have hat : ∃ i, clsAt l (topN a) = some i := by
    unfold topN
    rcases hk with k | k | k | k
    · rw [if_neg (by omega), if_neg (by omega), if_neg (by omega), if_pos k]
      unfold formed0 at ha
      rw [if_pos (.inl k)] at ha
      simp only [Bool.and_eq_true] at ha
      exact hasB_at ha.1.1.1
    · rw [if_pos k]; exact base_grow hl (by decide)
    · rw [if_neg (by omega), if_pos k]; exact base_grow hl (by decide)
    · rw [if_neg (by omega), if_neg (by omega), if_pos k]; exact base_grow hl (by decide)
  obtain ⟨i, hi⟩ := hat
  have e1 := belowC_grow hl hr hi b.name
  have e2 : a.kind = 4 → belowC (l ++ r) a.name b.name = belowC l a.name b.name := fun k => by
    unfold formed0 at ha
    rw [if_pos (.inr k)] at ha
    simp only [Bool.and_eq_true] at ha
    obtain ⟨j, hj⟩ := hasB_at ha.1.1.1
    exact belowC_grow hl hr hj b.name
  unfold insideB
  rw [e1]
  by_cases q1 : b.kind = 1
  · rw [if_pos q1, if_pos q1]
  rw [if_neg q1, if_neg q1]
  by_cases q2 : a.kind ≠ b.kind
  · rw [if_pos q2, if_pos q2]
  rw [if_neg q2, if_neg q2]
  by_cases q3 : a.kind = 2
  · rw [if_pos q3, if_pos q3]
  rw [if_neg q3, if_neg q3]
  by_cases q4 : a.kind = 3
  · rw [if_pos q4, if_pos q4]
  rw [if_neg q4, if_neg q4]
  exact e2 (by
    rcases hk with k | k | k | k
    · have : b.kind = a.kind := by
        rcases Decidable.em (a.kind = b.kind) with h | h
        · exact h.symm
        · exact absurd h q2
      omega
    · omega
    · omega
    · exact k)
theorem within_grow {l r : List CI} (hl : LookOk l) (hr : LookOk (l ++ r)) {s : Ty} (hs : formedB l s = true) (t : Ty) : withinB (l ++ r) s t = withinB l s t := by
  unfold withinB
  refine all_congr' fun a ha => any_congr' fun b _ => ?_
  obtain ⟨h1, h2⟩ := Ty.mem_pieces s hs a ha
  exact inside_grow hl hr h1 h2 b
theorem cmpT_grow {l r : List CI} (hl : LookOk l) (hr : LookOk (l ++ r)) {s t : Ty} (hs : formedB l s = true) (ht : formedB l t = true) (c : List ByteArray) : cmpT (l ++ r) c s t = cmpT l c s t := by
  unfold cmpT
  rw [within_grow hl hr hs t, within_grow hl hr ht s]
theorem cmpAt_grow {l r : List CI} (hl : LookOk l) (hr : LookOk (l ++ r)) {ts : List Tag} {a b : Meth} (ht : ∀ t ∈ ts, tagOk l t = true) (ha : ∀ p ∈ a.pars, formedB l p.type = true) (hb : ∀ p ∈ b.pars, formedB l p.type = true) (i : Nat) : cmpAt (l ++ r) ts a b i = cmpAt l ts a b i := by
  unfold cmpAt
  cases h1 : ts[i]? with
  | none => rfl
  | some t =>
    cases h2 : a.pars[i]? with
    | none => rfl
    | some p =>
      cases h3 : b.pars[i]? with
      | none => rfl
      | some q =>
        show cmpT _ _ _ _ = cmpT _ _ _ _
        rw [cplAt_grow hl hr (ht t (List.mem_of_getElem? h1)), cmpT_grow hl hr (ha p (List.mem_of_getElem? h2)) (hb q (List.mem_of_getElem? h3))]
theorem prec_grow {l r : List CI} (hl : LookOk l) (hr : LookOk (l ++ r)) {ts : List Tag} {a b : Meth} (ht : ∀ t ∈ ts, tagOk l t = true) (ha : ∀ p ∈ a.pars, formedB l p.type = true) (hb : ∀ p ∈ b.pars, formedB l p.type = true) : precB (l ++ r) ts a b = precB l ts a b := by
  have e : cmpAt (l ++ r) ts a b = cmpAt l ts a b := funext fun i => cmpAt_grow hl hr ht ha hb i
  unfold precB
  rw [e]
theorem appC_grow {l r : List CI} (hl : LookOk l) (hr : LookOk (l ++ r)) {ts : List Tag} (ht : ∀ t ∈ ts, tagOk l t = true) (m : Meth) : appC (l ++ r) ts m = appC l ts m := by
  unfold appC
  refine all_congr' fun i _ => ?_
  cases h1 : m.pars[i]? with
  | none => rfl
  | some p =>
    cases h2 : ts[i]? with
    | none => rfl
    | some t => exact hasTF_grow hl hr (ht t (List.mem_of_getElem? h2)) p.type
theorem chk_grow {l r : List CI} (hl : LookOk l) (hr : LookOk (l ++ r)) {ms : List Meth} {ts : List Tag} (h : checkAllE l ms ts = 0) : checkAllE (l ++ r) ms ts = 0 := by
  obtain ⟨_, h1, h2, h3, h4, h5⟩ := checkAllE_zero h
  have h6 : (ms[0]?.map fun m => m.pars.length).getD 0 = ts.length ∨ ms.length = 0 := by
    cases ms with
    | nil => exact .inr rfl
    | cons m ms => exact .inl (h4 m (by simp))
  refine chk_zero hr ?_
  have h7 : AreMs (l ++ r) ms = true := by
    have hv := areMs_valid h2
    unfold AreMs at h2 ⊢
    rw [Bool.and_eq_true] at h2 ⊢
    refine ⟨h2.1, List.all_eq_true.2 fun m hm => ?_⟩
    have := List.all_eq_true.1 h2.2 m hm
    unfold parsOk at this ⊢
    rw [Bool.and_eq_true] at this ⊢
    exact ⟨this.1, List.all_eq_true.2 fun p hp => decide_eq_true (valid_grow hl hr (hv m hm p hp)).2.2⟩
  have h8 : ts.all (tagOk (l ++ r)) = true := List.all_eq_true.2 fun t ht => tagOk_grow hl hr (h5 t ht)
  unfold chkB
  rw [h7, h8, decide_eq_true h1, decide_eq_true h3]
  rcases h6 with h6 | h6
  · rw [decide_eq_true h6]; simp
  · rw [decide_eq_true h6]; simp
theorem order_grow {l r : List CI} (hl : LookOk l) (hr : LookOk (l ++ r)) {ms : List Meth} {ts : List Tag} (h : checkAllE l ms ts = 0) : orderR (l ++ r) ms ts = orderR l ms ts := by
  obtain ⟨_, h1, h2, h3, h4, h5⟩ := checkAllE_zero h
  have hv := areMs_valid h2
  have hf : ∀ m ∈ ms, ∀ p ∈ m.pars, formedB l p.type = true := fun m hm p hp => (valid_grow hl hr (hv m hm p hp)).2.1
  have e : orderC (l ++ r) ms ts = orderC l ms ts := by
    unfold orderC
    have e1 : ms.filter (appC (l ++ r) ts) = ms.filter (appC l ts) := List.filter_congr fun m _ => appC_grow hl hr h5 m
    rw [e1]
    exact orderG_congr _ _ fun a ha b hb => prec_grow hl hr h5 (hf a (List.mem_filter.1 ha).1) (hf b (List.mem_filter.1 hb).1)
  rw [orderR_eq h, orderR_eq (chk_grow hl hr h), e]
end Go.Proofs.Ytepnmejahbiacaa
