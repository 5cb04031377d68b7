/- Ps + Sg: texts joined. -/
import Derived.Test.YtepnmejahbiacaaCa
import Derived.Test.YtepnmejahbiacaaSl
import Derived.Test.YtepnmejahbiacaaCm
import Derived.Test.YtepnmejahbiacaaWd
/- methods: what is within what, what precedes what, which are applicable, and in which order. No program in sight. -/
set_option linter.unusedVariables false
set_option linter.unusedSimpArgs false
namespace Go.Proofs.Ytepnmejahbiacaa
open Go.RowKit

/-- The linearization of a tag's class. -/
def cplAt (l : List CI) (t : Tag) : List ByteArray := ((l.find? fun x => decide (x.name = classOfB t)).map CI.cpl).getD []
mutual
/-- The pieces of a type. -/
def Ty.pieces : Ty → List Ty
  | .mk k n lo hi args => if k = 5 then Ty.piecesL args else [.mk k n lo hi args]
def Ty.piecesL : List Ty → List Ty
  | [] => []
  | t :: r => Ty.pieces t ++ Ty.piecesL r
end
theorem Ty.piecesL_eq : ∀ (l : List Ty), Ty.piecesL l = l.flatMap Ty.pieces
  | [] => by simp [Ty.piecesL]
  | t :: r => by rw [Ty.piecesL, Ty.piecesL_eq r]; simp
theorem Ty.pieces_union {t : Ty} (h : t.kind = 5) : t.pieces = t.args.flatMap Ty.pieces := by
  cases t with
  | mk k n lo hi args =>
    have hk : k = 5 := h
    rw [Ty.pieces, if_pos hk, Ty.piecesL_eq]; rfl
theorem Ty.pieces_leaf {t : Ty} (h : t.kind ≠ 5) : t.pieces = [t] := by
  cases t with
  | mk k n lo hi args =>
    have hk : ¬ k = 5 := h
    rw [Ty.pieces, if_neg hk]
def topN (a : Ty) : ByteArray := if a.kind = 2 then nInteger else if a.kind = 3 then nBoolean else if a.kind = 4 then nClass else if a.kind = 1 then a.name else ⟨#[]⟩
/-- A class is below another one (the first of that name). -/
def belowC (l : List CI) (a b : ByteArray) : Bool := match l.find? fun x => decide (x.name = a) with
  | none => false
  | some x => hasS x.cpl b
def insideB (l : List CI) (a b : Ty) : Bool :=
  if b.kind = 1 then belowC l (topN a) b.name
  else if a.kind ≠ b.kind then false
  else if a.kind = 2 then decide (b.lo ≤ a.lo) && decide (a.hi ≤ b.hi)
  else if a.kind = 3 then decide (a.lo = b.lo)
  else belowC l a.name b.name
def withinB (l : List CI) (s t : Ty) : Bool := s.pieces.all fun a => t.pieces.any fun b => insideB l a b
/-- How two types compare: 0 equal, 1 before, 2 behind, 3 neither. -/
def cmpT (l : List CI) (cpl : List ByteArray) (s t : Ty) : Int :=
  if s.kind = 1 ∧ t.kind = 1 then (if idx cpl t.name < idx cpl s.name then 2 else if idx cpl s.name < idx cpl t.name then 1 else 0)
  else if withinB l s t then (if withinB l t s then 0 else 1) else (if withinB l t s then 2 else 3)
def cmpAt (l : List CI) (ts : List Tag) (a b : Meth) (i : Nat) : Int := match ts[i]?, a.pars[i]?, b.pars[i]? with
  | some t, some p, some q => cmpT l (cplAt l t) p.type q.type
  | _, _, _ => 3
def precB (l : List CI) (ts : List Tag) (a b : Meth) : Bool :=
  ((List.range a.pars.length).all fun i => decide (cmpAt l ts a b i = 0 ∨ cmpAt l ts a b i = 1)) && (List.range a.pars.length).any fun i => decide (cmpAt l ts a b i = 1)
open Classical in
noncomputable def appB (l : List CI) (ts : List Tag) (m : Meth) : Bool := decide (Applies l ts m)
noncomputable def ordB (l : List CI) (ts : List Tag) (ms : List Meth) : List Meth × List Meth := orderG (precB l ts) (ms.filter (appB l ts)).length (ms.filter (appB l ts))
/-- A list of methods. -/
def parsOk (l : List CI) (n : Nat) (m : Meth) : Bool := decide (m.pars.length = n) && decide (m.pars.length ≤ 6) && m.pars.all fun p => decide (validErr l p.type = 0)
def AreMs (l : List CI) (ms : List Meth) : Bool := decide ((ms.map (·.id)).Nodup) && ms.all (parsOk l ((ms[0]?.map fun m => m.pars.length).getD 0))
open Classical in
noncomputable def checkAllE (l : List CI) (ms : List Meth) (ts : List Tag) : Int :=
  if ¬ LookOk l then 80 else if 300 < ms.length then 2
  else if AreMs l ms = false ∨ 6 < ts.length ∨ (0 < ms.length ∧ (ms[0]?.map fun m => m.pars.length).getD 0 ≠ ts.length) then 101
  else if ts.all (tagOk l) then 0 else 82
end Go.Proofs.Ytepnmejahbiacaa

/- Methods of one parameter each, with different classes: the order is that of the linearization. No program in sight. -/
namespace Go.Proofs.Ytepnmejahbiacaa
open Go.RowKit

theorem idx_some {l : List ByteArray} {x : ByteArray} {i : Nat} (hd : l.Nodup) (h : l[i]? = some x) : idx l x = i := by
  unfold idx
  have : l.findIdx? (fun y => decide (y = x)) = some i := by
    obtain ⟨hi, rfl⟩ := List.getElem?_eq_some_iff.1 h
    rw [List.findIdx?_eq_some_iff_getElem]
    refine ⟨hi, by simp, fun j hj => ?_⟩
    simp only [decide_eq_true_eq]
    intro e
    have := nodup_inj hd (i := j) (j := i) (List.getElem?_eq_getElem (by omega)) (by rw [e]; exact h)
    omega
  rw [this]
theorem idx_neg {l : List ByteArray} {x : ByteArray} (h : x ∉ l) : idx l x = -1 := by
  unfold idx
  have : l.findIdx? (fun y => decide (y = x)) = none := by
    rw [List.findIdx?_eq_none_iff]
    intro y hy
    simp only [decide_eq_false_iff_not]
    intro e; exact h (e ▸ hy)
  rw [this]
theorem idx_of_mem {l : List ByteArray} {x : ByteArray} (hd : l.Nodup) (h : x ∈ l) : ∃ i : Nat, l[i]? = some x ∧ idx l x = i := by
  obtain ⟨i, hi⟩ := List.mem_iff_getElem?.1 h
  exact ⟨i, hi, idx_some hd hi⟩

theorem heirNames (l : List CI) : names (heirsOf l) = l.map (·.name) := by
  unfold names heirsOf; rw [List.map_map]; rfl
theorem names_of {l : List CI} (h : LookOk l) : (l.map (·.name)).Nodup := by
  rw [← heirNames]; exact names_nodup (c3Check_zero h.2.2.2.2.1).2
theorem find_at {l : List CI} (h : LookOk l) {s : ByteArray} {i : Nat} {x : CI} (hx : l[i]? = some x) (hs : x.name = s) : l.find? (fun x => decide (x.name = s)) = some x ∧ clsAt l s = some i := by
  have hn : (l.map (·.name))[i]? = some s := by rw [List.getElem?_map, hx]; simp [hs]
  refine ⟨?_, lastAt_of hn (names_of h)⟩
  cases hf : l.find? (fun x => decide (x.name = s)) with
  | none =>
    have := List.find?_eq_none.1 hf x (List.mem_of_getElem? hx)
    simp [hs] at this
  | some y =>
    have hy := List.find?_some hf
    obtain ⟨j, hj⟩ := List.mem_iff_getElem?.1 (List.mem_of_find?_eq_some hf)
    have hjn : (l.map (·.name))[j]? = some s := by rw [List.getElem?_map, hj]; simpa using hy
    obtain rfl := nodup_inj (names_of h) hjn hn
    rw [hj] at hx; exact hx
theorem find_none {l : List CI} {s : ByteArray} (hf : l.find? (fun x => decide (x.name = s)) = none) : clsAt l s = none := by
  cases h : clsAt l s with
  | none => rfl
  | some i =>
    obtain ⟨x, hx, e⟩ := clsAt_get h
    have := List.find?_eq_none.1 hf x (List.mem_of_getElem? hx)
    simp [e] at this
theorem belowB_C {l : List CI} (h : LookOk l) (a b : ByteArray) : belowB l a b = belowC l a b := by
  unfold belowB belowC
  cases hf : l.find? (fun x => decide (x.name = a)) with
  | none => rw [find_none hf]
  | some x =>
    have hx := List.find?_some hf
    obtain ⟨j, hj⟩ := List.mem_iff_getElem?.1 (List.mem_of_find?_eq_some hf)
    simp only [(find_at h hj (by simpa using hx)).2, hj]
theorem belowC_cpl (l : List CI) (t : Tag) (n : ByteArray) : belowC l (classOfB t) n = hasS (cplAt l t) n := by
  unfold belowC cplAt
  cases l.find? (fun x => decide (x.name = classOfB t)) with
  | none => rfl
  | some x => rfl
theorem cpl_nodup {l : List CI} (h : LookOk l) {x : CI} (hx : x ∈ l) : x.cpl.Nodup := by
  obtain ⟨j, hj⟩ := List.mem_iff_getElem?.1 hx
  exact (line_mem (c3Check_zero h.2.2.2.2.1).2 j x.cpl (h.2.2.2.2.2 j x hj)).1
theorem cplAt_nodup {l : List CI} (h : LookOk l) (t : Tag) : (cplAt l t).Nodup := by
  unfold cplAt
  cases hf : l.find? (fun x => decide (x.name = classOfB t)) with
  | none => simp
  | some x => exact cpl_nodup h (List.mem_of_find?_eq_some hf)

theorem cmpT_flip {l : List CI} {c : List ByteArray} {s t : Ty} (h : cmpT l c s t = 1) : cmpT l c t s = 2 := by
  unfold cmpT at h ⊢
  by_cases hk : s.kind = 1 ∧ t.kind = 1
  · rw [if_pos hk] at h
    rw [if_pos ⟨hk.2, hk.1⟩]
    split at h
    · simp at h
    · split at h
      · rename_i h1 h2
        rw [if_pos h2]
      · simp at h
  · rw [if_neg hk] at h
    rw [if_neg (fun e => hk ⟨e.2, e.1⟩)]
    cases h1 : withinB l s t <;> cases h2 : withinB l t s <;> simp [h1, h2] at h ⊢
theorem cmpAt_flip {l : List CI} {ts : List Tag} {a b : Meth} {i : Nat} (h : cmpAt l ts a b i = 1) : cmpAt l ts b a i = 2 ∧ i < b.pars.length := by
  unfold cmpAt at h ⊢
  cases h1 : ts[i]? with
  | none => rw [h1] at h; simp at h
  | some t =>
    cases h2 : a.pars[i]? with
    | none => rw [h1, h2] at h; simp at h
    | some p =>
      cases h3 : b.pars[i]? with
      | none => rw [h1, h2, h3] at h; simp at h
      | some q =>
        rw [h1, h2, h3] at h
        exact ⟨cmpT_flip h, (List.getElem?_eq_some_iff.1 h3).1⟩
/-- Precedes is asymmetric (and so irreflexive). -/
theorem precB_asymm {l : List CI} {ts : List Tag} {a b : Meth} (h1 : precB l ts a b = true) (h2 : precB l ts b a = true) : False := by
  unfold precB at h1 h2
  rw [Bool.and_eq_true] at h1 h2
  obtain ⟨i, hi, e⟩ := List.any_eq_true.1 h1.2
  obtain ⟨e2, hb⟩ := cmpAt_flip (of_decide_eq_true e)
  have := of_decide_eq_true (List.all_eq_true.1 h2.1 i (List.mem_range.2 hb))
  omega

/-- A class as a type. -/
def clsT (n : ByteArray) : Ty := .mk 1 n 0 0 []
def oneM (nx : ByteArray) (i : Nat) (n : ByteArray) : Meth := ⟨i, ⟨#[]⟩, [⟨nx, clsT n⟩], .mk 0 ⟨#[]⟩ 0 0 []⟩
def oneMs (nx : ByteArray) (ns : List ByteArray) : List Meth := ns.mapIdx (oneM nx)
def wantL (ns c : List ByteArray) : List Int := (c.map (idx ns)).filter fun k => decide (0 ≤ k)

theorem prec_one (l : List CI) (v : Tag) (nx : ByteArray) (i j : Nat) (a b : ByteArray) : precB l [v] (oneM nx i a) (oneM nx j b) = decide (idx (cplAt l v) a < idx (cplAt l v) b) := by
  have hc : cmpAt l [v] (oneM nx i a) (oneM nx j b) 0 = cmpT l (cplAt l v) (clsT a) (clsT b) := rfl
  have e : precB l [v] (oneM nx i a) (oneM nx j b) = ((decide (cmpT l (cplAt l v) (clsT a) (clsT b) = 0 ∨ cmpT l (cplAt l v) (clsT a) (clsT b) = 1)) && decide (cmpT l (cplAt l v) (clsT a) (clsT b) = 1)) := by
    unfold precB
    have hr : List.range (oneM nx i a).pars.length = [0] := rfl
    rw [hr]
    simp only [List.all_cons, List.all_nil, List.any_cons, List.any_nil, Bool.and_true, Bool.or_false, hc]
  rw [e]
  have hk : cmpT l (cplAt l v) (clsT a) (clsT b) = if idx (cplAt l v) b < idx (cplAt l v) a then 2 else if idx (cplAt l v) a < idx (cplAt l v) b then 1 else 0 := by
    unfold cmpT; rw [if_pos ⟨rfl, rfl⟩]; rfl
  rw [hk]
  by_cases h1 : idx (cplAt l v) b < idx (cplAt l v) a
  · rw [if_pos h1, decide_eq_false (show ¬ idx (cplAt l v) a < idx (cplAt l v) b by omega)]; decide
  · rw [if_neg h1]
    by_cases h2 : idx (cplAt l v) a < idx (cplAt l v) b
    · rw [if_pos h2, decide_eq_true h2]; decide
    · rw [if_neg h2, decide_eq_false h2]; decide
theorem has_cls (l : List CI) (v : Tag) (n : ByteArray) : hasTF l v (clsT n) = belowB l (classOfB v) n := by
  rw [hasTF_eq]; rfl
open Classical in
theorem app_one {l : List CI} (hL : LookOk l) {v : Tag} (hv : tagOk l v = true) (nx : ByteArray) (i : Nat) {n : ByteArray} (hn : validErr l (clsT n) = 0) : appB l [v] (oneM nx i n) = hasS (cplAt l v) n := by
  have h1 : hasTF l v (clsT n) = hasS (cplAt l v) n := by rw [has_cls, belowB_C hL, belowC_cpl]
  unfold appB
  rw [← h1]
  cases hh : hasTF l v (clsT n) with
  | true =>
    refine decide_eq_true fun j p t hp ht => ?_
    match j with
    | 0 =>
      have hp' : p = ⟨nx, clsT n⟩ := by have : some (Par.mk nx (clsT n)) = some p := hp; cases this; rfl
      have ht' : t = v := by have : some v = some t := ht; cases this; rfl
      subst hp' ht'
      exact ⟨hL, hv, hn, hh⟩
    | j + 1 => have : ([v] : List Tag)[j + 1]? = some t := ht; simp at this
  | false =>
    refine decide_eq_false fun hA => ?_
    have := (hA 0 _ v rfl rfl).2.2.2
    have h2 : hasTF l v (clsT n) = true := this
    rw [hh] at h2; cases h2

theorem mem_oneMs {nx : ByteArray} {ns : List ByteArray} {m : Meth} : m ∈ oneMs nx ns ↔ ∃ i n, ns[i]? = some n ∧ m = oneM nx i n := by
  unfold oneMs
  rw [List.mem_iff_getElem?]
  constructor
  · rintro ⟨i, hi⟩
    rw [List.getElem?_mapIdx] at hi
    obtain ⟨n, hn, e⟩ := Option.map_eq_some_iff.1 hi
    exact ⟨i, n, hn, e.symm⟩
  · rintro ⟨i, n, hn, rfl⟩
    exact ⟨i, by rw [List.getElem?_mapIdx, hn]; rfl⟩
def nameM (m : Meth) : ByteArray := match m.pars with | p :: _ => p.type.name | [] => ⟨#[]⟩

theorem oneMs_get (nx : ByteArray) (ns : List ByteArray) (i : Nat) (h : i < (oneMs nx ns).length) (h' : i < ns.length) : (oneMs nx ns)[i] = oneM nx i ns[i] := List.getElem_mapIdx

theorem single_order {l : List CI} (hL : LookOk l) {v : Tag} (hv : tagOk l v = true) (nx : ByteArray) {ns : List ByteArray} (hd : ns.Nodup) (hn : ∀ n ∈ ns, validErr l (clsT n) = 0) :
    (ordB l [v] (oneMs nx ns)).2 = [] ∧ (ordB l [v] (oneMs nx ns)).1.map (·.id) = wantL ns (cplAt l v) := by
  obtain ⟨c, hc⟩ : ∃ c, c = cplAt l v := ⟨_, rfl⟩
  have hcd : c.Nodup := by rw [hc]; exact cplAt_nodup hL v
  obtain ⟨fm, hfm⟩ : ∃ fm, fm = (oneMs nx ns).filter (appB l [v]) := ⟨_, rfl⟩
  have hmem : ∀ m, m ∈ fm ↔ ∃ i n, ns[i]? = some n ∧ m = oneM nx i n ∧ n ∈ c := by
    intro m
    rw [hfm, List.mem_filter, mem_oneMs]
    constructor
    · rintro ⟨⟨i, n, h1, rfl⟩, h2⟩
      rw [app_one hL hv nx i (hn n (List.mem_of_getElem? h1)), ← hc, hasS_iff] at h2
      exact ⟨i, n, h1, rfl, h2⟩
    · rintro ⟨i, n, h1, rfl, h2⟩
      exact ⟨⟨i, n, h1, rfl⟩, by rw [app_one hL hv nx i (hn n (List.mem_of_getElem? h1)), ← hc, hasS_iff]; exact h2⟩
  have hord : ordB l [v] (oneMs nx ns) = orderG (precB l [v]) fm.length fm := by unfold ordB; rw [← hfm]
  have hP : ∀ a ∈ fm, ∀ b ∈ fm, precB l [v] a b = decide ((idx c (nameM a)).toNat < (idx c (nameM b)).toNat) := by
    intro a ha b hb
    obtain ⟨i, n, _, rfl, h2⟩ := (hmem a).1 ha
    obtain ⟨j, n', _, rfl, h3⟩ := (hmem b).1 hb
    rw [prec_one, ← hc]
    obtain ⟨p, _, hp⟩ := idx_of_mem hcd h2
    obtain ⟨q, _, hq⟩ := idx_of_mem hcd h3
    have e1 : nameM (oneM nx i n) = n := rfl
    have e2 : nameM (oneM nx j n') = n' := rfl
    rw [e1, e2, hp, hq]
    simp
  have hpd : fm.Pairwise (fun a b => (idx c (nameM a)).toNat ≠ (idx c (nameM b)).toNat) := by
    have h0 : (oneMs nx ns).Pairwise (fun a b => nameM a ≠ nameM b) := by
      rw [List.pairwise_iff_getElem]
      intro i j hi hj hij e
      have hl : (oneMs nx ns).length = ns.length := by unfold oneMs; simp
      have h1 : (oneMs nx ns)[i] = oneM nx i (ns[i]'(by omega)) := oneMs_get _ _ _ _ _
      have h2 : (oneMs nx ns)[j] = oneM nx j (ns[j]'(by omega)) := oneMs_get _ _ _ _ _
      rw [h1, h2] at e
      have e' : ns[i]'(by omega) = ns[j]'(by omega) := e
      have := nodup_inj hd (i := i) (j := j) (List.getElem?_eq_getElem (by omega)) (by rw [List.getElem?_eq_getElem (by omega), e'])
      omega
    have h1 : fm.Pairwise (fun a b => nameM a ≠ nameM b) := by rw [hfm]; exact h0.filter _
    refine List.Pairwise.imp_of_mem (fun {a b} ha hb hab e => ?_) h1
    obtain ⟨i, n, _, rfl, h2⟩ := (hmem a).1 ha
    obtain ⟨j, n', _, rfl, h3⟩ := (hmem b).1 hb
    obtain ⟨p, hp0, hp⟩ := idx_of_mem hcd h2
    obtain ⟨q, hq0, hq⟩ := idx_of_mem hcd h3
    have e1 : nameM (oneM nx i n) = n := rfl
    have e2 : nameM (oneM nx j n') = n' := rfl
    rw [e1, e2, hp, hq] at e
    have : p = q := by omega
    subst this
    rw [hp0] at hq0
    exact hab (by rw [e1, e2]; exact Option.some.inj hq0)
  have htot := orderG_total (P := precB l [v]) (f := fun m => (idx c (nameM m)).toNat) fm.length fm (Nat.le_refl _) hP hpd
  have hperm := orderG_perm (P := precB l [v]) fm.length fm
  have hsort := (orderG_prec (P := precB l [v]) fm.length fm).1
  rw [htot, List.append_nil] at hperm
  refine ⟨by rw [hord]; exact htot, ?_⟩
  obtain ⟨g, hg⟩ : ∃ g : ByteArray → Option Meth, g = fun x => if hasS ns x = true then some (oneM nx (idx ns x).toNat x) else none := ⟨_, rfl⟩
  have hW : (orderG (precB l [v]) fm.length fm).1 = c.filterMap g := by
    refine sorted_unique (P := precB l [v]) (fun a b h1 h2 => precB_asymm h1 h2) _ _ hsort ?_ fun m => ?_
    · rw [List.pairwise_filterMap]
      rw [List.pairwise_iff_getElem]
      intro i j hi hj hij a ha b hb
      rw [hg] at ha hb
      simp only at ha hb
      split at ha
      · split at hb
        · cases ha; cases hb
          rw [prec_one, ← hc, idx_some hcd (List.getElem?_eq_getElem hi), idx_some hcd (List.getElem?_eq_getElem hj)]
          exact decide_eq_true (by omega)
        · cases hb
      · cases ha
    · rw [hperm.mem_iff, hmem, List.mem_filterMap]
      constructor
      · rintro ⟨i, n, h1, rfl, h2⟩
        refine ⟨n, h2, ?_⟩
        rw [hg]
        simp only
        rw [if_pos (hasS_iff.2 (List.mem_of_getElem? h1)), idx_some hd h1]; rfl
      · rintro ⟨x, hx, h1⟩
        rw [hg] at h1
        simp only at h1
        split at h1
        · rename_i hm
          cases h1
          obtain ⟨i, h1, h2⟩ := idx_of_mem hd (hasS_iff.1 hm)
          exact ⟨i, x, h1, by rw [h2]; rfl, hx⟩
        · cases h1
  rw [hord, hW, ← hc]
  unfold wantL
  clear hW hperm hsort htot hord hpd hP hmem hcd hc
  induction c with
  | nil => rfl
  | cons x c ih =>
    rw [List.map_cons, List.filter_cons, List.filterMap_cons]
    by_cases hx : x ∈ ns
    · obtain ⟨i, h1, h2⟩ := idx_of_mem hd hx
      have e : g x = some (oneM nx i x) := by rw [hg]; simp only; rw [if_pos (hasS_iff.2 hx), h2]; rfl
      rw [e, h2, if_pos (decide_eq_true (by omega)), List.map_cons, ih]; rfl
    · have e : g x = none := by rw [hg]; simp only; rw [if_neg (fun h => hx (hasS_iff.1 h))]
      rw [e, idx_neg hx, if_neg (by decide), ih]
end Go.Proofs.Ytepnmejahbiacaa
