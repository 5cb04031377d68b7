/- MethodsPrefix, without the program: each method of the order precedes all behind it and all that are left. -/
import Derived.Test.YtepnmejahbiacaaPa
import Derived.Test.YtepnmejahbiacaaPr
set_option linter.unusedVariables false
set_option linter.unusedSimpArgs false
namespace Go.Proofs.Ytepnmejahbiacaa
open Go.RowKit

theorem nodup_take_not {α : Type} {L : List α} {i : Nat} {x : α} (hd : L.Nodup) (h : L[i]? = some x) : x ∉ L.take i := by
  intro hm
  obtain ⟨j, hj⟩ := List.mem_iff_getElem?.1 hm
  rw [List.getElem?_take] at hj
  split at hj
  · have := nodup_inj hd hj h; omega
  · cases hj
theorem findI_at {ms : List Meth} (hnd : (ms.map (·.id)).Nodup) {p : Nat} {m : Meth} (h : ms[p]? = some m) : findI ms m.id = p :=
  findI_some h rfl (hasI_false.2 (by rw [List.map_take]; exact nodup_take_not hnd (by rw [List.getElem?_map, h]; rfl)))
theorem orderR_one {l : List CI} {ms : List Meth} {ts : List Tag} (hz : checkAllE l ms ts = 0) : orderR l ms ts = ((ordB l ts ms).1.map (·.id), decide (0 < (ordB l ts ms).2.length)) := by unfold orderR; rw [if_pos hz]
theorem ord_perm (l : List CI) (ts : List Tag) (ms : List Meth) : ((ordB l ts ms).1 ++ (ordB l ts ms).2).Perm (ms.filter (appB l ts)) := orderG_perm (P := precB l ts) (ms.filter (appB l ts)).length (ms.filter (appB l ts))
theorem pref_len {l : List CI} {ms : List Meth} {ts : List Tag} (hz : checkAllE l ms ts = 0) : (orderR l ms ts).1.length ≤ (applR l ms ts).1.length ∧ (orderR l ms ts).2 = decide ((orderR l ms ts).1.length < (applR l ms ts).1.length) := by
  have h := (ord_perm l ts ms).length_eq
  rw [List.length_append] at h
  rw [orderR_one hz, applR_ok hz]
  simp only [List.length_map]
  refine ⟨by omega, ?_⟩
  by_cases q : 0 < (ordB l ts ms).2.length
  · rw [decide_eq_true q, decide_eq_true (by omega)]
  · rw [decide_eq_false q, decide_eq_false (by omega)]
theorem pref_none {l : List CI} {ms : List Meth} {ts : List Tag} (hz : ¬ checkAllE l ms ts = 0) : orderR l ms ts = ([], false) := by unfold orderR; rw [if_neg hz]
theorem pref_nodup {l : List CI} {ms : List Meth} {ts : List Tag} (hz : checkAllE l ms ts = 0) : (orderR l ms ts).1.Nodup := by
  obtain ⟨_, _, h2, _, _, _⟩ := checkAllE_zero hz
  have h1 : ((ms.filter (appB l ts)).map (·.id)).Nodup := (areMs_nodup h2).sublist (List.Sublist.map _ List.filter_sublist)
  have h3 := ((ord_perm l ts ms).map (·.id)).nodup_iff.2 h1
  rw [List.map_append] at h3
  rw [orderR_one hz]
  exact (List.nodup_append.1 h3).1
theorem pref_in {l : List CI} {ms : List Meth} {ts : List Tag} (hz : checkAllE l ms ts = 0) {i : Nat} {x : Int} (h : (orderR l ms ts).1[i]? = some x) : hasI (applR l ms ts).1 x = true ∧ hasI ((orderR l ms ts).1.take i) x = false := by
  refine ⟨?_, hasI_false.2 (nodup_take_not (pref_nodup hz) h)⟩
  rw [hasI_iff, applR_ok hz]
  rw [orderR_one hz] at h
  have h1 : x ∈ (ordB l ts ms).1.map (·.id) := List.mem_of_getElem? h
  obtain ⟨a, ha, e⟩ := List.mem_map.1 h1
  exact List.mem_map.2 ⟨a, (ord_perm l ts ms).mem_iff.1 (List.mem_append.2 (.inl ha)), e⟩
theorem pref_prec {l : List CI} {ms : List Meth} {ts : List Tag} (hz : checkAllE l ms ts = 0) {i k : Nat} {x y : Int} (hx : (orderR l ms ts).1[i]? = some x) (hy : (applR l ms ts).1[k]? = some y) (hno : hasI ((orderR l ms ts).1.take (i + 1)) y = false) :
    ∃ (p s : Nat) (a b : Meth), findI ms x = p ∧ ms[p]? = some a ∧ findI ms y = s ∧ ms[s]? = some b ∧ precR l a b ts = true := by
  obtain ⟨_, _, h2, _, _, _⟩ := checkAllE_zero hz
  have hnd := areMs_nodup h2
  rw [orderR_one hz] at hx hno
  rw [applR_ok hz] at hy
  have hx0 := hx
  rw [List.getElem?_map] at hx hy
  obtain ⟨a, ha, rfl⟩ := Option.map_eq_some_iff.1 hx
  obtain ⟨b, hb, rfl⟩ := Option.map_eq_some_iff.1 hy
  have hbf : b ∈ ms.filter (appB l ts) := List.mem_of_getElem? hb
  have haf : a ∈ ms.filter (appB l ts) := (ord_perm l ts ms).mem_iff.1 (List.mem_append.2 (.inl (List.mem_of_getElem? ha)))
  obtain ⟨ham, haa⟩ := List.mem_filter.1 haf
  obtain ⟨hbm, hbb⟩ := List.mem_filter.1 hbf
  obtain ⟨p, hp⟩ := List.mem_iff_getElem?.1 ham
  obtain ⟨s, hs⟩ := List.mem_iff_getElem?.1 hbm
  have hni := hasI_false.1 hno
  have hxi : a.id ∈ ((ordB l ts ms).1.map (·.id)).take (i + 1) := by
    rw [take_snoc hx0]; simp
  have hne : a.id ≠ b.id := fun e => hni (e ▸ hxi)
  have hps : p ≠ s := fun e => by
    subst e
    rw [hp] at hs
    exact hne (by rw [Option.some.inj hs])
  have hpl := (List.getElem?_eq_some_iff.1 hp).1
  have hsl := (List.getElem?_eq_some_iff.1 hs).1
  have hchk : checkAllE l [a, b] ts = 0 := any_chk hz (by show 2 ≤ ms.length; omega) (fun m hm => by
    rcases List.mem_cons.1 hm with rfl | hm
    · exact ham
    · rw [List.mem_singleton.1 hm]; exact hbm) (by simp [hne])
  have hP := orderG_prec (P := precB l ts) (ms.filter (appB l ts)).length (ms.filter (appB l ts))
  have hprec : precB l ts a b = true := by
    rcases List.mem_append.1 ((ord_perm l ts ms).mem_iff.2 hbf) with q | q
    · obtain ⟨j, hj⟩ := List.mem_iff_getElem?.1 q
      obtain ⟨hil, hia⟩ := List.getElem?_eq_some_iff.1 ha
      obtain ⟨hjl, hjb⟩ := List.getElem?_eq_some_iff.1 hj
      have hij : i < j := by
        apply Classical.byContradiction
        intro hn
        refine hni (List.mem_iff_getElem?.2 ⟨j, ?_⟩)
        rw [List.getElem?_take, if_pos (by omega), List.getElem?_map, hj]; rfl
      have := List.pairwise_iff_getElem.1 hP.1 i j hil hjl hij
      rw [← hia, ← hjb]
      exact this
    · exact hP.2 a (List.mem_of_getElem? ha) b q
  refine ⟨p, s, a, b, findI_at hnd hp, hp, findI_at hnd hs, hs, ?_⟩
  unfold precR
  rw [decide_eq_true hchk, haa, hbb, hprec]; rfl
end Go.Proofs.Ytepnmejahbiacaa
