/- Part 7 of the proof: C3c. -/
import Derived.Test.YtepnmejahbiacaaGreatL01
import Derived.BigQuiet
import Derived.Deep.Draws
import Derived.Deep.LoopGhost
import Derived.Deep.QuietTactic
import Derived.KernelRfl
import Derived.Lib.Hide
import Derived.Maps.AppendAt
import Derived.WalkKit
import Derived.Test.YtepnmejahbiacaaGreatL06
import Derived.Carry
import Derived.Maps.Own
import Derived.StillTailTactics
import Derived.Test.YtepnmejahbiacaaGreatL03
import Derived.Outline
import Derived.Test.YtepnmejahbiacaaGreatProg
set_option linter.unusedVariables false
set_option linter.unusedSimpArgs false
namespace Go.Proofs.YtepnmejahbiacaaGreat
open Go.RowKit
/-- Superclasses: each has been seen, and none stands twice. -/
def supersOk (seen : List ByteArray) (l : List ByteArray) : Bool := (List.range l.length).all fun j => match l[j]? with
  | some s => hasS seen s && !hasS (l.take j) s
  | none => true
def heirOk (seen : List ByteArray) (h : Heir) : Bool := !decide (h.name = ⟨#[]⟩) && !hasS seen h.name && decide (h.supers.length ≤ 8) && supersOk seen h.supers
def heirsOk : List ByteArray → List Heir → Bool
  | _, [] => true
  | seen, h :: r => heirOk seen h && heirsOk (seen ++ [h.name]) r
def c3Check (g : List Heir) : Int := if 120 < g.length then 2 else if heirsOk [] g then 0 else 70
def seenMap (seen : List ByteArray) (s : ByteArray) : Option Value := if hasS seen s then some (.bool true) else none
theorem seenMap_snoc (seen : List ByteArray) (x : ByteArray) : (fun s => if s = x then some (Value.bool true) else seenMap seen s) = seenMap (seen ++ [x]) := by
  funext s; unfold seenMap hasS
  by_cases h : s = x
  · subst h; simp
  · have : ¬ x = s := fun e => h e.symm
    rw [if_neg h, List.any_append]; simp only [List.any_cons, List.any_nil, decide_eq_false this, Bool.or_false]
theorem seenMap_get (seen : List ByteArray) (s : ByteArray) : (seenMap seen s).getD (.bool false) = .bool (hasS seen s) := by
  unfold seenMap; cases hasS seen s <;> rfl
theorem zero_bool (w : World) : (zeroValue 4).run Tryz.prog w = .ok (.bool false) w := by kernel_rfl
noncomputable abbrev strKey : KeyKind Tryz.prog 9 ByteArray := KeyKind.str Tryz.underlying9
theorem run_seen {w : World} {b : Nat} {seen : List ByteArray} (h : MapF strKey b (seenMap seen) w) (s : ByteArray) :
    (Instr.lookup 134 (.map (some b)) (.string s) false).run Tryz.prog w = .ok (.bool (hasS seen s)) w := by
  have := run_lookupF h Tryz.underlying134 (zero_bool w) s false
  rw [seenMap_get] at this
  exact this
theorem heirsOk_drop {seen : List ByteArray} {g : List Heir} {k : Nat} {x : Heir} (hx : g[k]? = some x) : heirsOk seen (g.drop k) = (heirOk seen x && heirsOk (seen ++ [x.name]) (g.drop (k + 1))) := by
  obtain ⟨hk, rfl⟩ := List.getElem?_eq_some_iff.1 hx
  rw [List.drop_eq_getElem_cons hk]; rfl
theorem supersOk_true {seen l : List ByteArray} (h : ∀ i s, i < l.length → l[i]? = some s → hasS seen s = true ∧ hasS (l.take i) s = false) : supersOk seen l = true := by
  unfold supersOk; rw [List.all_eq_true]
  intro j hj
  have hj' := List.mem_range.1 hj
  obtain ⟨h1, h2⟩ := h j _ hj' (getElem?_lt hj')
  rw [getElem?_lt hj']; simp [h1, h2]
theorem supersOk_false {seen l : List ByteArray} {j : Nat} {s : ByteArray} (hs : l[j]? = some s) (h : hasS seen s = false ∨ hasS (l.take j) s = true) : supersOk seen l = false := by
  unfold supersOk; rw [List.all_eq_false]
  refine ⟨j, List.mem_range.2 (List.getElem?_eq_some_iff.1 hs).1, ?_⟩
  rw [hs]
  rcases h with h | h <;> simp [h]
set_option maxHeartbeats 4000000 in
set_option maxRecDepth 100000 in
theorem c3Check_calls (A : Option Addr) (c : Nat) (g : List Heir) (w : World) (h : Heirs A g w) (hl : g.length ≤ 1000000) (hgs : ∀ x ∈ g, x.supers.length ≤ 1000000) :
    Calls Tryz.prog 191 #[.slice A g.length c] w fun e w' => e = .returned (.int .i64 (c3Check g)) ∧ Below w.heap.size w w' := by
  have H := Slc.stable heirR_stable h |>.here
  by_cases hlen : 120 < g.length
  · have hs : c3Check g = 2 := by unfold c3Check; rw [if_pos hlen]
    have HS := Lib.hid hs
    clear hs
    have hlen' : (120 : Int) < (g.length : Int) := by omega
    go_enter Tryz.func191, Tryz.ntmps191
    go_wp2
    go_ret
    exact ⟨retI HS.out.symm, Below.refl _ _⟩
  · have hs : c3Check g = if heirsOk [] g then 0 else 70 := by unfold c3Check; rw [if_neg hlen]
    have HS := Lib.hid hs
    clear hs
    have hmm := @run_makeMap Tryz.prog
    have hlen' : ¬ (120 : Int) < (g.length : Int) := by omega
    go_enter Tryz.func191, Tryz.ntmps191
    go_wp2
    clear hmm
    have hM0 := MapF.made (strKey) w w.heap.size rfl
    go_loopw [14] (fun i wr => ∃ k : Nat, k ≤ g.length ∧ i = .int .i64 k ∧ MapF strKey w.heap.size (seenMap ((g.take k).map (·.name))) wr ∧ heirsOk [] g = heirsOk ((g.take k).map (·.name)) (g.drop k) ∧ Below w.heap.size w wr) (fun i _ => g.length - (intOf i).toNat)
    case atStart => exact ⟨0, Nat.zero_le _, rfl, hM0, rfl, (Below.refl _ w).alloc (Nat.le_refl _) _⟩
    case round =>
      clear hM0
      obtain ⟨k, hk, rfl, hM, hok, hb⟩ := hrel
      have HO := Lib.hid hok
      clear hok
      by_cases hlt : k < g.length
      · obtain ⟨b, off, rfl⟩ := h.addr (by omega)
        have HX := Lib.hid (getElem?_lt hlt)
        have hxs := hgs _ (List.getElem_mem hlt)
        have HST := Lib.hid (heirsOk_drop (seen := (g.take k).map (·.name)) (getElem?_lt hlt))
        have HTS := Lib.hid (take_snoc (getElem?_lt hlt))
        generalize g[k] = x at *
        obtain ⟨A2, c2, r2, R2, g1, g2⟩ := Heirs.atH (H.below hb) HX.out
        have hbl := cell_lt g1
        have hMl := hM.lt
        have hlk := fun o => Lib.hid (hM.keep (Keep.alloc (fun _ => True) wr o) trivial)
        generalize hseen : (g.take k).map (·.name) = seen at *
        have HSE := Lib.hid hseen
        clear hseen
        have hlk1 := fun o s => run_seen (hlk o).out s
        clear hlk
        have bad : heirOk seen x = false → c3Check g = 70 := fun hh => by rw [HS.out, HO.out, HST.out, hh]; rfl
        by_cases n1 : x.name = ⟨#[]⟩
        · have HB := Lib.hid (bad (by simp [heirOk, n1]))
          clear bad
          go_wp2
          go_ret
          exact ⟨retI HB.out.symm, hb.alloc hb.size _⟩
        cases n2 : hasS seen x.name with
        | true =>
          have HB := Lib.hid (bad (by simp [heirOk, n2]))
          clear bad
          go_wp2
          go_ret
          exact ⟨retI HB.out.symm, hb.alloc hb.size _⟩
        | false =>
        by_cases n3 : 8 < x.supers.length
        · have HB := Lib.hid (bad (by unfold heirOk; rw [decide_eq_false (p := x.supers.length ≤ 8) (by omega)]; simp))
          have n3' : (8 : Int) < (x.supers.length : Int) := by omega
          clear bad
          go_wp2
          go_ret
          exact ⟨retI HB.out.symm, hb.alloc hb.size _⟩
        have n3' : ¬ (8 : Int) < (x.supers.length : Int) := by omega
        have bad2 : supersOk seen x.supers = false → c3Check g = 70 := fun hh => bad (by unfold heirOk; rw [hh]; simp)
        have HB2 := Lib.hid bad2
        have hok2 : supersOk seen x.supers = true → heirOk seen x = true := fun hh => by
          unfold heirOk; rw [hh, n2, decide_eq_true (p := x.supers.length ≤ 8) (by omega)]; simp [n1]
        have HOK2 := Lib.hid hok2
        clear bad bad2 hok2
        go_wp2
        go_loop [36] (fun i => ∃ j : Nat, j ≤ x.supers.length ∧ i = .int .i64 j ∧ ∀ i s, i < j → x.supers[i]? = some s → hasS seen s = true ∧ hasS (x.supers.take i) s = false) (fun i => x.supers.length - (intOf i).toNat)
        case atStart => exact ⟨0, Nat.zero_le _, rfl, fun i s h => absurd h (by omega)⟩
        case round =>
          obtain ⟨j, hj, rfl, hg⟩ := hrel
          have HG := Lib.hid hg
          clear hg
          by_cases hjl : j < x.supers.length
          · have HY := Lib.hid (getElem?_lt hjl)
            generalize x.supers[j] = s at *
            obtain ⟨b2, o2, rfl⟩ := Slc.addrH R2 (by omega)
            have g3 := (Strs.atH R2 HY.out).now
            have hbl2 := cell_lt g3
            have S3 := Slc.take R2.now j
            have hc2 : ¬ c2 = 0 := by omega
            have K1 : ∀ o A3 c3, Strs A3 (x.supers.take j) (wr.alloc o) → Calls Tryz.prog 175 #[.slice A3 j c3, .string s] (wr.alloc o) fun e w' => e = .returned (.bool (hasS (x.supers.take j) s)) ∧ wr.alloc o = w' :=
              fun o A3 c3 hA => slContains_n A3 j c3 _ s _ hA (by rw [List.length_take, Nat.min_eq_left hj]) (by rw [List.length_take]; omega)
            have S4 : ∀ o, Strs (some ⟨b2, o2, none⟩) (x.supers.take j) (wr.alloc o) := fun o => (R2.imp fun _ _ q => Slc.take q j) _ (Keep.alloc _ _ _)
            have HK := Lib.hid (fun o c3 => K1 o _ c3 (S4 o))
            clear K1 S4 S3
            cases m1 : hasS seen s with
            | false =>
              have HB := Lib.hid (HB2.out (supersOk_false HY.out (.inl m1)))
              go_wp2
              go_ret
              exact ⟨retI HB.out.symm, hb.alloc hb.size _⟩
            | true =>
              cases m2 : hasS (x.supers.take j) s with
              | true =>
                have HB := Lib.hid (HB2.out (supersOk_false HY.out (.inr m2)))
                go_wp2_with (go_at_call 175; refine (HK.out _ _).mono ?_; rintro e w' ⟨rfl, rfl⟩)
                go_ret
                exact ⟨retI HB.out.symm, hb.alloc hb.size _⟩
              | false =>
                have HM1 := Lib.hid m1
                have HM2 := Lib.hid m2
                go_wp2_with (go_at_call 175; refine (HK.out _ _).mono ?_; rintro e w' ⟨rfl, rfl⟩)
                go_round
                case rel =>
                  refine ⟨j + 1, by omega, by go_num, fun i z hi hz => ?_⟩
                  rcases Nat.lt_or_ge i j with hij | hij
                  · exact HG.out i z hij hz
                  · obtain rfl : i = j := by omega
                    rw [HY.out] at hz; cases hz; exact ⟨HM1.out, HM2.out⟩
                case measure => simp [intOf]; omega
          · obtain rfl : j = x.supers.length := by omega
            have HOK := Lib.hid (HOK2.out (supersOk_true fun i s hi hs => HG.out i s hi hs))
            have hM' := hM.keep (Keep.alloc (fun _ => True) wr (.cells #[.string x.name, .slice A2 x.supers.length c2] 186)) trivial
            go_wp2_with (at_mapUpdate; refine wp_mapUpdate strKey _ rfl 134 4 _ _ _ rfl Tryz.underlying134 w.heap.size (seenMap seen) hM' rfl x.name rfl (.bool true) rfl ?_)
            intro w3 hM3 hg3
            rw [seenMap_snoc] at hM3
            have hb3 : Below w.heap.size w w3 := (hb.alloc hb.size _).grown hg3 (by simp; omega) fun k e => by cases e; exact Nat.le_refl _
            clear hlk1
            go_wp2
            go_roundw
            case rel =>
              have hseen : (g.take (k + 1)).map (·.name) = seen ++ [x.name] := by rw [HTS.out, List.map_append, HSE.out]; rfl
              refine ⟨k + 1, by omega, by go_num, ?_, ?_, hb3⟩
              · rw [hseen]; exact hM3
              · rw [hseen, HO.out, HST.out, HOK.out]; rfl
            case measure => simp [intOf]; omega
      · obtain rfl : k = g.length := by omega
        have HB : Hid (c3Check g = 0) := Lib.hid (by rw [HS.out, HO.out, List.drop_length]; rfl)
        go_wp2
        go_ret
        exact ⟨retI HB.out.symm, hb⟩
end Go.Proofs.YtepnmejahbiacaaGreat
