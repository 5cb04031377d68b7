/- Part 12 of the proof: C3d, Ch. -/
import Derived.Test.YtepnmejahbiacaaGreatL07
import Derived.Test.YtepnmejahbiacaaGreatL06
import Derived.Test.YtepnmejahbiacaaGreatL03
import Derived.Test.YtepnmejahbiacaaGreatL01
import Derived.BigQuiet
import Derived.Carry
import Derived.Deep.Draws
import Derived.Deep.LoopGhost
import Derived.Deep.QuietTactic
import Derived.KernelRfl
import Derived.Lib.Hide
import Derived.Maps.AppendAt
import Derived.Maps.Own
import Derived.Outline
import Derived.StillTailTactics
import Derived.Test.YtepnmejahbiacaaGreatProg
import Derived.WalkKit
import Derived.Test.YtepnmejahbiacaaGreatL04
import Derived.WalkSpells
import Derived.RangeFuncNested
import Derived.RangeFuncBound
import Derived.RangeFuncCalls
import Derived.RangeFuncLeaves
import Derived.OwnWalkIn
import Derived.TacticsInMore
import Derived.LoopNIn
import Derived.LoopIn
set_option linter.unusedVariables false
set_option linter.unusedSimpArgs false
namespace Go.Proofs.YtepnmejahbiacaaGreat
open Go.RowKit
def lastAtN (f : Nat → Option ByteArray) : Nat → ByteArray → Option Nat
  | 0, _ => none
  | n + 1, s => if f n = some s then some n else lastAtN f n s
/-- The last place of a string. -/
def lastAt (ns : List ByteArray) (s : ByteArray) : Option Nat := lastAtN (fun i => ns[i]?) ns.length s
theorem lastAtN_congr {f f' : Nat → Option ByteArray} : ∀ (n : Nat) (s : ByteArray), (∀ i, i < n → f i = f' i) → lastAtN f n s = lastAtN f' n s
  | 0, _, _ => rfl
  | n + 1, s, h => by simp only [lastAtN]; rw [h n (by omega), lastAtN_congr n s fun i hi => h i (by omega)]
theorem lastAt_snoc (ns : List ByteArray) (x s : ByteArray) : lastAt (ns ++ [x]) s = if s = x then some ns.length else lastAt ns s := by
  unfold lastAt
  rw [List.length_append, List.length_singleton]
  simp only [lastAtN]
  have e0 : (ns ++ [x])[ns.length]? = some x := by rw [List.getElem?_append_right (Nat.le_refl _), Nat.sub_self]; rfl
  simp only [e0, Option.some.injEq]
  have e : lastAtN (fun i => (ns ++ [x])[i]?) ns.length s = lastAtN (fun i => ns[i]?) ns.length s := lastAtN_congr _ _ fun i hi => by rw [List.getElem?_append_left hi]
  rw [e]
  by_cases h : s = x
  · subst h; simp
  · have : ¬ x = s := fun e => h e.symm
    simp [h, this]
def intOpt : Option Nat → Option Value := Option.map fun i => .int .i64 (i : Int)
def atMap (ns : List ByteArray) (s : ByteArray) : Option Value := intOpt (lastAt ns s)
theorem atMap_snoc (ns : List ByteArray) (x : ByteArray) (n : Nat) (hn : n = ns.length) : (fun s => if s = x then some (Value.int .i64 (n : Int)) else atMap ns s) = atMap (ns ++ [x]) := by
  subst hn
  funext s; unfold atMap; rw [lastAt_snoc]
  by_cases h : s = x <;> simp [h, intOpt]
theorem zero_int (w : World) : (zeroValue 3).run Tryz.prog w = .ok (.int .i64 0) w := by kernel_rfl
theorem zero_strs (w : World) : (zeroValue 108).run Tryz.prog w = .ok (.slice none 0 0) w := by kernel_rfl
theorem atMap_get (ns : List ByteArray) (s : ByteArray) : (atMap ns s).getD (.int .i64 0) = .int .i64 (((lastAt ns s).getD 0 : Nat) : Int) ∧ (atMap ns s).isSome = (lastAt ns s).isSome := by
  unfold atMap intOpt; cases lastAt ns s <;> exact ⟨rfl, rfl⟩
theorem run_at {w : World} {b : Nat} {ns : List ByteArray} (h : MapF strKey b (atMap ns) w) (s : ByteArray) (ok : Bool) :
    (Instr.lookup 140 (.map (some b)) (.string s) ok).run Tryz.prog w = .ok (if ok then .tuple #[.int .i64 (((lastAt ns s).getD 0 : Nat) : Int), .bool (lastAt ns s).isSome] else .int .i64 (((lastAt ns s).getD 0 : Nat) : Int)) w := by
  have := run_lookupF h Tryz.underlying140 (zero_int w) s ok
  rw [(atMap_get ns s).1, (atMap_get ns s).2] at this
  exact this
/-- The tree in memory: its block hp; the maps at M1, M2. -/
structure TreeAt (hp M1 M2 : Nat) (A : Option Addr) (c : Nat) (g : List Heir) (lines : ByteArray → Option Value) (w : World) : Prop where
  c0 : w.cell? ⟨hp, 0, none⟩ = some (.slice A g.length c)
  c1 : w.cell? ⟨hp, 1, none⟩ = some (.map (some M1))
  c2 : w.cell? ⟨hp, 2, none⟩ = some (.map (some M2))
  at_ : MapF strKey M1 (atMap (g.map (·.name))) w
  ln : MapF strKey M2 lines w
def openPost (A : Option Addr) (c : Nat) (g : List Heir) (name : ByteArray) (w : World) (e : Ending) (w' : World) : Prop :=
  Below w.heap.size w w' ∧ ((c3Check g ≠ 0 ∧ e = .returned (.tuple #[.pointer none, .int .i64 0, .int .i64 (c3Check g)])) ∨
  (c3Check g = 0 ∧ ∃ hp M1 M2, w.heap.size ≤ hp ∧ w.heap.size ≤ M1 ∧ w.heap.size ≤ M2 ∧ M1 ≠ M2 ∧ TreeAt hp M1 M2 A c g (fun _ => none) w' ∧
    ((∃ i, lastAt (g.map (·.name)) name = some i ∧ e = .returned (.tuple #[.pointer (some ⟨hp, 0, none⟩), .int .i64 (i : Int), .int .i64 0])) ∨
     (lastAt (g.map (·.name)) name = none ∧ e = .returned (.tuple #[.pointer (some ⟨hp, 0, none⟩), .int .i64 0, .int .i64 3])))))
set_option maxHeartbeats 4000000 in
set_option maxRecDepth 100000 in
theorem c3open_calls (A : Option Addr) (c : Nat) (g : List Heir) (name : ByteArray) (w : World) (h : Heirs A g w) (hl : g.length ≤ 1000000) (hgs : ∀ x ∈ g, x.supers.length ≤ 1000000) :
    Calls Tryz.prog 159 #[.slice A g.length c, .string name] w (openPost A c g name w) := by
  have H := Slc.stable heirR_stable h |>.here
  have HC := Lib.hid (c3Check_calls A c g w h hl hgs)
  have hmm := @run_makeMap Tryz.prog
  by_cases hck : c3Check g = 0
  · have t1 : (c3Check g != 0) = false := by rw [hck]; rfl
    have HCK := Lib.hid hck
    go_enter Tryz.func159, Tryz.ntmps159
    go_wp2_with (fail)
    refine HC.out.mono ?_
    rintro e w1 ⟨rfl, hb1⟩
    rw [HCK.out]
    go_wp2_with (fail)
    clear hmm
    obtain ⟨M1, hM1⟩ : ∃ M, M = w1.heap.size := ⟨_, rfl⟩
    obtain ⟨M2, hM2⟩ : ∃ M, M = w1.heap.size + 1 := ⟨_, rfl⟩
    obtain ⟨hp, hhp⟩ : ∃ M, M = w1.heap.size + 1 + 1 := ⟨_, rfl⟩
    rw [← hhp, ← hM2, ← hM1]
    have hsz := hb1.size
    have hT : TreeAt hp M1 M2 A c g (fun _ => none) w1 → True := fun _ => trivial
    generalize hw2 : ((w1.alloc (.map #[] 0)).alloc (.map #[] 0)).alloc (.cells #[.slice A g.length c, .map (some M1), .map (some M2)] 220) = w2
    have hb2 : Below w.heap.size w w2 := by rw [← hw2]; exact ((hb1.alloc hsz _).alloc (by simp; omega) _).alloc (by simp; omega) _
    have hd0 : w2.cell? ⟨hp, 0, none⟩ = some (.slice A g.length c) := by rw [← hw2]; exact cell_new _ _ _ _ (by simp; omega) 0 _ rfl
    have hd1 : w2.cell? ⟨hp, 1, none⟩ = some (.map (some M1)) := by rw [← hw2]; exact cell_new _ _ _ _ (by simp; omega) 1 _ rfl
    have hd2 : w2.cell? ⟨hp, 2, none⟩ = some (.map (some M2)) := by rw [← hw2]; exact cell_new _ _ _ _ (by simp; omega) 2 _ rfl
    have hm1 : MapF strKey M1 (atMap []) w2 := by
      rw [← hw2]; exact (((MapF.made strKey w1 M1 hM1).keep (Keep.alloc (fun _ => True) _ _) trivial).keep (Keep.alloc (fun _ => True) _ _) trivial)
    have hm2 : MapF strKey M2 (fun _ => none) w2 := by
      rw [← hw2]; exact (MapF.made strKey _ M2 (by simp; omega)).keep (Keep.alloc (fun _ => True) _ _) trivial
    have hM12 : M1 ≠ M2 := by omega
    have hMh : hp ≠ M1 ∧ hp ≠ M2 := by omega
    have hbs : w.heap.size ≤ hp ∧ w.heap.size ≤ M1 ∧ w.heap.size ≤ M2 := by omega
    have HMM := Lib.hid (And.intro hM12 hMh)
    clear hw2 hM1 hM2 hhp hM12 hMh hT hb1
    go_loopw [25] (fun i wr => ∃ k : Nat, k ≤ g.length ∧ i = .int .i64 k ∧ wr.cell? ⟨hp, 0, none⟩ = some (.slice A g.length c) ∧ wr.cell? ⟨hp, 1, none⟩ = some (.map (some M1)) ∧ wr.cell? ⟨hp, 2, none⟩ = some (.map (some M2)) ∧
      MapF strKey M1 (atMap ((g.map (·.name)).take k)) wr ∧ MapF strKey M2 (fun _ => none) wr ∧ Below w.heap.size w wr) (fun i _ => g.length - (intOf i).toNat)
    case atStart => exact ⟨0, Nat.zero_le _, rfl, hd0, hd1, hd2, hm1, hm2, hb2⟩
    case round =>
      clear hd0 hd1 hd2 hm1 hm2 hb2
      obtain ⟨k, hk, rfl, hd0, hd1, hd2, hm1, hm2, hb⟩ := hrel
      have hhpl := cell_lt hd0
      by_cases hlt : k < g.length
      · obtain ⟨b, off, rfl⟩ := h.addr (by omega)
        have HX := Lib.hid (getElem?_lt hlt)
        have HTS := Lib.hid (take_snoc (l := g.map (·.name)) (k := k) (x := g[k].name) (by rw [List.getElem?_map, getElem?_lt hlt]; rfl))
        generalize g[k] = x at *
        obtain ⟨A2, c2, r2, R2, g1, g2⟩ := Heirs.atH (H.below hb) HX.out
        have hbl := cell_lt g1
        go_wp2
        refine wp_region_still_tail 7 (by kernel_rfl) (by kernel_rfl) ?_
        simp only [List.take_succ_cons, List.take_zero, List.drop_succ_cons, List.drop_zero]
        change wpStill _ _ (World.drew _) (fun a' => wpList _ _ _ _ a' (World.drew _)) _ _
        repeat still_step
        refine wpStill_nil ?_
        have hm1' : MapF strKey M1 (atMap ((g.map (·.name)).take k)) (wr.alloc (.cells #[.string x.name, .slice A2 x.supers.length c2] 186)).drew := (hm1.keep (Keep.alloc (fun _ => True) _ _) trivial).keep (Keep.drew (fun _ => True) _) trivial
        have hm2' : MapF strKey M2 (fun _ => none) (wr.alloc (.cells #[.string x.name, .slice A2 x.supers.length c2] 186)).drew := (hm2.keep (Keep.alloc (fun _ => True) _ _) trivial).keep (Keep.drew (fun _ => True) _) trivial
        go_wp2_with (at_mapUpdate; refine wp_mapUpdate strKey _ rfl 140 3 _ _ _ rfl Tryz.underlying140 M1 (atMap ((g.map (·.name)).take k)) hm1' rfl x.name rfl (.int .i64 (k : Int)) rfl ?_)
        intro w3 hm3 hg3
        rw [atMap_snoc _ _ k (by rw [List.length_take, List.length_map, Nat.min_eq_left (by omega)])] at hm3
        have hb3 : Below w.heap.size w w3 := ((hb.alloc hb.size _).drew).grown hg3 (by have := hb.size; simp; omega) fun k e => by cases e; exact hbs.2.1
        have hg3' : Keep (fun b => b = hp) wr w3 := (((Keep.alloc (fun _ => True) wr _).trans (Keep.drew _ _)).mono (fun _ _ => trivial)).trans (Keep.grown hg3 fun b hb e => HMM.out.2.1 (by rw [← hb]; injection e))
        have q0 := cell_keep hd0 hg3' rfl
        have q1 := cell_keep hd1 hg3' rfl
        have q2 := cell_keep hd2 hg3' rfl
        have hm4 : MapF strKey M2 (fun _ => none) w3 := hm2'.same (hg3.block M2 hm2'.lt (fun e => HMM.out.1 (by injection e with e; exact e.symm)))
        clear hd0 hd1 hd2 hm1' hm2' hm1 hm2 hg3
        go_wp2
        go_roundw
        case rel =>
          refine ⟨k + 1, by omega, by go_num, q0, q1, q2, ?_, hm4, hb3⟩
          rw [HTS.out]; exact hm3
        case measure => simp [intOf]; omega
      · obtain rfl : k = g.length := by omega
        rw [List.take_of_length_le (by simp)] at hm1
        have hlk := fun s ok => run_at hm1 s ok
        have hlk1 := hlk name true
        simp only [if_true] at hlk1
        clear hlk
        have HT : Hid (TreeAt hp M1 M2 A c g (fun _ => none) wr) := Lib.hid ⟨hd0, hd1, hd2, hm1, hm2⟩
        cases hla : lastAt (g.map (·.name)) name with
        | none =>
          have HL := Lib.hid hla
          rw [hla] at hlk1
          simp only [Option.getD_none, Option.isSome_none] at hlk1
          clear hla
          go_wp2
          go_ret3
          exact ⟨hb, .inr ⟨HCK.out, hp, M1, M2, hbs.1, hbs.2.1, hbs.2.2, HMM.out.1, HT.out, .inr ⟨HL.out, rfl⟩⟩⟩
        | some i =>
          have HL := Lib.hid hla
          rw [hla] at hlk1
          simp only [Option.getD_some, Option.isSome_some] at hlk1
          clear hla
          go_wp2
          go_ret3
          exact ⟨hb, .inr ⟨HCK.out, hp, M1, M2, hbs.1, hbs.2.1, hbs.2.2, HMM.out.1, HT.out, .inl ⟨i, HL.out, rfl⟩⟩⟩
  · have t1 : (c3Check g == 0) = false := beq_eq_false_iff_ne.2 hck
    have t2 : (c3Check g != 0) = true := by rw [bne_iff_ne]; exact hck
    have HCK := Lib.hid hck
    clear hck
    go_enter Tryz.func159, Tryz.ntmps159
    go_wp2_with (go_at_call 191; refine HC.out.mono ?_; rintro e w1 ⟨rfl, hb1⟩)
    go_ret3
    exact ⟨hb1, .inl ⟨HCK.out, rfl⟩⟩
end Go.Proofs.YtepnmejahbiacaaGreat
namespace Go.Proofs.YtepnmejahbiacaaGreat
open Go.RowKit
theorem nodup_inj {α : Type} {l : List α} (h : l.Nodup) {i j : Nat} {x : α} (hi : l[i]? = some x) (hj : l[j]? = some x) : i = j := by
  unfold List.Nodup at h
  rw [List.pairwise_iff_getElem] at h
  obtain ⟨h1, h1'⟩ := List.getElem?_eq_some_iff.1 hi
  obtain ⟨h2, h2'⟩ := List.getElem?_eq_some_iff.1 hj
  rcases Nat.lt_trichotomy i j with hij | hij | hij
  · exact absurd (h1'.trans h2'.symm) (h i j h1 h2 hij)
  · exact hij
  · exact absurd (h2'.trans h1'.symm) (h j i h2 h1 hij)
theorem nodup_le {α : Type} : ∀ (l m : List α), l.Nodup → (∀ x ∈ l, x ∈ m) → l.length ≤ m.length
  | [], _, _, _ => Nat.zero_le _
  | a :: t, m, hn, hs => by
    obtain ⟨m1, m2, rfl⟩ := List.append_of_mem (hs a List.mem_cons_self)
    rw [List.nodup_cons] at hn
    have := nodup_le t (m1 ++ m2) hn.2 fun x hx => by
      have h := hs x (List.mem_cons_of_mem _ hx)
      rw [List.mem_append, List.mem_cons] at h
      rw [List.mem_append]
      rcases h with h | rfl | h
      · exact .inl h
      · exact absurd hx hn.1
      · exact .inr h
    simp at this ⊢; omega
theorem mem_rm {s x : ByteArray} {l : List (List ByteArray)} {y : List ByteArray} (hy : y ∈ rm s l) (hx : x ∈ y) : ∃ z ∈ l, x ∈ z := by
  unfold rm at hy; rw [List.mem_map] at hy
  obtain ⟨z, hz, rfl⟩ := hy
  refine ⟨z, hz, ?_⟩
  unfold rm1 at hx
  split at hx
  · exact hx
  · split at hx
    · exact List.mem_cons_of_mem _ hx
    · exact hx
theorem rm_gone {s : ByteArray} {l : List (List ByteArray)} (h : candGood l s = true) : ∀ y ∈ rm s l, s ∉ y := by
  intro y hy hs
  unfold rm at hy; rw [List.mem_map] at hy
  obtain ⟨z, hz, rfl⟩ := hy
  unfold candGood at h; rw [List.all_eq_true] at h
  have hz' := h z hz
  rw [Bool.not_eq_true', hasS_false] at hz'
  unfold rm1 at hs
  cases z with
  | nil => simp at hs
  | cons a t =>
    simp only [List.tail_cons] at hz'
    simp only [] at hs
    split at hs
    · exact hz' hs
    · rename_i hne
      rcases List.mem_cons.1 hs with h | h
      · exact hne h.symm
      · exact hz' h
theorem merge_mem {l : List (List ByteArray)} : ∀ {out : List ByteArray}, merge l = some out → (∀ x ∈ out, ∃ y ∈ l, x ∈ y) ∧ out.Nodup := by
  generalize hn : total l = n
  induction n using Nat.strongRecOn generalizing l with
  | _ n ih =>
    intro out h
    by_cases ha : anyLeft l = true
    · cases hc : cand l l with
      | none => rw [merge_stuck ha hc] at h; cases h
      | some s =>
        rw [merge_step ha hc] at h
        obtain ⟨t, ht, hg⟩ := cand_mem hc
        have hlt := total_rm_lt ht
        obtain ⟨o, ho, rfl⟩ := Option.map_eq_some_iff.1 h
        obtain ⟨h1, h2⟩ := ih _ (by omega) rfl ho
        refine ⟨fun x hx => ?_, ?_⟩
        · rcases List.mem_cons.1 hx with rfl | hx
          · exact ⟨_, ht, List.mem_cons_self⟩
          · obtain ⟨y, hy, hxy⟩ := h1 x hx
            exact mem_rm hy hxy
        · rw [List.nodup_cons]
          refine ⟨fun hs => ?_, h2⟩
          obtain ⟨y, hy, hxy⟩ := h1 s hs
          exact rm_gone hg y hy hxy
    · rw [merge_done (by simpa using ha)] at h
      cases h; exact ⟨fun x hx => by simp at hx, List.nodup_nil⟩
theorem lastAtN_some {f : Nat → Option ByteArray} : ∀ (n : Nat) (s : ByteArray) (j : Nat), lastAtN f n s = some j → j < n ∧ f j = some s
  | 0, _, _, h => by simp [lastAtN] at h
  | n + 1, s, j, h => by
    simp only [lastAtN] at h
    split at h
    · rename_i hf; cases h; exact ⟨by omega, hf⟩
    · have := lastAtN_some n s j h; exact ⟨by omega, this.2⟩
theorem lastAtN_none {f : Nat → Option ByteArray} : ∀ (n : Nat) (s : ByteArray), lastAtN f n s = none → ∀ j, j < n → f j ≠ some s
  | 0, _, _, _, h => absurd h (by omega)
  | n + 1, s, h, j, hj => by
    simp only [lastAtN] at h
    split at h
    · cases h
    · rename_i hf
      rcases Nat.lt_or_ge j n with h' | h'
      · exact lastAtN_none n s h j h'
      · obtain rfl : j = n := by omega
        exact hf
theorem lastAt_some {ns : List ByteArray} {s : ByteArray} {j : Nat} (h : lastAt ns s = some j) : ns[j]? = some s := (lastAtN_some _ _ _ h).2
theorem lastAt_of {ns : List ByteArray} {s : ByteArray} {j : Nat} (hj : ns[j]? = some s) (hd : ns.Nodup) : lastAt ns s = some j := by
  cases h : lastAt ns s with
  | none => exact absurd hj (lastAtN_none _ _ h j (List.getElem?_eq_some_iff.1 hj).1)
  | some k =>
    have hk := lastAt_some h
    rw [nodup_inj hd hk hj]
def names (g : List Heir) : List ByteArray := g.map (·.name)
theorem heirsOk_at {g : List Heir} : ∀ {seen : List ByteArray}, heirsOk seen g = true → ∀ i h, g[i]? = some h → heirOk (seen ++ (names g).take i) h = true := by
  induction g with
  | nil => intro seen _ i h hi; simp at hi
  | cons a r ih =>
    intro seen hok i h hi
    simp only [heirsOk, Bool.and_eq_true] at hok
    cases i with
    | zero => simp at hi; subst hi; simpa using hok.1
    | succ i =>
      have := ih hok.2 i h (by simpa using hi)
      simpa [names] using this
theorem names_get {g : List Heir} {i : Nat} {h : Heir} (hi : g[i]? = some h) : (names g)[i]? = some h.name := by unfold names; rw [List.getElem?_map, hi]; rfl
theorem names_nodup {g : List Heir} (h : heirsOk [] g = true) : (names g).Nodup := by
  unfold List.Nodup
  rw [List.pairwise_iff_getElem]
  intro i j hi' hj hij heq
  have hjg : j < g.length := by unfold names at hj; simpa using hj
  have hx := heirsOk_at h j _ (List.getElem?_eq_getElem hjg)
  unfold heirOk at hx
  simp only [Bool.and_eq_true, Bool.not_eq_true', List.nil_append] at hx
  have h2 := hasS_false.1 hx.1.1.2
  have hnj := names_get (List.getElem?_eq_getElem hjg)
  rw [List.getElem?_eq_getElem hj] at hnj
  refine h2 (List.mem_of_getElem? (i := i) ?_)
  rw [List.getElem?_take_of_lt hij, List.getElem?_eq_getElem hi', heq]; exact hnj
theorem super_at {g : List Heir} (h : heirsOk [] g = true) {i : Nat} {x : Heir} (hi : g[i]? = some x) {s : ByteArray} (hs : s ∈ x.supers) : ∃ j, j < i ∧ lastAt (names g) s = some j := by
  have hx := heirsOk_at h i x hi
  unfold heirOk at hx
  simp only [Bool.and_eq_true, List.nil_append] at hx
  have h4 := hx.2
  unfold supersOk at h4; rw [List.all_eq_true] at h4
  obtain ⟨k, hk, rfl⟩ := List.getElem_of_mem hs
  have h5 := h4 k (List.mem_range.2 hk)
  rw [List.getElem?_eq_getElem hk] at h5
  simp only [Bool.and_eq_true] at h5
  have h6 := hasS_iff.1 h5.1
  obtain ⟨j, hj, e⟩ := List.getElem_of_mem h6
  rw [List.length_take] at hj
  rw [List.getElem_take] at e
  exact ⟨j, by omega, lastAt_of (by rw [List.getElem?_eq_getElem (by omega), e]) (names_nodup h)⟩
def allSome {α : Type} (f : ByteArray → Option α) : List ByteArray → Option (List α)
  | [] => some []
  | s :: r => match f s with | none => none | some x => (allSome f r).map (x :: ·)
def lineF (g : List Heir) : Nat → Nat → Option (List ByteArray)
  | 0, _ => none
  | n + 1, i => match g[i]? with
    | none => none
    | some h => (allSome (fun s => (lastAt (names g) s).bind (lineF g n)) h.supers).bind fun ls => (merge (ls ++ [h.supers])).map (h.name :: ·)
def line (g : List Heir) (i : Nat) : Option (List ByteArray) := lineF g (i + 1) i
def lineOf (g : List Heir) (s : ByteArray) : Option (List ByteArray) := (lastAt (names g) s).bind (line g)
theorem allSome_congr {α : Type} {f f' : ByteArray → Option α} : ∀ l, (∀ s ∈ l, f s = f' s) → allSome f l = allSome f' l
  | [], _ => rfl
  | s :: r, h => by simp only [allSome]; rw [h s List.mem_cons_self, allSome_congr r fun t ht => h t (List.mem_cons_of_mem _ ht)]
theorem allSome_snoc {α : Type} (f : ByteArray → Option α) : ∀ (l : List ByteArray) (s : ByteArray), allSome f (l ++ [s]) = (allSome f l).bind fun xs => (f s).map fun x => xs ++ [x]
  | [], s => by simp only [List.nil_append, allSome]; cases f s <;> rfl
  | t :: r, s => by
    simp only [List.cons_append, allSome]
    cases f t with
    | none => rfl
    | some x =>
      simp only []
      rw [allSome_snoc f r s]
      cases allSome f r <;> cases f s <;> rfl
theorem allSome_take_none {α : Type} {f : ByteArray → Option α} {l : List ByteArray} {k : Nat} {s : ByteArray} (hs : l[k]? = some s) (h : f s = none) : allSome f l = none := by
  induction l generalizing k with
  | nil => simp at hs
  | cons t r ih =>
    simp only [allSome]
    cases k with
    | zero => simp at hs; subst hs; rw [h]
    | succ k =>
      have := ih (k := k) (by simpa using hs)
      rw [this]; cases f t <;> rfl
theorem allSome_get {α : Type} {f : ByteArray → Option α} : ∀ {l : List ByteArray} {xs : List α}, allSome f l = some xs → xs.length = l.length ∧ ∀ (i : Nat) (s : ByteArray), l[i]? = some s → ∃ x, xs[i]? = some x ∧ f s = some x
  | [], xs, h => by simp [allSome] at h; subst h; exact ⟨rfl, fun i s hi => by simp at hi⟩
  | t :: r, xs, h => by
    simp only [allSome] at h
    cases hf : f t with
    | none => rw [hf] at h; cases h
    | some x =>
      rw [hf] at h
      obtain ⟨ys, hys, rfl⟩ := Option.map_eq_some_iff.1 h
      obtain ⟨h1, h2⟩ := allSome_get hys
      refine ⟨by simp [h1], fun i s hi => ?_⟩
      cases i with
      | zero => simp at hi; subst hi; exact ⟨x, rfl, hf⟩
      | succ i => simpa using h2 i s (by simpa using hi)
theorem lineF_eq {g : List Heir} (h : heirsOk [] g = true) : ∀ (n m i : Nat), i < n → i < m → lineF g n i = lineF g m i := by
  intro n
  induction n with
  | zero => intro m i hi; omega
  | succ n ih =>
    intro m i hi hm
    obtain ⟨m, rfl⟩ : ∃ k, m = k + 1 := ⟨m - 1, by omega⟩
    simp only [lineF]
    cases hg : g[i]? with
    | none => rfl
    | some x =>
      simp only []
      rw [allSome_congr x.supers fun s hs => by
        obtain ⟨j, hj, he⟩ := super_at h hg hs
        show (lastAt (names g) s).bind (lineF g n) = (lastAt (names g) s).bind (lineF g m)
        rw [he]; exact ih m j (by omega) (by omega)]
theorem line_eq {g : List Heir} (h : heirsOk [] g = true) {i : Nat} {x : Heir} (hi : g[i]? = some x) :
    line g i = (allSome (lineOf g) x.supers).bind fun ls => (merge (ls ++ [x.supers])).map (x.name :: ·) := by
  unfold line
  simp only [lineF, hi]
  rw [allSome_congr (f' := lineOf g) x.supers fun s hs => by
    obtain ⟨j, hj, he⟩ := super_at h hi hs
    unfold lineOf; rw [he]; exact lineF_eq h _ _ _ hj (by omega)]
/-- A line's names are of classes up to its own; none stands twice; its own comes first. -/
theorem line_mem {g : List Heir} (h : heirsOk [] g = true) : ∀ (i : Nat) (l : List ByteArray), line g i = some l → l.Nodup ∧ (∀ x ∈ l, x ∈ (names g).take (i + 1)) ∧ ∃ x t, g[i]? = some x ∧ l = x.name :: t ∧ ∀ y ∈ t, y ∈ (names g).take i := by
  intro i
  induction i using Nat.strongRecOn with
  | _ i ih =>
    intro l hl
    cases hg : g[i]? with
    | none => unfold line at hl; simp only [lineF, hg] at hl; cases hl
    | some x =>
      rw [line_eq h hg] at hl
      obtain ⟨ls, hls, hl⟩ := Option.bind_eq_some_iff.1 hl
      obtain ⟨t, ht, rfl⟩ := Option.map_eq_some_iff.1 hl
      obtain ⟨h1, h2⟩ := allSome_get hls
      obtain ⟨m1, m2⟩ := merge_mem ht
      have hmem : ∀ y ∈ t, y ∈ (names g).take i := by
        intro y hy
        obtain ⟨z, hz, hyz⟩ := m1 y hy
        rw [List.mem_append, List.mem_singleton] at hz
        rcases hz with hz | rfl
        · obtain ⟨k, hk, rfl⟩ := List.getElem_of_mem hz
          have hks : k < x.supers.length := by omega
          obtain ⟨z', hz', hf⟩ := h2 k _ (List.getElem?_eq_getElem hks)
          rw [List.getElem?_eq_getElem hk] at hz'; cases hz'
          obtain ⟨j, hj, he⟩ := super_at h hg (List.getElem_mem hks)
          unfold lineOf at hf; rw [he] at hf
          have := (ih j hj _ hf).2.1 y hyz
          rw [List.mem_iff_getElem?] at this ⊢
          obtain ⟨q, hq⟩ := this
          rw [List.getElem?_take] at hq
          split at hq
          · exact ⟨q, by rw [List.getElem?_take_of_lt (by omega)]; exact hq⟩
          · cases hq
        · obtain ⟨j, hj, he⟩ := super_at h hg hyz
          exact List.mem_of_getElem? (i := j) (by rw [List.getElem?_take_of_lt hj]; exact lastAt_some he)
      have hnm : x.name ∉ (names g).take i := by
        have hx := heirsOk_at h i x hg
        unfold heirOk at hx
        simp only [Bool.and_eq_true, Bool.not_eq_true', List.nil_append] at hx
        exact hasS_false.1 hx.1.1.2
      refine ⟨List.nodup_cons.2 ⟨fun hh => hnm (hmem _ hh), m2⟩, fun y hy => ?_, x, t, rfl, rfl, hmem⟩
      rcases List.mem_cons.1 hy with rfl | hy
      · exact List.mem_of_getElem? (i := i) (by rw [List.getElem?_take_of_lt (by omega)]; exact names_get hg)
      · have := hmem y hy
        rw [List.mem_iff_getElem?] at this ⊢
        obtain ⟨q, hq⟩ := this
        rw [List.getElem?_take] at hq
        split at hq
        · exact ⟨q, by rw [List.getElem?_take_of_lt (by omega)]; exact hq⟩
        · cases hq
theorem line_length {g : List Heir} (h : heirsOk [] g = true) {i : Nat} {l : List ByteArray} (hl : line g i = some l) : l.length ≤ g.length := by
  obtain ⟨h1, h2, _⟩ := line_mem h i l hl
  have := nodup_le l _ h1 h2
  rw [List.length_take] at this
  have e : (names g).length = g.length := by unfold names; simp
  omega
theorem c3Check_zero {g : List Heir} (h : c3Check g = 0) : g.length ≤ 120 ∧ heirsOk [] g = true := by
  unfold c3Check at h
  split at h
  · omega
  · split at h
    · rename_i h1 h2; exact ⟨by omega, h2⟩
    · omega
end Go.Proofs.YtepnmejahbiacaaGreat
namespace Go.Proofs.YtepnmejahbiacaaGreat
open Go.RowKit
/-- What the lines that were found say. -/
def MemoOk (g : List Heir) (lines : ByteArray → Option Value) (G : Nat → Prop) (w : World) : Prop :=
  ∀ s v, lines s = some v → ∃ x A c, lineOf g s = some x ∧ v = .slice A x.length c ∧ x.length ≤ c ∧ Held G (Strs A x) w
/-- The tree; B: blocks that others may write. -/
structure TreeInv (hp M1 M2 : Nat) (A : Option Addr) (c : Nat) (g : List Heir) (B : Nat → Prop) (w : World) : Prop where
  nb : ¬ B hp ∧ ¬ B M1 ∧ ¬ B M2 ∧ M1 ≠ M2 ∧ hp ≠ M2
  gs : Held (fun b => ¬ B b ∧ b ≠ M2) (Heirs A g) w
  tr : ∃ lines, TreeAt hp M1 M2 A c g lines w ∧ MemoOk g lines (fun b => ¬ B b ∧ b ≠ M2) w
theorem MemoOk.keep {g : List Heir} {lines : ByteArray → Option Value} {G : Nat → Prop} {w w' : World} (h : MemoOk g lines G w) (k : Keep G w w') : MemoOk g lines G w' := fun s v hv => by
  obtain ⟨x, A, c, h1, h2, h3, h4⟩ := h s v hv
  exact ⟨x, A, c, h1, h2, h3, h4.keep k⟩
theorem MemoOk.mono {g : List Heir} {lines : ByteArray → Option Value} {G G' : Nat → Prop} {w : World} (h : MemoOk g lines G w) (hg : ∀ b, b < w.heap.size → G b → G' b) : MemoOk g lines G' w := fun s v hv => by
  obtain ⟨x, A, c, h1, h2, h3, h4⟩ := h s v hv
  exact ⟨x, A, c, h1, h2, h3, h4.mono hg⟩
/-- Others have written their blocks; and have now these. -/
theorem TreeInv.others {hp M1 M2 : Nat} {A : Option Addr} {c : Nat} {g : List Heir} {B B' : Nat → Prop} {w w' : World} (h : TreeInv hp M1 M2 A c g B w) (k : Chg B w w') (hb : ∀ b, b < w'.heap.size → B' b → B b ∨ w.heap.size ≤ b) : TreeInv hp M1 M2 A c g B' w' := by
  obtain ⟨⟨n1, n2, n3, n4, n5⟩, hg, lines, ht, hm⟩ := h
  have hk : Keep (fun b => ¬ B b ∧ b ≠ M2) w w' := k.keep fun b g => g.1
  have l0 := cell_lt ht.c0
  have l1 := ht.at_.lt
  have l2 := ht.ln.lt
  have s0 := k.block hp l0 n1
  have up : ∀ b, b < w'.heap.size → (¬ B b ∧ b ≠ M2) ∧ b < w.heap.size → ¬ B' b ∧ b ≠ M2 := fun b hlt hh => ⟨fun q => by rcases hb b hlt q with q | q; exact hh.1.1 q; omega, hh.1.2⟩
  have no : ∀ b, b < w.heap.size → ¬ B b → ¬ B' b := fun b hlt hh q => by
    rcases hb b (Nat.lt_of_lt_of_le hlt k.size) q with q | q
    · exact hh q
    · omega
  refine ⟨⟨no _ l0 n1, no _ l1 n2, no _ l2 n3, n4, n5⟩, (hg.lt.keep (hk.mono fun b g => g.1)).mono up, lines, ⟨?_, ?_, ?_, ht.at_.same (k.block M1 l1 n2), ht.ln.same (k.block M2 l2 n3)⟩, ?_⟩
  · exact (World.cell?_of_block (a := ⟨hp, 0, none⟩) s0).trans ht.c0
  · exact (World.cell?_of_block (a := ⟨hp, 1, none⟩) s0).trans ht.c1
  · exact (World.cell?_of_block (a := ⟨hp, 2, none⟩) s0).trans ht.c2
  · intro s v hv
    obtain ⟨x, A', c', h1, h2, h3, h4⟩ := hm s v hv
    exact ⟨x, A', c', h1, h2, h3, (h4.lt.keep (hk.mono fun b g => g.1)).mono up⟩
theorem TreeInv.fewer {hp M1 M2 : Nat} {A : Option Addr} {c : Nat} {g : List Heir} {B B' : Nat → Prop} {w : World} (h : TreeInv hp M1 M2 A c g B w) (hb : ∀ b, B' b → B b) : TreeInv hp M1 M2 A c g B' w := by
  obtain ⟨⟨n1, n2, n3, n4, n5⟩, hg, lines, ht, hm⟩ := h
  exact ⟨⟨fun q => n1 (hb _ q), fun q => n2 (hb _ q), fun q => n3 (hb _ q), n4, n5⟩, hg.mono fun b _ hh => ⟨fun q => hh.1 (hb _ q), hh.2⟩, lines, ht, hm.mono fun b _ hh => ⟨fun q => hh.1 (hb _ q), hh.2⟩⟩
theorem TreeInv.all {hp M1 M2 : Nat} {A : Option Addr} {c : Nat} {g : List Heir} {B : Nat → Prop} {w w' : World} (h : TreeInv hp M1 M2 A c g B w) (k : Below w.heap.size w w') : TreeInv hp M1 M2 A c g B w' := by
  obtain ⟨hn, hg, lines, ht, hm⟩ := h
  have hk : ∀ G : Nat → Prop, Keep G w w' := fun G => Keep.all k
  exact ⟨hn, hg.keep (hk _), lines, ⟨cell_all ht.c0 k, cell_all ht.c1 k, cell_all ht.c2 k, ht.at_.keep (hk (fun _ => True)) trivial, ht.ln.keep (hk (fun _ => True)) trivial⟩, hm.keep (hk _)⟩
/-- What is thrown where there is no line. -/
def Stuck (T : Nat) (ch : List PanicEntry) : Prop := ∃ j : Int, ch = [{ v := .iface T (.agg #[.int .i64 j]), recovered := false }]
/-- What finding a line comes to. -/
def LinePost (T hp M1 M2 : Nat) (A : Option Addr) (c : Nat) (g : List Heir) (B : Nat → Prop) (i : Nat) (w : World) (e : Ending) (w' : World) : Prop :=
  Chg (fun b => b = M2) w w' ∧
  ((∃ x A' c', line g i = some x ∧ e = .returned (.slice A' x.length c') ∧ x.length ≤ c' ∧ Held (fun b => ¬ B b ∧ b ≠ M2) (Strs A' x) w' ∧ TreeInv hp M1 M2 A c g B w') ∨
   (line g i = none ∧ ∃ ch, e = .panicked ch ∧ Stuck T ch))
end Go.Proofs.YtepnmejahbiacaaGreat
set_option linter.unusedVariables false
set_option linter.unusedSimpArgs false
namespace Go.Proofs.YtepnmejahbiacaaGreat
open Go.RowKit
/-- The place of a class. -/
def clsAt (l : List CI) (s : ByteArray) : Option Nat := lastAt (l.map (·.name)) s
def absAt (l : List CI) (s : ByteArray) : Bool := match clsAt l s with
  | some i => (l[i]?.map CI.abs).getD false
  | none => (l[0]?.map CI.abs).getD false
/-- The names of the direct subclasses. -/
def subsL (l : List CI) (s : ByteArray) : List ByteArray := (l.filter fun x => hasS x.supers s).map (·.name)
def sealAt (l : List CI) (i : Nat) : Bool := (l[i]?.map CI.seal_).getD false
/-- Closed, to a depth. -/
def cloN (l : List CI) : Nat → ByteArray → Bool
  | 0, _ => false
  | n + 1, s => match clsAt l s with
    | none => false
    | some i => sealAt l i && (subsL l s).all (cloN l n)
def cloB (l : List CI) (s : ByteArray) : Bool := cloN l l.length s
def vdN (l : List CI) : Nat → ByteArray → Bool
  | 0, _ => false
  | n + 1, s => cloB l s && absAt l s && (subsL l s).all (vdN l n)
def vdB (l : List CI) (s : ByteArray) : Bool := vdN l l.length s
end Go.Proofs.YtepnmejahbiacaaGreat
