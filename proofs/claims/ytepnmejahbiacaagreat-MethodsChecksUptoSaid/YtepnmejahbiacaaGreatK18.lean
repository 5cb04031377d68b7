/- Part 18 of the proof: Ht, Ha, Ca. -/
import Derived.Test.YtepnmejahbiacaaGreatK05
import Derived.Test.YtepnmejahbiacaaGreatK06
import Derived.Test.YtepnmejahbiacaaGreatK07
import Derived.Test.YtepnmejahbiacaaGreatK12
import Derived.Test.YtepnmejahbiacaaGreatK13
import Derived.Test.YtepnmejahbiacaaGreatK14
import Derived.Test.YtepnmejahbiacaaGreatK15
import Derived.Test.YtepnmejahbiacaaGreatK17
import Derived.Test.YtepnmejahbiacaaGreatK04
import Derived.Test.YtepnmejahbiacaaGreatK10
import Derived.Test.YtepnmejahbiacaaGreatK11
import Derived.Test.YtepnmejahbiacaaGreatK09
import Derived.Test.YtepnmejahbiacaaGreatK03
import Derived.Test.YtepnmejahbiacaaGreatK16
import Derived.Test.YtepnmejahbiacaaGreatK02
import Derived.Test.YtepnmejahbiacaaGreatK01
import Derived.BigQuiet
import Derived.Carry
import Derived.Deep.Draws
import Derived.Deep.LoopGhost
import Derived.Deep.QuietTactic
import Derived.KernelRfl
import Derived.Laws.EntriesVeiled
import Derived.Lib.Hide
import Derived.LoopIn
import Derived.LoopNIn
import Derived.Maps.AppendAt
import Derived.Maps.Own
import Derived.Maps.OwnIn
import Derived.Outline
import Derived.OwnWalkIn
import Derived.RangeFuncBound
import Derived.RangeFuncCalls
import Derived.RangeFuncLeaves
import Derived.RangeFuncNested
import Derived.Recover
import Derived.StillTailTactics
import Derived.Stop.RegionWithIn
import Derived.TacticsInMore
import Derived.Test.YtepnmejahbiacaaGreatProg
import Derived.WalkKit
import Derived.WalkSpells
set_option linter.unusedVariables false
set_option linter.unusedSimpArgs false
namespace Go.Proofs.YtepnmejahbiacaaGreat
open Go.RowKit
def nInteger : ByteArray := ⟨#[60, 105, 110, 116, 101, 103, 101, 114, 62]⟩
def nBoolean : ByteArray := ⟨#[60, 98, 111, 111, 108, 101, 97, 110, 62]⟩
def nClass : ByteArray := ⟨#[60, 99, 108, 97, 115, 115, 62]⟩
def nFunction : ByteArray := ⟨#[60, 102, 117, 110, 99, 116, 105, 111, 110, 62]⟩
/-- The class of a tag. -/
def classOfB (t : Tag) : ByteArray := if t.kind = 1 then nInteger else if t.kind = 2 then nBoolean else if t.kind = 3 then nClass else if t.kind = 4 then nFunction else t.name
def belowB (l : List CI) (a b : ByteArray) : Bool := match clsAt l a with
  | none => false
  | some i => match l[i]? with | some x => hasS x.cpl b | none => false
def TagKind (t : Tag) : Prop := t.kind = 1 ∨ t.kind = 2 ∨ t.kind = 3 ∨ t.kind = 4 ∨ t.kind = 5
set_option maxHeartbeats 4000000 in
set_option maxRecDepth 100000 in
theorem classOf_calls (t : Tag) (h : TagKind t) (w : World) : Calls Tryz.prog 135 #[tagV t] w fun e w' => e = .returned (.string (classOfB t)) ∧ Below w.heap.size w w' := by
  have hix1 : ∀ w, (Instr.index 206 (.agg #[.string ⟨#[]⟩, .string ⟨#[60, 105, 110, 116, 101, 103, 101, 114, 62]⟩, .string ⟨#[60, 98, 111, 111, 108, 101, 97, 110, 62]⟩, .string ⟨#[60, 99, 108, 97, 115, 115, 62]⟩, .string ⟨#[60, 102, 117, 110, 99, 116, 105, 111, 110, 62]⟩]) (.int .i64 1)).run Tryz.prog w = .ok (.string nInteger) w := fun w => by kernel_rfl
  have hix2 : ∀ w, (Instr.index 206 (.agg #[.string ⟨#[]⟩, .string ⟨#[60, 105, 110, 116, 101, 103, 101, 114, 62]⟩, .string ⟨#[60, 98, 111, 111, 108, 101, 97, 110, 62]⟩, .string ⟨#[60, 99, 108, 97, 115, 115, 62]⟩, .string ⟨#[60, 102, 117, 110, 99, 116, 105, 111, 110, 62]⟩]) (.int .i64 2)).run Tryz.prog w = .ok (.string nBoolean) w := fun w => by kernel_rfl
  have hix3 : ∀ w, (Instr.index 206 (.agg #[.string ⟨#[]⟩, .string ⟨#[60, 105, 110, 116, 101, 103, 101, 114, 62]⟩, .string ⟨#[60, 98, 111, 111, 108, 101, 97, 110, 62]⟩, .string ⟨#[60, 99, 108, 97, 115, 115, 62]⟩, .string ⟨#[60, 102, 117, 110, 99, 116, 105, 111, 110, 62]⟩]) (.int .i64 3)).run Tryz.prog w = .ok (.string nClass) w := fun w => by kernel_rfl
  have hix4 : ∀ w, (Instr.index 206 (.agg #[.string ⟨#[]⟩, .string ⟨#[60, 105, 110, 116, 101, 103, 101, 114, 62]⟩, .string ⟨#[60, 98, 111, 111, 108, 101, 97, 110, 62]⟩, .string ⟨#[60, 99, 108, 97, 115, 115, 62]⟩, .string ⟨#[60, 102, 117, 110, 99, 116, 105, 111, 110, 62]⟩]) (.int .i64 4)).run Tryz.prog w = .ok (.string nFunction) w := fun w => by kernel_rfl
  obtain ⟨kd, nm, s⟩ := t
  rcases h with h | h | h | h | h <;> simp only at h <;> subst h
  all_goals
    go_enter Tryz.func135, Tryz.ntmps135
    go_wp2
    go_ret
    exact ⟨by rfl, (Below.refl _ w).alloc (Nat.le_refl _) _⟩
set_option maxHeartbeats 4000000 in
set_option maxRecDepth 100000 in
theorem below_calls (hp M1 : Nat) (A : Option Addr) (c : Nat) (l : List CI) (a b : ByteArray) (w : World) (H : HierAt hp M1 A c l l.length w) (G : Nat → Prop) (hA : Held G (CIs A l) w) (ol : ∀ x ∈ l, ciOk x) :
    Calls Tryz.prog 134 #[.pointer (some ⟨hp, 0, none⟩), .string a, .string b] w fun e w' => e = .returned (.bool (belowB l a b)) ∧ w' = w := by
  have hlk := H.look a true
  simp only [if_true] at hlk
  have c0 := H.c0
  have c1 := H.c1
  clear H
  cases hq : clsAt l a with
  | none =>
    have HB : Hid (belowB l a b = false) := Lib.hid (by unfold belowB; rw [hq])
    have hh : hasB l a = false := by unfold hasB; rw [hq]; rfl
    rw [hh, hq] at hlk
    clear hq hh
    go_enter Tryz.func134, Tryz.ntmps134
    go_wp2
    go_ret
    exact ⟨by rw [HB.out]; rfl, rfl⟩
  | some i =>
    obtain ⟨x, hx, _⟩ := clsAt_get hq
    have HB : Hid (belowB l a b = hasS x.cpl b) := Lib.hid (by unfold belowB; rw [hq]; simp only [hx])
    have hh : hasB l a = true := by unfold hasB; rw [hq]; rfl
    rw [hh, hq] at hlk
    simp only [Option.getD_some] at hlk
    have hi := (List.getElem?_eq_some_iff.1 hx).1
    obtain ⟨bb, off, rfl⟩ := Slc.addrH hA (by omega)
    obtain ⟨A2, c2, A3, c3, p1, p2, p3, p4, g0, g1, g2, g3, g4, g5⟩ := CIs.atH hA hx
    have HC := Lib.hid (slContains_calls A3 c3 x.cpl b w p4.now (ol x (List.mem_of_getElem? hx)).2)
    clear hq hh hA hx
    go_enter Tryz.func134, Tryz.ntmps134
    go_wp2_with (fail)
    refine HC.out.mono ?_
    rintro e w' ⟨rfl, rfl⟩
    go_wp2
    go_ret
    exact ⟨by rw [HB.out]; rfl, rfl⟩
/-- A tag has a type (of a well formed type, and a tag that is one). -/
def hasTF (l : List CI) (t : Tag) : Ty → Bool
  | .mk k n lo hi args => if k = 1 then belowB l (classOfB t) n
    else if k = 2 then decide (t.kind = 1) && decide (lo ≤ t.num) && decide (t.num ≤ hi)
    else if k = 3 then decide (t.kind = 2) && decide (t.num = lo)
    else if k = 4 then decide (t.kind = 3) && belowB l t.name n
    else hasTFs l t args
where hasTFs (l : List CI) (t : Tag) : List Ty → Bool
  | [] => false
  | x :: r => hasTF l t x || hasTFs l t r
theorem hasTFs_eq (l : List CI) (t : Tag) : ∀ r, hasTF.hasTFs l t r = r.any (hasTF l t)
  | [] => by simp [hasTF.hasTFs]
  | x :: r => by rw [hasTF.hasTFs, hasTFs_eq l t r]; simp
theorem hasTF_eq (l : List CI) (t : Tag) (x : Ty) : hasTF l t x = if x.kind = 1 then belowB l (classOfB t) x.name
    else if x.kind = 2 then decide (t.kind = 1) && decide (x.lo ≤ t.num) && decide (t.num ≤ x.hi)
    else if x.kind = 3 then decide (t.kind = 2) && decide (t.num = x.lo)
    else if x.kind = 4 then decide (t.kind = 3) && belowB l t.name x.name
    else x.args.any (hasTF l t) := by cases x; rw [hasTF, hasTFs_eq]; rfl
set_option maxHeartbeats 40000000 in
set_option maxRecDepth 100000 in
theorem hasType_calls (hp M1 : Nat) (AH : Option Addr) (cH : Nat) (l : List CI) (ol : ∀ x ∈ l, ciOk x) (v : Tag) (hv : TagKind v) : ∀ (q : Nat) (t : Ty), t.count ≤ q → ∀ (A : Option Addr) (c : Nat) (W : World) (G GH : Nat → Prop), HierAt hp M1 AH cH l l.length W → Held GH (CIs AH l) W → Held G (Typs A t.args) W →
    t.args.length ≤ c → t.all (fun x => decide (x.args.length ≤ 1000000)) = true →
    Calls Tryz.prog 89 #[.pointer (some ⟨hp, 0, none⟩), tagV v, tyV t A c] W fun e W' => e = .returned (.bool (hasTF l v t)) ∧ Below W.heap.size W W' := by
  intro q
  induction q with
  | zero => intro t h; have := t.count_pos; omega
  | succ q ih =>
    intro t hq A c W G GH H hH hA hc hall
    have hl : t.args.length ≤ 1000000 := by
      rw [Ty.all_args] at hall
      simp only [Bool.and_eq_true, decide_eq_true_eq] at hall
      exact hall.1
    have HBL := Lib.hid (fun a b V (h : Below W.heap.size W V) => below_calls hp M1 AH cH l a b V (H.keep h) GH (hH.keep (Keep.all h)) ol)
    have HCO := Lib.hid (fun V => classOf_calls v hv V)
    by_cases k1 : t.kind = 1
    · have s1 : (t.kind == 1) = true := beq_iff_eq.2 k1
      have HF : Hid (hasTF l v t = belowB l (classOfB v) t.name) := Lib.hid (by rw [hasTF_eq, if_pos k1])
      clear ih H hH hA hall k1
      have b1 : Below W.heap.size W (((W.alloc (.cells #[.pointer (some ⟨hp, 0, none⟩)] 98)).alloc (.cells #[.int .i64 v.kind, .int .i64 v.num, .string v.name] 39)).alloc (.cells #[.int .i64 t.kind, .string t.name, .int .i64 t.lo, .int .i64 t.hi, .slice A t.args.length c] 36)) := (((Below.refl _ W).alloc (Nat.le_refl _) _).alloc (by simp) _).alloc (by simp; omega) _
      have c5 : World.cell? (World.drew (((W.alloc (.cells #[.pointer (some ⟨hp, 0, none⟩)] 98)).alloc (.cells #[.int .i64 v.kind, .int .i64 v.num, .string v.name] 39)).alloc (.cells #[.int .i64 t.kind, .string t.name, .int .i64 t.lo, .int .i64 t.hi, .slice A t.args.length c] 36))) ⟨W.heap.size + 1 + 1, 1, none⟩ = some (.string t.name) := cell_new ((W.alloc _).alloc _) _ _ _ (by simp) 1 _ rfl
      have c0h : World.cell? (World.drew (((W.alloc (.cells #[.pointer (some ⟨hp, 0, none⟩)] 98)).alloc (.cells #[.int .i64 v.kind, .int .i64 v.num, .string v.name] 39)).alloc (.cells #[.int .i64 t.kind, .string t.name, .int .i64 t.lo, .int .i64 t.hi, .slice A t.args.length c] 36))) ⟨W.heap.size, 0, none⟩ = some (.pointer (some ⟨hp, 0, none⟩)) := alloc_cell (alloc_cell (cell_new W _ _ _ rfl 0 _ rfl))
      go_enter Tryz.func89, Tryz.ntmps89
      go_wp2
      refine (wpIn_wide (n := 9)).1 ?_
      gi_region_with (first
        | (refine ⟨trivial, ?_⟩; gi_at_call 135; refine (callsIn_wide.2 (HCO.out _)).mono ?_; rintro e V ⟨rfl, hbv⟩; have bV := (b1.drew).trans (hbv.mono (b1.drew).size); have d5 : V.cell? ⟨W.heap.size + 1 + 1, 1, none⟩ = some (.string t.name) := cell_all c5 hbv; have d0 : V.cell? ⟨W.heap.size, 0, none⟩ = some (.pointer (some ⟨hp, 0, none⟩)) := cell_all c0h hbv)
        | (refine ⟨trivial, ?_⟩; gi_at_call 134; refine (callsIn_wide.2 (HBL.out _ _ V bV)).mono ?_; rintro e V2 ⟨rfl, rfl⟩))
      all_goals go_wp2
      all_goals
        go_ret
        exact ⟨by rw [HF.out]; rfl, bV⟩
    have s1 : (t.kind == 1) = false := beq_eq_false_iff_ne.2 k1
    have K1 := Lib.hid k1
    clear k1
    by_cases k2 : t.kind = 2
    · have s2 : (t.kind == 2) = true := beq_iff_eq.2 k2
      have HF : Hid (hasTF l v t = (decide (v.kind = 1) && decide (t.lo ≤ v.num) && decide (v.num ≤ t.hi))) := Lib.hid (by rw [hasTF_eq, if_neg K1.out, if_pos k2])
      clear ih H hH hA hall k2
      by_cases a1 : v.kind = 1
      · have u1 : (v.kind == 1) = true := beq_iff_eq.2 a1
        by_cases a2 : t.lo ≤ v.num
        · have u2 : decide (t.lo ≤ v.num) = true := decide_eq_true a2
          have HF2 : Hid (hasTF l v t = decide (v.num ≤ t.hi)) := Lib.hid (by rw [HF.out, decide_eq_true a1, decide_eq_true a2]; rfl)
          clear HF a1 a2
          go_enter Tryz.func89, Tryz.ntmps89
          go_wp2
          go_ret
          exact ⟨by rw [HF2.out]; rfl, (((Below.refl _ W).alloc (Nat.le_refl _) _).alloc (by simp) _).alloc (by simp; omega) _⟩
        · have u2 : decide (t.lo ≤ v.num) = false := decide_eq_false a2
          have HF2 : Hid (hasTF l v t = false) := Lib.hid (by rw [HF.out, decide_eq_false a2]; simp)
          clear HF a1 a2
          go_enter Tryz.func89, Tryz.ntmps89
          go_wp2
          go_ret
          exact ⟨by rw [HF2.out]; rfl, (((Below.refl _ W).alloc (Nat.le_refl _) _).alloc (by simp) _).alloc (by simp; omega) _⟩
      · have u1 : (v.kind == 1) = false := beq_eq_false_iff_ne.2 a1
        have HF2 : Hid (hasTF l v t = false) := Lib.hid (by rw [HF.out, decide_eq_false a1]; rfl)
        clear HF a1
        go_enter Tryz.func89, Tryz.ntmps89
        go_wp2
        go_ret
        exact ⟨by rw [HF2.out]; rfl, (((Below.refl _ W).alloc (Nat.le_refl _) _).alloc (by simp) _).alloc (by simp; omega) _⟩
    have s2 : (t.kind == 2) = false := beq_eq_false_iff_ne.2 k2
    have K2 := Lib.hid k2
    clear k2
    by_cases k3 : t.kind = 3
    · have s3 : (t.kind == 3) = true := beq_iff_eq.2 k3
      have HF : Hid (hasTF l v t = (decide (v.kind = 2) && decide (v.num = t.lo))) := Lib.hid (by rw [hasTF_eq, if_neg K1.out, if_neg K2.out, if_pos k3])
      clear ih H hH hA hall k3
      by_cases a1 : v.kind = 2
      · have u1 : (v.kind == 2) = true := beq_iff_eq.2 a1
        by_cases a2 : v.num = t.lo
        · have u2 : (v.num == t.lo) = true := beq_iff_eq.2 a2
          have HF2 : Hid (hasTF l v t = true) := Lib.hid (by rw [HF.out, decide_eq_true a1, decide_eq_true a2]; rfl)
          clear HF a1 a2
          go_enter Tryz.func89, Tryz.ntmps89
          go_wp2
          go_ret
          exact ⟨by rw [HF2.out]; rfl, (((Below.refl _ W).alloc (Nat.le_refl _) _).alloc (by simp) _).alloc (by simp; omega) _⟩
        · have u2 : (v.num == t.lo) = false := beq_eq_false_iff_ne.2 a2
          have HF2 : Hid (hasTF l v t = false) := Lib.hid (by rw [HF.out, decide_eq_false a2]; simp)
          clear HF a1 a2
          go_enter Tryz.func89, Tryz.ntmps89
          go_wp2
          go_ret
          exact ⟨by rw [HF2.out]; rfl, (((Below.refl _ W).alloc (Nat.le_refl _) _).alloc (by simp) _).alloc (by simp; omega) _⟩
      · have u1 : (v.kind == 2) = false := beq_eq_false_iff_ne.2 a1
        have HF2 : Hid (hasTF l v t = false) := Lib.hid (by rw [HF.out, decide_eq_false a1]; rfl)
        clear HF a1
        go_enter Tryz.func89, Tryz.ntmps89
        go_wp2
        go_ret
        exact ⟨by rw [HF2.out]; rfl, (((Below.refl _ W).alloc (Nat.le_refl _) _).alloc (by simp) _).alloc (by simp; omega) _⟩
    have s3 : (t.kind == 3) = false := beq_eq_false_iff_ne.2 k3
    have K3 := Lib.hid k3
    clear k3
    by_cases k4 : t.kind = 4
    · have s4 : (t.kind == 4) = true := beq_iff_eq.2 k4
      have HF : Hid (hasTF l v t = (decide (v.kind = 3) && belowB l v.name t.name)) := Lib.hid (by rw [hasTF_eq, if_neg K1.out, if_neg K2.out, if_neg K3.out, if_pos k4])
      clear ih H hH hA hall k4
      by_cases a1 : v.kind = 3
      · have u1 : (v.kind == 3) = true := beq_iff_eq.2 a1
        have HF2 : Hid (hasTF l v t = belowB l v.name t.name) := Lib.hid (by rw [HF.out, decide_eq_true a1]; rfl)
        clear HF a1
        go_enter Tryz.func89, Tryz.ntmps89
        go_wp2_with (go_at_call 134; refine (HBL.out _ _ _ ((((Below.refl _ W).alloc (Nat.le_refl _) _).alloc (by simp) _).alloc (by simp; omega) _)).mono ?_; rintro e V2 ⟨rfl, rfl⟩)
        go_ret
        exact ⟨by rw [HF2.out]; rfl, (((Below.refl _ W).alloc (Nat.le_refl _) _).alloc (by simp) _).alloc (by simp; omega) _⟩
      · have u1 : (v.kind == 3) = false := beq_eq_false_iff_ne.2 a1
        have HF2 : Hid (hasTF l v t = false) := Lib.hid (by rw [HF.out, decide_eq_false a1]; rfl)
        clear HF a1
        go_enter Tryz.func89, Tryz.ntmps89
        go_wp2
        go_ret
        exact ⟨by rw [HF2.out]; rfl, (((Below.refl _ W).alloc (Nat.le_refl _) _).alloc (by simp) _).alloc (by simp; omega) _⟩
    have s4 : (t.kind == 4) = false := beq_eq_false_iff_ne.2 k4
    have HF : Hid (hasTF l v t = t.args.any (hasTF l v)) := Lib.hid (by rw [hasTF_eq, if_neg K1.out, if_neg K2.out, if_neg K3.out, if_neg k4])
    clear k4
    obtain ⟨W1, hW1⟩ : ∃ W1, W1 = ((W.alloc (.cells #[.pointer (some ⟨hp, 0, none⟩)] 98)).alloc (.cells #[.int .i64 v.kind, .int .i64 v.num, .string v.name] 39)).alloc (.cells #[.int .i64 t.kind, .string t.name, .int .i64 t.lo, .int .i64 t.hi, .slice A t.args.length c] 36) := ⟨_, rfl⟩
    have b1 : Below W.heap.size W W1 := by rw [hW1]; exact (((Below.refl _ W).alloc (Nat.le_refl _) _).alloc (by simp) _).alloc (by simp; omega) _
    have x0 : W1.cell? ⟨W.heap.size, 0, none⟩ = some (.pointer (some ⟨hp, 0, none⟩)) := by rw [hW1]; exact alloc_cell (alloc_cell (cell_new W _ _ _ rfl 0 _ rfl))
    have x1 : ∀ j u, [Value.int .i64 v.kind, .int .i64 v.num, .string v.name][j]? = some u → W1.cell? ⟨W.heap.size + 1, j, none⟩ = some u := fun j u hj => by rw [hW1]; exact alloc_cell (cell_new (W.alloc _) _ _ _ (by simp) j u hj)
    obtain ⟨b, off, hbo⟩ : ∃ b off, 0 < t.args.length → A = some ⟨b, off, none⟩ := by
      by_cases h0 : 0 < t.args.length
      · obtain ⟨b, off, e⟩ := Slc.addrH hA h0
        exact ⟨b, off, fun _ => e⟩
      · exact ⟨0, 0, fun h => absurd h h0⟩
    have hA1 := hA.keep (Keep.all (G := G) b1)
    have H1 := H.keep b1
    have HCF : Hid (Calls Tryz.prog 101 #[.slice A t.args.length c, .func (.func 136) #[] #[.pointer (some ⟨W.heap.size, 0, none⟩), .pointer (some ⟨W.heap.size + 1, 0, none⟩)]] W1
        (FoundB (fun i wr => Below W1.heap.size W1 wr ∧ ∀ j x, j < i → t.args[j]? = some x → hasTF l v x = false) (fun i wr => Below W1.heap.size W1 wr ∧ ∃ x, t.args[i]? = some x ∧ hasTF l v x = true) (Panics fun _ _ => False) t.args.length)) := Lib.hid (by
      refine containsFuncTyp A t.args.length c 136 _ (fun i => (t.args[i]?.map fun x => Value.int .i64 x.kind).getD undef) (fun i => (t.args[i]?.map fun x => Value.string x.name).getD undef) (fun i => (t.args[i]?.map fun x => Value.int .i64 x.lo).getD undef) (fun i => (t.args[i]?.map fun x => Value.int .i64 x.hi).getD undef)
        (fun i => (W1.cell? ⟨b, off + i * 5 + 4, none⟩).getD undef) W1 (by omega) (enters Tryz.func136 (by kernel_rfl) rfl) _ _ _ ⟨Below.refl _ _, fun j x hj => absurd hj (by omega)⟩ (fun h0 => ⟨b, off, hbo h0⟩) ?_ ?_
      · rintro i wr b' off' rfl hi ⟨hcw, _⟩
        have hb' := hbo (by omega)
        simp only [Option.some.injEq, Addr.mk.injEq, and_true] at hb'
        obtain ⟨rfl, rfl⟩ := hb'
        have hx : t.args[i]? = some t.args[i] := List.getElem?_eq_getElem hi
        obtain ⟨A5, c5, p1, p2, g0, g1, g2, g3, g4⟩ := Typs.atH hA1 hx
        simp only [hx, Option.map_some, Option.getD_some, g4]
        exact ⟨cell_all g0 hcw, cell_all g1 hcw, cell_all g2 hcw, cell_all g3 hcw, cell_all g4 hcw⟩
      · rintro i wr hi ⟨hcw, hjw⟩
        have hb' := hbo (by omega)
        subst hb'
        have hx : t.args[i]? = some t.args[i] := List.getElem?_eq_getElem hi
        generalize t.args[i] = x at hx
        have hmem : x ∈ t.args := List.mem_of_getElem? hx
        obtain ⟨A5, c5, p1, p2, g0, g1, g2, g3, g4⟩ := Typs.atH hA1 hx
        simp only [hx, Option.map_some, Option.getD_some, g4]
        have hall2 : x.all (fun x => decide (x.args.length ≤ 1000000)) = true := by
          rw [Ty.all_args] at hall
          simp only [Bool.and_eq_true, List.all_eq_true] at hall
          exact hall.2 x hmem
        have hcnt := Ty.count_mem hmem
        have y0 := cell_all x0 hcw
        have y1 := cell_all (x1 0 _ rfl) hcw
        have y2 := cell_all (x1 1 _ rfl) hcw
        have y3 := cell_all (x1 2 _ rfl) hcw
        have yl0 := cell_lt y0
        have yl1 := cell_lt y1
        obtain ⟨V, hV⟩ : ∃ V, V = wr.alloc (.cells #[.int .i64 x.kind, .string x.name, .int .i64 x.lo, .int .i64 x.hi, .slice A5 x.args.length c5] 36) := ⟨_, rfl⟩
        have bV : Below wr.heap.size wr V := by rw [hV]; exact (Below.refl _ wr).alloc (Nat.le_refl _) _
        have hcV : Below W1.heap.size W1 V := hcw.trans (bV.mono hcw.size)
        have HI := Lib.hid (ih x (by omega) A5 c5 V G GH (H1.keep hcV) ((hH.keep (Keep.all b1)).keep (Keep.all hcV)) (p2.keep (Keep.all hcV)) p1 hall2)
        subst hV
        show Calls _ _ #[.agg #[.int .i64 x.kind, .string x.name, .int .i64 x.lo, .int .i64 x.hi, .slice A5 x.args.length c5], .pointer (some ⟨W.heap.size, 0, none⟩), .pointer (some ⟨W.heap.size + 1, 0, none⟩)] _ _
        clear ih hA hA1 H H1 hH hall hall2 x1 HBL HCO
        go_enter Tryz.func136, Tryz.ntmps136
        go_wp2_with (fail)
        refine HI.out.mono ?_
        clear HI
        rintro e V ⟨rfl, hbV⟩
        have hcf := hcV.trans (hbV.mono hcV.size)
        cases hfx : hasTF l v x with
        | true =>
          have HFX := Lib.hid hfx
          clear hfx
          go_wp2
          go_ret
          exact .inr (.inl ⟨rfl, hcf, x, hx, HFX.out⟩)
        | false =>
          have HFX := Lib.hid hfx
          clear hfx
          go_wp2
          go_ret
          refine .inl ⟨rfl, hcf, fun j z hj hz => ?_⟩
          rcases Nat.lt_or_ge j i with h | h
          · exact hjw j z h hz
          · obtain rfl : j = i := by omega
            rw [hx] at hz; cases hz; exact HFX.out)
    clear ih hA hA1 H H1 hH hall x0 x1 HBL HCO
    subst hW1
    go_enter Tryz.func89, Tryz.ntmps89
    go_wp2_with (fail)
    refine HCF.out.mono ?_
    rintro e w' (⟨rfl, h1, h2⟩ | ⟨i, h0, rfl, h1, x, h2, h3⟩ | ⟨_, _, h⟩)
    · have HA : Hid (t.args.any (hasTF l v) = false) := Lib.hid (by
        rw [List.any_eq_false]
        intro x hx
        obtain ⟨j, hj⟩ := List.mem_iff_getElem?.1 hx
        rw [h2 j x (List.getElem?_eq_some_iff.1 hj).1 hj]; simp)
      clear h2
      have hbb := b1.trans (h1.mono b1.size)
      go_wp2
      go_ret
      exact ⟨by rw [HF.out, HA.out]; rfl, hbb⟩
    · have HA : Hid (t.args.any (hasTF l v) = true) := Lib.hid (List.any_eq_true.2 ⟨x, List.mem_of_getElem? h2, h3⟩)
      clear h2 h3
      have hbb := b1.trans (h1.mono b1.size)
      go_wp2
      go_ret
      exact ⟨by rw [HF.out, HA.out]; rfl, hbb⟩
    · exact h.elim
end Go.Proofs.YtepnmejahbiacaaGreat
set_option linter.unusedVariables false
set_option linter.unusedSimpArgs false
namespace Go.Proofs.YtepnmejahbiacaaGreat
open Go.RowKit
theorem tagOk_kind {l : List CI} {t : Tag} (h : tagOk l t = true) : TagKind t := by
  unfold tagOk at h
  unfold TagKind
  split at h
  · exact .inl ‹_›
  · split at h
    · exact .inr (.inl ‹_›)
    · split at h
      · exact .inr (.inr (.inl ‹_›))
      · split at h
        · exact .inr (.inr (.inr (.inl ‹_›)))
        · split at h
          · exact .inr (.inr (.inr (.inr ‹_›)))
          · cases h
/-- types.Has. -/
def HasOk (l : List CI) (v : Tag) (t : Ty) : Prop := LookOk l ∧ tagOk l v = true ∧ validErr l t = 0 ∧ hasTF l v t = true
set_option maxHeartbeats 8000000 in
set_option maxRecDepth 100000 in
theorem Has_calls (AH : Option Addr) (cH : Nat) (l : List CI) (v : Tag) (t : Ty) (A : Option Addr) (c : Nat) (W : World) (hcH : l.length ≤ cH) (GH : Nat → Prop) (h : Held GH (CIs AH l) W) (ol : ∀ x ∈ l, ciOk x) (hl : l.length ≤ 1000000) (G : Nat → Prop) (hA : Held G (Typs A t.args) W)
    (hc : t.args.length ≤ c) (hs : TySmall t) :
    Calls Tryz.prog 53 #[.slice AH l.length cH, tagV v, tyV t A c] W fun e W' => Below W.heap.size W W' ∧ ((HasOk l v t ∧ e = .returned (.bool true)) ∨ (¬ HasOk l v t ∧ e = .returned (.bool false))) := by
  obtain ⟨W1, hW1⟩ : ∃ W1, W1 = (W.alloc (.cells #[.int .i64 v.kind, .int .i64 v.num, .string v.name] 39)).alloc (.cells #[.int .i64 t.kind, .string t.name, .int .i64 t.lo, .int .i64 t.hi, .slice A t.args.length c] 36) := ⟨_, rfl⟩
  have b1 : Below W.heap.size W W1 := by rw [hW1]; exact ((Below.refl _ W).alloc (Nat.le_refl _) _).alloc (by simp) _
  have xv : ∀ j u, [Value.int .i64 v.kind, .int .i64 v.num, .string v.name][j]? = some u → W1.cell? ⟨W.heap.size, j, none⟩ = some u := fun j u hj => by rw [hW1]; exact alloc_cell (cell_new W _ _ _ rfl j u hj)
  have xt : ∀ j u, [Value.int .i64 t.kind, .string t.name, .int .i64 t.lo, .int .i64 t.hi, .slice A t.args.length c][j]? = some u → W1.cell? ⟨W.heap.size + 1, j, none⟩ = some u := fun j u hj => by rw [hW1]; exact cell_new (W.alloc _) _ _ _ (by simp) j u hj
  have HL := Lib.hid (look_calls AH cH l W1 hcH GH (h.keep (Keep.all b1)) ol hl)
  go_enter Tryz.func53, Tryz.ntmps53
  go_wp2_with (fail)
  rw [← hW1]
  refine HL.out.mono ?_
  clear HL
  rintro e W2 ⟨hb2, (⟨h1, rfl⟩ | ⟨h1, hp, M1, _, _, rfl, H⟩)⟩
  · have b2 := b1.trans (hb2.mono b1.size)
    have H1 := Lib.hid h1
    clear h1
    go_wp2
    go_ret
    exact ⟨b2, .inr ⟨fun hh => H1.out hh.1, rfl⟩⟩
  have b2 := b1.trans (hb2.mono b1.size)
  have v0 := cell_all (xv 0 _ rfl) hb2
  have v1 := cell_all (xv 1 _ rfl) hb2
  have v2 := cell_all (xv 2 _ rfl) hb2
  have t0 := cell_all (xt 0 _ rfl) hb2
  have t1 := cell_all (xt 1 _ rfl) hb2
  have t2 := cell_all (xt 2 _ rfl) hb2
  have t3 := cell_all (xt 3 _ rfl) hb2
  have t4 := cell_all (xt 4 _ rfl) hb2
  have hl0 : 0 < l.length := by have := h1.2.1; omega
  have H1 := Lib.hid h1
  have HT := Lib.hid (isTag_calls hp M1 AH cH l v W2 H GH (h.keep (Keep.all b2)) hl0)
  clear h1 xv xt
  go_wp2_with (fail)
  refine HT.out.mono ?_
  clear HT
  rintro e W3 ⟨rfl, hb3⟩
  have b3 := b2.trans (hb3.mono b2.size)
  cases hq : tagOk l v with
  | false =>
    have HQ := Lib.hid hq
    clear hq
    go_wp2
    go_ret
    exact ⟨b3, .inr ⟨fun hh => (by have := hh.2.1; rw [HQ.out] at this; cases this), rfl⟩⟩
  | true =>
    have HQ := Lib.hid hq
    clear hq
    have v0 := cell_all v0 hb3
    have v1 := cell_all v1 hb3
    have v2 := cell_all v2 hb3
    have t0 := cell_all t0 hb3
    have t1 := cell_all t1 hb3
    have t2 := cell_all t2 hb3
    have t3 := cell_all t3 hb3
    have t4 := cell_all t4 hb3
    have HV := Lib.hid (valid_calls hp M1 AH cH l t A c W3 G (H.keep hb3) (hA.keep (Keep.all b3)) hc hs)
    go_wp2_with (fail)
    refine HV.out.mono ?_
    clear HV
    rintro e W4 ⟨rfl, hb4⟩
    have b4 := b3.trans (hb4.mono b3.size)
    by_cases hz : validErr l t = 0
    · have u1 : (validErr l t == 0) = true := beq_iff_eq.2 hz
      have HZ := Lib.hid hz
      clear hz
      have v0 := cell_all v0 hb4
      have v1 := cell_all v1 hb4
      have v2 := cell_all v2 hb4
      have t0 := cell_all t0 hb4
      have t1 := cell_all t1 hb4
      have t2 := cell_all t2 hb4
      have t3 := cell_all t3 hb4
      have t4 := cell_all t4 hb4
      have HY := Lib.hid (hasType_calls hp M1 AH cH l ol v (tagOk_kind HQ.out) t.count t (Nat.le_refl _) A c W4 G GH ((H.keep hb3).keep hb4) (h.keep (Keep.all b4)) (hA.keep (Keep.all b4)) hc hs.all)
      go_wp2_with (fail)
      refine HY.out.mono ?_
      clear HY
      rintro e W5 ⟨rfl, hb5⟩
      have b5 := b4.trans (hb5.mono b4.size)
      cases hy : hasTF l v t with
      | false =>
        have HYY := Lib.hid hy
        clear hy
        go_wp2
        go_ret
        exact ⟨b5, .inr ⟨fun hh => (by have := hh.2.2.2; rw [HYY.out] at this; cases this), rfl⟩⟩
      | true =>
        have HYY := Lib.hid hy
        clear hy
        go_wp2
        go_ret
        exact ⟨b5, .inl ⟨⟨H1.out, HQ.out, HZ.out, HYY.out⟩, rfl⟩⟩
    · have u1 : (validErr l t == 0) = false := beq_eq_false_iff_ne.2 hz
      have HZ := Lib.hid hz
      clear hz
      go_wp2
      go_ret
      exact ⟨b4, .inr ⟨fun hh => HZ.out hh.2.2.1, rfl⟩⟩
end Go.Proofs.YtepnmejahbiacaaGreat
namespace Go.Proofs.YtepnmejahbiacaaGreat
open Go.RowKit
set_option maxHeartbeats 8000000 in
set_option maxRecDepth 100000 in
theorem ClassOf_calls (AH : Option Addr) (cH : Nat) (l : List CI) (v : Tag) (W : World) (hcH : l.length ≤ cH) (GH : Nat → Prop) (h : Held GH (CIs AH l) W) (ol : ∀ x ∈ l, ciOk x) (hl : l.length ≤ 1000000) :
    Calls Tryz.prog 90 #[.slice AH l.length cH, tagV v] W fun e W' => Below W.heap.size W W' ∧ (((LookOk l ∧ tagOk l v = true) ∧ e = .returned (.string (classOfB v))) ∨ (¬ (LookOk l ∧ tagOk l v = true) ∧ e = .returned (.string ⟨#[]⟩))) := by
  obtain ⟨W1, hW1⟩ : ∃ W1, W1 = W.alloc (.cells #[.int .i64 v.kind, .int .i64 v.num, .string v.name] 39) := ⟨_, rfl⟩
  have b1 : Below W.heap.size W W1 := by rw [hW1]; exact (Below.refl _ W).alloc (Nat.le_refl _) _
  have xv : ∀ j u, [Value.int .i64 v.kind, .int .i64 v.num, .string v.name][j]? = some u → W1.cell? ⟨W.heap.size, j, none⟩ = some u := fun j u hj => by rw [hW1]; exact cell_new W _ _ _ rfl j u hj
  have HL := Lib.hid (look_calls AH cH l W1 hcH GH (h.keep (Keep.all b1)) ol hl)
  go_enter Tryz.func90, Tryz.ntmps90
  go_wp2_with (fail)
  rw [← hW1]
  refine HL.out.mono ?_
  clear HL
  rintro e W2 ⟨hb2, (⟨h1, rfl⟩ | ⟨h1, hp, M1, _, _, rfl, H⟩)⟩
  · have b2 := b1.trans (hb2.mono b1.size)
    have H1 := Lib.hid h1
    clear h1
    go_wp2
    go_ret
    exact ⟨b2, .inr ⟨fun hh => H1.out hh.1, rfl⟩⟩
  have b2 := b1.trans (hb2.mono b1.size)
  have v0 := cell_all (xv 0 _ rfl) hb2
  have v1 := cell_all (xv 1 _ rfl) hb2
  have v2 := cell_all (xv 2 _ rfl) hb2
  have hl0 : 0 < l.length := by have := h1.2.1; omega
  have H1 := Lib.hid h1
  have HT := Lib.hid (isTag_calls hp M1 AH cH l v W2 H GH (h.keep (Keep.all b2)) hl0)
  clear h1 xv
  go_wp2_with (fail)
  refine HT.out.mono ?_
  clear HT
  rintro e W3 ⟨rfl, hb3⟩
  have b3 := b2.trans (hb3.mono b2.size)
  cases hq : tagOk l v with
  | false =>
    have HQ := Lib.hid hq
    clear hq
    go_wp2
    go_ret
    exact ⟨b3, .inr ⟨fun hh => (by have := hh.2; rw [HQ.out] at this; cases this), rfl⟩⟩
  | true =>
    have HQ := Lib.hid hq
    clear hq
    have v0 := cell_all v0 hb3
    have v1 := cell_all v1 hb3
    have v2 := cell_all v2 hb3
    have HC := Lib.hid (classOf_calls v (tagOk_kind HQ.out) W3)
    go_wp2_with (fail)
    refine HC.out.mono ?_
    clear HC
    rintro e W4 ⟨rfl, hb4⟩
    have b4 := b3.trans (hb4.mono b3.size)
    go_wp2
    go_ret
    exact ⟨b4, .inl ⟨⟨H1.out, HQ.out⟩, rfl⟩⟩
end Go.Proofs.YtepnmejahbiacaaGreat
set_option linter.unusedVariables false
set_option linter.unusedSimpArgs false
namespace Go.Proofs.YtepnmejahbiacaaGreat
open Go.RowKit
def tagR (t : Tag) (cs : List Value) (_ : World) : Prop := cs = [.int .i64 t.kind, .int .i64 t.num, .string t.name]
abbrev Tags (A : Option Addr) (l : List Tag) (w : World) : Prop := Slc tagR 3 A l w
theorem Tags.atH {G : Nat → Prop} {b off : Nat} {l : List Tag} {w : World} (h : Held G (Tags (some ⟨b, off, none⟩) l) w) {k : Nat} {x : Tag} (hk : l[k]? = some x) :
    w.cell? ⟨b, off + k * 3, none⟩ = some (.int .i64 x.kind) ∧ w.cell? ⟨b, off + k * 3 + 1, none⟩ = some (.int .i64 x.num) ∧ w.cell? ⟨b, off + k * 3 + 2, none⟩ = some (.string x.name) := by
  obtain ⟨cs, _, hr, hc⟩ := Slc.atH h (by decide) hk
  obtain rfl : cs = _ := hr.now
  exact ⟨(hc 0 _ rfl).now, (hc 1 _ rfl).now, (hc 2 _ rfl).now⟩
/-- The hierarchy and the arguments of a call, at its block. -/
structure CallAt (cp : Nat) (AH : Option Addr) (cH : Nat) (l : List CI) (AT : Option Addr) (cT : Nat) (ts : List Tag) (w : World) : Prop where
  c0 : w.cell? ⟨cp, 0, none⟩ = some (.slice AH l.length cH)
  c1 : w.cell? ⟨cp, 1, none⟩ = some (.slice AT ts.length cT)
theorem CallAt.keep {cp : Nat} {AH : Option Addr} {cH : Nat} {l : List CI} {AT : Option Addr} {cT : Nat} {ts : List Tag} {w w' : World} (h : CallAt cp AH cH l AT cT ts w) (q : Below w.heap.size w w') : CallAt cp AH cH l AT cT ts w' :=
  ⟨cell_all h.c0 q, cell_all h.c1 q⟩
/-- A method applies to the arguments. -/
def Applies (l : List CI) (ts : List Tag) (m : Meth) : Prop := ∀ (i : Nat) (p : Par) (t : Tag), m.pars[i]? = some p → ts[i]? = some t → HasOk l t p.type
end Go.Proofs.YtepnmejahbiacaaGreat
namespace Go.Proofs.YtepnmejahbiacaaGreat
open Go.RowKit
set_option maxHeartbeats 8000000 in
set_option maxRecDepth 100000 in
theorem applies_calls (cp : Nat) (AH : Option Addr) (cH : Nat) (l : List CI) (AT : Option Addr) (cT : Nat) (ts : List Tag) (m : Meth) (A1 A2 : Option Addr) (c1 c2 : Nat) (W : World) (HC : CallAt cp AH cH l AT cT ts W)
    (GH : Nat → Prop) (h : Held GH (CIs AH l) W) (hcH : l.length ≤ cH) (ol : ∀ x ∈ l, ciOk x) (hl : l.length ≤ 1000000) (GT : Nat → Prop) (hT : Held GT (Tags AT ts) W)
    (G : Nat → Prop) (hP : Held G (Pars A1 m.pars) W) (hn : m.pars.length = ts.length) (hn2 : m.pars.length ≤ 1000000) (hs : ∀ p ∈ m.pars, TySmall p.type) :
    Calls Tryz.prog 42 #[.pointer (some ⟨cp, 0, none⟩), .agg #[.int .i64 m.id, .string m.lib, .slice A1 m.pars.length c1, .int .i64 m.result.kind, .string m.result.name, .int .i64 m.result.lo, .int .i64 m.result.hi, .slice A2 m.result.args.length c2]] W
      fun e W' => Below W.heap.size W W' ∧ ((Applies l ts m ∧ e = .returned (.bool true)) ∨ (¬ Applies l ts m ∧ e = .returned (.bool false))) := by
  have HNN := Lib.hid hn
  clear hn
  go_enter Tryz.func42, Tryz.ntmps42
  go_wp2
  go_loopw [10] (fun i wr => ∃ k : Nat, k ≤ m.pars.length ∧ i = .int .i64 k ∧ (∀ (i : Nat) (p : Par) (t : Tag), i < k → m.pars[i]? = some p → ts[i]? = some t → HasOk l t p.type) ∧ Below W.heap.size W wr) (fun i _ => m.pars.length - (intOf i).toNat)
  case atStart => exact ⟨0, Nat.zero_le _, rfl, fun i p t hi => absurd hi (by omega), (Below.refl _ W).alloc (Nat.le_refl _) _⟩
  case round =>
    obtain ⟨k, hk, rfl, hok, hb⟩ := hrel
    have HOK := Lib.hid hok
    clear hok
    by_cases hlt : k < m.pars.length
    · obtain ⟨b, off, rfl⟩ := Slc.addrH hP (by omega)
      obtain ⟨b2, off2, rfl⟩ := Slc.addrH hT (by rw [← HNN.out]; omega)
      have hx : m.pars[k]? = some m.pars[k] := List.getElem?_eq_getElem hlt
      have htk : k < ts.length := by rw [← HNN.out]; exact hlt
      have ht : ts[k]? = some ts[k] := List.getElem?_eq_getElem htk
      generalize m.pars[k] = p at hx
      generalize ts[k] = t at ht
      have HX := Lib.hid hx
      have HT := Lib.hid ht
      have HCr := HC.keep hb
      have q0 := HCr.c0
      have q1 := HCr.c1
      obtain ⟨A3, c3, p1, p2, g0, g1, g2, g3, g4, g5⟩ := Pars.atH (hP.keep (Keep.all hb)) hx
      obtain ⟨d0, d1, d2⟩ := Tags.atH (hT.keep (Keep.all hb)) ht
      have hcpl := cell_lt q0
      have hb2l := cell_lt d0
      have HHas := Lib.hid (fun V (hv : Below wr.heap.size wr V) => Has_calls AH cH l t p.type A3 c3 V hcH GH ((h.keep (Keep.all hb)).keep (Keep.all hv)) ol hl G (p2.keep (Keep.all hv)) p1 (hs p (List.mem_of_getElem? hx)))
      clear hx ht
      by_cases hh : HasOk l t p.type
      · have HO := Lib.hid hh
        have HH2 : Hid (∀ V, Below wr.heap.size wr V → Calls Tryz.prog 53 #[.slice AH l.length cH, tagV t, tyV p.type A3 c3] V fun e V' => Below V.heap.size V V' ∧ e = .returned (.bool true)) := Lib.hid (fun V hv => (HHas.out V hv).mono fun e V' hq => ⟨hq.1, by rcases hq.2 with q | q; exact q.2; exact absurd HO.out q.1⟩)
        clear hh HHas
        go_wp2
        refine (wpIn_wide (n := 9)).1 ?_
        gi_region_with (refine ⟨trivial, ?_⟩; gi_at_call 53; refine (callsIn_wide.2 (HH2.out _ (((Below.refl _ wr).alloc (Nat.le_refl _) _).drew))).mono ?_; rintro e V ⟨hbv, rfl⟩)
        all_goals go_wp2
        all_goals
          have bq := ((Below.refl _ wr).alloc (Nat.le_refl _) (Obj.cells #[.string p.name, .int .i64 p.type.kind, .string p.type.name, .int .i64 p.type.lo, .int .i64 p.type.hi, .slice A3 p.type.args.length c3] 76)).drew
          have bf : Below W.heap.size W V := hb.trans ((bq.trans (hbv.mono bq.size)).mono hb.size)
          refine ⟨⟨k + 1, by omega, by go_num, fun i p' t' hi hp ht => ?_, bf⟩, by simp [intOf]; omega⟩
          rcases Nat.lt_or_ge i k with h | h
          · exact HOK.out i p' t' h hp ht
          · obtain rfl : i = k := by omega
            rw [HX.out] at hp; rw [HT.out] at ht; cases hp; cases ht; exact HO.out
      · have HO := Lib.hid hh
        have HH2 : Hid (∀ V, Below wr.heap.size wr V → Calls Tryz.prog 53 #[.slice AH l.length cH, tagV t, tyV p.type A3 c3] V fun e V' => Below V.heap.size V V' ∧ e = .returned (.bool false)) := Lib.hid (fun V hv => (HHas.out V hv).mono fun e V' hq => ⟨hq.1, by rcases hq.2 with q | q; exact absurd q.1 HO.out; exact q.2⟩)
        clear hh HHas
        go_wp2
        refine (wpIn_wide (n := 9)).1 ?_
        gi_region_with (refine ⟨trivial, ?_⟩; gi_at_call 53; refine (callsIn_wide.2 (HH2.out _ (((Below.refl _ wr).alloc (Nat.le_refl _) _).drew))).mono ?_; rintro e V ⟨hbv, rfl⟩)
        all_goals go_wp2
        all_goals
          have bq := ((Below.refl _ wr).alloc (Nat.le_refl _) (Obj.cells #[.string p.name, .int .i64 p.type.kind, .string p.type.name, .int .i64 p.type.lo, .int .i64 p.type.hi, .slice A3 p.type.args.length c3] 76)).drew
          have bf : Below W.heap.size W V := hb.trans ((bq.trans (hbv.mono bq.size)).mono hb.size)
          go_ret
          exact ⟨bf, .inr ⟨fun hA => HO.out (hA k p t HX.out HT.out), rfl⟩⟩
    · have hkl : k = m.pars.length := by omega
      subst hkl
      go_wp2
      go_ret
      exact ⟨hb, .inl ⟨fun i p t hp ht => HOK.out i p t (List.getElem?_eq_some_iff.1 hp).1 hp ht, rfl⟩⟩
end Go.Proofs.YtepnmejahbiacaaGreat
set_option linter.unusedVariables false
set_option linter.unusedSimpArgs false
namespace Go.Proofs.YtepnmejahbiacaaGreat
open Go.RowKit
set_option maxHeartbeats 4000000 in
set_option maxRecDepth 100000 in
theorem opened1_calls (x : CI) (A2 A3 : Option Addr) (c2 c3 : Nat) (s : ByteArray) (sb : Nat) (w : World) (hs : w.cell? ⟨sb, 0, none⟩ = some (.string s)) :
    Calls Tryz.prog 92 #[.agg #[.string x.name, .string x.lib, .slice A2 x.supers.length c2, .slice A3 x.cpl.length c3, .bool x.abs, .bool x.seal_], .pointer (some ⟨sb, 0, none⟩)] w fun e w' => e = .returned (.bool (decide (x.name = s))) ∧ Below w.heap.size w w' := by
  have hl := cell_lt hs
  go_enter Tryz.func92, Tryz.ntmps92
  go_wp2
  go_ret
  exact ⟨rfl, (Below.refl _ w).alloc (Nat.le_refl _) _⟩
set_option maxHeartbeats 4000000 in
set_option maxRecDepth 100000 in
theorem place_calls (A : Option Addr) (c : Nat) (l : List CI) (s : ByteArray) (sb : Nat) (w : World) (hs : w.cell? ⟨sb, 0, none⟩ = some (.string s)) (G : Nat → Prop) (h : Held G (CIs A l) w) (hl : l.length ≤ 1000000) :
    Calls Tryz.prog 91 #[.slice A l.length c, .func (.func 92) #[] #[.pointer (some ⟨sb, 0, none⟩)]] w
      (Found (fun i wr => Below w.heap.size w wr ∧ ∀ j x, j < i → l[j]? = some x → x.name ≠ s) (fun i wr => Below w.heap.size w wr ∧ (∀ j x, j < i → l[j]? = some x → x.name ≠ s) ∧ ∃ x, l[i]? = some x ∧ x.name = s) (Panics fun _ _ => False) l.length) := by
  obtain ⟨b, off, hbo⟩ : ∃ b off, 0 < l.length → A = some ⟨b, off, none⟩ := by
    by_cases h0 : 0 < l.length
    · obtain ⟨b, off, e⟩ := Slc.addrH h h0
      exact ⟨b, off, fun _ => e⟩
    · exact ⟨0, 0, fun h => absurd h h0⟩
  refine indexFuncCls A l.length c 92 _ (fun i => (l[i]?.map fun x => Value.string x.name).getD undef) (fun i => (l[i]?.map fun x => Value.string x.lib).getD undef) (fun i => (w.cell? ⟨b, off + i * 6 + 2, none⟩).getD undef) (fun i => (w.cell? ⟨b, off + i * 6 + 3, none⟩).getD undef)
    (fun i => (l[i]?.map fun x => Value.bool x.abs).getD undef) (fun i => (l[i]?.map fun x => Value.bool x.seal_).getD undef) w (by omega) (enters Tryz.func92 (by kernel_rfl) rfl) _ _ _ ⟨Below.refl _ _, fun j x hj => absurd hj (by omega)⟩ (fun h0 => ⟨b, off, hbo h0⟩) ?_ ?_
  · rintro i wr b' off' rfl hi ⟨hcw, _⟩
    have hb' := hbo (by omega)
    simp only [Option.some.injEq, Addr.mk.injEq, and_true] at hb'
    obtain ⟨rfl, rfl⟩ := hb'
    have hx : l[i]? = some l[i] := List.getElem?_eq_getElem hi
    obtain ⟨A2, c2, A3, c3, p1, p2, p3, p4, g0, g1, g2, g3, g4, g5⟩ := CIs.atH h hx
    simp only [hx, Option.map_some, Option.getD_some, g2, g3]
    exact ⟨cell_all g0 hcw, cell_all g1 hcw, cell_all g2 hcw, cell_all g3 hcw, cell_all g4 hcw, cell_all g5 hcw⟩
  · rintro i wr hi ⟨hcw, hjw⟩
    have hb' := hbo (by omega)
    subst hb'
    have hx : l[i]? = some l[i] := List.getElem?_eq_getElem hi
    generalize l[i] = x at hx
    obtain ⟨A2, c2, A3, c3, p1, p2, p3, p4, g0, g1, g2, g3, g4, g5⟩ := CIs.atH h hx
    simp only [hx, Option.map_some, Option.getD_some, g2, g3]
    refine (opened1_calls x A2 A3 c2 c3 s sb wr (cell_all hs hcw)).mono ?_
    rintro e w' ⟨rfl, hb2⟩
    have hb3 := hcw.trans (hb2.mono hcw.size)
    by_cases hq : x.name = s
    · exact .inr (.inl ⟨by rw [decide_eq_true hq], hb3, hjw, x, hx, hq⟩)
    · refine .inl ⟨by rw [decide_eq_false hq], hb3, fun j y hj hy => ?_⟩
      rcases Nat.lt_or_ge j i with h | h
      · exact hjw j y h hy
      · obtain rfl : j = i := by omega
        rw [hx] at hy; cases hy; exact hq
/-- The class of a tag is there. -/
theorem classOf_in {l : List CI} (h : LookOk l) {t : Tag} (ht : tagOk l t = true) : ∃ x ∈ l, x.name = classOfB t := by
  have hb : ∀ s : ByteArray, (baseL.any fun y => decide (y.name = s)) = true → ∃ x ∈ l, x.name = s := fun s hs => by
    obtain ⟨x, hx, e⟩ := List.any_eq_true.1 hs
    rw [← h.2.2.1] at hx
    exact ⟨x, List.mem_of_mem_take hx, of_decide_eq_true e⟩
  rcases tagOk_kind ht with k | k | k | k | k
  · exact hb _ (by unfold classOfB; rw [if_pos k]; decide)
  · exact hb _ (by unfold classOfB; rw [if_neg (by omega), if_pos k]; decide)
  · exact hb _ (by unfold classOfB; rw [if_neg (by omega), if_neg (by omega), if_pos k]; decide)
  · exact hb _ (by unfold classOfB; rw [if_neg (by omega), if_neg (by omega), if_neg (by omega), if_pos k]; decide)
  · unfold tagOk at ht
    rw [if_neg (by omega), if_neg (by omega), if_neg (by omega), if_neg (by omega), if_pos k] at ht
    simp only [Bool.and_eq_true] at ht
    have h2 := ht.1.1.2
    unfold hasB at h2
    obtain ⟨i, hi⟩ := Option.isSome_iff_exists.1 h2
    obtain ⟨x, hx, e⟩ := clsAt_get hi
    refine ⟨x, List.mem_of_getElem? hx, ?_⟩
    rw [e]; unfold classOfB
    rw [if_neg (by omega), if_neg (by omega), if_neg (by omega), if_neg (by omega)]
end Go.Proofs.YtepnmejahbiacaaGreat
