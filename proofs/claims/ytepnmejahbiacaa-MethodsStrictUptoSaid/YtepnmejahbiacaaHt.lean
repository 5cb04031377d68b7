/- types.classOf, hier.below, hier.hasType. -/
import Derived.Test.YtepnmejahbiacaaVa
import Derived.Test.YtepnmejahbiacaaSl
set_option linter.unusedVariables false
set_option linter.unusedSimpArgs false
namespace Go.Proofs.Ytepnmejahbiacaa
open Go.RowKit

def nInteger : ByteArray := ⟨#[60, 105, 110, 116, 101, 103, 101, 114, 62]⟩
def nBoolean : ByteArray := ⟨#[60, 98, 111, 111, 108, 101, 97, 110, 62]⟩
def nClass : ByteArray := ⟨#[60, 99, 108, 97, 115, 115, 62]⟩
def nFunction : ByteArray := ⟨#[60, 102, 117, 110, 99, 116, 105, 111, 110, 62]⟩
/-- The class of a tag. -/
def classOfB (t : Tag) : ByteArray := if t.kind = 1 then nInteger else if t.kind = 2 then nBoolean else if t.kind = 3 then nClass else if t.kind = 4 then nFunction else t.name
def belowB (l : List CI) (a b : ByteArray) : Bool := match clsAt l a with
  | none => false
  | some i => match l[i]? with | some x => hasS x.cpl b | none => false
def TagKind (t : Tag) : Prop := t.kind = 1 ∨ t.kind = 2 ∨ t.kind = 3 ∨ t.kind = 4 ∨ t.kind = 5

set_option maxHeartbeats 4000000 in
set_option maxRecDepth 100000 in
theorem classOf_calls (t : Tag) (h : TagKind t) (w : World) : Calls Try.prog 39 #[tagV t] w fun e w' => e = .returned (.string (classOfB t)) ∧ Below w.heap.size w w' := by
  have hix1 : ∀ w, (Instr.index 112 (.agg #[.string ⟨#[]⟩, .string ⟨#[60, 105, 110, 116, 101, 103, 101, 114, 62]⟩, .string ⟨#[60, 98, 111, 111, 108, 101, 97, 110, 62]⟩, .string ⟨#[60, 99, 108, 97, 115, 115, 62]⟩, .string ⟨#[60, 102, 117, 110, 99, 116, 105, 111, 110, 62]⟩]) (.int .i64 1)).run Try.prog w = .ok (.string nInteger) w := fun w => by kernel_rfl
  have hix2 : ∀ w, (Instr.index 112 (.agg #[.string ⟨#[]⟩, .string ⟨#[60, 105, 110, 116, 101, 103, 101, 114, 62]⟩, .string ⟨#[60, 98, 111, 111, 108, 101, 97, 110, 62]⟩, .string ⟨#[60, 99, 108, 97, 115, 115, 62]⟩, .string ⟨#[60, 102, 117, 110, 99, 116, 105, 111, 110, 62]⟩]) (.int .i64 2)).run Try.prog w = .ok (.string nBoolean) w := fun w => by kernel_rfl
  have hix3 : ∀ w, (Instr.index 112 (.agg #[.string ⟨#[]⟩, .string ⟨#[60, 105, 110, 116, 101, 103, 101, 114, 62]⟩, .string ⟨#[60, 98, 111, 111, 108, 101, 97, 110, 62]⟩, .string ⟨#[60, 99, 108, 97, 115, 115, 62]⟩, .string ⟨#[60, 102, 117, 110, 99, 116, 105, 111, 110, 62]⟩]) (.int .i64 3)).run Try.prog w = .ok (.string nClass) w := fun w => by kernel_rfl
  have hix4 : ∀ w, (Instr.index 112 (.agg #[.string ⟨#[]⟩, .string ⟨#[60, 105, 110, 116, 101, 103, 101, 114, 62]⟩, .string ⟨#[60, 98, 111, 111, 108, 101, 97, 110, 62]⟩, .string ⟨#[60, 99, 108, 97, 115, 115, 62]⟩, .string ⟨#[60, 102, 117, 110, 99, 116, 105, 111, 110, 62]⟩]) (.int .i64 4)).run Try.prog w = .ok (.string nFunction) w := fun w => by kernel_rfl
  obtain ⟨kd, nm, s⟩ := t
  rcases h with h | h | h | h | h <;> simp only at h <;> subst h
  all_goals
    go_enter Try.func39, Try.ntmps39
    go_wp2
    go_ret
    exact ⟨by rfl, (Below.refl _ w).alloc (Nat.le_refl _) _⟩

set_option maxHeartbeats 4000000 in
set_option maxRecDepth 100000 in
theorem below_calls (hp M1 : Nat) (A : Option Addr) (c : Nat) (l : List CI) (a b : ByteArray) (w : World) (H : HierAt hp M1 A c l l.length w) (G : Nat → Prop) (hA : Held G (CIs A l) w) (ol : ∀ x ∈ l, ciOk x) :
    Calls Try.prog 85 #[.pointer (some ⟨hp, 0, none⟩), .string a, .string b] w fun e w' => e = .returned (.bool (belowB l a b)) ∧ w' = w := by
  have hlk := H.look a true
  simp only [if_true] at hlk
  have c0 := H.c0
  have c1 := H.c1
  clear H
  cases hq : clsAt l a with
  | none =>
    have HB : Hid (belowB l a b = false) := Lib.hid (by unfold belowB; rw [hq])
    have hh : hasB l a = false := by unfold hasB; rw [hq]; rfl
    rw [hh, hq] at hlk
    clear hq hh
    go_enter Try.func85, Try.ntmps85
    go_wp2
    go_ret
    exact ⟨by rw [HB.out]; rfl, rfl⟩
  | some i =>
    obtain ⟨x, hx, _⟩ := clsAt_get hq
    have HB : Hid (belowB l a b = hasS x.cpl b) := Lib.hid (by unfold belowB; rw [hq]; simp only [hx])
    have hh : hasB l a = true := by unfold hasB; rw [hq]; rfl
    rw [hh, hq] at hlk
    simp only [Option.getD_some] at hlk
    have hi := (List.getElem?_eq_some_iff.1 hx).1
    obtain ⟨bb, off, rfl⟩ := Slc.addrH hA (by omega)
    obtain ⟨A2, c2, A3, c3, p1, p2, p3, p4, g0, g1, g2, g3, g4, g5⟩ := CIs.atH hA hx
    have HC := Lib.hid (slContains_calls A3 c3 x.cpl b w p4.now (ol x (List.mem_of_getElem? hx)).2)
    clear hq hh hA hx
    go_enter Try.func85, Try.ntmps85
    go_wp2_with (fail)
    refine HC.out.mono ?_
    rintro e w' ⟨rfl, rfl⟩
    go_wp2
    go_ret
    exact ⟨by rw [HB.out]; rfl, rfl⟩

/-- A tag has a type (of a well formed type, and a tag that is one). -/
def hasTF (l : List CI) (t : Tag) : Ty → Bool
  | .mk k n lo hi args => if k = 1 then belowB l (classOfB t) n
    else if k = 2 then decide (t.kind = 1) && decide (lo ≤ t.num) && decide (t.num ≤ hi)
    else if k = 3 then decide (t.kind = 2) && decide (t.num = lo)
    else if k = 4 then decide (t.kind = 3) && belowB l t.name n
    else hasTFs l t args
where hasTFs (l : List CI) (t : Tag) : List Ty → Bool
  | [] => false
  | x :: r => hasTF l t x || hasTFs l t r
theorem hasTFs_eq (l : List CI) (t : Tag) : ∀ r, hasTF.hasTFs l t r = r.any (hasTF l t)
  | [] => by simp [hasTF.hasTFs]
  | x :: r => by rw [hasTF.hasTFs, hasTFs_eq l t r]; simp
theorem hasTF_eq (l : List CI) (t : Tag) (x : Ty) : hasTF l t x = if x.kind = 1 then belowB l (classOfB t) x.name
    else if x.kind = 2 then decide (t.kind = 1) && decide (x.lo ≤ t.num) && decide (t.num ≤ x.hi)
    else if x.kind = 3 then decide (t.kind = 2) && decide (t.num = x.lo)
    else if x.kind = 4 then decide (t.kind = 3) && belowB l t.name x.name
    else x.args.any (hasTF l t) := by cases x; rw [hasTF, hasTFs_eq]; rfl

set_option maxHeartbeats 40000000 in
set_option maxRecDepth 100000 in
theorem hasType_calls (hp M1 : Nat) (AH : Option Addr) (cH : Nat) (l : List CI) (ol : ∀ x ∈ l, ciOk x) (v : Tag) (hv : TagKind v) : ∀ (q : Nat) (t : Ty), t.count ≤ q → ∀ (A : Option Addr) (c : Nat) (W : World) (G GH : Nat → Prop), HierAt hp M1 AH cH l l.length W → Held GH (CIs AH l) W → Held G (Typs A t.args) W →
    t.args.length ≤ c → t.all (fun x => decide (x.args.length ≤ 1000000)) = true →
    Calls Try.prog 65 #[.pointer (some ⟨hp, 0, none⟩), tagV v, tyV t A c] W fun e W' => e = .returned (.bool (hasTF l v t)) ∧ Below W.heap.size W W' := by
  intro q
  induction q with
  | zero => intro t h; have := t.count_pos; omega
  | succ q ih =>
    intro t hq A c W G GH H hH hA hc hall
    have hl : t.args.length ≤ 1000000 := by
      rw [Ty.all_args] at hall
      simp only [Bool.and_eq_true, decide_eq_true_eq] at hall
      exact hall.1
    have HBL := Lib.hid (fun a b V (h : Below W.heap.size W V) => below_calls hp M1 AH cH l a b V (H.keep h) GH (hH.keep (Keep.all h)) ol)
    have HCO := Lib.hid (fun V => classOf_calls v hv V)
    by_cases k1 : t.kind = 1
    · have s1 : (t.kind == 1) = true := beq_iff_eq.2 k1
      have HF : Hid (hasTF l v t = belowB l (classOfB v) t.name) := Lib.hid (by rw [hasTF_eq, if_pos k1])
      clear ih H hH hA hall k1
      have b1 : Below W.heap.size W (((W.alloc (.cells #[.pointer (some ⟨hp, 0, none⟩)] 69)).alloc (.cells #[.int .i64 v.kind, .int .i64 v.num, .string v.name] 25)).alloc (.cells #[.int .i64 t.kind, .string t.name, .int .i64 t.lo, .int .i64 t.hi, .slice A t.args.length c] 35)) := (((Below.refl _ W).alloc (Nat.le_refl _) _).alloc (by simp) _).alloc (by simp; omega) _
      have c5 : World.cell? (World.drew (((W.alloc (.cells #[.pointer (some ⟨hp, 0, none⟩)] 69)).alloc (.cells #[.int .i64 v.kind, .int .i64 v.num, .string v.name] 25)).alloc (.cells #[.int .i64 t.kind, .string t.name, .int .i64 t.lo, .int .i64 t.hi, .slice A t.args.length c] 35))) ⟨W.heap.size + 1 + 1, 1, none⟩ = some (.string t.name) := cell_new ((W.alloc _).alloc _) _ _ _ (by simp) 1 _ rfl
      have c0h : World.cell? (World.drew (((W.alloc (.cells #[.pointer (some ⟨hp, 0, none⟩)] 69)).alloc (.cells #[.int .i64 v.kind, .int .i64 v.num, .string v.name] 25)).alloc (.cells #[.int .i64 t.kind, .string t.name, .int .i64 t.lo, .int .i64 t.hi, .slice A t.args.length c] 35))) ⟨W.heap.size, 0, none⟩ = some (.pointer (some ⟨hp, 0, none⟩)) := alloc_cell (alloc_cell (cell_new W _ _ _ rfl 0 _ rfl))
      go_enter Try.func65, Try.ntmps65
      go_wp2
      refine (wpIn_wide (n := 9)).1 ?_
      gi_region_with (first
        | (refine ⟨trivial, ?_⟩; gi_at_call 39; refine (callsIn_wide.2 (HCO.out _)).mono ?_; rintro e V ⟨rfl, hbv⟩; have bV := (b1.drew).trans (hbv.mono (b1.drew).size); have d5 : V.cell? ⟨W.heap.size + 1 + 1, 1, none⟩ = some (.string t.name) := cell_all c5 hbv; have d0 : V.cell? ⟨W.heap.size, 0, none⟩ = some (.pointer (some ⟨hp, 0, none⟩)) := cell_all c0h hbv)
        | (refine ⟨trivial, ?_⟩; gi_at_call 85; refine (callsIn_wide.2 (HBL.out _ _ V bV)).mono ?_; rintro e V2 ⟨rfl, rfl⟩))
      all_goals go_wp2
      all_goals
        go_ret
        exact ⟨by rw [HF.out]; rfl, bV⟩
    have s1 : (t.kind == 1) = false := beq_eq_false_iff_ne.2 k1
    have K1 := Lib.hid k1
    clear k1
    by_cases k2 : t.kind = 2
    · have s2 : (t.kind == 2) = true := beq_iff_eq.2 k2
      have HF : Hid (hasTF l v t = (decide (v.kind = 1) && decide (t.lo ≤ v.num) && decide (v.num ≤ t.hi))) := Lib.hid (by rw [hasTF_eq, if_neg K1.out, if_pos k2])
      clear ih H hH hA hall k2
      by_cases a1 : v.kind = 1
      · have u1 : (v.kind == 1) = true := beq_iff_eq.2 a1
        by_cases a2 : t.lo ≤ v.num
        · have u2 : decide (t.lo ≤ v.num) = true := decide_eq_true a2
          have HF2 : Hid (hasTF l v t = decide (v.num ≤ t.hi)) := Lib.hid (by rw [HF.out, decide_eq_true a1, decide_eq_true a2]; rfl)
          clear HF a1 a2
          go_enter Try.func65, Try.ntmps65
          go_wp2
          go_ret
          exact ⟨by rw [HF2.out]; rfl, (((Below.refl _ W).alloc (Nat.le_refl _) _).alloc (by simp) _).alloc (by simp; omega) _⟩
        · have u2 : decide (t.lo ≤ v.num) = false := decide_eq_false a2
          have HF2 : Hid (hasTF l v t = false) := Lib.hid (by rw [HF.out, decide_eq_false a2]; simp)
          clear HF a1 a2
          go_enter Try.func65, Try.ntmps65
          go_wp2
          go_ret
          exact ⟨by rw [HF2.out]; rfl, (((Below.refl _ W).alloc (Nat.le_refl _) _).alloc (by simp) _).alloc (by simp; omega) _⟩
      · have u1 : (v.kind == 1) = false := beq_eq_false_iff_ne.2 a1
        have HF2 : Hid (hasTF l v t = false) := Lib.hid (by rw [HF.out, decide_eq_false a1]; rfl)
        clear HF a1
        go_enter Try.func65, Try.ntmps65
        go_wp2
        go_ret
        exact ⟨by rw [HF2.out]; rfl, (((Below.refl _ W).alloc (Nat.le_refl _) _).alloc (by simp) _).alloc (by simp; omega) _⟩
    have s2 : (t.kind == 2) = false := beq_eq_false_iff_ne.2 k2
    have K2 := Lib.hid k2
    clear k2
    by_cases k3 : t.kind = 3
    · have s3 : (t.kind == 3) = true := beq_iff_eq.2 k3
      have HF : Hid (hasTF l v t = (decide (v.kind = 2) && decide (v.num = t.lo))) := Lib.hid (by rw [hasTF_eq, if_neg K1.out, if_neg K2.out, if_pos k3])
      clear ih H hH hA hall k3
      by_cases a1 : v.kind = 2
      · have u1 : (v.kind == 2) = true := beq_iff_eq.2 a1
        by_cases a2 : v.num = t.lo
        · have u2 : (v.num == t.lo) = true := beq_iff_eq.2 a2
          have HF2 : Hid (hasTF l v t = true) := Lib.hid (by rw [HF.out, decide_eq_true a1, decide_eq_true a2]; rfl)
          clear HF a1 a2
          go_enter Try.func65, Try.ntmps65
          go_wp2
          go_ret
          exact ⟨by rw [HF2.out]; rfl, (((Below.refl _ W).alloc (Nat.le_refl _) _).alloc (by simp) _).alloc (by simp; omega) _⟩
        · have u2 : (v.num == t.lo) = false := beq_eq_false_iff_ne.2 a2
          have HF2 : Hid (hasTF l v t = false) := Lib.hid (by rw [HF.out, decide_eq_false a2]; simp)
          clear HF a1 a2
          go_enter Try.func65, Try.ntmps65
          go_wp2
          go_ret
          exact ⟨by rw [HF2.out]; rfl, (((Below.refl _ W).alloc (Nat.le_refl _) _).alloc (by simp) _).alloc (by simp; omega) _⟩
      · have u1 : (v.kind == 2) = false := beq_eq_false_iff_ne.2 a1
        have HF2 : Hid (hasTF l v t = false) := Lib.hid (by rw [HF.out, decide_eq_false a1]; rfl)
        clear HF a1
        go_enter Try.func65, Try.ntmps65
        go_wp2
        go_ret
        exact ⟨by rw [HF2.out]; rfl, (((Below.refl _ W).alloc (Nat.le_refl _) _).alloc (by simp) _).alloc (by simp; omega) _⟩
    have s3 : (t.kind == 3) = false := beq_eq_false_iff_ne.2 k3
    have K3 := Lib.hid k3
    clear k3
    by_cases k4 : t.kind = 4
    · have s4 : (t.kind == 4) = true := beq_iff_eq.2 k4
      have HF : Hid (hasTF l v t = (decide (v.kind = 3) && belowB l v.name t.name)) := Lib.hid (by rw [hasTF_eq, if_neg K1.out, if_neg K2.out, if_neg K3.out, if_pos k4])
      clear ih H hH hA hall k4
      by_cases a1 : v.kind = 3
      · have u1 : (v.kind == 3) = true := beq_iff_eq.2 a1
        have HF2 : Hid (hasTF l v t = belowB l v.name t.name) := Lib.hid (by rw [HF.out, decide_eq_true a1]; rfl)
        clear HF a1
        go_enter Try.func65, Try.ntmps65
        go_wp2_with (go_at_call 85; refine (HBL.out _ _ _ ((((Below.refl _ W).alloc (Nat.le_refl _) _).alloc (by simp) _).alloc (by simp; omega) _)).mono ?_; rintro e V2 ⟨rfl, rfl⟩)
        go_ret
        exact ⟨by rw [HF2.out]; rfl, (((Below.refl _ W).alloc (Nat.le_refl _) _).alloc (by simp) _).alloc (by simp; omega) _⟩
      · have u1 : (v.kind == 3) = false := beq_eq_false_iff_ne.2 a1
        have HF2 : Hid (hasTF l v t = false) := Lib.hid (by rw [HF.out, decide_eq_false a1]; rfl)
        clear HF a1
        go_enter Try.func65, Try.ntmps65
        go_wp2
        go_ret
        exact ⟨by rw [HF2.out]; rfl, (((Below.refl _ W).alloc (Nat.le_refl _) _).alloc (by simp) _).alloc (by simp; omega) _⟩
    have s4 : (t.kind == 4) = false := beq_eq_false_iff_ne.2 k4
    have HF : Hid (hasTF l v t = t.args.any (hasTF l v)) := Lib.hid (by rw [hasTF_eq, if_neg K1.out, if_neg K2.out, if_neg K3.out, if_neg k4])
    clear k4
    obtain ⟨W1, hW1⟩ : ∃ W1, W1 = ((W.alloc (.cells #[.pointer (some ⟨hp, 0, none⟩)] 69)).alloc (.cells #[.int .i64 v.kind, .int .i64 v.num, .string v.name] 25)).alloc (.cells #[.int .i64 t.kind, .string t.name, .int .i64 t.lo, .int .i64 t.hi, .slice A t.args.length c] 35) := ⟨_, rfl⟩
    have b1 : Below W.heap.size W W1 := by rw [hW1]; exact (((Below.refl _ W).alloc (Nat.le_refl _) _).alloc (by simp) _).alloc (by simp; omega) _
    have x0 : W1.cell? ⟨W.heap.size, 0, none⟩ = some (.pointer (some ⟨hp, 0, none⟩)) := by rw [hW1]; exact alloc_cell (alloc_cell (cell_new W _ _ _ rfl 0 _ rfl))
    have x1 : ∀ j u, [Value.int .i64 v.kind, .int .i64 v.num, .string v.name][j]? = some u → W1.cell? ⟨W.heap.size + 1, j, none⟩ = some u := fun j u hj => by rw [hW1]; exact alloc_cell (cell_new (W.alloc _) _ _ _ (by simp) j u hj)
    obtain ⟨b, off, hbo⟩ : ∃ b off, 0 < t.args.length → A = some ⟨b, off, none⟩ := by
      by_cases h0 : 0 < t.args.length
      · obtain ⟨b, off, e⟩ := Slc.addrH hA h0
        exact ⟨b, off, fun _ => e⟩
      · exact ⟨0, 0, fun h => absurd h h0⟩
    have hA1 := hA.keep (Keep.all (G := G) b1)
    have H1 := H.keep b1
    have HCF : Hid (Calls Try.prog 83 #[.slice A t.args.length c, .func (.func 86) #[] #[.pointer (some ⟨W.heap.size, 0, none⟩), .pointer (some ⟨W.heap.size + 1, 0, none⟩)]] W1
        (FoundB (fun i wr => Below W1.heap.size W1 wr ∧ ∀ j x, j < i → t.args[j]? = some x → hasTF l v x = false) (fun i wr => Below W1.heap.size W1 wr ∧ ∃ x, t.args[i]? = some x ∧ hasTF l v x = true) (Panics fun _ _ => False) t.args.length)) := Lib.hid (by
      refine containsFuncTyp A t.args.length c 86 _ (fun i => (t.args[i]?.map fun x => Value.int .i64 x.kind).getD undef) (fun i => (t.args[i]?.map fun x => Value.string x.name).getD undef) (fun i => (t.args[i]?.map fun x => Value.int .i64 x.lo).getD undef) (fun i => (t.args[i]?.map fun x => Value.int .i64 x.hi).getD undef)
        (fun i => (W1.cell? ⟨b, off + i * 5 + 4, none⟩).getD undef) W1 (by omega) (enters Try.func86 (by kernel_rfl) rfl) _ _ _ ⟨Below.refl _ _, fun j x hj => absurd hj (by omega)⟩ (fun h0 => ⟨b, off, hbo h0⟩) ?_ ?_
      · rintro i wr b' off' rfl hi ⟨hcw, _⟩
        have hb' := hbo (by omega)
        simp only [Option.some.injEq, Addr.mk.injEq, and_true] at hb'
        obtain ⟨rfl, rfl⟩ := hb'
        have hx : t.args[i]? = some t.args[i] := List.getElem?_eq_getElem hi
        obtain ⟨A5, c5, p1, p2, g0, g1, g2, g3, g4⟩ := Typs.atH hA1 hx
        simp only [hx, Option.map_some, Option.getD_some, g4]
        exact ⟨cell_all g0 hcw, cell_all g1 hcw, cell_all g2 hcw, cell_all g3 hcw, cell_all g4 hcw⟩
      · rintro i wr hi ⟨hcw, hjw⟩
        have hb' := hbo (by omega)
        subst hb'
        have hx : t.args[i]? = some t.args[i] := List.getElem?_eq_getElem hi
        generalize t.args[i] = x at hx
        have hmem : x ∈ t.args := List.mem_of_getElem? hx
        obtain ⟨A5, c5, p1, p2, g0, g1, g2, g3, g4⟩ := Typs.atH hA1 hx
        simp only [hx, Option.map_some, Option.getD_some, g4]
        have hall2 : x.all (fun x => decide (x.args.length ≤ 1000000)) = true := by
          rw [Ty.all_args] at hall
          simp only [Bool.and_eq_true, List.all_eq_true] at hall
          exact hall.2 x hmem
        have hcnt := Ty.count_mem hmem
        have y0 := cell_all x0 hcw
        have y1 := cell_all (x1 0 _ rfl) hcw
        have y2 := cell_all (x1 1 _ rfl) hcw
        have y3 := cell_all (x1 2 _ rfl) hcw
        have yl0 := cell_lt y0
        have yl1 := cell_lt y1
        obtain ⟨V, hV⟩ : ∃ V, V = wr.alloc (.cells #[.int .i64 x.kind, .string x.name, .int .i64 x.lo, .int .i64 x.hi, .slice A5 x.args.length c5] 35) := ⟨_, rfl⟩
        have bV : Below wr.heap.size wr V := by rw [hV]; exact (Below.refl _ wr).alloc (Nat.le_refl _) _
        have hcV : Below W1.heap.size W1 V := hcw.trans (bV.mono hcw.size)
        have HI := Lib.hid (ih x (by omega) A5 c5 V G GH (H1.keep hcV) ((hH.keep (Keep.all b1)).keep (Keep.all hcV)) (p2.keep (Keep.all hcV)) p1 hall2)
        subst hV
        show Calls _ _ #[.agg #[.int .i64 x.kind, .string x.name, .int .i64 x.lo, .int .i64 x.hi, .slice A5 x.args.length c5], .pointer (some ⟨W.heap.size, 0, none⟩), .pointer (some ⟨W.heap.size + 1, 0, none⟩)] _ _
        clear ih hA hA1 H H1 hH hall hall2 x1 HBL HCO
        go_enter Try.func86, Try.ntmps86
        go_wp2_with (fail)
        refine HI.out.mono ?_
        clear HI
        rintro e V ⟨rfl, hbV⟩
        have hcf := hcV.trans (hbV.mono hcV.size)
        cases hfx : hasTF l v x with
        | true =>
          have HFX := Lib.hid hfx
          clear hfx
          go_wp2
          go_ret
          exact .inr (.inl ⟨rfl, hcf, x, hx, HFX.out⟩)
        | false =>
          have HFX := Lib.hid hfx
          clear hfx
          go_wp2
          go_ret
          refine .inl ⟨rfl, hcf, fun j z hj hz => ?_⟩
          rcases Nat.lt_or_ge j i with h | h
          · exact hjw j z h hz
          · obtain rfl : j = i := by omega
            rw [hx] at hz; cases hz; exact HFX.out)
    clear ih hA hA1 H H1 hH hall x0 x1 HBL HCO
    subst hW1
    go_enter Try.func65, Try.ntmps65
    go_wp2_with (fail)
    refine HCF.out.mono ?_
    rintro e w' (⟨rfl, h1, h2⟩ | ⟨i, h0, rfl, h1, x, h2, h3⟩ | ⟨_, _, h⟩)
    · have HA : Hid (t.args.any (hasTF l v) = false) := Lib.hid (by
        rw [List.any_eq_false]
        intro x hx
        obtain ⟨j, hj⟩ := List.mem_iff_getElem?.1 hx
        rw [h2 j x (List.getElem?_eq_some_iff.1 hj).1 hj]; simp)
      clear h2
      have hbb := b1.trans (h1.mono b1.size)
      go_wp2
      go_ret
      exact ⟨by rw [HF.out, HA.out]; rfl, hbb⟩
    · have HA : Hid (t.args.any (hasTF l v) = true) := Lib.hid (List.any_eq_true.2 ⟨x, List.mem_of_getElem? h2, h3⟩)
      clear h2 h3
      have hbb := b1.trans (h1.mono b1.size)
      go_wp2
      go_ret
      exact ⟨by rw [HF.out, HA.out]; rfl, hbb⟩
    · exact h.elim
end Go.Proofs.Ytepnmejahbiacaa
