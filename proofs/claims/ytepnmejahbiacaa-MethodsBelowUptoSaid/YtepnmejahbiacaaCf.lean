/- methods.First, Conflict. -/
import Derived.Test.YtepnmejahbiacaaOn
set_option linter.unusedVariables false
set_option linter.unusedSimpArgs false
namespace Go.Proofs.Ytepnmejahbiacaa
open Go.RowKit

/-- What First returns: the number, and the fault. -/
noncomputable def firstR (l : List CI) (ms : List Meth) (ts : List Tag) : Int × Int := match (orderR l ms ts).1 with
  | x :: _ => (x, 0)
  | [] => if (orderR l ms ts).2 = true then (0, 2) else (0, 1)

set_option maxHeartbeats 16000000 in
set_option maxRecDepth 100000 in
theorem first_calls (AH : Option Addr) (cH : Nat) (l : List CI) (A : Option Addr) (c : Nat) (ms : List Meth) (AT : Option Addr) (cT : Nat) (ts : List Tag) (W : World) (q : Asks AH cH l A ms AT ts W) :
    Calls Try.prog 31 #[.slice AH l.length cH, .slice A ms.length c, .slice AT ts.length cT] W fun e W' => e = .returned (.tuple #[.int .i64 (firstR l ms ts).1, .int .i64 (firstR l ms ts).2]) ∧ Below W.heap.size W W' := by
  have HC := Lib.hid (order_calls AH cH l A c ms AT cT ts W q)
  have hn := q.hn
  clear q
  have HF : Hid (firstR l ms ts = match (orderR l ms ts).1 with | x :: _ => (x, 0) | [] => if (orderR l ms ts).2 = true then (0, 2) else (0, 1)) := Lib.hid rfl
  generalize orderR l ms ts = r at HC HF
  obtain ⟨ids, amb⟩ := r
  go_enter Try.func31, Try.ntmps31
  go_wp2_with (fail)
  refine HC.out.mono ?_
  clear HC
  rintro e V ⟨v, rfl, hv, hbv⟩
  obtain ⟨A5, c5, rfl, hc5, hH⟩ := hv.out
  cases ids with
  | nil =>
    cases amb with
    | true =>
      have H2 : Hid (firstR l ms ts = (0, 2)) := Lib.hid HF.out
      clear HF
      go_wp2
      go_ret2
      exact ⟨by rw [H2.out]; rfl, hbv⟩
    | false =>
      have H2 : Hid (firstR l ms ts = (0, 1)) := Lib.hid HF.out
      clear HF
      go_wp2
      go_ret2
      exact ⟨by rw [H2.out]; rfl, hbv⟩
  | cons x r =>
    have H2 : Hid (firstR l ms ts = (x, 0)) := Lib.hid HF.out
    obtain ⟨b, off, rfl⟩ := Slc.addrH hH (by simp)
    obtain ⟨cs, _, hr, hc⟩ := Slc.atH hH (by decide) (k := 0) (x := x) rfl
    obtain rfl : cs = [.int .i64 x] := hr.now
    have g0 : V.cell? ⟨b, off, none⟩ = some (.int .i64 x) := by simpa using (hc 0 _ rfl).now
    have hl0 : (0 : Int) < ((x :: r).length : Int) := by simp
    clear HF hc hr hH hv
    go_wp2
    go_ret2
    exact ⟨by rw [H2.out]; rfl, hbv⟩

theorem own_pair {base : Nat} {w : World} {a b x y : Int} (T : TypeId) (hb : base ≤ w.heap.size) (hx : x = min a b) (hy : y = max a b) : Own intR T 1 base (fun _ => False) (.slice (some ⟨w.heap.size, 0, none⟩) 2 2) [min a b, max a b] (w.alloc (.cells #[.int .i64 x, .int .i64 y] T)) := by
  subst hx hy
  refine ⟨[.int .i64 (min a b), .int .i64 (max a b)], ⟨by simp, .inr ⟨_, 2, #[.int .i64 (min a b), .int .i64 (max a b)], rfl, hb, heap_alloc_new w _, Nat.le_refl _, by simp [maxLen], by simp, by simp⟩⟩, ?_⟩
  have h1 := Enc.snoc (Enc.nil (R := fun x ds => Held (fun _ => False) (intR x ds) (w.alloc (.cells #[.int .i64 (min a b), .int .i64 (max a b)] T))) (sz := 1)) (x := min a b) (cs := [.int .i64 (min a b)]) (fun _ _ => rfl) rfl
  have h2 := Enc.snoc h1 (x := max a b) (cs := [.int .i64 (max a b)]) (fun _ _ => rfl) rfl
  exact h2
/-- Two that do not precede each other. -/
def Clash (P : Meth → Meth → Bool) (l : List Meth) (a b : Meth) : Prop := ∃ i k : Nat, k < i ∧ l[i]? = some a ∧ l[k]? = some b ∧ P a b = false ∧ P b a = false
def conflictPost (l : List CI) (ms : List Meth) (ts : List Tag) (W : World) (e : Ending) (W' : World) : Prop :=
  Below W.heap.size W W' ∧ ((checkAllE l ms ts ≠ 0 ∧ e = .returned (.tuple #[.slice none 0 0, .int .i64 (checkAllE l ms ts)])) ∨
    (checkAllE l ms ts = 0 ∧ (((∀ a b, ¬ Clash (precB l ts) (ordB l ts ms).2 a b) ∧ e = .returned (.tuple #[.slice none 0 0, .int .i64 3])) ∨
      ∃ a b v, Clash (precB l ts) (ordB l ts ms).2 a b ∧ e = .returned (.tuple #[v, .int .i64 0]) ∧ Own intR 3 1 W.heap.size (fun _ => False) v [min a.id b.id, max a.id b.id] W')))

set_option maxHeartbeats 32000000 in
set_option maxRecDepth 100000 in
theorem conflict_calls (AH : Option Addr) (cH : Nat) (l : List CI) (A : Option Addr) (c : Nat) (ms : List Meth) (AT : Option Addr) (cT : Nat) (ts : List Tag) (W : World) (q : Asks AH cH l A ms AT ts W) :
    Calls Try.prog 32 #[.slice AH l.length cH, .slice A ms.length c, .slice AT ts.length cT] W (conflictPost l ms ts W) := by
  have HC := Lib.hid (open_calls AH cH l A c ms AT cT ts W q)
  obtain ⟨GH, h⟩ := q.h
  obtain ⟨GM, hM⟩ := q.hM
  obtain ⟨GT, hT⟩ := q.hT
  have HOR : Hid (∀ V cp A2 c2, Below W.heap.size W V → checkAllE l ms ts = 0 → OpenAt cp AH cH l AT cT ts A2 c2 V → Calls Try.prog 37 #[.pointer (some ⟨cp, 0, none⟩), .slice A ms.length c] V fun e W' => ∃ v1 v2, e = .returned (.tuple #[v1, v2]) ∧ Own metR 39 8 V.heap.size (fun b => b < V.heap.size) v1 (ordB l ts ms).1 W' ∧
      Own metR 39 8 V.heap.size (fun b => b < V.heap.size) v2 (ordB l ts ms).2 W' ∧ Below V.heap.size V W') :=
    Lib.hid (fun V cp A2 c2 hv he ho => by
      obtain ⟨z1, z2, z3, z4, z5, z6⟩ := checkAllE_zero he
      exact ordered_calls cp AH cH l AT cT ts A2 c2 V ho GH (h.keep (Keep.all hv)) q.hcH q.hl q.ol (fun t _ => cplAt_short z1 t) q.hts GT (hT.keep (Keep.all hv)) A c ms GM (hM.keep (Keep.all hv)) q.hn z5 q.hs)
  obtain ⟨P, hP⟩ : ∃ P, P = precB l ts := ⟨_, rfl⟩
  have HPR : Hid (∀ (cp : Nat) (A2 : Option Addr) (c2 : Nat) (a b : Meth) (Aa Ar Ba Br : Option Addr) (ca cr cb cq : Nat) (V : World), OpenAt cp AH cH l AT cT ts A2 c2 V → Below W.heap.size W V → checkAllE l ms ts = 0 → a ∈ ms → b ∈ ms → (∃ G, Held G (Pars Aa a.pars) V) → (∃ G, Held G (Pars Ba b.pars) V) →
      Calls Try.prog 44 #[.pointer (some ⟨cp, 0, none⟩), metV a Aa ca Ar cr, metV b Ba cb Br cq] V fun e V' => e = .returned (.bool (P a b)) ∧ Below V.heap.size V V') :=
    Lib.hid (fun cp A2 c2 a b Aa Ar Ba Br ca cr cb cq V ho hv he ha hb ⟨Ga, h1⟩ ⟨Gb, h2⟩ => by
      obtain ⟨z1, z2, z3, z4, z5, z6⟩ := checkAllE_zero he
      rw [hP]
      exact precedes_calls cp AH cH l AT cT ts A2 c2 V ho GH (h.keep (Keep.all hv)) q.hl q.ol (fun t _ => cplAt_short z1 t) q.hts a b Aa Ar Ba Br ca cr cb cq Ga Gb h1 h2 (z5 a ha) (z5 b hb) (q.hs a ha) (q.hs b hb))
  have HPP := Lib.hid hP
  have hn := q.hn
  have HL := Lib.hid (ord_lens l ts ms)
  have HMEM : Hid (∀ m ∈ (ordB l ts ms).2, m ∈ ms) := Lib.hid (fun m hm => by
    have h1 := orderG_perm (P := precB l ts) (ms.filter (appB l ts)).length (ms.filter (appB l ts))
    exact (List.mem_filter.1 (h1.mem_iff.1 (List.mem_append.2 (.inr hm)))).1)
  clear h hM hT q hP
  go_enter Try.func32, Try.ntmps32
  go_wp2_with (fail)
  refine HC.out.mono ?_
  clear HC
  rintro e V ⟨hbv, (⟨hz, rfl⟩ | ⟨hz, cp, A2, c2, rfl, hcp, ho⟩)⟩
  · have t1 : (checkAllE l ms ts != 0) = true := by rw [bne_iff_ne]; exact hz
    have HZ := Lib.hid hz
    clear hz HOR HPR
    go_wp2
    go_ret2
    exact ⟨hbv, .inl ⟨HZ.out, rfl⟩⟩
  · have HO2 := Lib.hid (HOR.out V cp A2 c2 hbv hz ho)
    have HZ := Lib.hid hz
    clear HOR hz
    go_wp2_with (fail)
    refine HO2.out.mono ?_
    clear HO2
    rintro e V2 ⟨v1, v2, rfl, h1, h2, hb2⟩
    have bV2 := hbv.trans (hb2.mono hbv.size)
    have ho2 := ho.keep hb2
    clear h1 ho
    obtain ⟨ls, hls⟩ : ∃ ls, ls = (ordB l ts ms).2 := ⟨_, rfl⟩
    have HLS := Lib.hid hls
    rw [← hls] at h2 HMEM
    have hln : ls.length ≤ 1000000 := by rw [hls]; have := HL.out.2; omega
    clear hls
    obtain ⟨A6, c6, rfl, hc6, _⟩ := h2.out
    go_wp2_with (fail)
    go_loopw [34] (fun i wr => ∃ k : Nat, k ≤ ls.length ∧ i = .int .i64 k ∧ (∀ j p a b, j < k → p < j → ls[j]? = some a → ls[p]? = some b → ¬ (P a b = false ∧ P b a = false)) ∧ Below V2.heap.size V2 wr) (fun i _ => ls.length - (intOf i).toNat)
    case atStart => exact ⟨0, Nat.zero_le _, rfl, fun j p a b hj => absurd hj (by omega), Below.refl _ _⟩
    case round =>
      obtain ⟨k, hk, rfl, hok, hbr⟩ := hrel
      have HOK := Lib.hid hok
      clear hok
      by_cases hkl : k < ls.length
      · obtain ⟨g, cl, e0, hgb, hgl⟩ := h2.form (by omega)
        simp only [Value.slice.injEq] at e0
        obtain ⟨rfl, _, rfl⟩ := e0
        have hx : ls[k]? = some ls[k] := List.getElem?_eq_getElem hkl
        generalize ls[k] = a at hx
        have HX := Lib.hid hx
        obtain ⟨A1, c1, A3, c3, p1, p2, p3, p4, f0, f1, f2, f3, f4, f5, f6, f7⟩ := OwnMet.at (h2.all hbr) hx
        clear hx
        have hkc : k ≤ c6 := by omega
        go_wp2_with (fail)
        obtain ⟨W1, hW1⟩ : ∃ W1, W1 = wr.alloc (.cells #[.int .i64 a.id, .string a.lib, .slice A1 a.pars.length c1, .int .i64 a.result.kind, .string a.result.name, .int .i64 a.result.lo, .int .i64 a.result.hi, .slice A3 a.result.args.length c3] 39) := ⟨_, rfl⟩
        rw [← hW1]
        have b1 : Below wr.heap.size wr W1 := by rw [hW1]; exact (Below.refl _ wr).alloc (Nat.le_refl _) _
        have xm : ∀ j u, [Value.int .i64 a.id, .string a.lib, .slice A1 a.pars.length c1, .int .i64 a.result.kind, .string a.result.name, .int .i64 a.result.lo, .int .i64 a.result.hi, .slice A3 a.result.args.length c3][j]? = some u → W1.cell? ⟨wr.heap.size, j, none⟩ = some u := fun j u hj => by rw [hW1]; exact cell_new wr _ _ _ rfl j u hj
        have XM := Lib.hid xm
        clear hW1 f0 f1 f2 f3 f4 f5 f6 f7 xm
        have bo1 : Below V2.heap.size V2 W1 := hbr.trans (b1.mono hbr.size)
        have p2' := p2.keep (Keep.all b1)
        obtain ⟨ab, hab⟩ : ∃ ab, ab = wr.heap.size := ⟨_, rfl⟩
        rw [← hab] at XM ⊢
        clear hab p2
        go_loopw [43] (fun i w3 => ∃ j : Nat, j ≤ k ∧ i = .int .i64 j ∧ (∀ p b, p < j → ls[p]? = some b → ¬ (P a b = false ∧ P b a = false)) ∧ Below W1.heap.size W1 w3) (fun i _ => k - (intOf i).toNat)
        case atStart => exact ⟨0, Nat.zero_le _, rfl, fun p b hj => absurd hj (by omega), Below.refl _ _⟩
        case round =>
          obtain ⟨j, hj, rfl, hgood, hb3⟩ := hrel
          have HG := Lib.hid hgood
          clear hgood
          have bo3 : Below V2.heap.size V2 wr := bo1.trans (hb3.mono bo1.size)
          have bW3 : Below W.heap.size W wr := bV2.trans (bo3.mono bV2.size)
          by_cases hjl : j < k
          · have hy : ls[j]? = some ls[j] := List.getElem?_eq_getElem (by omega)
            generalize ls[j] = b at hy
            have HY := Lib.hid hy
            obtain ⟨B1, d1, B3, d3, q1, q2, q3, q4, g0, g1, g2, g3, g4, g5, g6, g7⟩ := OwnMet.at (h2.all bo3) hy
            have m0 := cell_all (XM.out 0 _ rfl) hb3
            have m1 := cell_all (XM.out 1 _ rfl) hb3
            have m2 := cell_all (XM.out 2 _ rfl) hb3
            have m3 := cell_all (XM.out 3 _ rfl) hb3
            have m4 := cell_all (XM.out 4 _ rfl) hb3
            have m5 := cell_all (XM.out 5 _ rfl) hb3
            have m6 := cell_all (XM.out 6 _ rfl) hb3
            have m7 := cell_all (XM.out 7 _ rfl) hb3
            clear hy
            have habl : ab < wr.heap.size := cell_lt m0
            obtain ⟨W4, hW4⟩ : ∃ W4, W4 = wr.alloc (.cells #[.int .i64 b.id, .string b.lib, .slice B1 b.pars.length d1, .int .i64 b.result.kind, .string b.result.name, .int .i64 b.result.lo, .int .i64 b.result.hi, .slice B3 b.result.args.length d3] 39) := ⟨_, rfl⟩
            have bal : Below wr.heap.size wr W4 := by rw [hW4]; exact (Below.refl _ wr).alloc (Nat.le_refl _) _
            have HPC := Lib.hid (fun V (hv : Below wr.heap.size wr V) => HPR.out cp A2 c2 a b A1 A3 B1 B3 c1 c3 d1 d3 V (ho2.keep (bo3.trans (hv.mono bo3.size))) (bW3.trans (hv.mono bW3.size)) HZ.out (HMEM.out a (List.mem_of_getElem? HX.out)) (HMEM.out b (List.mem_of_getElem? HY.out)) ⟨_, (p2'.keep (Keep.all hb3)).keep (Keep.all hv)⟩ ⟨_, q2.keep (Keep.all hv)⟩)
            have HPD := Lib.hid (fun V (hv : Below wr.heap.size wr V) => HPR.out cp A2 c2 b a B1 B3 A1 A3 d1 d3 c1 c3 V (ho2.keep (bo3.trans (hv.mono bo3.size))) (bW3.trans (hv.mono bW3.size)) HZ.out (HMEM.out b (List.mem_of_getElem? HY.out)) (HMEM.out a (List.mem_of_getElem? HX.out)) ⟨_, q2.keep (Keep.all hv)⟩ ⟨_, (p2'.keep (Keep.all hb3)).keep (Keep.all hv)⟩)
            have xb : ∀ j u, [Value.int .i64 b.id, .string b.lib, .slice B1 b.pars.length d1, .int .i64 b.result.kind, .string b.result.name, .int .i64 b.result.lo, .int .i64 b.result.hi, .slice B3 b.result.args.length d3][j]? = some u → W4.cell? ⟨wr.heap.size, j, none⟩ = some u := fun j u hj => by rw [hW4]; exact cell_new wr _ _ _ rfl j u hj
            have XB := Lib.hid xb
            have HM4 := Lib.hid (fun j u hj => cell_all (cell_all (XM.out j u hj) hb3) bal)
            have fin : ∀ V, Below wr.heap.size wr V → ¬ (P a b = false ∧ P b a = false) → ∃ j' : Nat, j' ≤ k ∧ Value.int .i64 ((j : Int) + 1) = .int .i64 j' ∧ (∀ p b, p < j' → ls[p]? = some b → ¬ (P a b = false ∧ P b a = false)) ∧ Below W1.heap.size W1 V := fun V hv hne =>
              ⟨j + 1, by omega, by go_num, fun p b' hp hb' => by
                rcases Nat.lt_or_ge p j with z | z
                · exact HG.out p b' z hb'
                · obtain rfl : p = j := by omega
                  rw [HY.out] at hb'; cases hb'; exact hne, hb3.trans (hv.mono hb3.size)⟩
            have HFI := Lib.hid fin
            clear fin xb
            cases hab : P a b with
            | true =>
              rw [hab] at HPC
              have HNE : Hid (¬ (P a b = false ∧ P b a = false)) := Lib.hid (fun e => by rw [hab] at e; cases e.1)
              clear hab HPD
              go_wp2_with (fail)
              rw [← hW4]
              refine (HPC.out _ bal).mono ?_
              clear HPC
              rintro e V5 ⟨rfl, hb5⟩
              go_wp2
              refine ⟨HFI.out V5 (bal.trans (hb5.mono bal.size)) HNE.out, by simp [intOf]; omega⟩
            | false =>
              rw [hab] at HPC
              have HAB := Lib.hid hab
              cases hba : P b a with
              | true =>
                rw [hba] at HPD
                have HNE : Hid (¬ (P a b = false ∧ P b a = false)) := Lib.hid (fun e => by rw [hba] at e; cases e.2)
                clear hab hba
                go_wp2_with (fail)
                rw [← hW4]
                refine (HPC.out _ bal).mono ?_
                clear HPC
                rintro e V5 ⟨rfl, hb5⟩
                have n0 := cell_all (XB.out 0 _ rfl) hb5
                have n1 := cell_all (XB.out 1 _ rfl) hb5
                have n2 := cell_all (XB.out 2 _ rfl) hb5
                have n3 := cell_all (XB.out 3 _ rfl) hb5
                have n4 := cell_all (XB.out 4 _ rfl) hb5
                have n5 := cell_all (XB.out 5 _ rfl) hb5
                have n6 := cell_all (XB.out 6 _ rfl) hb5
                have n7 := cell_all (XB.out 7 _ rfl) hb5
                have o0 := cell_all (HM4.out 0 _ rfl) hb5
                have o1 := cell_all (HM4.out 1 _ rfl) hb5
                have o2 := cell_all (HM4.out 2 _ rfl) hb5
                have o3 := cell_all (HM4.out 3 _ rfl) hb5
                have o4 := cell_all (HM4.out 4 _ rfl) hb5
                have o5 := cell_all (HM4.out 5 _ rfl) hb5
                have o6 := cell_all (HM4.out 6 _ rfl) hb5
                have o7 := cell_all (HM4.out 7 _ rfl) hb5
                have b5 := bal.trans (hb5.mono bal.size)
                go_wp2_with (fail)
                refine (HPD.out V5 b5).mono ?_
                clear HPD n0 n1 n2 n3 n4 n5 n6 n7 o0 o1 o2 o3 o4 o5 o6 o7
                rintro e V6 ⟨rfl, hb6⟩
                have b6 := b5.trans (hb6.mono b5.size)
                go_wp2
                refine ⟨HFI.out V6 b6 HNE.out, by simp [intOf]; omega⟩
              | false =>
                rw [hba] at HPD
                have HBA := Lib.hid hba
                clear hab hba
                go_wp2_with (fail)
                rw [← hW4]
                refine (HPC.out _ bal).mono ?_
                clear HPC
                rintro e V5 ⟨rfl, hb5⟩
                have n0 := cell_all (XB.out 0 _ rfl) hb5
                have n1 := cell_all (XB.out 1 _ rfl) hb5
                have n2 := cell_all (XB.out 2 _ rfl) hb5
                have n3 := cell_all (XB.out 3 _ rfl) hb5
                have n4 := cell_all (XB.out 4 _ rfl) hb5
                have n5 := cell_all (XB.out 5 _ rfl) hb5
                have n6 := cell_all (XB.out 6 _ rfl) hb5
                have n7 := cell_all (XB.out 7 _ rfl) hb5
                have o0 := cell_all (HM4.out 0 _ rfl) hb5
                have o1 := cell_all (HM4.out 1 _ rfl) hb5
                have o2 := cell_all (HM4.out 2 _ rfl) hb5
                have o3 := cell_all (HM4.out 3 _ rfl) hb5
                have o4 := cell_all (HM4.out 4 _ rfl) hb5
                have o5 := cell_all (HM4.out 5 _ rfl) hb5
                have o6 := cell_all (HM4.out 6 _ rfl) hb5
                have o7 := cell_all (HM4.out 7 _ rfl) hb5
                have b5 := bal.trans (hb5.mono bal.size)
                go_wp2_with (fail)
                refine (HPD.out V5 b5).mono ?_
                clear HPD n0 n1 n2 n3 n4 n5 n6 n7 o0 o1 o2 o3 o4 o5 o6 o7
                rintro e V6 ⟨rfl, hb6⟩
                have b6 := b5.trans (hb6.mono b5.size)
                have n0 := cell_all (cell_all (XB.out 0 _ rfl) hb5) hb6
                have o0 := cell_all (cell_all (HM4.out 0 _ rfl) hb5) hb6
                have HCL : Hid (Clash (precB l ts) (ordB l ts ms).2 a b) := Lib.hid ⟨k, j, hjl, by rw [← HLS.out]; exact HX.out, by rw [← HLS.out]; exact HY.out, by rw [← HPP.out]; exact HAB.out, by rw [← HPP.out]; exact HBA.out⟩
                have bF := bW3.trans (b6.mono bW3.size)
                go_wp2
                all_goals
                  go_ret2
                  refine ⟨bF.alloc bF.size _, .inr ⟨HZ.out, .inr ⟨a, b, _, HCL.out, rfl, ?_⟩⟩⟩
                  exact own_pair _ bF.size (by omega) (by omega)
          · obtain rfl : j = k := by omega
            go_wp2
            refine ⟨⟨j + 1, by omega, by go_num, fun i p a' b' hi hp h1 h2' => ?_, bo3⟩, by simp [intOf]; omega⟩
            rcases Nat.lt_or_ge i j with z | z
            · exact HOK.out i p a' b' z hp h1 h2'
            · obtain rfl : i = j := by omega
              rw [HX.out] at h1; cases h1
              exact HG.out p b' hp h2'
      · obtain rfl : k = ls.length := by omega
        have HNC : Hid (∀ a b, ¬ Clash (precB l ts) (ordB l ts ms).2 a b) := Lib.hid (by
          rintro a b ⟨i, p, hp, h1, h2, h3, h4⟩
          rw [← HLS.out] at h1 h2
          rw [← HPP.out] at h3 h4
          exact HOK.out i p a b (List.getElem?_eq_some_iff.1 h1).1 hp h1 h2 ⟨h3, h4⟩)
        have bf := bV2.trans (hbr.mono bV2.size)
        go_wp2
        go_ret2
        exact ⟨bf, .inr ⟨HZ.out, .inl ⟨HNC.out, rfl⟩⟩⟩
end Go.Proofs.Ytepnmejahbiacaa
