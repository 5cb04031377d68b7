/- skerrylaw10.MethodsSingle. -/
import Derived.Test.YtepnmejahbiacaaSn
set_option linter.unusedVariables false
set_option linter.unusedSimpArgs false
namespace Go.Proofs.Ytepnmejahbiacaa
open Go.RowKit

theorem oneMs_snoc (nx : ByteArray) {ns : List ByteArray} {k : Nat} {n : ByteArray} (h : ns[k]? = some n) : oneMs nx (ns.take (k + 1)) = oneMs nx (ns.take k) ++ [oneM nx k n] := by
  unfold oneMs
  rw [take_snoc h, List.mapIdx_append]
  have : (ns.take k).length = k := by have := (List.getElem?_eq_some_iff.1 h).1; rw [List.length_take]; omega
  simp [this]
theorem oneMs_len (nx : ByteArray) (ns : List ByteArray) : (oneMs nx ns).length = ns.length := by unfold oneMs; simp
theorem one_chk {l : List CI} (hL : LookOk l) {v : Tag} (hv : tagOk l v = true) {ns : List ByteArray} (hn : ns.length ≤ 12) (hval : ∀ n ∈ ns, validErr l (clsT n) = 0) : checkAllE l (oneMs nX ns) [v] = 0 := by
  have hmem : ∀ m ∈ oneMs nX ns, ∃ n ∈ ns, ∃ i : Nat, m = oneM nX i n := fun m hm => by
    obtain ⟨i, n, h1, h2⟩ := mem_oneMs.1 hm
    exact ⟨n, List.mem_of_getElem? h1, i, h2⟩
  refine chk_zero hL ?_
  have hids : (oneMs nX ns).map (·.id) = (List.range ns.length).map (fun i : Nat => (i : Int)) := by
    unfold oneMs
    apply List.ext_getElem?
    intro i
    rw [List.getElem?_map, List.getElem?_mapIdx, List.getElem?_map]
    rcases Nat.lt_or_ge i ns.length with h | h
    · rw [List.getElem?_eq_getElem h, List.getElem?_range h]; rfl
    · rw [List.getElem?_eq_none h, List.getElem?_eq_none (by simpa using h)]; rfl
  have hnd : ((oneMs nX ns).map (·.id)).Nodup := by
    rw [hids]
    rw [List.nodup_iff_pairwise_ne, List.pairwise_map]
    have := List.nodup_iff_pairwise_ne.1 (List.nodup_range (n := ns.length))
    exact this.imp fun {a b} h e => h (by have e' : (a : Int) = (b : Int) := e; omega)
  have hp : ∀ m ∈ oneMs nX ns, parsOk l 1 m = true := fun m hm => by
    obtain ⟨n, hn', i, rfl⟩ := hmem m hm
    unfold parsOk
    have e : (oneM nX i n).pars = [⟨nX, clsT n⟩] := rfl
    rw [e]
    simp [hval n hn']
  have h0 : 0 < ns.length → ((oneMs nX ns)[0]?.map fun m => m.pars.length).getD 0 = 1 := fun h => by
    have : (oneMs nX ns)[0]? = some (oneM nX 0 ns[0]) := by unfold oneMs; rw [List.getElem?_mapIdx, List.getElem?_eq_getElem h]; rfl
    rw [this]; rfl
  have hall : (oneMs nX ns).all (parsOk l (((oneMs nX ns)[0]?.map fun m => m.pars.length).getD 0)) = true := by
    rw [List.all_eq_true]
    intro m hm
    have : 0 < ns.length := by rw [← oneMs_len nX]; exact List.length_pos_of_mem hm
    rw [h0 this]; exact hp m hm
  unfold chkB AreMs
  rw [decide_eq_true hnd, hall, oneMs_len]
  have : decide (ns.length = 0) || decide (((oneMs nX ns)[0]?.map fun m => m.pars.length).getD 0 = [v].length) = true := by
    by_cases h : ns.length = 0
    · rw [decide_eq_true h]; rfl
    · rw [h0 (by omega)]; simp
  simp only [List.all_cons, List.all_nil, hv, Bool.and_true]
  simp at this ⊢
  exact ⟨by omega, this⟩
theorem one_order {l : List CI} (hL : LookOk l) {v : Tag} (hv : tagOk l v = true) {ns : List ByteArray} (hd : ns.Nodup) (hn : ns.length ≤ 12) (hval : ∀ n ∈ ns, validErr l (clsT n) = 0) : orderR l (oneMs nX ns) [v] = (wantL ns (cplAt l v), false) := by
  obtain ⟨h1, h2⟩ := single_order hL hv nX hd hval
  unfold orderR
  rw [if_pos (one_chk hL hv hn hval), h1, h2]; rfl
theorem wantL_snoc {ns c : List ByteArray} {k : Nat} {x : ByteArray} (h : c[k]? = some x) : wantL ns (c.take (k + 1)) = wantL ns (c.take k) ++ (if 0 ≤ idx ns x then [idx ns x] else []) := by
  unfold wantL
  rw [take_snoc h, List.map_append, List.filter_append]
  congr 1
  by_cases q : 0 ≤ idx ns x
  · rw [if_pos q]; simp [q]
  · rw [if_neg q]; simp [q]

set_option maxHeartbeats 32000000 in
set_option maxRecDepth 100000 in
theorem single_calls (AH : Option Addr) (cH : Nat) (l : List CI) (AN : Option Addr) (cN : Nat) (ns : List ByteArray) (v : Tag) (W : World) (GH GN : Nat → Prop) (h : Held GH (CIs AH l) W) (hcH : l.length ≤ cH) (ol : ∀ x ∈ l, ciOk x) (hl : l.length ≤ 1000000) (hN : Held GN (Strs AN ns) W) (hcN : ns.length ≤ cN) :
    Calls Try.prog 3 #[.slice AH l.length cH, .slice AN ns.length cN, tagV v] W fun e W' => e = .returned (.bool true) ∧ Below W.heap.size W W' := by
  have HH := Lib.hid h
  have HNS := Lib.hid hN
  have HOL := Lib.hid ol
  clear h hN ol
  have b0 : Below W.heap.size W (W.alloc (.cells #[.int .i64 v.kind, .int .i64 v.num, .string v.name] 25)) := (Below.refl _ W).alloc (Nat.le_refl _) _
  have xt : ∀ j u, [Value.int .i64 v.kind, .int .i64 v.num, .string v.name][j]? = some u → (W.alloc (.cells #[.int .i64 v.kind, .int .i64 v.num, .string v.name] 25)).cell? ⟨W.heap.size, j, none⟩ = some u := fun j u hj => cell_new W _ _ _ rfl j u hj
  have XT := Lib.hid xt
  clear xt
  go_enter Try.func3, Try.ntmps3
  go_wp2_with (fail)
  refine (sane_calls _).mono ?_
  rintro e V0 ⟨rfl, hb0⟩
  have q0 := below_step b0 hb0
  have t0 := cell_all (XT.out 0 _ rfl) hb0
  have t1 := cell_all (XT.out 1 _ rfl) hb0
  have t2 := cell_all (XT.out 2 _ rfl) hb0
  go_wp2_with (fail)
  refine (Check_calls AH cH l V0 hcH _ (HH.out.all q0) HOL.out hl).mono ?_
  rintro e V1 ⟨hb1, (⟨hL, rfl⟩ | ⟨hL, rfl⟩)⟩
  rotate_left
  · have q1 := below_step q0 hb1
    clear hL
    go_wp2
    go_ret
    exact ⟨rfl, q1⟩
  have q1 := below_step q0 hb1
  have HL := Lib.hid hL
  clear hL
  have u0 := cell_all t0 hb1
  have u1 := cell_all t1 hb1
  have u2 := cell_all t2 hb1
  clear t0 t1 t2
  go_wp2_with (fail)
  refine (CheckTag_calls AH cH l v V1 hcH _ (HH.out.all q1) HOL.out hl).mono ?_
  rintro e V2 ⟨hb2, (⟨hno, _⟩ | ⟨_, rfl⟩)⟩
  · exact absurd HL.out hno
  have q2 := below_step q1 hb2
  cases hto : tagOk l v with
  | false =>
    have hte : tagErr l v = 82 := by unfold tagErr; rw [hto]; rfl
    rw [hte]
    clear hte hto
    go_wp2
    go_ret
    exact ⟨rfl, q2⟩
  | true =>
  have hte : tagErr l v = 0 := tagErr_zero.2 hto
  have HTO := Lib.hid hto
  rw [hte]
  clear hte hto
  by_cases h12 : 12 < ns.length
  · have h12' : (12 : Int) < (ns.length : Int) := by omega
    go_wp2
    go_ret
    exact ⟨rfl, q2⟩
  have h12' : ¬ (12 : Int) < (ns.length : Int) := by omega
  have H12 : Hid (ns.length ≤ 12) := Lib.hid (by omega)
  have hn6 : ns.length ≤ 1000000 := by omega
  have HDI := Lib.hid (distinct_calls AN cN ns V2 _ (HNS.out.all q2) hcN hn6)
  cases hdi : distinctB ns with
  | false =>
    rw [hdi] at HDI
    clear hdi
    go_wp2_with (fail)
    refine HDI.out.mono ?_
    rintro e V3 ⟨rfl, hd⟩
    have q3 := below_step q2 (hd.below _)
    clear hd
    go_wp2
    go_ret
    exact ⟨rfl, q3⟩
  | true =>
  rw [hdi] at HDI
  have HND := Lib.hid (distinct_nodup hdi)
  clear hdi
  have u0' := cell_all u0 hb2
  have u1' := cell_all u1 hb2
  have u2' := cell_all u2 hb2
  clear u0 u1 u2
  go_wp2_with (fail)
  refine HDI.out.mono ?_
  clear HDI
  rintro e V3 ⟨rfl, hd⟩
  have hb3 := hd.below V2.heap.size
  have q3 := below_step q2 hb3
  have T0 := Lib.hid (cell_all u0' hb3)
  have T1 := Lib.hid (cell_all u1' hb3)
  have T2 := Lib.hid (cell_all u2' hb3)
  clear hd u0' u1' u2' hb0 hb1 hb2
  go_wp2_with (fail)
  go_loopw [8, 9] (fun m i wr => ∃ k : Nat, k ≤ ns.length ∧ i = .int .i64 k ∧ (∃ S, Own metR 39 8 V3.heap.size S m (oneMs nX (ns.take k)) wr ∧ ∀ b, S b → b < wr.heap.size ∧ m.ownBlock ≠ some b) ∧ (∀ n ∈ ns.take k, validErr l (clsT n) = 0) ∧ Below V3.heap.size V3 wr) (fun _ i _ => ns.length - (intOf i).toNat)
  case atStart => exact ⟨0, Nat.zero_le _, rfl, ⟨fun _ => False, Own.nil _ _ _ _ _ _, fun b h => h.elim⟩, by simp, Below.refl _ _⟩
  case round =>
    obtain ⟨k, hk, rfl, ⟨S, hO, hS⟩, hval, hbr⟩ := hrel
    have HVAL := Lib.hid hval
    have HO := Lib.hid hO
    have HS := Lib.hid hS
    clear hval hO hS
    have qr := below_step q3 hbr
    by_cases hlt : k < ns.length
    · obtain ⟨bn, on, rfl⟩ := Slc.addrH HNS.out (by omega)
      have hx : ns[k]? = some ns[k] := List.getElem?_eq_getElem hlt
      have hxm : ns[k] ∈ ns := List.getElem_mem hlt
      generalize ns[k] = x at hx hxm
      have HX := Lib.hid hx
      have g0 : wr.cell? ⟨bn, on + k, none⟩ = some (.string x) := (Strs.atH (HNS.out.all qr) hx).now
      clear hx hxm
      have hk0 : (0 : Int) ≤ (k : Int) := Int.natCast_nonneg _
      go_wp2_with (fail)
      refine (class_calls x wr).mono ?_
      rintro e V4 ⟨rfl, hb4⟩
      have q4 := below_step qr hb4
      have g1 := cell_all g0 hb4
      have r4 := below_step hbr hb4
      go_wp2_with (fail)
      refine (Valid_calls AH cH l (clsT x) none 0 V4 hcH _ (HH.out.all q4) HOL.out hl (fun _ => True) (fun _ _ => Slc.nil _ _ _ _) (Nat.le_refl _) (tySmall_cls x)).mono ?_
      rintro e V5 ⟨hb5, (⟨hno, _⟩ | ⟨_, rfl⟩)⟩
      · exact absurd HL.out hno
      have q5 := below_step q4 hb5
      have r5 := below_step r4 hb5
      have g2 := cell_all g1 hb5
      clear g0 g1
      by_cases hz : validErr l (clsT x) = 0
      · have HZ := Lib.hid hz
        rw [hz]
        clear hz
        go_wp2_with (fail)
        refine (class_calls x V5).mono ?_
        rintro e V6 ⟨rfl, hb6⟩
        have r6 := below_step r5 hb6
        have q6 := below_step q5 hb6
        go_wp2_with (fail)
        refine (method_calls2 (k : Int) (clsT x) none 0 V6 (fun _ => False) (fun _ _ => Slc.nil _ _ _ _) (Nat.le_refl _)).mono ?_
        rintro e V7 ⟨pn, rfl, hpn, hpn2, hp, hb7⟩
        have r7 := below_step r6 hb7
        have q7 := below_step q6 hb7
        have hb46 := below_step (below_step (below_step hb4 hb5) hb6) hb7
        have HO7 := Lib.hid (HO.out.all hb46)
        have HP := Lib.hid hp
        have sz47 := hb46.size
        have sz46 : wr.heap.size ≤ V6.heap.size := (below_step (below_step hb4 hb5) hb6).size
        have szq := q7.size
        clear hp
        have hlen : (oneMs nX (ns.take k)).length = k := by rw [oneMs_len, List.length_take]; omega
        have hk12 := H12.out
        go_wp2_with (at_builtin; refine Classical.byContradiction fun hneg => ?_)
        apply hneg
        refine wp_append_one metR 39 8 V3.heap.size 112 (fun b => b < V7.heap.size ∧ u8.ownBlock ≠ some b) _ rfl _ _ 31 _ rfl Try.underlying31 info39 rfl (by decide) (by decide) u8 (oneMs nX (ns.take k)) rfl ((HO7.out.mono fun b _ hb => ⟨Nat.lt_of_lt_of_le (HS.out b hb).1 sz47, (HS.out b hb).2⟩).alloc _) ⟨V7.heap.size, 0, none⟩ 1 rfl (oneM nX k x) (metL (met1 (k : Int) (clsT x)) pn) rfl ?cells ?one ?held ?hG ?base ?len ?_
        case cells => exact fun j u hu => cells_new V7 _ _ _ rfl j u hu
        case one => intro u hu; simp at hu; rcases hu with rfl | rfl | rfl | rfl | rfl | rfl | rfl | rfl <;> rfl
        case held =>
          refine (metR.mk (m := met1 (k : Int) (clsT x)) (A1 := some ⟨pn, 0, none⟩) (A2 := none) (c1 := 1) (c2 := 0) (Nat.le_refl _) ((HP.out.mono fun b _ hb => ?_)) (Nat.le_refl _) (fun _ _ => Slc.nil _ _ _ _)).keep (Keep.alloc _ _ _)
          rcases hb with hb | hb
          · exact hb.elim
          · subst hb
            refine ⟨hpn2, fun e => ?_⟩
            have := (HO.out.lt _ e).2; omega
        case hG => exact fun b hb => hb.2
        case base => have := r7.size; simp; omega
        case len => rw [hlen]; omega
        intro v' w1 hown1 hg1 hat1
        have HO1 := Lib.hid hown1
        have bw1 : Below V3.heap.size V3 w1 := (r7.alloc r7.size _).grown hg1 (by have := r7.size; simp; omega) fun k' e => (HO.out.lt k' e).1
        have hsz1 := hg1.size
        have HAT := Lib.hid hat1
        clear hown1 hat1
        go_wp2
        refine ⟨⟨k + 1, by omega, by go_num, ⟨_, by rw [oneMs_snoc nX HX.out]; exact HO1.out, fun b hb => ⟨by simp at hsz1; omega, fun e => ?_⟩⟩, fun n hn => ?_, bw1⟩, by simp [intOf]; omega⟩
        · rcases HAT.out with h | h
          · rw [h] at e; exact hb.2 e
          · rw [h] at e
            have e' := Option.some.inj e
            simp at e'
            have := hb.1
            omega
        · rw [take_snoc HX.out] at hn
          rcases List.mem_append.1 hn with h | h
          · exact HVAL.out n h
          · simp at h; subst h; exact HZ.out
      · have t4 : (validErr l (clsT x) != 0) = true := by rw [bne_iff_ne]; exact hz
        generalize validErr l (clsT x) = ve at t4
        clear hz
        go_wp2
        go_ret
        exact ⟨rfl, q5⟩
    · obtain rfl : k = ns.length := by omega
      have t0 := cell_all T0.out hbr
      have t1 := cell_all T1.out hbr
      have t2 := cell_all T2.out hbr
      have hoO := HO.out
      rw [List.take_length] at hoO
      obtain ⟨AM, cM, rfl, hcM, hHM⟩ := hoO.out
      have HHM := Lib.hid hHM
      have hv' : ∀ n ∈ ns, validErr l (clsT n) = 0 := by have := HVAL.out; rwa [List.take_length] at this
      have HORD := Lib.hid (one_order HL.out HTO.out HND.out H12.out hv')
      have hlm : (oneMs nX ns).length = ns.length := oneMs_len nX ns
      have btag : Below wr.heap.size wr (wr.alloc (.cells #[.int .i64 v.kind, .int .i64 v.num, .string v.name] 25)) := (Below.refl _ wr).alloc (Nat.le_refl _) _
      have HAS : Hid (Asks AH cH l AM (oneMs nX ns) (some ⟨wr.heap.size, 0, none⟩) [v] (wr.alloc (.cells #[.int .i64 v.kind, .int .i64 v.num, .string v.name] 25))) := Lib.hid
        ⟨⟨_, (HH.out.all qr).keep (Keep.all btag)⟩, hcH, HOL.out, hl, ⟨_, HHM.out.keep (Keep.all btag)⟩, by rw [hlm]; omega, fun m hm p hp => by
          obtain ⟨i, n, h1, rfl⟩ := mem_oneMs.1 hm
          have : p = ⟨nX, clsT n⟩ := by simpa [oneM] using hp
          subst this; exact tySmall_cls _, fun m hm => by
          obtain ⟨i, n, h1, rfl⟩ := mem_oneMs.1 hm
          simp [oneM], ⟨_, rows1 (R := tagR) (G := fun _ => True) (x := v) (cx := [.int .i64 v.kind, .int .i64 v.num, .string v.name]) 25 rfl (fun _ _ => rfl) rfl⟩, by simp⟩
      have HOC : Hid (Calls Try.prog 16 #[.slice AH l.length cH, .slice AM ns.length cM, .slice (some ⟨wr.heap.size, 0, none⟩) 1 1] (wr.alloc (.cells #[.int .i64 v.kind, .int .i64 v.num, .string v.name] 25)) fun e W' => ∃ A' c', e = .returned (.tuple #[.slice A' (wantL ns (cplAt l v)).length c', .bool false]) ∧ Held (fun b => b < W'.heap.size) (Ints A' (wantL ns (cplAt l v))) W' ∧ Below (wr.alloc (.cells #[.int .i64 v.kind, .int .i64 v.num, .string v.name] 25)).heap.size (wr.alloc (.cells #[.int .i64 v.kind, .int .i64 v.num, .string v.name] 25)) W') := Lib.hid (by
        have := order_calls AH cH l AM cM (oneMs nX ns) (some ⟨wr.heap.size, 0, none⟩) 1 [v] _ HAS.out
        rw [HORD.out, hlm] at this
        refine this.mono ?_
        rintro e W' ⟨v, rfl, ho, hb⟩
        obtain ⟨A', c', rfl, _, h2⟩ := ho.out
        exact ⟨A', c', rfl, h2.mono fun b hb _ => hb, hb⟩)
      clear hHM hoO hv' hcM hlm
      rw [oneMs_len]
      go_wp2_with (fail)
      refine HOC.out.mono ?_
      clear HOC HAS
      rintro e V4 ⟨A4, c4, rfl, hi4, hb4⟩
      have HI4 := Lib.hid hi4
      have r4 := below_step btag hb4
      have q4 := below_step qr r4
      have s0 := cell_all t0 r4
      have s1 := cell_all t1 r4
      have s2 := cell_all t2 r4
      clear hi4 t0 t1 t2
      go_wp2_with (fail)
      refine (ClassOf_calls AH cH l v V4 hcH _ (HH.out.all q4) HOL.out hl).mono ?_
      rintro e V5 ⟨hb5, (⟨_, rfl⟩ | ⟨hno, _⟩)⟩
      rotate_left
      · exact absurd ⟨HL.out, HTO.out⟩ hno
      have q5 := below_step q4 hb5
      clear s0 s1 s2
      go_wp2_with (fail)
      refine (rCpl_calls AH cH l (classOfB v) V5 _ (HH.out.all q5) hl).mono ?_
      rintro e V6 ⟨rfl, AC, cC, rfl, hcC, hHC⟩
      have HCL : Hid (((l.find? fun x => decide (x.name = classOfB v)).map CI.cpl).getD [] = cplAt l v) := Lib.hid rfl
      rw [HCL.out] at hHC hcC ⊢
      have HHC := Lib.hid hHC
      have hcl := cplAt_short HL.out v
      have HI5 := Lib.hid (HI4.out.all hb5)
      generalize cplAt l v = cp at hcC HHC hcl HI5 ⊢
      clear hHC HCL HORD
      go_wp2_with (fail)
      go_loopw [12, 14] (fun m i wr => ∃ k : Nat, k ≤ cp.length ∧ i = .int .i64 k ∧ Own intR 3 1 V6.heap.size (fun _ => False) m (wantL ns (cp.take k)) wr ∧ Below V6.heap.size V6 wr) (fun _ i _ => cp.length - (intOf i).toNat)
      case atStart => exact ⟨0, Nat.zero_le _, rfl, Own.nil _ _ _ _ _ _, Below.refl _ _⟩
      case round =>
        obtain ⟨k, hk, rfl, hw, hbr2⟩ := hrel
        have HW := Lib.hid hw
        clear hw
        have qw := below_step q5 hbr2
        by_cases hlt : k < cp.length
        · obtain ⟨bc, oc, rfl⟩ := Slc.addrH HHC.out (by omega)
          have hx : cp[k]? = some cp[k] := List.getElem?_eq_getElem hlt
          generalize cp[k] = x at hx
          have HX := Lib.hid hx
          have g0 : wr.cell? ⟨bc, oc + k, none⟩ = some (.string x) := (Strs.atH (HHC.out.all hbr2) hx).now
          clear hx
          have hk0 : (0 : Int) ≤ (k : Int) := Int.natCast_nonneg _
          have HRI := Lib.hid (rIndex_calls AN cN ns x wr (HNS.out.all qw).now hn6)
          have HWS := Lib.hid (wantL_snoc (ns := ns) HX.out)
          have hwl : Hid ((wantL ns (cp.take k)).length ≤ 1000000) := Lib.hid (by
            unfold wantL
            refine Nat.le_trans (List.length_filter_le _ _) ?_
            rw [List.length_map, List.length_take]; omega)
          generalize idx ns x = ix at HRI HWS
          by_cases hix : 0 ≤ ix
          · have t4 : decide ((0 : Int) ≤ ix) = true := decide_eq_true hix
            rw [if_pos hix] at HWS
            clear hix
            have hvz := hbr2.size
            go_wp2_with (first | (go_at_call 19; refine HRI.out.mono ?_; rintro e w' ⟨rfl, rfl⟩) | (at_builtin; refine Classical.byContradiction fun hneg => ?_))
            apply hneg
            refine wp_append_one intR 3 1 V6.heap.size 8 (fun _ => False) _ rfl _ _ 41 _ rfl Try.underlying41 infoInt rfl (by decide) (by decide) u12 (wantL ns (cp.take k)) rfl (HW.out.alloc _) ⟨wr.heap.size, 0, none⟩ 1 rfl ix [.int .i64 ix] rfl ?cells ?one ?held ?hG ?base ?len ?_
            case cells => exact fun j u hu => cells_new wr _ _ _ rfl j u hu
            case one => intro u hu; simp at hu; subst hu; rfl
            case held => exact fun _ _ => rfl
            case hG => exact fun b hb _ => hb.elim
            case base => simp; omega
            case len => have := hwl.out; omega
            intro v' w1 hown1 hg1 _
            have HO1 := Lib.hid hown1
            have bw1 : Below V6.heap.size V6 w1 := (hbr2.alloc hbr2.size _).grown hg1 (by simp; omega) fun k' e => (HW.out.lt k' e).1
            clear hown1
            go_wp2
            exact ⟨⟨k + 1, by omega, by go_num, by rw [HWS.out]; exact HO1.out, bw1⟩, by simp [intOf]; omega⟩
          · have t4 : decide ((0 : Int) ≤ ix) = false := decide_eq_false hix
            rw [if_neg hix, List.append_nil] at HWS
            clear hix
            go_wp2_with (go_at_call 19; refine HRI.out.mono ?_; rintro e w' ⟨rfl, rfl⟩)
            exact ⟨⟨k + 1, by omega, by go_num, by rw [HWS.out]; exact HW.out, hbr2⟩, by simp [intOf]; omega⟩
        · obtain rfl : k = cp.length := by omega
          have hww := HW.out
          rw [List.take_length] at hww
          obtain ⟨A7, c7, rfl, _, h7⟩ := hww.out
          have hwl : (wantL ns cp).length ≤ 1000000 := by
            unfold wantL
            refine Nat.le_trans (List.length_filter_le _ _) ?_
            rw [List.length_map]; omega
          have HSI := Lib.hid (sameInts_true A4 A7 c4 c7 (wantL ns cp) wr _ _ (HI5.out.all hbr2) h7 hwl)
          clear h7 hww hwl
          go_wp2_with (fail)
          refine HSI.out.mono ?_
          rintro e V8 ⟨rfl, hb8⟩
          have q8 := below_step qw hb8
          go_wp2
          go_ret
          exact ⟨rfl, q8⟩
end Go.Proofs.Ytepnmejahbiacaa
