/- methods.filter. -/
import Derived.Test.YtepnmejahbiacaaCm
set_option linter.unusedVariables false
set_option linter.unusedSimpArgs false
namespace Go.Proofs.Ytepnmejahbiacaa
open Go.RowKit

abbrev metV (m : Meth) (A1 : Option Addr) (c1 : Nat) (A2 : Option Addr) (c2 : Nat) : Value := .agg #[.int .i64 m.id, .string m.lib, .slice A1 m.pars.length c1, .int .i64 m.result.kind, .string m.result.name, .int .i64 m.result.lo, .int .i64 m.result.hi, .slice A2 m.result.args.length c2]
theorem metR.mk {G : Nat → Prop} {m : Meth} {w : World} {A1 A2 : Option Addr} {c1 c2 : Nat} (h1 : m.pars.length ≤ c1) (h2 : Held G (Pars A1 m.pars) w) (h3 : m.result.args.length ≤ c2) (h4 : Held G (Typs A2 m.result.args) w) :
    Held G (metR m [.int .i64 m.id, .string m.lib, .slice A1 m.pars.length c1, .int .i64 m.result.kind, .string m.result.name, .int .i64 m.result.lo, .int .i64 m.result.hi, .slice A2 m.result.args.length c2]) w := fun w' k =>
  ⟨A1, c1, _, rfl, rfl, h1, h2 w' k, typR.mk h3 h4 w' k⟩

set_option maxHeartbeats 8000000 in
set_option maxRecDepth 100000 in
theorem filter_calls (A : Option Addr) (c : Nat) (l : List Meth) (G : Nat → Prop) (w : World) (h : Held G (Meths A l) w) (hl : l.length ≤ 1000000) (fid : Nat) (first cap : Array Value) (q : Meth → Bool)
    (hfn : ∀ args w, (callFunc fid args).run Try.prog w = .ok (.enter fid args) w)
    (ask : ∀ m ∈ l, ∀ A1 c1 A2 c2 wr, Below w.heap.size w wr → m.pars.length ≤ c1 → Held (fun b => G b ∧ b < w.heap.size) (Pars A1 m.pars) wr → Calls Try.prog fid (first.push (metV m A1 c1 A2 c2) ++ cap) wr fun e w' => e = .returned (.bool (q m)) ∧ Below wr.heap.size wr w') :
    Calls Try.prog 42 #[.slice A l.length c, .func (.func fid) first cap] w fun e w' => ∃ v, e = .returned v ∧ Own metR 39 8 w.heap.size (fun b => G b ∧ b < w.heap.size) v (l.filter q) w' ∧ Below w.heap.size w w' := by
  have H := h.lt
  have HA := Lib.hid ask
  clear ask h
  go_enter Try.func42, Try.ntmps42
  go_wp2
  go_loopw [5, 10] (fun v i wr => ∃ k : Nat, k ≤ l.length ∧ i = .int .i64 k ∧ Own metR 39 8 w.heap.size (fun b => G b ∧ b < w.heap.size) v ((l.take k).filter q) wr ∧ Below w.heap.size w wr) (fun _ i _ => l.length - (intOf i).toNat)
  case atStart => exact ⟨0, Nat.zero_le _, rfl, Own.nil _ _ _ _ _ _, Below.refl _ _⟩
  case round =>
    obtain ⟨k, hk, rfl, hown, hb⟩ := hrel
    by_cases hlt : k < l.length
    · obtain ⟨b, off, rfl⟩ := Slc.addrH H (by omega)
      have hx : l[k]? = some l[k] := List.getElem?_eq_getElem hlt
      generalize l[k] = x at hx
      have HX := Lib.hid hx
      obtain ⟨A1, c1, A2, c2, p1, p2, p3, p4, g0, g1, g2, g3, g4, g5, g6, g7⟩ := Meths.atH (H.keep (Keep.all hb)) hx
      have HQ := Lib.hid (fun V (hv : Below wr.heap.size wr V) => HA.out x (List.mem_of_getElem? hx) A1 c1 A2 c2 V (hb.trans (hv.mono hb.size)) p1 (p2.keep (Keep.all hv)))
      have HS : Hid ((l.take (k + 1)).filter q = (l.take k).filter q ++ [x].filter q) := Lib.hid (by rw [take_snoc hx, List.filter_append])
      clear hx
      go_wp2_with (fail)
      obtain ⟨W1, hW1⟩ : ∃ W1, W1 = wr.alloc (.cells #[.int .i64 x.id, .string x.lib, .slice A1 x.pars.length c1, .int .i64 x.result.kind, .string x.result.name, .int .i64 x.result.lo, .int .i64 x.result.hi, .slice A2 x.result.args.length c2] 39) := ⟨_, rfl⟩
      rw [← hW1]
      have b1 : Below wr.heap.size wr W1 := by rw [hW1]; exact (Below.refl _ wr).alloc (Nat.le_refl _) _
      have xm : ∀ j u, [Value.int .i64 x.id, .string x.lib, .slice A1 x.pars.length c1, .int .i64 x.result.kind, .string x.result.name, .int .i64 x.result.lo, .int .i64 x.result.hi, .slice A2 x.result.args.length c2][j]? = some u → W1.cell? ⟨wr.heap.size, j, none⟩ = some u := fun j u hj => by rw [hW1]; exact cell_new wr _ _ _ rfl j u hj
      clear hW1
      refine (HQ.out W1 b1).mono ?_
      rintro e V ⟨rfl, hbv⟩
      have bV : Below wr.heap.size wr V := b1.trans (hbv.mono b1.size)
      have bWV := hb.trans (bV.mono hb.size)
      have m0 := cell_all (xm 0 _ rfl) hbv
      have m1 := cell_all (xm 1 _ rfl) hbv
      have m2 := cell_all (xm 2 _ rfl) hbv
      have m3 := cell_all (xm 3 _ rfl) hbv
      have m4 := cell_all (xm 4 _ rfl) hbv
      have m5 := cell_all (xm 5 _ rfl) hbv
      have m6 := cell_all (xm 6 _ rfl) hbv
      have m7 := cell_all (xm 7 _ rfl) hbv
      have hownV := hown.all bV
      cases hq : q x with
      | false =>
        have hsk : (l.take (k + 1)).filter q = (l.take k).filter q := by rw [HS.out]; simp [hq]
        have HK := Lib.hid hsk
        clear hq hsk
        go_wp2
        exact ⟨⟨k + 1, by omega, by go_num, by rw [HK.out]; exact hownV, bWV⟩, by simp [intOf]; omega⟩
      | true =>
        have hsk : (l.take (k + 1)).filter q = (l.take k).filter q ++ [x] := by rw [HS.out]; simp [hq]
        have HK := Lib.hid hsk
        clear hq hsk
        have hfl : ((l.take k).filter q).length ≤ k := Nat.le_trans (List.length_filter_le _ _) (by rw [List.length_take]; omega)
        go_wp2_with (at_builtin; refine Classical.byContradiction fun hneg => ?_)
        apply hneg
        have hbz := bWV.size
        refine wp_append_one metR 39 8 w.heap.size 112 (fun b => G b ∧ b < w.heap.size) _ rfl _ _ 31 _ rfl Try.underlying31 info39 rfl (by decide) (by decide) _ ((l.take k).filter q) rfl (hownV.alloc _) ⟨V.heap.size, 0, none⟩ 1 rfl x [.int .i64 x.id, .string x.lib, .slice A1 x.pars.length c1, .int .i64 x.result.kind, .string x.result.name, .int .i64 x.result.lo, .int .i64 x.result.hi, .slice A2 x.result.args.length c2] rfl ?cells ?one ((metR.mk p1 (p2.keep (Keep.all bV)) p3 (p4.keep (Keep.all bV))).keep (Keep.alloc _ _ _)) ?hG ?base ?len ?_
        case cells => exact fun j u hu => cells_new V _ _ _ rfl j u hu
        case one => intro u hu; simp at hu; rcases hu with rfl | rfl | rfl | rfl | rfl | rfl | rfl | rfl <;> rfl
        case hG => exact fun b hb e => by have := (hown.lt _ e).1; have := hb.2; omega
        case base => simp; omega
        case len => omega
        intro v' w1 hown1 hg1 _
        go_wp2
        exact ⟨⟨k + 1, by omega, by go_num, by rw [HK.out]; exact hown1, (bWV.alloc bWV.size _).grown hg1 (by simp; omega) fun k' e => (hown.lt _ e).1⟩, by simp [intOf]; omega⟩
    · go_wp2
      have hkl : k = l.length := by omega
      go_ret
      rw [hkl, List.take_length] at hown
      exact ⟨_, rfl, hown, hb⟩
end Go.Proofs.Ytepnmejahbiacaa
