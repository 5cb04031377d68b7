/-
  NARROWER THAN 'FOR EVERY INPUT', by the rows' own cells (each row's printed sentence says how): MethodsApply: loops · MethodsTypes: loops · MethodsChecks: loops · MethodsWithin: loops · MethodsOrders: loops.
  DERIVED. THE GIVEN ROWS OF THIS SEAT. 5 by the template 'for every input the law returns true; each argument reads behind the call as it read before'; 0 by the template 'total and deterministic' (their statements: YtepnmejahbiacaaGreatTotals.lean).
  GIVEN WITH THE SEED: the statements are not yours to turn. If you find one false, say at which input.
  Laid BY PROGRAM, IN A SANDBOX (cutbox-rows.mjs): the forced cells as the released guide's own fill.sh prints them over the translation 18bdd52fead0a9f4… (all of the seat's roots in one cut). By AI agents, Wed Nov 11 2026. No macro, syntax, notation, axiom, sorry.
-/
import Derived.Test.YtepnmejahbiacaaGreatChecked
import GoSem.Claim
import GoSem.ClaimJoined
import GoSem.ClaimMapViews
import Derived.JoinedTies
import Derived.KernelRfl
namespace Go.Proofs.YtepnmejahbiacaaGreat
/- THE CELL 'sum', in the pinned program and in every row, IS THE sha256 OF THE DUMP (.gsa) THAT YtepnmejahbiacaaGreatProg.lean LOADS. Nothing in Lean hashes anything: it is a label: what it is worth is what the hold of that sum in a sandbox is worth. -/
noncomputable def Tryz.pinned : Pinned := { name := "ytepnmejahbiacaagreat", sum := "18bdd52fead0a9f423986bbdf1989edf8e59d57f23c0f8b27639c19b79eb35dc", checked := Tryz.checked }
namespace Rows
def none {H : Type} : Left H := { results := [], args := [] }

/-- 'skerrylaw10.MethodsApply': WHATEVER THE INPUT: true; the input reads as it did. -/
def methodsApplySpec : ChangeSpec := { name := "methodsApply", fn := fun _ => fun
  | [d1, d2, d3] => { results := [.lit (.bool true)], args := [d1, d2, d3] }
  | _ => none }
def methodsApplyRow : OpenClaim := { program := "ytepnmejahbiacaagreat", sum := "18bdd52fead0a9f423986bbdf1989edf8e59d57f23c0f8b27639c19b79eb35dc", func := "skerry/skerrylaw10.MethodsApply", spec := "methodsApply", unfollowed := true, recurses := true, loops := true, apart := false }
def MethodsApplySaid : Prop := methodsApplyRow.holds Tryz.pinned (OpenSpec.ofChange methodsApplySpec)

/-- ITS FALSE NEIGHBOUR: 'it returns false'. Refute it at one input. -/
def methodsApplyWrong : ChangeSpec := { name := "methodsApply", fn := fun _ => fun
  | [d1, d2, d3] => { results := [.lit (.bool false)], args := [d1, d2, d3] }
  | _ => none }
def MethodsApplyWrongFalsely : Prop := methodsApplyRow.holds Tryz.pinned (OpenSpec.ofChange methodsApplyWrong)

/-- 'skerrylaw10.MethodsTypes': WHATEVER THE INPUT: true; the input reads as it did. -/
def methodsTypesSpec : ChangeSpec := { name := "methodsTypes", fn := fun _ => fun
  | [d1, d2, d3] => { results := [.lit (.bool true)], args := [d1, d2, d3] }
  | _ => none }
def methodsTypesRow : OpenClaim := { program := "ytepnmejahbiacaagreat", sum := "18bdd52fead0a9f423986bbdf1989edf8e59d57f23c0f8b27639c19b79eb35dc", func := "skerry/skerrylaw10.MethodsTypes", spec := "methodsTypes", unfollowed := true, recurses := true, loops := true, apart := false }
def MethodsTypesSaid : Prop := methodsTypesRow.holds Tryz.pinned (OpenSpec.ofChange methodsTypesSpec)

/-- ITS FALSE NEIGHBOUR: 'it returns false'. Refute it at one input. -/
def methodsTypesWrong : ChangeSpec := { name := "methodsTypes", fn := fun _ => fun
  | [d1, d2, d3] => { results := [.lit (.bool false)], args := [d1, d2, d3] }
  | _ => none }
def MethodsTypesWrongFalsely : Prop := methodsTypesRow.holds Tryz.pinned (OpenSpec.ofChange methodsTypesWrong)

/-- 'skerrylaw10.MethodsChecks': WHATEVER THE INPUT: true; the input reads as it did. -/
def methodsChecksSpec : ChangeSpec := { name := "methodsChecks", fn := fun _ => fun
  | [d1, d2, d3] => { results := [.lit (.bool true)], args := [d1, d2, d3] }
  | _ => none }
def methodsChecksRow : OpenClaim := { program := "ytepnmejahbiacaagreat", sum := "18bdd52fead0a9f423986bbdf1989edf8e59d57f23c0f8b27639c19b79eb35dc", func := "skerry/skerrylaw10.MethodsChecks", spec := "methodsChecks", unfollowed := true, recurses := true, loops := true, apart := false }
def MethodsChecksSaid : Prop := methodsChecksRow.holds Tryz.pinned (OpenSpec.ofChange methodsChecksSpec)

/-- ITS FALSE NEIGHBOUR: 'it returns false'. Refute it at one input. -/
def methodsChecksWrong : ChangeSpec := { name := "methodsChecks", fn := fun _ => fun
  | [d1, d2, d3] => { results := [.lit (.bool false)], args := [d1, d2, d3] }
  | _ => none }
def MethodsChecksWrongFalsely : Prop := methodsChecksRow.holds Tryz.pinned (OpenSpec.ofChange methodsChecksWrong)

/-- 'skerrylaw10.MethodsWithin': WHATEVER THE INPUT: true; the input reads as it did. -/
def methodsWithinSpec : ChangeSpec := { name := "methodsWithin", fn := fun _ => fun
  | [d1, d2] => { results := [.lit (.bool true)], args := [d1, d2] }
  | _ => none }
def methodsWithinRow : OpenClaim := { program := "ytepnmejahbiacaagreat", sum := "18bdd52fead0a9f423986bbdf1989edf8e59d57f23c0f8b27639c19b79eb35dc", func := "skerry/skerrylaw10.MethodsWithin", spec := "methodsWithin", unfollowed := true, recurses := true, loops := true, apart := false }
def MethodsWithinSaid : Prop := methodsWithinRow.holds Tryz.pinned (OpenSpec.ofChange methodsWithinSpec)

/-- ITS FALSE NEIGHBOUR: 'it returns false'. Refute it at one input. -/
def methodsWithinWrong : ChangeSpec := { name := "methodsWithin", fn := fun _ => fun
  | [d1, d2] => { results := [.lit (.bool false)], args := [d1, d2] }
  | _ => none }
def MethodsWithinWrongFalsely : Prop := methodsWithinRow.holds Tryz.pinned (OpenSpec.ofChange methodsWithinWrong)

/-- 'skerrylaw10.MethodsOrders': WHATEVER THE INPUT: true; the input reads as it did. -/
def methodsOrdersSpec : ChangeSpec := { name := "methodsOrders", fn := fun _ => fun
  | [d1, d2, d3] => { results := [.lit (.bool true)], args := [d1, d2, d3] }
  | _ => none }
def methodsOrdersRow : OpenClaim := { program := "ytepnmejahbiacaagreat", sum := "18bdd52fead0a9f423986bbdf1989edf8e59d57f23c0f8b27639c19b79eb35dc", func := "skerry/skerrylaw10.MethodsOrders", spec := "methodsOrders", unfollowed := true, recurses := true, loops := true, apart := false }
def MethodsOrdersSaid : Prop := methodsOrdersRow.holds Tryz.pinned (OpenSpec.ofChange methodsOrdersSpec)

/-- ITS FALSE NEIGHBOUR: 'it returns false'. Refute it at one input. -/
def methodsOrdersWrong : ChangeSpec := { name := "methodsOrders", fn := fun _ => fun
  | [d1, d2, d3] => { results := [.lit (.bool false)], args := [d1, d2, d3] }
  | _ => none }
def MethodsOrdersWrongFalsely : Prop := methodsOrdersRow.holds Tryz.pinned (OpenSpec.ofChange methodsOrdersWrong)

/- THE SECOND FORM. 'bulk': how many values and letters a reading holds, each counted each time it is reached (what is shared counts as often as it is met; a slice's spare places count too). A statement '..UptoSaid' is the law's where the arguments, and the package variables that the reading takes, are together of bulk at most 1048576: NARROWER than '..Said'. Prove '..Said' where nothing that the law and all that it calls make is longer than what came in: it says more and counts as full. Else prove '..UptoSaid'. A law counts once. -/
mutual
def uptoBulk {H : Type} : DataW H → Nat
  | .lit (.string bytes) => bytes.length + 1
  | .lit _ => 1
  | .nil => 1
  | .ptr d => uptoBulk d + 1
  | .slice elems spare => uptoBulkAll elems + uptoBulkAll spare + 1
  | .agg parts => uptoBulkAll parts + 1
  | .iface _ d => uptoBulk d + 1
  | .map entries => uptoBulkEntries entries + 1
  | .held _ => 1
def uptoBulkAll {H : Type} : List (DataW H) → Nat
  | [] => 0
  | d :: r => uptoBulk d + uptoBulkAll r
def uptoBulkEntries {H : Type} : List (Lit × DataW H) → Nat
  | [] => 0
  | x :: r => uptoBulkEntry x + uptoBulkEntries r
def uptoBulkEntry {H : Type} : Lit × DataW H → Nat
  | (.string bytes, d) => bytes.length + uptoBulk d + 1
  | (_, d) => uptoBulk d + 1
 end
def uptoSmall : (H : Type) → List (DataW H) → Bool := fun _ ds => decide (uptoBulkAll ds ≤ 1048576)
def OpenSpec.upto (s : _root_.Go.ChangeSpec) : _root_.Go.OpenSpec := { _root_.Go.OpenSpec.ofChange s with cond := some uptoSmall }

/-- 'skerrylaw10.MethodsApply', WHERE WHAT IT READS IS OF BULK AT MOST 1048576: true; the input reads as it did. -/
def methodsApplyUptoRow : OpenClaim := { program := "ytepnmejahbiacaagreat", sum := "18bdd52fead0a9f423986bbdf1989edf8e59d57f23c0f8b27639c19b79eb35dc", func := "skerry/skerrylaw10.MethodsApply", spec := "methodsApply", unfollowed := true, recurses := true, loops := true, apart := false, narrowed := true }
def MethodsApplyUptoSaid : Prop := methodsApplyUptoRow.holds Tryz.pinned (OpenSpec.upto methodsApplySpec)

/-- 'skerrylaw10.MethodsTypes', WHERE WHAT IT READS IS OF BULK AT MOST 1048576: true; the input reads as it did. -/
def methodsTypesUptoRow : OpenClaim := { program := "ytepnmejahbiacaagreat", sum := "18bdd52fead0a9f423986bbdf1989edf8e59d57f23c0f8b27639c19b79eb35dc", func := "skerry/skerrylaw10.MethodsTypes", spec := "methodsTypes", unfollowed := true, recurses := true, loops := true, apart := false, narrowed := true }
def MethodsTypesUptoSaid : Prop := methodsTypesUptoRow.holds Tryz.pinned (OpenSpec.upto methodsTypesSpec)

/-- 'skerrylaw10.MethodsChecks', WHERE WHAT IT READS IS OF BULK AT MOST 1048576: true; the input reads as it did. -/
def methodsChecksUptoRow : OpenClaim := { program := "ytepnmejahbiacaagreat", sum := "18bdd52fead0a9f423986bbdf1989edf8e59d57f23c0f8b27639c19b79eb35dc", func := "skerry/skerrylaw10.MethodsChecks", spec := "methodsChecks", unfollowed := true, recurses := true, loops := true, apart := false, narrowed := true }
def MethodsChecksUptoSaid : Prop := methodsChecksUptoRow.holds Tryz.pinned (OpenSpec.upto methodsChecksSpec)

/-- 'skerrylaw10.MethodsWithin', WHERE WHAT IT READS IS OF BULK AT MOST 1048576: true; the input reads as it did. -/
def methodsWithinUptoRow : OpenClaim := { program := "ytepnmejahbiacaagreat", sum := "18bdd52fead0a9f423986bbdf1989edf8e59d57f23c0f8b27639c19b79eb35dc", func := "skerry/skerrylaw10.MethodsWithin", spec := "methodsWithin", unfollowed := true, recurses := true, loops := true, apart := false, narrowed := true }
def MethodsWithinUptoSaid : Prop := methodsWithinUptoRow.holds Tryz.pinned (OpenSpec.upto methodsWithinSpec)

/-- 'skerrylaw10.MethodsOrders', WHERE WHAT IT READS IS OF BULK AT MOST 1048576: true; the input reads as it did. -/
def methodsOrdersUptoRow : OpenClaim := { program := "ytepnmejahbiacaagreat", sum := "18bdd52fead0a9f423986bbdf1989edf8e59d57f23c0f8b27639c19b79eb35dc", func := "skerry/skerrylaw10.MethodsOrders", spec := "methodsOrders", unfollowed := true, recurses := true, loops := true, apart := false, narrowed := true }
def MethodsOrdersUptoSaid : Prop := methodsOrdersUptoRow.holds Tryz.pinned (OpenSpec.upto methodsOrdersSpec)

end Rows
end Go.Proofs.YtepnmejahbiacaaGreat
