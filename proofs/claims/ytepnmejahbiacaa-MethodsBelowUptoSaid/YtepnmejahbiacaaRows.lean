/-
  NARROWER THAN 'FOR EVERY INPUT', by the rows' own cells (each row's printed sentence says how): MethodsGrow: loops · MethodsAny: loops · MethodsStrict: loops · MethodsPrefix: loops · MethodsBelow: loops.
  DERIVED. THE GIVEN ROWS OF THIS SEAT. 6 by the template 'for every input the law returns true; each argument reads behind the call as it read before'; 0 by the template 'total and deterministic' (their statements: YtepnmejahbiacaaTotals.lean).
  GIVEN WITH THE SEED: the statements are not yours to turn. If you find one false, say at which input.
  Laid BY PROGRAM, IN A SANDBOX (cutbox-rows.mjs): the forced cells as the released guide's own fill.sh prints them over the translation 1f7fb9e54a41e812… (all of the seat's roots in one cut). By AI agents, Wed Nov 11 2026. No macro, syntax, notation, axiom, sorry.
-/
import Derived.Test.YtepnmejahbiacaaChecked
import GoSem.Claim
import GoSem.ClaimJoined
import GoSem.ClaimMapViews
import Derived.JoinedTies
import Derived.KernelRfl
namespace Go.Proofs.Ytepnmejahbiacaa
/- THE CELL 'sum', in the pinned program and in every row, IS THE sha256 OF THE DUMP (.gsa) THAT YtepnmejahbiacaaProg.lean LOADS. Nothing in Lean hashes anything: it is a label: what it is worth is what the hold of that sum in a sandbox is worth. -/
noncomputable def Try.pinned : Pinned := { name := "ytepnmejahbiacaa", sum := "1f7fb9e54a41e812f62fcbfa6f05609b5d6393bd481a5cf5814ad25668981d2e", checked := Try.checked }
namespace Rows
def none {H : Type} : Left H := { results := [], args := [] }

/-- 'skerrylaw10.MethodsSingle': WHATEVER THE INPUT: true; the input reads as it did. -/
def methodsSingleSpec : ChangeSpec := { name := "methodsSingle", fn := fun _ => fun
  | [d1, d2, d3] => { results := [.lit (.bool true)], args := [d1, d2, d3] }
  | _ => none }
def methodsSingleRow : OpenClaim := { program := "ytepnmejahbiacaa", sum := "1f7fb9e54a41e812f62fcbfa6f05609b5d6393bd481a5cf5814ad25668981d2e", func := "skerry/skerrylaw10.MethodsSingle", spec := "methodsSingle", unfollowed := true, recurses := true, apart := false }
def MethodsSingleSaid : Prop := methodsSingleRow.holds Try.pinned (OpenSpec.ofChange methodsSingleSpec)

/-- ITS FALSE NEIGHBOUR: 'it returns false'. Refute it at one input. -/
def methodsSingleWrong : ChangeSpec := { name := "methodsSingle", fn := fun _ => fun
  | [d1, d2, d3] => { results := [.lit (.bool false)], args := [d1, d2, d3] }
  | _ => none }
def MethodsSingleWrongFalsely : Prop := methodsSingleRow.holds Try.pinned (OpenSpec.ofChange methodsSingleWrong)

/-- 'skerrylaw10.MethodsGrow': WHATEVER THE INPUT: true; the input reads as it did. -/
def methodsGrowSpec : ChangeSpec := { name := "methodsGrow", fn := fun _ => fun
  | [d1, d2, d3] => { results := [.lit (.bool true)], args := [d1, d2, d3] }
  | _ => none }
def methodsGrowRow : OpenClaim := { program := "ytepnmejahbiacaa", sum := "1f7fb9e54a41e812f62fcbfa6f05609b5d6393bd481a5cf5814ad25668981d2e", func := "skerry/skerrylaw10.MethodsGrow", spec := "methodsGrow", unfollowed := true, recurses := true, loops := true, apart := false }
def MethodsGrowSaid : Prop := methodsGrowRow.holds Try.pinned (OpenSpec.ofChange methodsGrowSpec)

/-- ITS FALSE NEIGHBOUR: 'it returns false'. Refute it at one input. -/
def methodsGrowWrong : ChangeSpec := { name := "methodsGrow", fn := fun _ => fun
  | [d1, d2, d3] => { results := [.lit (.bool false)], args := [d1, d2, d3] }
  | _ => none }
def MethodsGrowWrongFalsely : Prop := methodsGrowRow.holds Try.pinned (OpenSpec.ofChange methodsGrowWrong)

/-- 'skerrylaw10.MethodsAny': WHATEVER THE INPUT: true; the input reads as it did. -/
def methodsAnySpec : ChangeSpec := { name := "methodsAny", fn := fun _ => fun
  | [d1, d2, d3] => { results := [.lit (.bool true)], args := [d1, d2, d3] }
  | _ => none }
def methodsAnyRow : OpenClaim := { program := "ytepnmejahbiacaa", sum := "1f7fb9e54a41e812f62fcbfa6f05609b5d6393bd481a5cf5814ad25668981d2e", func := "skerry/skerrylaw10.MethodsAny", spec := "methodsAny", unfollowed := true, recurses := true, loops := true, apart := false }
def MethodsAnySaid : Prop := methodsAnyRow.holds Try.pinned (OpenSpec.ofChange methodsAnySpec)

/-- ITS FALSE NEIGHBOUR: 'it returns false'. Refute it at one input. -/
def methodsAnyWrong : ChangeSpec := { name := "methodsAny", fn := fun _ => fun
  | [d1, d2, d3] => { results := [.lit (.bool false)], args := [d1, d2, d3] }
  | _ => none }
def MethodsAnyWrongFalsely : Prop := methodsAnyRow.holds Try.pinned (OpenSpec.ofChange methodsAnyWrong)

/-- 'skerrylaw10.MethodsStrict': WHATEVER THE INPUT: true; the input reads as it did. -/
def methodsStrictSpec : ChangeSpec := { name := "methodsStrict", fn := fun _ => fun
  | [d1, d2, d3] => { results := [.lit (.bool true)], args := [d1, d2, d3] }
  | _ => none }
def methodsStrictRow : OpenClaim := { program := "ytepnmejahbiacaa", sum := "1f7fb9e54a41e812f62fcbfa6f05609b5d6393bd481a5cf5814ad25668981d2e", func := "skerry/skerrylaw10.MethodsStrict", spec := "methodsStrict", unfollowed := true, recurses := true, loops := true, apart := false }
def MethodsStrictSaid : Prop := methodsStrictRow.holds Try.pinned (OpenSpec.ofChange methodsStrictSpec)

/-- ITS FALSE NEIGHBOUR: 'it returns false'. Refute it at one input. -/
def methodsStrictWrong : ChangeSpec := { name := "methodsStrict", fn := fun _ => fun
  | [d1, d2, d3] => { results := [.lit (.bool false)], args := [d1, d2, d3] }
  | _ => none }
def MethodsStrictWrongFalsely : Prop := methodsStrictRow.holds Try.pinned (OpenSpec.ofChange methodsStrictWrong)

/-- 'skerrylaw10.MethodsPrefix': WHATEVER THE INPUT: true; the input reads as it did. -/
def methodsPrefixSpec : ChangeSpec := { name := "methodsPrefix", fn := fun _ => fun
  | [d1, d2, d3] => { results := [.lit (.bool true)], args := [d1, d2, d3] }
  | _ => none }
def methodsPrefixRow : OpenClaim := { program := "ytepnmejahbiacaa", sum := "1f7fb9e54a41e812f62fcbfa6f05609b5d6393bd481a5cf5814ad25668981d2e", func := "skerry/skerrylaw10.MethodsPrefix", spec := "methodsPrefix", unfollowed := true, recurses := true, loops := true, apart := false }
def MethodsPrefixSaid : Prop := methodsPrefixRow.holds Try.pinned (OpenSpec.ofChange methodsPrefixSpec)

/-- ITS FALSE NEIGHBOUR: 'it returns false'. Refute it at one input. -/
def methodsPrefixWrong : ChangeSpec := { name := "methodsPrefix", fn := fun _ => fun
  | [d1, d2, d3] => { results := [.lit (.bool false)], args := [d1, d2, d3] }
  | _ => none }
def MethodsPrefixWrongFalsely : Prop := methodsPrefixRow.holds Try.pinned (OpenSpec.ofChange methodsPrefixWrong)

/-- 'skerrylaw10.MethodsBelow': WHATEVER THE INPUT: true; the input reads as it did. -/
def methodsBelowSpec : ChangeSpec := { name := "methodsBelow", fn := fun _ => fun
  | [d1, d2, d3] => { results := [.lit (.bool true)], args := [d1, d2, d3] }
  | _ => none }
def methodsBelowRow : OpenClaim := { program := "ytepnmejahbiacaa", sum := "1f7fb9e54a41e812f62fcbfa6f05609b5d6393bd481a5cf5814ad25668981d2e", func := "skerry/skerrylaw10.MethodsBelow", spec := "methodsBelow", unfollowed := true, recurses := true, loops := true, apart := false }
def MethodsBelowSaid : Prop := methodsBelowRow.holds Try.pinned (OpenSpec.ofChange methodsBelowSpec)

/-- ITS FALSE NEIGHBOUR: 'it returns false'. Refute it at one input. -/
def methodsBelowWrong : ChangeSpec := { name := "methodsBelow", fn := fun _ => fun
  | [d1, d2, d3] => { results := [.lit (.bool false)], args := [d1, d2, d3] }
  | _ => none }
def MethodsBelowWrongFalsely : Prop := methodsBelowRow.holds Try.pinned (OpenSpec.ofChange methodsBelowWrong)

/- THE SECOND FORM. 'bulk': how many values and letters a reading holds, each counted each time it is reached (what is shared counts as often as it is met; a slice's spare places count too). A statement '..UptoSaid' is the law's where the arguments, and the package variables that the reading takes, are together of bulk at most 1048576: NARROWER than '..Said'. Prove '..Said' where nothing that the law and all that it calls make is longer than what came in: it says more and counts as full. Else prove '..UptoSaid'. A law counts once. -/
mutual
def uptoBulk {H : Type} : DataW H → Nat
  | .lit (.string bytes) => bytes.length + 1
  | .lit _ => 1
  | .nil => 1
  | .ptr d => uptoBulk d + 1
  | .slice elems spare => uptoBulkAll elems + uptoBulkAll spare + 1
  | .agg parts => uptoBulkAll parts + 1
  | .iface _ d => uptoBulk d + 1
  | .map entries => uptoBulkEntries entries + 1
  | .held _ => 1
def uptoBulkAll {H : Type} : List (DataW H) → Nat
  | [] => 0
  | d :: r => uptoBulk d + uptoBulkAll r
def uptoBulkEntries {H : Type} : List (Lit × DataW H) → Nat
  | [] => 0
  | x :: r => uptoBulkEntry x + uptoBulkEntries r
def uptoBulkEntry {H : Type} : Lit × DataW H → Nat
  | (.string bytes, d) => bytes.length + uptoBulk d + 1
  | (_, d) => uptoBulk d + 1
 end
def uptoSmall : (H : Type) → List (DataW H) → Bool := fun _ ds => decide (uptoBulkAll ds ≤ 1048576)
def OpenSpec.upto (s : _root_.Go.ChangeSpec) : _root_.Go.OpenSpec := { _root_.Go.OpenSpec.ofChange s with cond := some uptoSmall }

/-- 'skerrylaw10.MethodsSingle', WHERE WHAT IT READS IS OF BULK AT MOST 1048576: true; the input reads as it did. -/
def methodsSingleUptoRow : OpenClaim := { program := "ytepnmejahbiacaa", sum := "1f7fb9e54a41e812f62fcbfa6f05609b5d6393bd481a5cf5814ad25668981d2e", func := "skerry/skerrylaw10.MethodsSingle", spec := "methodsSingle", unfollowed := true, recurses := true, apart := false, narrowed := true }
def MethodsSingleUptoSaid : Prop := methodsSingleUptoRow.holds Try.pinned (OpenSpec.upto methodsSingleSpec)

/-- 'skerrylaw10.MethodsGrow', WHERE WHAT IT READS IS OF BULK AT MOST 1048576: true; the input reads as it did. -/
def methodsGrowUptoRow : OpenClaim := { program := "ytepnmejahbiacaa", sum := "1f7fb9e54a41e812f62fcbfa6f05609b5d6393bd481a5cf5814ad25668981d2e", func := "skerry/skerrylaw10.MethodsGrow", spec := "methodsGrow", unfollowed := true, recurses := true, loops := true, apart := false, narrowed := true }
def MethodsGrowUptoSaid : Prop := methodsGrowUptoRow.holds Try.pinned (OpenSpec.upto methodsGrowSpec)

/-- 'skerrylaw10.MethodsAny', WHERE WHAT IT READS IS OF BULK AT MOST 1048576: true; the input reads as it did. -/
def methodsAnyUptoRow : OpenClaim := { program := "ytepnmejahbiacaa", sum := "1f7fb9e54a41e812f62fcbfa6f05609b5d6393bd481a5cf5814ad25668981d2e", func := "skerry/skerrylaw10.MethodsAny", spec := "methodsAny", unfollowed := true, recurses := true, loops := true, apart := false, narrowed := true }
def MethodsAnyUptoSaid : Prop := methodsAnyUptoRow.holds Try.pinned (OpenSpec.upto methodsAnySpec)

/-- 'skerrylaw10.MethodsStrict', WHERE WHAT IT READS IS OF BULK AT MOST 1048576: true; the input reads as it did. -/
def methodsStrictUptoRow : OpenClaim := { program := "ytepnmejahbiacaa", sum := "1f7fb9e54a41e812f62fcbfa6f05609b5d6393bd481a5cf5814ad25668981d2e", func := "skerry/skerrylaw10.MethodsStrict", spec := "methodsStrict", unfollowed := true, recurses := true, loops := true, apart := false, narrowed := true }
def MethodsStrictUptoSaid : Prop := methodsStrictUptoRow.holds Try.pinned (OpenSpec.upto methodsStrictSpec)

/-- 'skerrylaw10.MethodsPrefix', WHERE WHAT IT READS IS OF BULK AT MOST 1048576: true; the input reads as it did. -/
def methodsPrefixUptoRow : OpenClaim := { program := "ytepnmejahbiacaa", sum := "1f7fb9e54a41e812f62fcbfa6f05609b5d6393bd481a5cf5814ad25668981d2e", func := "skerry/skerrylaw10.MethodsPrefix", spec := "methodsPrefix", unfollowed := true, recurses := true, loops := true, apart := false, narrowed := true }
def MethodsPrefixUptoSaid : Prop := methodsPrefixUptoRow.holds Try.pinned (OpenSpec.upto methodsPrefixSpec)

/-- 'skerrylaw10.MethodsBelow', WHERE WHAT IT READS IS OF BULK AT MOST 1048576: true; the input reads as it did. -/
def methodsBelowUptoRow : OpenClaim := { program := "ytepnmejahbiacaa", sum := "1f7fb9e54a41e812f62fcbfa6f05609b5d6393bd481a5cf5814ad25668981d2e", func := "skerry/skerrylaw10.MethodsBelow", spec := "methodsBelow", unfollowed := true, recurses := true, loops := true, apart := false, narrowed := true }
def MethodsBelowUptoSaid : Prop := methodsBelowUptoRow.holds Try.pinned (OpenSpec.upto methodsBelowSpec)

end Rows
end Go.Proofs.Ytepnmejahbiacaa
