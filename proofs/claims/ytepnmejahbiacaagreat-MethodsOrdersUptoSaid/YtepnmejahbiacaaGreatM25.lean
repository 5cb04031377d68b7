/- Part 25 of the proof: Vf. -/
import Derived.Test.YtepnmejahbiacaaGreatM19
set_option linter.unusedVariables false
set_option linter.unusedSimpArgs false
set_option maxHeartbeats 64000000
set_option maxRecDepth 100000
namespace Go.Proofs.YtepnmejahbiacaaGreat
open Go.RowKit
theorem zv0(l:List CI)(ms:List Meth)(ts:List Tag):(za4 l ms ts).1.length≤ms.length:=by
 unfold za4;by_cases h:zaf l ms ts=0
 ·rw[if_pos h,List.length_map];exact(zks l ts ms).1
 ·rw[if_neg h];exact Qjz _
structure RestT where
 ids:List Int
 amb:Bool
 err:Int
end Go.Proofs.YtepnmejahbiacaaGreat
