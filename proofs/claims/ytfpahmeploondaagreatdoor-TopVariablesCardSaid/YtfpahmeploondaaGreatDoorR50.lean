/- Walks and plain facts for the law on type variables, for all values and types that the heap holds (texts Gd). -/
import Derived.Test.YtfpahmeploondaaGreatDoorR03
import Derived.Test.YtfpahmeploondaaGreatDoorR47
set_option linter.unusedVariables false
set_option linter.unusedSimpArgs false
set_option maxHeartbeats 64000000
namespace Go.Ev
open Go.Proofs
set_option maxRecDepth 1000000
theorem DG:me9.ran [1029,1131,1174,1223,1278,1294] (dN Tryz.prog (iN mes9 (ji 100000 200)) 100000 200 me9.f me9.args me9.heap)=true:=by kernel_rfl
end Go.Ev
