/- Walks and plain facts for the law on type variables, for all values and types that the heap holds (texts Gc). -/
import Derived.Test.YtfpahmeploondaaGreatDoorR03
import Derived.Test.YtfpahmeploondaaGreatDoorR47
set_option linter.unusedVariables false
set_option linter.unusedSimpArgs false
set_option maxHeartbeats 64000000
namespace Go.Ev
open Go.Proofs
set_option maxRecDepth 1000000
theorem DF:me7.ran [825,927,970,1019,1074,1090] (dN Tryz.prog (iN mes7 (ji 100000 200)) 100000 200 me7.f me7.args me7.heap)=true:=by kernel_rfl
theorem Cb:me12.ran [1307,1409,1452,1501,1556,1572] (dN Tryz.prog (iN mes12 (ji 100000 200)) 100000 200 me12.f me12.args me12.heap)=true:=by kernel_rfl
end Go.Ev
