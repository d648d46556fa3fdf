/- Walks and plain facts for the law on type variables, for all values and types that the heap holds (texts Gb). -/
import Derived.Test.YtfpahmeploondaaGreatDoorR03
import Derived.Test.YtfpahmeploondaaGreatDoorR47
set_option linter.unusedVariables false
set_option linter.unusedSimpArgs false
set_option maxHeartbeats 64000000
namespace Go.Ev
open Go.Proofs
set_option maxRecDepth 1000000
theorem DE:me6.ran [836,844,863,865,976,1021,1029,1048,1050,1108,1163,1179] (dN Tryz.prog (iN mes6 (ji 100000 200)) 100000 200 me6.f me6.args me6.heap)=true:=by kernel_rfl
theorem Ca:me10.ran [1187,1289,1332,1381,1436,1452] (dN Tryz.prog (iN mes10 (ji 100000 200)) 100000 200 me10.f me10.args me10.heap)=true:=by kernel_rfl
end Go.Ev
