/- Walks and plain facts for the law on type variables, for all values and types that the heap holds (texts Ge). -/
import Derived.Test.YtfpahmeploondaaGreatDoorR03
import Derived.Test.YtfpahmeploondaaGreatDoorR47
set_option linter.unusedVariables false
set_option linter.unusedSimpArgs false
set_option maxHeartbeats 64000000
namespace Go.Ev
open Go.Proofs
set_option maxRecDepth 1000000
theorem DH:me0.ran [] (dN Tryz.prog (iN mes0 (ji 100000 200)) 100000 200 me0.f me0.args me0.heap)=true:=by kernel_rfl
theorem DI:me1.ran [] (dN Tryz.prog (iN mes1 (ji 100000 200)) 100000 200 me1.f me1.args me1.heap)=true:=by kernel_rfl
theorem DJ:me2.ran [] (dN Tryz.prog (iN mes2 (ji 100000 200)) 100000 200 me2.f me2.args me2.heap)=true:=by kernel_rfl
theorem DK:me3.ran [] (dN Tryz.prog (iN mes3 (ji 100000 200)) 100000 200 me3.f me3.args me3.heap)=true:=by kernel_rfl
theorem DL:me4.ran [] (dN Tryz.prog (iN mes4 (ji 100000 200)) 100000 200 me4.f me4.args me4.heap)=true:=by kernel_rfl
theorem DO:me5.ran [] (dN Tryz.prog (iN mes5 (ji 100000 200)) 100000 200 me5.f me5.args me5.heap)=true:=by kernel_rfl
theorem DP:me8.ran [762,774] (dN Tryz.prog (iN mes8 (ji 100000 200)) 100000 200 me8.f me8.args me8.heap)=true:=by kernel_rfl
theorem Cc:me11.ran [1094,1106] (dN Tryz.prog (iN mes11 (ji 100000 200)) 100000 200 me11.f me11.args me11.heap)=true:=by kernel_rfl
theorem Cd:me13.ran [] (dN Tryz.prog (iN mes13 (ji 100000 200)) 100000 200 me13.f me13.args me13.heap)=true:=by kernel_rfl
end Go.Ev
