/- Walks and plain facts for the law on type variables, for all values and types that the heap holds (texts Pj). -/
import Derived.Test.YtfpahmeploondaaGreatDoorRows
import Derived.ProofKit
import Derived.OpenShut
import Derived.JoinedOf
import Derived.Test.YtfpahmeploondaaGreatDoorR03
set_option linter.unusedVariables false
set_option linter.unusedSimpArgs false
set_option maxHeartbeats 64000000
namespace Go.Proofs.YtfpahmeploondaaGreatDoor
theorem Fv {a b:Bool}(h:a=true)(k:b=true):(a&&b)=true:=by rw[h,k];rfl
set_option maxRecDepth 1000000 in
theorem vZ:joinedFacts Tryz.prog 3 Tryz.f3 Rows.topVariablesSpec Rows.topVariablesRow=true:=by
 unfold joinedFacts
 repeat' (with_reducible refine Fv ?_ ?_)
 all_goals as_aux_lemma=>kernel_rfl
end Go.Proofs.YtfpahmeploondaaGreatDoor
