/-
  No cell of these rows narrows 'for every input' (looked for: loops, veiled, ifaces, maps, wideKeys, modest, calm, conditions, laid).
  DERIVED. THE GIVEN ROWS OF THIS SEAT. 6 by the template 'for every input the law returns true; each argument reads behind the call as it read before'; 0 by the template 'total and deterministic' (their statements: YtkppcibffbnhoaaTotals.lean).
  GIVEN WITH THE SEED: the statements are not yours to turn. If you find one false, say at which input.
  Laid BY PROGRAM, IN A SANDBOX (cutbox-rows.mjs): the forced cells as the released guide's own fill.sh prints them over the translation d8e8c289e8191003… (all of the seat's roots in one cut). By AI agents, Wed Nov 11 2026. No macro, syntax, notation, axiom, sorry.
-/
import Derived.Test.YtkppcibffbnhoaaChecked
import GoSem.Claim
import GoSem.ClaimJoined
import GoSem.ClaimMapViews
import Derived.JoinedTies
import Derived.KernelRfl
namespace Go.Proofs.Ytkppcibffbnhoaa
/- THE CELL 'sum', in the pinned program and in every row, IS THE sha256 OF THE DUMP (.gsa) THAT YtkppcibffbnhoaaProg.lean LOADS. Nothing in Lean hashes anything: it is a label: what it is worth is what the hold of that sum in a sandbox is worth. -/
noncomputable def Try.pinned : Pinned := { name := "ytkppcibffbnhoaa", sum := "d8e8c289e8191003fa6af3a2f5f057b0642d457b42f09e444f40f6e31a7b5ace", checked := Try.checked }
namespace Rows
def none {H : Type} : Left H := { results := [], args := [] }

/-- 'semtypelaw6.DiagramValid': WHATEVER THE INPUT: true; the input reads as it did. -/
def diagramValidSpec : ChangeSpec := { name := "diagramValid", fn := fun _ => fun
  | [d1, d2, d3, d4] => { results := [.lit (.bool true)], args := [d1, d2, d3, d4] }
  | _ => none }
def diagramValidRow : OpenClaim := { program := "ytkppcibffbnhoaa", sum := "d8e8c289e8191003fa6af3a2f5f057b0642d457b42f09e444f40f6e31a7b5ace", func := "semtype/semtypelaw6.DiagramValid", spec := "diagramValid", unfollowed := true, recurses := true, plainKeys := false, apart := false }
def DiagramValidSaid : Prop := diagramValidRow.holds Try.pinned (OpenSpec.ofChange diagramValidSpec)

/-- ITS FALSE NEIGHBOUR: 'it returns false'. Refute it at one input. -/
def diagramValidWrong : ChangeSpec := { name := "diagramValid", fn := fun _ => fun
  | [d1, d2, d3, d4] => { results := [.lit (.bool false)], args := [d1, d2, d3, d4] }
  | _ => none }
def DiagramValidWrongFalsely : Prop := diagramValidRow.holds Try.pinned (OpenSpec.ofChange diagramValidWrong)

/-- 'semtypelaw6.DiagramCanonical': WHATEVER THE INPUT: true; the input reads as it did. -/
def diagramCanonicalSpec : ChangeSpec := { name := "diagramCanonical", fn := fun _ => fun
  | [d1, d2, d3] => { results := [.lit (.bool true)], args := [d1, d2, d3] }
  | _ => none }
def diagramCanonicalRow : OpenClaim := { program := "ytkppcibffbnhoaa", sum := "d8e8c289e8191003fa6af3a2f5f057b0642d457b42f09e444f40f6e31a7b5ace", func := "semtype/semtypelaw6.DiagramCanonical", spec := "diagramCanonical", unfollowed := true, recurses := true, plainKeys := false, apart := false }
def DiagramCanonicalSaid : Prop := diagramCanonicalRow.holds Try.pinned (OpenSpec.ofChange diagramCanonicalSpec)

/-- ITS FALSE NEIGHBOUR: 'it returns false'. Refute it at one input. -/
def diagramCanonicalWrong : ChangeSpec := { name := "diagramCanonical", fn := fun _ => fun
  | [d1, d2, d3] => { results := [.lit (.bool false)], args := [d1, d2, d3] }
  | _ => none }
def DiagramCanonicalWrongFalsely : Prop := diagramCanonicalRow.holds Try.pinned (OpenSpec.ofChange diagramCanonicalWrong)

/-- 'semtypelaw6.DiagramOperations': WHATEVER THE INPUT: true; the input reads as it did. -/
def diagramOperationsSpec : ChangeSpec := { name := "diagramOperations", fn := fun _ => fun
  | [d1, d2, d3] => { results := [.lit (.bool true)], args := [d1, d2, d3] }
  | _ => none }
def diagramOperationsRow : OpenClaim := { program := "ytkppcibffbnhoaa", sum := "d8e8c289e8191003fa6af3a2f5f057b0642d457b42f09e444f40f6e31a7b5ace", func := "semtype/semtypelaw6.DiagramOperations", spec := "diagramOperations", unfollowed := true, recurses := true, plainKeys := false, apart := false }
def DiagramOperationsSaid : Prop := diagramOperationsRow.holds Try.pinned (OpenSpec.ofChange diagramOperationsSpec)

/-- ITS FALSE NEIGHBOUR: 'it returns false'. Refute it at one input. -/
def diagramOperationsWrong : ChangeSpec := { name := "diagramOperations", fn := fun _ => fun
  | [d1, d2, d3] => { results := [.lit (.bool false)], args := [d1, d2, d3] }
  | _ => none }
def DiagramOperationsWrongFalsely : Prop := diagramOperationsRow.holds Try.pinned (OpenSpec.ofChange diagramOperationsWrong)

/-- 'semtypelaw6.DiagramWays': WHATEVER THE INPUT: true; the input reads as it did. -/
def diagramWaysSpec : ChangeSpec := { name := "diagramWays", fn := fun _ => fun
  | [d1, d2] => { results := [.lit (.bool true)], args := [d1, d2] }
  | _ => none }
def diagramWaysRow : OpenClaim := { program := "ytkppcibffbnhoaa", sum := "d8e8c289e8191003fa6af3a2f5f057b0642d457b42f09e444f40f6e31a7b5ace", func := "semtype/semtypelaw6.DiagramWays", spec := "diagramWays", unfollowed := true, recurses := true, plainKeys := false, apart := false }
def DiagramWaysSaid : Prop := diagramWaysRow.holds Try.pinned (OpenSpec.ofChange diagramWaysSpec)

/-- ITS FALSE NEIGHBOUR: 'it returns false'. Refute it at one input. -/
def diagramWaysWrong : ChangeSpec := { name := "diagramWays", fn := fun _ => fun
  | [d1, d2] => { results := [.lit (.bool false)], args := [d1, d2] }
  | _ => none }
def DiagramWaysWrongFalsely : Prop := diagramWaysRow.holds Try.pinned (OpenSpec.ofChange diagramWaysWrong)

/-- 'semtypelaw6.DiagramPaths': WHATEVER THE INPUT: true; the input reads as it did. -/
def diagramPathsSpec : ChangeSpec := { name := "diagramPaths", fn := fun _ => fun
  | [d] => { results := [.lit (.bool true)], args := [d] }
  | _ => none }
def diagramPathsRow : OpenClaim := { program := "ytkppcibffbnhoaa", sum := "d8e8c289e8191003fa6af3a2f5f057b0642d457b42f09e444f40f6e31a7b5ace", func := "semtype/semtypelaw6.DiagramPaths", spec := "diagramPaths", unfollowed := true, recurses := true, plainKeys := false, apart := false }
def DiagramPathsSaid : Prop := diagramPathsRow.holds Try.pinned (OpenSpec.ofChange diagramPathsSpec)

/-- ITS FALSE NEIGHBOUR: 'it returns false'. Refute it at one input. -/
def diagramPathsWrong : ChangeSpec := { name := "diagramPaths", fn := fun _ => fun
  | [d] => { results := [.lit (.bool false)], args := [d] }
  | _ => none }
def DiagramPathsWrongFalsely : Prop := diagramPathsRow.holds Try.pinned (OpenSpec.ofChange diagramPathsWrong)

/-- 'semtypelaw6.DiagramRestricts': WHATEVER THE INPUT: true; the input reads as it did. -/
def diagramRestrictsSpec : ChangeSpec := { name := "diagramRestricts", fn := fun _ => fun
  | [d1, d2] => { results := [.lit (.bool true)], args := [d1, d2] }
  | _ => none }
def diagramRestrictsRow : OpenClaim := { program := "ytkppcibffbnhoaa", sum := "d8e8c289e8191003fa6af3a2f5f057b0642d457b42f09e444f40f6e31a7b5ace", func := "semtype/semtypelaw6.DiagramRestricts", spec := "diagramRestricts", unfollowed := true, recurses := true, plainKeys := false, apart := false }
def DiagramRestrictsSaid : Prop := diagramRestrictsRow.holds Try.pinned (OpenSpec.ofChange diagramRestrictsSpec)

/-- ITS FALSE NEIGHBOUR: 'it returns false'. Refute it at one input. -/
def diagramRestrictsWrong : ChangeSpec := { name := "diagramRestricts", fn := fun _ => fun
  | [d1, d2] => { results := [.lit (.bool false)], args := [d1, d2] }
  | _ => none }
def DiagramRestrictsWrongFalsely : Prop := diagramRestrictsRow.holds Try.pinned (OpenSpec.ofChange diagramRestrictsWrong)

/- THE SECOND FORM. 'bulk': how many values and letters a reading holds, each counted each time it is reached (what is shared counts as often as it is met; a slice's spare places count too). A statement '..UptoSaid' is the law's where the arguments, and the package variables that the reading takes, are together of bulk at most 1048576: NARROWER than '..Said'. Prove '..Said' where nothing that the law and all that it calls make is longer than what came in: it says more and counts as full. Else prove '..UptoSaid'. A law counts once. -/
mutual
def uptoBulk {H : Type} : DataW H → Nat
  | .lit (.string bytes) => bytes.length + 1
  | .lit _ => 1
  | .nil => 1
  | .ptr d => uptoBulk d + 1
  | .slice elems spare => uptoBulkAll elems + uptoBulkAll spare + 1
  | .agg parts => uptoBulkAll parts + 1
  | .iface _ d => uptoBulk d + 1
  | .map entries => uptoBulkEntries entries + 1
  | .held _ => 1
def uptoBulkAll {H : Type} : List (DataW H) → Nat
  | [] => 0
  | d :: r => uptoBulk d + uptoBulkAll r
def uptoBulkEntries {H : Type} : List (Lit × DataW H) → Nat
  | [] => 0
  | x :: r => uptoBulkEntry x + uptoBulkEntries r
def uptoBulkEntry {H : Type} : Lit × DataW H → Nat
  | (.string bytes, d) => bytes.length + uptoBulk d + 1
  | (_, d) => uptoBulk d + 1
 end
def uptoSmall : (H : Type) → List (DataW H) → Bool := fun _ ds => decide (uptoBulkAll ds ≤ 1048576)
def OpenSpec.upto (s : _root_.Go.ChangeSpec) : _root_.Go.OpenSpec := { _root_.Go.OpenSpec.ofChange s with cond := some uptoSmall }

/-- 'semtypelaw6.DiagramValid', WHERE WHAT IT READS IS OF BULK AT MOST 1048576: true; the input reads as it did. -/
def diagramValidUptoRow : OpenClaim := { program := "ytkppcibffbnhoaa", sum := "d8e8c289e8191003fa6af3a2f5f057b0642d457b42f09e444f40f6e31a7b5ace", func := "semtype/semtypelaw6.DiagramValid", spec := "diagramValid", unfollowed := true, recurses := true, plainKeys := false, apart := false, narrowed := true }
def DiagramValidUptoSaid : Prop := diagramValidUptoRow.holds Try.pinned (OpenSpec.upto diagramValidSpec)

/-- 'semtypelaw6.DiagramCanonical', WHERE WHAT IT READS IS OF BULK AT MOST 1048576: true; the input reads as it did. -/
def diagramCanonicalUptoRow : OpenClaim := { program := "ytkppcibffbnhoaa", sum := "d8e8c289e8191003fa6af3a2f5f057b0642d457b42f09e444f40f6e31a7b5ace", func := "semtype/semtypelaw6.DiagramCanonical", spec := "diagramCanonical", unfollowed := true, recurses := true, plainKeys := false, apart := false, narrowed := true }
def DiagramCanonicalUptoSaid : Prop := diagramCanonicalUptoRow.holds Try.pinned (OpenSpec.upto diagramCanonicalSpec)

/-- 'semtypelaw6.DiagramOperations', WHERE WHAT IT READS IS OF BULK AT MOST 1048576: true; the input reads as it did. -/
def diagramOperationsUptoRow : OpenClaim := { program := "ytkppcibffbnhoaa", sum := "d8e8c289e8191003fa6af3a2f5f057b0642d457b42f09e444f40f6e31a7b5ace", func := "semtype/semtypelaw6.DiagramOperations", spec := "diagramOperations", unfollowed := true, recurses := true, plainKeys := false, apart := false, narrowed := true }
def DiagramOperationsUptoSaid : Prop := diagramOperationsUptoRow.holds Try.pinned (OpenSpec.upto diagramOperationsSpec)

/-- 'semtypelaw6.DiagramWays', WHERE WHAT IT READS IS OF BULK AT MOST 1048576: true; the input reads as it did. -/
def diagramWaysUptoRow : OpenClaim := { program := "ytkppcibffbnhoaa", sum := "d8e8c289e8191003fa6af3a2f5f057b0642d457b42f09e444f40f6e31a7b5ace", func := "semtype/semtypelaw6.DiagramWays", spec := "diagramWays", unfollowed := true, recurses := true, plainKeys := false, apart := false, narrowed := true }
def DiagramWaysUptoSaid : Prop := diagramWaysUptoRow.holds Try.pinned (OpenSpec.upto diagramWaysSpec)

/-- 'semtypelaw6.DiagramPaths', WHERE WHAT IT READS IS OF BULK AT MOST 1048576: true; the input reads as it did. -/
def diagramPathsUptoRow : OpenClaim := { program := "ytkppcibffbnhoaa", sum := "d8e8c289e8191003fa6af3a2f5f057b0642d457b42f09e444f40f6e31a7b5ace", func := "semtype/semtypelaw6.DiagramPaths", spec := "diagramPaths", unfollowed := true, recurses := true, plainKeys := false, apart := false, narrowed := true }
def DiagramPathsUptoSaid : Prop := diagramPathsUptoRow.holds Try.pinned (OpenSpec.upto diagramPathsSpec)

/-- 'semtypelaw6.DiagramRestricts', WHERE WHAT IT READS IS OF BULK AT MOST 1048576: true; the input reads as it did. -/
def diagramRestrictsUptoRow : OpenClaim := { program := "ytkppcibffbnhoaa", sum := "d8e8c289e8191003fa6af3a2f5f057b0642d457b42f09e444f40f6e31a7b5ace", func := "semtype/semtypelaw6.DiagramRestricts", spec := "diagramRestricts", unfollowed := true, recurses := true, plainKeys := false, apart := false, narrowed := true }
def DiagramRestrictsUptoSaid : Prop := diagramRestrictsUptoRow.holds Try.pinned (OpenSpec.upto diagramRestrictsSpec)

end Rows
end Go.Proofs.Ytkppcibffbnhoaa
