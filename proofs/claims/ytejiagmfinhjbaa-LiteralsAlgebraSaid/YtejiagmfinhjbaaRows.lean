/-
  No cell of these rows narrows 'for every input' (looked for: loops, veiled, ifaces, maps, wideKeys, modest, calm, conditions, laid).
  DERIVED. THE GIVEN ROWS OF THIS SEAT. 5 by the template 'for every input the law returns true; each argument reads behind the call as it read before'; 0 by the template 'total and deterministic' (their statements: YtejiagmfinhjbaaTotals.lean).
  GIVEN WITH THE SEED: the statements are not yours to turn. If you find one false, say at which input.
  Laid BY PROGRAM, IN A SANDBOX (cutbox-rows.mjs): the forced cells as the released guide's own fill.sh prints them over the translation dd1da611d8f0e248… (all of the seat's roots in one cut). By AI agents, Wed Nov 11 2026. No macro, syntax, notation, axiom, sorry.
-/
import Derived.Test.YtejiagmfinhjbaaChecked
import GoSem.Claim
import GoSem.ClaimJoined
import GoSem.ClaimMapViews
import Derived.JoinedTies
import Derived.KernelRfl
namespace Go.Proofs.Ytejiagmfinhjbaa
/- THE CELL 'sum', in the pinned program and in every row, IS THE sha256 OF THE DUMP (.gsa) THAT YtejiagmfinhjbaaProg.lean LOADS. Nothing in Lean hashes anything: it is a label: what it is worth is what the hold of that sum in a sandbox is worth. -/
noncomputable def Try.pinned : Pinned := { name := "ytejiagmfinhjbaa", sum := "dd1da611d8f0e248fe567aecc892ff29df4c78d8075d14802c65c42f2797a069", checked := Try.checked }
namespace Rows
def none {H : Type} : Left H := { results := [], args := [] }

/-- 'semtypelaw3.LiteralsAlgebra': WHATEVER THE INPUT: true; the input reads as it did. -/
def literalsAlgebraSpec : ChangeSpec := { name := "literalsAlgebra", fn := fun _ => fun
  | [d1, d2, d3, d4] => { results := [.lit (.bool true)], args := [d1, d2, d3, d4] }
  | _ => none }
def literalsAlgebraRow : OpenClaim := { program := "ytejiagmfinhjbaa", sum := "dd1da611d8f0e248fe567aecc892ff29df4c78d8075d14802c65c42f2797a069", func := "semtype/semtypelaw3.LiteralsAlgebra", spec := "literalsAlgebra", inPlace := ["internal/bytealg.abigen_runtime_cmpstring"], unfollowed := true, recurses := true, apart := false }
def LiteralsAlgebraSaid : Prop := literalsAlgebraRow.holds Try.pinned (OpenSpec.ofChange literalsAlgebraSpec)

/-- ITS FALSE NEIGHBOUR: 'it returns false'. Refute it at one input. -/
def literalsAlgebraWrong : ChangeSpec := { name := "literalsAlgebra", fn := fun _ => fun
  | [d1, d2, d3, d4] => { results := [.lit (.bool false)], args := [d1, d2, d3, d4] }
  | _ => none }
def LiteralsAlgebraWrongFalsely : Prop := literalsAlgebraRow.holds Try.pinned (OpenSpec.ofChange literalsAlgebraWrong)

/-- 'semtypelaw3.LiteralsFirst': WHATEVER THE INPUT: true; the input reads as it did. -/
def literalsFirstSpec : ChangeSpec := { name := "literalsFirst", fn := fun _ => fun
  | [d1, d2, d3] => { results := [.lit (.bool true)], args := [d1, d2, d3] }
  | _ => none }
def literalsFirstRow : OpenClaim := { program := "ytejiagmfinhjbaa", sum := "dd1da611d8f0e248fe567aecc892ff29df4c78d8075d14802c65c42f2797a069", func := "semtype/semtypelaw3.LiteralsFirst", spec := "literalsFirst", inPlace := ["internal/bytealg.abigen_runtime_cmpstring"], unfollowed := true, recurses := true, apart := false }
def LiteralsFirstSaid : Prop := literalsFirstRow.holds Try.pinned (OpenSpec.ofChange literalsFirstSpec)

/-- ITS FALSE NEIGHBOUR: 'it returns false'. Refute it at one input. -/
def literalsFirstWrong : ChangeSpec := { name := "literalsFirst", fn := fun _ => fun
  | [d1, d2, d3] => { results := [.lit (.bool false)], args := [d1, d2, d3] }
  | _ => none }
def LiteralsFirstWrongFalsely : Prop := literalsFirstRow.holds Try.pinned (OpenSpec.ofChange literalsFirstWrong)

/-- 'semtypelaw3.LiteralsSubsets': WHATEVER THE INPUT: true; the input reads as it did. -/
def literalsSubsetsSpec : ChangeSpec := { name := "literalsSubsets", fn := fun _ => fun
  | [d1, d2, d3] => { results := [.lit (.bool true)], args := [d1, d2, d3] }
  | _ => none }
def literalsSubsetsRow : OpenClaim := { program := "ytejiagmfinhjbaa", sum := "dd1da611d8f0e248fe567aecc892ff29df4c78d8075d14802c65c42f2797a069", func := "semtype/semtypelaw3.LiteralsSubsets", spec := "literalsSubsets", inPlace := ["internal/bytealg.abigen_runtime_cmpstring"], unfollowed := true, recurses := true, apart := false }
def LiteralsSubsetsSaid : Prop := literalsSubsetsRow.holds Try.pinned (OpenSpec.ofChange literalsSubsetsSpec)

/-- ITS FALSE NEIGHBOUR: 'it returns false'. Refute it at one input. -/
def literalsSubsetsWrong : ChangeSpec := { name := "literalsSubsets", fn := fun _ => fun
  | [d1, d2, d3] => { results := [.lit (.bool false)], args := [d1, d2, d3] }
  | _ => none }
def LiteralsSubsetsWrongFalsely : Prop := literalsSubsetsRow.holds Try.pinned (OpenSpec.ofChange literalsSubsetsWrong)

/-- 'semtypelaw3.LiteralsMake': WHATEVER THE INPUT: true; the input reads as it did. -/
def literalsMakeSpec : ChangeSpec := { name := "literalsMake", fn := fun _ => fun
  | [d1, d2, d3] => { results := [.lit (.bool true)], args := [d1, d2, d3] }
  | _ => none }
def literalsMakeRow : OpenClaim := { program := "ytejiagmfinhjbaa", sum := "dd1da611d8f0e248fe567aecc892ff29df4c78d8075d14802c65c42f2797a069", func := "semtype/semtypelaw3.LiteralsMake", spec := "literalsMake", inPlace := ["internal/bytealg.abigen_runtime_cmpstring"], unfollowed := true, recurses := true, apart := false }
def LiteralsMakeSaid : Prop := literalsMakeRow.holds Try.pinned (OpenSpec.ofChange literalsMakeSpec)

/-- ITS FALSE NEIGHBOUR: 'it returns false'. Refute it at one input. -/
def literalsMakeWrong : ChangeSpec := { name := "literalsMake", fn := fun _ => fun
  | [d1, d2, d3] => { results := [.lit (.bool false)], args := [d1, d2, d3] }
  | _ => none }
def LiteralsMakeWrongFalsely : Prop := literalsMakeRow.holds Try.pinned (OpenSpec.ofChange literalsMakeWrong)

/-- 'semtypelaw3.LiteralsSets': WHATEVER THE INPUT: true; the input reads as it did. -/
def literalsSetsSpec : ChangeSpec := { name := "literalsSets", fn := fun _ => fun
  | [d1, d2, d3] => { results := [.lit (.bool true)], args := [d1, d2, d3] }
  | _ => none }
def literalsSetsRow : OpenClaim := { program := "ytejiagmfinhjbaa", sum := "dd1da611d8f0e248fe567aecc892ff29df4c78d8075d14802c65c42f2797a069", func := "semtype/semtypelaw3.LiteralsSets", spec := "literalsSets", inPlace := ["internal/bytealg.abigen_runtime_cmpstring"], unfollowed := true, recurses := true, apart := false }
def LiteralsSetsSaid : Prop := literalsSetsRow.holds Try.pinned (OpenSpec.ofChange literalsSetsSpec)

/-- ITS FALSE NEIGHBOUR: 'it returns false'. Refute it at one input. -/
def literalsSetsWrong : ChangeSpec := { name := "literalsSets", fn := fun _ => fun
  | [d1, d2, d3] => { results := [.lit (.bool false)], args := [d1, d2, d3] }
  | _ => none }
def LiteralsSetsWrongFalsely : Prop := literalsSetsRow.holds Try.pinned (OpenSpec.ofChange literalsSetsWrong)

/- THE SECOND FORM. 'bulk': how many values and letters a reading holds, each counted each time it is reached (what is shared counts as often as it is met; a slice's spare places count too). A statement '..UptoSaid' is the law's where the arguments, and the package variables that the reading takes, are together of bulk at most 1048576: NARROWER than '..Said'. Prove '..Said' where nothing that the law and all that it calls make is longer than what came in: it says more and counts as full. Else prove '..UptoSaid'. A law counts once. -/
mutual
def uptoBulk {H : Type} : DataW H → Nat
  | .lit (.string bytes) => bytes.length + 1
  | .lit _ => 1
  | .nil => 1
  | .ptr d => uptoBulk d + 1
  | .slice elems spare => uptoBulkAll elems + uptoBulkAll spare + 1
  | .agg parts => uptoBulkAll parts + 1
  | .iface _ d => uptoBulk d + 1
  | .map entries => uptoBulkEntries entries + 1
  | .held _ => 1
def uptoBulkAll {H : Type} : List (DataW H) → Nat
  | [] => 0
  | d :: r => uptoBulk d + uptoBulkAll r
def uptoBulkEntries {H : Type} : List (Lit × DataW H) → Nat
  | [] => 0
  | x :: r => uptoBulkEntry x + uptoBulkEntries r
def uptoBulkEntry {H : Type} : Lit × DataW H → Nat
  | (.string bytes, d) => bytes.length + uptoBulk d + 1
  | (_, d) => uptoBulk d + 1
 end
def uptoSmall : (H : Type) → List (DataW H) → Bool := fun _ ds => decide (uptoBulkAll ds ≤ 1048576)
def OpenSpec.upto (s : _root_.Go.ChangeSpec) : _root_.Go.OpenSpec := { _root_.Go.OpenSpec.ofChange s with cond := some uptoSmall }

/-- 'semtypelaw3.LiteralsAlgebra', WHERE WHAT IT READS IS OF BULK AT MOST 1048576: true; the input reads as it did. -/
def literalsAlgebraUptoRow : OpenClaim := { program := "ytejiagmfinhjbaa", sum := "dd1da611d8f0e248fe567aecc892ff29df4c78d8075d14802c65c42f2797a069", func := "semtype/semtypelaw3.LiteralsAlgebra", spec := "literalsAlgebra", inPlace := ["internal/bytealg.abigen_runtime_cmpstring"], unfollowed := true, recurses := true, apart := false, narrowed := true }
def LiteralsAlgebraUptoSaid : Prop := literalsAlgebraUptoRow.holds Try.pinned (OpenSpec.upto literalsAlgebraSpec)

/-- 'semtypelaw3.LiteralsFirst', WHERE WHAT IT READS IS OF BULK AT MOST 1048576: true; the input reads as it did. -/
def literalsFirstUptoRow : OpenClaim := { program := "ytejiagmfinhjbaa", sum := "dd1da611d8f0e248fe567aecc892ff29df4c78d8075d14802c65c42f2797a069", func := "semtype/semtypelaw3.LiteralsFirst", spec := "literalsFirst", inPlace := ["internal/bytealg.abigen_runtime_cmpstring"], unfollowed := true, recurses := true, apart := false, narrowed := true }
def LiteralsFirstUptoSaid : Prop := literalsFirstUptoRow.holds Try.pinned (OpenSpec.upto literalsFirstSpec)

/-- 'semtypelaw3.LiteralsSubsets', WHERE WHAT IT READS IS OF BULK AT MOST 1048576: true; the input reads as it did. -/
def literalsSubsetsUptoRow : OpenClaim := { program := "ytejiagmfinhjbaa", sum := "dd1da611d8f0e248fe567aecc892ff29df4c78d8075d14802c65c42f2797a069", func := "semtype/semtypelaw3.LiteralsSubsets", spec := "literalsSubsets", inPlace := ["internal/bytealg.abigen_runtime_cmpstring"], unfollowed := true, recurses := true, apart := false, narrowed := true }
def LiteralsSubsetsUptoSaid : Prop := literalsSubsetsUptoRow.holds Try.pinned (OpenSpec.upto literalsSubsetsSpec)

/-- 'semtypelaw3.LiteralsMake', WHERE WHAT IT READS IS OF BULK AT MOST 1048576: true; the input reads as it did. -/
def literalsMakeUptoRow : OpenClaim := { program := "ytejiagmfinhjbaa", sum := "dd1da611d8f0e248fe567aecc892ff29df4c78d8075d14802c65c42f2797a069", func := "semtype/semtypelaw3.LiteralsMake", spec := "literalsMake", inPlace := ["internal/bytealg.abigen_runtime_cmpstring"], unfollowed := true, recurses := true, apart := false, narrowed := true }
def LiteralsMakeUptoSaid : Prop := literalsMakeUptoRow.holds Try.pinned (OpenSpec.upto literalsMakeSpec)

/-- 'semtypelaw3.LiteralsSets', WHERE WHAT IT READS IS OF BULK AT MOST 1048576: true; the input reads as it did. -/
def literalsSetsUptoRow : OpenClaim := { program := "ytejiagmfinhjbaa", sum := "dd1da611d8f0e248fe567aecc892ff29df4c78d8075d14802c65c42f2797a069", func := "semtype/semtypelaw3.LiteralsSets", spec := "literalsSets", inPlace := ["internal/bytealg.abigen_runtime_cmpstring"], unfollowed := true, recurses := true, apart := false, narrowed := true }
def LiteralsSetsUptoSaid : Prop := literalsSetsUptoRow.holds Try.pinned (OpenSpec.upto literalsSetsSpec)

end Rows
end Go.Proofs.Ytejiagmfinhjbaa
