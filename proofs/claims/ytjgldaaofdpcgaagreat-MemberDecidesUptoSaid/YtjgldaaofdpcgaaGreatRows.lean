/-
  NARROWER THAN 'FOR EVERY INPUT', by the rows' own cells (each row's printed sentence says how): MemberDecides: loops.
  DERIVED. THE GIVEN ROWS OF THIS SEAT. 5 by the template 'for every input the law returns true; each argument reads behind the call as it read before'; 0 by the template 'total and deterministic' (their statements: YtjgldaaofdpcgaaGreatTotals.lean).
  GIVEN WITH THE SEED: the statements are not yours to turn. If you find one false, say at which input.
  Laid BY PROGRAM, IN A SANDBOX (cutbox-rows.mjs): the forced cells as the released guide's own fill.sh prints them over the translation 3782a9267b12c94c… (all of the seat's roots in one cut). By AI agents, Wed Nov 11 2026. No macro, syntax, notation, axiom, sorry.
-/
import Derived.Test.YtjgldaaofdpcgaaGreatChecked
import GoSem.Claim
import GoSem.ClaimJoined
import GoSem.ClaimMapViews
import Derived.JoinedTies
import Derived.KernelRfl
namespace Go.Proofs.YtjgldaaofdpcgaaGreat
/- THE CELL 'sum', in the pinned program and in every row, IS THE sha256 OF THE DUMP (.gsa) THAT YtjgldaaofdpcgaaGreatProg.lean LOADS. Nothing in Lean hashes anything: it is a label: what it is worth is what the hold of that sum in a sandbox is worth. -/
noncomputable def Tryz.pinned : Pinned := { name := "ytjgldaaofdpcgaagreat", sum := "3782a9267b12c94c437fa47c9a03045e7ad7fe64dcf9711351ba2a647aacc54b", checked := Tryz.checked }
namespace Rows
def none {H : Type} : Left H := { results := [], args := [] }

/-- 'semtypelaw8.MemberDecides': WHATEVER THE INPUT: true; the input reads as it did. -/
def memberDecidesSpec : ChangeSpec := { name := "memberDecides", fn := fun _ => fun
  | [d1, d2, d3, d4, d5] => { results := [.lit (.bool true)], args := [d1, d2, d3, d4, d5] }
  | _ => none }
def memberDecidesRow : OpenClaim := { program := "ytjgldaaofdpcgaagreat", sum := "3782a9267b12c94c437fa47c9a03045e7ad7fe64dcf9711351ba2a647aacc54b", func := "semtype/semtypelaw8.MemberDecides", spec := "memberDecides", inPlace := ["internal/bytealg.abigen_runtime_cmpstring"], unfollowed := true, recurses := true, loops := true, apart := false }
def MemberDecidesSaid : Prop := memberDecidesRow.holds Tryz.pinned (OpenSpec.ofChange memberDecidesSpec)

/-- ITS FALSE NEIGHBOUR: 'it returns false'. Refute it at one input. -/
def memberDecidesWrong : ChangeSpec := { name := "memberDecides", fn := fun _ => fun
  | [d1, d2, d3, d4, d5] => { results := [.lit (.bool false)], args := [d1, d2, d3, d4, d5] }
  | _ => none }
def MemberDecidesWrongFalsely : Prop := memberDecidesRow.holds Tryz.pinned (OpenSpec.ofChange memberDecidesWrong)

/-- 'semtypelaw8.MemberComplements': WHATEVER THE INPUT: true; the input reads as it did. -/
def memberComplementsSpec : ChangeSpec := { name := "memberComplements", fn := fun _ => fun
  | [d1, d2] => { results := [.lit (.bool true)], args := [d1, d2] }
  | _ => none }
def memberComplementsRow : OpenClaim := { program := "ytjgldaaofdpcgaagreat", sum := "3782a9267b12c94c437fa47c9a03045e7ad7fe64dcf9711351ba2a647aacc54b", func := "semtype/semtypelaw8.MemberComplements", spec := "memberComplements", inPlace := ["internal/bytealg.abigen_runtime_cmpstring"], unfollowed := true, recurses := true, apart := false }
def MemberComplementsSaid : Prop := memberComplementsRow.holds Tryz.pinned (OpenSpec.ofChange memberComplementsSpec)

/-- ITS FALSE NEIGHBOUR: 'it returns false'. Refute it at one input. -/
def memberComplementsWrong : ChangeSpec := { name := "memberComplements", fn := fun _ => fun
  | [d1, d2] => { results := [.lit (.bool false)], args := [d1, d2] }
  | _ => none }
def MemberComplementsWrongFalsely : Prop := memberComplementsRow.holds Tryz.pinned (OpenSpec.ofChange memberComplementsWrong)

/-- 'semtypelaw8.MemberLabels': WHATEVER THE INPUT: true; the input reads as it did. -/
def memberLabelsSpec : ChangeSpec := { name := "memberLabels", fn := fun _ => fun
  | [d1, d2] => { results := [.lit (.bool true)], args := [d1, d2] }
  | _ => none }
def memberLabelsRow : OpenClaim := { program := "ytjgldaaofdpcgaagreat", sum := "3782a9267b12c94c437fa47c9a03045e7ad7fe64dcf9711351ba2a647aacc54b", func := "semtype/semtypelaw8.MemberLabels", spec := "memberLabels", inPlace := ["internal/bytealg.abigen_runtime_cmpstring"], unfollowed := true, recurses := true, apart := false }
def MemberLabelsSaid : Prop := memberLabelsRow.holds Tryz.pinned (OpenSpec.ofChange memberLabelsSpec)

/-- ITS FALSE NEIGHBOUR: 'it returns false'. Refute it at one input. -/
def memberLabelsWrong : ChangeSpec := { name := "memberLabels", fn := fun _ => fun
  | [d1, d2] => { results := [.lit (.bool false)], args := [d1, d2] }
  | _ => none }
def MemberLabelsWrongFalsely : Prop := memberLabelsRow.holds Tryz.pinned (OpenSpec.ofChange memberLabelsWrong)

/-- 'semtypelaw8.MemberMerges': WHATEVER THE INPUT: true; the input reads as it did. -/
def memberMergesSpec : ChangeSpec := { name := "memberMerges", fn := fun _ => fun
  | [d1, d2] => { results := [.lit (.bool true)], args := [d1, d2] }
  | _ => none }
def memberMergesRow : OpenClaim := { program := "ytjgldaaofdpcgaagreat", sum := "3782a9267b12c94c437fa47c9a03045e7ad7fe64dcf9711351ba2a647aacc54b", func := "semtype/semtypelaw8.MemberMerges", spec := "memberMerges", inPlace := ["internal/bytealg.abigen_runtime_cmpstring"], unfollowed := true, recurses := true, apart := false }
def MemberMergesSaid : Prop := memberMergesRow.holds Tryz.pinned (OpenSpec.ofChange memberMergesSpec)

/-- ITS FALSE NEIGHBOUR: 'it returns false'. Refute it at one input. -/
def memberMergesWrong : ChangeSpec := { name := "memberMerges", fn := fun _ => fun
  | [d1, d2] => { results := [.lit (.bool false)], args := [d1, d2] }
  | _ => none }
def MemberMergesWrongFalsely : Prop := memberMergesRow.holds Tryz.pinned (OpenSpec.ofChange memberMergesWrong)

/-- 'semtypelaw8.MemberExplains': WHATEVER THE INPUT: true; the input reads as it did. -/
def memberExplainsSpec : ChangeSpec := { name := "memberExplains", fn := fun _ => fun
  | [d1, d2] => { results := [.lit (.bool true)], args := [d1, d2] }
  | _ => none }
def memberExplainsRow : OpenClaim := { program := "ytjgldaaofdpcgaagreat", sum := "3782a9267b12c94c437fa47c9a03045e7ad7fe64dcf9711351ba2a647aacc54b", func := "semtype/semtypelaw8.MemberExplains", spec := "memberExplains", inPlace := ["internal/bytealg.abigen_runtime_cmpstring"], unfollowed := true, recurses := true, apart := false }
def MemberExplainsSaid : Prop := memberExplainsRow.holds Tryz.pinned (OpenSpec.ofChange memberExplainsSpec)

/-- ITS FALSE NEIGHBOUR: 'it returns false'. Refute it at one input. -/
def memberExplainsWrong : ChangeSpec := { name := "memberExplains", fn := fun _ => fun
  | [d1, d2] => { results := [.lit (.bool false)], args := [d1, d2] }
  | _ => none }
def MemberExplainsWrongFalsely : Prop := memberExplainsRow.holds Tryz.pinned (OpenSpec.ofChange memberExplainsWrong)

/- THE SECOND FORM. 'bulk': how many values and letters a reading holds, each counted each time it is reached (what is shared counts as often as it is met; a slice's spare places count too). A statement '..UptoSaid' is the law's where the arguments, and the package variables that the reading takes, are together of bulk at most 1048576: NARROWER than '..Said'. Prove '..Said' where nothing that the law and all that it calls make is longer than what came in: it says more and counts as full. Else prove '..UptoSaid'. A law counts once. -/
mutual
def uptoBulk {H : Type} : DataW H → Nat
  | .lit (.string bytes) => bytes.length + 1
  | .lit _ => 1
  | .nil => 1
  | .ptr d => uptoBulk d + 1
  | .slice elems spare => uptoBulkAll elems + uptoBulkAll spare + 1
  | .agg parts => uptoBulkAll parts + 1
  | .iface _ d => uptoBulk d + 1
  | .map entries => uptoBulkEntries entries + 1
  | .held _ => 1
def uptoBulkAll {H : Type} : List (DataW H) → Nat
  | [] => 0
  | d :: r => uptoBulk d + uptoBulkAll r
def uptoBulkEntries {H : Type} : List (Lit × DataW H) → Nat
  | [] => 0
  | x :: r => uptoBulkEntry x + uptoBulkEntries r
def uptoBulkEntry {H : Type} : Lit × DataW H → Nat
  | (.string bytes, d) => bytes.length + uptoBulk d + 1
  | (_, d) => uptoBulk d + 1
 end
def uptoSmall : (H : Type) → List (DataW H) → Bool := fun _ ds => decide (uptoBulkAll ds ≤ 1048576)
def OpenSpec.upto (s : _root_.Go.ChangeSpec) : _root_.Go.OpenSpec := { _root_.Go.OpenSpec.ofChange s with cond := some uptoSmall }

/-- 'semtypelaw8.MemberDecides', WHERE WHAT IT READS IS OF BULK AT MOST 1048576: true; the input reads as it did. -/
def memberDecidesUptoRow : OpenClaim := { program := "ytjgldaaofdpcgaagreat", sum := "3782a9267b12c94c437fa47c9a03045e7ad7fe64dcf9711351ba2a647aacc54b", func := "semtype/semtypelaw8.MemberDecides", spec := "memberDecides", inPlace := ["internal/bytealg.abigen_runtime_cmpstring"], unfollowed := true, recurses := true, loops := true, apart := false, narrowed := true }
def MemberDecidesUptoSaid : Prop := memberDecidesUptoRow.holds Tryz.pinned (OpenSpec.upto memberDecidesSpec)

/-- 'semtypelaw8.MemberComplements', WHERE WHAT IT READS IS OF BULK AT MOST 1048576: true; the input reads as it did. -/
def memberComplementsUptoRow : OpenClaim := { program := "ytjgldaaofdpcgaagreat", sum := "3782a9267b12c94c437fa47c9a03045e7ad7fe64dcf9711351ba2a647aacc54b", func := "semtype/semtypelaw8.MemberComplements", spec := "memberComplements", inPlace := ["internal/bytealg.abigen_runtime_cmpstring"], unfollowed := true, recurses := true, apart := false, narrowed := true }
def MemberComplementsUptoSaid : Prop := memberComplementsUptoRow.holds Tryz.pinned (OpenSpec.upto memberComplementsSpec)

/-- 'semtypelaw8.MemberLabels', WHERE WHAT IT READS IS OF BULK AT MOST 1048576: true; the input reads as it did. -/
def memberLabelsUptoRow : OpenClaim := { program := "ytjgldaaofdpcgaagreat", sum := "3782a9267b12c94c437fa47c9a03045e7ad7fe64dcf9711351ba2a647aacc54b", func := "semtype/semtypelaw8.MemberLabels", spec := "memberLabels", inPlace := ["internal/bytealg.abigen_runtime_cmpstring"], unfollowed := true, recurses := true, apart := false, narrowed := true }
def MemberLabelsUptoSaid : Prop := memberLabelsUptoRow.holds Tryz.pinned (OpenSpec.upto memberLabelsSpec)

/-- 'semtypelaw8.MemberMerges', WHERE WHAT IT READS IS OF BULK AT MOST 1048576: true; the input reads as it did. -/
def memberMergesUptoRow : OpenClaim := { program := "ytjgldaaofdpcgaagreat", sum := "3782a9267b12c94c437fa47c9a03045e7ad7fe64dcf9711351ba2a647aacc54b", func := "semtype/semtypelaw8.MemberMerges", spec := "memberMerges", inPlace := ["internal/bytealg.abigen_runtime_cmpstring"], unfollowed := true, recurses := true, apart := false, narrowed := true }
def MemberMergesUptoSaid : Prop := memberMergesUptoRow.holds Tryz.pinned (OpenSpec.upto memberMergesSpec)

/-- 'semtypelaw8.MemberExplains', WHERE WHAT IT READS IS OF BULK AT MOST 1048576: true; the input reads as it did. -/
def memberExplainsUptoRow : OpenClaim := { program := "ytjgldaaofdpcgaagreat", sum := "3782a9267b12c94c437fa47c9a03045e7ad7fe64dcf9711351ba2a647aacc54b", func := "semtype/semtypelaw8.MemberExplains", spec := "memberExplains", inPlace := ["internal/bytealg.abigen_runtime_cmpstring"], unfollowed := true, recurses := true, apart := false, narrowed := true }
def MemberExplainsUptoSaid : Prop := memberExplainsUptoRow.holds Tryz.pinned (OpenSpec.upto memberExplainsSpec)

end Rows
end Go.Proofs.YtjgldaaofdpcgaaGreat
