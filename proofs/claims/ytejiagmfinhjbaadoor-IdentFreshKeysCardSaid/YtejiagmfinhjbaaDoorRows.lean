/-
  NARROWER THAN 'FOR EVERY INPUT', by the rows' own cells (each row's printed sentence says how): IdentNames: laid · IdentQuotes: laid · IdentUnquotes: laid · IdentFresh: laid · IdentKeys: laid · IdentFreshKeys: laid · IdentOrder: laid.
  DERIVED. THE GIVEN ROWS OF THIS SEAT. 7 by the template 'for every input the law returns true; each argument reads behind the call as it read before'; 0 by the template 'total and deterministic' (their statements: YtejiagmfinhjbaaDoorTotals.lean).
  GIVEN WITH THE SEED: the statements are not yours to turn. If you find one false, say at which input.
  Laid BY PROGRAM, IN A SANDBOX (cutbox-rows.mjs): the forced cells as the released guide's own fill.sh prints them over the translation 251998246b7059e0… (all of the seat's roots in one cut). By AI agents, Wed Nov 11 2026. No macro, syntax, notation, axiom, sorry.
-/
import Derived.Test.YtejiagmfinhjbaaDoorChecked
import GoSem.Claim
import GoSem.ClaimJoined
import GoSem.ClaimMapViews
import Derived.JoinedTies
import Derived.KernelRfl
namespace Go.Proofs.YtejiagmfinhjbaaDoor
/- THE CELL 'sum', in the pinned program and in every row, IS THE sha256 OF THE DUMP (.gsa) THAT YtejiagmfinhjbaaDoorProg.lean LOADS. Nothing in Lean hashes anything: it is a label: what it is worth is what the hold of that sum in a sandbox is worth. -/
noncomputable def Tryd.pinned : Pinned := { name := "ytejiagmfinhjbaadoor", sum := "251998246b7059e0d23669e1f2c5fad912c91fd1865fb7df23ccc4cea2b5b50a", checked := Tryd.checked }
namespace Rows
def none {H : Type} : Left H := { results := [], args := [] }

/- WHAT THE LISTED PACKAGE-LEVEL VARIABLES READ AS WHEN THE CALL BEGINS. Each datum BY PROGRAM (the guide's laid-datum.mjs) off the statement by which the dump's own 'gosem.cut.vars' lays the variable. In a bare row this is a premise. The card (YtejiagmfinhjbaaDoorCards.lean) ties it to the program's text. -/
def laid_bytes_ErrTooLarge {H : Type} : DataW H := .iface "*errors.errorString" (.ptr (.agg [.lit (.string [98, 121, 116, 101, 115, 46, 66, 117, 102, 102, 101, 114, 58, 32, 116, 111, 111, 32, 108, 97, 114, 103, 101])]))

/-- 'semtypelaw1.IdentNames': WHATEVER THE INPUT: true; the input reads as it did. -/
def identNamesSpec : ChangeSpec := { name := "identNames", fn := fun _ => fun
  | [d1, d2] => { results := [.lit (.bool true)], args := [d1, d2] }
  | _ => none }
def identNamesRow : OpenClaim := { program := "ytejiagmfinhjbaadoor", sum := "251998246b7059e0d23669e1f2c5fad912c91fd1865fb7df23ccc4cea2b5b50a", func := "semtype/semtypelaw1.IdentNames", spec := "identNames", inPlace := ["internal/bytealg.IndexByteString"], unfollowed := true, recurses := true, named := ["bytes.ErrTooLarge"], apart := false, laid := [("bytes.ErrTooLarge", laid_bytes_ErrTooLarge)] }
def IdentNamesSaid : Prop := identNamesRow.holds Tryd.pinned (OpenSpec.ofChange identNamesSpec)

/-- ITS FALSE NEIGHBOUR: 'it returns false'. Refute it at one input. -/
def identNamesWrong : ChangeSpec := { name := "identNames", fn := fun _ => fun
  | [d1, d2] => { results := [.lit (.bool false)], args := [d1, d2] }
  | _ => none }
def IdentNamesWrongFalsely : Prop := identNamesRow.holds Tryd.pinned (OpenSpec.ofChange identNamesWrong)

/-- 'semtypelaw1.IdentQuotes': WHATEVER THE INPUT: true; the input reads as it did. -/
def identQuotesSpec : ChangeSpec := { name := "identQuotes", fn := fun _ => fun
  | [d] => { results := [.lit (.bool true)], args := [d] }
  | _ => none }
def identQuotesRow : OpenClaim := { program := "ytejiagmfinhjbaadoor", sum := "251998246b7059e0d23669e1f2c5fad912c91fd1865fb7df23ccc4cea2b5b50a", func := "semtype/semtypelaw1.IdentQuotes", spec := "identQuotes", inPlace := ["internal/bytealg.IndexByteString"], unfollowed := true, recurses := true, named := ["bytes.ErrTooLarge"], apart := false, laid := [("bytes.ErrTooLarge", laid_bytes_ErrTooLarge)] }
def IdentQuotesSaid : Prop := identQuotesRow.holds Tryd.pinned (OpenSpec.ofChange identQuotesSpec)

/-- ITS FALSE NEIGHBOUR: 'it returns false'. Refute it at one input. -/
def identQuotesWrong : ChangeSpec := { name := "identQuotes", fn := fun _ => fun
  | [d] => { results := [.lit (.bool false)], args := [d] }
  | _ => none }
def IdentQuotesWrongFalsely : Prop := identQuotesRow.holds Tryd.pinned (OpenSpec.ofChange identQuotesWrong)

/-- 'semtypelaw1.IdentUnquotes': WHATEVER THE INPUT: true; the input reads as it did. -/
def identUnquotesSpec : ChangeSpec := { name := "identUnquotes", fn := fun _ => fun
  | [d] => { results := [.lit (.bool true)], args := [d] }
  | _ => none }
def identUnquotesRow : OpenClaim := { program := "ytejiagmfinhjbaadoor", sum := "251998246b7059e0d23669e1f2c5fad912c91fd1865fb7df23ccc4cea2b5b50a", func := "semtype/semtypelaw1.IdentUnquotes", spec := "identUnquotes", inPlace := ["internal/bytealg.IndexByteString"], unfollowed := true, recurses := true, named := ["bytes.ErrTooLarge"], apart := false, laid := [("bytes.ErrTooLarge", laid_bytes_ErrTooLarge)] }
def IdentUnquotesSaid : Prop := identUnquotesRow.holds Tryd.pinned (OpenSpec.ofChange identUnquotesSpec)

/-- ITS FALSE NEIGHBOUR: 'it returns false'. Refute it at one input. -/
def identUnquotesWrong : ChangeSpec := { name := "identUnquotes", fn := fun _ => fun
  | [d] => { results := [.lit (.bool false)], args := [d] }
  | _ => none }
def IdentUnquotesWrongFalsely : Prop := identUnquotesRow.holds Tryd.pinned (OpenSpec.ofChange identUnquotesWrong)

/-- 'semtypelaw1.IdentFresh': WHATEVER THE INPUT: true; the input reads as it did. -/
def identFreshSpec : ChangeSpec := { name := "identFresh", fn := fun _ => fun
  | [d1, d2] => { results := [.lit (.bool true)], args := [d1, d2] }
  | _ => none }
def identFreshRow : OpenClaim := { program := "ytejiagmfinhjbaadoor", sum := "251998246b7059e0d23669e1f2c5fad912c91fd1865fb7df23ccc4cea2b5b50a", func := "semtype/semtypelaw1.IdentFresh", spec := "identFresh", inPlace := ["internal/bytealg.IndexByteString"], unfollowed := true, recurses := true, named := ["bytes.ErrTooLarge"], apart := false, laid := [("bytes.ErrTooLarge", laid_bytes_ErrTooLarge)] }
def IdentFreshSaid : Prop := identFreshRow.holds Tryd.pinned (OpenSpec.ofChange identFreshSpec)

/-- ITS FALSE NEIGHBOUR: 'it returns false'. Refute it at one input. -/
def identFreshWrong : ChangeSpec := { name := "identFresh", fn := fun _ => fun
  | [d1, d2] => { results := [.lit (.bool false)], args := [d1, d2] }
  | _ => none }
def IdentFreshWrongFalsely : Prop := identFreshRow.holds Tryd.pinned (OpenSpec.ofChange identFreshWrong)

/-- 'semtypelaw1.IdentKeys': WHATEVER THE INPUT: true; the input reads as it did. -/
def identKeysSpec : ChangeSpec := { name := "identKeys", fn := fun _ => fun
  | [d1, d2] => { results := [.lit (.bool true)], args := [d1, d2] }
  | _ => none }
def identKeysRow : OpenClaim := { program := "ytejiagmfinhjbaadoor", sum := "251998246b7059e0d23669e1f2c5fad912c91fd1865fb7df23ccc4cea2b5b50a", func := "semtype/semtypelaw1.IdentKeys", spec := "identKeys", inPlace := ["internal/bytealg.IndexByteString"], unfollowed := true, recurses := true, named := ["bytes.ErrTooLarge"], apart := false, laid := [("bytes.ErrTooLarge", laid_bytes_ErrTooLarge)] }
def IdentKeysSaid : Prop := identKeysRow.holds Tryd.pinned (OpenSpec.ofChange identKeysSpec)

/-- ITS FALSE NEIGHBOUR: 'it returns false'. Refute it at one input. -/
def identKeysWrong : ChangeSpec := { name := "identKeys", fn := fun _ => fun
  | [d1, d2] => { results := [.lit (.bool false)], args := [d1, d2] }
  | _ => none }
def IdentKeysWrongFalsely : Prop := identKeysRow.holds Tryd.pinned (OpenSpec.ofChange identKeysWrong)

/-- 'semtypelaw1.IdentFreshKeys': WHATEVER THE INPUT: true; the input reads as it did. -/
def identFreshKeysSpec : ChangeSpec := { name := "identFreshKeys", fn := fun _ => fun
  | [d1, d2] => { results := [.lit (.bool true)], args := [d1, d2] }
  | _ => none }
def identFreshKeysRow : OpenClaim := { program := "ytejiagmfinhjbaadoor", sum := "251998246b7059e0d23669e1f2c5fad912c91fd1865fb7df23ccc4cea2b5b50a", func := "semtype/semtypelaw1.IdentFreshKeys", spec := "identFreshKeys", inPlace := ["internal/bytealg.IndexByteString"], unfollowed := true, recurses := true, named := ["bytes.ErrTooLarge"], apart := false, laid := [("bytes.ErrTooLarge", laid_bytes_ErrTooLarge)] }
def IdentFreshKeysSaid : Prop := identFreshKeysRow.holds Tryd.pinned (OpenSpec.ofChange identFreshKeysSpec)

/-- ITS FALSE NEIGHBOUR: 'it returns false'. Refute it at one input. -/
def identFreshKeysWrong : ChangeSpec := { name := "identFreshKeys", fn := fun _ => fun
  | [d1, d2] => { results := [.lit (.bool false)], args := [d1, d2] }
  | _ => none }
def IdentFreshKeysWrongFalsely : Prop := identFreshKeysRow.holds Tryd.pinned (OpenSpec.ofChange identFreshKeysWrong)

/-- 'semtypelaw1.IdentOrder': WHATEVER THE INPUT: true; the input reads as it did. -/
def identOrderSpec : ChangeSpec := { name := "identOrder", fn := fun _ => fun
  | [d1, d2, d3] => { results := [.lit (.bool true)], args := [d1, d2, d3] }
  | _ => none }
def identOrderRow : OpenClaim := { program := "ytejiagmfinhjbaadoor", sum := "251998246b7059e0d23669e1f2c5fad912c91fd1865fb7df23ccc4cea2b5b50a", func := "semtype/semtypelaw1.IdentOrder", spec := "identOrder", inPlace := ["internal/bytealg.abigen_runtime_cmpstring", "internal/bytealg.IndexByteString"], unfollowed := true, recurses := true, named := ["bytes.ErrTooLarge"], apart := false, laid := [("bytes.ErrTooLarge", laid_bytes_ErrTooLarge)] }
def IdentOrderSaid : Prop := identOrderRow.holds Tryd.pinned (OpenSpec.ofChange identOrderSpec)

/-- ITS FALSE NEIGHBOUR: 'it returns false'. Refute it at one input. -/
def identOrderWrong : ChangeSpec := { name := "identOrder", fn := fun _ => fun
  | [d1, d2, d3] => { results := [.lit (.bool false)], args := [d1, d2, d3] }
  | _ => none }
def IdentOrderWrongFalsely : Prop := identOrderRow.holds Tryd.pinned (OpenSpec.ofChange identOrderWrong)

/- THE SECOND FORM. 'bulk': how many values and letters a reading holds, each counted each time it is reached (what is shared counts as often as it is met; a slice's spare places count too). A statement '..UptoSaid' is the law's where the arguments, and the package variables that the reading takes, are together of bulk at most 1048576: NARROWER than '..Said'. Prove '..Said' where nothing that the law and all that it calls make is longer than what came in: it says more and counts as full. Else prove '..UptoSaid'. A law counts once. -/
mutual
def uptoBulk {H : Type} : DataW H → Nat
  | .lit (.string bytes) => bytes.length + 1
  | .lit _ => 1
  | .nil => 1
  | .ptr d => uptoBulk d + 1
  | .slice elems spare => uptoBulkAll elems + uptoBulkAll spare + 1
  | .agg parts => uptoBulkAll parts + 1
  | .iface _ d => uptoBulk d + 1
  | .map entries => uptoBulkEntries entries + 1
  | .held _ => 1
def uptoBulkAll {H : Type} : List (DataW H) → Nat
  | [] => 0
  | d :: r => uptoBulk d + uptoBulkAll r
def uptoBulkEntries {H : Type} : List (Lit × DataW H) → Nat
  | [] => 0
  | x :: r => uptoBulkEntry x + uptoBulkEntries r
def uptoBulkEntry {H : Type} : Lit × DataW H → Nat
  | (.string bytes, d) => bytes.length + uptoBulk d + 1
  | (_, d) => uptoBulk d + 1
 end
def uptoSmall : (H : Type) → List (DataW H) → Bool := fun _ ds => decide (uptoBulkAll ds ≤ 1048576)
def OpenSpec.upto (s : _root_.Go.ChangeSpec) : _root_.Go.OpenSpec := { _root_.Go.OpenSpec.ofChange s with cond := some uptoSmall }

/-- 'semtypelaw1.IdentNames', WHERE WHAT IT READS IS OF BULK AT MOST 1048576: true; the input reads as it did. -/
def identNamesUptoRow : OpenClaim := { program := "ytejiagmfinhjbaadoor", sum := "251998246b7059e0d23669e1f2c5fad912c91fd1865fb7df23ccc4cea2b5b50a", func := "semtype/semtypelaw1.IdentNames", spec := "identNames", inPlace := ["internal/bytealg.IndexByteString"], unfollowed := true, recurses := true, named := ["bytes.ErrTooLarge"], apart := false, laid := [("bytes.ErrTooLarge", laid_bytes_ErrTooLarge)], narrowed := true }
def IdentNamesUptoSaid : Prop := identNamesUptoRow.holds Tryd.pinned (OpenSpec.upto identNamesSpec)

/-- 'semtypelaw1.IdentQuotes', WHERE WHAT IT READS IS OF BULK AT MOST 1048576: true; the input reads as it did. -/
def identQuotesUptoRow : OpenClaim := { program := "ytejiagmfinhjbaadoor", sum := "251998246b7059e0d23669e1f2c5fad912c91fd1865fb7df23ccc4cea2b5b50a", func := "semtype/semtypelaw1.IdentQuotes", spec := "identQuotes", inPlace := ["internal/bytealg.IndexByteString"], unfollowed := true, recurses := true, named := ["bytes.ErrTooLarge"], apart := false, laid := [("bytes.ErrTooLarge", laid_bytes_ErrTooLarge)], narrowed := true }
def IdentQuotesUptoSaid : Prop := identQuotesUptoRow.holds Tryd.pinned (OpenSpec.upto identQuotesSpec)

/-- 'semtypelaw1.IdentUnquotes', WHERE WHAT IT READS IS OF BULK AT MOST 1048576: true; the input reads as it did. -/
def identUnquotesUptoRow : OpenClaim := { program := "ytejiagmfinhjbaadoor", sum := "251998246b7059e0d23669e1f2c5fad912c91fd1865fb7df23ccc4cea2b5b50a", func := "semtype/semtypelaw1.IdentUnquotes", spec := "identUnquotes", inPlace := ["internal/bytealg.IndexByteString"], unfollowed := true, recurses := true, named := ["bytes.ErrTooLarge"], apart := false, laid := [("bytes.ErrTooLarge", laid_bytes_ErrTooLarge)], narrowed := true }
def IdentUnquotesUptoSaid : Prop := identUnquotesUptoRow.holds Tryd.pinned (OpenSpec.upto identUnquotesSpec)

/-- 'semtypelaw1.IdentFresh', WHERE WHAT IT READS IS OF BULK AT MOST 1048576: true; the input reads as it did. -/
def identFreshUptoRow : OpenClaim := { program := "ytejiagmfinhjbaadoor", sum := "251998246b7059e0d23669e1f2c5fad912c91fd1865fb7df23ccc4cea2b5b50a", func := "semtype/semtypelaw1.IdentFresh", spec := "identFresh", inPlace := ["internal/bytealg.IndexByteString"], unfollowed := true, recurses := true, named := ["bytes.ErrTooLarge"], apart := false, laid := [("bytes.ErrTooLarge", laid_bytes_ErrTooLarge)], narrowed := true }
def IdentFreshUptoSaid : Prop := identFreshUptoRow.holds Tryd.pinned (OpenSpec.upto identFreshSpec)

/-- 'semtypelaw1.IdentKeys', WHERE WHAT IT READS IS OF BULK AT MOST 1048576: true; the input reads as it did. -/
def identKeysUptoRow : OpenClaim := { program := "ytejiagmfinhjbaadoor", sum := "251998246b7059e0d23669e1f2c5fad912c91fd1865fb7df23ccc4cea2b5b50a", func := "semtype/semtypelaw1.IdentKeys", spec := "identKeys", inPlace := ["internal/bytealg.IndexByteString"], unfollowed := true, recurses := true, named := ["bytes.ErrTooLarge"], apart := false, laid := [("bytes.ErrTooLarge", laid_bytes_ErrTooLarge)], narrowed := true }
def IdentKeysUptoSaid : Prop := identKeysUptoRow.holds Tryd.pinned (OpenSpec.upto identKeysSpec)

/-- 'semtypelaw1.IdentFreshKeys', WHERE WHAT IT READS IS OF BULK AT MOST 1048576: true; the input reads as it did. -/
def identFreshKeysUptoRow : OpenClaim := { program := "ytejiagmfinhjbaadoor", sum := "251998246b7059e0d23669e1f2c5fad912c91fd1865fb7df23ccc4cea2b5b50a", func := "semtype/semtypelaw1.IdentFreshKeys", spec := "identFreshKeys", inPlace := ["internal/bytealg.IndexByteString"], unfollowed := true, recurses := true, named := ["bytes.ErrTooLarge"], apart := false, laid := [("bytes.ErrTooLarge", laid_bytes_ErrTooLarge)], narrowed := true }
def IdentFreshKeysUptoSaid : Prop := identFreshKeysUptoRow.holds Tryd.pinned (OpenSpec.upto identFreshKeysSpec)

/-- 'semtypelaw1.IdentOrder', WHERE WHAT IT READS IS OF BULK AT MOST 1048576: true; the input reads as it did. -/
def identOrderUptoRow : OpenClaim := { program := "ytejiagmfinhjbaadoor", sum := "251998246b7059e0d23669e1f2c5fad912c91fd1865fb7df23ccc4cea2b5b50a", func := "semtype/semtypelaw1.IdentOrder", spec := "identOrder", inPlace := ["internal/bytealg.abigen_runtime_cmpstring", "internal/bytealg.IndexByteString"], unfollowed := true, recurses := true, named := ["bytes.ErrTooLarge"], apart := false, laid := [("bytes.ErrTooLarge", laid_bytes_ErrTooLarge)], narrowed := true }
def IdentOrderUptoSaid : Prop := identOrderUptoRow.holds Tryd.pinned (OpenSpec.upto identOrderSpec)

end Rows
end Go.Proofs.YtejiagmfinhjbaaDoor
