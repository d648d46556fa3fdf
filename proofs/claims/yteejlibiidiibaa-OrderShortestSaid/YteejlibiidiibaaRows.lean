/-
  No cell of these rows narrows 'for every input' (looked for: loops, veiled, ifaces, maps, wideKeys, modest, calm, conditions, laid).
  DERIVED. THE GIVEN ROWS OF THIS SEAT. 5 by the template 'for every input the law returns true; each argument reads behind the call as it read before'; 0 by the template 'total and deterministic' (their statements: YteejlibiidiibaaTotals.lean).
  GIVEN WITH THE SEED: the statements are not yours to turn. If you find one false, say at which input.
  Laid BY PROGRAM, IN A SANDBOX (cutbox-rows.mjs): the forced cells as the released guide's own fill.sh prints them over the translation c19adb6d0249f285… (all of the seat's roots in one cut). By AI agents, Wed Nov 11 2026. No macro, syntax, notation, axiom, sorry.
-/
import Derived.Test.YteejlibiidiibaaChecked
import GoSem.Claim
import GoSem.ClaimJoined
import GoSem.ClaimMapViews
import Derived.JoinedTies
import Derived.KernelRfl
namespace Go.Proofs.Yteejlibiidiibaa
/- THE CELL 'sum', in the pinned program and in every row, IS THE sha256 OF THE DUMP (.gsa) THAT YteejlibiidiibaaProg.lean LOADS. Nothing in Lean hashes anything: it is a label: what it is worth is what the hold of that sum in a sandbox is worth. -/
noncomputable def Try.pinned : Pinned := { name := "yteejlibiidiibaa", sum := "c19adb6d0249f2859a1c19dd9875a4ac6692b5d7d5a3e2bcb2c960803f3302a2", checked := Try.checked }
namespace Rows
def none {H : Type} : Left H := { results := [], args := [] }

/-- 'semtypelaw29.OrderComponents': WHATEVER THE INPUT: true; the input reads as it did. -/
def orderComponentsSpec : ChangeSpec := { name := "orderComponents", fn := fun _ => fun
  | [d1, d2] => { results := [.lit (.bool true)], args := [d1, d2] }
  | _ => none }
def orderComponentsRow : OpenClaim := { program := "yteejlibiidiibaa", sum := "c19adb6d0249f2859a1c19dd9875a4ac6692b5d7d5a3e2bcb2c960803f3302a2", func := "semtype/semtypelaw29.OrderComponents", spec := "orderComponents", unfollowed := true, recurses := true, apart := false }
def OrderComponentsSaid : Prop := orderComponentsRow.holds Try.pinned (OpenSpec.ofChange orderComponentsSpec)

/-- ITS FALSE NEIGHBOUR: 'it returns false'. Refute it at one input. -/
def orderComponentsWrong : ChangeSpec := { name := "orderComponents", fn := fun _ => fun
  | [d1, d2] => { results := [.lit (.bool false)], args := [d1, d2] }
  | _ => none }
def OrderComponentsWrongFalsely : Prop := orderComponentsRow.holds Try.pinned (OpenSpec.ofChange orderComponentsWrong)

/-- 'semtypelaw29.OrderCycles': WHATEVER THE INPUT: true; the input reads as it did. -/
def orderCyclesSpec : ChangeSpec := { name := "orderCycles", fn := fun _ => fun
  | [d1, d2] => { results := [.lit (.bool true)], args := [d1, d2] }
  | _ => none }
def orderCyclesRow : OpenClaim := { program := "yteejlibiidiibaa", sum := "c19adb6d0249f2859a1c19dd9875a4ac6692b5d7d5a3e2bcb2c960803f3302a2", func := "semtype/semtypelaw29.OrderCycles", spec := "orderCycles", unfollowed := true, recurses := true, apart := false }
def OrderCyclesSaid : Prop := orderCyclesRow.holds Try.pinned (OpenSpec.ofChange orderCyclesSpec)

/-- ITS FALSE NEIGHBOUR: 'it returns false'. Refute it at one input. -/
def orderCyclesWrong : ChangeSpec := { name := "orderCycles", fn := fun _ => fun
  | [d1, d2] => { results := [.lit (.bool false)], args := [d1, d2] }
  | _ => none }
def OrderCyclesWrongFalsely : Prop := orderCyclesRow.holds Try.pinned (OpenSpec.ofChange orderCyclesWrong)

/-- 'semtypelaw29.OrderReach': WHATEVER THE INPUT: true; the input reads as it did. -/
def orderReachSpec : ChangeSpec := { name := "orderReach", fn := fun _ => fun
  | [d1, d2, d3] => { results := [.lit (.bool true)], args := [d1, d2, d3] }
  | _ => none }
def orderReachRow : OpenClaim := { program := "yteejlibiidiibaa", sum := "c19adb6d0249f2859a1c19dd9875a4ac6692b5d7d5a3e2bcb2c960803f3302a2", func := "semtype/semtypelaw29.OrderReach", spec := "orderReach", unfollowed := true, recurses := true, apart := false }
def OrderReachSaid : Prop := orderReachRow.holds Try.pinned (OpenSpec.ofChange orderReachSpec)

/-- ITS FALSE NEIGHBOUR: 'it returns false'. Refute it at one input. -/
def orderReachWrong : ChangeSpec := { name := "orderReach", fn := fun _ => fun
  | [d1, d2, d3] => { results := [.lit (.bool false)], args := [d1, d2, d3] }
  | _ => none }
def OrderReachWrongFalsely : Prop := orderReachRow.holds Try.pinned (OpenSpec.ofChange orderReachWrong)

/-- 'semtypelaw29.OrderTopological': WHATEVER THE INPUT: true; the input reads as it did. -/
def orderTopologicalSpec : ChangeSpec := { name := "orderTopological", fn := fun _ => fun
  | [d] => { results := [.lit (.bool true)], args := [d] }
  | _ => none }
def orderTopologicalRow : OpenClaim := { program := "yteejlibiidiibaa", sum := "c19adb6d0249f2859a1c19dd9875a4ac6692b5d7d5a3e2bcb2c960803f3302a2", func := "semtype/semtypelaw29.OrderTopological", spec := "orderTopological", unfollowed := true, recurses := true, apart := false }
def OrderTopologicalSaid : Prop := orderTopologicalRow.holds Try.pinned (OpenSpec.ofChange orderTopologicalSpec)

/-- ITS FALSE NEIGHBOUR: 'it returns false'. Refute it at one input. -/
def orderTopologicalWrong : ChangeSpec := { name := "orderTopological", fn := fun _ => fun
  | [d] => { results := [.lit (.bool false)], args := [d] }
  | _ => none }
def OrderTopologicalWrongFalsely : Prop := orderTopologicalRow.holds Try.pinned (OpenSpec.ofChange orderTopologicalWrong)

/-- 'semtypelaw29.OrderShortest': WHATEVER THE INPUT: true; the input reads as it did. -/
def orderShortestSpec : ChangeSpec := { name := "orderShortest", fn := fun _ => fun
  | [d] => { results := [.lit (.bool true)], args := [d] }
  | _ => none }
def orderShortestRow : OpenClaim := { program := "yteejlibiidiibaa", sum := "c19adb6d0249f2859a1c19dd9875a4ac6692b5d7d5a3e2bcb2c960803f3302a2", func := "semtype/semtypelaw29.OrderShortest", spec := "orderShortest", unfollowed := true, recurses := true, apart := false }
def OrderShortestSaid : Prop := orderShortestRow.holds Try.pinned (OpenSpec.ofChange orderShortestSpec)

/-- ITS FALSE NEIGHBOUR: 'it returns false'. Refute it at one input. -/
def orderShortestWrong : ChangeSpec := { name := "orderShortest", fn := fun _ => fun
  | [d] => { results := [.lit (.bool false)], args := [d] }
  | _ => none }
def OrderShortestWrongFalsely : Prop := orderShortestRow.holds Try.pinned (OpenSpec.ofChange orderShortestWrong)

/- THE SECOND FORM. 'bulk': how many values and letters a reading holds, each counted each time it is reached (what is shared counts as often as it is met; a slice's spare places count too). A statement '..UptoSaid' is the law's where the arguments, and the package variables that the reading takes, are together of bulk at most 1048576: NARROWER than '..Said'. Prove '..Said' where nothing that the law and all that it calls make is longer than what came in: it says more and counts as full. Else prove '..UptoSaid'. A law counts once. -/
mutual
def uptoBulk {H : Type} : DataW H → Nat
  | .lit (.string bytes) => bytes.length + 1
  | .lit _ => 1
  | .nil => 1
  | .ptr d => uptoBulk d + 1
  | .slice elems spare => uptoBulkAll elems + uptoBulkAll spare + 1
  | .agg parts => uptoBulkAll parts + 1
  | .iface _ d => uptoBulk d + 1
  | .map entries => uptoBulkEntries entries + 1
  | .held _ => 1
def uptoBulkAll {H : Type} : List (DataW H) → Nat
  | [] => 0
  | d :: r => uptoBulk d + uptoBulkAll r
def uptoBulkEntries {H : Type} : List (Lit × DataW H) → Nat
  | [] => 0
  | x :: r => uptoBulkEntry x + uptoBulkEntries r
def uptoBulkEntry {H : Type} : Lit × DataW H → Nat
  | (.string bytes, d) => bytes.length + uptoBulk d + 1
  | (_, d) => uptoBulk d + 1
 end
def uptoSmall : (H : Type) → List (DataW H) → Bool := fun _ ds => decide (uptoBulkAll ds ≤ 1048576)
def OpenSpec.upto (s : _root_.Go.ChangeSpec) : _root_.Go.OpenSpec := { _root_.Go.OpenSpec.ofChange s with cond := some uptoSmall }

/-- 'semtypelaw29.OrderComponents', WHERE WHAT IT READS IS OF BULK AT MOST 1048576: true; the input reads as it did. -/
def orderComponentsUptoRow : OpenClaim := { program := "yteejlibiidiibaa", sum := "c19adb6d0249f2859a1c19dd9875a4ac6692b5d7d5a3e2bcb2c960803f3302a2", func := "semtype/semtypelaw29.OrderComponents", spec := "orderComponents", unfollowed := true, recurses := true, apart := false, narrowed := true }
def OrderComponentsUptoSaid : Prop := orderComponentsUptoRow.holds Try.pinned (OpenSpec.upto orderComponentsSpec)

/-- 'semtypelaw29.OrderCycles', WHERE WHAT IT READS IS OF BULK AT MOST 1048576: true; the input reads as it did. -/
def orderCyclesUptoRow : OpenClaim := { program := "yteejlibiidiibaa", sum := "c19adb6d0249f2859a1c19dd9875a4ac6692b5d7d5a3e2bcb2c960803f3302a2", func := "semtype/semtypelaw29.OrderCycles", spec := "orderCycles", unfollowed := true, recurses := true, apart := false, narrowed := true }
def OrderCyclesUptoSaid : Prop := orderCyclesUptoRow.holds Try.pinned (OpenSpec.upto orderCyclesSpec)

/-- 'semtypelaw29.OrderReach', WHERE WHAT IT READS IS OF BULK AT MOST 1048576: true; the input reads as it did. -/
def orderReachUptoRow : OpenClaim := { program := "yteejlibiidiibaa", sum := "c19adb6d0249f2859a1c19dd9875a4ac6692b5d7d5a3e2bcb2c960803f3302a2", func := "semtype/semtypelaw29.OrderReach", spec := "orderReach", unfollowed := true, recurses := true, apart := false, narrowed := true }
def OrderReachUptoSaid : Prop := orderReachUptoRow.holds Try.pinned (OpenSpec.upto orderReachSpec)

/-- 'semtypelaw29.OrderTopological', WHERE WHAT IT READS IS OF BULK AT MOST 1048576: true; the input reads as it did. -/
def orderTopologicalUptoRow : OpenClaim := { program := "yteejlibiidiibaa", sum := "c19adb6d0249f2859a1c19dd9875a4ac6692b5d7d5a3e2bcb2c960803f3302a2", func := "semtype/semtypelaw29.OrderTopological", spec := "orderTopological", unfollowed := true, recurses := true, apart := false, narrowed := true }
def OrderTopologicalUptoSaid : Prop := orderTopologicalUptoRow.holds Try.pinned (OpenSpec.upto orderTopologicalSpec)

/-- 'semtypelaw29.OrderShortest', WHERE WHAT IT READS IS OF BULK AT MOST 1048576: true; the input reads as it did. -/
def orderShortestUptoRow : OpenClaim := { program := "yteejlibiidiibaa", sum := "c19adb6d0249f2859a1c19dd9875a4ac6692b5d7d5a3e2bcb2c960803f3302a2", func := "semtype/semtypelaw29.OrderShortest", spec := "orderShortest", unfollowed := true, recurses := true, apart := false, narrowed := true }
def OrderShortestUptoSaid : Prop := orderShortestUptoRow.holds Try.pinned (OpenSpec.upto orderShortestSpec)

end Rows
end Go.Proofs.Yteejlibiidiibaa
