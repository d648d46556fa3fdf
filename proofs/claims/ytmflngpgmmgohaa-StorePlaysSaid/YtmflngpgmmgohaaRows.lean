/-
  No cell of these rows narrows 'for every input' (looked for: loops, veiled, ifaces, maps, wideKeys, modest, calm, conditions, laid).
  DERIVED. THE GIVEN ROWS OF THIS SEAT. 8 by the template 'for every input the law returns true; each argument reads behind the call as it read before'; 0 by the template 'total and deterministic' (their statements: YtmflngpgmmgohaaTotals.lean).
  GIVEN WITH THE SEED: the statements are not yours to turn. If you find one false, say at which input.
  Laid BY PROGRAM, IN A SANDBOX (cutbox-rows.mjs): the forced cells as the released guide's own fill.sh prints them over the translation eec3c58da0e7fd1c… (all of the seat's roots in one cut). By AI agents, Wed Nov 11 2026. No macro, syntax, notation, axiom, sorry.
-/
import Derived.Test.YtmflngpgmmgohaaChecked
import GoSem.Claim
import GoSem.ClaimJoined
import GoSem.ClaimMapViews
import Derived.JoinedTies
import Derived.KernelRfl
namespace Go.Proofs.Ytmflngpgmmgohaa
/- THE CELL 'sum', in the pinned program and in every row, IS THE sha256 OF THE DUMP (.gsa) THAT YtmflngpgmmgohaaProg.lean LOADS. Nothing in Lean hashes anything: it is a label: what it is worth is what the hold of that sum in a sandbox is worth. -/
noncomputable def Try.pinned : Pinned := { name := "ytmflngpgmmgohaa", sum := "eec3c58da0e7fd1cb7323c6863f64fa7d03b4f9900b82a9c4fa840269ac96809", checked := Try.checked }
namespace Rows
def none {H : Type} : Left H := { results := [], args := [] }

/-- 'semtypelaw37.DiskRoom': WHATEVER THE INPUT: true; the input reads as it did. -/
def diskRoomSpec : ChangeSpec := { name := "diskRoom", fn := fun _ => fun
  | [d1, d2, d3] => { results := [.lit (.bool true)], args := [d1, d2, d3] }
  | _ => none }
def diskRoomRow : OpenClaim := { program := "ytmflngpgmmgohaa", sum := "eec3c58da0e7fd1cb7323c6863f64fa7d03b4f9900b82a9c4fa840269ac96809", func := "semtype/semtypelaw37.DiskRoom", spec := "diskRoom", apart := false }
def DiskRoomSaid : Prop := diskRoomRow.holds Try.pinned (OpenSpec.ofChange diskRoomSpec)

/-- ITS FALSE NEIGHBOUR: 'it returns false'. Refute it at one input. -/
def diskRoomWrong : ChangeSpec := { name := "diskRoom", fn := fun _ => fun
  | [d1, d2, d3] => { results := [.lit (.bool false)], args := [d1, d2, d3] }
  | _ => none }
def DiskRoomWrongFalsely : Prop := diskRoomRow.holds Try.pinned (OpenSpec.ofChange diskRoomWrong)

/-- 'semtypelaw37.DiskPlays': WHATEVER THE INPUT: true; the input reads as it did. -/
def diskPlaysSpec : ChangeSpec := { name := "diskPlays", fn := fun _ => fun
  | [d1, d2] => { results := [.lit (.bool true)], args := [d1, d2] }
  | _ => none }
def diskPlaysRow : OpenClaim := { program := "ytmflngpgmmgohaa", sum := "eec3c58da0e7fd1cb7323c6863f64fa7d03b4f9900b82a9c4fa840269ac96809", func := "semtype/semtypelaw37.DiskPlays", spec := "diskPlays", apart := false }
def DiskPlaysSaid : Prop := diskPlaysRow.holds Try.pinned (OpenSpec.ofChange diskPlaysSpec)

/-- ITS FALSE NEIGHBOUR: 'it returns false'. Refute it at one input. -/
def diskPlaysWrong : ChangeSpec := { name := "diskPlays", fn := fun _ => fun
  | [d1, d2] => { results := [.lit (.bool false)], args := [d1, d2] }
  | _ => none }
def DiskPlaysWrongFalsely : Prop := diskPlaysRow.holds Try.pinned (OpenSpec.ofChange diskPlaysWrong)

/-- 'semtypelaw37.DiskNothing': WHATEVER THE INPUT: true; the input reads as it did. -/
def diskNothingSpec : ChangeSpec := { name := "diskNothing", fn := fun _ => fun
  | [d1, d2] => { results := [.lit (.bool true)], args := [d1, d2] }
  | _ => none }
def diskNothingRow : OpenClaim := { program := "ytmflngpgmmgohaa", sum := "eec3c58da0e7fd1cb7323c6863f64fa7d03b4f9900b82a9c4fa840269ac96809", func := "semtype/semtypelaw37.DiskNothing", spec := "diskNothing", apart := false }
def DiskNothingSaid : Prop := diskNothingRow.holds Try.pinned (OpenSpec.ofChange diskNothingSpec)

/-- ITS FALSE NEIGHBOUR: 'it returns false'. Refute it at one input. -/
def diskNothingWrong : ChangeSpec := { name := "diskNothing", fn := fun _ => fun
  | [d1, d2] => { results := [.lit (.bool false)], args := [d1, d2] }
  | _ => none }
def DiskNothingWrongFalsely : Prop := diskNothingRow.holds Try.pinned (OpenSpec.ofChange diskNothingWrong)

/-- 'semtypelaw38.StoreFrames': WHATEVER THE INPUT: true; the input reads as it did. -/
def storeFramesSpec : ChangeSpec := { name := "storeFrames", fn := fun _ => fun
  | [d1, d2] => { results := [.lit (.bool true)], args := [d1, d2] }
  | _ => none }
def storeFramesRow : OpenClaim := { program := "ytmflngpgmmgohaa", sum := "eec3c58da0e7fd1cb7323c6863f64fa7d03b4f9900b82a9c4fa840269ac96809", func := "semtype/semtypelaw38.StoreFrames", spec := "storeFrames", apart := false }
def StoreFramesSaid : Prop := storeFramesRow.holds Try.pinned (OpenSpec.ofChange storeFramesSpec)

/-- ITS FALSE NEIGHBOUR: 'it returns false'. Refute it at one input. -/
def storeFramesWrong : ChangeSpec := { name := "storeFrames", fn := fun _ => fun
  | [d1, d2] => { results := [.lit (.bool false)], args := [d1, d2] }
  | _ => none }
def StoreFramesWrongFalsely : Prop := storeFramesRow.holds Try.pinned (OpenSpec.ofChange storeFramesWrong)

/-- 'semtypelaw38.StoreReads': WHATEVER THE INPUT: true; the input reads as it did. -/
def storeReadsSpec : ChangeSpec := { name := "storeReads", fn := fun _ => fun
  | [d1, d2, d3, d4, d5] => { results := [.lit (.bool true)], args := [d1, d2, d3, d4, d5] }
  | _ => none }
def storeReadsRow : OpenClaim := { program := "ytmflngpgmmgohaa", sum := "eec3c58da0e7fd1cb7323c6863f64fa7d03b4f9900b82a9c4fa840269ac96809", func := "semtype/semtypelaw38.StoreReads", spec := "storeReads", apart := false }
def StoreReadsSaid : Prop := storeReadsRow.holds Try.pinned (OpenSpec.ofChange storeReadsSpec)

/-- ITS FALSE NEIGHBOUR: 'it returns false'. Refute it at one input. -/
def storeReadsWrong : ChangeSpec := { name := "storeReads", fn := fun _ => fun
  | [d1, d2, d3, d4, d5] => { results := [.lit (.bool false)], args := [d1, d2, d3, d4, d5] }
  | _ => none }
def StoreReadsWrongFalsely : Prop := storeReadsRow.holds Try.pinned (OpenSpec.ofChange storeReadsWrong)

/-- 'semtypelaw38.StoreSurvives': WHATEVER THE INPUT: true; the input reads as it did. -/
def storeSurvivesSpec : ChangeSpec := { name := "storeSurvives", fn := fun _ => fun
  | [d1, d2, d3, d4] => { results := [.lit (.bool true)], args := [d1, d2, d3, d4] }
  | _ => none }
def storeSurvivesRow : OpenClaim := { program := "ytmflngpgmmgohaa", sum := "eec3c58da0e7fd1cb7323c6863f64fa7d03b4f9900b82a9c4fa840269ac96809", func := "semtype/semtypelaw38.StoreSurvives", spec := "storeSurvives", apart := false }
def StoreSurvivesSaid : Prop := storeSurvivesRow.holds Try.pinned (OpenSpec.ofChange storeSurvivesSpec)

/-- ITS FALSE NEIGHBOUR: 'it returns false'. Refute it at one input. -/
def storeSurvivesWrong : ChangeSpec := { name := "storeSurvives", fn := fun _ => fun
  | [d1, d2, d3, d4] => { results := [.lit (.bool false)], args := [d1, d2, d3, d4] }
  | _ => none }
def StoreSurvivesWrongFalsely : Prop := storeSurvivesRow.holds Try.pinned (OpenSpec.ofChange storeSurvivesWrong)

/-- 'semtypelaw38.StoreCompacts': WHATEVER THE INPUT: true; the input reads as it did. -/
def storeCompactsSpec : ChangeSpec := { name := "storeCompacts", fn := fun _ => fun
  | [d] => { results := [.lit (.bool true)], args := [d] }
  | _ => none }
def storeCompactsRow : OpenClaim := { program := "ytmflngpgmmgohaa", sum := "eec3c58da0e7fd1cb7323c6863f64fa7d03b4f9900b82a9c4fa840269ac96809", func := "semtype/semtypelaw38.StoreCompacts", spec := "storeCompacts", inPlace := ["internal/abi.NoEscape"], unfollowed := true, recurses := true, apart := false }
def StoreCompactsSaid : Prop := storeCompactsRow.holds Try.pinned (OpenSpec.ofChange storeCompactsSpec)

/-- ITS FALSE NEIGHBOUR: 'it returns false'. Refute it at one input. -/
def storeCompactsWrong : ChangeSpec := { name := "storeCompacts", fn := fun _ => fun
  | [d] => { results := [.lit (.bool false)], args := [d] }
  | _ => none }
def StoreCompactsWrongFalsely : Prop := storeCompactsRow.holds Try.pinned (OpenSpec.ofChange storeCompactsWrong)

/-- 'semtypelaw38.StorePlays': WHATEVER THE INPUT: true; the input reads as it did. -/
def storePlaysSpec : ChangeSpec := { name := "storePlays", fn := fun _ => fun
  | [d1, d2, d3] => { results := [.lit (.bool true)], args := [d1, d2, d3] }
  | _ => none }
def storePlaysRow : OpenClaim := { program := "ytmflngpgmmgohaa", sum := "eec3c58da0e7fd1cb7323c6863f64fa7d03b4f9900b82a9c4fa840269ac96809", func := "semtype/semtypelaw38.StorePlays", spec := "storePlays", inPlace := ["internal/abi.NoEscape"], unfollowed := true, recurses := true, apart := false }
def StorePlaysSaid : Prop := storePlaysRow.holds Try.pinned (OpenSpec.ofChange storePlaysSpec)

/-- ITS FALSE NEIGHBOUR: 'it returns false'. Refute it at one input. -/
def storePlaysWrong : ChangeSpec := { name := "storePlays", fn := fun _ => fun
  | [d1, d2, d3] => { results := [.lit (.bool false)], args := [d1, d2, d3] }
  | _ => none }
def StorePlaysWrongFalsely : Prop := storePlaysRow.holds Try.pinned (OpenSpec.ofChange storePlaysWrong)

/- THE SECOND FORM. 'bulk': how many values and letters a reading holds, each counted each time it is reached (what is shared counts as often as it is met; a slice's spare places count too). A statement '..UptoSaid' is the law's where the arguments, and the package variables that the reading takes, are together of bulk at most 1048576: NARROWER than '..Said'. Prove '..Said' where nothing that the law and all that it calls make is longer than what came in: it says more and counts as full. Else prove '..UptoSaid'. A law counts once. -/
mutual
def uptoBulk {H : Type} : DataW H → Nat
  | .lit (.string bytes) => bytes.length + 1
  | .lit _ => 1
  | .nil => 1
  | .ptr d => uptoBulk d + 1
  | .slice elems spare => uptoBulkAll elems + uptoBulkAll spare + 1
  | .agg parts => uptoBulkAll parts + 1
  | .iface _ d => uptoBulk d + 1
  | .map entries => uptoBulkEntries entries + 1
  | .held _ => 1
def uptoBulkAll {H : Type} : List (DataW H) → Nat
  | [] => 0
  | d :: r => uptoBulk d + uptoBulkAll r
def uptoBulkEntries {H : Type} : List (Lit × DataW H) → Nat
  | [] => 0
  | x :: r => uptoBulkEntry x + uptoBulkEntries r
def uptoBulkEntry {H : Type} : Lit × DataW H → Nat
  | (.string bytes, d) => bytes.length + uptoBulk d + 1
  | (_, d) => uptoBulk d + 1
 end
def uptoSmall : (H : Type) → List (DataW H) → Bool := fun _ ds => decide (uptoBulkAll ds ≤ 1048576)
def OpenSpec.upto (s : _root_.Go.ChangeSpec) : _root_.Go.OpenSpec := { _root_.Go.OpenSpec.ofChange s with cond := some uptoSmall }

/-- 'semtypelaw37.DiskRoom', WHERE WHAT IT READS IS OF BULK AT MOST 1048576: true; the input reads as it did. -/
def diskRoomUptoRow : OpenClaim := { program := "ytmflngpgmmgohaa", sum := "eec3c58da0e7fd1cb7323c6863f64fa7d03b4f9900b82a9c4fa840269ac96809", func := "semtype/semtypelaw37.DiskRoom", spec := "diskRoom", apart := false, narrowed := true }
def DiskRoomUptoSaid : Prop := diskRoomUptoRow.holds Try.pinned (OpenSpec.upto diskRoomSpec)

/-- 'semtypelaw37.DiskPlays', WHERE WHAT IT READS IS OF BULK AT MOST 1048576: true; the input reads as it did. -/
def diskPlaysUptoRow : OpenClaim := { program := "ytmflngpgmmgohaa", sum := "eec3c58da0e7fd1cb7323c6863f64fa7d03b4f9900b82a9c4fa840269ac96809", func := "semtype/semtypelaw37.DiskPlays", spec := "diskPlays", apart := false, narrowed := true }
def DiskPlaysUptoSaid : Prop := diskPlaysUptoRow.holds Try.pinned (OpenSpec.upto diskPlaysSpec)

/-- 'semtypelaw37.DiskNothing', WHERE WHAT IT READS IS OF BULK AT MOST 1048576: true; the input reads as it did. -/
def diskNothingUptoRow : OpenClaim := { program := "ytmflngpgmmgohaa", sum := "eec3c58da0e7fd1cb7323c6863f64fa7d03b4f9900b82a9c4fa840269ac96809", func := "semtype/semtypelaw37.DiskNothing", spec := "diskNothing", apart := false, narrowed := true }
def DiskNothingUptoSaid : Prop := diskNothingUptoRow.holds Try.pinned (OpenSpec.upto diskNothingSpec)

/-- 'semtypelaw38.StoreFrames', WHERE WHAT IT READS IS OF BULK AT MOST 1048576: true; the input reads as it did. -/
def storeFramesUptoRow : OpenClaim := { program := "ytmflngpgmmgohaa", sum := "eec3c58da0e7fd1cb7323c6863f64fa7d03b4f9900b82a9c4fa840269ac96809", func := "semtype/semtypelaw38.StoreFrames", spec := "storeFrames", apart := false, narrowed := true }
def StoreFramesUptoSaid : Prop := storeFramesUptoRow.holds Try.pinned (OpenSpec.upto storeFramesSpec)

/-- 'semtypelaw38.StoreReads', WHERE WHAT IT READS IS OF BULK AT MOST 1048576: true; the input reads as it did. -/
def storeReadsUptoRow : OpenClaim := { program := "ytmflngpgmmgohaa", sum := "eec3c58da0e7fd1cb7323c6863f64fa7d03b4f9900b82a9c4fa840269ac96809", func := "semtype/semtypelaw38.StoreReads", spec := "storeReads", apart := false, narrowed := true }
def StoreReadsUptoSaid : Prop := storeReadsUptoRow.holds Try.pinned (OpenSpec.upto storeReadsSpec)

/-- 'semtypelaw38.StoreSurvives', WHERE WHAT IT READS IS OF BULK AT MOST 1048576: true; the input reads as it did. -/
def storeSurvivesUptoRow : OpenClaim := { program := "ytmflngpgmmgohaa", sum := "eec3c58da0e7fd1cb7323c6863f64fa7d03b4f9900b82a9c4fa840269ac96809", func := "semtype/semtypelaw38.StoreSurvives", spec := "storeSurvives", apart := false, narrowed := true }
def StoreSurvivesUptoSaid : Prop := storeSurvivesUptoRow.holds Try.pinned (OpenSpec.upto storeSurvivesSpec)

/-- 'semtypelaw38.StoreCompacts', WHERE WHAT IT READS IS OF BULK AT MOST 1048576: true; the input reads as it did. -/
def storeCompactsUptoRow : OpenClaim := { program := "ytmflngpgmmgohaa", sum := "eec3c58da0e7fd1cb7323c6863f64fa7d03b4f9900b82a9c4fa840269ac96809", func := "semtype/semtypelaw38.StoreCompacts", spec := "storeCompacts", inPlace := ["internal/abi.NoEscape"], unfollowed := true, recurses := true, apart := false, narrowed := true }
def StoreCompactsUptoSaid : Prop := storeCompactsUptoRow.holds Try.pinned (OpenSpec.upto storeCompactsSpec)

/-- 'semtypelaw38.StorePlays', WHERE WHAT IT READS IS OF BULK AT MOST 1048576: true; the input reads as it did. -/
def storePlaysUptoRow : OpenClaim := { program := "ytmflngpgmmgohaa", sum := "eec3c58da0e7fd1cb7323c6863f64fa7d03b4f9900b82a9c4fa840269ac96809", func := "semtype/semtypelaw38.StorePlays", spec := "storePlays", inPlace := ["internal/abi.NoEscape"], unfollowed := true, recurses := true, apart := false, narrowed := true }
def StorePlaysUptoSaid : Prop := storePlaysUptoRow.holds Try.pinned (OpenSpec.upto storePlaysSpec)

end Rows
end Go.Proofs.Ytmflngpgmmgohaa
