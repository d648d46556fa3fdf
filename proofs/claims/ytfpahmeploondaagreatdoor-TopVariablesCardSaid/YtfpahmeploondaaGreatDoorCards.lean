/-
  DERIVED. GIVEN WITH THE SEED: THE CARDS: each row of YtfpahmeploondaaGreatDoorRows.lean that lists a variable, with what it lists TIED to the program's text (the seventh form; the later family's looks); each row that meets fmt, with fmt's text TOLD by the authors' own Lean function (tested against real Go, not proved from fmt's source: count such statements apart). THE CARD IS WHAT COUNTS. Prove the row's statement (the work); the ties are given (YtfpahmeploondaaGreatDoorTie.lean); close each card by the builder's one call (the guide's Derived/Test/ToyasCard.lean, 'card_holds'). Laid BY PROGRAM, IN A SANDBOX (cutbox-door.mjs). By AI agents, Wed Nov 11 2026. No macro, syntax, notation, axiom, sorry.
-/
import Derived.Test.YtfpahmeploondaaGreatDoorRows
import GoSem.ClaimSeven
namespace Go.Proofs.YtfpahmeploondaaGreatDoor
namespace Rows

/-- THE TIED CARD OF 'semtypetop.TopVariables'. -/
def topVariablesCard : Claim7 := { stood := { row := topVariablesRow, standIns := [], harness := (true, "f3e0c43558f8a8cd275b05d2de9150d4cc6f4252f4aaf06f8f809679e0626b58"), looks := true }, kinds := [], alts := [], laidByText := true, laidKinds := [.data, .data, .data, .sentinel, .sentinel, .sentinel], laidTests := true, laidLooks := .later }
def TopVariablesCardSaid : Prop := Claim7.holds Tryz.pinned (.plain (OpenSpec.ofChange topVariablesSpec)) topVariablesCard

/-- THE SECOND FORM's CARD OF 'semtypetop.TopVariables'. -/
def topVariablesUptoCard : Claim7 := { stood := { row := topVariablesUptoRow, standIns := [], harness := (true, "f3e0c43558f8a8cd275b05d2de9150d4cc6f4252f4aaf06f8f809679e0626b58"), looks := true }, kinds := [], alts := [], laidByText := true, laidKinds := [.data, .data, .data, .sentinel, .sentinel, .sentinel], laidTests := true, laidLooks := .later }
def TopVariablesUptoCardSaid : Prop := Claim7.holds Tryz.pinned (.plain (OpenSpec.upto topVariablesSpec)) topVariablesUptoCard
end Rows
end Go.Proofs.YtfpahmeploondaaGreatDoor
