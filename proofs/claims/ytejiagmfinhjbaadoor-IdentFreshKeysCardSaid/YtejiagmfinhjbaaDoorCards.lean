/-
  DERIVED. GIVEN WITH THE SEED: THE CARDS: each row of YtejiagmfinhjbaaDoorRows.lean that lists a variable, with what it lists TIED to the program's text (the seventh form; the later family's looks); each row that meets fmt, with fmt's text TOLD by the authors' own Lean function (tested against real Go, not proved from fmt's source: count such statements apart). THE CARD IS WHAT COUNTS. Prove the row's statement (the work); the ties are given (YtejiagmfinhjbaaDoorTie.lean); close each card by the builder's one call (the guide's Derived/Test/ToyasCard.lean, 'card_holds'). Laid BY PROGRAM, IN A SANDBOX (cutbox-door.mjs). By AI agents, Wed Nov 11 2026. No macro, syntax, notation, axiom, sorry.
-/
import Derived.Test.YtejiagmfinhjbaaDoorRows
import GoSem.ClaimSeven
namespace Go.Proofs.YtejiagmfinhjbaaDoor
namespace Rows

/-- THE TIED CARD OF 'semtypelaw1.IdentNames'. -/
def identNamesCard : Claim7 := { stood := { row := identNamesRow, standIns := [], harness := (true, "33d656f2f21be5c203ee17c793953a483569241fd024a4d59dc6447523c4b79b"), looks := false }, kinds := [], alts := [], laidByText := true, laidKinds := [.sentinel], laidTests := true, laidLooks := .later }
def IdentNamesCardSaid : Prop := Claim7.holds Tryd.pinned (.plain (OpenSpec.ofChange identNamesSpec)) identNamesCard

/-- THE TIED CARD OF 'semtypelaw1.IdentQuotes'. -/
def identQuotesCard : Claim7 := { stood := { row := identQuotesRow, standIns := [], harness := (true, "33d656f2f21be5c203ee17c793953a483569241fd024a4d59dc6447523c4b79b"), looks := false }, kinds := [], alts := [], laidByText := true, laidKinds := [.sentinel], laidTests := true, laidLooks := .later }
def IdentQuotesCardSaid : Prop := Claim7.holds Tryd.pinned (.plain (OpenSpec.ofChange identQuotesSpec)) identQuotesCard

/-- THE TIED CARD OF 'semtypelaw1.IdentUnquotes'. -/
def identUnquotesCard : Claim7 := { stood := { row := identUnquotesRow, standIns := [], harness := (true, "33d656f2f21be5c203ee17c793953a483569241fd024a4d59dc6447523c4b79b"), looks := false }, kinds := [], alts := [], laidByText := true, laidKinds := [.sentinel], laidTests := true, laidLooks := .later }
def IdentUnquotesCardSaid : Prop := Claim7.holds Tryd.pinned (.plain (OpenSpec.ofChange identUnquotesSpec)) identUnquotesCard

/-- THE TIED CARD OF 'semtypelaw1.IdentFresh'. -/
def identFreshCard : Claim7 := { stood := { row := identFreshRow, standIns := [], harness := (true, "33d656f2f21be5c203ee17c793953a483569241fd024a4d59dc6447523c4b79b"), looks := false }, kinds := [], alts := [], laidByText := true, laidKinds := [.sentinel], laidTests := true, laidLooks := .later }
def IdentFreshCardSaid : Prop := Claim7.holds Tryd.pinned (.plain (OpenSpec.ofChange identFreshSpec)) identFreshCard

/-- THE TIED CARD OF 'semtypelaw1.IdentKeys'. -/
def identKeysCard : Claim7 := { stood := { row := identKeysRow, standIns := [], harness := (true, "33d656f2f21be5c203ee17c793953a483569241fd024a4d59dc6447523c4b79b"), looks := false }, kinds := [], alts := [], laidByText := true, laidKinds := [.sentinel], laidTests := true, laidLooks := .later }
def IdentKeysCardSaid : Prop := Claim7.holds Tryd.pinned (.plain (OpenSpec.ofChange identKeysSpec)) identKeysCard

/-- THE TIED CARD OF 'semtypelaw1.IdentFreshKeys'. -/
def identFreshKeysCard : Claim7 := { stood := { row := identFreshKeysRow, standIns := [], harness := (true, "33d656f2f21be5c203ee17c793953a483569241fd024a4d59dc6447523c4b79b"), looks := false }, kinds := [], alts := [], laidByText := true, laidKinds := [.sentinel], laidTests := true, laidLooks := .later }
def IdentFreshKeysCardSaid : Prop := Claim7.holds Tryd.pinned (.plain (OpenSpec.ofChange identFreshKeysSpec)) identFreshKeysCard

/-- THE TIED CARD OF 'semtypelaw1.IdentOrder'. -/
def identOrderCard : Claim7 := { stood := { row := identOrderRow, standIns := [], harness := (true, "33d656f2f21be5c203ee17c793953a483569241fd024a4d59dc6447523c4b79b"), looks := false }, kinds := [], alts := [], laidByText := true, laidKinds := [.sentinel], laidTests := true, laidLooks := .later }
def IdentOrderCardSaid : Prop := Claim7.holds Tryd.pinned (.plain (OpenSpec.ofChange identOrderSpec)) identOrderCard

/-- THE SECOND FORM's CARD OF 'semtypelaw1.IdentNames'. -/
def identNamesUptoCard : Claim7 := { stood := { row := identNamesUptoRow, standIns := [], harness := (true, "33d656f2f21be5c203ee17c793953a483569241fd024a4d59dc6447523c4b79b"), looks := false }, kinds := [], alts := [], laidByText := true, laidKinds := [.sentinel], laidTests := true, laidLooks := .later }
def IdentNamesUptoCardSaid : Prop := Claim7.holds Tryd.pinned (.plain (OpenSpec.upto identNamesSpec)) identNamesUptoCard

/-- THE SECOND FORM's CARD OF 'semtypelaw1.IdentQuotes'. -/
def identQuotesUptoCard : Claim7 := { stood := { row := identQuotesUptoRow, standIns := [], harness := (true, "33d656f2f21be5c203ee17c793953a483569241fd024a4d59dc6447523c4b79b"), looks := false }, kinds := [], alts := [], laidByText := true, laidKinds := [.sentinel], laidTests := true, laidLooks := .later }
def IdentQuotesUptoCardSaid : Prop := Claim7.holds Tryd.pinned (.plain (OpenSpec.upto identQuotesSpec)) identQuotesUptoCard

/-- THE SECOND FORM's CARD OF 'semtypelaw1.IdentUnquotes'. -/
def identUnquotesUptoCard : Claim7 := { stood := { row := identUnquotesUptoRow, standIns := [], harness := (true, "33d656f2f21be5c203ee17c793953a483569241fd024a4d59dc6447523c4b79b"), looks := false }, kinds := [], alts := [], laidByText := true, laidKinds := [.sentinel], laidTests := true, laidLooks := .later }
def IdentUnquotesUptoCardSaid : Prop := Claim7.holds Tryd.pinned (.plain (OpenSpec.upto identUnquotesSpec)) identUnquotesUptoCard

/-- THE SECOND FORM's CARD OF 'semtypelaw1.IdentFresh'. -/
def identFreshUptoCard : Claim7 := { stood := { row := identFreshUptoRow, standIns := [], harness := (true, "33d656f2f21be5c203ee17c793953a483569241fd024a4d59dc6447523c4b79b"), looks := false }, kinds := [], alts := [], laidByText := true, laidKinds := [.sentinel], laidTests := true, laidLooks := .later }
def IdentFreshUptoCardSaid : Prop := Claim7.holds Tryd.pinned (.plain (OpenSpec.upto identFreshSpec)) identFreshUptoCard

/-- THE SECOND FORM's CARD OF 'semtypelaw1.IdentKeys'. -/
def identKeysUptoCard : Claim7 := { stood := { row := identKeysUptoRow, standIns := [], harness := (true, "33d656f2f21be5c203ee17c793953a483569241fd024a4d59dc6447523c4b79b"), looks := false }, kinds := [], alts := [], laidByText := true, laidKinds := [.sentinel], laidTests := true, laidLooks := .later }
def IdentKeysUptoCardSaid : Prop := Claim7.holds Tryd.pinned (.plain (OpenSpec.upto identKeysSpec)) identKeysUptoCard

/-- THE SECOND FORM's CARD OF 'semtypelaw1.IdentFreshKeys'. -/
def identFreshKeysUptoCard : Claim7 := { stood := { row := identFreshKeysUptoRow, standIns := [], harness := (true, "33d656f2f21be5c203ee17c793953a483569241fd024a4d59dc6447523c4b79b"), looks := false }, kinds := [], alts := [], laidByText := true, laidKinds := [.sentinel], laidTests := true, laidLooks := .later }
def IdentFreshKeysUptoCardSaid : Prop := Claim7.holds Tryd.pinned (.plain (OpenSpec.upto identFreshKeysSpec)) identFreshKeysUptoCard

/-- THE SECOND FORM's CARD OF 'semtypelaw1.IdentOrder'. -/
def identOrderUptoCard : Claim7 := { stood := { row := identOrderUptoRow, standIns := [], harness := (true, "33d656f2f21be5c203ee17c793953a483569241fd024a4d59dc6447523c4b79b"), looks := false }, kinds := [], alts := [], laidByText := true, laidKinds := [.sentinel], laidTests := true, laidLooks := .later }
def IdentOrderUptoCardSaid : Prop := Claim7.holds Tryd.pinned (.plain (OpenSpec.upto identOrderSpec)) identOrderUptoCard
end Rows
end Go.Proofs.YtejiagmfinhjbaaDoor
