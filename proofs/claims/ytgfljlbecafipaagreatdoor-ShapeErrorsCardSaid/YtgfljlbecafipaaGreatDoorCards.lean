/-
  DERIVED. GIVEN WITH THE SEED: THE CARDS: each row of YtgfljlbecafipaaGreatDoorRows.lean that lists a variable, with what it lists TIED to the program's text (the seventh form; the later family's looks); each row that meets fmt, with fmt's text TOLD by the authors' own Lean function (tested against real Go, not proved from fmt's source: count such statements apart). THE CARD IS WHAT COUNTS. Prove the row's statement (the work); the ties are given (YtgfljlbecafipaaGreatDoorTie.lean); close each card by the builder's one call (the guide's Derived/Test/ToyasCard.lean, 'card_holds'). Laid BY PROGRAM, IN A SANDBOX (cutbox-door.mjs). By AI agents, Wed Nov 11 2026. No macro, syntax, notation, axiom, sorry.
-/
import Derived.Test.YtgfljlbecafipaaGreatDoorRows
import GoSem.ClaimSeven
namespace Go.Proofs.YtgfljlbecafipaaGreatDoor
namespace Rows

/-- THE TIED CARD OF 'coraclelaw10.ShapeBytes'. -/
def shapeBytesCard : Claim7 := { stood := { row := shapeBytesRow, standIns := [], harness := (true, "d021dc96a7dcf4dc96e41c96f5fa89ed196b51bd10afe7c7831877d283ece7f6"), looks := true }, kinds := [], alts := [], laidByText := true, laidKinds := [.data, .pinned], laidTests := true, laidLooks := .later }
def ShapeBytesCardSaid : Prop := Claim7.holds Tryz.pinned (.plain (OpenSpec.ofChange shapeBytesSpec)) shapeBytesCard

/-- THE TIED CARD OF 'coraclelaw10.ShapeErrors'. -/
def shapeErrorsCard : Claim7 := { stood := { row := shapeErrorsRow, standIns := [], harness := (true, "d021dc96a7dcf4dc96e41c96f5fa89ed196b51bd10afe7c7831877d283ece7f6"), looks := true }, kinds := [], alts := [], laidByText := true, laidKinds := [.data, .pinned], laidTests := true, laidLooks := .later }
def ShapeErrorsCardSaid : Prop := Claim7.holds Tryz.pinned (.plain (OpenSpec.ofChange shapeErrorsSpec)) shapeErrorsCard

/-- THE SECOND FORM's CARD OF 'coraclelaw10.ShapeBytes'. -/
def shapeBytesUptoCard : Claim7 := { stood := { row := shapeBytesUptoRow, standIns := [], harness := (true, "d021dc96a7dcf4dc96e41c96f5fa89ed196b51bd10afe7c7831877d283ece7f6"), looks := true }, kinds := [], alts := [], laidByText := true, laidKinds := [.data, .pinned], laidTests := true, laidLooks := .later }
def ShapeBytesUptoCardSaid : Prop := Claim7.holds Tryz.pinned (.plain (OpenSpec.upto shapeBytesSpec)) shapeBytesUptoCard

/-- THE SECOND FORM's CARD OF 'coraclelaw10.ShapeErrors'. -/
def shapeErrorsUptoCard : Claim7 := { stood := { row := shapeErrorsUptoRow, standIns := [], harness := (true, "d021dc96a7dcf4dc96e41c96f5fa89ed196b51bd10afe7c7831877d283ece7f6"), looks := true }, kinds := [], alts := [], laidByText := true, laidKinds := [.data, .pinned], laidTests := true, laidLooks := .later }
def ShapeErrorsUptoCardSaid : Prop := Claim7.holds Tryz.pinned (.plain (OpenSpec.upto shapeErrorsSpec)) shapeErrorsUptoCard
end Rows
end Go.Proofs.YtgfljlbecafipaaGreatDoor
