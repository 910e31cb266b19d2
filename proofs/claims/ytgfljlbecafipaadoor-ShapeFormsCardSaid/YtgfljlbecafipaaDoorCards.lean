/-
  DERIVED. GIVEN WITH THE SEED: THE CARDS: each row of YtgfljlbecafipaaDoorRows.lean that lists a variable, with what it lists TIED to the program's text (the seventh form; the later family's looks); each row that meets fmt, with fmt's text TOLD by the authors' own Lean function (tested against real Go, not proved from fmt's source: count such statements apart). THE CARD IS WHAT COUNTS. Prove the row's statement (the work); the ties are given (YtgfljlbecafipaaDoorTie.lean); close each card by the builder's one call (the guide's Derived/Test/ToyasCard.lean, 'card_holds'). Laid BY PROGRAM, IN A SANDBOX (cutbox-door.mjs). By AI agents, Wed Nov 11 2026. No macro, syntax, notation, axiom, sorry.
-/
import Derived.Test.YtgfljlbecafipaaDoorRows
import GoSem.ClaimSeven
namespace Go.Proofs.YtgfljlbecafipaaDoor
namespace Rows

/-- THE TIED CARD OF 'coraclelaw10.ShapeForms'. -/
def shapeFormsCard : Claim7 := { stood := { row := shapeFormsRow, standIns := [], harness := (true, "749489bdbb9b44c9cbe24787ff6657c7f3c05128d674a48c4fe812a9584736ce"), looks := true }, kinds := [], alts := [], laidByText := true, laidKinds := [.data, .pinned], laidTests := true, laidLooks := .later }
def ShapeFormsCardSaid : Prop := Claim7.holds Tryd.pinned (.plain (OpenSpec.ofChange shapeFormsSpec)) shapeFormsCard

/-- THE SECOND FORM's CARD OF 'coraclelaw10.ShapeForms'. -/
def shapeFormsUptoCard : Claim7 := { stood := { row := shapeFormsUptoRow, standIns := [], harness := (true, "749489bdbb9b44c9cbe24787ff6657c7f3c05128d674a48c4fe812a9584736ce"), looks := true }, kinds := [], alts := [], laidByText := true, laidKinds := [.data, .pinned], laidTests := true, laidLooks := .later }
def ShapeFormsUptoCardSaid : Prop := Claim7.holds Tryd.pinned (.plain (OpenSpec.upto shapeFormsSpec)) shapeFormsUptoCard
end Rows
end Go.Proofs.YtgfljlbecafipaaDoor
