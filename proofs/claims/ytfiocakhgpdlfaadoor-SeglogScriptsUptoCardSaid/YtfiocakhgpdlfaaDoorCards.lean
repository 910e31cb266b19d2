/-
  DERIVED. GIVEN WITH THE SEED: THE CARDS: each row of YtfiocakhgpdlfaaDoorRows.lean that lists a variable, with what it lists TIED to the program's text (the seventh form; the later family's looks); each row that meets fmt, with fmt's text TOLD by the authors' own Lean function (tested against real Go, not proved from fmt's source: count such statements apart). THE CARD IS WHAT COUNTS. Prove the row's statement (the work); the ties are given (YtfiocakhgpdlfaaDoorTie.lean); close each card by the builder's one call (the guide's Derived/Test/ToyasCard.lean, 'card_holds'). Laid BY PROGRAM, IN A SANDBOX (cutbox-door.mjs). By AI agents, Wed Nov 11 2026. No macro, syntax, notation, axiom, sorry.
-/
import Derived.Test.YtfiocakhgpdlfaaDoorRows
import GoSem.ClaimSeven
namespace Go.Proofs.YtfiocakhgpdlfaaDoor
namespace Rows

/-- THE TIED CARD OF 'coraclelaw05.SeglogBoots'. -/
def seglogBootsCard : Claim7 := { stood := { row := seglogBootsRow, standIns := [], harness := (true, "5d437bb163e9cc1a99433f98eb8db5402f3e4dd3a6f74a6dc9b5da703f89b08f"), looks := false }, kinds := [], alts := [], laidByText := true, laidKinds := [.data, .pinned], laidTests := true, laidLooks := .later }
def SeglogBootsCardSaid : Prop := Claim7.holds Tryd.pinned (.plain (OpenSpec.ofChange seglogBootsSpec)) seglogBootsCard

/-- THE TIED CARD OF 'coraclelaw05.SeglogCrash'. -/
def seglogCrashCard : Claim7 := { stood := { row := seglogCrashRow, standIns := [], harness := (true, "5d437bb163e9cc1a99433f98eb8db5402f3e4dd3a6f74a6dc9b5da703f89b08f"), looks := false }, kinds := [], alts := [], laidByText := true, laidKinds := [.data, .pinned], laidTests := true, laidLooks := .later }
def SeglogCrashCardSaid : Prop := Claim7.holds Tryd.pinned (.plain (OpenSpec.ofChange seglogCrashSpec)) seglogCrashCard

/-- THE TIED CARD OF 'coraclelaw05.SeglogScripts'. -/
def seglogScriptsCard : Claim7 := { stood := { row := seglogScriptsRow, standIns := [], harness := (true, "5d437bb163e9cc1a99433f98eb8db5402f3e4dd3a6f74a6dc9b5da703f89b08f"), looks := false }, kinds := [], alts := [], laidByText := true, laidKinds := [.data, .pinned], laidTests := true, laidLooks := .later }
def SeglogScriptsCardSaid : Prop := Claim7.holds Tryd.pinned (.plain (OpenSpec.ofChange seglogScriptsSpec)) seglogScriptsCard

/-- THE TIED CARD OF 'coraclelaw05.SeglogNil'. -/
def seglogNilCard : Claim7 := { stood := { row := seglogNilRow, standIns := [], harness := (true, "5d437bb163e9cc1a99433f98eb8db5402f3e4dd3a6f74a6dc9b5da703f89b08f"), looks := false }, kinds := [], alts := [], laidByText := true, laidKinds := [.data, .pinned], laidTests := true, laidLooks := .later }
def SeglogNilCardSaid : Prop := Claim7.holds Tryd.pinned (.plain (OpenSpec.ofChange seglogNilSpec)) seglogNilCard

/-- THE TIED CARD OF 'coraclelaw05.SeglogFills'. -/
def seglogFillsCard : Claim7 := { stood := { row := seglogFillsRow, standIns := [], harness := (true, "5d437bb163e9cc1a99433f98eb8db5402f3e4dd3a6f74a6dc9b5da703f89b08f"), looks := false }, kinds := [], alts := [], laidByText := true, laidKinds := [.data, .pinned], laidTests := true, laidLooks := .later }
def SeglogFillsCardSaid : Prop := Claim7.holds Tryd.pinned (.plain (OpenSpec.ofChange seglogFillsSpec)) seglogFillsCard

/-- THE SECOND FORM's CARD OF 'coraclelaw05.SeglogBoots'. -/
def seglogBootsUptoCard : Claim7 := { stood := { row := seglogBootsUptoRow, standIns := [], harness := (true, "5d437bb163e9cc1a99433f98eb8db5402f3e4dd3a6f74a6dc9b5da703f89b08f"), looks := false }, kinds := [], alts := [], laidByText := true, laidKinds := [.data, .pinned], laidTests := true, laidLooks := .later }
def SeglogBootsUptoCardSaid : Prop := Claim7.holds Tryd.pinned (.plain (OpenSpec.upto seglogBootsSpec)) seglogBootsUptoCard

/-- THE SECOND FORM's CARD OF 'coraclelaw05.SeglogCrash'. -/
def seglogCrashUptoCard : Claim7 := { stood := { row := seglogCrashUptoRow, standIns := [], harness := (true, "5d437bb163e9cc1a99433f98eb8db5402f3e4dd3a6f74a6dc9b5da703f89b08f"), looks := false }, kinds := [], alts := [], laidByText := true, laidKinds := [.data, .pinned], laidTests := true, laidLooks := .later }
def SeglogCrashUptoCardSaid : Prop := Claim7.holds Tryd.pinned (.plain (OpenSpec.upto seglogCrashSpec)) seglogCrashUptoCard

/-- THE SECOND FORM's CARD OF 'coraclelaw05.SeglogScripts'. -/
def seglogScriptsUptoCard : Claim7 := { stood := { row := seglogScriptsUptoRow, standIns := [], harness := (true, "5d437bb163e9cc1a99433f98eb8db5402f3e4dd3a6f74a6dc9b5da703f89b08f"), looks := false }, kinds := [], alts := [], laidByText := true, laidKinds := [.data, .pinned], laidTests := true, laidLooks := .later }
def SeglogScriptsUptoCardSaid : Prop := Claim7.holds Tryd.pinned (.plain (OpenSpec.upto seglogScriptsSpec)) seglogScriptsUptoCard

/-- THE SECOND FORM's CARD OF 'coraclelaw05.SeglogNil'. -/
def seglogNilUptoCard : Claim7 := { stood := { row := seglogNilUptoRow, standIns := [], harness := (true, "5d437bb163e9cc1a99433f98eb8db5402f3e4dd3a6f74a6dc9b5da703f89b08f"), looks := false }, kinds := [], alts := [], laidByText := true, laidKinds := [.data, .pinned], laidTests := true, laidLooks := .later }
def SeglogNilUptoCardSaid : Prop := Claim7.holds Tryd.pinned (.plain (OpenSpec.upto seglogNilSpec)) seglogNilUptoCard

/-- THE SECOND FORM's CARD OF 'coraclelaw05.SeglogFills'. -/
def seglogFillsUptoCard : Claim7 := { stood := { row := seglogFillsUptoRow, standIns := [], harness := (true, "5d437bb163e9cc1a99433f98eb8db5402f3e4dd3a6f74a6dc9b5da703f89b08f"), looks := false }, kinds := [], alts := [], laidByText := true, laidKinds := [.data, .pinned], laidTests := true, laidLooks := .later }
def SeglogFillsUptoCardSaid : Prop := Claim7.holds Tryd.pinned (.plain (OpenSpec.upto seglogFillsSpec)) seglogFillsUptoCard
end Rows
end Go.Proofs.YtfiocakhgpdlfaaDoor
