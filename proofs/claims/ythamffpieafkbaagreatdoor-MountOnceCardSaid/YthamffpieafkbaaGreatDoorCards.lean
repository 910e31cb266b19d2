/-
  DERIVED. GIVEN WITH THE SEED: THE CARDS: each row of YthamffpieafkbaaGreatDoorRows.lean that lists a variable, with what it lists TIED to the program's text (the seventh form; the later family's looks); each row that meets fmt, with fmt's text TOLD by the authors' own Lean function (tested against real Go, not proved from fmt's source: count such statements apart). THE CARD IS WHAT COUNTS. Prove the row's statement (the work); the ties are given (YthamffpieafkbaaGreatDoorTie.lean); close each card by the builder's one call (the guide's Derived/Test/ToyasCard.lean, 'card_holds'). Laid BY PROGRAM, IN A SANDBOX (cutbox-door.mjs). By AI agents, Wed Nov 11 2026. No macro, syntax, notation, axiom, sorry.
-/
import Derived.Test.YthamffpieafkbaaGreatDoorRows
import GoSem.ClaimSeven
namespace Go.Proofs.YthamffpieafkbaaGreatDoor
namespace Rows

/-- THE TIED CARD OF 'coraclelaw18.MountScripts'. -/
def mountScriptsCard : Claim7 := { stood := { row := mountScriptsRow, standIns := [], harness := (true, "4031149bb962cb023ad0e167071139ced20b12c0144d5eddcc746347b1fe4e3d"), looks := true }, kinds := [], alts := [], laidByText := true, laidKinds := [.data, .pinned], laidTests := true, laidLooks := .later }
def MountScriptsCardSaid : Prop := Claim7.holds Tryz.pinned (.plain (OpenSpec.ofChange mountScriptsSpec)) mountScriptsCard

/-- THE TIED CARD OF 'coraclelaw18.MountOnce'. -/
def mountOnceCard : Claim7 := { stood := { row := mountOnceRow, standIns := [], harness := (true, "4031149bb962cb023ad0e167071139ced20b12c0144d5eddcc746347b1fe4e3d"), looks := true }, kinds := [], alts := [], laidByText := true, laidKinds := [.data, .pinned], laidTests := true, laidLooks := .later }
def MountOnceCardSaid : Prop := Claim7.holds Tryz.pinned (.plain (OpenSpec.ofChange mountOnceSpec)) mountOnceCard

/-- THE TIED CARD OF 'coraclelaw18.MountAll'. -/
def mountAllCard : Claim7 := { stood := { row := mountAllRow, standIns := [], harness := (true, "4031149bb962cb023ad0e167071139ced20b12c0144d5eddcc746347b1fe4e3d"), looks := true }, kinds := [], alts := [], laidByText := true, laidKinds := [.data, .pinned], laidTests := true, laidLooks := .later }
def MountAllCardSaid : Prop := Claim7.holds Tryz.pinned (.plain (OpenSpec.ofChange mountAllSpec)) mountAllCard

/-- THE TIED CARD OF 'coraclelaw18.MountFull'. -/
def mountFullCard : Claim7 := { stood := { row := mountFullRow, standIns := [], harness := (true, "4031149bb962cb023ad0e167071139ced20b12c0144d5eddcc746347b1fe4e3d"), looks := true }, kinds := [], alts := [], laidByText := true, laidKinds := [.data, .pinned], laidTests := true, laidLooks := .later }
def MountFullCardSaid : Prop := Claim7.holds Tryz.pinned (.plain (OpenSpec.ofChange mountFullSpec)) mountFullCard

/-- THE SECOND FORM's CARD OF 'coraclelaw18.MountScripts'. -/
def mountScriptsUptoCard : Claim7 := { stood := { row := mountScriptsUptoRow, standIns := [], harness := (true, "4031149bb962cb023ad0e167071139ced20b12c0144d5eddcc746347b1fe4e3d"), looks := true }, kinds := [], alts := [], laidByText := true, laidKinds := [.data, .pinned], laidTests := true, laidLooks := .later }
def MountScriptsUptoCardSaid : Prop := Claim7.holds Tryz.pinned (.plain (OpenSpec.upto mountScriptsSpec)) mountScriptsUptoCard

/-- THE SECOND FORM's CARD OF 'coraclelaw18.MountOnce'. -/
def mountOnceUptoCard : Claim7 := { stood := { row := mountOnceUptoRow, standIns := [], harness := (true, "4031149bb962cb023ad0e167071139ced20b12c0144d5eddcc746347b1fe4e3d"), looks := true }, kinds := [], alts := [], laidByText := true, laidKinds := [.data, .pinned], laidTests := true, laidLooks := .later }
def MountOnceUptoCardSaid : Prop := Claim7.holds Tryz.pinned (.plain (OpenSpec.upto mountOnceSpec)) mountOnceUptoCard

/-- THE SECOND FORM's CARD OF 'coraclelaw18.MountAll'. -/
def mountAllUptoCard : Claim7 := { stood := { row := mountAllUptoRow, standIns := [], harness := (true, "4031149bb962cb023ad0e167071139ced20b12c0144d5eddcc746347b1fe4e3d"), looks := true }, kinds := [], alts := [], laidByText := true, laidKinds := [.data, .pinned], laidTests := true, laidLooks := .later }
def MountAllUptoCardSaid : Prop := Claim7.holds Tryz.pinned (.plain (OpenSpec.upto mountAllSpec)) mountAllUptoCard

/-- THE SECOND FORM's CARD OF 'coraclelaw18.MountFull'. -/
def mountFullUptoCard : Claim7 := { stood := { row := mountFullUptoRow, standIns := [], harness := (true, "4031149bb962cb023ad0e167071139ced20b12c0144d5eddcc746347b1fe4e3d"), looks := true }, kinds := [], alts := [], laidByText := true, laidKinds := [.data, .pinned], laidTests := true, laidLooks := .later }
def MountFullUptoCardSaid : Prop := Claim7.holds Tryz.pinned (.plain (OpenSpec.upto mountFullSpec)) mountFullUptoCard
end Rows
end Go.Proofs.YthamffpieafkbaaGreatDoor
