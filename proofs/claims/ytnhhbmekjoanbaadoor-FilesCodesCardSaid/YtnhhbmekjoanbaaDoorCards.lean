/-
  DERIVED. GIVEN WITH THE SEED: THE CARDS: each row of YtnhhbmekjoanbaaDoorRows.lean that lists a variable, with what it lists TIED to the program's text (the seventh form; the later family's looks); each row that meets fmt, with fmt's text TOLD by the authors' own Lean function (tested against real Go, not proved from fmt's source: count such statements apart). THE CARD IS WHAT COUNTS. Prove the row's statement (the work); the ties are given (YtnhhbmekjoanbaaDoorTie.lean); close each card by the builder's one call (the guide's Derived/Test/ToyasCard.lean, 'card_holds'). Laid BY PROGRAM, IN A SANDBOX (cutbox-door.mjs). By AI agents, Wed Nov 11 2026. No macro, syntax, notation, axiom, sorry.
-/
import Derived.Test.YtnhhbmekjoanbaaDoorRows
import GoSem.ClaimSeven
namespace Go.Proofs.YtnhhbmekjoanbaaDoor
namespace Rows

/-- THE TIED CARD OF 'armadalaw05.FilesTells'. -/
def filesTellsCard : Claim7 := { stood := { row := filesTellsRow, standIns := [], harness := (true, "ee8727feae1a63f8d1d0031e31c5ba417b4dd6d24753dcefc8799ff2e35956a1"), looks := false }, kinds := [], alts := [], laidByText := true, laidKinds := [.data, .pinned], laidTests := true, laidLooks := .later }
def FilesTellsCardSaid : Prop := Claim7.holds Tryd.pinned (.plain (OpenSpec.ofChange filesTellsSpec)) filesTellsCard

/-- THE TIED CARD OF 'armadalaw05.FilesChange'. -/
def filesChangeCard : Claim7 := { stood := { row := filesChangeRow, standIns := [], harness := (true, "ee8727feae1a63f8d1d0031e31c5ba417b4dd6d24753dcefc8799ff2e35956a1"), looks := false }, kinds := [], alts := [], laidByText := true, laidKinds := [.data, .pinned], laidTests := true, laidLooks := .later }
def FilesChangeCardSaid : Prop := Claim7.holds Tryd.pinned (.plain (OpenSpec.ofChange filesChangeSpec)) filesChangeCard

/-- THE TIED CARD OF 'armadalaw05.FilesCodes'. -/
def filesCodesCard : Claim7 := { stood := { row := filesCodesRow, standIns := [], harness := (true, "ee8727feae1a63f8d1d0031e31c5ba417b4dd6d24753dcefc8799ff2e35956a1"), looks := false }, kinds := [], alts := [], laidByText := true, laidKinds := [.data, .pinned], laidTests := true, laidLooks := .later }
def FilesCodesCardSaid : Prop := Claim7.holds Tryd.pinned (.plain (OpenSpec.ofChange filesCodesSpec)) filesCodesCard

/-- THE TIED CARD OF 'armadalaw05.FilesBack'. -/
def filesBackCard : Claim7 := { stood := { row := filesBackRow, standIns := [], harness := (true, "ee8727feae1a63f8d1d0031e31c5ba417b4dd6d24753dcefc8799ff2e35956a1"), looks := false }, kinds := [], alts := [], laidByText := true, laidKinds := [.data, .pinned], laidTests := true, laidLooks := .later }
def FilesBackCardSaid : Prop := Claim7.holds Tryd.pinned (.plain (OpenSpec.ofChange filesBackSpec)) filesBackCard

/-- THE TIED CARD OF 'armadalaw05.FilesOnce'. -/
def filesOnceCard : Claim7 := { stood := { row := filesOnceRow, standIns := [], harness := (true, "ee8727feae1a63f8d1d0031e31c5ba417b4dd6d24753dcefc8799ff2e35956a1"), looks := false }, kinds := [], alts := [], laidByText := true, laidKinds := [.data, .pinned], laidTests := true, laidLooks := .later }
def FilesOnceCardSaid : Prop := Claim7.holds Tryd.pinned (.plain (OpenSpec.ofChange filesOnceSpec)) filesOnceCard

/-- THE TIED CARD OF 'armadalaw05.FilesParts'. -/
def filesPartsCard : Claim7 := { stood := { row := filesPartsRow, standIns := [], harness := (true, "ee8727feae1a63f8d1d0031e31c5ba417b4dd6d24753dcefc8799ff2e35956a1"), looks := false }, kinds := [], alts := [], laidByText := true, laidKinds := [.data, .pinned], laidTests := true, laidLooks := .later }
def FilesPartsCardSaid : Prop := Claim7.holds Tryd.pinned (.plain (OpenSpec.ofChange filesPartsSpec)) filesPartsCard

/-- THE TIED CARD OF 'armadalaw05.FilesLeast'. -/
def filesLeastCard : Claim7 := { stood := { row := filesLeastRow, standIns := [], harness := (true, "ee8727feae1a63f8d1d0031e31c5ba417b4dd6d24753dcefc8799ff2e35956a1"), looks := false }, kinds := [], alts := [], laidByText := true, laidKinds := [.data, .pinned], laidTests := true, laidLooks := .later }
def FilesLeastCardSaid : Prop := Claim7.holds Tryd.pinned (.plain (OpenSpec.ofChange filesLeastSpec)) filesLeastCard

/-- THE SECOND FORM's CARD OF 'armadalaw05.FilesTells'. -/
def filesTellsUptoCard : Claim7 := { stood := { row := filesTellsUptoRow, standIns := [], harness := (true, "ee8727feae1a63f8d1d0031e31c5ba417b4dd6d24753dcefc8799ff2e35956a1"), looks := false }, kinds := [], alts := [], laidByText := true, laidKinds := [.data, .pinned], laidTests := true, laidLooks := .later }
def FilesTellsUptoCardSaid : Prop := Claim7.holds Tryd.pinned (.plain (OpenSpec.upto filesTellsSpec)) filesTellsUptoCard

/-- THE SECOND FORM's CARD OF 'armadalaw05.FilesChange'. -/
def filesChangeUptoCard : Claim7 := { stood := { row := filesChangeUptoRow, standIns := [], harness := (true, "ee8727feae1a63f8d1d0031e31c5ba417b4dd6d24753dcefc8799ff2e35956a1"), looks := false }, kinds := [], alts := [], laidByText := true, laidKinds := [.data, .pinned], laidTests := true, laidLooks := .later }
def FilesChangeUptoCardSaid : Prop := Claim7.holds Tryd.pinned (.plain (OpenSpec.upto filesChangeSpec)) filesChangeUptoCard

/-- THE SECOND FORM's CARD OF 'armadalaw05.FilesCodes'. -/
def filesCodesUptoCard : Claim7 := { stood := { row := filesCodesUptoRow, standIns := [], harness := (true, "ee8727feae1a63f8d1d0031e31c5ba417b4dd6d24753dcefc8799ff2e35956a1"), looks := false }, kinds := [], alts := [], laidByText := true, laidKinds := [.data, .pinned], laidTests := true, laidLooks := .later }
def FilesCodesUptoCardSaid : Prop := Claim7.holds Tryd.pinned (.plain (OpenSpec.upto filesCodesSpec)) filesCodesUptoCard

/-- THE SECOND FORM's CARD OF 'armadalaw05.FilesBack'. -/
def filesBackUptoCard : Claim7 := { stood := { row := filesBackUptoRow, standIns := [], harness := (true, "ee8727feae1a63f8d1d0031e31c5ba417b4dd6d24753dcefc8799ff2e35956a1"), looks := false }, kinds := [], alts := [], laidByText := true, laidKinds := [.data, .pinned], laidTests := true, laidLooks := .later }
def FilesBackUptoCardSaid : Prop := Claim7.holds Tryd.pinned (.plain (OpenSpec.upto filesBackSpec)) filesBackUptoCard

/-- THE SECOND FORM's CARD OF 'armadalaw05.FilesOnce'. -/
def filesOnceUptoCard : Claim7 := { stood := { row := filesOnceUptoRow, standIns := [], harness := (true, "ee8727feae1a63f8d1d0031e31c5ba417b4dd6d24753dcefc8799ff2e35956a1"), looks := false }, kinds := [], alts := [], laidByText := true, laidKinds := [.data, .pinned], laidTests := true, laidLooks := .later }
def FilesOnceUptoCardSaid : Prop := Claim7.holds Tryd.pinned (.plain (OpenSpec.upto filesOnceSpec)) filesOnceUptoCard

/-- THE SECOND FORM's CARD OF 'armadalaw05.FilesParts'. -/
def filesPartsUptoCard : Claim7 := { stood := { row := filesPartsUptoRow, standIns := [], harness := (true, "ee8727feae1a63f8d1d0031e31c5ba417b4dd6d24753dcefc8799ff2e35956a1"), looks := false }, kinds := [], alts := [], laidByText := true, laidKinds := [.data, .pinned], laidTests := true, laidLooks := .later }
def FilesPartsUptoCardSaid : Prop := Claim7.holds Tryd.pinned (.plain (OpenSpec.upto filesPartsSpec)) filesPartsUptoCard

/-- THE SECOND FORM's CARD OF 'armadalaw05.FilesLeast'. -/
def filesLeastUptoCard : Claim7 := { stood := { row := filesLeastUptoRow, standIns := [], harness := (true, "ee8727feae1a63f8d1d0031e31c5ba417b4dd6d24753dcefc8799ff2e35956a1"), looks := false }, kinds := [], alts := [], laidByText := true, laidKinds := [.data, .pinned], laidTests := true, laidLooks := .later }
def FilesLeastUptoCardSaid : Prop := Claim7.holds Tryd.pinned (.plain (OpenSpec.upto filesLeastSpec)) filesLeastUptoCard
end Rows
end Go.Proofs.YtnhhbmekjoanbaaDoor
