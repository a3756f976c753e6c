/-
  DERIVED. GIVEN WITH THE SEED: THE CARDS: each row of YtjmomhicemjilaaDoorRows.lean that lists a variable, with what it lists TIED to the program's text (the seventh form; the later family's looks); each row that meets fmt, with fmt's text TOLD by the authors' own Lean function (tested against real Go, not proved from fmt's source: count such statements apart). THE CARD IS WHAT COUNTS. Prove the row's statement (the work); the ties are given (YtjmomhicemjilaaDoorTie.lean); close each card by the builder's one call (the guide's Derived/Test/ToyasCard.lean, 'card_holds'). Laid BY PROGRAM, IN A SANDBOX (cutbox-door.mjs). By AI agents, Wed Nov 11 2026. No macro, syntax, notation, axiom, sorry.
-/
import Derived.Test.YtjmomhicemjilaaDoorRows
import GoSem.ClaimSeven
namespace Go.Proofs.YtjmomhicemjilaaDoor
namespace Rows

/-- THE TIED CARD OF 'armadalaw13.B64Tells'. -/
def b64TellsCard : Claim7 := { stood := { row := b64TellsRow, standIns := [], harness := (true, "70694da2beefe3e434919baaf461988c770e15d99d61b2da8d43dd8e3aed6300"), looks := false }, kinds := [], alts := [], laidByText := true, laidKinds := [.data, .pinned], laidTests := true, laidLooks := .later }
def B64TellsCardSaid : Prop := Claim7.holds Tryd.pinned (.plain (OpenSpec.ofChange b64TellsSpec)) b64TellsCard

/-- THE TIED CARD OF 'armadalaw13.B64Back'. -/
def b64BackCard : Claim7 := { stood := { row := b64BackRow, standIns := [], harness := (true, "70694da2beefe3e434919baaf461988c770e15d99d61b2da8d43dd8e3aed6300"), looks := false }, kinds := [], alts := [], laidByText := true, laidKinds := [.data, .pinned], laidTests := true, laidLooks := .later }
def B64BackCardSaid : Prop := Claim7.holds Tryd.pinned (.plain (OpenSpec.ofChange b64BackSpec)) b64BackCard

/-- THE TIED CARD OF 'armadalaw13.B64Apart'. -/
def b64ApartCard : Claim7 := { stood := { row := b64ApartRow, standIns := [], harness := (true, "70694da2beefe3e434919baaf461988c770e15d99d61b2da8d43dd8e3aed6300"), looks := false }, kinds := [], alts := [], laidByText := true, laidKinds := [.data, .pinned], laidTests := true, laidLooks := .later }
def B64ApartCardSaid : Prop := Claim7.holds Tryd.pinned (.plain (OpenSpec.ofChange b64ApartSpec)) b64ApartCard

/-- THE TIED CARD OF 'armadalaw13.B64Cut'. -/
def b64CutCard : Claim7 := { stood := { row := b64CutRow, standIns := [], harness := (true, "70694da2beefe3e434919baaf461988c770e15d99d61b2da8d43dd8e3aed6300"), looks := false }, kinds := [], alts := [], laidByText := true, laidKinds := [.data, .pinned], laidTests := true, laidLooks := .later }
def B64CutCardSaid : Prop := Claim7.holds Tryd.pinned (.plain (OpenSpec.ofChange b64CutSpec)) b64CutCard

/-- THE SECOND FORM's CARD OF 'armadalaw13.B64Tells'. -/
def b64TellsUptoCard : Claim7 := { stood := { row := b64TellsUptoRow, standIns := [], harness := (true, "70694da2beefe3e434919baaf461988c770e15d99d61b2da8d43dd8e3aed6300"), looks := false }, kinds := [], alts := [], laidByText := true, laidKinds := [.data, .pinned], laidTests := true, laidLooks := .later }
def B64TellsUptoCardSaid : Prop := Claim7.holds Tryd.pinned (.plain (OpenSpec.upto b64TellsSpec)) b64TellsUptoCard

/-- THE SECOND FORM's CARD OF 'armadalaw13.B64Back'. -/
def b64BackUptoCard : Claim7 := { stood := { row := b64BackUptoRow, standIns := [], harness := (true, "70694da2beefe3e434919baaf461988c770e15d99d61b2da8d43dd8e3aed6300"), looks := false }, kinds := [], alts := [], laidByText := true, laidKinds := [.data, .pinned], laidTests := true, laidLooks := .later }
def B64BackUptoCardSaid : Prop := Claim7.holds Tryd.pinned (.plain (OpenSpec.upto b64BackSpec)) b64BackUptoCard

/-- THE SECOND FORM's CARD OF 'armadalaw13.B64Apart'. -/
def b64ApartUptoCard : Claim7 := { stood := { row := b64ApartUptoRow, standIns := [], harness := (true, "70694da2beefe3e434919baaf461988c770e15d99d61b2da8d43dd8e3aed6300"), looks := false }, kinds := [], alts := [], laidByText := true, laidKinds := [.data, .pinned], laidTests := true, laidLooks := .later }
def B64ApartUptoCardSaid : Prop := Claim7.holds Tryd.pinned (.plain (OpenSpec.upto b64ApartSpec)) b64ApartUptoCard

/-- THE SECOND FORM's CARD OF 'armadalaw13.B64Cut'. -/
def b64CutUptoCard : Claim7 := { stood := { row := b64CutUptoRow, standIns := [], harness := (true, "70694da2beefe3e434919baaf461988c770e15d99d61b2da8d43dd8e3aed6300"), looks := false }, kinds := [], alts := [], laidByText := true, laidKinds := [.data, .pinned], laidTests := true, laidLooks := .later }
def B64CutUptoCardSaid : Prop := Claim7.holds Tryd.pinned (.plain (OpenSpec.upto b64CutSpec)) b64CutUptoCard
end Rows
end Go.Proofs.YtjmomhicemjilaaDoor
