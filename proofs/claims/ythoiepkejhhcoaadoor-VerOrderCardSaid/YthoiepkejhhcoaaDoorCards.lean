/-
  DERIVED. GIVEN WITH THE SEED: THE CARDS: each row of YthoiepkejhhcoaaDoorRows.lean that lists a variable, with what it lists TIED to the program's text (the seventh form; the later family's looks); each row that meets fmt, with fmt's text TOLD by the authors' own Lean function (tested against real Go, not proved from fmt's source: count such statements apart). THE CARD IS WHAT COUNTS. Prove the row's statement (the work); the ties are given (YthoiepkejhhcoaaDoorTie.lean); close each card by the builder's one call (the guide's Derived/Test/ToyasCard.lean, 'card_holds'). Laid BY PROGRAM, IN A SANDBOX (cutbox-door.mjs). By AI agents, Wed Nov 11 2026. No macro, syntax, notation, axiom, sorry.
-/
import Derived.Test.YthoiepkejhhcoaaDoorRows
import GoSem.ClaimSeven
namespace Go.Proofs.YthoiepkejhhcoaaDoor
namespace Rows

/-- THE TIED CARD OF 'armadalaw07.VerTells'. -/
def verTellsCard : Claim7 := { stood := { row := verTellsRow, standIns := [], harness := (true, "9e7edf58c79726769a1360b2a4a3c4c3d3eb9982a67962cb0991b218cb4beedb"), looks := true }, kinds := [], alts := [], laidByText := true, laidKinds := [.data, .data, .data, .data, .sentinel, .sentinel, .pinned], laidTests := true, laidLooks := .later }
def VerTellsCardSaid : Prop := Claim7.holds Tryd.pinned (.plain (OpenSpec.ofChange verTellsSpec)) verTellsCard

/-- THE TIED CARD OF 'armadalaw07.VerOrder'. -/
def verOrderCard : Claim7 := { stood := { row := verOrderRow, standIns := [], harness := (true, "9e7edf58c79726769a1360b2a4a3c4c3d3eb9982a67962cb0991b218cb4beedb"), looks := true }, kinds := [], alts := [], laidByText := true, laidKinds := [.data, .data, .data, .data, .sentinel, .sentinel, .pinned], laidTests := true, laidLooks := .later }
def VerOrderCardSaid : Prop := Claim7.holds Tryd.pinned (.plain (OpenSpec.ofChange verOrderSpec)) verOrderCard

/-- THE TIED CARD OF 'armadalaw07.VerBack'. -/
def verBackCard : Claim7 := { stood := { row := verBackRow, standIns := [], harness := (true, "9e7edf58c79726769a1360b2a4a3c4c3d3eb9982a67962cb0991b218cb4beedb"), looks := true }, kinds := [], alts := [], laidByText := true, laidKinds := [.data, .data, .data, .data, .sentinel, .sentinel, .pinned], laidTests := true, laidLooks := .later }
def VerBackCardSaid : Prop := Claim7.holds Tryd.pinned (.plain (OpenSpec.ofChange verBackSpec)) verBackCard

/-- THE TIED CARD OF 'armadalaw07.VerLine'. -/
def verLineCard : Claim7 := { stood := { row := verLineRow, standIns := [], harness := (true, "9e7edf58c79726769a1360b2a4a3c4c3d3eb9982a67962cb0991b218cb4beedb"), looks := true }, kinds := [], alts := [], laidByText := true, laidKinds := [.data, .data, .data, .data, .sentinel, .sentinel, .pinned], laidTests := true, laidLooks := .later }
def VerLineCardSaid : Prop := Claim7.holds Tryd.pinned (.plain (OpenSpec.ofChange verLineSpec)) verLineCard

/-- THE TIED CARD OF 'armadalaw07.VerBumps'. -/
def verBumpsCard : Claim7 := { stood := { row := verBumpsRow, standIns := [], harness := (true, "9e7edf58c79726769a1360b2a4a3c4c3d3eb9982a67962cb0991b218cb4beedb"), looks := true }, kinds := [], alts := [], laidByText := true, laidKinds := [.data, .data, .data, .data, .sentinel, .sentinel, .pinned], laidTests := true, laidLooks := .later }
def VerBumpsCardSaid : Prop := Claim7.holds Tryd.pinned (.plain (OpenSpec.ofChange verBumpsSpec)) verBumpsCard

/-- THE TIED CARD OF 'armadalaw07.VerMax'. -/
def verMaxCard : Claim7 := { stood := { row := verMaxRow, standIns := [], harness := (true, "9e7edf58c79726769a1360b2a4a3c4c3d3eb9982a67962cb0991b218cb4beedb"), looks := true }, kinds := [], alts := [], laidByText := true, laidKinds := [.data, .data, .data, .data, .sentinel, .sentinel, .pinned], laidTests := true, laidLooks := .later }
def VerMaxCardSaid : Prop := Claim7.holds Tryd.pinned (.plain (OpenSpec.ofChange verMaxSpec)) verMaxCard

/-- THE TIED CARD OF 'armadalaw07.VerBuilds'. -/
def verBuildsCard : Claim7 := { stood := { row := verBuildsRow, standIns := [], harness := (true, "9e7edf58c79726769a1360b2a4a3c4c3d3eb9982a67962cb0991b218cb4beedb"), looks := true }, kinds := [], alts := [], laidByText := true, laidKinds := [.data, .data, .data, .data, .sentinel, .sentinel, .pinned], laidTests := true, laidLooks := .later }
def VerBuildsCardSaid : Prop := Claim7.holds Tryd.pinned (.plain (OpenSpec.ofChange verBuildsSpec)) verBuildsCard

/-- THE SECOND FORM's CARD OF 'armadalaw07.VerTells'. -/
def verTellsUptoCard : Claim7 := { stood := { row := verTellsUptoRow, standIns := [], harness := (true, "9e7edf58c79726769a1360b2a4a3c4c3d3eb9982a67962cb0991b218cb4beedb"), looks := true }, kinds := [], alts := [], laidByText := true, laidKinds := [.data, .data, .data, .data, .sentinel, .sentinel, .pinned], laidTests := true, laidLooks := .later }
def VerTellsUptoCardSaid : Prop := Claim7.holds Tryd.pinned (.plain (OpenSpec.upto verTellsSpec)) verTellsUptoCard

/-- THE SECOND FORM's CARD OF 'armadalaw07.VerOrder'. -/
def verOrderUptoCard : Claim7 := { stood := { row := verOrderUptoRow, standIns := [], harness := (true, "9e7edf58c79726769a1360b2a4a3c4c3d3eb9982a67962cb0991b218cb4beedb"), looks := true }, kinds := [], alts := [], laidByText := true, laidKinds := [.data, .data, .data, .data, .sentinel, .sentinel, .pinned], laidTests := true, laidLooks := .later }
def VerOrderUptoCardSaid : Prop := Claim7.holds Tryd.pinned (.plain (OpenSpec.upto verOrderSpec)) verOrderUptoCard

/-- THE SECOND FORM's CARD OF 'armadalaw07.VerBack'. -/
def verBackUptoCard : Claim7 := { stood := { row := verBackUptoRow, standIns := [], harness := (true, "9e7edf58c79726769a1360b2a4a3c4c3d3eb9982a67962cb0991b218cb4beedb"), looks := true }, kinds := [], alts := [], laidByText := true, laidKinds := [.data, .data, .data, .data, .sentinel, .sentinel, .pinned], laidTests := true, laidLooks := .later }
def VerBackUptoCardSaid : Prop := Claim7.holds Tryd.pinned (.plain (OpenSpec.upto verBackSpec)) verBackUptoCard

/-- THE SECOND FORM's CARD OF 'armadalaw07.VerLine'. -/
def verLineUptoCard : Claim7 := { stood := { row := verLineUptoRow, standIns := [], harness := (true, "9e7edf58c79726769a1360b2a4a3c4c3d3eb9982a67962cb0991b218cb4beedb"), looks := true }, kinds := [], alts := [], laidByText := true, laidKinds := [.data, .data, .data, .data, .sentinel, .sentinel, .pinned], laidTests := true, laidLooks := .later }
def VerLineUptoCardSaid : Prop := Claim7.holds Tryd.pinned (.plain (OpenSpec.upto verLineSpec)) verLineUptoCard

/-- THE SECOND FORM's CARD OF 'armadalaw07.VerBumps'. -/
def verBumpsUptoCard : Claim7 := { stood := { row := verBumpsUptoRow, standIns := [], harness := (true, "9e7edf58c79726769a1360b2a4a3c4c3d3eb9982a67962cb0991b218cb4beedb"), looks := true }, kinds := [], alts := [], laidByText := true, laidKinds := [.data, .data, .data, .data, .sentinel, .sentinel, .pinned], laidTests := true, laidLooks := .later }
def VerBumpsUptoCardSaid : Prop := Claim7.holds Tryd.pinned (.plain (OpenSpec.upto verBumpsSpec)) verBumpsUptoCard

/-- THE SECOND FORM's CARD OF 'armadalaw07.VerMax'. -/
def verMaxUptoCard : Claim7 := { stood := { row := verMaxUptoRow, standIns := [], harness := (true, "9e7edf58c79726769a1360b2a4a3c4c3d3eb9982a67962cb0991b218cb4beedb"), looks := true }, kinds := [], alts := [], laidByText := true, laidKinds := [.data, .data, .data, .data, .sentinel, .sentinel, .pinned], laidTests := true, laidLooks := .later }
def VerMaxUptoCardSaid : Prop := Claim7.holds Tryd.pinned (.plain (OpenSpec.upto verMaxSpec)) verMaxUptoCard

/-- THE SECOND FORM's CARD OF 'armadalaw07.VerBuilds'. -/
def verBuildsUptoCard : Claim7 := { stood := { row := verBuildsUptoRow, standIns := [], harness := (true, "9e7edf58c79726769a1360b2a4a3c4c3d3eb9982a67962cb0991b218cb4beedb"), looks := true }, kinds := [], alts := [], laidByText := true, laidKinds := [.data, .data, .data, .data, .sentinel, .sentinel, .pinned], laidTests := true, laidLooks := .later }
def VerBuildsUptoCardSaid : Prop := Claim7.holds Tryd.pinned (.plain (OpenSpec.upto verBuildsSpec)) verBuildsUptoCard
end Rows
end Go.Proofs.YthoiepkejhhcoaaDoor
