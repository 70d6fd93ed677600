/-
  DERIVED. GIVEN WITH THE SEED: THE CARDS: each row of YtkiojenkpbkjpaaGreatDoorRows.lean that lists a variable, with what it lists TIED to the program's text (the seventh form; the later family's looks); each row that meets fmt, with fmt's text TOLD by the authors' own Lean function (tested against real Go, not proved from fmt's source: count such statements apart). THE CARD IS WHAT COUNTS. Prove the row's statement (the work); the ties are given (YtkiojenkpbkjpaaGreatDoorTie.lean); close each card by the builder's one call (the guide's Derived/Test/ToyasCard.lean, 'card_holds'). Laid BY PROGRAM, IN A SANDBOX (cutbox-door.mjs). By AI agents, Wed Nov 11 2026. No macro, syntax, notation, axiom, sorry.
-/
import Derived.Test.YtkiojenkpbkjpaaGreatDoorRows
import GoSem.ClaimSeven
namespace Go.Proofs.YtkiojenkpbkjpaaGreatDoor
namespace Rows

/-- THE TIED CARD OF 'replevinlaw24.ViewLong'. -/
def viewLongCard : Claim7 := { stood := { row := viewLongRow, standIns := [], harness := (true, "097ddc23ed3c0a1f79d545db1f5f0140b361eafbf70d0b2fe4a5f9d604414c98"), looks := true }, kinds := [], alts := [], laidByText := true, laidKinds := [.data, .data, .data, .sentinel, .sentinel], laidTests := true, laidLooks := .later }
def ViewLongCardSaid : Prop := Claim7.holds Tryz.pinned (.plain (OpenSpec.ofChange viewLongSpec)) viewLongCard

/-- THE TIED CARD OF 'replevinlaw24.ViewPlays'. -/
def viewPlaysCard : Claim7 := { stood := { row := viewPlaysRow, standIns := [], harness := (true, "097ddc23ed3c0a1f79d545db1f5f0140b361eafbf70d0b2fe4a5f9d604414c98"), looks := true }, kinds := [], alts := [], laidByText := true, laidKinds := [.data, .data, .data, .sentinel, .sentinel], laidTests := true, laidLooks := .later }
def ViewPlaysCardSaid : Prop := Claim7.holds Tryz.pinned (.plain (OpenSpec.ofChange viewPlaysSpec)) viewPlaysCard

/-- THE TIED CARD OF 'replevinlaw24.ViewAlone'. -/
def viewAloneCard : Claim7 := { stood := { row := viewAloneRow, standIns := [], harness := (true, "097ddc23ed3c0a1f79d545db1f5f0140b361eafbf70d0b2fe4a5f9d604414c98"), looks := true }, kinds := [], alts := [], laidByText := true, laidKinds := [.data, .data, .data, .sentinel, .sentinel], laidTests := true, laidLooks := .later }
def ViewAloneCardSaid : Prop := Claim7.holds Tryz.pinned (.plain (OpenSpec.ofChange viewAloneSpec)) viewAloneCard

/-- THE TIED CARD OF 'replevinlaw24.ViewFrame'. -/
def viewFrameCard : Claim7 := { stood := { row := viewFrameRow, standIns := [], harness := (true, "097ddc23ed3c0a1f79d545db1f5f0140b361eafbf70d0b2fe4a5f9d604414c98"), looks := true }, kinds := [], alts := [], laidByText := true, laidKinds := [.data, .data, .data, .sentinel, .sentinel], laidTests := true, laidLooks := .later }
def ViewFrameCardSaid : Prop := Claim7.holds Tryz.pinned (.plain (OpenSpec.ofChange viewFrameSpec)) viewFrameCard

/-- THE TIED CARD OF 'replevinlaw46.VersionsChanges'. -/
def versionsChangesCard : Claim7 := { stood := { row := versionsChangesRow, standIns := [], harness := (true, "097ddc23ed3c0a1f79d545db1f5f0140b361eafbf70d0b2fe4a5f9d604414c98"), looks := true }, kinds := [], alts := [], laidByText := true, laidKinds := [.data, .data, .data, .sentinel, .sentinel], laidTests := true, laidLooks := .later }
def VersionsChangesCardSaid : Prop := Claim7.holds Tryz.pinned (.plain (OpenSpec.ofChange versionsChangesSpec)) versionsChangesCard

/-- THE TIED CARD OF 'replevinlaw54.TaintAlone'. -/
def taintAloneCard : Claim7 := { stood := { row := taintAloneRow, standIns := [], harness := (true, "097ddc23ed3c0a1f79d545db1f5f0140b361eafbf70d0b2fe4a5f9d604414c98"), looks := true }, kinds := [], alts := [], laidByText := true, laidKinds := [.data, .data, .data, .sentinel, .sentinel], laidTests := true, laidLooks := .later }
def TaintAloneCardSaid : Prop := Claim7.holds Tryz.pinned (.plain (OpenSpec.ofChange taintAloneSpec)) taintAloneCard

/-- THE TIED CARD OF 'replevinlaw46.VersionsOf'. -/
def versionsOfCard : Claim7 := { stood := { row := versionsOfRow, standIns := [], harness := (true, "097ddc23ed3c0a1f79d545db1f5f0140b361eafbf70d0b2fe4a5f9d604414c98"), looks := true }, kinds := [], alts := [], laidByText := true, laidKinds := [.data, .data, .data, .sentinel, .sentinel], laidTests := true, laidLooks := .later }
def VersionsOfCardSaid : Prop := Claim7.holds Tryz.pinned (.plain (OpenSpec.ofChange versionsOfSpec)) versionsOfCard

/-- THE TIED CARD OF 'replevinlaw54.TaintErrors'. -/
def taintErrorsCard : Claim7 := { stood := { row := taintErrorsRow, standIns := [], harness := (true, "097ddc23ed3c0a1f79d545db1f5f0140b361eafbf70d0b2fe4a5f9d604414c98"), looks := true }, kinds := [], alts := [], laidByText := true, laidKinds := [.data, .data, .data, .sentinel, .sentinel], laidTests := true, laidLooks := .later }
def TaintErrorsCardSaid : Prop := Claim7.holds Tryz.pinned (.plain (OpenSpec.ofChange taintErrorsSpec)) taintErrorsCard

/-- THE TIED CARD OF 'replevinlaw46.VersionsConsistent'. -/
def versionsConsistentCard : Claim7 := { stood := { row := versionsConsistentRow, standIns := [], harness := (true, "097ddc23ed3c0a1f79d545db1f5f0140b361eafbf70d0b2fe4a5f9d604414c98"), looks := true }, kinds := [], alts := [], laidByText := true, laidKinds := [.data, .data, .data, .sentinel, .sentinel], laidTests := true, laidLooks := .later }
def VersionsConsistentCardSaid : Prop := Claim7.holds Tryz.pinned (.plain (OpenSpec.ofChange versionsConsistentSpec)) versionsConsistentCard

/-- THE TIED CARD OF 'replevinlaw46.VersionsBuilds'. -/
def versionsBuildsCard : Claim7 := { stood := { row := versionsBuildsRow, standIns := [], harness := (true, "097ddc23ed3c0a1f79d545db1f5f0140b361eafbf70d0b2fe4a5f9d604414c98"), looks := true }, kinds := [], alts := [], laidByText := true, laidKinds := [.data, .data, .data, .sentinel, .sentinel], laidTests := true, laidLooks := .later }
def VersionsBuildsCardSaid : Prop := Claim7.holds Tryz.pinned (.plain (OpenSpec.ofChange versionsBuildsSpec)) versionsBuildsCard

/-- THE TIED CARD OF 'replevinlaw54.TaintOrigins'. -/
def taintOriginsCard : Claim7 := { stood := { row := taintOriginsRow, standIns := [], harness := (true, "097ddc23ed3c0a1f79d545db1f5f0140b361eafbf70d0b2fe4a5f9d604414c98"), looks := true }, kinds := [], alts := [], laidByText := true, laidKinds := [.data, .data, .data, .sentinel, .sentinel], laidTests := true, laidLooks := .later }
def TaintOriginsCardSaid : Prop := Claim7.holds Tryz.pinned (.plain (OpenSpec.ofChange taintOriginsSpec)) taintOriginsCard

/-- THE TIED CARD OF 'replevinlaw54.TaintStays'. -/
def taintStaysCard : Claim7 := { stood := { row := taintStaysRow, standIns := [], harness := (true, "097ddc23ed3c0a1f79d545db1f5f0140b361eafbf70d0b2fe4a5f9d604414c98"), looks := true }, kinds := [], alts := [], laidByText := true, laidKinds := [.data, .data, .data, .sentinel, .sentinel], laidTests := true, laidLooks := .later }
def TaintStaysCardSaid : Prop := Claim7.holds Tryz.pinned (.plain (OpenSpec.ofChange taintStaysSpec)) taintStaysCard

/-- THE TIED CARD OF 'replevinlaw54.TaintFiles'. -/
def taintFilesCard : Claim7 := { stood := { row := taintFilesRow, standIns := [], harness := (true, "097ddc23ed3c0a1f79d545db1f5f0140b361eafbf70d0b2fe4a5f9d604414c98"), looks := true }, kinds := [], alts := [], laidByText := true, laidKinds := [.data, .data, .data, .sentinel, .sentinel], laidTests := true, laidLooks := .later }
def TaintFilesCardSaid : Prop := Claim7.holds Tryz.pinned (.plain (OpenSpec.ofChange taintFilesSpec)) taintFilesCard

/-- THE TIED CARD OF 'replevinlaw54.TaintChains'. -/
def taintChainsCard : Claim7 := { stood := { row := taintChainsRow, standIns := [], harness := (true, "097ddc23ed3c0a1f79d545db1f5f0140b361eafbf70d0b2fe4a5f9d604414c98"), looks := true }, kinds := [], alts := [], laidByText := true, laidKinds := [.data, .data, .data, .sentinel, .sentinel], laidTests := true, laidLooks := .later }
def TaintChainsCardSaid : Prop := Claim7.holds Tryz.pinned (.plain (OpenSpec.ofChange taintChainsSpec)) taintChainsCard

/-- THE TIED CARD OF 'replevinlaw54.TaintSlices'. -/
def taintSlicesCard : Claim7 := { stood := { row := taintSlicesRow, standIns := [], harness := (true, "097ddc23ed3c0a1f79d545db1f5f0140b361eafbf70d0b2fe4a5f9d604414c98"), looks := true }, kinds := [], alts := [], laidByText := true, laidKinds := [.data, .data, .data, .sentinel, .sentinel], laidTests := true, laidLooks := .later }
def TaintSlicesCardSaid : Prop := Claim7.holds Tryz.pinned (.plain (OpenSpec.ofChange taintSlicesSpec)) taintSlicesCard

/-- THE SECOND FORM's CARD OF 'replevinlaw24.ViewLong'. -/
def viewLongUptoCard : Claim7 := { stood := { row := viewLongUptoRow, standIns := [], harness := (true, "097ddc23ed3c0a1f79d545db1f5f0140b361eafbf70d0b2fe4a5f9d604414c98"), looks := true }, kinds := [], alts := [], laidByText := true, laidKinds := [.data, .data, .data, .sentinel, .sentinel], laidTests := true, laidLooks := .later }
def ViewLongUptoCardSaid : Prop := Claim7.holds Tryz.pinned (.plain (OpenSpec.upto viewLongSpec)) viewLongUptoCard

/-- THE SECOND FORM's CARD OF 'replevinlaw24.ViewPlays'. -/
def viewPlaysUptoCard : Claim7 := { stood := { row := viewPlaysUptoRow, standIns := [], harness := (true, "097ddc23ed3c0a1f79d545db1f5f0140b361eafbf70d0b2fe4a5f9d604414c98"), looks := true }, kinds := [], alts := [], laidByText := true, laidKinds := [.data, .data, .data, .sentinel, .sentinel], laidTests := true, laidLooks := .later }
def ViewPlaysUptoCardSaid : Prop := Claim7.holds Tryz.pinned (.plain (OpenSpec.upto viewPlaysSpec)) viewPlaysUptoCard

/-- THE SECOND FORM's CARD OF 'replevinlaw24.ViewAlone'. -/
def viewAloneUptoCard : Claim7 := { stood := { row := viewAloneUptoRow, standIns := [], harness := (true, "097ddc23ed3c0a1f79d545db1f5f0140b361eafbf70d0b2fe4a5f9d604414c98"), looks := true }, kinds := [], alts := [], laidByText := true, laidKinds := [.data, .data, .data, .sentinel, .sentinel], laidTests := true, laidLooks := .later }
def ViewAloneUptoCardSaid : Prop := Claim7.holds Tryz.pinned (.plain (OpenSpec.upto viewAloneSpec)) viewAloneUptoCard

/-- THE SECOND FORM's CARD OF 'replevinlaw24.ViewFrame'. -/
def viewFrameUptoCard : Claim7 := { stood := { row := viewFrameUptoRow, standIns := [], harness := (true, "097ddc23ed3c0a1f79d545db1f5f0140b361eafbf70d0b2fe4a5f9d604414c98"), looks := true }, kinds := [], alts := [], laidByText := true, laidKinds := [.data, .data, .data, .sentinel, .sentinel], laidTests := true, laidLooks := .later }
def ViewFrameUptoCardSaid : Prop := Claim7.holds Tryz.pinned (.plain (OpenSpec.upto viewFrameSpec)) viewFrameUptoCard

/-- THE SECOND FORM's CARD OF 'replevinlaw46.VersionsChanges'. -/
def versionsChangesUptoCard : Claim7 := { stood := { row := versionsChangesUptoRow, standIns := [], harness := (true, "097ddc23ed3c0a1f79d545db1f5f0140b361eafbf70d0b2fe4a5f9d604414c98"), looks := true }, kinds := [], alts := [], laidByText := true, laidKinds := [.data, .data, .data, .sentinel, .sentinel], laidTests := true, laidLooks := .later }
def VersionsChangesUptoCardSaid : Prop := Claim7.holds Tryz.pinned (.plain (OpenSpec.upto versionsChangesSpec)) versionsChangesUptoCard

/-- THE SECOND FORM's CARD OF 'replevinlaw54.TaintAlone'. -/
def taintAloneUptoCard : Claim7 := { stood := { row := taintAloneUptoRow, standIns := [], harness := (true, "097ddc23ed3c0a1f79d545db1f5f0140b361eafbf70d0b2fe4a5f9d604414c98"), looks := true }, kinds := [], alts := [], laidByText := true, laidKinds := [.data, .data, .data, .sentinel, .sentinel], laidTests := true, laidLooks := .later }
def TaintAloneUptoCardSaid : Prop := Claim7.holds Tryz.pinned (.plain (OpenSpec.upto taintAloneSpec)) taintAloneUptoCard

/-- THE SECOND FORM's CARD OF 'replevinlaw46.VersionsOf'. -/
def versionsOfUptoCard : Claim7 := { stood := { row := versionsOfUptoRow, standIns := [], harness := (true, "097ddc23ed3c0a1f79d545db1f5f0140b361eafbf70d0b2fe4a5f9d604414c98"), looks := true }, kinds := [], alts := [], laidByText := true, laidKinds := [.data, .data, .data, .sentinel, .sentinel], laidTests := true, laidLooks := .later }
def VersionsOfUptoCardSaid : Prop := Claim7.holds Tryz.pinned (.plain (OpenSpec.upto versionsOfSpec)) versionsOfUptoCard

/-- THE SECOND FORM's CARD OF 'replevinlaw54.TaintErrors'. -/
def taintErrorsUptoCard : Claim7 := { stood := { row := taintErrorsUptoRow, standIns := [], harness := (true, "097ddc23ed3c0a1f79d545db1f5f0140b361eafbf70d0b2fe4a5f9d604414c98"), looks := true }, kinds := [], alts := [], laidByText := true, laidKinds := [.data, .data, .data, .sentinel, .sentinel], laidTests := true, laidLooks := .later }
def TaintErrorsUptoCardSaid : Prop := Claim7.holds Tryz.pinned (.plain (OpenSpec.upto taintErrorsSpec)) taintErrorsUptoCard

/-- THE SECOND FORM's CARD OF 'replevinlaw46.VersionsConsistent'. -/
def versionsConsistentUptoCard : Claim7 := { stood := { row := versionsConsistentUptoRow, standIns := [], harness := (true, "097ddc23ed3c0a1f79d545db1f5f0140b361eafbf70d0b2fe4a5f9d604414c98"), looks := true }, kinds := [], alts := [], laidByText := true, laidKinds := [.data, .data, .data, .sentinel, .sentinel], laidTests := true, laidLooks := .later }
def VersionsConsistentUptoCardSaid : Prop := Claim7.holds Tryz.pinned (.plain (OpenSpec.upto versionsConsistentSpec)) versionsConsistentUptoCard

/-- THE SECOND FORM's CARD OF 'replevinlaw46.VersionsBuilds'. -/
def versionsBuildsUptoCard : Claim7 := { stood := { row := versionsBuildsUptoRow, standIns := [], harness := (true, "097ddc23ed3c0a1f79d545db1f5f0140b361eafbf70d0b2fe4a5f9d604414c98"), looks := true }, kinds := [], alts := [], laidByText := true, laidKinds := [.data, .data, .data, .sentinel, .sentinel], laidTests := true, laidLooks := .later }
def VersionsBuildsUptoCardSaid : Prop := Claim7.holds Tryz.pinned (.plain (OpenSpec.upto versionsBuildsSpec)) versionsBuildsUptoCard

/-- THE SECOND FORM's CARD OF 'replevinlaw54.TaintOrigins'. -/
def taintOriginsUptoCard : Claim7 := { stood := { row := taintOriginsUptoRow, standIns := [], harness := (true, "097ddc23ed3c0a1f79d545db1f5f0140b361eafbf70d0b2fe4a5f9d604414c98"), looks := true }, kinds := [], alts := [], laidByText := true, laidKinds := [.data, .data, .data, .sentinel, .sentinel], laidTests := true, laidLooks := .later }
def TaintOriginsUptoCardSaid : Prop := Claim7.holds Tryz.pinned (.plain (OpenSpec.upto taintOriginsSpec)) taintOriginsUptoCard

/-- THE SECOND FORM's CARD OF 'replevinlaw54.TaintStays'. -/
def taintStaysUptoCard : Claim7 := { stood := { row := taintStaysUptoRow, standIns := [], harness := (true, "097ddc23ed3c0a1f79d545db1f5f0140b361eafbf70d0b2fe4a5f9d604414c98"), looks := true }, kinds := [], alts := [], laidByText := true, laidKinds := [.data, .data, .data, .sentinel, .sentinel], laidTests := true, laidLooks := .later }
def TaintStaysUptoCardSaid : Prop := Claim7.holds Tryz.pinned (.plain (OpenSpec.upto taintStaysSpec)) taintStaysUptoCard

/-- THE SECOND FORM's CARD OF 'replevinlaw54.TaintFiles'. -/
def taintFilesUptoCard : Claim7 := { stood := { row := taintFilesUptoRow, standIns := [], harness := (true, "097ddc23ed3c0a1f79d545db1f5f0140b361eafbf70d0b2fe4a5f9d604414c98"), looks := true }, kinds := [], alts := [], laidByText := true, laidKinds := [.data, .data, .data, .sentinel, .sentinel], laidTests := true, laidLooks := .later }
def TaintFilesUptoCardSaid : Prop := Claim7.holds Tryz.pinned (.plain (OpenSpec.upto taintFilesSpec)) taintFilesUptoCard

/-- THE SECOND FORM's CARD OF 'replevinlaw54.TaintChains'. -/
def taintChainsUptoCard : Claim7 := { stood := { row := taintChainsUptoRow, standIns := [], harness := (true, "097ddc23ed3c0a1f79d545db1f5f0140b361eafbf70d0b2fe4a5f9d604414c98"), looks := true }, kinds := [], alts := [], laidByText := true, laidKinds := [.data, .data, .data, .sentinel, .sentinel], laidTests := true, laidLooks := .later }
def TaintChainsUptoCardSaid : Prop := Claim7.holds Tryz.pinned (.plain (OpenSpec.upto taintChainsSpec)) taintChainsUptoCard

/-- THE SECOND FORM's CARD OF 'replevinlaw54.TaintSlices'. -/
def taintSlicesUptoCard : Claim7 := { stood := { row := taintSlicesUptoRow, standIns := [], harness := (true, "097ddc23ed3c0a1f79d545db1f5f0140b361eafbf70d0b2fe4a5f9d604414c98"), looks := true }, kinds := [], alts := [], laidByText := true, laidKinds := [.data, .data, .data, .sentinel, .sentinel], laidTests := true, laidLooks := .later }
def TaintSlicesUptoCardSaid : Prop := Claim7.holds Tryz.pinned (.plain (OpenSpec.upto taintSlicesSpec)) taintSlicesUptoCard
end Rows
end Go.Proofs.YtkiojenkpbkjpaaGreatDoor
