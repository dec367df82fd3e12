/-
  DERIVED. GIVEN WITH THE SEED: THE CARDS: each row of YtondfjckadlabaaGreatDoorRows.lean that lists a variable, with what it lists TIED to the program's text (the seventh form; the later family's looks); each row that meets fmt, with fmt's text TOLD by the authors' own Lean function (tested against real Go, not proved from fmt's source: count such statements apart). THE CARD IS WHAT COUNTS. Prove the row's statement (the work); the ties are given (YtondfjckadlabaaGreatDoorTie.lean); close each card by the builder's one call (the guide's Derived/Test/ToyasCard.lean, 'card_holds'). Laid BY PROGRAM, IN A SANDBOX (cutbox-door.mjs). By AI agents, Wed Nov 11 2026. No macro, syntax, notation, axiom, sorry.
-/
import Derived.Test.YtondfjckadlabaaGreatDoorRows
import GoSem.ClaimSeven
namespace Go.Proofs.YtondfjckadlabaaGreatDoor
namespace Rows

/-- THE TIED CARD OF 'laws.FnExactReadTaf'. -/
def fnExactReadTafCard : Claim7 := { stood := { row := fnExactReadTafRow, standIns := [], harness := (true, "3082645d0461e532b4f0977c5ad154d3677a3fdcd6b2cbd18c114a62ea021d07"), looks := true }, kinds := [], alts := [], laidByText := true, laidKinds := [.data, .data, .data, .data, .sentinel, .sentinel, .widerDeep, .widerDeep, .widerDeep, .pinned], laidTests := true, laidLooks := .later }
def FnExactReadTafCardSaid : Prop := Claim7.holds Tryz.pinned (.plain (OpenSpec.ofChange fnExactReadTafSpec)) fnExactReadTafCard

/-- THE TIED CARD OF 'laws.FnTafBack'. -/
def fnTafBackCard : Claim7 := { stood := { row := fnTafBackRow, standIns := [], harness := (true, "3082645d0461e532b4f0977c5ad154d3677a3fdcd6b2cbd18c114a62ea021d07"), looks := true }, kinds := [], alts := [], laidByText := true, laidKinds := [.data, .data, .data, .data, .sentinel, .sentinel, .widerDeep, .widerDeep, .widerDeep, .pinned], laidTests := true, laidLooks := .later }
def FnTafBackCardSaid : Prop := Claim7.holds Tryz.pinned (.plain (OpenSpec.ofChange fnTafBackSpec)) fnTafBackCard

/-- THE TIED CARD OF 'laws.FnOneState'. -/
def fnOneStateCard : Claim7 := { stood := { row := fnOneStateRow, standIns := [], harness := (true, "3082645d0461e532b4f0977c5ad154d3677a3fdcd6b2cbd18c114a62ea021d07"), looks := true }, kinds := [], alts := [], laidByText := true, laidKinds := [.data, .data, .data, .data, .sentinel, .sentinel, .widerDeep, .widerDeep, .widerDeep, .pinned], laidTests := true, laidLooks := .later }
def FnOneStateCardSaid : Prop := Claim7.holds Tryz.pinned (.plain (OpenSpec.ofChange fnOneStateSpec)) fnOneStateCard

/-- THE TIED CARD OF 'laws.FnRequests'. -/
def fnRequestsCard : Claim7 := { stood := { row := fnRequestsRow, standIns := [], harness := (true, "3082645d0461e532b4f0977c5ad154d3677a3fdcd6b2cbd18c114a62ea021d07"), looks := true }, kinds := [], alts := [], laidByText := true, laidKinds := [.data, .data, .data, .data, .sentinel, .sentinel, .pinned], laidTests := true, laidLooks := .later }
def FnRequestsCardSaid : Prop := Claim7.holds Tryz.pinned (.plain (OpenSpec.ofChange fnRequestsSpec)) fnRequestsCard

/-- THE TIED CARD OF 'laws.FnExactReadObs'. -/
def fnExactReadObsCard : Claim7 := { stood := { row := fnExactReadObsRow, standIns := [], harness := (true, "3082645d0461e532b4f0977c5ad154d3677a3fdcd6b2cbd18c114a62ea021d07"), looks := true }, kinds := [], alts := [], laidByText := true, laidKinds := [.data, .data, .data, .data, .sentinel, .sentinel, .pinned], laidTests := true, laidLooks := .later }
def FnExactReadObsCardSaid : Prop := Claim7.holds Tryz.pinned (.plain (OpenSpec.ofChange fnExactReadObsSpec)) fnExactReadObsCard

/-- THE TIED CARD OF 'laws.FnObsBack'. -/
def fnObsBackCard : Claim7 := { stood := { row := fnObsBackRow, standIns := [], harness := (true, "3082645d0461e532b4f0977c5ad154d3677a3fdcd6b2cbd18c114a62ea021d07"), looks := true }, kinds := [], alts := [], laidByText := true, laidKinds := [.data, .data, .data, .data, .sentinel, .sentinel, .pinned], laidTests := true, laidLooks := .later }
def FnObsBackCardSaid : Prop := Claim7.holds Tryz.pinned (.plain (OpenSpec.ofChange fnObsBackSpec)) fnObsBackCard

/-- THE TIED CARD OF 'laws.FnObsRest'. -/
def fnObsRestCard : Claim7 := { stood := { row := fnObsRestRow, standIns := [], harness := (true, "3082645d0461e532b4f0977c5ad154d3677a3fdcd6b2cbd18c114a62ea021d07"), looks := true }, kinds := [], alts := [], laidByText := true, laidKinds := [.data, .data, .data, .data, .sentinel, .sentinel, .pinned], laidTests := true, laidLooks := .later }
def FnObsRestCardSaid : Prop := Claim7.holds Tryz.pinned (.plain (OpenSpec.ofChange fnObsRestSpec)) fnObsRestCard

/-- THE TIED CARD OF 'laws.FnObsRepaired'. -/
def fnObsRepairedCard : Claim7 := { stood := { row := fnObsRepairedRow, standIns := [], harness := (true, "3082645d0461e532b4f0977c5ad154d3677a3fdcd6b2cbd18c114a62ea021d07"), looks := true }, kinds := [], alts := [], laidByText := true, laidKinds := [.data, .data, .data, .data, .sentinel, .sentinel, .pinned], laidTests := true, laidLooks := .later }
def FnObsRepairedCardSaid : Prop := Claim7.holds Tryz.pinned (.plain (OpenSpec.ofChange fnObsRepairedSpec)) fnObsRepairedCard

/-- THE SECOND FORM's CARD OF 'laws.FnExactReadTaf'. -/
def fnExactReadTafUptoCard : Claim7 := { stood := { row := fnExactReadTafUptoRow, standIns := [], harness := (true, "3082645d0461e532b4f0977c5ad154d3677a3fdcd6b2cbd18c114a62ea021d07"), looks := true }, kinds := [], alts := [], laidByText := true, laidKinds := [.data, .data, .data, .data, .sentinel, .sentinel, .widerDeep, .widerDeep, .widerDeep, .pinned], laidTests := true, laidLooks := .later }
def FnExactReadTafUptoCardSaid : Prop := Claim7.holds Tryz.pinned (.plain (OpenSpec.upto fnExactReadTafSpec)) fnExactReadTafUptoCard

/-- THE SECOND FORM's CARD OF 'laws.FnTafBack'. -/
def fnTafBackUptoCard : Claim7 := { stood := { row := fnTafBackUptoRow, standIns := [], harness := (true, "3082645d0461e532b4f0977c5ad154d3677a3fdcd6b2cbd18c114a62ea021d07"), looks := true }, kinds := [], alts := [], laidByText := true, laidKinds := [.data, .data, .data, .data, .sentinel, .sentinel, .widerDeep, .widerDeep, .widerDeep, .pinned], laidTests := true, laidLooks := .later }
def FnTafBackUptoCardSaid : Prop := Claim7.holds Tryz.pinned (.plain (OpenSpec.upto fnTafBackSpec)) fnTafBackUptoCard

/-- THE SECOND FORM's CARD OF 'laws.FnOneState'. -/
def fnOneStateUptoCard : Claim7 := { stood := { row := fnOneStateUptoRow, standIns := [], harness := (true, "3082645d0461e532b4f0977c5ad154d3677a3fdcd6b2cbd18c114a62ea021d07"), looks := true }, kinds := [], alts := [], laidByText := true, laidKinds := [.data, .data, .data, .data, .sentinel, .sentinel, .widerDeep, .widerDeep, .widerDeep, .pinned], laidTests := true, laidLooks := .later }
def FnOneStateUptoCardSaid : Prop := Claim7.holds Tryz.pinned (.plain (OpenSpec.upto fnOneStateSpec)) fnOneStateUptoCard

/-- THE SECOND FORM's CARD OF 'laws.FnRequests'. -/
def fnRequestsUptoCard : Claim7 := { stood := { row := fnRequestsUptoRow, standIns := [], harness := (true, "3082645d0461e532b4f0977c5ad154d3677a3fdcd6b2cbd18c114a62ea021d07"), looks := true }, kinds := [], alts := [], laidByText := true, laidKinds := [.data, .data, .data, .data, .sentinel, .sentinel, .pinned], laidTests := true, laidLooks := .later }
def FnRequestsUptoCardSaid : Prop := Claim7.holds Tryz.pinned (.plain (OpenSpec.upto fnRequestsSpec)) fnRequestsUptoCard

/-- THE SECOND FORM's CARD OF 'laws.FnExactReadObs'. -/
def fnExactReadObsUptoCard : Claim7 := { stood := { row := fnExactReadObsUptoRow, standIns := [], harness := (true, "3082645d0461e532b4f0977c5ad154d3677a3fdcd6b2cbd18c114a62ea021d07"), looks := true }, kinds := [], alts := [], laidByText := true, laidKinds := [.data, .data, .data, .data, .sentinel, .sentinel, .pinned], laidTests := true, laidLooks := .later }
def FnExactReadObsUptoCardSaid : Prop := Claim7.holds Tryz.pinned (.plain (OpenSpec.upto fnExactReadObsSpec)) fnExactReadObsUptoCard

/-- THE SECOND FORM's CARD OF 'laws.FnObsBack'. -/
def fnObsBackUptoCard : Claim7 := { stood := { row := fnObsBackUptoRow, standIns := [], harness := (true, "3082645d0461e532b4f0977c5ad154d3677a3fdcd6b2cbd18c114a62ea021d07"), looks := true }, kinds := [], alts := [], laidByText := true, laidKinds := [.data, .data, .data, .data, .sentinel, .sentinel, .pinned], laidTests := true, laidLooks := .later }
def FnObsBackUptoCardSaid : Prop := Claim7.holds Tryz.pinned (.plain (OpenSpec.upto fnObsBackSpec)) fnObsBackUptoCard

/-- THE SECOND FORM's CARD OF 'laws.FnObsRest'. -/
def fnObsRestUptoCard : Claim7 := { stood := { row := fnObsRestUptoRow, standIns := [], harness := (true, "3082645d0461e532b4f0977c5ad154d3677a3fdcd6b2cbd18c114a62ea021d07"), looks := true }, kinds := [], alts := [], laidByText := true, laidKinds := [.data, .data, .data, .data, .sentinel, .sentinel, .pinned], laidTests := true, laidLooks := .later }
def FnObsRestUptoCardSaid : Prop := Claim7.holds Tryz.pinned (.plain (OpenSpec.upto fnObsRestSpec)) fnObsRestUptoCard

/-- THE SECOND FORM's CARD OF 'laws.FnObsRepaired'. -/
def fnObsRepairedUptoCard : Claim7 := { stood := { row := fnObsRepairedUptoRow, standIns := [], harness := (true, "3082645d0461e532b4f0977c5ad154d3677a3fdcd6b2cbd18c114a62ea021d07"), looks := true }, kinds := [], alts := [], laidByText := true, laidKinds := [.data, .data, .data, .data, .sentinel, .sentinel, .pinned], laidTests := true, laidLooks := .later }
def FnObsRepairedUptoCardSaid : Prop := Claim7.holds Tryz.pinned (.plain (OpenSpec.upto fnObsRepairedSpec)) fnObsRepairedUptoCard
end Rows
end Go.Proofs.YtondfjckadlabaaGreatDoor
