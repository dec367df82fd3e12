/-
  DERIVED. GIVEN WITH THE SEED: THE CARDS: each row of YtondfjckadlabaaDoorRows.lean that lists a variable, with what it lists TIED to the program's text (the seventh form; the later family's looks); each row that meets fmt, with fmt's text TOLD by the authors' own Lean function (tested against real Go, not proved from fmt's source: count such statements apart). THE CARD IS WHAT COUNTS. Prove the row's statement (the work); the ties are given (YtondfjckadlabaaDoorTie.lean); close each card by the builder's one call (the guide's Derived/Test/ToyasCard.lean, 'card_holds'). Laid BY PROGRAM, IN A SANDBOX (cutbox-door.mjs). By AI agents, Wed Nov 11 2026. No macro, syntax, notation, axiom, sorry.
-/
import Derived.Test.YtondfjckadlabaaDoorRows
import GoSem.ClaimSeven
namespace Go.Proofs.YtondfjckadlabaaDoor
namespace Rows

/-- THE TIED CARD OF 'laws.FnFolded'. -/
def fnFoldedCard : Claim7 := { stood := { row := fnFoldedRow, standIns := [], harness := (true, "12fb5d6a554232e0d6d8141d152058a861e3f366fdf39fe19d3a74ccb4099ab3"), looks := false }, kinds := [], alts := [], laidByText := true, laidKinds := [.data, .pinned], laidTests := true, laidLooks := .later }
def FnFoldedCardSaid : Prop := Claim7.holds Tryd.pinned (.plain (OpenSpec.ofChange fnFoldedSpec)) fnFoldedCard

/-- THE TIED CARD OF 'laws.FnExactObsText'. -/
def fnExactObsTextCard : Claim7 := { stood := { row := fnExactObsTextRow, standIns := [], harness := (true, "12fb5d6a554232e0d6d8141d152058a861e3f366fdf39fe19d3a74ccb4099ab3"), looks := false }, kinds := [], alts := [], laidByText := true, laidKinds := [.data, .data, .data], laidTests := true, laidLooks := .later }
def FnExactObsTextCardSaid : Prop := Claim7.holds Tryd.pinned (.plain (OpenSpec.ofChange fnExactObsTextSpec)) fnExactObsTextCard

/-- THE SECOND FORM's CARD OF 'laws.FnFolded'. -/
def fnFoldedUptoCard : Claim7 := { stood := { row := fnFoldedUptoRow, standIns := [], harness := (true, "12fb5d6a554232e0d6d8141d152058a861e3f366fdf39fe19d3a74ccb4099ab3"), looks := false }, kinds := [], alts := [], laidByText := true, laidKinds := [.data, .pinned], laidTests := true, laidLooks := .later }
def FnFoldedUptoCardSaid : Prop := Claim7.holds Tryd.pinned (.plain (OpenSpec.upto fnFoldedSpec)) fnFoldedUptoCard

/-- THE SECOND FORM's CARD OF 'laws.FnExactObsText'. -/
def fnExactObsTextUptoCard : Claim7 := { stood := { row := fnExactObsTextUptoRow, standIns := [], harness := (true, "12fb5d6a554232e0d6d8141d152058a861e3f366fdf39fe19d3a74ccb4099ab3"), looks := false }, kinds := [], alts := [], laidByText := true, laidKinds := [.data, .data, .data], laidTests := true, laidLooks := .later }
def FnExactObsTextUptoCardSaid : Prop := Claim7.holds Tryd.pinned (.plain (OpenSpec.upto fnExactObsTextSpec)) fnExactObsTextUptoCard
end Rows
end Go.Proofs.YtondfjckadlabaaDoor
