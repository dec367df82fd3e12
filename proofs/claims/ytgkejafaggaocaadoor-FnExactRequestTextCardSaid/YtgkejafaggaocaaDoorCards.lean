/-
  DERIVED. GIVEN WITH THE SEED: THE CARDS: each row of YtgkejafaggaocaaDoorRows.lean that lists a variable, with what it lists TIED to the program's text (the seventh form; the later family's looks); each row that meets fmt, with fmt's text TOLD by the authors' own Lean function (tested against real Go, not proved from fmt's source: count such statements apart). THE CARD IS WHAT COUNTS. Prove the row's statement (the work); the ties are given (YtgkejafaggaocaaDoorTie.lean); close each card by the builder's one call (the guide's Derived/Test/ToyasCard.lean, 'card_holds'). Laid BY PROGRAM, IN A SANDBOX (cutbox-door.mjs). By AI agents, Wed Nov 11 2026. No macro, syntax, notation, axiom, sorry.
-/
import Derived.Test.YtgkejafaggaocaaDoorRows
import GoSem.ClaimSeven
namespace Go.Proofs.YtgkejafaggaocaaDoor
namespace Rows

/-- THE TIED CARD OF 'laws.FnExactReadSoil'. -/
def fnExactReadSoilCard : Claim7 := { stood := { row := fnExactReadSoilRow, standIns := [], harness := (true, "c29019619ee5e2b329a797d0e3f8e1e26d011ccf5c261be484bca26e6e172b24"), looks := true }, kinds := [], alts := [], laidByText := true, laidKinds := [.data, .data, .data, .data, .sentinel, .sentinel, .pinned], laidTests := true, laidLooks := .later }
def FnExactReadSoilCardSaid : Prop := Claim7.holds Tryd.pinned (.plain (OpenSpec.ofChange fnExactReadSoilSpec)) fnExactReadSoilCard

/-- THE TIED CARD OF 'laws.FnSoilKept'. -/
def fnSoilKeptCard : Claim7 := { stood := { row := fnSoilKeptRow, standIns := [], harness := (true, "c29019619ee5e2b329a797d0e3f8e1e26d011ccf5c261be484bca26e6e172b24"), looks := true }, kinds := [], alts := [], laidByText := true, laidKinds := [.data, .data, .data, .data, .sentinel, .sentinel, .pinned], laidTests := true, laidLooks := .later }
def FnSoilKeptCardSaid : Prop := Claim7.holds Tryd.pinned (.plain (OpenSpec.ofChange fnSoilKeptSpec)) fnSoilKeptCard

/-- THE TIED CARD OF 'laws.FnExactRequestText'. -/
def fnExactRequestTextCard : Claim7 := { stood := { row := fnExactRequestTextRow, standIns := [], harness := (true, "c29019619ee5e2b329a797d0e3f8e1e26d011ccf5c261be484bca26e6e172b24"), looks := true }, kinds := [], alts := [], laidByText := true, laidKinds := [.data, .data, .data], laidTests := true, laidLooks := .later }
def FnExactRequestTextCardSaid : Prop := Claim7.holds Tryd.pinned (.plain (OpenSpec.ofChange fnExactRequestTextSpec)) fnExactRequestTextCard

/-- THE TIED CARD OF 'laws.FnExactReadNumber'. -/
def fnExactReadNumberCard : Claim7 := { stood := { row := fnExactReadNumberRow, standIns := [], harness := (true, "c29019619ee5e2b329a797d0e3f8e1e26d011ccf5c261be484bca26e6e172b24"), looks := true }, kinds := [], alts := [], laidByText := true, laidKinds := [.data, .data, .data, .sentinel, .sentinel], laidTests := true, laidLooks := .later }
def FnExactReadNumberCardSaid : Prop := Claim7.holds Tryd.pinned (.plain (OpenSpec.ofChange fnExactReadNumberSpec)) fnExactReadNumberCard

/-- THE TIED CARD OF 'laws.FnToldBack'. -/
def fnToldBackCard : Claim7 := { stood := { row := fnToldBackRow, standIns := [], harness := (true, "c29019619ee5e2b329a797d0e3f8e1e26d011ccf5c261be484bca26e6e172b24"), looks := true }, kinds := [], alts := [], laidByText := true, laidKinds := [.data, .data, .data, .sentinel, .sentinel], laidTests := true, laidLooks := .later }
def FnToldBackCardSaid : Prop := Claim7.holds Tryd.pinned (.plain (OpenSpec.ofChange fnToldBackSpec)) fnToldBackCard

/-- THE SECOND FORM's CARD OF 'laws.FnExactReadSoil'. -/
def fnExactReadSoilUptoCard : Claim7 := { stood := { row := fnExactReadSoilUptoRow, standIns := [], harness := (true, "c29019619ee5e2b329a797d0e3f8e1e26d011ccf5c261be484bca26e6e172b24"), looks := true }, kinds := [], alts := [], laidByText := true, laidKinds := [.data, .data, .data, .data, .sentinel, .sentinel, .pinned], laidTests := true, laidLooks := .later }
def FnExactReadSoilUptoCardSaid : Prop := Claim7.holds Tryd.pinned (.plain (OpenSpec.upto fnExactReadSoilSpec)) fnExactReadSoilUptoCard

/-- THE SECOND FORM's CARD OF 'laws.FnSoilKept'. -/
def fnSoilKeptUptoCard : Claim7 := { stood := { row := fnSoilKeptUptoRow, standIns := [], harness := (true, "c29019619ee5e2b329a797d0e3f8e1e26d011ccf5c261be484bca26e6e172b24"), looks := true }, kinds := [], alts := [], laidByText := true, laidKinds := [.data, .data, .data, .data, .sentinel, .sentinel, .pinned], laidTests := true, laidLooks := .later }
def FnSoilKeptUptoCardSaid : Prop := Claim7.holds Tryd.pinned (.plain (OpenSpec.upto fnSoilKeptSpec)) fnSoilKeptUptoCard

/-- THE SECOND FORM's CARD OF 'laws.FnExactRequestText'. -/
def fnExactRequestTextUptoCard : Claim7 := { stood := { row := fnExactRequestTextUptoRow, standIns := [], harness := (true, "c29019619ee5e2b329a797d0e3f8e1e26d011ccf5c261be484bca26e6e172b24"), looks := true }, kinds := [], alts := [], laidByText := true, laidKinds := [.data, .data, .data], laidTests := true, laidLooks := .later }
def FnExactRequestTextUptoCardSaid : Prop := Claim7.holds Tryd.pinned (.plain (OpenSpec.upto fnExactRequestTextSpec)) fnExactRequestTextUptoCard

/-- THE SECOND FORM's CARD OF 'laws.FnExactReadNumber'. -/
def fnExactReadNumberUptoCard : Claim7 := { stood := { row := fnExactReadNumberUptoRow, standIns := [], harness := (true, "c29019619ee5e2b329a797d0e3f8e1e26d011ccf5c261be484bca26e6e172b24"), looks := true }, kinds := [], alts := [], laidByText := true, laidKinds := [.data, .data, .data, .sentinel, .sentinel], laidTests := true, laidLooks := .later }
def FnExactReadNumberUptoCardSaid : Prop := Claim7.holds Tryd.pinned (.plain (OpenSpec.upto fnExactReadNumberSpec)) fnExactReadNumberUptoCard

/-- THE SECOND FORM's CARD OF 'laws.FnToldBack'. -/
def fnToldBackUptoCard : Claim7 := { stood := { row := fnToldBackUptoRow, standIns := [], harness := (true, "c29019619ee5e2b329a797d0e3f8e1e26d011ccf5c261be484bca26e6e172b24"), looks := true }, kinds := [], alts := [], laidByText := true, laidKinds := [.data, .data, .data, .sentinel, .sentinel], laidTests := true, laidLooks := .later }
def FnToldBackUptoCardSaid : Prop := Claim7.holds Tryd.pinned (.plain (OpenSpec.upto fnToldBackSpec)) fnToldBackUptoCard
end Rows
end Go.Proofs.YtgkejafaggaocaaDoor
