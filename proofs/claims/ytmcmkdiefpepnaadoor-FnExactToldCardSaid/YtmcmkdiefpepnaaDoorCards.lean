/-
  DERIVED. GIVEN WITH THE SEED: THE CARDS: each row of YtmcmkdiefpepnaaDoorRows.lean that lists a variable, with what it lists TIED to the program's text (the seventh form; the later family's looks); each row that meets fmt, with fmt's text TOLD by the authors' own Lean function (tested against real Go, not proved from fmt's source: count such statements apart). THE CARD IS WHAT COUNTS. Prove the row's statement (the work); the ties are given (YtmcmkdiefpepnaaDoorTie.lean); close each card by the builder's one call (the guide's Derived/Test/ToyasCard.lean, 'card_holds'). Laid BY PROGRAM, IN A SANDBOX (cutbox-door.mjs). By AI agents, Wed Nov 11 2026. No macro, syntax, notation, axiom, sorry.
-/
import Derived.Test.YtmcmkdiefpepnaaDoorRows
import GoSem.ClaimSeven
namespace Go.Proofs.YtmcmkdiefpepnaaDoor
namespace Rows

/-- THE TIED CARD OF 'laws.FnExactStateAt'. -/
def fnExactStateAtCard : Claim7 := { stood := { row := fnExactStateAtRow, standIns := [], harness := (true, "1d2df471b49b07c46e1d595d3715bb6dd8383b6dc6c1bbf5e4cfb42480fe8246"), looks := true }, kinds := [], alts := [], laidByText := true, laidKinds := [.widerDeep, .widerDeep], laidTests := true, laidLooks := .later }
def FnExactStateAtCardSaid : Prop := Claim7.holds Tryd.pinned (.plain (OpenSpec.ofChange fnExactStateAtSpec)) fnExactStateAtCard

/-- THE TIED CARD OF 'laws.FnExactTold'. -/
def fnExactToldCard : Claim7 := { stood := { row := fnExactToldRow, standIns := [], harness := (true, "1d2df471b49b07c46e1d595d3715bb6dd8383b6dc6c1bbf5e4cfb42480fe8246"), looks := true }, kinds := [], alts := [], laidByText := true, laidKinds := [.data, .data, .data], laidTests := true, laidLooks := .later }
def FnExactToldCardSaid : Prop := Claim7.holds Tryd.pinned (.plain (OpenSpec.ofChange fnExactToldSpec)) fnExactToldCard

/-- THE TIED CARD OF 'laws.FnExactHeadingText'. -/
def fnExactHeadingTextCard : Claim7 := { stood := { row := fnExactHeadingTextRow, standIns := [], harness := (true, "1d2df471b49b07c46e1d595d3715bb6dd8383b6dc6c1bbf5e4cfb42480fe8246"), looks := true }, kinds := [], alts := [], laidByText := true, laidKinds := [.data, .data, .data], laidTests := true, laidLooks := .later }
def FnExactHeadingTextCardSaid : Prop := Claim7.holds Tryd.pinned (.plain (OpenSpec.ofChange fnExactHeadingTextSpec)) fnExactHeadingTextCard

/-- THE TIED CARD OF 'laws.FnExactSkyText'. -/
def fnExactSkyTextCard : Claim7 := { stood := { row := fnExactSkyTextRow, standIns := [], harness := (true, "1d2df471b49b07c46e1d595d3715bb6dd8383b6dc6c1bbf5e4cfb42480fe8246"), looks := true }, kinds := [], alts := [], laidByText := true, laidKinds := [.data, .data, .data, .widerDeep, .widerDeep], laidTests := true, laidLooks := .later }
def FnExactSkyTextCardSaid : Prop := Claim7.holds Tryd.pinned (.plain (OpenSpec.ofChange fnExactSkyTextSpec)) fnExactSkyTextCard

/-- THE TIED CARD OF 'laws.FnTimes'. -/
def fnTimesCard : Claim7 := { stood := { row := fnTimesRow, standIns := [], harness := (true, "1d2df471b49b07c46e1d595d3715bb6dd8383b6dc6c1bbf5e4cfb42480fe8246"), looks := true }, kinds := [], alts := [], laidByText := true, laidKinds := [.data, .data, .data, .sentinel, .sentinel], laidTests := true, laidLooks := .later }
def FnTimesCardSaid : Prop := Claim7.holds Tryd.pinned (.plain (OpenSpec.ofChange fnTimesSpec)) fnTimesCard

/-- THE TIED CARD OF 'laws.FnExactReadStamp'. -/
def fnExactReadStampCard : Claim7 := { stood := { row := fnExactReadStampRow, standIns := [], harness := (true, "1d2df471b49b07c46e1d595d3715bb6dd8383b6dc6c1bbf5e4cfb42480fe8246"), looks := true }, kinds := [], alts := [], laidByText := true, laidKinds := [.data, .data, .data, .sentinel, .sentinel], laidTests := true, laidLooks := .later }
def FnExactReadStampCardSaid : Prop := Claim7.holds Tryd.pinned (.plain (OpenSpec.ofChange fnExactReadStampSpec)) fnExactReadStampCard

/-- THE TIED CARD OF 'laws.FnExactParts'. -/
def fnExactPartsCard : Claim7 := { stood := { row := fnExactPartsRow, standIns := [], harness := (true, "1d2df471b49b07c46e1d595d3715bb6dd8383b6dc6c1bbf5e4cfb42480fe8246"), looks := true }, kinds := [], alts := [], laidByText := true, laidKinds := [.widerDeep, .widerDeep], laidTests := true, laidLooks := .later }
def FnExactPartsCardSaid : Prop := Claim7.holds Tryd.pinned (.plain (OpenSpec.ofChange fnExactPartsSpec)) fnExactPartsCard

/-- THE TIED CARD OF 'laws.FnExactWorstSight'. -/
def fnExactWorstSightCard : Claim7 := { stood := { row := fnExactWorstSightRow, standIns := [], harness := (true, "1d2df471b49b07c46e1d595d3715bb6dd8383b6dc6c1bbf5e4cfb42480fe8246"), looks := true }, kinds := [], alts := [], laidByText := true, laidKinds := [.widerDeep, .widerDeep], laidTests := true, laidLooks := .later }
def FnExactWorstSightCardSaid : Prop := Claim7.holds Tryd.pinned (.plain (OpenSpec.ofChange fnExactWorstSightSpec)) fnExactWorstSightCard

/-- THE TIED CARD OF 'laws.FnExactReadHeading'. -/
def fnExactReadHeadingCard : Claim7 := { stood := { row := fnExactReadHeadingRow, standIns := [], harness := (true, "1d2df471b49b07c46e1d595d3715bb6dd8383b6dc6c1bbf5e4cfb42480fe8246"), looks := true }, kinds := [], alts := [], laidByText := true, laidKinds := [.data, .data, .data, .data, .sentinel, .sentinel, .pinned], laidTests := true, laidLooks := .later }
def FnExactReadHeadingCardSaid : Prop := Claim7.holds Tryd.pinned (.plain (OpenSpec.ofChange fnExactReadHeadingSpec)) fnExactReadHeadingCard

/-- THE TIED CARD OF 'laws.FnExactTafText'. -/
def fnExactTafTextCard : Claim7 := { stood := { row := fnExactTafTextRow, standIns := [], harness := (true, "1d2df471b49b07c46e1d595d3715bb6dd8383b6dc6c1bbf5e4cfb42480fe8246"), looks := true }, kinds := [], alts := [], laidByText := true, laidKinds := [.data, .data, .data, .widerDeep, .widerDeep, .widerDeep], laidTests := true, laidLooks := .later }
def FnExactTafTextCardSaid : Prop := Claim7.holds Tryd.pinned (.plain (OpenSpec.ofChange fnExactTafTextSpec)) fnExactTafTextCard

/-- THE TIED CARD OF 'laws.FnHeadings'. -/
def fnHeadingsCard : Claim7 := { stood := { row := fnHeadingsRow, standIns := [], harness := (true, "1d2df471b49b07c46e1d595d3715bb6dd8383b6dc6c1bbf5e4cfb42480fe8246"), looks := true }, kinds := [], alts := [], laidByText := true, laidKinds := [.data, .data, .data, .data, .sentinel, .sentinel, .pinned], laidTests := true, laidLooks := .later }
def FnHeadingsCardSaid : Prop := Claim7.holds Tryd.pinned (.plain (OpenSpec.ofChange fnHeadingsSpec)) fnHeadingsCard

/-- THE SECOND FORM's CARD OF 'laws.FnExactStateAt'. -/
def fnExactStateAtUptoCard : Claim7 := { stood := { row := fnExactStateAtUptoRow, standIns := [], harness := (true, "1d2df471b49b07c46e1d595d3715bb6dd8383b6dc6c1bbf5e4cfb42480fe8246"), looks := true }, kinds := [], alts := [], laidByText := true, laidKinds := [.widerDeep, .widerDeep], laidTests := true, laidLooks := .later }
def FnExactStateAtUptoCardSaid : Prop := Claim7.holds Tryd.pinned (.plain (OpenSpec.upto fnExactStateAtSpec)) fnExactStateAtUptoCard

/-- THE SECOND FORM's CARD OF 'laws.FnExactTold'. -/
def fnExactToldUptoCard : Claim7 := { stood := { row := fnExactToldUptoRow, standIns := [], harness := (true, "1d2df471b49b07c46e1d595d3715bb6dd8383b6dc6c1bbf5e4cfb42480fe8246"), looks := true }, kinds := [], alts := [], laidByText := true, laidKinds := [.data, .data, .data], laidTests := true, laidLooks := .later }
def FnExactToldUptoCardSaid : Prop := Claim7.holds Tryd.pinned (.plain (OpenSpec.upto fnExactToldSpec)) fnExactToldUptoCard

/-- THE SECOND FORM's CARD OF 'laws.FnExactHeadingText'. -/
def fnExactHeadingTextUptoCard : Claim7 := { stood := { row := fnExactHeadingTextUptoRow, standIns := [], harness := (true, "1d2df471b49b07c46e1d595d3715bb6dd8383b6dc6c1bbf5e4cfb42480fe8246"), looks := true }, kinds := [], alts := [], laidByText := true, laidKinds := [.data, .data, .data], laidTests := true, laidLooks := .later }
def FnExactHeadingTextUptoCardSaid : Prop := Claim7.holds Tryd.pinned (.plain (OpenSpec.upto fnExactHeadingTextSpec)) fnExactHeadingTextUptoCard

/-- THE SECOND FORM's CARD OF 'laws.FnExactSkyText'. -/
def fnExactSkyTextUptoCard : Claim7 := { stood := { row := fnExactSkyTextUptoRow, standIns := [], harness := (true, "1d2df471b49b07c46e1d595d3715bb6dd8383b6dc6c1bbf5e4cfb42480fe8246"), looks := true }, kinds := [], alts := [], laidByText := true, laidKinds := [.data, .data, .data, .widerDeep, .widerDeep], laidTests := true, laidLooks := .later }
def FnExactSkyTextUptoCardSaid : Prop := Claim7.holds Tryd.pinned (.plain (OpenSpec.upto fnExactSkyTextSpec)) fnExactSkyTextUptoCard

/-- THE SECOND FORM's CARD OF 'laws.FnTimes'. -/
def fnTimesUptoCard : Claim7 := { stood := { row := fnTimesUptoRow, standIns := [], harness := (true, "1d2df471b49b07c46e1d595d3715bb6dd8383b6dc6c1bbf5e4cfb42480fe8246"), looks := true }, kinds := [], alts := [], laidByText := true, laidKinds := [.data, .data, .data, .sentinel, .sentinel], laidTests := true, laidLooks := .later }
def FnTimesUptoCardSaid : Prop := Claim7.holds Tryd.pinned (.plain (OpenSpec.upto fnTimesSpec)) fnTimesUptoCard

/-- THE SECOND FORM's CARD OF 'laws.FnExactReadStamp'. -/
def fnExactReadStampUptoCard : Claim7 := { stood := { row := fnExactReadStampUptoRow, standIns := [], harness := (true, "1d2df471b49b07c46e1d595d3715bb6dd8383b6dc6c1bbf5e4cfb42480fe8246"), looks := true }, kinds := [], alts := [], laidByText := true, laidKinds := [.data, .data, .data, .sentinel, .sentinel], laidTests := true, laidLooks := .later }
def FnExactReadStampUptoCardSaid : Prop := Claim7.holds Tryd.pinned (.plain (OpenSpec.upto fnExactReadStampSpec)) fnExactReadStampUptoCard

/-- THE SECOND FORM's CARD OF 'laws.FnExactParts'. -/
def fnExactPartsUptoCard : Claim7 := { stood := { row := fnExactPartsUptoRow, standIns := [], harness := (true, "1d2df471b49b07c46e1d595d3715bb6dd8383b6dc6c1bbf5e4cfb42480fe8246"), looks := true }, kinds := [], alts := [], laidByText := true, laidKinds := [.widerDeep, .widerDeep], laidTests := true, laidLooks := .later }
def FnExactPartsUptoCardSaid : Prop := Claim7.holds Tryd.pinned (.plain (OpenSpec.upto fnExactPartsSpec)) fnExactPartsUptoCard

/-- THE SECOND FORM's CARD OF 'laws.FnExactWorstSight'. -/
def fnExactWorstSightUptoCard : Claim7 := { stood := { row := fnExactWorstSightUptoRow, standIns := [], harness := (true, "1d2df471b49b07c46e1d595d3715bb6dd8383b6dc6c1bbf5e4cfb42480fe8246"), looks := true }, kinds := [], alts := [], laidByText := true, laidKinds := [.widerDeep, .widerDeep], laidTests := true, laidLooks := .later }
def FnExactWorstSightUptoCardSaid : Prop := Claim7.holds Tryd.pinned (.plain (OpenSpec.upto fnExactWorstSightSpec)) fnExactWorstSightUptoCard

/-- THE SECOND FORM's CARD OF 'laws.FnExactReadHeading'. -/
def fnExactReadHeadingUptoCard : Claim7 := { stood := { row := fnExactReadHeadingUptoRow, standIns := [], harness := (true, "1d2df471b49b07c46e1d595d3715bb6dd8383b6dc6c1bbf5e4cfb42480fe8246"), looks := true }, kinds := [], alts := [], laidByText := true, laidKinds := [.data, .data, .data, .data, .sentinel, .sentinel, .pinned], laidTests := true, laidLooks := .later }
def FnExactReadHeadingUptoCardSaid : Prop := Claim7.holds Tryd.pinned (.plain (OpenSpec.upto fnExactReadHeadingSpec)) fnExactReadHeadingUptoCard

/-- THE SECOND FORM's CARD OF 'laws.FnExactTafText'. -/
def fnExactTafTextUptoCard : Claim7 := { stood := { row := fnExactTafTextUptoRow, standIns := [], harness := (true, "1d2df471b49b07c46e1d595d3715bb6dd8383b6dc6c1bbf5e4cfb42480fe8246"), looks := true }, kinds := [], alts := [], laidByText := true, laidKinds := [.data, .data, .data, .widerDeep, .widerDeep, .widerDeep], laidTests := true, laidLooks := .later }
def FnExactTafTextUptoCardSaid : Prop := Claim7.holds Tryd.pinned (.plain (OpenSpec.upto fnExactTafTextSpec)) fnExactTafTextUptoCard

/-- THE SECOND FORM's CARD OF 'laws.FnHeadings'. -/
def fnHeadingsUptoCard : Claim7 := { stood := { row := fnHeadingsUptoRow, standIns := [], harness := (true, "1d2df471b49b07c46e1d595d3715bb6dd8383b6dc6c1bbf5e4cfb42480fe8246"), looks := true }, kinds := [], alts := [], laidByText := true, laidKinds := [.data, .data, .data, .data, .sentinel, .sentinel, .pinned], laidTests := true, laidLooks := .later }
def FnHeadingsUptoCardSaid : Prop := Claim7.holds Tryd.pinned (.plain (OpenSpec.upto fnHeadingsSpec)) fnHeadingsUptoCard
end Rows
end Go.Proofs.YtmcmkdiefpepnaaDoor
