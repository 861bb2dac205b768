/-
  DERIVED. GIVEN WITH THE SEED: THE CARDS: each row of YtbcmmamipjbfpaaDoorRows.lean that lists a variable, with what it lists TIED to the program's text (the seventh form; the later family's looks); each row that meets fmt, with fmt's text TOLD by the authors' own Lean function (tested against real Go, not proved from fmt's source: count such statements apart). THE CARD IS WHAT COUNTS. Prove the row's statement (the work); the ties are given (YtbcmmamipjbfpaaDoorTie.lean); close each card by the builder's one call (the guide's Derived/Test/ToyasCard.lean, 'card_holds'). Laid BY PROGRAM, IN A SANDBOX (cutbox-door.mjs). By AI agents, Wed Nov 11 2026. No macro, syntax, notation, axiom, sorry.
-/
import Derived.Test.YtbcmmamipjbfpaaDoorRows
import GoSem.ClaimSeven
namespace Go.Proofs.YtbcmmamipjbfpaaDoor
namespace Rows

/-- THE TIED CARD OF 'isthmuslaw01.LimbOrder'. -/
def limbOrderCard : Claim7 := { stood := { row := limbOrderRow, standIns := [], harness := (true, "1e79cb0b20158fe62a65deb9ac001d7036dd0f8a0f85365ff1c622f9f95cb4e9"), looks := false }, kinds := [], alts := [], laidByText := true, laidKinds := [.data, .data, .data], laidTests := true, laidLooks := .later }
def LimbOrderCardSaid : Prop := Claim7.holds Tryd.pinned (.plain (OpenSpec.ofChange limbOrderSpec)) limbOrderCard

/-- THE TIED CARD OF 'isthmuslaw01.LimbBytes'. -/
def limbBytesCard : Claim7 := { stood := { row := limbBytesRow, standIns := [], harness := (true, "1e79cb0b20158fe62a65deb9ac001d7036dd0f8a0f85365ff1c622f9f95cb4e9"), looks := false }, kinds := [], alts := [], laidByText := true, laidKinds := [.data, .data, .data], laidTests := true, laidLooks := .later }
def LimbBytesCardSaid : Prop := Claim7.holds Tryd.pinned (.plain (OpenSpec.ofChange limbBytesSpec)) limbBytesCard

/-- THE TIED CARD OF 'isthmuslaw01.LimbSums'. -/
def limbSumsCard : Claim7 := { stood := { row := limbSumsRow, standIns := [], harness := (true, "1e79cb0b20158fe62a65deb9ac001d7036dd0f8a0f85365ff1c622f9f95cb4e9"), looks := false }, kinds := [], alts := [], laidByText := true, laidKinds := [.data, .data, .data], laidTests := true, laidLooks := .later }
def LimbSumsCardSaid : Prop := Claim7.holds Tryd.pinned (.plain (OpenSpec.ofChange limbSumsSpec)) limbSumsCard

/-- THE TIED CARD OF 'isthmuslaw01.LimbProducts'. -/
def limbProductsCard : Claim7 := { stood := { row := limbProductsRow, standIns := [], harness := (true, "1e79cb0b20158fe62a65deb9ac001d7036dd0f8a0f85365ff1c622f9f95cb4e9"), looks := false }, kinds := [], alts := [], laidByText := true, laidKinds := [.data, .data, .data], laidTests := true, laidLooks := .later }
def LimbProductsCardSaid : Prop := Claim7.holds Tryd.pinned (.plain (OpenSpec.ofChange limbProductsSpec)) limbProductsCard

/-- THE TIED CARD OF 'isthmuslaw01.LimbTexts'. -/
def limbTextsCard : Claim7 := { stood := { row := limbTextsRow, standIns := [], harness := (true, "1e79cb0b20158fe62a65deb9ac001d7036dd0f8a0f85365ff1c622f9f95cb4e9"), looks := false }, kinds := [], alts := [], laidByText := true, laidKinds := [.data, .data, .data], laidTests := true, laidLooks := .later }
def LimbTextsCardSaid : Prop := Claim7.holds Tryd.pinned (.plain (OpenSpec.ofChange limbTextsSpec)) limbTextsCard

/-- THE TIED CARD OF 'isthmuslaw01.LimbRing'. -/
def limbRingCard : Claim7 := { stood := { row := limbRingRow, standIns := [], harness := (true, "1e79cb0b20158fe62a65deb9ac001d7036dd0f8a0f85365ff1c622f9f95cb4e9"), looks := false }, kinds := [], alts := [], laidByText := true, laidKinds := [.data, .data, .data], laidTests := true, laidLooks := .later }
def LimbRingCardSaid : Prop := Claim7.holds Tryd.pinned (.plain (OpenSpec.ofChange limbRingSpec)) limbRingCard

/-- THE TIED CARD OF 'isthmuslaw01.LimbThree'. -/
def limbThreeCard : Claim7 := { stood := { row := limbThreeRow, standIns := [], harness := (true, "1e79cb0b20158fe62a65deb9ac001d7036dd0f8a0f85365ff1c622f9f95cb4e9"), looks := false }, kinds := [], alts := [], laidByText := true, laidKinds := [.data, .data, .data], laidTests := true, laidLooks := .later }
def LimbThreeCardSaid : Prop := Claim7.holds Tryd.pinned (.plain (OpenSpec.ofChange limbThreeSpec)) limbThreeCard

/-- THE TIED CARD OF 'isthmuslaw01.LimbSplit'. -/
def limbSplitCard : Claim7 := { stood := { row := limbSplitRow, standIns := [], harness := (true, "1e79cb0b20158fe62a65deb9ac001d7036dd0f8a0f85365ff1c622f9f95cb4e9"), looks := false }, kinds := [], alts := [], laidByText := true, laidKinds := [.data, .data, .data], laidTests := true, laidLooks := .later }
def LimbSplitCardSaid : Prop := Claim7.holds Tryd.pinned (.plain (OpenSpec.ofChange limbSplitSpec)) limbSplitCard

/-- THE SECOND FORM's CARD OF 'isthmuslaw01.LimbOrder'. -/
def limbOrderUptoCard : Claim7 := { stood := { row := limbOrderUptoRow, standIns := [], harness := (true, "1e79cb0b20158fe62a65deb9ac001d7036dd0f8a0f85365ff1c622f9f95cb4e9"), looks := false }, kinds := [], alts := [], laidByText := true, laidKinds := [.data, .data, .data], laidTests := true, laidLooks := .later }
def LimbOrderUptoCardSaid : Prop := Claim7.holds Tryd.pinned (.plain (OpenSpec.upto limbOrderSpec)) limbOrderUptoCard

/-- THE SECOND FORM's CARD OF 'isthmuslaw01.LimbBytes'. -/
def limbBytesUptoCard : Claim7 := { stood := { row := limbBytesUptoRow, standIns := [], harness := (true, "1e79cb0b20158fe62a65deb9ac001d7036dd0f8a0f85365ff1c622f9f95cb4e9"), looks := false }, kinds := [], alts := [], laidByText := true, laidKinds := [.data, .data, .data], laidTests := true, laidLooks := .later }
def LimbBytesUptoCardSaid : Prop := Claim7.holds Tryd.pinned (.plain (OpenSpec.upto limbBytesSpec)) limbBytesUptoCard

/-- THE SECOND FORM's CARD OF 'isthmuslaw01.LimbSums'. -/
def limbSumsUptoCard : Claim7 := { stood := { row := limbSumsUptoRow, standIns := [], harness := (true, "1e79cb0b20158fe62a65deb9ac001d7036dd0f8a0f85365ff1c622f9f95cb4e9"), looks := false }, kinds := [], alts := [], laidByText := true, laidKinds := [.data, .data, .data], laidTests := true, laidLooks := .later }
def LimbSumsUptoCardSaid : Prop := Claim7.holds Tryd.pinned (.plain (OpenSpec.upto limbSumsSpec)) limbSumsUptoCard

/-- THE SECOND FORM's CARD OF 'isthmuslaw01.LimbProducts'. -/
def limbProductsUptoCard : Claim7 := { stood := { row := limbProductsUptoRow, standIns := [], harness := (true, "1e79cb0b20158fe62a65deb9ac001d7036dd0f8a0f85365ff1c622f9f95cb4e9"), looks := false }, kinds := [], alts := [], laidByText := true, laidKinds := [.data, .data, .data], laidTests := true, laidLooks := .later }
def LimbProductsUptoCardSaid : Prop := Claim7.holds Tryd.pinned (.plain (OpenSpec.upto limbProductsSpec)) limbProductsUptoCard

/-- THE SECOND FORM's CARD OF 'isthmuslaw01.LimbTexts'. -/
def limbTextsUptoCard : Claim7 := { stood := { row := limbTextsUptoRow, standIns := [], harness := (true, "1e79cb0b20158fe62a65deb9ac001d7036dd0f8a0f85365ff1c622f9f95cb4e9"), looks := false }, kinds := [], alts := [], laidByText := true, laidKinds := [.data, .data, .data], laidTests := true, laidLooks := .later }
def LimbTextsUptoCardSaid : Prop := Claim7.holds Tryd.pinned (.plain (OpenSpec.upto limbTextsSpec)) limbTextsUptoCard

/-- THE SECOND FORM's CARD OF 'isthmuslaw01.LimbRing'. -/
def limbRingUptoCard : Claim7 := { stood := { row := limbRingUptoRow, standIns := [], harness := (true, "1e79cb0b20158fe62a65deb9ac001d7036dd0f8a0f85365ff1c622f9f95cb4e9"), looks := false }, kinds := [], alts := [], laidByText := true, laidKinds := [.data, .data, .data], laidTests := true, laidLooks := .later }
def LimbRingUptoCardSaid : Prop := Claim7.holds Tryd.pinned (.plain (OpenSpec.upto limbRingSpec)) limbRingUptoCard

/-- THE SECOND FORM's CARD OF 'isthmuslaw01.LimbThree'. -/
def limbThreeUptoCard : Claim7 := { stood := { row := limbThreeUptoRow, standIns := [], harness := (true, "1e79cb0b20158fe62a65deb9ac001d7036dd0f8a0f85365ff1c622f9f95cb4e9"), looks := false }, kinds := [], alts := [], laidByText := true, laidKinds := [.data, .data, .data], laidTests := true, laidLooks := .later }
def LimbThreeUptoCardSaid : Prop := Claim7.holds Tryd.pinned (.plain (OpenSpec.upto limbThreeSpec)) limbThreeUptoCard

/-- THE SECOND FORM's CARD OF 'isthmuslaw01.LimbSplit'. -/
def limbSplitUptoCard : Claim7 := { stood := { row := limbSplitUptoRow, standIns := [], harness := (true, "1e79cb0b20158fe62a65deb9ac001d7036dd0f8a0f85365ff1c622f9f95cb4e9"), looks := false }, kinds := [], alts := [], laidByText := true, laidKinds := [.data, .data, .data], laidTests := true, laidLooks := .later }
def LimbSplitUptoCardSaid : Prop := Claim7.holds Tryd.pinned (.plain (OpenSpec.upto limbSplitSpec)) limbSplitUptoCard
end Rows
end Go.Proofs.YtbcmmamipjbfpaaDoor
