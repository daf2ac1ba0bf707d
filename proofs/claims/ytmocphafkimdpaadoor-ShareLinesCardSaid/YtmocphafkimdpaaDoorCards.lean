/-
  DERIVED. GIVEN WITH THE SEED: THE CARDS: each row of YtmocphafkimdpaaDoorRows.lean that lists a variable, with what it lists TIED to the program's text (the seventh form; the later family's looks); each row that meets fmt, with fmt's text TOLD by the authors' own Lean function (tested against real Go, not proved from fmt's source: count such statements apart). THE CARD IS WHAT COUNTS. Prove the row's statement (the work); the ties are given (YtmocphafkimdpaaDoorTie.lean); close each card by the builder's one call (the guide's Derived/Test/ToyasCard.lean, 'card_holds'). Laid BY PROGRAM, IN A SANDBOX (cutbox-door.mjs). By AI agents, Wed Nov 11 2026. No macro, syntax, notation, axiom, sorry.
-/
import Derived.Test.YtmocphafkimdpaaDoorRows
import GoSem.ClaimSeven
namespace Go.Proofs.YtmocphafkimdpaaDoor
namespace Rows

/-- THE TIED CARD OF 'stipendlaw16.ShareDelta'. -/
def shareDeltaCard : Claim7 := { stood := { row := shareDeltaRow, standIns := [], harness := (true, "f40ed0f9ff76a59ce15e71fd9732a1c8ced0ee548db3b693edcd3117ee69f53a"), looks := false }, kinds := [], alts := [], laidByText := true, laidKinds := [.data, .data, .data], laidTests := true, laidLooks := .later }
def ShareDeltaCardSaid : Prop := Claim7.holds Tryd.pinned (.plain (OpenSpec.ofChange shareDeltaSpec)) shareDeltaCard

/-- THE TIED CARD OF 'stipendlaw16.ShareReach'. -/
def shareReachCard : Claim7 := { stood := { row := shareReachRow, standIns := [], harness := (true, "f40ed0f9ff76a59ce15e71fd9732a1c8ced0ee548db3b693edcd3117ee69f53a"), looks := false }, kinds := [], alts := [], laidByText := true, laidKinds := [.data, .data, .data], laidTests := true, laidLooks := .later }
def ShareReachCardSaid : Prop := Claim7.holds Tryd.pinned (.plain (OpenSpec.ofChange shareReachSpec)) shareReachCard

/-- THE TIED CARD OF 'stipendlaw16.ShareSides'. -/
def shareSidesCard : Claim7 := { stood := { row := shareSidesRow, standIns := [], harness := (true, "f40ed0f9ff76a59ce15e71fd9732a1c8ced0ee548db3b693edcd3117ee69f53a"), looks := false }, kinds := [], alts := [], laidByText := true, laidKinds := [.data, .data, .data], laidTests := true, laidLooks := .later }
def ShareSidesCardSaid : Prop := Claim7.holds Tryd.pinned (.plain (OpenSpec.ofChange shareSidesSpec)) shareSidesCard

/-- THE TIED CARD OF 'stipendlaw11.ElementValues'. -/
def elementValuesCard : Claim7 := { stood := { row := elementValuesRow, standIns := [], harness := (true, "f40ed0f9ff76a59ce15e71fd9732a1c8ced0ee548db3b693edcd3117ee69f53a"), looks := false }, kinds := [], alts := [], laidByText := true, laidKinds := [.data, .data, .data], laidTests := true, laidLooks := .later }
def ElementValuesCardSaid : Prop := Claim7.holds Tryd.pinned (.plain (OpenSpec.ofChange elementValuesSpec)) elementValuesCard

/-- THE TIED CARD OF 'stipendtop.WholeParts'. -/
def wholePartsCard : Claim7 := { stood := { row := wholePartsRow, standIns := [], harness := (true, "f40ed0f9ff76a59ce15e71fd9732a1c8ced0ee548db3b693edcd3117ee69f53a"), looks := false }, kinds := [], alts := [], laidByText := true, laidKinds := [.data, .data, .data], laidTests := true, laidLooks := .later }
def WholePartsCardSaid : Prop := Claim7.holds Tryd.pinned (.plain (OpenSpec.ofChange wholePartsSpec)) wholePartsCard

/-- THE TIED CARD OF 'stipendlaw11.ElementParses'. -/
def elementParsesCard : Claim7 := { stood := { row := elementParsesRow, standIns := [], harness := (true, "f40ed0f9ff76a59ce15e71fd9732a1c8ced0ee548db3b693edcd3117ee69f53a"), looks := false }, kinds := [], alts := [], laidByText := true, laidKinds := [.data, .data, .data], laidTests := true, laidLooks := .later }
def ElementParsesCardSaid : Prop := Claim7.holds Tryd.pinned (.plain (OpenSpec.ofChange elementParsesSpec)) elementParsesCard

/-- THE TIED CARD OF 'stipendlaw11.ElementSums'. -/
def elementSumsCard : Claim7 := { stood := { row := elementSumsRow, standIns := [], harness := (true, "f40ed0f9ff76a59ce15e71fd9732a1c8ced0ee548db3b693edcd3117ee69f53a"), looks := false }, kinds := [], alts := [], laidByText := true, laidKinds := [.data, .data, .data], laidTests := true, laidLooks := .later }
def ElementSumsCardSaid : Prop := Claim7.holds Tryd.pinned (.plain (OpenSpec.ofChange elementSumsSpec)) elementSumsCard

/-- THE TIED CARD OF 'stipendlaw11.ElementChange'. -/
def elementChangeCard : Claim7 := { stood := { row := elementChangeRow, standIns := [], harness := (true, "f40ed0f9ff76a59ce15e71fd9732a1c8ced0ee548db3b693edcd3117ee69f53a"), looks := false }, kinds := [], alts := [], laidByText := true, laidKinds := [.data, .data, .data], laidTests := true, laidLooks := .later }
def ElementChangeCardSaid : Prop := Claim7.holds Tryd.pinned (.plain (OpenSpec.ofChange elementChangeSpec)) elementChangeCard

/-- THE TIED CARD OF 'stipendlaw11.ElementChecks'. -/
def elementChecksCard : Claim7 := { stood := { row := elementChecksRow, standIns := [], harness := (true, "f40ed0f9ff76a59ce15e71fd9732a1c8ced0ee548db3b693edcd3117ee69f53a"), looks := false }, kinds := [], alts := [], laidByText := true, laidKinds := [.data, .data, .data], laidTests := true, laidLooks := .later }
def ElementChecksCardSaid : Prop := Claim7.holds Tryd.pinned (.plain (OpenSpec.ofChange elementChecksSpec)) elementChecksCard

/-- THE TIED CARD OF 'stipendlaw16.ShareLines'. -/
def shareLinesCard : Claim7 := { stood := { row := shareLinesRow, standIns := [], harness := (true, "f40ed0f9ff76a59ce15e71fd9732a1c8ced0ee548db3b693edcd3117ee69f53a"), looks := false }, kinds := [], alts := [], laidByText := true, laidKinds := [.data, .data, .data], laidTests := true, laidLooks := .later }
def ShareLinesCardSaid : Prop := Claim7.holds Tryd.pinned (.plain (OpenSpec.ofChange shareLinesSpec)) shareLinesCard

/-- THE TIED CARD OF 'stipendlaw01.MoneyTexts'. -/
def moneyTextsCard : Claim7 := { stood := { row := moneyTextsRow, standIns := [], harness := (true, "f40ed0f9ff76a59ce15e71fd9732a1c8ced0ee548db3b693edcd3117ee69f53a"), looks := false }, kinds := [], alts := [], laidByText := true, laidKinds := [.data, .data, .data], laidTests := true, laidLooks := .later }
def MoneyTextsCardSaid : Prop := Claim7.holds Tryd.pinned (.plain (OpenSpec.ofChange moneyTextsSpec)) moneyTextsCard

/-- THE TIED CARD OF 'stipendlaw01.MoneyParses'. -/
def moneyParsesCard : Claim7 := { stood := { row := moneyParsesRow, standIns := [], harness := (true, "f40ed0f9ff76a59ce15e71fd9732a1c8ced0ee548db3b693edcd3117ee69f53a"), looks := false }, kinds := [], alts := [], laidByText := true, laidKinds := [.data, .data, .data], laidTests := true, laidLooks := .later }
def MoneyParsesCardSaid : Prop := Claim7.holds Tryd.pinned (.plain (OpenSpec.ofChange moneyParsesSpec)) moneyParsesCard

/-- THE TIED CARD OF 'stipendlaw01.MoneyAbs'. -/
def moneyAbsCard : Claim7 := { stood := { row := moneyAbsRow, standIns := [], harness := (true, "f40ed0f9ff76a59ce15e71fd9732a1c8ced0ee548db3b693edcd3117ee69f53a"), looks := false }, kinds := [], alts := [], laidByText := true, laidKinds := [.data, .data, .data], laidTests := true, laidLooks := .later }
def MoneyAbsCardSaid : Prop := Claim7.holds Tryd.pinned (.plain (OpenSpec.ofChange moneyAbsSpec)) moneyAbsCard

/-- THE TIED CARD OF 'stipendlaw01.MoneySpreads'. -/
def moneySpreadsCard : Claim7 := { stood := { row := moneySpreadsRow, standIns := [], harness := (true, "f40ed0f9ff76a59ce15e71fd9732a1c8ced0ee548db3b693edcd3117ee69f53a"), looks := false }, kinds := [], alts := [], laidByText := true, laidKinds := [.data, .data, .data], laidTests := true, laidLooks := .later }
def MoneySpreadsCardSaid : Prop := Claim7.holds Tryd.pinned (.plain (OpenSpec.ofChange moneySpreadsSpec)) moneySpreadsCard

/-- THE TIED CARD OF 'stipendlaw01.MoneyAdds'. -/
def moneyAddsCard : Claim7 := { stood := { row := moneyAddsRow, standIns := [], harness := (true, "f40ed0f9ff76a59ce15e71fd9732a1c8ced0ee548db3b693edcd3117ee69f53a"), looks := false }, kinds := [], alts := [], laidByText := true, laidKinds := [.data, .data, .data], laidTests := true, laidLooks := .later }
def MoneyAddsCardSaid : Prop := Claim7.holds Tryd.pinned (.plain (OpenSpec.ofChange moneyAddsSpec)) moneyAddsCard

/-- THE TIED CARD OF 'stipendlaw01.MoneySums'. -/
def moneySumsCard : Claim7 := { stood := { row := moneySumsRow, standIns := [], harness := (true, "f40ed0f9ff76a59ce15e71fd9732a1c8ced0ee548db3b693edcd3117ee69f53a"), looks := false }, kinds := [], alts := [], laidByText := true, laidKinds := [.data, .data, .data], laidTests := true, laidLooks := .later }
def MoneySumsCardSaid : Prop := Claim7.holds Tryd.pinned (.plain (OpenSpec.ofChange moneySumsSpec)) moneySumsCard

/-- THE TIED CARD OF 'stipendlaw01.MoneyTimes'. -/
def moneyTimesCard : Claim7 := { stood := { row := moneyTimesRow, standIns := [], harness := (true, "f40ed0f9ff76a59ce15e71fd9732a1c8ced0ee548db3b693edcd3117ee69f53a"), looks := false }, kinds := [], alts := [], laidByText := true, laidKinds := [.data, .data, .data], laidTests := true, laidLooks := .later }
def MoneyTimesCardSaid : Prop := Claim7.holds Tryd.pinned (.plain (OpenSpec.ofChange moneyTimesSpec)) moneyTimesCard

/-- THE TIED CARD OF 'stipendlaw01.MoneyUnits'. -/
def moneyUnitsCard : Claim7 := { stood := { row := moneyUnitsRow, standIns := [], harness := (true, "f40ed0f9ff76a59ce15e71fd9732a1c8ced0ee548db3b693edcd3117ee69f53a"), looks := false }, kinds := [], alts := [], laidByText := true, laidKinds := [.data, .data, .data], laidTests := true, laidLooks := .later }
def MoneyUnitsCardSaid : Prop := Claim7.holds Tryd.pinned (.plain (OpenSpec.ofChange moneyUnitsSpec)) moneyUnitsCard

/-- THE TIED CARD OF 'stipendlaw11.ElementTexts'. -/
def elementTextsCard : Claim7 := { stood := { row := elementTextsRow, standIns := [], harness := (true, "f40ed0f9ff76a59ce15e71fd9732a1c8ced0ee548db3b693edcd3117ee69f53a"), looks := false }, kinds := [], alts := [], laidByText := true, laidKinds := [.data, .data, .data, .listed, .data], laidTests := true, laidLooks := .later }
def ElementTextsCardSaid : Prop := Claim7.holds Tryd.pinned (.plain (OpenSpec.ofChange elementTextsSpec)) elementTextsCard

/-- THE SECOND FORM's CARD OF 'stipendlaw16.ShareDelta'. -/
def shareDeltaUptoCard : Claim7 := { stood := { row := shareDeltaUptoRow, standIns := [], harness := (true, "f40ed0f9ff76a59ce15e71fd9732a1c8ced0ee548db3b693edcd3117ee69f53a"), looks := false }, kinds := [], alts := [], laidByText := true, laidKinds := [.data, .data, .data], laidTests := true, laidLooks := .later }
def ShareDeltaUptoCardSaid : Prop := Claim7.holds Tryd.pinned (.plain (OpenSpec.upto shareDeltaSpec)) shareDeltaUptoCard

/-- THE SECOND FORM's CARD OF 'stipendlaw16.ShareReach'. -/
def shareReachUptoCard : Claim7 := { stood := { row := shareReachUptoRow, standIns := [], harness := (true, "f40ed0f9ff76a59ce15e71fd9732a1c8ced0ee548db3b693edcd3117ee69f53a"), looks := false }, kinds := [], alts := [], laidByText := true, laidKinds := [.data, .data, .data], laidTests := true, laidLooks := .later }
def ShareReachUptoCardSaid : Prop := Claim7.holds Tryd.pinned (.plain (OpenSpec.upto shareReachSpec)) shareReachUptoCard

/-- THE SECOND FORM's CARD OF 'stipendlaw16.ShareSides'. -/
def shareSidesUptoCard : Claim7 := { stood := { row := shareSidesUptoRow, standIns := [], harness := (true, "f40ed0f9ff76a59ce15e71fd9732a1c8ced0ee548db3b693edcd3117ee69f53a"), looks := false }, kinds := [], alts := [], laidByText := true, laidKinds := [.data, .data, .data], laidTests := true, laidLooks := .later }
def ShareSidesUptoCardSaid : Prop := Claim7.holds Tryd.pinned (.plain (OpenSpec.upto shareSidesSpec)) shareSidesUptoCard

/-- THE SECOND FORM's CARD OF 'stipendlaw11.ElementValues'. -/
def elementValuesUptoCard : Claim7 := { stood := { row := elementValuesUptoRow, standIns := [], harness := (true, "f40ed0f9ff76a59ce15e71fd9732a1c8ced0ee548db3b693edcd3117ee69f53a"), looks := false }, kinds := [], alts := [], laidByText := true, laidKinds := [.data, .data, .data], laidTests := true, laidLooks := .later }
def ElementValuesUptoCardSaid : Prop := Claim7.holds Tryd.pinned (.plain (OpenSpec.upto elementValuesSpec)) elementValuesUptoCard

/-- THE SECOND FORM's CARD OF 'stipendtop.WholeParts'. -/
def wholePartsUptoCard : Claim7 := { stood := { row := wholePartsUptoRow, standIns := [], harness := (true, "f40ed0f9ff76a59ce15e71fd9732a1c8ced0ee548db3b693edcd3117ee69f53a"), looks := false }, kinds := [], alts := [], laidByText := true, laidKinds := [.data, .data, .data], laidTests := true, laidLooks := .later }
def WholePartsUptoCardSaid : Prop := Claim7.holds Tryd.pinned (.plain (OpenSpec.upto wholePartsSpec)) wholePartsUptoCard

/-- THE SECOND FORM's CARD OF 'stipendlaw11.ElementParses'. -/
def elementParsesUptoCard : Claim7 := { stood := { row := elementParsesUptoRow, standIns := [], harness := (true, "f40ed0f9ff76a59ce15e71fd9732a1c8ced0ee548db3b693edcd3117ee69f53a"), looks := false }, kinds := [], alts := [], laidByText := true, laidKinds := [.data, .data, .data], laidTests := true, laidLooks := .later }
def ElementParsesUptoCardSaid : Prop := Claim7.holds Tryd.pinned (.plain (OpenSpec.upto elementParsesSpec)) elementParsesUptoCard

/-- THE SECOND FORM's CARD OF 'stipendlaw11.ElementSums'. -/
def elementSumsUptoCard : Claim7 := { stood := { row := elementSumsUptoRow, standIns := [], harness := (true, "f40ed0f9ff76a59ce15e71fd9732a1c8ced0ee548db3b693edcd3117ee69f53a"), looks := false }, kinds := [], alts := [], laidByText := true, laidKinds := [.data, .data, .data], laidTests := true, laidLooks := .later }
def ElementSumsUptoCardSaid : Prop := Claim7.holds Tryd.pinned (.plain (OpenSpec.upto elementSumsSpec)) elementSumsUptoCard

/-- THE SECOND FORM's CARD OF 'stipendlaw11.ElementChange'. -/
def elementChangeUptoCard : Claim7 := { stood := { row := elementChangeUptoRow, standIns := [], harness := (true, "f40ed0f9ff76a59ce15e71fd9732a1c8ced0ee548db3b693edcd3117ee69f53a"), looks := false }, kinds := [], alts := [], laidByText := true, laidKinds := [.data, .data, .data], laidTests := true, laidLooks := .later }
def ElementChangeUptoCardSaid : Prop := Claim7.holds Tryd.pinned (.plain (OpenSpec.upto elementChangeSpec)) elementChangeUptoCard

/-- THE SECOND FORM's CARD OF 'stipendlaw11.ElementChecks'. -/
def elementChecksUptoCard : Claim7 := { stood := { row := elementChecksUptoRow, standIns := [], harness := (true, "f40ed0f9ff76a59ce15e71fd9732a1c8ced0ee548db3b693edcd3117ee69f53a"), looks := false }, kinds := [], alts := [], laidByText := true, laidKinds := [.data, .data, .data], laidTests := true, laidLooks := .later }
def ElementChecksUptoCardSaid : Prop := Claim7.holds Tryd.pinned (.plain (OpenSpec.upto elementChecksSpec)) elementChecksUptoCard

/-- THE SECOND FORM's CARD OF 'stipendlaw16.ShareLines'. -/
def shareLinesUptoCard : Claim7 := { stood := { row := shareLinesUptoRow, standIns := [], harness := (true, "f40ed0f9ff76a59ce15e71fd9732a1c8ced0ee548db3b693edcd3117ee69f53a"), looks := false }, kinds := [], alts := [], laidByText := true, laidKinds := [.data, .data, .data], laidTests := true, laidLooks := .later }
def ShareLinesUptoCardSaid : Prop := Claim7.holds Tryd.pinned (.plain (OpenSpec.upto shareLinesSpec)) shareLinesUptoCard

/-- THE SECOND FORM's CARD OF 'stipendlaw01.MoneyTexts'. -/
def moneyTextsUptoCard : Claim7 := { stood := { row := moneyTextsUptoRow, standIns := [], harness := (true, "f40ed0f9ff76a59ce15e71fd9732a1c8ced0ee548db3b693edcd3117ee69f53a"), looks := false }, kinds := [], alts := [], laidByText := true, laidKinds := [.data, .data, .data], laidTests := true, laidLooks := .later }
def MoneyTextsUptoCardSaid : Prop := Claim7.holds Tryd.pinned (.plain (OpenSpec.upto moneyTextsSpec)) moneyTextsUptoCard

/-- THE SECOND FORM's CARD OF 'stipendlaw01.MoneyParses'. -/
def moneyParsesUptoCard : Claim7 := { stood := { row := moneyParsesUptoRow, standIns := [], harness := (true, "f40ed0f9ff76a59ce15e71fd9732a1c8ced0ee548db3b693edcd3117ee69f53a"), looks := false }, kinds := [], alts := [], laidByText := true, laidKinds := [.data, .data, .data], laidTests := true, laidLooks := .later }
def MoneyParsesUptoCardSaid : Prop := Claim7.holds Tryd.pinned (.plain (OpenSpec.upto moneyParsesSpec)) moneyParsesUptoCard

/-- THE SECOND FORM's CARD OF 'stipendlaw01.MoneyAbs'. -/
def moneyAbsUptoCard : Claim7 := { stood := { row := moneyAbsUptoRow, standIns := [], harness := (true, "f40ed0f9ff76a59ce15e71fd9732a1c8ced0ee548db3b693edcd3117ee69f53a"), looks := false }, kinds := [], alts := [], laidByText := true, laidKinds := [.data, .data, .data], laidTests := true, laidLooks := .later }
def MoneyAbsUptoCardSaid : Prop := Claim7.holds Tryd.pinned (.plain (OpenSpec.upto moneyAbsSpec)) moneyAbsUptoCard

/-- THE SECOND FORM's CARD OF 'stipendlaw01.MoneySpreads'. -/
def moneySpreadsUptoCard : Claim7 := { stood := { row := moneySpreadsUptoRow, standIns := [], harness := (true, "f40ed0f9ff76a59ce15e71fd9732a1c8ced0ee548db3b693edcd3117ee69f53a"), looks := false }, kinds := [], alts := [], laidByText := true, laidKinds := [.data, .data, .data], laidTests := true, laidLooks := .later }
def MoneySpreadsUptoCardSaid : Prop := Claim7.holds Tryd.pinned (.plain (OpenSpec.upto moneySpreadsSpec)) moneySpreadsUptoCard

/-- THE SECOND FORM's CARD OF 'stipendlaw01.MoneyAdds'. -/
def moneyAddsUptoCard : Claim7 := { stood := { row := moneyAddsUptoRow, standIns := [], harness := (true, "f40ed0f9ff76a59ce15e71fd9732a1c8ced0ee548db3b693edcd3117ee69f53a"), looks := false }, kinds := [], alts := [], laidByText := true, laidKinds := [.data, .data, .data], laidTests := true, laidLooks := .later }
def MoneyAddsUptoCardSaid : Prop := Claim7.holds Tryd.pinned (.plain (OpenSpec.upto moneyAddsSpec)) moneyAddsUptoCard

/-- THE SECOND FORM's CARD OF 'stipendlaw01.MoneySums'. -/
def moneySumsUptoCard : Claim7 := { stood := { row := moneySumsUptoRow, standIns := [], harness := (true, "f40ed0f9ff76a59ce15e71fd9732a1c8ced0ee548db3b693edcd3117ee69f53a"), looks := false }, kinds := [], alts := [], laidByText := true, laidKinds := [.data, .data, .data], laidTests := true, laidLooks := .later }
def MoneySumsUptoCardSaid : Prop := Claim7.holds Tryd.pinned (.plain (OpenSpec.upto moneySumsSpec)) moneySumsUptoCard

/-- THE SECOND FORM's CARD OF 'stipendlaw01.MoneyTimes'. -/
def moneyTimesUptoCard : Claim7 := { stood := { row := moneyTimesUptoRow, standIns := [], harness := (true, "f40ed0f9ff76a59ce15e71fd9732a1c8ced0ee548db3b693edcd3117ee69f53a"), looks := false }, kinds := [], alts := [], laidByText := true, laidKinds := [.data, .data, .data], laidTests := true, laidLooks := .later }
def MoneyTimesUptoCardSaid : Prop := Claim7.holds Tryd.pinned (.plain (OpenSpec.upto moneyTimesSpec)) moneyTimesUptoCard

/-- THE SECOND FORM's CARD OF 'stipendlaw01.MoneyUnits'. -/
def moneyUnitsUptoCard : Claim7 := { stood := { row := moneyUnitsUptoRow, standIns := [], harness := (true, "f40ed0f9ff76a59ce15e71fd9732a1c8ced0ee548db3b693edcd3117ee69f53a"), looks := false }, kinds := [], alts := [], laidByText := true, laidKinds := [.data, .data, .data], laidTests := true, laidLooks := .later }
def MoneyUnitsUptoCardSaid : Prop := Claim7.holds Tryd.pinned (.plain (OpenSpec.upto moneyUnitsSpec)) moneyUnitsUptoCard

/-- THE SECOND FORM's CARD OF 'stipendlaw11.ElementTexts'. -/
def elementTextsUptoCard : Claim7 := { stood := { row := elementTextsUptoRow, standIns := [], harness := (true, "f40ed0f9ff76a59ce15e71fd9732a1c8ced0ee548db3b693edcd3117ee69f53a"), looks := false }, kinds := [], alts := [], laidByText := true, laidKinds := [.data, .data, .data, .listed, .data], laidTests := true, laidLooks := .later }
def ElementTextsUptoCardSaid : Prop := Claim7.holds Tryd.pinned (.plain (OpenSpec.upto elementTextsSpec)) elementTextsUptoCard
end Rows
end Go.Proofs.YtmocphafkimdpaaDoor
