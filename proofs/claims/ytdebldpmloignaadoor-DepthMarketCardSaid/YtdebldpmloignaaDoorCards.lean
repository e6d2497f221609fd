/-
  DERIVED. GIVEN WITH THE SEED: THE CARDS: each row of YtdebldpmloignaaDoorRows.lean that lists a variable, with what it lists TIED to the program's text (the seventh form; the later family's looks); each row that meets fmt, with fmt's text TOLD by the authors' own Lean function (tested against real Go, not proved from fmt's source: count such statements apart). THE CARD IS WHAT COUNTS. Prove the row's statement (the work); the ties are given (YtdebldpmloignaaDoorTie.lean); close each card by the builder's one call (the guide's Derived/Test/ToyasCard.lean, 'card_holds'). Laid BY PROGRAM, IN A SANDBOX (cutbox-door.mjs). By AI agents, Wed Nov 11 2026. No macro, syntax, notation, axiom, sorry.
-/
import Derived.Test.YtdebldpmloignaaDoorRows
import GoSem.ClaimSeven
namespace Go.Proofs.YtdebldpmloignaaDoor
namespace Rows

/-- THE TIED CARD OF 'quitrentlaw03.WireOnly'. -/
def wireOnlyCard : Claim7 := { stood := { row := wireOnlyRow, standIns := [], harness := (true, "e6fb6f06226dabc15e816ff1dd540d2409aab39d27b874da396aca74b7054320"), looks := true }, kinds := [], alts := [], laidByText := true, laidKinds := [.handle, .sentinel, .sentinel], laidTests := true, laidLooks := .later }
def WireOnlyCardSaid : Prop := Claim7.holds Tryd.pinned (.plain (OpenSpec.ofChange wireOnlySpec)) wireOnlyCard

/-- THE TIED CARD OF 'quitrentlaw03.WireReads'. -/
def wireReadsCard : Claim7 := { stood := { row := wireReadsRow, standIns := [], harness := (true, "e6fb6f06226dabc15e816ff1dd540d2409aab39d27b874da396aca74b7054320"), looks := true }, kinds := [], alts := [], laidByText := true, laidKinds := [.handle, .sentinel, .sentinel], laidTests := true, laidLooks := .later }
def WireReadsCardSaid : Prop := Claim7.holds Tryd.pinned (.plain (OpenSpec.ofChange wireReadsSpec)) wireReadsCard

/-- THE TIED CARD OF 'quitrentlaw03.WireWrites'. -/
def wireWritesCard : Claim7 := { stood := { row := wireWritesRow, standIns := [], harness := (true, "e6fb6f06226dabc15e816ff1dd540d2409aab39d27b874da396aca74b7054320"), looks := true }, kinds := [], alts := [], laidByText := true, laidKinds := [.handle, .sentinel, .sentinel], laidTests := true, laidLooks := .later }
def WireWritesCardSaid : Prop := Claim7.holds Tryd.pinned (.plain (OpenSpec.ofChange wireWritesSpec)) wireWritesCard

/-- THE TIED CARD OF 'quitrentlaw03.WireBack'. -/
def wireBackCard : Claim7 := { stood := { row := wireBackRow, standIns := [], harness := (true, "e6fb6f06226dabc15e816ff1dd540d2409aab39d27b874da396aca74b7054320"), looks := true }, kinds := [], alts := [], laidByText := true, laidKinds := [.handle, .sentinel, .sentinel], laidTests := true, laidLooks := .later }
def WireBackCardSaid : Prop := Claim7.holds Tryd.pinned (.plain (OpenSpec.ofChange wireBackSpec)) wireBackCard

/-- THE TIED CARD OF 'quitrentlaw13.BookCuts'. -/
def bookCutsCard : Claim7 := { stood := { row := bookCutsRow, standIns := [], harness := (true, "e6fb6f06226dabc15e816ff1dd540d2409aab39d27b874da396aca74b7054320"), looks := true }, kinds := [], alts := [], laidByText := true, laidKinds := [.sentinel, .sentinel, .sentinel, .sentinel, .sentinel, .sentinel, .sentinel, .sentinel, .sentinel, .sentinel, .sentinel, .sentinel, .sentinel, .sentinel], laidTests := true, laidLooks := .later }
def BookCutsCardSaid : Prop := Claim7.holds Tryd.pinned (.plain (OpenSpec.ofChange bookCutsSpec)) bookCutsCard

/-- THE TIED CARD OF 'quitrentlaw13.BookOrder'. -/
def bookOrderCard : Claim7 := { stood := { row := bookOrderRow, standIns := [], harness := (true, "e6fb6f06226dabc15e816ff1dd540d2409aab39d27b874da396aca74b7054320"), looks := true }, kinds := [], alts := [], laidByText := true, laidKinds := [.sentinel, .sentinel, .sentinel, .sentinel, .sentinel, .sentinel, .sentinel, .sentinel, .sentinel, .sentinel, .sentinel, .sentinel, .sentinel, .sentinel], laidTests := true, laidLooks := .later }
def BookOrderCardSaid : Prop := Claim7.holds Tryd.pinned (.plain (OpenSpec.ofChange bookOrderSpec)) bookOrderCard

/-- THE TIED CARD OF 'quitrentlaw14.DealFair'. -/
def dealFairCard : Claim7 := { stood := { row := dealFairRow, standIns := [], harness := (true, "e6fb6f06226dabc15e816ff1dd540d2409aab39d27b874da396aca74b7054320"), looks := true }, kinds := [], alts := [], laidByText := true, laidKinds := [.sentinel, .sentinel, .sentinel, .sentinel, .sentinel], laidTests := true, laidLooks := .later }
def DealFairCardSaid : Prop := Claim7.holds Tryd.pinned (.plain (OpenSpec.ofChange dealFairSpec)) dealFairCard

/-- THE TIED CARD OF 'quitrentlaw14.DealParts'. -/
def dealPartsCard : Claim7 := { stood := { row := dealPartsRow, standIns := [], harness := (true, "e6fb6f06226dabc15e816ff1dd540d2409aab39d27b874da396aca74b7054320"), looks := true }, kinds := [], alts := [], laidByText := true, laidKinds := [.sentinel, .sentinel, .sentinel, .sentinel, .sentinel], laidTests := true, laidLooks := .later }
def DealPartsCardSaid : Prop := Claim7.holds Tryd.pinned (.plain (OpenSpec.ofChange dealPartsSpec)) dealPartsCard

/-- THE TIED CARD OF 'quitrentlaw13.BookExact'. -/
def bookExactCard : Claim7 := { stood := { row := bookExactRow, standIns := [], harness := (true, "e6fb6f06226dabc15e816ff1dd540d2409aab39d27b874da396aca74b7054320"), looks := true }, kinds := [], alts := [], laidByText := true, laidKinds := [.sentinel, .sentinel, .sentinel, .sentinel, .sentinel, .sentinel, .sentinel, .sentinel, .sentinel, .sentinel, .sentinel, .sentinel, .sentinel, .sentinel], laidTests := true, laidLooks := .later }
def BookExactCardSaid : Prop := Claim7.holds Tryd.pinned (.plain (OpenSpec.ofChange bookExactSpec)) bookExactCard

/-- THE TIED CARD OF 'quitrentlaw14.DealExact'. -/
def dealExactCard : Claim7 := { stood := { row := dealExactRow, standIns := [], harness := (true, "e6fb6f06226dabc15e816ff1dd540d2409aab39d27b874da396aca74b7054320"), looks := true }, kinds := [], alts := [], laidByText := true, laidKinds := [.sentinel, .sentinel, .sentinel, .sentinel, .sentinel, .sentinel, .sentinel, .sentinel, .sentinel, .sentinel, .sentinel, .sentinel, .sentinel, .sentinel], laidTests := true, laidLooks := .later }
def DealExactCardSaid : Prop := Claim7.holds Tryd.pinned (.plain (OpenSpec.ofChange dealExactSpec)) dealExactCard

/-- THE TIED CARD OF 'quitrentlaw34.DepthMarket'. -/
def depthMarketCard : Claim7 := { stood := { row := depthMarketRow, standIns := [], harness := (true, "e6fb6f06226dabc15e816ff1dd540d2409aab39d27b874da396aca74b7054320"), looks := true }, kinds := [], alts := [], laidByText := true, laidKinds := [.sentinel, .sentinel, .sentinel, .sentinel, .sentinel], laidTests := true, laidLooks := .later }
def DepthMarketCardSaid : Prop := Claim7.holds Tryd.pinned (.plain (OpenSpec.ofChange depthMarketSpec)) depthMarketCard

/-- THE SECOND FORM's CARD OF 'quitrentlaw03.WireOnly'. -/
def wireOnlyUptoCard : Claim7 := { stood := { row := wireOnlyUptoRow, standIns := [], harness := (true, "e6fb6f06226dabc15e816ff1dd540d2409aab39d27b874da396aca74b7054320"), looks := true }, kinds := [], alts := [], laidByText := true, laidKinds := [.handle, .sentinel, .sentinel], laidTests := true, laidLooks := .later }
def WireOnlyUptoCardSaid : Prop := Claim7.holds Tryd.pinned (.plain (OpenSpec.upto wireOnlySpec)) wireOnlyUptoCard

/-- THE SECOND FORM's CARD OF 'quitrentlaw03.WireReads'. -/
def wireReadsUptoCard : Claim7 := { stood := { row := wireReadsUptoRow, standIns := [], harness := (true, "e6fb6f06226dabc15e816ff1dd540d2409aab39d27b874da396aca74b7054320"), looks := true }, kinds := [], alts := [], laidByText := true, laidKinds := [.handle, .sentinel, .sentinel], laidTests := true, laidLooks := .later }
def WireReadsUptoCardSaid : Prop := Claim7.holds Tryd.pinned (.plain (OpenSpec.upto wireReadsSpec)) wireReadsUptoCard

/-- THE SECOND FORM's CARD OF 'quitrentlaw03.WireWrites'. -/
def wireWritesUptoCard : Claim7 := { stood := { row := wireWritesUptoRow, standIns := [], harness := (true, "e6fb6f06226dabc15e816ff1dd540d2409aab39d27b874da396aca74b7054320"), looks := true }, kinds := [], alts := [], laidByText := true, laidKinds := [.handle, .sentinel, .sentinel], laidTests := true, laidLooks := .later }
def WireWritesUptoCardSaid : Prop := Claim7.holds Tryd.pinned (.plain (OpenSpec.upto wireWritesSpec)) wireWritesUptoCard

/-- THE SECOND FORM's CARD OF 'quitrentlaw03.WireBack'. -/
def wireBackUptoCard : Claim7 := { stood := { row := wireBackUptoRow, standIns := [], harness := (true, "e6fb6f06226dabc15e816ff1dd540d2409aab39d27b874da396aca74b7054320"), looks := true }, kinds := [], alts := [], laidByText := true, laidKinds := [.handle, .sentinel, .sentinel], laidTests := true, laidLooks := .later }
def WireBackUptoCardSaid : Prop := Claim7.holds Tryd.pinned (.plain (OpenSpec.upto wireBackSpec)) wireBackUptoCard

/-- THE SECOND FORM's CARD OF 'quitrentlaw13.BookCuts'. -/
def bookCutsUptoCard : Claim7 := { stood := { row := bookCutsUptoRow, standIns := [], harness := (true, "e6fb6f06226dabc15e816ff1dd540d2409aab39d27b874da396aca74b7054320"), looks := true }, kinds := [], alts := [], laidByText := true, laidKinds := [.sentinel, .sentinel, .sentinel, .sentinel, .sentinel, .sentinel, .sentinel, .sentinel, .sentinel, .sentinel, .sentinel, .sentinel, .sentinel, .sentinel], laidTests := true, laidLooks := .later }
def BookCutsUptoCardSaid : Prop := Claim7.holds Tryd.pinned (.plain (OpenSpec.upto bookCutsSpec)) bookCutsUptoCard

/-- THE SECOND FORM's CARD OF 'quitrentlaw13.BookOrder'. -/
def bookOrderUptoCard : Claim7 := { stood := { row := bookOrderUptoRow, standIns := [], harness := (true, "e6fb6f06226dabc15e816ff1dd540d2409aab39d27b874da396aca74b7054320"), looks := true }, kinds := [], alts := [], laidByText := true, laidKinds := [.sentinel, .sentinel, .sentinel, .sentinel, .sentinel, .sentinel, .sentinel, .sentinel, .sentinel, .sentinel, .sentinel, .sentinel, .sentinel, .sentinel], laidTests := true, laidLooks := .later }
def BookOrderUptoCardSaid : Prop := Claim7.holds Tryd.pinned (.plain (OpenSpec.upto bookOrderSpec)) bookOrderUptoCard

/-- THE SECOND FORM's CARD OF 'quitrentlaw14.DealFair'. -/
def dealFairUptoCard : Claim7 := { stood := { row := dealFairUptoRow, standIns := [], harness := (true, "e6fb6f06226dabc15e816ff1dd540d2409aab39d27b874da396aca74b7054320"), looks := true }, kinds := [], alts := [], laidByText := true, laidKinds := [.sentinel, .sentinel, .sentinel, .sentinel, .sentinel], laidTests := true, laidLooks := .later }
def DealFairUptoCardSaid : Prop := Claim7.holds Tryd.pinned (.plain (OpenSpec.upto dealFairSpec)) dealFairUptoCard

/-- THE SECOND FORM's CARD OF 'quitrentlaw14.DealParts'. -/
def dealPartsUptoCard : Claim7 := { stood := { row := dealPartsUptoRow, standIns := [], harness := (true, "e6fb6f06226dabc15e816ff1dd540d2409aab39d27b874da396aca74b7054320"), looks := true }, kinds := [], alts := [], laidByText := true, laidKinds := [.sentinel, .sentinel, .sentinel, .sentinel, .sentinel], laidTests := true, laidLooks := .later }
def DealPartsUptoCardSaid : Prop := Claim7.holds Tryd.pinned (.plain (OpenSpec.upto dealPartsSpec)) dealPartsUptoCard

/-- THE SECOND FORM's CARD OF 'quitrentlaw13.BookExact'. -/
def bookExactUptoCard : Claim7 := { stood := { row := bookExactUptoRow, standIns := [], harness := (true, "e6fb6f06226dabc15e816ff1dd540d2409aab39d27b874da396aca74b7054320"), looks := true }, kinds := [], alts := [], laidByText := true, laidKinds := [.sentinel, .sentinel, .sentinel, .sentinel, .sentinel, .sentinel, .sentinel, .sentinel, .sentinel, .sentinel, .sentinel, .sentinel, .sentinel, .sentinel], laidTests := true, laidLooks := .later }
def BookExactUptoCardSaid : Prop := Claim7.holds Tryd.pinned (.plain (OpenSpec.upto bookExactSpec)) bookExactUptoCard

/-- THE SECOND FORM's CARD OF 'quitrentlaw14.DealExact'. -/
def dealExactUptoCard : Claim7 := { stood := { row := dealExactUptoRow, standIns := [], harness := (true, "e6fb6f06226dabc15e816ff1dd540d2409aab39d27b874da396aca74b7054320"), looks := true }, kinds := [], alts := [], laidByText := true, laidKinds := [.sentinel, .sentinel, .sentinel, .sentinel, .sentinel, .sentinel, .sentinel, .sentinel, .sentinel, .sentinel, .sentinel, .sentinel, .sentinel, .sentinel], laidTests := true, laidLooks := .later }
def DealExactUptoCardSaid : Prop := Claim7.holds Tryd.pinned (.plain (OpenSpec.upto dealExactSpec)) dealExactUptoCard

/-- THE SECOND FORM's CARD OF 'quitrentlaw34.DepthMarket'. -/
def depthMarketUptoCard : Claim7 := { stood := { row := depthMarketUptoRow, standIns := [], harness := (true, "e6fb6f06226dabc15e816ff1dd540d2409aab39d27b874da396aca74b7054320"), looks := true }, kinds := [], alts := [], laidByText := true, laidKinds := [.sentinel, .sentinel, .sentinel, .sentinel, .sentinel], laidTests := true, laidLooks := .later }
def DepthMarketUptoCardSaid : Prop := Claim7.holds Tryd.pinned (.plain (OpenSpec.upto depthMarketSpec)) depthMarketUptoCard
end Rows
end Go.Proofs.YtdebldpmloignaaDoor
