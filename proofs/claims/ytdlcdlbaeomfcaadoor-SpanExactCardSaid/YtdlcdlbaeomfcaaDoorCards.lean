/-
  DERIVED. GIVEN WITH THE SEED: THE CARDS: each row of YtdlcdlbaeomfcaaDoorRows.lean that lists a variable, with what it lists TIED to the program's text (the seventh form; the later family's looks); each row that meets fmt, with fmt's text TOLD by the authors' own Lean function (tested against real Go, not proved from fmt's source: count such statements apart). THE CARD IS WHAT COUNTS. Prove the row's statement (the work); the ties are given (YtdlcdlbaeomfcaaDoorTie.lean); close each card by the builder's one call (the guide's Derived/Test/ToyasCard.lean, 'card_holds'). Laid BY PROGRAM, IN A SANDBOX (cutbox-door.mjs). By AI agents, Wed Nov 11 2026. No macro, syntax, notation, axiom, sorry.
-/
import Derived.Test.YtdlcdlbaeomfcaaDoorRows
import GoSem.ClaimSeven
namespace Go.Proofs.YtdlcdlbaeomfcaaDoor
namespace Rows

/-- THE TIED CARD OF 'quitrentlaw09.SpanTicks'. -/
def spanTicksCard : Claim7 := { stood := { row := spanTicksRow, standIns := [], harness := (true, "2df379123c378733011746e58c949f449245f6fdfb6674886354cccf87110396"), looks := true }, kinds := [], alts := [], laidByText := true, laidKinds := [.sentinel], laidTests := true, laidLooks := .later }
def SpanTicksCardSaid : Prop := Claim7.holds Tryd.pinned (.plain (OpenSpec.ofChange spanTicksSpec)) spanTicksCard

/-- THE TIED CARD OF 'quitrentlaw09.SpanRows'. -/
def spanRowsCard : Claim7 := { stood := { row := spanRowsRow, standIns := [], harness := (true, "2df379123c378733011746e58c949f449245f6fdfb6674886354cccf87110396"), looks := true }, kinds := [], alts := [], laidByText := true, laidKinds := [.sentinel], laidTests := true, laidLooks := .later }
def SpanRowsCardSaid : Prop := Claim7.holds Tryd.pinned (.plain (OpenSpec.ofChange spanRowsSpec)) spanRowsCard

/-- THE TIED CARD OF 'quitrentlaw09.SpanExact'. -/
def spanExactCard : Claim7 := { stood := { row := spanExactRow, standIns := [], harness := (true, "2df379123c378733011746e58c949f449245f6fdfb6674886354cccf87110396"), looks := true }, kinds := [], alts := [], laidByText := true, laidKinds := [.sentinel, .sentinel, .sentinel, .sentinel, .sentinel, .sentinel, .sentinel, .sentinel, .sentinel, .sentinel, .sentinel, .sentinel, .sentinel, .sentinel], laidTests := true, laidLooks := .later }
def SpanExactCardSaid : Prop := Claim7.holds Tryd.pinned (.plain (OpenSpec.ofChange spanExactSpec)) spanExactCard

/-- THE TIED CARD OF 'quitrentlaw21.QueueBands'. -/
def queueBandsCard : Claim7 := { stood := { row := queueBandsRow, standIns := [], harness := (true, "2df379123c378733011746e58c949f449245f6fdfb6674886354cccf87110396"), looks := true }, kinds := [], alts := [], laidByText := true, laidKinds := [.sentinel, .sentinel, .sentinel, .sentinel, .sentinel, .sentinel, .sentinel, .sentinel, .sentinel, .sentinel, .sentinel, .sentinel, .sentinel, .sentinel], laidTests := true, laidLooks := .later }
def QueueBandsCardSaid : Prop := Claim7.holds Tryd.pinned (.plain (OpenSpec.ofChange queueBandsSpec)) queueBandsCard

/-- THE TIED CARD OF 'quitrentlaw21.QueueExact'. -/
def queueExactCard : Claim7 := { stood := { row := queueExactRow, standIns := [], harness := (true, "2df379123c378733011746e58c949f449245f6fdfb6674886354cccf87110396"), looks := true }, kinds := [], alts := [], laidByText := true, laidKinds := [.sentinel, .sentinel, .sentinel, .sentinel, .sentinel, .sentinel, .sentinel, .sentinel, .sentinel, .sentinel, .sentinel, .sentinel, .sentinel, .sentinel], laidTests := true, laidLooks := .later }
def QueueExactCardSaid : Prop := Claim7.holds Tryd.pinned (.plain (OpenSpec.ofChange queueExactSpec)) queueExactCard

/-- THE TIED CARD OF 'quitrentlaw21.QueueKeeps'. -/
def queueKeepsCard : Claim7 := { stood := { row := queueKeepsRow, standIns := [], harness := (true, "2df379123c378733011746e58c949f449245f6fdfb6674886354cccf87110396"), looks := true }, kinds := [], alts := [], laidByText := true, laidKinds := [.sentinel, .sentinel, .sentinel, .sentinel, .sentinel, .sentinel, .sentinel, .sentinel, .sentinel, .sentinel, .sentinel, .sentinel, .sentinel, .sentinel], laidTests := true, laidLooks := .later }
def QueueKeepsCardSaid : Prop := Claim7.holds Tryd.pinned (.plain (OpenSpec.ofChange queueKeepsSpec)) queueKeepsCard

/-- THE TIED CARD OF 'quitrentlaw38.RingLast'. -/
def ringLastCard : Claim7 := { stood := { row := ringLastRow, standIns := [], harness := (true, "2df379123c378733011746e58c949f449245f6fdfb6674886354cccf87110396"), looks := true }, kinds := [], alts := [], laidByText := true, laidKinds := [.sentinel, .sentinel], laidTests := true, laidLooks := .later }
def RingLastCardSaid : Prop := Claim7.holds Tryd.pinned (.plain (OpenSpec.ofChange ringLastSpec)) ringLastCard

/-- THE TIED CARD OF 'quitrentlaw38.RingExact'. -/
def ringExactCard : Claim7 := { stood := { row := ringExactRow, standIns := [], harness := (true, "2df379123c378733011746e58c949f449245f6fdfb6674886354cccf87110396"), looks := true }, kinds := [], alts := [], laidByText := true, laidKinds := [.sentinel, .sentinel], laidTests := true, laidLooks := .later }
def RingExactCardSaid : Prop := Claim7.holds Tryd.pinned (.plain (OpenSpec.ofChange ringExactSpec)) ringExactCard

/-- THE TIED CARD OF 'quitrentlaw34.DepthFills'. -/
def depthFillsCard : Claim7 := { stood := { row := depthFillsRow, standIns := [], harness := (true, "2df379123c378733011746e58c949f449245f6fdfb6674886354cccf87110396"), looks := true }, kinds := [], alts := [], laidByText := true, laidKinds := [.sentinel], laidTests := true, laidLooks := .later }
def DepthFillsCardSaid : Prop := Claim7.holds Tryd.pinned (.plain (OpenSpec.ofChange depthFillsSpec)) depthFillsCard

/-- THE TIED CARD OF 'quitrentlaw34.DepthExact'. -/
def depthExactCard : Claim7 := { stood := { row := depthExactRow, standIns := [], harness := (true, "2df379123c378733011746e58c949f449245f6fdfb6674886354cccf87110396"), looks := true }, kinds := [], alts := [], laidByText := true, laidKinds := [.sentinel], laidTests := true, laidLooks := .later }
def DepthExactCardSaid : Prop := Claim7.holds Tryd.pinned (.plain (OpenSpec.ofChange depthExactSpec)) depthExactCard

/-- THE SECOND FORM's CARD OF 'quitrentlaw09.SpanTicks'. -/
def spanTicksUptoCard : Claim7 := { stood := { row := spanTicksUptoRow, standIns := [], harness := (true, "2df379123c378733011746e58c949f449245f6fdfb6674886354cccf87110396"), looks := true }, kinds := [], alts := [], laidByText := true, laidKinds := [.sentinel], laidTests := true, laidLooks := .later }
def SpanTicksUptoCardSaid : Prop := Claim7.holds Tryd.pinned (.plain (OpenSpec.upto spanTicksSpec)) spanTicksUptoCard

/-- THE SECOND FORM's CARD OF 'quitrentlaw09.SpanRows'. -/
def spanRowsUptoCard : Claim7 := { stood := { row := spanRowsUptoRow, standIns := [], harness := (true, "2df379123c378733011746e58c949f449245f6fdfb6674886354cccf87110396"), looks := true }, kinds := [], alts := [], laidByText := true, laidKinds := [.sentinel], laidTests := true, laidLooks := .later }
def SpanRowsUptoCardSaid : Prop := Claim7.holds Tryd.pinned (.plain (OpenSpec.upto spanRowsSpec)) spanRowsUptoCard

/-- THE SECOND FORM's CARD OF 'quitrentlaw09.SpanExact'. -/
def spanExactUptoCard : Claim7 := { stood := { row := spanExactUptoRow, standIns := [], harness := (true, "2df379123c378733011746e58c949f449245f6fdfb6674886354cccf87110396"), looks := true }, kinds := [], alts := [], laidByText := true, laidKinds := [.sentinel, .sentinel, .sentinel, .sentinel, .sentinel, .sentinel, .sentinel, .sentinel, .sentinel, .sentinel, .sentinel, .sentinel, .sentinel, .sentinel], laidTests := true, laidLooks := .later }
def SpanExactUptoCardSaid : Prop := Claim7.holds Tryd.pinned (.plain (OpenSpec.upto spanExactSpec)) spanExactUptoCard

/-- THE SECOND FORM's CARD OF 'quitrentlaw21.QueueBands'. -/
def queueBandsUptoCard : Claim7 := { stood := { row := queueBandsUptoRow, standIns := [], harness := (true, "2df379123c378733011746e58c949f449245f6fdfb6674886354cccf87110396"), looks := true }, kinds := [], alts := [], laidByText := true, laidKinds := [.sentinel, .sentinel, .sentinel, .sentinel, .sentinel, .sentinel, .sentinel, .sentinel, .sentinel, .sentinel, .sentinel, .sentinel, .sentinel, .sentinel], laidTests := true, laidLooks := .later }
def QueueBandsUptoCardSaid : Prop := Claim7.holds Tryd.pinned (.plain (OpenSpec.upto queueBandsSpec)) queueBandsUptoCard

/-- THE SECOND FORM's CARD OF 'quitrentlaw21.QueueExact'. -/
def queueExactUptoCard : Claim7 := { stood := { row := queueExactUptoRow, standIns := [], harness := (true, "2df379123c378733011746e58c949f449245f6fdfb6674886354cccf87110396"), looks := true }, kinds := [], alts := [], laidByText := true, laidKinds := [.sentinel, .sentinel, .sentinel, .sentinel, .sentinel, .sentinel, .sentinel, .sentinel, .sentinel, .sentinel, .sentinel, .sentinel, .sentinel, .sentinel], laidTests := true, laidLooks := .later }
def QueueExactUptoCardSaid : Prop := Claim7.holds Tryd.pinned (.plain (OpenSpec.upto queueExactSpec)) queueExactUptoCard

/-- THE SECOND FORM's CARD OF 'quitrentlaw21.QueueKeeps'. -/
def queueKeepsUptoCard : Claim7 := { stood := { row := queueKeepsUptoRow, standIns := [], harness := (true, "2df379123c378733011746e58c949f449245f6fdfb6674886354cccf87110396"), looks := true }, kinds := [], alts := [], laidByText := true, laidKinds := [.sentinel, .sentinel, .sentinel, .sentinel, .sentinel, .sentinel, .sentinel, .sentinel, .sentinel, .sentinel, .sentinel, .sentinel, .sentinel, .sentinel], laidTests := true, laidLooks := .later }
def QueueKeepsUptoCardSaid : Prop := Claim7.holds Tryd.pinned (.plain (OpenSpec.upto queueKeepsSpec)) queueKeepsUptoCard

/-- THE SECOND FORM's CARD OF 'quitrentlaw38.RingLast'. -/
def ringLastUptoCard : Claim7 := { stood := { row := ringLastUptoRow, standIns := [], harness := (true, "2df379123c378733011746e58c949f449245f6fdfb6674886354cccf87110396"), looks := true }, kinds := [], alts := [], laidByText := true, laidKinds := [.sentinel, .sentinel], laidTests := true, laidLooks := .later }
def RingLastUptoCardSaid : Prop := Claim7.holds Tryd.pinned (.plain (OpenSpec.upto ringLastSpec)) ringLastUptoCard

/-- THE SECOND FORM's CARD OF 'quitrentlaw38.RingExact'. -/
def ringExactUptoCard : Claim7 := { stood := { row := ringExactUptoRow, standIns := [], harness := (true, "2df379123c378733011746e58c949f449245f6fdfb6674886354cccf87110396"), looks := true }, kinds := [], alts := [], laidByText := true, laidKinds := [.sentinel, .sentinel], laidTests := true, laidLooks := .later }
def RingExactUptoCardSaid : Prop := Claim7.holds Tryd.pinned (.plain (OpenSpec.upto ringExactSpec)) ringExactUptoCard

/-- THE SECOND FORM's CARD OF 'quitrentlaw34.DepthFills'. -/
def depthFillsUptoCard : Claim7 := { stood := { row := depthFillsUptoRow, standIns := [], harness := (true, "2df379123c378733011746e58c949f449245f6fdfb6674886354cccf87110396"), looks := true }, kinds := [], alts := [], laidByText := true, laidKinds := [.sentinel], laidTests := true, laidLooks := .later }
def DepthFillsUptoCardSaid : Prop := Claim7.holds Tryd.pinned (.plain (OpenSpec.upto depthFillsSpec)) depthFillsUptoCard

/-- THE SECOND FORM's CARD OF 'quitrentlaw34.DepthExact'. -/
def depthExactUptoCard : Claim7 := { stood := { row := depthExactUptoRow, standIns := [], harness := (true, "2df379123c378733011746e58c949f449245f6fdfb6674886354cccf87110396"), looks := true }, kinds := [], alts := [], laidByText := true, laidKinds := [.sentinel], laidTests := true, laidLooks := .later }
def DepthExactUptoCardSaid : Prop := Claim7.holds Tryd.pinned (.plain (OpenSpec.upto depthExactSpec)) depthExactUptoCard
end Rows
end Go.Proofs.YtdlcdlbaeomfcaaDoor
