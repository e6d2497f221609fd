/-
  DERIVED. GIVEN WITH THE SEED: THE CARDS: each row of YtkinbidpbgkaoaaDoorRows.lean that lists a variable, with what it lists TIED to the program's text (the seventh form; the later family's looks); each row that meets fmt, with fmt's text TOLD by the authors' own Lean function (tested against real Go, not proved from fmt's source: count such statements apart). THE CARD IS WHAT COUNTS. Prove the row's statement (the work); the ties are given (YtkinbidpbgkaoaaDoorTie.lean); close each card by the builder's one call (the guide's Derived/Test/ToyasCard.lean, 'card_holds'). Laid BY PROGRAM, IN A SANDBOX (cutbox-door.mjs). By AI agents, Wed Nov 11 2026. No macro, syntax, notation, axiom, sorry.
-/
import Derived.Test.YtkinbidpbgkaoaaDoorRows
import GoSem.ClaimSeven
namespace Go.Proofs.YtkinbidpbgkaoaaDoor
namespace Rows

/-- THE TIED CARD OF 'quitrentlaw34.DepthFills'. -/
def depthFillsCard : Claim7 := { stood := { row := depthFillsRow, standIns := [], harness := (true, "25e9f5b440f97f0186183eb9ffee2311c2d83c595e5cfdaaaf28f1874e527f36"), looks := true }, kinds := [], alts := [], laidByText := true, laidKinds := [.sentinel], laidTests := true, laidLooks := .later }
def DepthFillsCardSaid : Prop := Claim7.holds Tryd.pinned (.plain (OpenSpec.ofChange depthFillsSpec)) depthFillsCard

/-- THE TIED CARD OF 'quitrentlaw21.QueueBands'. -/
def queueBandsCard : Claim7 := { stood := { row := queueBandsRow, standIns := [], harness := (true, "25e9f5b440f97f0186183eb9ffee2311c2d83c595e5cfdaaaf28f1874e527f36"), looks := true }, kinds := [], alts := [], laidByText := true, laidKinds := [.sentinel, .sentinel, .sentinel, .sentinel, .sentinel, .sentinel, .sentinel, .sentinel, .sentinel, .sentinel, .sentinel, .sentinel, .sentinel, .sentinel], laidTests := true, laidLooks := .later }
def QueueBandsCardSaid : Prop := Claim7.holds Tryd.pinned (.plain (OpenSpec.ofChange queueBandsSpec)) queueBandsCard

/-- THE TIED CARD OF 'quitrentlaw21.QueueExact'. -/
def queueExactCard : Claim7 := { stood := { row := queueExactRow, standIns := [], harness := (true, "25e9f5b440f97f0186183eb9ffee2311c2d83c595e5cfdaaaf28f1874e527f36"), looks := true }, kinds := [], alts := [], laidByText := true, laidKinds := [.sentinel, .sentinel, .sentinel, .sentinel, .sentinel, .sentinel, .sentinel, .sentinel, .sentinel, .sentinel, .sentinel, .sentinel, .sentinel, .sentinel], laidTests := true, laidLooks := .later }
def QueueExactCardSaid : Prop := Claim7.holds Tryd.pinned (.plain (OpenSpec.ofChange queueExactSpec)) queueExactCard

/-- THE TIED CARD OF 'quitrentlaw21.QueueKeeps'. -/
def queueKeepsCard : Claim7 := { stood := { row := queueKeepsRow, standIns := [], harness := (true, "25e9f5b440f97f0186183eb9ffee2311c2d83c595e5cfdaaaf28f1874e527f36"), looks := true }, kinds := [], alts := [], laidByText := true, laidKinds := [.sentinel, .sentinel, .sentinel, .sentinel, .sentinel, .sentinel, .sentinel, .sentinel, .sentinel, .sentinel, .sentinel, .sentinel, .sentinel, .sentinel], laidTests := true, laidLooks := .later }
def QueueKeepsCardSaid : Prop := Claim7.holds Tryd.pinned (.plain (OpenSpec.ofChange queueKeepsSpec)) queueKeepsCard

/-- THE TIED CARD OF 'quitrentlaw38.RingLast'. -/
def ringLastCard : Claim7 := { stood := { row := ringLastRow, standIns := [], harness := (true, "25e9f5b440f97f0186183eb9ffee2311c2d83c595e5cfdaaaf28f1874e527f36"), looks := true }, kinds := [], alts := [], laidByText := true, laidKinds := [.sentinel, .sentinel], laidTests := true, laidLooks := .later }
def RingLastCardSaid : Prop := Claim7.holds Tryd.pinned (.plain (OpenSpec.ofChange ringLastSpec)) ringLastCard

/-- THE TIED CARD OF 'quitrentlaw34.DepthExact'. -/
def depthExactCard : Claim7 := { stood := { row := depthExactRow, standIns := [], harness := (true, "25e9f5b440f97f0186183eb9ffee2311c2d83c595e5cfdaaaf28f1874e527f36"), looks := true }, kinds := [], alts := [], laidByText := true, laidKinds := [.sentinel], laidTests := true, laidLooks := .later }
def DepthExactCardSaid : Prop := Claim7.holds Tryd.pinned (.plain (OpenSpec.ofChange depthExactSpec)) depthExactCard

/-- THE TIED CARD OF 'quitrentlaw38.RingExact'. -/
def ringExactCard : Claim7 := { stood := { row := ringExactRow, standIns := [], harness := (true, "25e9f5b440f97f0186183eb9ffee2311c2d83c595e5cfdaaaf28f1874e527f36"), looks := true }, kinds := [], alts := [], laidByText := true, laidKinds := [.sentinel, .sentinel], laidTests := true, laidLooks := .later }
def RingExactCardSaid : Prop := Claim7.holds Tryd.pinned (.plain (OpenSpec.ofChange ringExactSpec)) ringExactCard

/-- THE SECOND FORM's CARD OF 'quitrentlaw34.DepthFills'. -/
def depthFillsUptoCard : Claim7 := { stood := { row := depthFillsUptoRow, standIns := [], harness := (true, "25e9f5b440f97f0186183eb9ffee2311c2d83c595e5cfdaaaf28f1874e527f36"), looks := true }, kinds := [], alts := [], laidByText := true, laidKinds := [.sentinel], laidTests := true, laidLooks := .later }
def DepthFillsUptoCardSaid : Prop := Claim7.holds Tryd.pinned (.plain (OpenSpec.upto depthFillsSpec)) depthFillsUptoCard

/-- THE SECOND FORM's CARD OF 'quitrentlaw21.QueueBands'. -/
def queueBandsUptoCard : Claim7 := { stood := { row := queueBandsUptoRow, standIns := [], harness := (true, "25e9f5b440f97f0186183eb9ffee2311c2d83c595e5cfdaaaf28f1874e527f36"), looks := true }, kinds := [], alts := [], laidByText := true, laidKinds := [.sentinel, .sentinel, .sentinel, .sentinel, .sentinel, .sentinel, .sentinel, .sentinel, .sentinel, .sentinel, .sentinel, .sentinel, .sentinel, .sentinel], laidTests := true, laidLooks := .later }
def QueueBandsUptoCardSaid : Prop := Claim7.holds Tryd.pinned (.plain (OpenSpec.upto queueBandsSpec)) queueBandsUptoCard

/-- THE SECOND FORM's CARD OF 'quitrentlaw21.QueueExact'. -/
def queueExactUptoCard : Claim7 := { stood := { row := queueExactUptoRow, standIns := [], harness := (true, "25e9f5b440f97f0186183eb9ffee2311c2d83c595e5cfdaaaf28f1874e527f36"), looks := true }, kinds := [], alts := [], laidByText := true, laidKinds := [.sentinel, .sentinel, .sentinel, .sentinel, .sentinel, .sentinel, .sentinel, .sentinel, .sentinel, .sentinel, .sentinel, .sentinel, .sentinel, .sentinel], laidTests := true, laidLooks := .later }
def QueueExactUptoCardSaid : Prop := Claim7.holds Tryd.pinned (.plain (OpenSpec.upto queueExactSpec)) queueExactUptoCard

/-- THE SECOND FORM's CARD OF 'quitrentlaw21.QueueKeeps'. -/
def queueKeepsUptoCard : Claim7 := { stood := { row := queueKeepsUptoRow, standIns := [], harness := (true, "25e9f5b440f97f0186183eb9ffee2311c2d83c595e5cfdaaaf28f1874e527f36"), looks := true }, kinds := [], alts := [], laidByText := true, laidKinds := [.sentinel, .sentinel, .sentinel, .sentinel, .sentinel, .sentinel, .sentinel, .sentinel, .sentinel, .sentinel, .sentinel, .sentinel, .sentinel, .sentinel], laidTests := true, laidLooks := .later }
def QueueKeepsUptoCardSaid : Prop := Claim7.holds Tryd.pinned (.plain (OpenSpec.upto queueKeepsSpec)) queueKeepsUptoCard

/-- THE SECOND FORM's CARD OF 'quitrentlaw38.RingLast'. -/
def ringLastUptoCard : Claim7 := { stood := { row := ringLastUptoRow, standIns := [], harness := (true, "25e9f5b440f97f0186183eb9ffee2311c2d83c595e5cfdaaaf28f1874e527f36"), looks := true }, kinds := [], alts := [], laidByText := true, laidKinds := [.sentinel, .sentinel], laidTests := true, laidLooks := .later }
def RingLastUptoCardSaid : Prop := Claim7.holds Tryd.pinned (.plain (OpenSpec.upto ringLastSpec)) ringLastUptoCard

/-- THE SECOND FORM's CARD OF 'quitrentlaw34.DepthExact'. -/
def depthExactUptoCard : Claim7 := { stood := { row := depthExactUptoRow, standIns := [], harness := (true, "25e9f5b440f97f0186183eb9ffee2311c2d83c595e5cfdaaaf28f1874e527f36"), looks := true }, kinds := [], alts := [], laidByText := true, laidKinds := [.sentinel], laidTests := true, laidLooks := .later }
def DepthExactUptoCardSaid : Prop := Claim7.holds Tryd.pinned (.plain (OpenSpec.upto depthExactSpec)) depthExactUptoCard

/-- THE SECOND FORM's CARD OF 'quitrentlaw38.RingExact'. -/
def ringExactUptoCard : Claim7 := { stood := { row := ringExactUptoRow, standIns := [], harness := (true, "25e9f5b440f97f0186183eb9ffee2311c2d83c595e5cfdaaaf28f1874e527f36"), looks := true }, kinds := [], alts := [], laidByText := true, laidKinds := [.sentinel, .sentinel], laidTests := true, laidLooks := .later }
def RingExactUptoCardSaid : Prop := Claim7.holds Tryd.pinned (.plain (OpenSpec.upto ringExactSpec)) ringExactUptoCard
end Rows
end Go.Proofs.YtkinbidpbgkaoaaDoor
