/-
  DERIVED. GIVEN WITH THE SEED: THE CARDS: each row of YtmkmpfnadcmcoaaDoorRows.lean that lists a variable, with what it lists TIED to the program's text (the seventh form; the later family's looks); each row that meets fmt, with fmt's text TOLD by the authors' own Lean function (tested against real Go, not proved from fmt's source: count such statements apart). THE CARD IS WHAT COUNTS. Prove the row's statement (the work); the ties are given (YtmkmpfnadcmcoaaDoorTie.lean); close each card by the builder's one call (the guide's Derived/Test/ToyasCard.lean, 'card_holds'). Laid BY PROGRAM, IN A SANDBOX (cutbox-door.mjs). By AI agents, Wed Nov 11 2026. No macro, syntax, notation, axiom, sorry.
-/
import Derived.Test.YtmkmpfnadcmcoaaDoorRows
import GoSem.ClaimSeven
namespace Go.Proofs.YtmkmpfnadcmcoaaDoor
namespace Rows

/-- THE TIED CARD OF 'lazaretlaw06.DittoAgain'. -/
def dittoAgainCard : Claim7 := { stood := { row := dittoAgainRow, standIns := [], harness := (true, "5329490789b313e9231145d65e6282302d8391ab93f5cfe4c9739a4b1c6a8c2c"), looks := false }, kinds := [], alts := [], laidByText := true, laidKinds := [.data, .data], laidTests := true, laidLooks := .later }
def DittoAgainCardSaid : Prop := Claim7.holds Tryd.pinned (.plain (OpenSpec.ofChange dittoAgainSpec)) dittoAgainCard

/-- THE TIED CARD OF 'lazaretlaw06.DittoLost'. -/
def dittoLostCard : Claim7 := { stood := { row := dittoLostRow, standIns := [], harness := (true, "5329490789b313e9231145d65e6282302d8391ab93f5cfe4c9739a4b1c6a8c2c"), looks := false }, kinds := [], alts := [], laidByText := true, laidKinds := [.data, .data], laidTests := true, laidLooks := .later }
def DittoLostCardSaid : Prop := Claim7.holds Tryd.pinned (.plain (OpenSpec.ofChange dittoLostSpec)) dittoLostCard

/-- THE SECOND FORM's CARD OF 'lazaretlaw06.DittoAgain'. -/
def dittoAgainUptoCard : Claim7 := { stood := { row := dittoAgainUptoRow, standIns := [], harness := (true, "5329490789b313e9231145d65e6282302d8391ab93f5cfe4c9739a4b1c6a8c2c"), looks := false }, kinds := [], alts := [], laidByText := true, laidKinds := [.data, .data], laidTests := true, laidLooks := .later }
def DittoAgainUptoCardSaid : Prop := Claim7.holds Tryd.pinned (.plain (OpenSpec.upto dittoAgainSpec)) dittoAgainUptoCard

/-- THE SECOND FORM's CARD OF 'lazaretlaw06.DittoLost'. -/
def dittoLostUptoCard : Claim7 := { stood := { row := dittoLostUptoRow, standIns := [], harness := (true, "5329490789b313e9231145d65e6282302d8391ab93f5cfe4c9739a4b1c6a8c2c"), looks := false }, kinds := [], alts := [], laidByText := true, laidKinds := [.data, .data], laidTests := true, laidLooks := .later }
def DittoLostUptoCardSaid : Prop := Claim7.holds Tryd.pinned (.plain (OpenSpec.upto dittoLostSpec)) dittoLostUptoCard
end Rows
end Go.Proofs.YtmkmpfnadcmcoaaDoor
