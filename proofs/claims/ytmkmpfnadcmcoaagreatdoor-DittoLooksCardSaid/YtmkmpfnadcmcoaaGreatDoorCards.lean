/-
  DERIVED. GIVEN WITH THE SEED: THE CARDS: each row of YtmkmpfnadcmcoaaGreatDoorRows.lean that lists a variable, with what it lists TIED to the program's text (the seventh form; the later family's looks); each row that meets fmt, with fmt's text TOLD by the authors' own Lean function (tested against real Go, not proved from fmt's source: count such statements apart). THE CARD IS WHAT COUNTS. Prove the row's statement (the work); the ties are given (YtmkmpfnadcmcoaaGreatDoorTie.lean); close each card by the builder's one call (the guide's Derived/Test/ToyasCard.lean, 'card_holds'). Laid BY PROGRAM, IN A SANDBOX (cutbox-door.mjs). By AI agents, Wed Nov 11 2026. No macro, syntax, notation, axiom, sorry.
-/
import Derived.Test.YtmkmpfnadcmcoaaGreatDoorRows
import GoSem.ClaimSeven
namespace Go.Proofs.YtmkmpfnadcmcoaaGreatDoor
namespace Rows

/-- THE TIED CARD OF 'lazaretlaw06.DittoGets'. -/
def dittoGetsCard : Claim7 := { stood := { row := dittoGetsRow, standIns := [], harness := (true, "4cf7c6547e5d245b6db15ef7d92ef040f7d61db9d65be33bd21380401b3ca245"), looks := false }, kinds := [], alts := [], laidByText := true, laidKinds := [.data, .data], laidTests := true, laidLooks := .later }
def DittoGetsCardSaid : Prop := Claim7.holds Tryz.pinned (.plain (OpenSpec.ofChange dittoGetsSpec)) dittoGetsCard

/-- THE TIED CARD OF 'lazaretlaw06.DittoLooks'. -/
def dittoLooksCard : Claim7 := { stood := { row := dittoLooksRow, standIns := [], harness := (true, "4cf7c6547e5d245b6db15ef7d92ef040f7d61db9d65be33bd21380401b3ca245"), looks := false }, kinds := [], alts := [], laidByText := true, laidKinds := [.data, .data], laidTests := true, laidLooks := .later }
def DittoLooksCardSaid : Prop := Claim7.holds Tryz.pinned (.plain (OpenSpec.ofChange dittoLooksSpec)) dittoLooksCard

/-- THE SECOND FORM's CARD OF 'lazaretlaw06.DittoGets'. -/
def dittoGetsUptoCard : Claim7 := { stood := { row := dittoGetsUptoRow, standIns := [], harness := (true, "4cf7c6547e5d245b6db15ef7d92ef040f7d61db9d65be33bd21380401b3ca245"), looks := false }, kinds := [], alts := [], laidByText := true, laidKinds := [.data, .data], laidTests := true, laidLooks := .later }
def DittoGetsUptoCardSaid : Prop := Claim7.holds Tryz.pinned (.plain (OpenSpec.upto dittoGetsSpec)) dittoGetsUptoCard

/-- THE SECOND FORM's CARD OF 'lazaretlaw06.DittoLooks'. -/
def dittoLooksUptoCard : Claim7 := { stood := { row := dittoLooksUptoRow, standIns := [], harness := (true, "4cf7c6547e5d245b6db15ef7d92ef040f7d61db9d65be33bd21380401b3ca245"), looks := false }, kinds := [], alts := [], laidByText := true, laidKinds := [.data, .data], laidTests := true, laidLooks := .later }
def DittoLooksUptoCardSaid : Prop := Claim7.holds Tryz.pinned (.plain (OpenSpec.upto dittoLooksSpec)) dittoLooksUptoCard
end Rows
end Go.Proofs.YtmkmpfnadcmcoaaGreatDoor
