/-
  DERIVED. GIVEN WITH THE SEED: THE CARDS: each row of YtlleandelcjhjaaDoorRows.lean that lists a variable, with what it lists TIED to the program's text (the seventh form; the later family's looks); each row that meets fmt, with fmt's text TOLD by the authors' own Lean function (tested against real Go, not proved from fmt's source: count such statements apart). THE CARD IS WHAT COUNTS. Prove the row's statement (the work); the ties are given (YtlleandelcjhjaaDoorTie.lean); close each card by the builder's one call (the guide's Derived/Test/ToyasCard.lean, 'card_holds'). Laid BY PROGRAM, IN A SANDBOX (cutbox-door.mjs). By AI agents, Wed Nov 11 2026. No macro, syntax, notation, axiom, sorry.
-/
import Derived.Test.YtlleandelcjhjaaDoorRows
import GoSem.ClaimSeven
namespace Go.Proofs.YtlleandelcjhjaaDoor
namespace Rows

/-- THE TIED CARD OF 'lazaretlaw04.RemapPuts'. -/
def remapPutsCard : Claim7 := { stood := { row := remapPutsRow, standIns := [], harness := (true, "e0f112ada32fb6f6ec574bc5d8bcf803913d8d8ffaf99606495f5a5c230ad234"), looks := false }, kinds := [], alts := [], laidByText := true, laidKinds := [.data, .data], laidTests := true, laidLooks := .later }
def RemapPutsCardSaid : Prop := Claim7.holds Tryd.pinned (.plain (OpenSpec.ofChange remapPutsSpec)) remapPutsCard

/-- THE TIED CARD OF 'lazaretlaw04.RemapReads'. -/
def remapReadsCard : Claim7 := { stood := { row := remapReadsRow, standIns := [], harness := (true, "e0f112ada32fb6f6ec574bc5d8bcf803913d8d8ffaf99606495f5a5c230ad234"), looks := false }, kinds := [], alts := [], laidByText := true, laidKinds := [.data, .data], laidTests := true, laidLooks := .later }
def RemapReadsCardSaid : Prop := Claim7.holds Tryd.pinned (.plain (OpenSpec.ofChange remapReadsSpec)) remapReadsCard

/-- THE TIED CARD OF 'lazaretlaw04.RemapWrites'. -/
def remapWritesCard : Claim7 := { stood := { row := remapWritesRow, standIns := [], harness := (true, "e0f112ada32fb6f6ec574bc5d8bcf803913d8d8ffaf99606495f5a5c230ad234"), looks := false }, kinds := [], alts := [], laidByText := true, laidKinds := [.data, .data], laidTests := true, laidLooks := .later }
def RemapWritesCardSaid : Prop := Claim7.holds Tryd.pinned (.plain (OpenSpec.ofChange remapWritesSpec)) remapWritesCard

/-- THE TIED CARD OF 'lazaretlaw04.RemapTakes'. -/
def remapTakesCard : Claim7 := { stood := { row := remapTakesRow, standIns := [], harness := (true, "e0f112ada32fb6f6ec574bc5d8bcf803913d8d8ffaf99606495f5a5c230ad234"), looks := false }, kinds := [], alts := [], laidByText := true, laidKinds := [.data, .data], laidTests := true, laidLooks := .later }
def RemapTakesCardSaid : Prop := Claim7.holds Tryd.pinned (.plain (OpenSpec.ofChange remapTakesSpec)) remapTakesCard

/-- THE TIED CARD OF 'lazaretlaw04.RemapBack'. -/
def remapBackCard : Claim7 := { stood := { row := remapBackRow, standIns := [], harness := (true, "e0f112ada32fb6f6ec574bc5d8bcf803913d8d8ffaf99606495f5a5c230ad234"), looks := false }, kinds := [], alts := [], laidByText := true, laidKinds := [.data, .data], laidTests := true, laidLooks := .later }
def RemapBackCardSaid : Prop := Claim7.holds Tryd.pinned (.plain (OpenSpec.ofChange remapBackSpec)) remapBackCard

/-- THE TIED CARD OF 'lazaretlaw04.RemapWhole'. -/
def remapWholeCard : Claim7 := { stood := { row := remapWholeRow, standIns := [], harness := (true, "e0f112ada32fb6f6ec574bc5d8bcf803913d8d8ffaf99606495f5a5c230ad234"), looks := false }, kinds := [], alts := [], laidByText := true, laidKinds := [.data, .data], laidTests := true, laidLooks := .later }
def RemapWholeCardSaid : Prop := Claim7.holds Tryd.pinned (.plain (OpenSpec.ofChange remapWholeSpec)) remapWholeCard

/-- THE SECOND FORM's CARD OF 'lazaretlaw04.RemapPuts'. -/
def remapPutsUptoCard : Claim7 := { stood := { row := remapPutsUptoRow, standIns := [], harness := (true, "e0f112ada32fb6f6ec574bc5d8bcf803913d8d8ffaf99606495f5a5c230ad234"), looks := false }, kinds := [], alts := [], laidByText := true, laidKinds := [.data, .data], laidTests := true, laidLooks := .later }
def RemapPutsUptoCardSaid : Prop := Claim7.holds Tryd.pinned (.plain (OpenSpec.upto remapPutsSpec)) remapPutsUptoCard

/-- THE SECOND FORM's CARD OF 'lazaretlaw04.RemapReads'. -/
def remapReadsUptoCard : Claim7 := { stood := { row := remapReadsUptoRow, standIns := [], harness := (true, "e0f112ada32fb6f6ec574bc5d8bcf803913d8d8ffaf99606495f5a5c230ad234"), looks := false }, kinds := [], alts := [], laidByText := true, laidKinds := [.data, .data], laidTests := true, laidLooks := .later }
def RemapReadsUptoCardSaid : Prop := Claim7.holds Tryd.pinned (.plain (OpenSpec.upto remapReadsSpec)) remapReadsUptoCard

/-- THE SECOND FORM's CARD OF 'lazaretlaw04.RemapWrites'. -/
def remapWritesUptoCard : Claim7 := { stood := { row := remapWritesUptoRow, standIns := [], harness := (true, "e0f112ada32fb6f6ec574bc5d8bcf803913d8d8ffaf99606495f5a5c230ad234"), looks := false }, kinds := [], alts := [], laidByText := true, laidKinds := [.data, .data], laidTests := true, laidLooks := .later }
def RemapWritesUptoCardSaid : Prop := Claim7.holds Tryd.pinned (.plain (OpenSpec.upto remapWritesSpec)) remapWritesUptoCard

/-- THE SECOND FORM's CARD OF 'lazaretlaw04.RemapTakes'. -/
def remapTakesUptoCard : Claim7 := { stood := { row := remapTakesUptoRow, standIns := [], harness := (true, "e0f112ada32fb6f6ec574bc5d8bcf803913d8d8ffaf99606495f5a5c230ad234"), looks := false }, kinds := [], alts := [], laidByText := true, laidKinds := [.data, .data], laidTests := true, laidLooks := .later }
def RemapTakesUptoCardSaid : Prop := Claim7.holds Tryd.pinned (.plain (OpenSpec.upto remapTakesSpec)) remapTakesUptoCard

/-- THE SECOND FORM's CARD OF 'lazaretlaw04.RemapBack'. -/
def remapBackUptoCard : Claim7 := { stood := { row := remapBackUptoRow, standIns := [], harness := (true, "e0f112ada32fb6f6ec574bc5d8bcf803913d8d8ffaf99606495f5a5c230ad234"), looks := false }, kinds := [], alts := [], laidByText := true, laidKinds := [.data, .data], laidTests := true, laidLooks := .later }
def RemapBackUptoCardSaid : Prop := Claim7.holds Tryd.pinned (.plain (OpenSpec.upto remapBackSpec)) remapBackUptoCard

/-- THE SECOND FORM's CARD OF 'lazaretlaw04.RemapWhole'. -/
def remapWholeUptoCard : Claim7 := { stood := { row := remapWholeUptoRow, standIns := [], harness := (true, "e0f112ada32fb6f6ec574bc5d8bcf803913d8d8ffaf99606495f5a5c230ad234"), looks := false }, kinds := [], alts := [], laidByText := true, laidKinds := [.data, .data], laidTests := true, laidLooks := .later }
def RemapWholeUptoCardSaid : Prop := Claim7.holds Tryd.pinned (.plain (OpenSpec.upto remapWholeSpec)) remapWholeUptoCard
end Rows
end Go.Proofs.YtlleandelcjhjaaDoor
