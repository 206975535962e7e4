/-
  DERIVED. GIVEN WITH THE SEED: THE CARDS: each row of YtjkaenhopkigdaaDoorRows.lean that lists a variable, with what it lists TIED to the program's text (the seventh form; the later family's looks); each row that meets fmt, with fmt's text TOLD by the authors' own Lean function (tested against real Go, not proved from fmt's source: count such statements apart). THE CARD IS WHAT COUNTS. Prove the row's statement (the work); the ties are given (YtjkaenhopkigdaaDoorTie.lean); close each card by the builder's one call (the guide's Derived/Test/ToyasCard.lean, 'card_holds'). Laid BY PROGRAM, IN A SANDBOX (cutbox-door.mjs). By AI agents, Wed Nov 11 2026. No macro, syntax, notation, axiom, sorry.
-/
import Derived.Test.YtjkaenhopkigdaaDoorRows
import GoSem.ClaimSeven
namespace Go.Proofs.YtjkaenhopkigdaaDoor
namespace Rows

/-- THE TIED CARD OF 'lazaretlaw05.PtrMakes'. -/
def ptrMakesCard : Claim7 := { stood := { row := ptrMakesRow, standIns := [], harness := (true, "ebd169995baf294ca40cdabd3f957bbcb67c6dc6c6fef1d3f28b48cbb1e7589a"), looks := false }, kinds := [], alts := [], laidByText := true, laidKinds := [.data, .data], laidTests := true, laidLooks := .later }
def PtrMakesCardSaid : Prop := Claim7.holds Tryd.pinned (.plain (OpenSpec.ofChange ptrMakesSpec)) ptrMakesCard

/-- THE TIED CARD OF 'lazaretlaw05.PtrAsks'. -/
def ptrAsksCard : Claim7 := { stood := { row := ptrAsksRow, standIns := [], harness := (true, "ebd169995baf294ca40cdabd3f957bbcb67c6dc6c6fef1d3f28b48cbb1e7589a"), looks := false }, kinds := [], alts := [], laidByText := true, laidKinds := [.data, .data], laidTests := true, laidLooks := .later }
def PtrAsksCardSaid : Prop := Claim7.holds Tryd.pinned (.plain (OpenSpec.ofChange ptrAsksSpec)) ptrAsksCard

/-- THE TIED CARD OF 'lazaretlaw05.PtrFits'. -/
def ptrFitsCard : Claim7 := { stood := { row := ptrFitsRow, standIns := [], harness := (true, "ebd169995baf294ca40cdabd3f957bbcb67c6dc6c6fef1d3f28b48cbb1e7589a"), looks := false }, kinds := [], alts := [], laidByText := true, laidKinds := [.data, .data], laidTests := true, laidLooks := .later }
def PtrFitsCardSaid : Prop := Claim7.holds Tryd.pinned (.plain (OpenSpec.ofChange ptrFitsSpec)) ptrFitsCard

/-- THE TIED CARD OF 'lazaretlaw05.PtrPuts'. -/
def ptrPutsCard : Claim7 := { stood := { row := ptrPutsRow, standIns := [], harness := (true, "ebd169995baf294ca40cdabd3f957bbcb67c6dc6c6fef1d3f28b48cbb1e7589a"), looks := false }, kinds := [], alts := [], laidByText := true, laidKinds := [.data, .data], laidTests := true, laidLooks := .later }
def PtrPutsCardSaid : Prop := Claim7.holds Tryd.pinned (.plain (OpenSpec.ofChange ptrPutsSpec)) ptrPutsCard

/-- THE TIED CARD OF 'lazaretlaw05.PtrNodes'. -/
def ptrNodesCard : Claim7 := { stood := { row := ptrNodesRow, standIns := [], harness := (true, "ebd169995baf294ca40cdabd3f957bbcb67c6dc6c6fef1d3f28b48cbb1e7589a"), looks := false }, kinds := [], alts := [], laidByText := true, laidKinds := [.data, .data], laidTests := true, laidLooks := .later }
def PtrNodesCardSaid : Prop := Claim7.holds Tryd.pinned (.plain (OpenSpec.ofChange ptrNodesSpec)) ptrNodesCard

/-- THE TIED CARD OF 'lazaretlaw05.PtrBack'. -/
def ptrBackCard : Claim7 := { stood := { row := ptrBackRow, standIns := [], harness := (true, "ebd169995baf294ca40cdabd3f957bbcb67c6dc6c6fef1d3f28b48cbb1e7589a"), looks := false }, kinds := [], alts := [], laidByText := true, laidKinds := [.data, .data], laidTests := true, laidLooks := .later }
def PtrBackCardSaid : Prop := Claim7.holds Tryd.pinned (.plain (OpenSpec.ofChange ptrBackSpec)) ptrBackCard

/-- THE SECOND FORM's CARD OF 'lazaretlaw05.PtrMakes'. -/
def ptrMakesUptoCard : Claim7 := { stood := { row := ptrMakesUptoRow, standIns := [], harness := (true, "ebd169995baf294ca40cdabd3f957bbcb67c6dc6c6fef1d3f28b48cbb1e7589a"), looks := false }, kinds := [], alts := [], laidByText := true, laidKinds := [.data, .data], laidTests := true, laidLooks := .later }
def PtrMakesUptoCardSaid : Prop := Claim7.holds Tryd.pinned (.plain (OpenSpec.upto ptrMakesSpec)) ptrMakesUptoCard

/-- THE SECOND FORM's CARD OF 'lazaretlaw05.PtrAsks'. -/
def ptrAsksUptoCard : Claim7 := { stood := { row := ptrAsksUptoRow, standIns := [], harness := (true, "ebd169995baf294ca40cdabd3f957bbcb67c6dc6c6fef1d3f28b48cbb1e7589a"), looks := false }, kinds := [], alts := [], laidByText := true, laidKinds := [.data, .data], laidTests := true, laidLooks := .later }
def PtrAsksUptoCardSaid : Prop := Claim7.holds Tryd.pinned (.plain (OpenSpec.upto ptrAsksSpec)) ptrAsksUptoCard

/-- THE SECOND FORM's CARD OF 'lazaretlaw05.PtrFits'. -/
def ptrFitsUptoCard : Claim7 := { stood := { row := ptrFitsUptoRow, standIns := [], harness := (true, "ebd169995baf294ca40cdabd3f957bbcb67c6dc6c6fef1d3f28b48cbb1e7589a"), looks := false }, kinds := [], alts := [], laidByText := true, laidKinds := [.data, .data], laidTests := true, laidLooks := .later }
def PtrFitsUptoCardSaid : Prop := Claim7.holds Tryd.pinned (.plain (OpenSpec.upto ptrFitsSpec)) ptrFitsUptoCard

/-- THE SECOND FORM's CARD OF 'lazaretlaw05.PtrPuts'. -/
def ptrPutsUptoCard : Claim7 := { stood := { row := ptrPutsUptoRow, standIns := [], harness := (true, "ebd169995baf294ca40cdabd3f957bbcb67c6dc6c6fef1d3f28b48cbb1e7589a"), looks := false }, kinds := [], alts := [], laidByText := true, laidKinds := [.data, .data], laidTests := true, laidLooks := .later }
def PtrPutsUptoCardSaid : Prop := Claim7.holds Tryd.pinned (.plain (OpenSpec.upto ptrPutsSpec)) ptrPutsUptoCard

/-- THE SECOND FORM's CARD OF 'lazaretlaw05.PtrNodes'. -/
def ptrNodesUptoCard : Claim7 := { stood := { row := ptrNodesUptoRow, standIns := [], harness := (true, "ebd169995baf294ca40cdabd3f957bbcb67c6dc6c6fef1d3f28b48cbb1e7589a"), looks := false }, kinds := [], alts := [], laidByText := true, laidKinds := [.data, .data], laidTests := true, laidLooks := .later }
def PtrNodesUptoCardSaid : Prop := Claim7.holds Tryd.pinned (.plain (OpenSpec.upto ptrNodesSpec)) ptrNodesUptoCard

/-- THE SECOND FORM's CARD OF 'lazaretlaw05.PtrBack'. -/
def ptrBackUptoCard : Claim7 := { stood := { row := ptrBackUptoRow, standIns := [], harness := (true, "ebd169995baf294ca40cdabd3f957bbcb67c6dc6c6fef1d3f28b48cbb1e7589a"), looks := false }, kinds := [], alts := [], laidByText := true, laidKinds := [.data, .data], laidTests := true, laidLooks := .later }
def PtrBackUptoCardSaid : Prop := Claim7.holds Tryd.pinned (.plain (OpenSpec.upto ptrBackSpec)) ptrBackUptoCard
end Rows
end Go.Proofs.YtjkaenhopkigdaaDoor
