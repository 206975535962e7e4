/-
  DERIVED. GIVEN WITH THE SEED: THE CARDS: each row of YtbgajegcihhhcaaDoorRows.lean that lists a variable, with what it lists TIED to the program's text (the seventh form; the later family's looks); each row that meets fmt, with fmt's text TOLD by the authors' own Lean function (tested against real Go, not proved from fmt's source: count such statements apart). THE CARD IS WHAT COUNTS. Prove the row's statement (the work); the ties are given (YtbgajegcihhhcaaDoorTie.lean); close each card by the builder's one call (the guide's Derived/Test/ToyasCard.lean, 'card_holds'). Laid BY PROGRAM, IN A SANDBOX (cutbox-door.mjs). By AI agents, Wed Nov 11 2026. No macro, syntax, notation, axiom, sorry.
-/
import Derived.Test.YtbgajegcihhhcaaDoorRows
import GoSem.ClaimSeven
namespace Go.Proofs.YtbgajegcihhhcaaDoor
namespace Rows

/-- THE TIED CARD OF 'lazaretlaw01.ShaPads'. -/
def shaPadsCard : Claim7 := { stood := { row := shaPadsRow, standIns := [], harness := (true, "ecb0ac449bc3bc82a807f665be0b4d547a93fb5ae43e9f45f2715fc3c2ac958d"), looks := false }, kinds := [], alts := [], laidByText := true, laidKinds := [.data, .data], laidTests := true, laidLooks := .later }
def ShaPadsCardSaid : Prop := Claim7.holds Tryd.pinned (.plain (OpenSpec.ofChange shaPadsSpec)) shaPadsCard

/-- THE TIED CARD OF 'lazaretlaw01.ShaSteps'. -/
def shaStepsCard : Claim7 := { stood := { row := shaStepsRow, standIns := [], harness := (true, "ecb0ac449bc3bc82a807f665be0b4d547a93fb5ae43e9f45f2715fc3c2ac958d"), looks := false }, kinds := [], alts := [], laidByText := true, laidKinds := [.data, .data], laidTests := true, laidLooks := .later }
def ShaStepsCardSaid : Prop := Claim7.holds Tryd.pinned (.plain (OpenSpec.ofChange shaStepsSpec)) shaStepsCard

/-- THE TIED CARD OF 'lazaretlaw01.ShaSums'. -/
def shaSumsCard : Claim7 := { stood := { row := shaSumsRow, standIns := [], harness := (true, "ecb0ac449bc3bc82a807f665be0b4d547a93fb5ae43e9f45f2715fc3c2ac958d"), looks := false }, kinds := [], alts := [], laidByText := true, laidKinds := [.data, .data], laidTests := true, laidLooks := .later }
def ShaSumsCardSaid : Prop := Claim7.holds Tryd.pinned (.plain (OpenSpec.ofChange shaSumsSpec)) shaSumsCard

/-- THE TIED CARD OF 'lazaretlaw01.ShaBegins'. -/
def shaBeginsCard : Claim7 := { stood := { row := shaBeginsRow, standIns := [], harness := (true, "ecb0ac449bc3bc82a807f665be0b4d547a93fb5ae43e9f45f2715fc3c2ac958d"), looks := false }, kinds := [], alts := [], laidByText := true, laidKinds := [.data, .data], laidTests := true, laidLooks := .later }
def ShaBeginsCardSaid : Prop := Claim7.holds Tryd.pinned (.plain (OpenSpec.ofChange shaBeginsSpec)) shaBeginsCard

/-- THE SECOND FORM's CARD OF 'lazaretlaw01.ShaPads'. -/
def shaPadsUptoCard : Claim7 := { stood := { row := shaPadsUptoRow, standIns := [], harness := (true, "ecb0ac449bc3bc82a807f665be0b4d547a93fb5ae43e9f45f2715fc3c2ac958d"), looks := false }, kinds := [], alts := [], laidByText := true, laidKinds := [.data, .data], laidTests := true, laidLooks := .later }
def ShaPadsUptoCardSaid : Prop := Claim7.holds Tryd.pinned (.plain (OpenSpec.upto shaPadsSpec)) shaPadsUptoCard

/-- THE SECOND FORM's CARD OF 'lazaretlaw01.ShaSteps'. -/
def shaStepsUptoCard : Claim7 := { stood := { row := shaStepsUptoRow, standIns := [], harness := (true, "ecb0ac449bc3bc82a807f665be0b4d547a93fb5ae43e9f45f2715fc3c2ac958d"), looks := false }, kinds := [], alts := [], laidByText := true, laidKinds := [.data, .data], laidTests := true, laidLooks := .later }
def ShaStepsUptoCardSaid : Prop := Claim7.holds Tryd.pinned (.plain (OpenSpec.upto shaStepsSpec)) shaStepsUptoCard

/-- THE SECOND FORM's CARD OF 'lazaretlaw01.ShaSums'. -/
def shaSumsUptoCard : Claim7 := { stood := { row := shaSumsUptoRow, standIns := [], harness := (true, "ecb0ac449bc3bc82a807f665be0b4d547a93fb5ae43e9f45f2715fc3c2ac958d"), looks := false }, kinds := [], alts := [], laidByText := true, laidKinds := [.data, .data], laidTests := true, laidLooks := .later }
def ShaSumsUptoCardSaid : Prop := Claim7.holds Tryd.pinned (.plain (OpenSpec.upto shaSumsSpec)) shaSumsUptoCard

/-- THE SECOND FORM's CARD OF 'lazaretlaw01.ShaBegins'. -/
def shaBeginsUptoCard : Claim7 := { stood := { row := shaBeginsUptoRow, standIns := [], harness := (true, "ecb0ac449bc3bc82a807f665be0b4d547a93fb5ae43e9f45f2715fc3c2ac958d"), looks := false }, kinds := [], alts := [], laidByText := true, laidKinds := [.data, .data], laidTests := true, laidLooks := .later }
def ShaBeginsUptoCardSaid : Prop := Claim7.holds Tryd.pinned (.plain (OpenSpec.upto shaBeginsSpec)) shaBeginsUptoCard
end Rows
end Go.Proofs.YtbgajegcihhhcaaDoor
