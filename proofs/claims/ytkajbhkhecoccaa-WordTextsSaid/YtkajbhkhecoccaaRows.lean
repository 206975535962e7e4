/-
  No cell of these rows narrows 'for every input' (looked for: loops, veiled, ifaces, maps, wideKeys, modest, calm, conditions, laid).
  DERIVED. THE GIVEN ROWS OF THIS SEAT. 9 by the template 'for every input the law returns true; each argument reads behind the call as it read before'; 0 by the template 'total and deterministic' (their statements: YtkajbhkhecoccaaTotals.lean).
  GIVEN WITH THE SEED: the statements are not yours to turn. If you find one false, say at which input.
  Laid BY PROGRAM, IN A SANDBOX (cutbox-rows.mjs): the forced cells as the released guide's own fill.sh prints them over the translation 503d896b5b79b8e0… (all of the seat's roots in one cut). By AI agents, Wed Nov 11 2026. No macro, syntax, notation, axiom, sorry.
-/
import Derived.Test.YtkajbhkhecoccaaChecked
import GoSem.Claim
import GoSem.ClaimJoined
import GoSem.ClaimMapViews
import Derived.JoinedTies
import Derived.KernelRfl
namespace Go.Proofs.Ytkajbhkhecoccaa
/- THE CELL 'sum', in the pinned program and in every row, IS THE sha256 OF THE DUMP (.gsa) THAT YtkajbhkhecoccaaProg.lean LOADS. Nothing in Lean hashes anything: it is a label: what it is worth is what the hold of that sum in a sandbox is worth. -/
noncomputable def Try.pinned : Pinned := { name := "ytkajbhkhecoccaa", sum := "503d896b5b79b8e017b74852c743dd648d6641bd3296c3727a58b9fab6019f14", checked := Try.checked }
namespace Rows
def none {H : Type} : Left H := { results := [], args := [] }

/-- 'lazaretlaw02.WordPuts': WHATEVER THE INPUT: true; the input reads as it did. -/
def wordPutsSpec : ChangeSpec := { name := "wordPuts", fn := fun _ => fun
  | [d1, d2] => { results := [.lit (.bool true)], args := [d1, d2] }
  | _ => none }
def wordPutsRow : OpenClaim := { program := "ytkajbhkhecoccaa", sum := "503d896b5b79b8e017b74852c743dd648d6641bd3296c3727a58b9fab6019f14", func := "lazaret/lazaretlaw02.WordPuts", spec := "wordPuts", apart := false }
def WordPutsSaid : Prop := wordPutsRow.holds Try.pinned (OpenSpec.ofChange wordPutsSpec)

/-- ITS FALSE NEIGHBOUR: 'it returns false'. Refute it at one input. -/
def wordPutsWrong : ChangeSpec := { name := "wordPuts", fn := fun _ => fun
  | [d1, d2] => { results := [.lit (.bool false)], args := [d1, d2] }
  | _ => none }
def WordPutsWrongFalsely : Prop := wordPutsRow.holds Try.pinned (OpenSpec.ofChange wordPutsWrong)

/-- 'lazaretlaw08.GeomMakes': WHATEVER THE INPUT: true; the input reads as it did. -/
def geomMakesSpec : ChangeSpec := { name := "geomMakes", fn := fun _ => fun
  | [d1, d2] => { results := [.lit (.bool true)], args := [d1, d2] }
  | _ => none }
def geomMakesRow : OpenClaim := { program := "ytkajbhkhecoccaa", sum := "503d896b5b79b8e017b74852c743dd648d6641bd3296c3727a58b9fab6019f14", func := "lazaret/lazaretlaw08.GeomMakes", spec := "geomMakes", apart := false }
def GeomMakesSaid : Prop := geomMakesRow.holds Try.pinned (OpenSpec.ofChange geomMakesSpec)

/-- ITS FALSE NEIGHBOUR: 'it returns false'. Refute it at one input. -/
def geomMakesWrong : ChangeSpec := { name := "geomMakes", fn := fun _ => fun
  | [d1, d2] => { results := [.lit (.bool false)], args := [d1, d2] }
  | _ => none }
def GeomMakesWrongFalsely : Prop := geomMakesRow.holds Try.pinned (OpenSpec.ofChange geomMakesWrong)

/-- 'lazaretlaw08.GeomPlaces': WHATEVER THE INPUT: true; the input reads as it did. -/
def geomPlacesSpec : ChangeSpec := { name := "geomPlaces", fn := fun _ => fun
  | [d1, d2] => { results := [.lit (.bool true)], args := [d1, d2] }
  | _ => none }
def geomPlacesRow : OpenClaim := { program := "ytkajbhkhecoccaa", sum := "503d896b5b79b8e017b74852c743dd648d6641bd3296c3727a58b9fab6019f14", func := "lazaret/lazaretlaw08.GeomPlaces", spec := "geomPlaces", apart := false }
def GeomPlacesSaid : Prop := geomPlacesRow.holds Try.pinned (OpenSpec.ofChange geomPlacesSpec)

/-- ITS FALSE NEIGHBOUR: 'it returns false'. Refute it at one input. -/
def geomPlacesWrong : ChangeSpec := { name := "geomPlaces", fn := fun _ => fun
  | [d1, d2] => { results := [.lit (.bool false)], args := [d1, d2] }
  | _ => none }
def GeomPlacesWrongFalsely : Prop := geomPlacesRow.holds Try.pinned (OpenSpec.ofChange geomPlacesWrong)

/-- 'lazaretlaw02.WordTakes': WHATEVER THE INPUT: true; the input reads as it did. -/
def wordTakesSpec : ChangeSpec := { name := "wordTakes", fn := fun _ => fun
  | [d1, d2, d3] => { results := [.lit (.bool true)], args := [d1, d2, d3] }
  | _ => none }
def wordTakesRow : OpenClaim := { program := "ytkajbhkhecoccaa", sum := "503d896b5b79b8e017b74852c743dd648d6641bd3296c3727a58b9fab6019f14", func := "lazaret/lazaretlaw02.WordTakes", spec := "wordTakes", apart := false }
def WordTakesSaid : Prop := wordTakesRow.holds Try.pinned (OpenSpec.ofChange wordTakesSpec)

/-- ITS FALSE NEIGHBOUR: 'it returns false'. Refute it at one input. -/
def wordTakesWrong : ChangeSpec := { name := "wordTakes", fn := fun _ => fun
  | [d1, d2, d3] => { results := [.lit (.bool false)], args := [d1, d2, d3] }
  | _ => none }
def WordTakesWrongFalsely : Prop := wordTakesRow.holds Try.pinned (OpenSpec.ofChange wordTakesWrong)

/-- 'lazaretlaw02.WordBack': WHATEVER THE INPUT: true; the input reads as it did. -/
def wordBackSpec : ChangeSpec := { name := "wordBack", fn := fun _ => fun
  | [d1, d2] => { results := [.lit (.bool true)], args := [d1, d2] }
  | _ => none }
def wordBackRow : OpenClaim := { program := "ytkajbhkhecoccaa", sum := "503d896b5b79b8e017b74852c743dd648d6641bd3296c3727a58b9fab6019f14", func := "lazaret/lazaretlaw02.WordBack", spec := "wordBack", apart := false }
def WordBackSaid : Prop := wordBackRow.holds Try.pinned (OpenSpec.ofChange wordBackSpec)

/-- ITS FALSE NEIGHBOUR: 'it returns false'. Refute it at one input. -/
def wordBackWrong : ChangeSpec := { name := "wordBack", fn := fun _ => fun
  | [d1, d2] => { results := [.lit (.bool false)], args := [d1, d2] }
  | _ => none }
def WordBackWrongFalsely : Prop := wordBackRow.holds Try.pinned (OpenSpec.ofChange wordBackWrong)

/-- 'lazaretlaw08.GeomAsks': WHATEVER THE INPUT: true; the input reads as it did. -/
def geomAsksSpec : ChangeSpec := { name := "geomAsks", fn := fun _ => fun
  | [d1, d2] => { results := [.lit (.bool true)], args := [d1, d2] }
  | _ => none }
def geomAsksRow : OpenClaim := { program := "ytkajbhkhecoccaa", sum := "503d896b5b79b8e017b74852c743dd648d6641bd3296c3727a58b9fab6019f14", func := "lazaret/lazaretlaw08.GeomAsks", spec := "geomAsks", apart := false }
def GeomAsksSaid : Prop := geomAsksRow.holds Try.pinned (OpenSpec.ofChange geomAsksSpec)

/-- ITS FALSE NEIGHBOUR: 'it returns false'. Refute it at one input. -/
def geomAsksWrong : ChangeSpec := { name := "geomAsks", fn := fun _ => fun
  | [d1, d2] => { results := [.lit (.bool false)], args := [d1, d2] }
  | _ => none }
def GeomAsksWrongFalsely : Prop := geomAsksRow.holds Try.pinned (OpenSpec.ofChange geomAsksWrong)

/-- 'lazaretlaw02.WordTexts': WHATEVER THE INPUT: true; the input reads as it did. -/
def wordTextsSpec : ChangeSpec := { name := "wordTexts", fn := fun _ => fun
  | [d1, d2, d3] => { results := [.lit (.bool true)], args := [d1, d2, d3] }
  | _ => none }
def wordTextsRow : OpenClaim := { program := "ytkajbhkhecoccaa", sum := "503d896b5b79b8e017b74852c743dd648d6641bd3296c3727a58b9fab6019f14", func := "lazaret/lazaretlaw02.WordTexts", spec := "wordTexts", apart := false }
def WordTextsSaid : Prop := wordTextsRow.holds Try.pinned (OpenSpec.ofChange wordTextsSpec)

/-- ITS FALSE NEIGHBOUR: 'it returns false'. Refute it at one input. -/
def wordTextsWrong : ChangeSpec := { name := "wordTexts", fn := fun _ => fun
  | [d1, d2, d3] => { results := [.lit (.bool false)], args := [d1, d2, d3] }
  | _ => none }
def WordTextsWrongFalsely : Prop := wordTextsRow.holds Try.pinned (OpenSpec.ofChange wordTextsWrong)

/-- 'lazaretlaw02.WordTextBack': WHATEVER THE INPUT: true; the input reads as it did. -/
def wordTextBackSpec : ChangeSpec := { name := "wordTextBack", fn := fun _ => fun
  | [d1, d2, d3] => { results := [.lit (.bool true)], args := [d1, d2, d3] }
  | _ => none }
def wordTextBackRow : OpenClaim := { program := "ytkajbhkhecoccaa", sum := "503d896b5b79b8e017b74852c743dd648d6641bd3296c3727a58b9fab6019f14", func := "lazaret/lazaretlaw02.WordTextBack", spec := "wordTextBack", apart := false }
def WordTextBackSaid : Prop := wordTextBackRow.holds Try.pinned (OpenSpec.ofChange wordTextBackSpec)

/-- ITS FALSE NEIGHBOUR: 'it returns false'. Refute it at one input. -/
def wordTextBackWrong : ChangeSpec := { name := "wordTextBack", fn := fun _ => fun
  | [d1, d2, d3] => { results := [.lit (.bool false)], args := [d1, d2, d3] }
  | _ => none }
def WordTextBackWrongFalsely : Prop := wordTextBackRow.holds Try.pinned (OpenSpec.ofChange wordTextBackWrong)

/-- 'lazaretlaw08.GeomOnce': WHATEVER THE INPUT: true; the input reads as it did. -/
def geomOnceSpec : ChangeSpec := { name := "geomOnce", fn := fun _ => fun
  | [d1, d2, d3] => { results := [.lit (.bool true)], args := [d1, d2, d3] }
  | _ => none }
def geomOnceRow : OpenClaim := { program := "ytkajbhkhecoccaa", sum := "503d896b5b79b8e017b74852c743dd648d6641bd3296c3727a58b9fab6019f14", func := "lazaret/lazaretlaw08.GeomOnce", spec := "geomOnce", apart := false }
def GeomOnceSaid : Prop := geomOnceRow.holds Try.pinned (OpenSpec.ofChange geomOnceSpec)

/-- ITS FALSE NEIGHBOUR: 'it returns false'. Refute it at one input. -/
def geomOnceWrong : ChangeSpec := { name := "geomOnce", fn := fun _ => fun
  | [d1, d2, d3] => { results := [.lit (.bool false)], args := [d1, d2, d3] }
  | _ => none }
def GeomOnceWrongFalsely : Prop := geomOnceRow.holds Try.pinned (OpenSpec.ofChange geomOnceWrong)

/- THE SECOND FORM. 'bulk': how many values and letters a reading holds, each counted each time it is reached (what is shared counts as often as it is met; a slice's spare places count too). A statement '..UptoSaid' is the law's where the arguments, and the package variables that the reading takes, are together of bulk at most 1048576: NARROWER than '..Said'. Prove '..Said' where nothing that the law and all that it calls make is longer than what came in: it says more and counts as full. Else prove '..UptoSaid'. A law counts once. -/
mutual
def uptoBulk {H : Type} : DataW H → Nat
  | .lit (.string bytes) => bytes.length + 1
  | .lit _ => 1
  | .nil => 1
  | .ptr d => uptoBulk d + 1
  | .slice elems spare => uptoBulkAll elems + uptoBulkAll spare + 1
  | .agg parts => uptoBulkAll parts + 1
  | .iface _ d => uptoBulk d + 1
  | .map entries => uptoBulkEntries entries + 1
  | .held _ => 1
def uptoBulkAll {H : Type} : List (DataW H) → Nat
  | [] => 0
  | d :: r => uptoBulk d + uptoBulkAll r
def uptoBulkEntries {H : Type} : List (Lit × DataW H) → Nat
  | [] => 0
  | x :: r => uptoBulkEntry x + uptoBulkEntries r
def uptoBulkEntry {H : Type} : Lit × DataW H → Nat
  | (.string bytes, d) => bytes.length + uptoBulk d + 1
  | (_, d) => uptoBulk d + 1
 end
def uptoSmall : (H : Type) → List (DataW H) → Bool := fun _ ds => decide (uptoBulkAll ds ≤ 1048576)
def OpenSpec.upto (s : _root_.Go.ChangeSpec) : _root_.Go.OpenSpec := { _root_.Go.OpenSpec.ofChange s with cond := some uptoSmall }

/-- 'lazaretlaw02.WordPuts', WHERE WHAT IT READS IS OF BULK AT MOST 1048576: true; the input reads as it did. -/
def wordPutsUptoRow : OpenClaim := { program := "ytkajbhkhecoccaa", sum := "503d896b5b79b8e017b74852c743dd648d6641bd3296c3727a58b9fab6019f14", func := "lazaret/lazaretlaw02.WordPuts", spec := "wordPuts", apart := false, narrowed := true }
def WordPutsUptoSaid : Prop := wordPutsUptoRow.holds Try.pinned (OpenSpec.upto wordPutsSpec)

/-- 'lazaretlaw08.GeomMakes', WHERE WHAT IT READS IS OF BULK AT MOST 1048576: true; the input reads as it did. -/
def geomMakesUptoRow : OpenClaim := { program := "ytkajbhkhecoccaa", sum := "503d896b5b79b8e017b74852c743dd648d6641bd3296c3727a58b9fab6019f14", func := "lazaret/lazaretlaw08.GeomMakes", spec := "geomMakes", apart := false, narrowed := true }
def GeomMakesUptoSaid : Prop := geomMakesUptoRow.holds Try.pinned (OpenSpec.upto geomMakesSpec)

/-- 'lazaretlaw08.GeomPlaces', WHERE WHAT IT READS IS OF BULK AT MOST 1048576: true; the input reads as it did. -/
def geomPlacesUptoRow : OpenClaim := { program := "ytkajbhkhecoccaa", sum := "503d896b5b79b8e017b74852c743dd648d6641bd3296c3727a58b9fab6019f14", func := "lazaret/lazaretlaw08.GeomPlaces", spec := "geomPlaces", apart := false, narrowed := true }
def GeomPlacesUptoSaid : Prop := geomPlacesUptoRow.holds Try.pinned (OpenSpec.upto geomPlacesSpec)

/-- 'lazaretlaw02.WordTakes', WHERE WHAT IT READS IS OF BULK AT MOST 1048576: true; the input reads as it did. -/
def wordTakesUptoRow : OpenClaim := { program := "ytkajbhkhecoccaa", sum := "503d896b5b79b8e017b74852c743dd648d6641bd3296c3727a58b9fab6019f14", func := "lazaret/lazaretlaw02.WordTakes", spec := "wordTakes", apart := false, narrowed := true }
def WordTakesUptoSaid : Prop := wordTakesUptoRow.holds Try.pinned (OpenSpec.upto wordTakesSpec)

/-- 'lazaretlaw02.WordBack', WHERE WHAT IT READS IS OF BULK AT MOST 1048576: true; the input reads as it did. -/
def wordBackUptoRow : OpenClaim := { program := "ytkajbhkhecoccaa", sum := "503d896b5b79b8e017b74852c743dd648d6641bd3296c3727a58b9fab6019f14", func := "lazaret/lazaretlaw02.WordBack", spec := "wordBack", apart := false, narrowed := true }
def WordBackUptoSaid : Prop := wordBackUptoRow.holds Try.pinned (OpenSpec.upto wordBackSpec)

/-- 'lazaretlaw08.GeomAsks', WHERE WHAT IT READS IS OF BULK AT MOST 1048576: true; the input reads as it did. -/
def geomAsksUptoRow : OpenClaim := { program := "ytkajbhkhecoccaa", sum := "503d896b5b79b8e017b74852c743dd648d6641bd3296c3727a58b9fab6019f14", func := "lazaret/lazaretlaw08.GeomAsks", spec := "geomAsks", apart := false, narrowed := true }
def GeomAsksUptoSaid : Prop := geomAsksUptoRow.holds Try.pinned (OpenSpec.upto geomAsksSpec)

/-- 'lazaretlaw02.WordTexts', WHERE WHAT IT READS IS OF BULK AT MOST 1048576: true; the input reads as it did. -/
def wordTextsUptoRow : OpenClaim := { program := "ytkajbhkhecoccaa", sum := "503d896b5b79b8e017b74852c743dd648d6641bd3296c3727a58b9fab6019f14", func := "lazaret/lazaretlaw02.WordTexts", spec := "wordTexts", apart := false, narrowed := true }
def WordTextsUptoSaid : Prop := wordTextsUptoRow.holds Try.pinned (OpenSpec.upto wordTextsSpec)

/-- 'lazaretlaw02.WordTextBack', WHERE WHAT IT READS IS OF BULK AT MOST 1048576: true; the input reads as it did. -/
def wordTextBackUptoRow : OpenClaim := { program := "ytkajbhkhecoccaa", sum := "503d896b5b79b8e017b74852c743dd648d6641bd3296c3727a58b9fab6019f14", func := "lazaret/lazaretlaw02.WordTextBack", spec := "wordTextBack", apart := false, narrowed := true }
def WordTextBackUptoSaid : Prop := wordTextBackUptoRow.holds Try.pinned (OpenSpec.upto wordTextBackSpec)

/-- 'lazaretlaw08.GeomOnce', WHERE WHAT IT READS IS OF BULK AT MOST 1048576: true; the input reads as it did. -/
def geomOnceUptoRow : OpenClaim := { program := "ytkajbhkhecoccaa", sum := "503d896b5b79b8e017b74852c743dd648d6641bd3296c3727a58b9fab6019f14", func := "lazaret/lazaretlaw08.GeomOnce", spec := "geomOnce", apart := false, narrowed := true }
def GeomOnceUptoSaid : Prop := geomOnceUptoRow.holds Try.pinned (OpenSpec.upto geomOnceSpec)

end Rows
end Go.Proofs.Ytkajbhkhecoccaa
