/-
  No cell of these rows narrows 'for every input' (looked for: loops, veiled, ifaces, maps, wideKeys, modest, calm, conditions, laid).
  DERIVED. THE GIVEN ROWS OF THIS SEAT. 4 by the template 'for every input the law returns true; each argument reads behind the call as it read before'; 0 by the template 'total and deterministic' (their statements: YtfjkbabeceaelaaTotals.lean).
  GIVEN WITH THE SEED: the statements are not yours to turn. If you find one false, say at which input.
  Laid BY PROGRAM, IN A SANDBOX (cutbox-rows.mjs): the forced cells as the released guide's own fill.sh prints them over the translation 50a8705190b80a88… (all of the seat's roots in one cut). By AI agents, Wed Nov 11 2026. No macro, syntax, notation, axiom, sorry.
-/
import Derived.Test.YtfjkbabeceaelaaChecked
import GoSem.Claim
import GoSem.ClaimJoined
import GoSem.ClaimMapViews
import Derived.JoinedTies
import Derived.KernelRfl
namespace Go.Proofs.Ytfjkbabeceaelaa
/- THE CELL 'sum', in the pinned program and in every row, IS THE sha256 OF THE DUMP (.gsa) THAT YtfjkbabeceaelaaProg.lean LOADS. Nothing in Lean hashes anything: it is a label: what it is worth is what the hold of that sum in a sandbox is worth. -/
noncomputable def Try.pinned : Pinned := { name := "ytfjkbabeceaelaa", sum := "50a8705190b80a8856158bafa0c8f4fd1b7458f01ca9635f4095b1d8aeef3314", checked := Try.checked }
namespace Rows
def none {H : Type} : Left H := { results := [], args := [] }

/-- 'lazaretlaw13.InodeTakes': WHATEVER THE INPUT: true; the input reads as it did. -/
def inodeTakesSpec : ChangeSpec := { name := "inodeTakes", fn := fun _ => fun
  | [d1, d2] => { results := [.lit (.bool true)], args := [d1, d2] }
  | _ => none }
def inodeTakesRow : OpenClaim := { program := "ytfjkbabeceaelaa", sum := "50a8705190b80a8856158bafa0c8f4fd1b7458f01ca9635f4095b1d8aeef3314", func := "lazaret/lazaretlaw13.InodeTakes", spec := "inodeTakes", apart := false }
def InodeTakesSaid : Prop := inodeTakesRow.holds Try.pinned (OpenSpec.ofChange inodeTakesSpec)

/-- ITS FALSE NEIGHBOUR: 'it returns false'. Refute it at one input. -/
def inodeTakesWrong : ChangeSpec := { name := "inodeTakes", fn := fun _ => fun
  | [d1, d2] => { results := [.lit (.bool false)], args := [d1, d2] }
  | _ => none }
def InodeTakesWrongFalsely : Prop := inodeTakesRow.holds Try.pinned (OpenSpec.ofChange inodeTakesWrong)

/-- 'lazaretlaw13.InodeNews': WHATEVER THE INPUT: true; the input reads as it did. -/
def inodeNewsSpec : ChangeSpec := { name := "inodeNews", fn := fun _ => fun
  | [d1, d2] => { results := [.lit (.bool true)], args := [d1, d2] }
  | _ => none }
def inodeNewsRow : OpenClaim := { program := "ytfjkbabeceaelaa", sum := "50a8705190b80a8856158bafa0c8f4fd1b7458f01ca9635f4095b1d8aeef3314", func := "lazaret/lazaretlaw13.InodeNews", spec := "inodeNews", apart := false }
def InodeNewsSaid : Prop := inodeNewsRow.holds Try.pinned (OpenSpec.ofChange inodeNewsSpec)

/-- ITS FALSE NEIGHBOUR: 'it returns false'. Refute it at one input. -/
def inodeNewsWrong : ChangeSpec := { name := "inodeNews", fn := fun _ => fun
  | [d1, d2] => { results := [.lit (.bool false)], args := [d1, d2] }
  | _ => none }
def InodeNewsWrongFalsely : Prop := inodeNewsRow.holds Try.pinned (OpenSpec.ofChange inodeNewsWrong)

/-- 'lazaretlaw13.InodeBack': WHATEVER THE INPUT: true; the input reads as it did. -/
def inodeBackSpec : ChangeSpec := { name := "inodeBack", fn := fun _ => fun
  | [d1, d2, d3] => { results := [.lit (.bool true)], args := [d1, d2, d3] }
  | _ => none }
def inodeBackRow : OpenClaim := { program := "ytfjkbabeceaelaa", sum := "50a8705190b80a8856158bafa0c8f4fd1b7458f01ca9635f4095b1d8aeef3314", func := "lazaret/lazaretlaw13.InodeBack", spec := "inodeBack", apart := false }
def InodeBackSaid : Prop := inodeBackRow.holds Try.pinned (OpenSpec.ofChange inodeBackSpec)

/-- ITS FALSE NEIGHBOUR: 'it returns false'. Refute it at one input. -/
def inodeBackWrong : ChangeSpec := { name := "inodeBack", fn := fun _ => fun
  | [d1, d2, d3] => { results := [.lit (.bool false)], args := [d1, d2, d3] }
  | _ => none }
def InodeBackWrongFalsely : Prop := inodeBackRow.holds Try.pinned (OpenSpec.ofChange inodeBackWrong)

/-- 'lazaretlaw13.InodePuts': WHATEVER THE INPUT: true; the input reads as it did. -/
def inodePutsSpec : ChangeSpec := { name := "inodePuts", fn := fun _ => fun
  | [d1, d2] => { results := [.lit (.bool true)], args := [d1, d2] }
  | _ => none }
def inodePutsRow : OpenClaim := { program := "ytfjkbabeceaelaa", sum := "50a8705190b80a8856158bafa0c8f4fd1b7458f01ca9635f4095b1d8aeef3314", func := "lazaret/lazaretlaw13.InodePuts", spec := "inodePuts", apart := false }
def InodePutsSaid : Prop := inodePutsRow.holds Try.pinned (OpenSpec.ofChange inodePutsSpec)

/-- ITS FALSE NEIGHBOUR: 'it returns false'. Refute it at one input. -/
def inodePutsWrong : ChangeSpec := { name := "inodePuts", fn := fun _ => fun
  | [d1, d2] => { results := [.lit (.bool false)], args := [d1, d2] }
  | _ => none }
def InodePutsWrongFalsely : Prop := inodePutsRow.holds Try.pinned (OpenSpec.ofChange inodePutsWrong)

/- THE SECOND FORM. 'bulk': how many values and letters a reading holds, each counted each time it is reached (what is shared counts as often as it is met; a slice's spare places count too). A statement '..UptoSaid' is the law's where the arguments, and the package variables that the reading takes, are together of bulk at most 1048576: NARROWER than '..Said'. Prove '..Said' where nothing that the law and all that it calls make is longer than what came in: it says more and counts as full. Else prove '..UptoSaid'. A law counts once. -/
mutual
def uptoBulk {H : Type} : DataW H → Nat
  | .lit (.string bytes) => bytes.length + 1
  | .lit _ => 1
  | .nil => 1
  | .ptr d => uptoBulk d + 1
  | .slice elems spare => uptoBulkAll elems + uptoBulkAll spare + 1
  | .agg parts => uptoBulkAll parts + 1
  | .iface _ d => uptoBulk d + 1
  | .map entries => uptoBulkEntries entries + 1
  | .held _ => 1
def uptoBulkAll {H : Type} : List (DataW H) → Nat
  | [] => 0
  | d :: r => uptoBulk d + uptoBulkAll r
def uptoBulkEntries {H : Type} : List (Lit × DataW H) → Nat
  | [] => 0
  | x :: r => uptoBulkEntry x + uptoBulkEntries r
def uptoBulkEntry {H : Type} : Lit × DataW H → Nat
  | (.string bytes, d) => bytes.length + uptoBulk d + 1
  | (_, d) => uptoBulk d + 1
 end
def uptoSmall : (H : Type) → List (DataW H) → Bool := fun _ ds => decide (uptoBulkAll ds ≤ 1048576)
def OpenSpec.upto (s : _root_.Go.ChangeSpec) : _root_.Go.OpenSpec := { _root_.Go.OpenSpec.ofChange s with cond := some uptoSmall }

/-- 'lazaretlaw13.InodeTakes', WHERE WHAT IT READS IS OF BULK AT MOST 1048576: true; the input reads as it did. -/
def inodeTakesUptoRow : OpenClaim := { program := "ytfjkbabeceaelaa", sum := "50a8705190b80a8856158bafa0c8f4fd1b7458f01ca9635f4095b1d8aeef3314", func := "lazaret/lazaretlaw13.InodeTakes", spec := "inodeTakes", apart := false, narrowed := true }
def InodeTakesUptoSaid : Prop := inodeTakesUptoRow.holds Try.pinned (OpenSpec.upto inodeTakesSpec)

/-- 'lazaretlaw13.InodeNews', WHERE WHAT IT READS IS OF BULK AT MOST 1048576: true; the input reads as it did. -/
def inodeNewsUptoRow : OpenClaim := { program := "ytfjkbabeceaelaa", sum := "50a8705190b80a8856158bafa0c8f4fd1b7458f01ca9635f4095b1d8aeef3314", func := "lazaret/lazaretlaw13.InodeNews", spec := "inodeNews", apart := false, narrowed := true }
def InodeNewsUptoSaid : Prop := inodeNewsUptoRow.holds Try.pinned (OpenSpec.upto inodeNewsSpec)

/-- 'lazaretlaw13.InodeBack', WHERE WHAT IT READS IS OF BULK AT MOST 1048576: true; the input reads as it did. -/
def inodeBackUptoRow : OpenClaim := { program := "ytfjkbabeceaelaa", sum := "50a8705190b80a8856158bafa0c8f4fd1b7458f01ca9635f4095b1d8aeef3314", func := "lazaret/lazaretlaw13.InodeBack", spec := "inodeBack", apart := false, narrowed := true }
def InodeBackUptoSaid : Prop := inodeBackUptoRow.holds Try.pinned (OpenSpec.upto inodeBackSpec)

/-- 'lazaretlaw13.InodePuts', WHERE WHAT IT READS IS OF BULK AT MOST 1048576: true; the input reads as it did. -/
def inodePutsUptoRow : OpenClaim := { program := "ytfjkbabeceaelaa", sum := "50a8705190b80a8856158bafa0c8f4fd1b7458f01ca9635f4095b1d8aeef3314", func := "lazaret/lazaretlaw13.InodePuts", spec := "inodePuts", apart := false, narrowed := true }
def InodePutsUptoSaid : Prop := inodePutsUptoRow.holds Try.pinned (OpenSpec.upto inodePutsSpec)

end Rows
end Go.Proofs.Ytfjkbabeceaelaa
