/-
  No cell of these rows narrows 'for every input' (looked for: loops, veiled, ifaces, maps, wideKeys, modest, calm, conditions, laid).
  DERIVED. THE GIVEN ROWS OF THIS SEAT. 6 by the template 'for every input the law returns true; each argument reads behind the call as it read before'; 0 by the template 'total and deterministic' (their statements: YtboakipfhidkmaaTotals.lean).
  GIVEN WITH THE SEED: the statements are not yours to turn. If you find one false, say at which input.
  Laid BY PROGRAM, IN A SANDBOX (cutbox-rows.mjs): the forced cells as the released guide's own fill.sh prints them over the translation 797bab5eebf76092… (all of the seat's roots in one cut). By AI agents, Wed Nov 11 2026. No macro, syntax, notation, axiom, sorry.
-/
import Derived.Test.YtboakipfhidkmaaChecked
import GoSem.Claim
import GoSem.ClaimJoined
import GoSem.ClaimMapViews
import Derived.JoinedTies
import Derived.KernelRfl
namespace Go.Proofs.Ytboakipfhidkmaa
/- THE CELL 'sum', in the pinned program and in every row, IS THE sha256 OF THE DUMP (.gsa) THAT YtboakipfhidkmaaProg.lean LOADS. Nothing in Lean hashes anything: it is a label: what it is worth is what the hold of that sum in a sandbox is worth. -/
noncomputable def Try.pinned : Pinned := { name := "ytboakipfhidkmaa", sum := "797bab5eebf76092bc72e85e4f2c221c73b5eff2a93cd5e1fcbc75532bddaf38", checked := Try.checked }
namespace Rows
def none {H : Type} : Left H := { results := [], args := [] }

/-- 'lazaretlaw03.DiskReads': WHATEVER THE INPUT: true; the input reads as it did. -/
def diskReadsSpec : ChangeSpec := { name := "diskReads", fn := fun _ => fun
  | [d1, d2, d3] => { results := [.lit (.bool true)], args := [d1, d2, d3] }
  | _ => none }
def diskReadsRow : OpenClaim := { program := "ytboakipfhidkmaa", sum := "797bab5eebf76092bc72e85e4f2c221c73b5eff2a93cd5e1fcbc75532bddaf38", func := "lazaret/lazaretlaw03.DiskReads", spec := "diskReads", unfollowed := true, recurses := true, apart := false }
def DiskReadsSaid : Prop := diskReadsRow.holds Try.pinned (OpenSpec.ofChange diskReadsSpec)

/-- ITS FALSE NEIGHBOUR: 'it returns false'. Refute it at one input. -/
def diskReadsWrong : ChangeSpec := { name := "diskReads", fn := fun _ => fun
  | [d1, d2, d3] => { results := [.lit (.bool false)], args := [d1, d2, d3] }
  | _ => none }
def DiskReadsWrongFalsely : Prop := diskReadsRow.holds Try.pinned (OpenSpec.ofChange diskReadsWrong)

/-- 'lazaretlaw03.DiskWrites': WHATEVER THE INPUT: true; the input reads as it did. -/
def diskWritesSpec : ChangeSpec := { name := "diskWrites", fn := fun _ => fun
  | [d1, d2, d3] => { results := [.lit (.bool true)], args := [d1, d2, d3] }
  | _ => none }
def diskWritesRow : OpenClaim := { program := "ytboakipfhidkmaa", sum := "797bab5eebf76092bc72e85e4f2c221c73b5eff2a93cd5e1fcbc75532bddaf38", func := "lazaret/lazaretlaw03.DiskWrites", spec := "diskWrites", unfollowed := true, recurses := true, apart := false }
def DiskWritesSaid : Prop := diskWritesRow.holds Try.pinned (OpenSpec.ofChange diskWritesSpec)

/-- ITS FALSE NEIGHBOUR: 'it returns false'. Refute it at one input. -/
def diskWritesWrong : ChangeSpec := { name := "diskWrites", fn := fun _ => fun
  | [d1, d2, d3] => { results := [.lit (.bool false)], args := [d1, d2, d3] }
  | _ => none }
def DiskWritesWrongFalsely : Prop := diskWritesRow.holds Try.pinned (OpenSpec.ofChange diskWritesWrong)

/-- 'lazaretlaw03.DiskCrashes': WHATEVER THE INPUT: true; the input reads as it did. -/
def diskCrashesSpec : ChangeSpec := { name := "diskCrashes", fn := fun _ => fun
  | [d1, d2] => { results := [.lit (.bool true)], args := [d1, d2] }
  | _ => none }
def diskCrashesRow : OpenClaim := { program := "ytboakipfhidkmaa", sum := "797bab5eebf76092bc72e85e4f2c221c73b5eff2a93cd5e1fcbc75532bddaf38", func := "lazaret/lazaretlaw03.DiskCrashes", spec := "diskCrashes", unfollowed := true, recurses := true, apart := false }
def DiskCrashesSaid : Prop := diskCrashesRow.holds Try.pinned (OpenSpec.ofChange diskCrashesSpec)

/-- ITS FALSE NEIGHBOUR: 'it returns false'. Refute it at one input. -/
def diskCrashesWrong : ChangeSpec := { name := "diskCrashes", fn := fun _ => fun
  | [d1, d2] => { results := [.lit (.bool false)], args := [d1, d2] }
  | _ => none }
def DiskCrashesWrongFalsely : Prop := diskCrashesRow.holds Try.pinned (OpenSpec.ofChange diskCrashesWrong)

/-- 'lazaretlaw03.DiskFlushes': WHATEVER THE INPUT: true; the input reads as it did. -/
def diskFlushesSpec : ChangeSpec := { name := "diskFlushes", fn := fun _ => fun
  | [d1, d2] => { results := [.lit (.bool true)], args := [d1, d2] }
  | _ => none }
def diskFlushesRow : OpenClaim := { program := "ytboakipfhidkmaa", sum := "797bab5eebf76092bc72e85e4f2c221c73b5eff2a93cd5e1fcbc75532bddaf38", func := "lazaret/lazaretlaw03.DiskFlushes", spec := "diskFlushes", unfollowed := true, recurses := true, apart := false }
def DiskFlushesSaid : Prop := diskFlushesRow.holds Try.pinned (OpenSpec.ofChange diskFlushesSpec)

/-- ITS FALSE NEIGHBOUR: 'it returns false'. Refute it at one input. -/
def diskFlushesWrong : ChangeSpec := { name := "diskFlushes", fn := fun _ => fun
  | [d1, d2] => { results := [.lit (.bool false)], args := [d1, d2] }
  | _ => none }
def DiskFlushesWrongFalsely : Prop := diskFlushesRow.holds Try.pinned (OpenSpec.ofChange diskFlushesWrong)

/-- 'lazaretlaw03.DiskSure': WHATEVER THE INPUT: true; the input reads as it did. -/
def diskSureSpec : ChangeSpec := { name := "diskSure", fn := fun _ => fun
  | [d1, d2, d3] => { results := [.lit (.bool true)], args := [d1, d2, d3] }
  | _ => none }
def diskSureRow : OpenClaim := { program := "ytboakipfhidkmaa", sum := "797bab5eebf76092bc72e85e4f2c221c73b5eff2a93cd5e1fcbc75532bddaf38", func := "lazaret/lazaretlaw03.DiskSure", spec := "diskSure", unfollowed := true, recurses := true, apart := false }
def DiskSureSaid : Prop := diskSureRow.holds Try.pinned (OpenSpec.ofChange diskSureSpec)

/-- ITS FALSE NEIGHBOUR: 'it returns false'. Refute it at one input. -/
def diskSureWrong : ChangeSpec := { name := "diskSure", fn := fun _ => fun
  | [d1, d2, d3] => { results := [.lit (.bool false)], args := [d1, d2, d3] }
  | _ => none }
def DiskSureWrongFalsely : Prop := diskSureRow.holds Try.pinned (OpenSpec.ofChange diskSureWrong)

/-- 'lazaretlaw03.DiskHits': WHATEVER THE INPUT: true; the input reads as it did. -/
def diskHitsSpec : ChangeSpec := { name := "diskHits", fn := fun _ => fun
  | [d1, d2] => { results := [.lit (.bool true)], args := [d1, d2] }
  | _ => none }
def diskHitsRow : OpenClaim := { program := "ytboakipfhidkmaa", sum := "797bab5eebf76092bc72e85e4f2c221c73b5eff2a93cd5e1fcbc75532bddaf38", func := "lazaret/lazaretlaw03.DiskHits", spec := "diskHits", unfollowed := true, recurses := true, apart := false }
def DiskHitsSaid : Prop := diskHitsRow.holds Try.pinned (OpenSpec.ofChange diskHitsSpec)

/-- ITS FALSE NEIGHBOUR: 'it returns false'. Refute it at one input. -/
def diskHitsWrong : ChangeSpec := { name := "diskHits", fn := fun _ => fun
  | [d1, d2] => { results := [.lit (.bool false)], args := [d1, d2] }
  | _ => none }
def DiskHitsWrongFalsely : Prop := diskHitsRow.holds Try.pinned (OpenSpec.ofChange diskHitsWrong)

/- THE SECOND FORM. 'bulk': how many values and letters a reading holds, each counted each time it is reached (what is shared counts as often as it is met; a slice's spare places count too). A statement '..UptoSaid' is the law's where the arguments, and the package variables that the reading takes, are together of bulk at most 1048576: NARROWER than '..Said'. Prove '..Said' where nothing that the law and all that it calls make is longer than what came in: it says more and counts as full. Else prove '..UptoSaid'. A law counts once. -/
mutual
def uptoBulk {H : Type} : DataW H → Nat
  | .lit (.string bytes) => bytes.length + 1
  | .lit _ => 1
  | .nil => 1
  | .ptr d => uptoBulk d + 1
  | .slice elems spare => uptoBulkAll elems + uptoBulkAll spare + 1
  | .agg parts => uptoBulkAll parts + 1
  | .iface _ d => uptoBulk d + 1
  | .map entries => uptoBulkEntries entries + 1
  | .held _ => 1
def uptoBulkAll {H : Type} : List (DataW H) → Nat
  | [] => 0
  | d :: r => uptoBulk d + uptoBulkAll r
def uptoBulkEntries {H : Type} : List (Lit × DataW H) → Nat
  | [] => 0
  | x :: r => uptoBulkEntry x + uptoBulkEntries r
def uptoBulkEntry {H : Type} : Lit × DataW H → Nat
  | (.string bytes, d) => bytes.length + uptoBulk d + 1
  | (_, d) => uptoBulk d + 1
 end
def uptoSmall : (H : Type) → List (DataW H) → Bool := fun _ ds => decide (uptoBulkAll ds ≤ 1048576)
def OpenSpec.upto (s : _root_.Go.ChangeSpec) : _root_.Go.OpenSpec := { _root_.Go.OpenSpec.ofChange s with cond := some uptoSmall }

/-- 'lazaretlaw03.DiskReads', WHERE WHAT IT READS IS OF BULK AT MOST 1048576: true; the input reads as it did. -/
def diskReadsUptoRow : OpenClaim := { program := "ytboakipfhidkmaa", sum := "797bab5eebf76092bc72e85e4f2c221c73b5eff2a93cd5e1fcbc75532bddaf38", func := "lazaret/lazaretlaw03.DiskReads", spec := "diskReads", unfollowed := true, recurses := true, apart := false, narrowed := true }
def DiskReadsUptoSaid : Prop := diskReadsUptoRow.holds Try.pinned (OpenSpec.upto diskReadsSpec)

/-- 'lazaretlaw03.DiskWrites', WHERE WHAT IT READS IS OF BULK AT MOST 1048576: true; the input reads as it did. -/
def diskWritesUptoRow : OpenClaim := { program := "ytboakipfhidkmaa", sum := "797bab5eebf76092bc72e85e4f2c221c73b5eff2a93cd5e1fcbc75532bddaf38", func := "lazaret/lazaretlaw03.DiskWrites", spec := "diskWrites", unfollowed := true, recurses := true, apart := false, narrowed := true }
def DiskWritesUptoSaid : Prop := diskWritesUptoRow.holds Try.pinned (OpenSpec.upto diskWritesSpec)

/-- 'lazaretlaw03.DiskCrashes', WHERE WHAT IT READS IS OF BULK AT MOST 1048576: true; the input reads as it did. -/
def diskCrashesUptoRow : OpenClaim := { program := "ytboakipfhidkmaa", sum := "797bab5eebf76092bc72e85e4f2c221c73b5eff2a93cd5e1fcbc75532bddaf38", func := "lazaret/lazaretlaw03.DiskCrashes", spec := "diskCrashes", unfollowed := true, recurses := true, apart := false, narrowed := true }
def DiskCrashesUptoSaid : Prop := diskCrashesUptoRow.holds Try.pinned (OpenSpec.upto diskCrashesSpec)

/-- 'lazaretlaw03.DiskFlushes', WHERE WHAT IT READS IS OF BULK AT MOST 1048576: true; the input reads as it did. -/
def diskFlushesUptoRow : OpenClaim := { program := "ytboakipfhidkmaa", sum := "797bab5eebf76092bc72e85e4f2c221c73b5eff2a93cd5e1fcbc75532bddaf38", func := "lazaret/lazaretlaw03.DiskFlushes", spec := "diskFlushes", unfollowed := true, recurses := true, apart := false, narrowed := true }
def DiskFlushesUptoSaid : Prop := diskFlushesUptoRow.holds Try.pinned (OpenSpec.upto diskFlushesSpec)

/-- 'lazaretlaw03.DiskSure', WHERE WHAT IT READS IS OF BULK AT MOST 1048576: true; the input reads as it did. -/
def diskSureUptoRow : OpenClaim := { program := "ytboakipfhidkmaa", sum := "797bab5eebf76092bc72e85e4f2c221c73b5eff2a93cd5e1fcbc75532bddaf38", func := "lazaret/lazaretlaw03.DiskSure", spec := "diskSure", unfollowed := true, recurses := true, apart := false, narrowed := true }
def DiskSureUptoSaid : Prop := diskSureUptoRow.holds Try.pinned (OpenSpec.upto diskSureSpec)

/-- 'lazaretlaw03.DiskHits', WHERE WHAT IT READS IS OF BULK AT MOST 1048576: true; the input reads as it did. -/
def diskHitsUptoRow : OpenClaim := { program := "ytboakipfhidkmaa", sum := "797bab5eebf76092bc72e85e4f2c221c73b5eff2a93cd5e1fcbc75532bddaf38", func := "lazaret/lazaretlaw03.DiskHits", spec := "diskHits", unfollowed := true, recurses := true, apart := false, narrowed := true }
def DiskHitsUptoSaid : Prop := diskHitsUptoRow.holds Try.pinned (OpenSpec.upto diskHitsSpec)

end Rows
end Go.Proofs.Ytboakipfhidkmaa
