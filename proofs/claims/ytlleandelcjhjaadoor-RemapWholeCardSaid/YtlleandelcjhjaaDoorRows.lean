/-
  NARROWER THAN 'FOR EVERY INPUT', by the rows' own cells (each row's printed sentence says how): RemapPuts: laid · RemapReads: laid · RemapWrites: laid · RemapTakes: laid · RemapBack: laid · RemapWhole: laid.
  DERIVED. THE GIVEN ROWS OF THIS SEAT. 6 by the template 'for every input the law returns true; each argument reads behind the call as it read before'; 0 by the template 'total and deterministic' (their statements: YtlleandelcjhjaaDoorTotals.lean).
  GIVEN WITH THE SEED: the statements are not yours to turn. If you find one false, say at which input.
  Laid BY PROGRAM, IN A SANDBOX (cutbox-rows.mjs): the forced cells as the released guide's own fill.sh prints them over the translation 21355af765f72e69… (all of the seat's roots in one cut). By AI agents, Wed Nov 11 2026. No macro, syntax, notation, axiom, sorry.
-/
import Derived.Test.YtlleandelcjhjaaDoorChecked
import GoSem.Claim
import GoSem.ClaimJoined
import GoSem.ClaimMapViews
import Derived.JoinedTies
import Derived.KernelRfl
namespace Go.Proofs.YtlleandelcjhjaaDoor
/- THE CELL 'sum', in the pinned program and in every row, IS THE sha256 OF THE DUMP (.gsa) THAT YtlleandelcjhjaaDoorProg.lean LOADS. Nothing in Lean hashes anything: it is a label: what it is worth is what the hold of that sum in a sandbox is worth. -/
noncomputable def Tryd.pinned : Pinned := { name := "ytlleandelcjhjaadoor", sum := "21355af765f72e695a4262747ae2f5e7af06aa0b4786727fb5f158611553f157", checked := Tryd.checked }
namespace Rows
def none {H : Type} : Left H := { results := [], args := [] }

/- WHAT THE LISTED PACKAGE-LEVEL VARIABLES READ AS WHEN THE CALL BEGINS. Each datum BY PROGRAM (the guide's laid-datum.mjs) off the statement by which the dump's own 'gosem.cut.vars' lays the variable. In a bare row this is a premise. The card (YtlleandelcjhjaaDoorCards.lean) ties it to the program's text. -/
def laid_lazaret_sha_begins {H : Type} : DataW H := .agg [.lit (.int .u32 1779033703), .lit (.int .u32 3144134277), .lit (.int .u32 1013904242), .lit (.int .u32 2773480762), .lit (.int .u32 1359893119), .lit (.int .u32 2600822924), .lit (.int .u32 528734635), .lit (.int .u32 1541459225)]
def laid_lazaret_sha_cubes {H : Type} : DataW H := .agg [.lit (.int .u32 1116352408), .lit (.int .u32 1899447441), .lit (.int .u32 3049323471), .lit (.int .u32 3921009573), .lit (.int .u32 961987163), .lit (.int .u32 1508970993), .lit (.int .u32 2453635748), .lit (.int .u32 2870763221), .lit (.int .u32 3624381080), .lit (.int .u32 310598401), .lit (.int .u32 607225278), .lit (.int .u32 1426881987), .lit (.int .u32 1925078388), .lit (.int .u32 2162078206), .lit (.int .u32 2614888103), .lit (.int .u32 3248222580), .lit (.int .u32 3835390401), .lit (.int .u32 4022224774), .lit (.int .u32 264347078), .lit (.int .u32 604807628), .lit (.int .u32 770255983), .lit (.int .u32 1249150122), .lit (.int .u32 1555081692), .lit (.int .u32 1996064986), .lit (.int .u32 2554220882), .lit (.int .u32 2821834349), .lit (.int .u32 2952996808), .lit (.int .u32 3210313671), .lit (.int .u32 3336571891), .lit (.int .u32 3584528711), .lit (.int .u32 113926993), .lit (.int .u32 338241895), .lit (.int .u32 666307205), .lit (.int .u32 773529912), .lit (.int .u32 1294757372), .lit (.int .u32 1396182291), .lit (.int .u32 1695183700), .lit (.int .u32 1986661051), .lit (.int .u32 2177026350), .lit (.int .u32 2456956037), .lit (.int .u32 2730485921), .lit (.int .u32 2820302411), .lit (.int .u32 3259730800), .lit (.int .u32 3345764771), .lit (.int .u32 3516065817), .lit (.int .u32 3600352804), .lit (.int .u32 4094571909), .lit (.int .u32 275423344), .lit (.int .u32 430227734), .lit (.int .u32 506948616), .lit (.int .u32 659060556), .lit (.int .u32 883997877), .lit (.int .u32 958139571), .lit (.int .u32 1322822218), .lit (.int .u32 1537002063), .lit (.int .u32 1747873779), .lit (.int .u32 1955562222), .lit (.int .u32 2024104815), .lit (.int .u32 2227730452), .lit (.int .u32 2361852424), .lit (.int .u32 2428436474), .lit (.int .u32 2756734187), .lit (.int .u32 3204031479), .lit (.int .u32 3329325298)]

/-- 'lazaretlaw04.RemapPuts': WHATEVER THE INPUT: true; the input reads as it did. -/
def remapPutsSpec : ChangeSpec := { name := "remapPuts", fn := fun _ => fun
  | [d1, d2, d3] => { results := [.lit (.bool true)], args := [d1, d2, d3] }
  | _ => none }
def remapPutsRow : OpenClaim := { program := "ytlleandelcjhjaadoor", sum := "21355af765f72e695a4262747ae2f5e7af06aa0b4786727fb5f158611553f157", func := "lazaret/lazaretlaw04.RemapPuts", spec := "remapPuts", unfollowed := true, recurses := true, named := ["lazaret/sha.begins", "lazaret/sha.cubes"], apart := false, laid := [("lazaret/sha.begins", laid_lazaret_sha_begins), ("lazaret/sha.cubes", laid_lazaret_sha_cubes)] }
def RemapPutsSaid : Prop := remapPutsRow.holds Tryd.pinned (OpenSpec.ofChange remapPutsSpec)

/-- ITS FALSE NEIGHBOUR: 'it returns false'. Refute it at one input. -/
def remapPutsWrong : ChangeSpec := { name := "remapPuts", fn := fun _ => fun
  | [d1, d2, d3] => { results := [.lit (.bool false)], args := [d1, d2, d3] }
  | _ => none }
def RemapPutsWrongFalsely : Prop := remapPutsRow.holds Tryd.pinned (OpenSpec.ofChange remapPutsWrong)

/-- 'lazaretlaw04.RemapReads': WHATEVER THE INPUT: true; the input reads as it did. -/
def remapReadsSpec : ChangeSpec := { name := "remapReads", fn := fun _ => fun
  | [d1, d2, d3] => { results := [.lit (.bool true)], args := [d1, d2, d3] }
  | _ => none }
def remapReadsRow : OpenClaim := { program := "ytlleandelcjhjaadoor", sum := "21355af765f72e695a4262747ae2f5e7af06aa0b4786727fb5f158611553f157", func := "lazaret/lazaretlaw04.RemapReads", spec := "remapReads", unfollowed := true, recurses := true, named := ["lazaret/sha.begins", "lazaret/sha.cubes"], apart := false, laid := [("lazaret/sha.begins", laid_lazaret_sha_begins), ("lazaret/sha.cubes", laid_lazaret_sha_cubes)] }
def RemapReadsSaid : Prop := remapReadsRow.holds Tryd.pinned (OpenSpec.ofChange remapReadsSpec)

/-- ITS FALSE NEIGHBOUR: 'it returns false'. Refute it at one input. -/
def remapReadsWrong : ChangeSpec := { name := "remapReads", fn := fun _ => fun
  | [d1, d2, d3] => { results := [.lit (.bool false)], args := [d1, d2, d3] }
  | _ => none }
def RemapReadsWrongFalsely : Prop := remapReadsRow.holds Tryd.pinned (OpenSpec.ofChange remapReadsWrong)

/-- 'lazaretlaw04.RemapWrites': WHATEVER THE INPUT: true; the input reads as it did. -/
def remapWritesSpec : ChangeSpec := { name := "remapWrites", fn := fun _ => fun
  | [d1, d2, d3] => { results := [.lit (.bool true)], args := [d1, d2, d3] }
  | _ => none }
def remapWritesRow : OpenClaim := { program := "ytlleandelcjhjaadoor", sum := "21355af765f72e695a4262747ae2f5e7af06aa0b4786727fb5f158611553f157", func := "lazaret/lazaretlaw04.RemapWrites", spec := "remapWrites", unfollowed := true, recurses := true, named := ["lazaret/sha.begins", "lazaret/sha.cubes"], apart := false, laid := [("lazaret/sha.begins", laid_lazaret_sha_begins), ("lazaret/sha.cubes", laid_lazaret_sha_cubes)] }
def RemapWritesSaid : Prop := remapWritesRow.holds Tryd.pinned (OpenSpec.ofChange remapWritesSpec)

/-- ITS FALSE NEIGHBOUR: 'it returns false'. Refute it at one input. -/
def remapWritesWrong : ChangeSpec := { name := "remapWrites", fn := fun _ => fun
  | [d1, d2, d3] => { results := [.lit (.bool false)], args := [d1, d2, d3] }
  | _ => none }
def RemapWritesWrongFalsely : Prop := remapWritesRow.holds Tryd.pinned (OpenSpec.ofChange remapWritesWrong)

/-- 'lazaretlaw04.RemapTakes': WHATEVER THE INPUT: true; the input reads as it did. -/
def remapTakesSpec : ChangeSpec := { name := "remapTakes", fn := fun _ => fun
  | [d1, d2] => { results := [.lit (.bool true)], args := [d1, d2] }
  | _ => none }
def remapTakesRow : OpenClaim := { program := "ytlleandelcjhjaadoor", sum := "21355af765f72e695a4262747ae2f5e7af06aa0b4786727fb5f158611553f157", func := "lazaret/lazaretlaw04.RemapTakes", spec := "remapTakes", unfollowed := true, recurses := true, named := ["lazaret/sha.begins", "lazaret/sha.cubes"], apart := false, laid := [("lazaret/sha.begins", laid_lazaret_sha_begins), ("lazaret/sha.cubes", laid_lazaret_sha_cubes)] }
def RemapTakesSaid : Prop := remapTakesRow.holds Tryd.pinned (OpenSpec.ofChange remapTakesSpec)

/-- ITS FALSE NEIGHBOUR: 'it returns false'. Refute it at one input. -/
def remapTakesWrong : ChangeSpec := { name := "remapTakes", fn := fun _ => fun
  | [d1, d2] => { results := [.lit (.bool false)], args := [d1, d2] }
  | _ => none }
def RemapTakesWrongFalsely : Prop := remapTakesRow.holds Tryd.pinned (OpenSpec.ofChange remapTakesWrong)

/-- 'lazaretlaw04.RemapBack': WHATEVER THE INPUT: true; the input reads as it did. -/
def remapBackSpec : ChangeSpec := { name := "remapBack", fn := fun _ => fun
  | [d1, d2, d3] => { results := [.lit (.bool true)], args := [d1, d2, d3] }
  | _ => none }
def remapBackRow : OpenClaim := { program := "ytlleandelcjhjaadoor", sum := "21355af765f72e695a4262747ae2f5e7af06aa0b4786727fb5f158611553f157", func := "lazaret/lazaretlaw04.RemapBack", spec := "remapBack", unfollowed := true, recurses := true, named := ["lazaret/sha.begins", "lazaret/sha.cubes"], apart := false, laid := [("lazaret/sha.begins", laid_lazaret_sha_begins), ("lazaret/sha.cubes", laid_lazaret_sha_cubes)] }
def RemapBackSaid : Prop := remapBackRow.holds Tryd.pinned (OpenSpec.ofChange remapBackSpec)

/-- ITS FALSE NEIGHBOUR: 'it returns false'. Refute it at one input. -/
def remapBackWrong : ChangeSpec := { name := "remapBack", fn := fun _ => fun
  | [d1, d2, d3] => { results := [.lit (.bool false)], args := [d1, d2, d3] }
  | _ => none }
def RemapBackWrongFalsely : Prop := remapBackRow.holds Tryd.pinned (OpenSpec.ofChange remapBackWrong)

/-- 'lazaretlaw04.RemapWhole': WHATEVER THE INPUT: true; the input reads as it did. -/
def remapWholeSpec : ChangeSpec := { name := "remapWhole", fn := fun _ => fun
  | [d1, d2, d3] => { results := [.lit (.bool true)], args := [d1, d2, d3] }
  | _ => none }
def remapWholeRow : OpenClaim := { program := "ytlleandelcjhjaadoor", sum := "21355af765f72e695a4262747ae2f5e7af06aa0b4786727fb5f158611553f157", func := "lazaret/lazaretlaw04.RemapWhole", spec := "remapWhole", unfollowed := true, recurses := true, named := ["lazaret/sha.begins", "lazaret/sha.cubes"], apart := false, laid := [("lazaret/sha.begins", laid_lazaret_sha_begins), ("lazaret/sha.cubes", laid_lazaret_sha_cubes)] }
def RemapWholeSaid : Prop := remapWholeRow.holds Tryd.pinned (OpenSpec.ofChange remapWholeSpec)

/-- ITS FALSE NEIGHBOUR: 'it returns false'. Refute it at one input. -/
def remapWholeWrong : ChangeSpec := { name := "remapWhole", fn := fun _ => fun
  | [d1, d2, d3] => { results := [.lit (.bool false)], args := [d1, d2, d3] }
  | _ => none }
def RemapWholeWrongFalsely : Prop := remapWholeRow.holds Tryd.pinned (OpenSpec.ofChange remapWholeWrong)

/- THE SECOND FORM. 'bulk': how many values and letters a reading holds, each counted each time it is reached (what is shared counts as often as it is met; a slice's spare places count too). A statement '..UptoSaid' is the law's where the arguments, and the package variables that the reading takes, are together of bulk at most 1048576: NARROWER than '..Said'. Prove '..Said' where nothing that the law and all that it calls make is longer than what came in: it says more and counts as full. Else prove '..UptoSaid'. A law counts once. -/
mutual
def uptoBulk {H : Type} : DataW H → Nat
  | .lit (.string bytes) => bytes.length + 1
  | .lit _ => 1
  | .nil => 1
  | .ptr d => uptoBulk d + 1
  | .slice elems spare => uptoBulkAll elems + uptoBulkAll spare + 1
  | .agg parts => uptoBulkAll parts + 1
  | .iface _ d => uptoBulk d + 1
  | .map entries => uptoBulkEntries entries + 1
  | .held _ => 1
def uptoBulkAll {H : Type} : List (DataW H) → Nat
  | [] => 0
  | d :: r => uptoBulk d + uptoBulkAll r
def uptoBulkEntries {H : Type} : List (Lit × DataW H) → Nat
  | [] => 0
  | x :: r => uptoBulkEntry x + uptoBulkEntries r
def uptoBulkEntry {H : Type} : Lit × DataW H → Nat
  | (.string bytes, d) => bytes.length + uptoBulk d + 1
  | (_, d) => uptoBulk d + 1
 end
def uptoSmall : (H : Type) → List (DataW H) → Bool := fun _ ds => decide (uptoBulkAll ds ≤ 1048576)
def OpenSpec.upto (s : _root_.Go.ChangeSpec) : _root_.Go.OpenSpec := { _root_.Go.OpenSpec.ofChange s with cond := some uptoSmall }

/-- 'lazaretlaw04.RemapPuts', WHERE WHAT IT READS IS OF BULK AT MOST 1048576: true; the input reads as it did. -/
def remapPutsUptoRow : OpenClaim := { program := "ytlleandelcjhjaadoor", sum := "21355af765f72e695a4262747ae2f5e7af06aa0b4786727fb5f158611553f157", func := "lazaret/lazaretlaw04.RemapPuts", spec := "remapPuts", unfollowed := true, recurses := true, named := ["lazaret/sha.begins", "lazaret/sha.cubes"], apart := false, laid := [("lazaret/sha.begins", laid_lazaret_sha_begins), ("lazaret/sha.cubes", laid_lazaret_sha_cubes)], narrowed := true }
def RemapPutsUptoSaid : Prop := remapPutsUptoRow.holds Tryd.pinned (OpenSpec.upto remapPutsSpec)

/-- 'lazaretlaw04.RemapReads', WHERE WHAT IT READS IS OF BULK AT MOST 1048576: true; the input reads as it did. -/
def remapReadsUptoRow : OpenClaim := { program := "ytlleandelcjhjaadoor", sum := "21355af765f72e695a4262747ae2f5e7af06aa0b4786727fb5f158611553f157", func := "lazaret/lazaretlaw04.RemapReads", spec := "remapReads", unfollowed := true, recurses := true, named := ["lazaret/sha.begins", "lazaret/sha.cubes"], apart := false, laid := [("lazaret/sha.begins", laid_lazaret_sha_begins), ("lazaret/sha.cubes", laid_lazaret_sha_cubes)], narrowed := true }
def RemapReadsUptoSaid : Prop := remapReadsUptoRow.holds Tryd.pinned (OpenSpec.upto remapReadsSpec)

/-- 'lazaretlaw04.RemapWrites', WHERE WHAT IT READS IS OF BULK AT MOST 1048576: true; the input reads as it did. -/
def remapWritesUptoRow : OpenClaim := { program := "ytlleandelcjhjaadoor", sum := "21355af765f72e695a4262747ae2f5e7af06aa0b4786727fb5f158611553f157", func := "lazaret/lazaretlaw04.RemapWrites", spec := "remapWrites", unfollowed := true, recurses := true, named := ["lazaret/sha.begins", "lazaret/sha.cubes"], apart := false, laid := [("lazaret/sha.begins", laid_lazaret_sha_begins), ("lazaret/sha.cubes", laid_lazaret_sha_cubes)], narrowed := true }
def RemapWritesUptoSaid : Prop := remapWritesUptoRow.holds Tryd.pinned (OpenSpec.upto remapWritesSpec)

/-- 'lazaretlaw04.RemapTakes', WHERE WHAT IT READS IS OF BULK AT MOST 1048576: true; the input reads as it did. -/
def remapTakesUptoRow : OpenClaim := { program := "ytlleandelcjhjaadoor", sum := "21355af765f72e695a4262747ae2f5e7af06aa0b4786727fb5f158611553f157", func := "lazaret/lazaretlaw04.RemapTakes", spec := "remapTakes", unfollowed := true, recurses := true, named := ["lazaret/sha.begins", "lazaret/sha.cubes"], apart := false, laid := [("lazaret/sha.begins", laid_lazaret_sha_begins), ("lazaret/sha.cubes", laid_lazaret_sha_cubes)], narrowed := true }
def RemapTakesUptoSaid : Prop := remapTakesUptoRow.holds Tryd.pinned (OpenSpec.upto remapTakesSpec)

/-- 'lazaretlaw04.RemapBack', WHERE WHAT IT READS IS OF BULK AT MOST 1048576: true; the input reads as it did. -/
def remapBackUptoRow : OpenClaim := { program := "ytlleandelcjhjaadoor", sum := "21355af765f72e695a4262747ae2f5e7af06aa0b4786727fb5f158611553f157", func := "lazaret/lazaretlaw04.RemapBack", spec := "remapBack", unfollowed := true, recurses := true, named := ["lazaret/sha.begins", "lazaret/sha.cubes"], apart := false, laid := [("lazaret/sha.begins", laid_lazaret_sha_begins), ("lazaret/sha.cubes", laid_lazaret_sha_cubes)], narrowed := true }
def RemapBackUptoSaid : Prop := remapBackUptoRow.holds Tryd.pinned (OpenSpec.upto remapBackSpec)

/-- 'lazaretlaw04.RemapWhole', WHERE WHAT IT READS IS OF BULK AT MOST 1048576: true; the input reads as it did. -/
def remapWholeUptoRow : OpenClaim := { program := "ytlleandelcjhjaadoor", sum := "21355af765f72e695a4262747ae2f5e7af06aa0b4786727fb5f158611553f157", func := "lazaret/lazaretlaw04.RemapWhole", spec := "remapWhole", unfollowed := true, recurses := true, named := ["lazaret/sha.begins", "lazaret/sha.cubes"], apart := false, laid := [("lazaret/sha.begins", laid_lazaret_sha_begins), ("lazaret/sha.cubes", laid_lazaret_sha_cubes)], narrowed := true }
def RemapWholeUptoSaid : Prop := remapWholeUptoRow.holds Tryd.pinned (OpenSpec.upto remapWholeSpec)

end Rows
end Go.Proofs.YtlleandelcjhjaaDoor
