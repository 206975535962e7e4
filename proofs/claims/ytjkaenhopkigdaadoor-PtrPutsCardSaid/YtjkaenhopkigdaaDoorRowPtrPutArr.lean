/- The law PtrPuts over numbers as a row gives them. -/
import Derived.Test.YtjkaenhopkigdaaDoorRowArr
import Derived.Test.YtjkaenhopkigdaaDoorPtrPutLaw
set_option linter.unusedVariables false
set_option linter.unusedSimpArgs false
namespace Go.Proofs.YtjkaenhopkigdaaDoor.RowPtrPutArr
open Go Go.RowKit Go.Proofs.YtjkaenhopkigdaaDoor.K Go.Proofs.YtjkaenhopkigdaaDoor.RowKit Go.Proofs.YtjkaenhopkigdaaDoor.RowBytes Go.Proofs.YtjkaenhopkigdaaDoor.RowArr Go.Proofs.YtjkaenhopkigdaaDoor.ShaStep Go.Proofs.YtjkaenhopkigdaaDoor.ShaRef Go.Proofs.YtjkaenhopkigdaaDoor.PtrKit

theorem puts_ints (a0 : Option Addr) (n c : Nat) (l : List UInt8) (hl : l.length = n) (p : Int) (a b : Int) (s : List UInt8) (hs : s.length = 32) (ha : (Lit.int .i64 a).wf = true) (hb : (Lit.int .i64 b).wf = true) (W : World) (hrd : Rd W a0 l) (hn : n ≤ 140737488351232) {tk tb : TypeId} (hK : Bk W 1 KC tk) (hB : Bk W 0 HB8 tb) :
    Calls Tryd.prog 6 #[.slice a0 n c, .int .i64 p, .agg (PC a b s).toArray] W fun e w' => e = .returned (.bool true) ∧ Below W.heap.size W w' :=
  calls_below (PtrPutLaw.puts_law a0 n c p a b s l W hl hrd hn hs ha hb hK hB)

end Go.Proofs.YtjkaenhopkigdaaDoor.RowPtrPutArr
