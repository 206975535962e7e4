/- The law PtrBack over what a row gives. -/
import Derived.Test.YtjkaenhopkigdaaDoorRowArr
import Derived.Test.YtjkaenhopkigdaaDoorPtrBackLaw
set_option linter.unusedVariables false
set_option linter.unusedSimpArgs false
namespace Go.Proofs.YtjkaenhopkigdaaDoor.RowPtrBackArr
open Go Go.RowKit Go.Proofs.YtjkaenhopkigdaaDoor.K Go.Proofs.YtjkaenhopkigdaaDoor.RowKit Go.Proofs.YtjkaenhopkigdaaDoor.RowBytes Go.Proofs.YtjkaenhopkigdaaDoor.RowArr Go.Proofs.YtjkaenhopkigdaaDoor.ShaStep Go.Proofs.YtjkaenhopkigdaaDoor.ShaRef Go.Proofs.YtjkaenhopkigdaaDoor.PtrKit Go.Proofs.YtjkaenhopkigdaaDoor.PtrNode

theorem back_ints (A0 : Option Addr) (n c : Nat) (ls : List V3) (hl : ls.length = n) (hok : ∀ v ∈ ls, v.ok) (hc : n ≤ c) (hcm : c ≤ 9223372036854775807) (hn : n ≤ 140737488351232) (a0 : Option Addr) (m cm : Nat) (l : List UInt8) (hll : l.length = m) (hm : m ≤ 140737488351232) (p : Int) (W : World) (hrd : RdV W A0 ls) (hrl : Rd W a0 l) {tk tb : TypeId} (hK : Bk W 1 KC tk) (hB : Bk W 0 HB8 tb) :
    Calls Tryd.prog 8 #[.slice A0 n c, .slice a0 m cm, .int .i64 p] W fun e w' => e = .returned (.bool true) ∧ Below W.heap.size W w' :=
  calls_below (PtrBackLaw.back_law A0 n c ls a0 m cm l p W hl hrd hok hc hcm hn hll hrl hm hK hB)

end Go.Proofs.YtjkaenhopkigdaaDoor.RowPtrBackArr
