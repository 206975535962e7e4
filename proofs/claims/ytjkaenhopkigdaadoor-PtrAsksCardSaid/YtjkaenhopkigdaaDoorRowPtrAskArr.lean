/- The law PtrAsks over numbers as a row gives them. -/
import Derived.Test.YtjkaenhopkigdaaDoorRowArr
import Derived.Test.YtjkaenhopkigdaaDoorPtrAskLaw
set_option linter.unusedVariables false
set_option linter.unusedSimpArgs false
namespace Go.Proofs.YtjkaenhopkigdaaDoor.RowPtrAskArr
open Go Go.RowKit Go.Proofs.YtjkaenhopkigdaaDoor.K Go.Proofs.YtjkaenhopkigdaaDoor.RowKit Go.Proofs.YtjkaenhopkigdaaDoor.RowBytes Go.Proofs.YtjkaenhopkigdaaDoor.RowArr Go.Proofs.YtjkaenhopkigdaaDoor.ShaStep Go.Proofs.YtjkaenhopkigdaaDoor.ShaRef Go.Proofs.YtjkaenhopkigdaaDoor.PtrKit

theorem asks_ints (a b : Int) (s : List UInt8) (hs : s.length = 32) (ha : (Lit.int .i64 a).wf = true) (hb : (Lit.int .i64 b).wf = true) (ys : List Int) (hy : ∀ z ∈ ys, (Lit.int .u8 z).wf = true) (h128 : ys.length = 128) (W : World) {tk tb : TypeId} (hK : Bk W 1 KC tk) (hB : Bk W 0 HB8 tb) :
    Calls Tryd.prog 4 #[.agg (PC a b s).toArray, .agg (ys.map (Value.int .u8 ·)).toArray] W fun e w' => e = .returned (.bool true) ∧ Below W.heap.size W w' := by
  obtain ⟨bl, rfl⟩ := bytes_of ys hy
  rw [List.length_map] at h128
  have h := calls_below (PtrAskLaw.asks_law a b s bl W hs h128 ha hb hK hB)
  have e2 : bl.map B = (bl.map fun v => (v.toNat : Int)).map (Value.int .u8 ·) := by rw [List.map_map]; rfl
  rw [e2] at h
  exact h

end Go.Proofs.YtjkaenhopkigdaaDoor.RowPtrAskArr
