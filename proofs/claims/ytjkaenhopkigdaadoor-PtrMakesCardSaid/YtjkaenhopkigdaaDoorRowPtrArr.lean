/- The law PtrMakes over numbers as a row gives them. -/
import Derived.Test.YtjkaenhopkigdaaDoorRowArr
import Derived.Test.YtjkaenhopkigdaaDoorPtrMake
set_option linter.unusedVariables false
set_option linter.unusedSimpArgs false
namespace Go.Proofs.YtjkaenhopkigdaaDoor.RowPtrArr
open Go Go.RowKit Go.Proofs.YtjkaenhopkigdaaDoor.K Go.Proofs.YtjkaenhopkigdaaDoor.RowKit Go.Proofs.YtjkaenhopkigdaaDoor.RowBytes Go.Proofs.YtjkaenhopkigdaaDoor.RowArr Go.Proofs.YtjkaenhopkigdaaDoor.ShaStep Go.Proofs.YtjkaenhopkigdaaDoor.ShaRef

theorem makes_ints (ys : List Int) (hy : ∀ z ∈ ys, (Lit.int .u8 z).wf = true) (h128 : ys.length = 128) (a c : Int) (ha : (Lit.int .i64 a).wf = true) (hc : (Lit.int .i64 c).wf = true) (W : World) {tk tb : TypeId} (hK : Bk W 1 KC tk) (hB : Bk W 0 HB8 tb) :
    Calls Tryd.prog 3 #[.agg (ys.map (Value.int .u8 ·)).toArray, .int .i64 a, .int .i64 c] W fun e w' => e = .returned (.bool true) ∧ Below W.heap.size W w' := by
  obtain ⟨bl, rfl⟩ := bytes_of ys hy
  rw [List.length_map] at h128
  have h := calls_below (PtrMake.makes_law bl h128 a c W ha hc hK hB)
  have e2 : bl.map B = (bl.map fun v => (v.toNat : Int)).map (Value.int .u8 ·) := by rw [List.map_map]; rfl
  rw [e2] at h
  exact h

end Go.Proofs.YtjkaenhopkigdaaDoor.RowPtrArr
