/- The law PtrFits over numbers as a row gives them. -/
import Derived.Test.YtjkaenhopkigdaaDoorRowArr
import Derived.Test.YtjkaenhopkigdaaDoorPtrFitLaw
set_option linter.unusedVariables false
set_option linter.unusedSimpArgs false
namespace Go.Proofs.YtjkaenhopkigdaaDoor.RowPtrFitArr
open Go Go.RowKit Go.Proofs.YtjkaenhopkigdaaDoor.K Go.Proofs.YtjkaenhopkigdaaDoor.RowKit Go.Proofs.YtjkaenhopkigdaaDoor.RowBytes Go.Proofs.YtjkaenhopkigdaaDoor.RowArr Go.Proofs.YtjkaenhopkigdaaDoor.ShaStep Go.Proofs.YtjkaenhopkigdaaDoor.ShaRef Go.Proofs.YtjkaenhopkigdaaDoor.PtrKit

theorem byte_of (z : Int) (h : (Lit.int .u8 z).wf = true) : ∃ v : UInt8, z = (v.toNat : Int) := by
  obtain ⟨l, hl⟩ := bytes_of [z] (fun y hy => by rw [List.mem_singleton.1 hy]; exact h)
  match l, hl with
  | [v], hl => exact ⟨v, by simpa using hl⟩
theorem fit_ints (ys : List Int) (hy : ∀ z ∈ ys, (Lit.int .u8 z).wf = true) (h128 : ys.length = 128) (k y : Int) (hk : (Lit.int .u8 k).wf = true) (hyy : (Lit.int .u8 y).wf = true) (W : World) {tk tb : TypeId} (hK : Bk W 1 KC tk) (hB : Bk W 0 HB8 tb) :
    Calls Tryd.prog 5 #[.agg (ys.map (Value.int .u8 ·)).toArray, .int .u8 k, .int .u8 y] W fun e w' => e = .returned (.bool true) ∧ Below W.heap.size W w' := by
  obtain ⟨bl, rfl⟩ := bytes_of ys hy
  obtain ⟨k, rfl⟩ := byte_of k hk
  obtain ⟨y, rfl⟩ := byte_of y hyy
  rw [List.length_map] at h128
  have h := calls_below (PtrFitLaw.fit_law bl h128 k y W hK hB)
  have e2 : bl.map B = (bl.map fun v => (v.toNat : Int)).map (Value.int .u8 ·) := by rw [List.map_map]; rfl
  rw [e2] at h
  exact h

end Go.Proofs.YtjkaenhopkigdaaDoor.RowPtrFitArr
