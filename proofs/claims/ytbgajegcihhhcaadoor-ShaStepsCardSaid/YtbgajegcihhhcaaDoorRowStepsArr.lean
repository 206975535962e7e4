/- A step over numbers as a row gives them. -/
import Derived.Test.YtbgajegcihhhcaaDoorRowArr
import Derived.Test.YtbgajegcihhhcaaDoorShaLaws
set_option linter.unusedVariables false
set_option linter.unusedSimpArgs false
namespace Go.Proofs.YtbgajegcihhhcaaDoor.RowStepsArr
open Go Go.RowKit Go.Proofs.YtbgajegcihhhcaaDoor.K Go.Proofs.YtbgajegcihhhcaaDoor.RowKit Go.Proofs.YtbgajegcihhhcaaDoor.RowBytes Go.Proofs.YtbgajegcihhhcaaDoor.RowArr Go.Proofs.YtbgajegcihhhcaaDoor.ShaRot Go.Proofs.YtbgajegcihhhcaaDoor.ShaSpread Go.Proofs.YtbgajegcihhhcaaDoor.ShaStep Go.Proofs.YtbgajegcihhhcaaDoor.ShaRef

theorem steps_ints (zs ys : List Int) (hz : ∀ z ∈ zs, (Lit.int .u32 z).wf = true) (hy : ∀ z ∈ ys, (Lit.int .u8 z).wf = true) (h8 : zs.length = 8) (h64 : ys.length = 64) (W : World) {tk tb : TypeId} (hK : Bk W 0 KC tk) (hB : Bk W 1 HB8 tb) :
    Calls Tryd.prog 4 #[.agg (zs.map (Value.int .u32 ·)).toArray, .agg (ys.map (Value.int .u8 ·)).toArray] W fun e w' => e = .returned (.bool true) ∧ Below W.heap.size W w' := by
  obtain ⟨ns, rfl, hns⟩ := nats_of zs hz
  obtain ⟨bl, rfl⟩ := bytes_of ys hy
  rw [List.length_map] at h8 h64
  obtain ⟨s, hs, rfl⟩ : ∃ s : S8, s.ok ∧ ns = s.list := by
    match ns, h8, hns with
    | [x0, x1, x2, x3, x4, x5, x6, x7], _, hns => exact ⟨⟨x0, x1, x2, x3, x4, x5, x6, x7⟩, ⟨hns _ (by simp), hns _ (by simp), hns _ (by simp), hns _ (by simp), hns _ (by simp), hns _ (by simp), hns _ (by simp), hns _ (by simp)⟩, rfl⟩
  have h := calls_below (ShaLaws.steps_law s hs bl W h64 hK hB)
  have e1 : s.list.map U = (s.list.map fun n : Nat => (n : Int)).map (Value.int .u32 ·) := by rw [List.map_map]; rfl
  have e2 : bl.map B = (bl.map fun v => (v.toNat : Int)).map (Value.int .u8 ·) := by rw [List.map_map]; rfl
  rw [e1, e2] at h
  exact h

end Go.Proofs.YtbgajegcihhhcaaDoor.RowStepsArr
