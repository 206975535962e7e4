/- The law PtrNodes over numbers as a row gives them. -/
import Derived.Test.YtjkaenhopkigdaaDoorRowArr
import Derived.Test.YtjkaenhopkigdaaDoorPtrNodeLaw
set_option linter.unusedVariables false
set_option linter.unusedSimpArgs false
namespace Go.Proofs.YtjkaenhopkigdaaDoor.RowPtrNodeArr
open Go Go.RowKit Go.Proofs.YtjkaenhopkigdaaDoor.K Go.Proofs.YtjkaenhopkigdaaDoor.RowKit Go.Proofs.YtjkaenhopkigdaaDoor.RowBytes Go.Proofs.YtjkaenhopkigdaaDoor.RowArr Go.Proofs.YtjkaenhopkigdaaDoor.ShaStep Go.Proofs.YtjkaenhopkigdaaDoor.ShaRef Go.Proofs.YtjkaenhopkigdaaDoor.PtrKit Go.Proofs.YtjkaenhopkigdaaDoor.PtrNode

theorem nodes_ints (A0 : Option Addr) (n c : Nat) (ls : List V3) (hl : ls.length = n) (hok : ∀ v ∈ ls, v.ok) (hc : n ≤ c) (hcm : c ≤ 9223372036854775807) (hn : n ≤ 140737488351232) (ys : List Int) (hy : ∀ z ∈ ys, (Lit.int .u8 z).wf = true) (h128 : ys.length = 128) (W : World) (hrd : RdV W A0 ls) {tk tb : TypeId} (hK : Bk W 1 KC tk) (hB : Bk W 0 HB8 tb) :
    Calls Tryd.prog 7 #[.slice A0 n c, .agg (ys.map (Value.int .u8 ·)).toArray] W fun e w' => e = .returned (.bool true) ∧ Below W.heap.size W w' := by
  obtain ⟨bl, rfl⟩ := bytes_of ys hy
  rw [List.length_map] at h128
  have h := calls_below (PtrNodeLaw.nodes_law A0 n c ls bl W hl hrd hok hc hcm hn h128 hK hB)
  have e2 : bl.map B = (bl.map fun v => (v.toNat : Int)).map (Value.int .u8 ·) := by rw [List.map_map]; rfl
  rw [e2] at h
  exact h

end Go.Proofs.YtjkaenhopkigdaaDoor.RowPtrNodeArr
