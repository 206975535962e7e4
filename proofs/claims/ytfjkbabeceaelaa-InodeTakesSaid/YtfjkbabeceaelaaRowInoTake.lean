/- The law InodeTakes over numbers as a row gives them. -/
import Derived.Test.YtfjkbabeceaelaaRowArr
import Derived.Test.YtfjkbabeceaelaaInoTakeLaw
set_option linter.unusedVariables false
set_option linter.unusedSimpArgs false
namespace Go.Proofs.Ytfjkbabeceaelaa.RowInoTake
open Go Go.RowKit Go.Proofs.Ytfjkbabeceaelaa.K Go.Proofs.Ytfjkbabeceaelaa.RowKit Go.Proofs.Ytfjkbabeceaelaa.RowBytes Go.Proofs.Ytfjkbabeceaelaa.RowArr Go.Proofs.Ytfjkbabeceaelaa.ShaStep

theorem takes_ints (ys : List Int) (hy : ∀ z ∈ ys, (Lit.int .u8 z).wf = true) (h64 : ys.length = 64) (n : Int) (hn : (Lit.int .i64 n).wf = true) (W : World) :
    Calls Try.prog 3 #[.agg (ys.map (Value.int .u8 ·)).toArray, .int .i64 n] W fun e w' => e = .returned (.bool true) ∧ Fr0 W w' := by
  obtain ⟨bl, rfl⟩ := bytes_of ys hy
  rw [List.length_map] at h64
  have h := InoTakeLaw.takes_all bl h64 n W hn
  have e2 : bl.map B = (bl.map fun v => (v.toNat : Int)).map (Value.int .u8 ·) := by rw [List.map_map]; rfl
  rw [e2] at h
  exact h

end Go.Proofs.Ytfjkbabeceaelaa.RowInoTake
