/- DiskFlushes: any disk, armed in any way, is flushed as the document says. No condition. The row of the statement, over the walk of DiskFlushesLaw. -/
import Derived.Test.YtboakipfhidkmaaRowKit
import Derived.Test.YtboakipfhidkmaaRowBytes
import Derived.Test.YtboakipfhidkmaaRowDisk
import Derived.Test.YtboakipfhidkmaaDiskFlushesLaw
import Derived.WalkKit
import Derived.ShutString
set_option linter.unusedVariables false
set_option linter.unusedSimpArgs false
namespace Go.Proofs.Ytboakipfhidkmaa.rowDiskFlushes
open Go.ChangeShapes Go.WideShapes Go.ChangeAt Go.RowKit Go.Proofs.Ytboakipfhidkmaa.RowKit Go.Proofs.Ytboakipfhidkmaa.RowBytes Go.Proofs.Ytboakipfhidkmaa.K Go.Proofs.Ytboakipfhidkmaa.DiskKit
set_option maxRecDepth 100000 in
theorem lifted (os : Os) (started : os.Started) (H : Type) (enc : TypeId × Value → H) :
    ReturnsInHanded {} Try.checked os 6 .any (Rows.diskFlushesSpec.pre6 enc Try.prog Try.f6 Rows.diskFlushesRow.domain false) (Rows.diskFlushesSpec.post enc Try.prog Try.f6 false true false false) := by
  refine returnsInHanded_of_change_sized (C := Try.checked) own started (by kernel_rfl) Try.func6
    (ChangeSpec.witness6 (enc := enc) (C := Try.checked) false ⟨#[], #[.agg #[.slice none 0 0, .slice none 0 0, .int .i64 0, .bool false], .int .i64 0], []⟩ 8 (by kernel_rfl) (by kernel_rfl) (by kernel_rfl) (by kernel_rfl)) ?_
  intro W base args ds gs before hval0 hW hcnd hsz0 _
  have hsz : (DataW.weightsEach Try.prog (Try.f6.params.toList ++ Rows.diskFlushesSpec.plain.varTypes Try.prog) (ds ++ gs)).all (· ≤ reachBytes) = true := hsz0
  have hval : ∀ (j : Nat) t v, Try.f6.params[j]? = some t → args[j]? = some v → Value.okWide Try.prog W .any base t v := hval0
  have hW' := hW
  obtain ⟨p, q, hA0, hV, rfl, hfz, hnd⟩ := hW
  have hA : DataW.TrodAll enc Try.prog W 0 (fun _ => true) true Try.f6.params.toList args.toList ds p := hA0
  have hT : ∀ t ∈ Try.f6.params.toList, t < Try.prog.types.size := by
    rw [Try.params6]
    exact of_decide_eq_true (by kernel_rfl)
  rw [Try.params6] at hA hval hsz
  obtain ⟨v0, vs0, d0, ds0, p0, q0, hargs, rfl, rfl, h0, r0⟩ := trodAll_cons hA
  obtain ⟨v1, vs1, d1, ds1, p1, q1, rfl, rfl, rfl, h1, r1⟩ := trodAll_cons r0
  obtain ⟨rfl, rfl, rfl⟩ := trodAll_nil r1
  obtain rfl : args = #[v0, v1] := by cases args; simp_all
  obtain ⟨rfl, rfl⟩ := trodVars_none hV
  obtain ⟨k0, sa0, sc0, ca0, cc0, rfl, ho0, hv0, hS0, hC0⟩ := RowDisk.open_disk hsz (j := 0) rfl rfl (hval 0 25 _ rfl rfl) h0
  obtain ⟨x1, rfl, rfl, rfl, w1⟩ := open_int Try.underlying3 (hval 1 3 v1 rfl rfl) h1
  clear hval0 hsz0 hsz
  refine (calls_below (DiskFlushesLaw.flushes_all k0 sa0 sc0 ca0 cc0 x1 W ho0 hv0 (by omega) (by omega) w1)).mono fun e W' ⟨he, bel⟩ => ?_
  subst he
  exact ⟨_, rfl, _, _, _, [], _, [], hW', trodAll_mk1 (shut_bool Try.underlying4 _), args_stay (sp := fun b => decide (b < W.heap.size)) bel hT hA0 (fun p hp => by simpa using hA0.lt p hp), rfl, bel.frame _, fun h => by cases h⟩
theorem over : Rows.diskFlushesRow.holds Try.pinned (OpenSpec.ofChange Rows.diskFlushesSpec) :=
  OpenClaim.holds_of_wide 6 Try.f6 rfl rfl rfl rfl rfl rfl rfl ⟨rfl, rfl, rfl, rfl, rfl⟩ rfl rfl rfl rfl rfl (by kernel_rfl) Try.func6 (by kernel_rfl)
    (of_decide_eq_true (by kernel_rfl)) (by unfold Func.isWrapper; first | (rw [if_pos (by decide +kernel)]; kernel_rfl) | (rw [if_neg (by decide +kernel)]; exact ⟨rfl, rfl⟩))
    (fun os started H enc _ => lifted os started H enc)
theorem proved : Rows.DiskFlushesSaid := over
#print axioms proved
end Go.Proofs.Ytboakipfhidkmaa.rowDiskFlushes
namespace Go.Proofs.Ytboakipfhidkmaa
/-- The row, under a short name, for the claim. -/
theorem diskFlushes_holds : Rows.DiskFlushesSaid := rowDiskFlushes.proved
end Go.Proofs.Ytboakipfhidkmaa
