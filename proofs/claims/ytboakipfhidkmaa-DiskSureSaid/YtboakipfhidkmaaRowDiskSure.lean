/- DiskSure: what is flushed outlives any crash, of up to 200 steps. No condition. The row of the statement, over the walk of SureLaw. -/
import Derived.Test.YtboakipfhidkmaaRowKit
import Derived.Test.YtboakipfhidkmaaRowBytes
import Derived.Test.YtboakipfhidkmaaRowDisk
import Derived.Test.YtboakipfhidkmaaRowSure
import Derived.WalkKit
import Derived.ShutString
set_option linter.unusedVariables false
set_option linter.unusedSimpArgs false
namespace Go.Proofs.Ytboakipfhidkmaa.rowDiskSure
open Go.ChangeShapes Go.WideShapes Go.ChangeAt Go.RowKit Go.Proofs.Ytboakipfhidkmaa.RowKit Go.Proofs.Ytboakipfhidkmaa.RowBytes Go.Proofs.Ytboakipfhidkmaa.K Go.Proofs.Ytboakipfhidkmaa.DiskKit
set_option maxRecDepth 100000 in
theorem lifted (os : Os) (started : os.Started) (H : Type) (enc : TypeId × Value → H) :
    ReturnsInHanded {} Try.checked os 7 .any (Rows.diskSureSpec.pre6 enc Try.prog Try.f7 Rows.diskSureRow.domain false) (Rows.diskSureSpec.post enc Try.prog Try.f7 false true false false) := by
  refine returnsInHanded_of_change_sized (C := Try.checked) own started (by kernel_rfl) Try.func7
    (ChangeSpec.witness6 (enc := enc) (C := Try.checked) false ⟨#[], #[.slice none 0 0, .slice none 0 0, .int .i64 0], []⟩ 8 (by kernel_rfl) (by kernel_rfl) (by kernel_rfl) (by kernel_rfl)) ?_
  intro W base args ds gs before hval0 hW hcnd hsz0 _
  have hsz : (DataW.weightsEach Try.prog (Try.f7.params.toList ++ Rows.diskSureSpec.plain.varTypes Try.prog) (ds ++ gs)).all (· ≤ reachBytes) = true := hsz0
  have hval : ∀ (j : Nat) t v, Try.f7.params[j]? = some t → args[j]? = some v → Value.okWide Try.prog W .any base t v := hval0
  have hW' := hW
  obtain ⟨p, q, hA0, hV, rfl, hfz, hnd⟩ := hW
  have hA : DataW.TrodAll enc Try.prog W 0 (fun _ => true) true Try.f7.params.toList args.toList ds p := hA0
  have hT : ∀ t ∈ Try.f7.params.toList, t < Try.prog.types.size := by
    rw [Try.params7]
    exact of_decide_eq_true (by kernel_rfl)
  rw [Try.params7] at hA hval hsz
  obtain ⟨v0, vs0, d0, ds0, p0, q0, hargs, rfl, rfl, h0, r0⟩ := trodAll_cons hA
  obtain ⟨v1, vs1, d1, ds1, p1, q1, rfl, rfl, rfl, h1, r1⟩ := trodAll_cons r0
  obtain ⟨v2, vs2, d2, ds2, p2, q2, rfl, rfl, rfl, h2, r2⟩ := trodAll_cons r1
  obtain ⟨rfl, rfl, rfl⟩ := trodAll_nil r2
  obtain rfl : args = #[v0, v1, v2] := by cases args; simp_all
  obtain ⟨rfl, rfl⟩ := trodVars_none hV
  obtain ⟨la0, lc0, l0, rfl, hr0, hk0, hm0⟩ := RowSure.open_steps (hval 0 48 _ rfl rfl) h0
  obtain ⟨ka1, kc1, kp1, rfl, hr1, hk1, hm1⟩ := RowDisk.open_bools (hval 1 41 _ rfl rfl) h1
  obtain ⟨x2, rfl, rfl, rfl, w2⟩ := open_int Try.underlying3 (hval 2 3 v2 rfl rfl) h2

  refine (calls_below (RowSure.sure_any l0 la0 lc0 x2 ka1 kc1 kp1 W w2 hr0 hk0 hm0 hr1 hk1 hm1)).mono fun e W' ⟨he, bel⟩ => ?_
  subst he
  exact ⟨_, rfl, _, _, _, [], _, [], hW', trodAll_mk1 (shut_bool Try.underlying4 _), args_stay (sp := fun b => decide (b < W.heap.size)) bel hT hA0 (fun p hp => by simpa using hA0.lt p hp), rfl, bel.frame _, fun h => by cases h⟩
theorem over : Rows.diskSureRow.holds Try.pinned (OpenSpec.ofChange Rows.diskSureSpec) :=
  OpenClaim.holds_of_wide 7 Try.f7 rfl rfl rfl rfl rfl rfl rfl ⟨rfl, rfl, rfl, rfl, rfl⟩ rfl rfl rfl rfl rfl (by kernel_rfl) Try.func7 (by kernel_rfl)
    (of_decide_eq_true (by kernel_rfl)) (by unfold Func.isWrapper; first | (rw [if_pos (by decide +kernel)]; kernel_rfl) | (rw [if_neg (by decide +kernel)]; exact ⟨rfl, rfl⟩))
    (fun os started H enc _ => lifted os started H enc)
theorem proved : Rows.DiskSureSaid := over
#print axioms proved
end Go.Proofs.Ytboakipfhidkmaa.rowDiskSure
namespace Go.Proofs.Ytboakipfhidkmaa
/-- The row, under a short name, for the claim. -/
theorem diskSure_holds : Rows.DiskSureSaid := rowDiskSure.proved
end Go.Proofs.Ytboakipfhidkmaa
