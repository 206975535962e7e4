/- SpaceNever: a sector that is taken was free, nobody else has it, and it is none that was dropped since the last sweep, or kept since the last settling; of up to 300 steps. No condition. The row of the statement, over the walk of NeverLaw. -/
import Derived.Test.YtpbhnpoldjdfdaaRowKit
import Derived.Test.YtpbhnpoldjdfdaaRowBytes
import Derived.Test.YtpbhnpoldjdfdaaRowSpace
import Derived.WalkKit
import Derived.ShutString
set_option linter.unusedVariables false
set_option linter.unusedSimpArgs false
namespace Go.Proofs.Ytpbhnpoldjdfdaa.rowSpaceNever
open Go.ChangeShapes Go.WideShapes Go.ChangeAt Go.RowKit Go.Proofs.Ytpbhnpoldjdfdaa.RowKit Go.Proofs.Ytpbhnpoldjdfdaa.RowBytes Go.Proofs.Ytpbhnpoldjdfdaa.K
set_option maxRecDepth 100000 in
theorem lifted (os : Os) (started : os.Started) (H : Type) (enc : TypeId × Value → H) :
    ReturnsInHanded {} Try.checked os 3 .any (Rows.spaceNeverSpec.pre6 enc Try.prog Try.f3 Rows.spaceNeverRow.domain false) (Rows.spaceNeverSpec.post enc Try.prog Try.f3 false true false false) := by
  refine returnsInHanded_of_change_sized (C := Try.checked) own started (by kernel_rfl) Try.func3
    (ChangeSpec.witness6 (enc := enc) (C := Try.checked) false ⟨#[], #[.slice none 0 0], []⟩ 8 (by kernel_rfl) (by kernel_rfl) (by kernel_rfl) (by kernel_rfl)) ?_
  intro W base args ds gs before hval0 hW hcnd hsz0 _
  have hsz : (DataW.weightsEach Try.prog (Try.f3.params.toList ++ Rows.spaceNeverSpec.plain.varTypes Try.prog) (ds ++ gs)).all (· ≤ reachBytes) = true := hsz0
  have hval : ∀ (j : Nat) t v, Try.f3.params[j]? = some t → args[j]? = some v → Value.okWide Try.prog W .any base t v := hval0
  have hW' := hW
  obtain ⟨p, q, hA0, hV, rfl, hfz, hnd⟩ := hW
  have hA : DataW.TrodAll enc Try.prog W 0 (fun _ => true) true Try.f3.params.toList args.toList ds p := hA0
  have hT : ∀ t ∈ Try.f3.params.toList, t < Try.prog.types.size := by
    rw [Try.params3]
    exact of_decide_eq_true (by kernel_rfl)
  rw [Try.params3] at hA hval hsz
  obtain ⟨v0, vs0, d0, ds0, p0, q0, hargs, rfl, rfl, h0, r0⟩ := trodAll_cons hA
  obtain ⟨rfl, rfl, rfl⟩ := trodAll_nil r0
  obtain rfl : args = #[v0] := by cases args; simp_all
  obtain ⟨rfl, rfl⟩ := trodVars_none hV
  obtain ⟨a0, n0, c0, l0, rfl, hl0, hr0, hc0, hm0, hn0⟩ := open_bytes Try.underlying22 Try.underlying5 (by kernel_rfl) (by kernel_rfl) hsz (j := 0) rfl rfl (hval 0 22 v0 rfl rfl) h0
  clear hval hval0 hsz0 hsz

  refine (calls_below (RowSpace.never_any l0 a0 n0 c0 W hl0 hr0 hc0 hm0)).mono fun e W' ⟨he, bel⟩ => ?_
  subst he
  exact ⟨_, rfl, _, _, _, [], _, [], hW', trodAll_mk1 (shut_bool Try.underlying4 _), args_stay (sp := fun b => decide (b < W.heap.size)) bel hT hA0 (fun p hp => by simpa using hA0.lt p hp), rfl, bel.frame _, fun h => by cases h⟩
theorem over : Rows.spaceNeverRow.holds Try.pinned (OpenSpec.ofChange Rows.spaceNeverSpec) :=
  OpenClaim.holds_of_wide 3 Try.f3 rfl rfl rfl rfl rfl rfl rfl ⟨rfl, rfl, rfl, rfl, rfl⟩ rfl rfl rfl rfl rfl (by kernel_rfl) Try.func3 (by kernel_rfl)
    (of_decide_eq_true (by kernel_rfl)) (by unfold Func.isWrapper; first | (rw [if_pos (by decide +kernel)]; kernel_rfl) | (rw [if_neg (by decide +kernel)]; exact ⟨rfl, rfl⟩))
    (fun os started H enc _ => lifted os started H enc)
theorem proved : Rows.SpaceNeverSaid := over
#print axioms proved
end Go.Proofs.Ytpbhnpoldjdfdaa.rowSpaceNever
namespace Go.Proofs.Ytpbhnpoldjdfdaa
/-- The row, under a short name, for the claim. -/
theorem spaceNever_holds : Rows.SpaceNeverSaid := rowSpaceNever.proved
end Go.Proofs.Ytpbhnpoldjdfdaa
