/- InodeTakes: the node of any bytes is the reference's, or there is none. No condition. The row of the statement, over the walk of InoTakeLaw. -/
import Derived.Test.YtfjkbabeceaelaaRowKit
import Derived.Test.YtfjkbabeceaelaaRowBytes
import Derived.Test.YtfjkbabeceaelaaRowArr
import Derived.Test.YtfjkbabeceaelaaRowInoTake
import Derived.WalkKit
import Derived.ShutString
set_option linter.unusedVariables false
set_option linter.unusedSimpArgs false
namespace Go.Proofs.Ytfjkbabeceaelaa.rowInodeTakes
open Go.ChangeShapes Go.WideShapes Go.ChangeAt Go.RowKit Go.Proofs.Ytfjkbabeceaelaa.RowKit Go.Proofs.Ytfjkbabeceaelaa.RowBytes Go.Proofs.Ytfjkbabeceaelaa.K Go.Proofs.Ytfjkbabeceaelaa.RowArr Go.Proofs.Ytfjkbabeceaelaa.ShaStep
set_option maxRecDepth 100000 in
theorem lifted (os : Os) (started : os.Started) (H : Type) (enc : TypeId × Value → H) :
    ReturnsInHanded {} Try.checked os 3 .any (Rows.inodeTakesSpec.pre6 enc Try.prog Try.f3 Rows.inodeTakesRow.domain false) (Rows.inodeTakesSpec.post enc Try.prog Try.f3 false true false false) := by
  refine returnsInHanded_of_change_sized (C := Try.checked) own started (by kernel_rfl) Try.func3
    (ChangeSpec.witness6 (enc := enc) (C := Try.checked) false ⟨#[], #[.agg #[.int .u8 0, .int .u8 0, .int .u8 0, .int .u8 0, .int .u8 0, .int .u8 0, .int .u8 0, .int .u8 0, .int .u8 0, .int .u8 0, .int .u8 0, .int .u8 0, .int .u8 0, .int .u8 0, .int .u8 0, .int .u8 0, .int .u8 0, .int .u8 0, .int .u8 0, .int .u8 0, .int .u8 0, .int .u8 0, .int .u8 0, .int .u8 0, .int .u8 0, .int .u8 0, .int .u8 0, .int .u8 0, .int .u8 0, .int .u8 0, .int .u8 0, .int .u8 0, .int .u8 0, .int .u8 0, .int .u8 0, .int .u8 0, .int .u8 0, .int .u8 0, .int .u8 0, .int .u8 0, .int .u8 0, .int .u8 0, .int .u8 0, .int .u8 0, .int .u8 0, .int .u8 0, .int .u8 0, .int .u8 0, .int .u8 0, .int .u8 0, .int .u8 0, .int .u8 0, .int .u8 0, .int .u8 0, .int .u8 0, .int .u8 0, .int .u8 0, .int .u8 0, .int .u8 0, .int .u8 0, .int .u8 0, .int .u8 0, .int .u8 0, .int .u8 0], .int .i64 0], []⟩ 8 (by kernel_rfl) (by kernel_rfl) (by kernel_rfl) (by kernel_rfl)) ?_
  intro W base args ds gs before hval0 hW hcnd hsz0 _
  have hsz : (DataW.weightsEach Try.prog (Try.f3.params.toList ++ Rows.inodeTakesSpec.plain.varTypes Try.prog) (ds ++ gs)).all (· ≤ reachBytes) = true := hsz0
  have hval : ∀ (j : Nat) t v, Try.f3.params[j]? = some t → args[j]? = some v → Value.okWide Try.prog W .any base t v := hval0
  have hW' := hW
  obtain ⟨p, q, hA0, hV, rfl, hfz, hnd⟩ := hW
  have hA : DataW.TrodAll enc Try.prog W 0 (fun _ => true) true Try.f3.params.toList args.toList ds p := hA0
  have hT : ∀ t ∈ Try.f3.params.toList, t < Try.prog.types.size := by
    rw [Try.params3]
    exact of_decide_eq_true (by kernel_rfl)
  rw [Try.params3] at hA hval hsz
  obtain ⟨v0, vs0, d0, ds0, p0, q0, hargs, rfl, rfl, h0, r0⟩ := trodAll_cons hA
  obtain ⟨v1, vs1, d1, ds1, p1, q1, rfl, rfl, rfl, h1, r1⟩ := trodAll_cons r0
  obtain ⟨rfl, rfl, rfl⟩ := trodAll_nil r1
  obtain rfl : args = #[v0, v1] := by cases args; simp_all
  obtain ⟨rfl, rfl⟩ := trodVars_none hV
  obtain ⟨cs0, rfl, hcz0, hcell0⟩ := agg_of Try.underlying22 rfl (show Try.prog.cellTypes Try.prog.depth 22 = some (List.replicate 64 5) by kernel_rfl) (hval 0 22 v0 rfl rfl)
  obtain ⟨zs0, rfl, hw0⟩ := ints_of (k := .u8) (cs := cs0) (fun j x hx => by
    obtain ⟨u, hu, hc⟩ := hcell0 j x hx
    have hu' : u = 5 := by
      rw [List.getElem?_replicate] at hu
      split at hu
      · exact (Option.some.inj hu).symm
      · cases hu
    subst hu'
    exact cell_int Try.underlying5 hc)
  have hz64_0 : zs0.length = 64 := by
    have h : Try.prog.cellsOf 22 = 64 := by kernel_rfl
    simpa [h] using hcz0
  obtain ⟨x1, rfl, rfl, rfl, w1⟩ := open_int Try.underlying3 (hval 1 3 v1 rfl rfl) h1
  clear hval0 hsz0 hsz
  refine (calls_below (RowInoTake.takes_ints zs0 hw0 hz64_0 x1 w1 W)).mono fun e W' ⟨he, bel⟩ => ?_
  subst he
  exact ⟨_, rfl, _, _, _, [], _, [], hW', trodAll_mk1 (shut_bool Try.underlying4 _), args_stay (sp := fun b => decide (b < W.heap.size)) bel hT hA0 (fun p hp => by simpa using hA0.lt p hp), rfl, bel.frame _, fun h => by cases h⟩
theorem over : Rows.inodeTakesRow.holds Try.pinned (OpenSpec.ofChange Rows.inodeTakesSpec) :=
  OpenClaim.holds_of_wide 3 Try.f3 rfl rfl rfl rfl rfl rfl rfl ⟨rfl, rfl, rfl, rfl, rfl⟩ rfl rfl rfl rfl rfl (by kernel_rfl) Try.func3 (by kernel_rfl)
    (of_decide_eq_true (by kernel_rfl)) (by unfold Func.isWrapper; first | (rw [if_pos (by decide +kernel)]; kernel_rfl) | (rw [if_neg (by decide +kernel)]; exact ⟨rfl, rfl⟩))
    (fun os started H enc _ => lifted os started H enc)
theorem proved : Rows.InodeTakesSaid := over
#print axioms proved
end Go.Proofs.Ytfjkbabeceaelaa.rowInodeTakes
namespace Go.Proofs.Ytfjkbabeceaelaa
/-- The row, under a short name, for the claim. -/
theorem inodeTakes_holds : Rows.InodeTakesSaid := rowInodeTakes.proved
end Go.Proofs.Ytfjkbabeceaelaa
