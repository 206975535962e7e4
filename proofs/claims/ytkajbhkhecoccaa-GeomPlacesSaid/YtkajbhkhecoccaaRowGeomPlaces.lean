/- GeomPlaces: where roots, the journal and regions stand in any layout is the reference's, or refused. No condition. The row of the statement, over the walk of GeoPlaces. -/
import Derived.Test.YtkajbhkhecoccaaRowKit
import Derived.Test.YtkajbhkhecoccaaGeoPlaces
import Derived.Lib.SmallJoins
import Derived.WalkKit
import Derived.ShutString
set_option linter.unusedVariables false
set_option linter.unusedSimpArgs false
namespace Go.Proofs.Ytkajbhkhecoccaa.rowGeomPlaces
open Go.ChangeShapes Go.WideShapes Go.ChangeAt Go.RowKit Go.Proofs.Ytkajbhkhecoccaa.RowKit
set_option maxRecDepth 100000 in
theorem lifted (os : Os) (started : os.Started) (H : Type) (enc : TypeId × Value → H) :
    ReturnsInHanded {} Try.checked os 5 .any (Rows.geomPlacesSpec.pre6 enc Try.prog Try.f5 Rows.geomPlacesRow.domain false) (Rows.geomPlacesSpec.post enc Try.prog Try.f5 false true false false) := by
  refine returnsInHanded_of_change_sized (C := Try.checked) own started (by kernel_rfl) Try.func5
    (ChangeSpec.witness6 (enc := enc) (C := Try.checked) false ⟨#[], #[.agg #[.int .i64 0, .int .i64 0, .int .i64 0, .int .i64 0, .int .i64 0, .int .i64 0], .agg #[.int .i64 0, .int .i64 0]], []⟩ 8 (by kernel_rfl) (by kernel_rfl) (by kernel_rfl) (by kernel_rfl)) ?_
  intro W base args ds gs before hval0 hW hcnd hsz0 _
  have hsz : (DataW.weightsEach Try.prog (Try.f5.params.toList ++ Rows.geomPlacesSpec.plain.varTypes Try.prog) (ds ++ gs)).all (· ≤ reachBytes) = true := hsz0
  have hval : ∀ (j : Nat) t v, Try.f5.params[j]? = some t → args[j]? = some v → Value.okWide Try.prog W .any base t v := hval0
  have hW' := hW
  obtain ⟨p, q, hA0, hV, rfl, hfz, hnd⟩ := hW
  have hA : DataW.TrodAll enc Try.prog W 0 (fun _ => true) true Try.f5.params.toList args.toList ds p := hA0
  have hT : ∀ t ∈ Try.f5.params.toList, t < Try.prog.types.size := by
    rw [Try.params5]
    exact of_decide_eq_true (by kernel_rfl)
  rw [Try.params5] at hA hval hsz
  obtain ⟨v0, vs0, d0, ds0, p0, q0, hargs, rfl, rfl, h0, r0⟩ := trodAll_cons hA
  obtain ⟨v1, vs1, d1, ds1, p1, q1, rfl, rfl, rfl, h1, r1⟩ := trodAll_cons r0
  obtain ⟨rfl, rfl, rfl⟩ := trodAll_nil r1
  obtain rfl : args = #[v0, v1] := by cases args; simp_all
  obtain ⟨rfl, rfl⟩ := trodVars_none hV
  obtain ⟨cs, rfl, hcz, hcell⟩ := agg_of Try.underlying31 rfl (show Try.prog.cellTypes Try.prog.depth 31 = some [3, 3, 3, 3, 3, 3] by kernel_rfl) (hval 0 31 v0 rfl rfl)
  have hcz6 : cs.size = 6 := hcz.trans (by kernel_rfl)
  obtain ⟨c0, c1, c2, c3, c4, c5, rfl⟩ := array6 hcz6
  obtain ⟨u0, hu0, k0⟩ := hcell 0 _ rfl
  obtain ⟨u1, hu1, k1⟩ := hcell 1 _ rfl
  obtain ⟨u2, hu2, k2⟩ := hcell 2 _ rfl
  obtain ⟨u3, hu3, k3⟩ := hcell 3 _ rfl
  obtain ⟨u4, hu4, k4⟩ := hcell 4 _ rfl
  obtain ⟨u5, hu5, k5⟩ := hcell 5 _ rfl
  obtain rfl := Option.some.inj hu0
  obtain rfl := Option.some.inj hu1
  obtain rfl := Option.some.inj hu2
  obtain rfl := Option.some.inj hu3
  obtain rfl := Option.some.inj hu4
  obtain rfl := Option.some.inj hu5
  obtain ⟨g0, rfl, w0⟩ := cell_int Try.underlying3 k0
  obtain ⟨g1, rfl, w1⟩ := cell_int Try.underlying3 k1
  obtain ⟨g2, rfl, w2⟩ := cell_int Try.underlying3 k2
  obtain ⟨g3, rfl, w3⟩ := cell_int Try.underlying3 k3
  obtain ⟨g4, rfl, w4⟩ := cell_int Try.underlying3 k4
  obtain ⟨g5, rfl, w5⟩ := cell_int Try.underlying3 k5
  obtain ⟨cs2, rfl, hcz2, hcell2⟩ := agg_of Try.underlying36 rfl (show Try.prog.cellTypes Try.prog.depth 36 = some [3, 3] by kernel_rfl) (hval 1 36 v1 rfl rfl)
  obtain ⟨b0, b1, rfl⟩ := Joins.array2 (hcz2.trans (by kernel_rfl))
  obtain ⟨x0, hx0, m0⟩ := hcell2 0 _ rfl
  obtain ⟨x1, hx1, m1⟩ := hcell2 1 _ rfl
  obtain rfl := Option.some.inj hx0
  obtain rfl := Option.some.inj hx1
  obtain ⟨n, rfl, w7⟩ := cell_int Try.underlying3 m0
  obtain ⟨half, rfl, w8⟩ := cell_int Try.underlying3 m1
  clear hval0 hsz0 hsz
  refine (GeoPlaces.places_all g0 g1 g2 g3 g4 g5 n half W (i64_range w5)).mono fun e W' ⟨he, bel⟩ => ?_
  subst he
  exact ⟨_, rfl, _, _, _, [], _, [], hW', trodAll_mk1 (shut_bool Try.underlying4 _), args_stay (sp := fun b => decide (b < W.heap.size)) bel hT hA0 (fun p hp => by simpa using hA0.lt p hp), rfl, bel.frame _, fun h => by cases h⟩
theorem over : Rows.geomPlacesRow.holds Try.pinned (OpenSpec.ofChange Rows.geomPlacesSpec) :=
  OpenClaim.holds_of_wide 5 Try.f5 rfl rfl rfl rfl rfl rfl rfl ⟨rfl, rfl, rfl, rfl, rfl⟩ rfl rfl rfl rfl rfl (by kernel_rfl) Try.func5 (by kernel_rfl)
    (of_decide_eq_true (by kernel_rfl)) (by unfold Func.isWrapper; first | (rw [if_pos (by decide +kernel)]; kernel_rfl) | (rw [if_neg (by decide +kernel)]; exact ⟨rfl, rfl⟩))
    (fun os started H enc _ => lifted os started H enc)
theorem proved : Rows.GeomPlacesSaid := over
#print axioms proved
end Go.Proofs.Ytkajbhkhecoccaa.rowGeomPlaces
namespace Go.Proofs.Ytkajbhkhecoccaa
/-- The row, under a short name, for the claim. -/
theorem geomPlaces_holds : Rows.GeomPlacesSaid := rowGeomPlaces.proved
end Go.Proofs.Ytkajbhkhecoccaa
