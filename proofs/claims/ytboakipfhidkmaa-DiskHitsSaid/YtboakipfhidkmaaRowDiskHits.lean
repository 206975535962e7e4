/- DiskHits: any sector of any disk rots, or fails, as the document says, or it is refused. No condition. The row of the statement, over the walk of DiskHitsLaw. -/
import Derived.Test.YtboakipfhidkmaaRowKit
import Derived.Test.YtboakipfhidkmaaRowBytes
import Derived.Test.YtboakipfhidkmaaRowDisk
import Derived.Test.YtboakipfhidkmaaDiskHitsLaw
import Derived.WalkKit
import Derived.ShutString
set_option linter.unusedVariables false
set_option linter.unusedSimpArgs false
namespace Go.Proofs.Ytboakipfhidkmaa.rowDiskHits
open Go.ChangeShapes Go.WideShapes Go.ChangeAt Go.RowKit Go.Proofs.Ytboakipfhidkmaa.RowKit Go.Proofs.Ytboakipfhidkmaa.RowBytes Go.Proofs.Ytboakipfhidkmaa.K Go.Proofs.Ytboakipfhidkmaa.DiskKit
set_option maxRecDepth 100000 in
theorem lifted (os : Os) (started : os.Started) (H : Type) (enc : TypeId × Value → H) :
    ReturnsInHanded {} Try.checked os 8 .any (Rows.diskHitsSpec.pre6 enc Try.prog Try.f8 Rows.diskHitsRow.domain false) (Rows.diskHitsSpec.post enc Try.prog Try.f8 false true false false) := by
  refine returnsInHanded_of_change_sized (C := Try.checked) own started (by kernel_rfl) Try.func8
    (ChangeSpec.witness6 (enc := enc) (C := Try.checked) false ⟨#[], #[.agg #[.slice none 0 0, .slice none 0 0, .int .i64 0, .bool false], .agg #[.int .i64 0, .int .i64 0, .int .i64 0, .int .u8 0]], []⟩ 8 (by kernel_rfl) (by kernel_rfl) (by kernel_rfl) (by kernel_rfl)) ?_
  intro W base args ds gs before hval0 hW hcnd hsz0 _
  have hsz : (DataW.weightsEach Try.prog (Try.f8.params.toList ++ Rows.diskHitsSpec.plain.varTypes Try.prog) (ds ++ gs)).all (· ≤ reachBytes) = true := hsz0
  have hval : ∀ (j : Nat) t v, Try.f8.params[j]? = some t → args[j]? = some v → Value.okWide Try.prog W .any base t v := hval0
  have hW' := hW
  obtain ⟨p, q, hA0, hV, rfl, hfz, hnd⟩ := hW
  have hA : DataW.TrodAll enc Try.prog W 0 (fun _ => true) true Try.f8.params.toList args.toList ds p := hA0
  have hT : ∀ t ∈ Try.f8.params.toList, t < Try.prog.types.size := by
    rw [Try.params8]
    exact of_decide_eq_true (by kernel_rfl)
  rw [Try.params8] at hA hval hsz
  obtain ⟨v0, vs0, d0, ds0, p0, q0, hargs, rfl, rfl, h0, r0⟩ := trodAll_cons hA
  obtain ⟨v1, vs1, d1, ds1, p1, q1, rfl, rfl, rfl, h1, r1⟩ := trodAll_cons r0
  obtain ⟨rfl, rfl, rfl⟩ := trodAll_nil r1
  obtain rfl : args = #[v0, v1] := by cases args; simp_all
  obtain ⟨rfl, rfl⟩ := trodVars_none hV
  obtain ⟨k0, sa0, sc0, ca0, cc0, rfl, ho0, hv0, hS0, hC0⟩ := RowDisk.open_disk hsz (j := 0) rfl rfl (hval 0 25 _ rfl rfl) h0
  obtain ⟨cs1, rfl, hcz1, hcell1⟩ := agg_of Try.underlying56 rfl (show Try.prog.cellTypes Try.prog.depth 56 = some [3, 3, 3, 5] by kernel_rfl) (hval 1 56 _ rfl rfl)
  have hz14 : cs1.size = 4 := by
    have h : Try.prog.cellsOf 56 = 4 := by kernel_rfl
    simpa [h] using hcz1
  have hx0 : ∃ n, cs1[0]? = some (.int .i64 n) ∧ (Lit.int .i64 n).wf = true := by
    obtain ⟨u, hu, hc⟩ := hcell1 0 _ (Array.getElem?_eq_getElem (by omega))
    obtain rfl := Option.some.inj hu
    obtain ⟨n, e, wf⟩ := cell_int Try.underlying3 hc
    exact ⟨n, by rw [Array.getElem?_eq_getElem (by omega), e], wf⟩
  have hx1 : ∃ n, cs1[1]? = some (.int .i64 n) ∧ (Lit.int .i64 n).wf = true := by
    obtain ⟨u, hu, hc⟩ := hcell1 1 _ (Array.getElem?_eq_getElem (by omega))
    obtain rfl := Option.some.inj hu
    obtain ⟨n, e, wf⟩ := cell_int Try.underlying3 hc
    exact ⟨n, by rw [Array.getElem?_eq_getElem (by omega), e], wf⟩
  have hx2 : ∃ n, cs1[2]? = some (.int .i64 n) ∧ (Lit.int .i64 n).wf = true := by
    obtain ⟨u, hu, hc⟩ := hcell1 2 _ (Array.getElem?_eq_getElem (by omega))
    obtain rfl := Option.some.inj hu
    obtain ⟨n, e, wf⟩ := cell_int Try.underlying3 hc
    exact ⟨n, by rw [Array.getElem?_eq_getElem (by omega), e], wf⟩
  have hx3 : ∃ n, cs1[3]? = some (.int .u8 n) ∧ (Lit.int .u8 n).wf = true := by
    obtain ⟨u, hu, hc⟩ := hcell1 3 _ (Array.getElem?_eq_getElem (by omega))
    obtain rfl := Option.some.inj hu
    obtain ⟨n, e, wf⟩ := cell_int Try.underlying5 hc
    exact ⟨n, by rw [Array.getElem?_eq_getElem (by omega), e], wf⟩
  obtain ⟨b0, e0, -⟩ := hx0
  obtain ⟨b1, e1, -⟩ := hx1
  obtain ⟨b2, e2, -⟩ := hx2
  obtain ⟨b3, e3, w3⟩ := hx3
  have hb3 : 0 ≤ b3 ∧ b3 ≤ 255 := by simpa [Lit.wf, IntKind.min, IntKind.max, IntKind.signed, IntKind.bits] using w3
  obtain ⟨y, rfl⟩ : ∃ y : UInt8, b3 = (y.toNat : Int) := ⟨UInt8.ofNat b3.toNat, by simp only [UInt8.toNat_ofNat']; omega⟩
  obtain rfl : cs1 = #[.int .i64 b0, .int .i64 b1, .int .i64 b2, .int .u8 (y.toNat : Int)] := by
    apply Array.ext_getElem?
    intro i
    rcases (show i = 0 ∨ i = 1 ∨ i = 2 ∨ i = 3 ∨ 4 ≤ i by omega) with rfl | rfl | rfl | rfl | hi
    · rw [e0]; rfl
    · rw [e1]; rfl
    · rw [e2]; rfl
    · rw [e3]; rfl
    · rw [Array.getElem?_eq_none (by omega), Array.getElem?_eq_none (by simpa using hi)]
  clear hval0 hsz0 hsz
  refine (calls_below (DiskHitsLaw.hits_all k0 sa0 sc0 ca0 cc0 b0 b1 b2 y W ho0 hv0 (by omega) (by omega))).mono fun e W' ⟨he, bel⟩ => ?_
  subst he
  exact ⟨_, rfl, _, _, _, [], _, [], hW', trodAll_mk1 (shut_bool Try.underlying4 _), args_stay (sp := fun b => decide (b < W.heap.size)) bel hT hA0 (fun p hp => by simpa using hA0.lt p hp), rfl, bel.frame _, fun h => by cases h⟩
theorem over : Rows.diskHitsRow.holds Try.pinned (OpenSpec.ofChange Rows.diskHitsSpec) :=
  OpenClaim.holds_of_wide 8 Try.f8 rfl rfl rfl rfl rfl rfl rfl ⟨rfl, rfl, rfl, rfl, rfl⟩ rfl rfl rfl rfl rfl (by kernel_rfl) Try.func8 (by kernel_rfl)
    (of_decide_eq_true (by kernel_rfl)) (by unfold Func.isWrapper; first | (rw [if_pos (by decide +kernel)]; kernel_rfl) | (rw [if_neg (by decide +kernel)]; exact ⟨rfl, rfl⟩))
    (fun os started H enc _ => lifted os started H enc)
theorem proved : Rows.DiskHitsSaid := over
#print axioms proved
end Go.Proofs.Ytboakipfhidkmaa.rowDiskHits
namespace Go.Proofs.Ytboakipfhidkmaa
/-- The row, under a short name, for the claim. -/
theorem diskHits_holds : Rows.DiskHitsSaid := rowDiskHits.proved
end Go.Proofs.Ytboakipfhidkmaa
