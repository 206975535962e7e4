/- InodeBack: a node that is put is taken as it was; what is taken is put as these bytes. No condition. The row of the statement, over the walk of InoBackLaw. -/
import Derived.Test.YtfjkbabeceaelaaRowKit
import Derived.Test.YtfjkbabeceaelaaRowBytes
import Derived.Test.YtfjkbabeceaelaaRowIno
import Derived.Test.YtfjkbabeceaelaaInoBackLaw
import Derived.WalkKit
import Derived.ShutString
set_option linter.unusedVariables false
set_option linter.unusedSimpArgs false
namespace Go.Proofs.Ytfjkbabeceaelaa.rowInodeBack
open Go.ChangeShapes Go.WideShapes Go.ChangeAt Go.RowKit Go.Proofs.Ytfjkbabeceaelaa.RowKit Go.Proofs.Ytfjkbabeceaelaa.RowBytes Go.Proofs.Ytfjkbabeceaelaa.K Go.Proofs.Ytfjkbabeceaelaa.PtrKit Go.Proofs.Ytfjkbabeceaelaa.InoKit
set_option maxRecDepth 100000 in
theorem lifted (os : Os) (started : os.Started) (H : Type) (enc : TypeId × Value → H) :
    ReturnsInHanded {} Try.checked os 5 .any (Rows.inodeBackSpec.pre6 enc Try.prog Try.f5 Rows.inodeBackRow.domain false) (Rows.inodeBackSpec.post enc Try.prog Try.f5 false true false false) := by
  refine returnsInHanded_of_change_sized (C := Try.checked) own started (by kernel_rfl) Try.func5
    (ChangeSpec.witness6 (enc := enc) (C := Try.checked) false ⟨#[], #[.agg #[.int .i64 0, .int .i64 0, .int .i64 0, .int .i64 0, .int .i64 0, .int .u8 0, .int .u8 0, .int .u8 0, .int .u8 0, .int .u8 0, .int .u8 0, .int .u8 0, .int .u8 0, .int .u8 0, .int .u8 0, .int .u8 0, .int .u8 0, .int .u8 0, .int .u8 0, .int .u8 0, .int .u8 0, .int .u8 0, .int .u8 0, .int .u8 0, .int .u8 0, .int .u8 0, .int .u8 0, .int .u8 0, .int .u8 0, .int .u8 0, .int .u8 0, .int .u8 0, .int .u8 0, .int .u8 0, .int .u8 0, .int .u8 0, .int .u8 0, .int .i64 0, .int .i64 0], .int .u8 0, .int .u8 0], []⟩ 8 (by kernel_rfl) (by kernel_rfl) (by kernel_rfl) (by kernel_rfl)) ?_
  intro W base args ds gs before hval0 hW hcnd hsz0 _
  have hsz : (DataW.weightsEach Try.prog (Try.f5.params.toList ++ Rows.inodeBackSpec.plain.varTypes Try.prog) (ds ++ gs)).all (· ≤ reachBytes) = true := hsz0
  have hval : ∀ (j : Nat) t v, Try.f5.params[j]? = some t → args[j]? = some v → Value.okWide Try.prog W .any base t v := hval0
  have hW' := hW
  obtain ⟨p, q, hA0, hV, rfl, hfz, hnd⟩ := hW
  have hA : DataW.TrodAll enc Try.prog W 0 (fun _ => true) true Try.f5.params.toList args.toList ds p := hA0
  have hT : ∀ t ∈ Try.f5.params.toList, t < Try.prog.types.size := by
    rw [Try.params5]
    exact of_decide_eq_true (by kernel_rfl)
  rw [Try.params5] at hA hval hsz
  obtain ⟨v0, vs0, d0, ds0, p0, q0, hargs, rfl, rfl, h0, r0⟩ := trodAll_cons hA
  obtain ⟨v1, vs1, d1, ds1, p1, q1, rfl, rfl, rfl, h1, r1⟩ := trodAll_cons r0
  obtain ⟨v2, vs2, d2, ds2, p2, q2, rfl, rfl, rfl, h2, r2⟩ := trodAll_cons r1
  obtain ⟨rfl, rfl, rfl⟩ := trodAll_nil r2
  obtain rfl : args = #[v0, v1, v2] := by cases args; simp_all
  obtain ⟨rfl, rfl⟩ := trodVars_none hV
  obtain ⟨cs0, rfl, hcz0, hcell0⟩ := agg_of Try.underlying30 rfl (show Try.prog.cellTypes Try.prog.depth 30 = some (3 :: 3 :: 3 :: 3 :: 3 :: (List.replicate 32 5 ++ [3, 3])) by kernel_rfl) (hval 0 30 v0 rfl rfl)
  have hz390 : cs0.size = 39 := by
    have h : Try.prog.cellsOf 30 = 39 := by kernel_rfl
    simpa [h] using hcz0
  obtain ⟨x0, rfl, hx0⟩ := RowIno.node_of hz390 (fun j v hv => by
    have hj : j < 39 := by
      have := (Array.getElem?_eq_some_iff.1 hv).1
      omega
    obtain ⟨u, hu, hc⟩ := hcell0 j v hv
    have hl : (3 :: 3 :: 3 :: 3 :: 3 :: (List.replicate 32 5 ++ [3, 3]) : List Nat).length = 39 := by simp
    rw [hl, Nat.mod_eq_of_lt hj] at hu
    refine ⟨fun h2 => ?_, fun h2 h3 => ?_⟩
    · have hu' : u = 3 := by
        rcases (show j = 0 ∨ j = 1 ∨ j = 2 ∨ j = 3 ∨ j = 4 ∨ j = 37 ∨ j = 38 by omega) with rfl | rfl | rfl | rfl | rfl | rfl | rfl <;> exact (Option.some.inj hu).symm
      subst hu'
      exact cell_int Try.underlying3 hc
    · have hu' : u = 5 := by
        obtain ⟨m, rfl⟩ : ∃ m, j = m + 5 := ⟨j - 5, by omega⟩
        rw [List.getElem?_cons_succ, List.getElem?_cons_succ, List.getElem?_cons_succ, List.getElem?_cons_succ, List.getElem?_cons_succ, List.getElem?_append_left (by simp; omega), List.getElem?_replicate] at hu
        split at hu
        · exact (Option.some.inj hu).symm
        · cases hu
      subst hu'
      exact cell_int Try.underlying5 hc)
  obtain ⟨x1, rfl, rfl, rfl, w1⟩ := open_int Try.underlying5 (hval 1 5 v1 rfl rfl) h1
  obtain ⟨x2, rfl, rfl, rfl, w2⟩ := open_int Try.underlying5 (hval 2 5 v2 rfl rfl) h2
  clear hval0 hsz0 hsz
  refine (calls_below (InoBackLaw.back_ints x0 x1 x2 W hx0 w1 w2)).mono fun e W' ⟨he, bel⟩ => ?_
  subst he
  exact ⟨_, rfl, _, _, _, [], _, [], hW', trodAll_mk1 (shut_bool Try.underlying4 _), args_stay (sp := fun b => decide (b < W.heap.size)) bel hT hA0 (fun p hp => by simpa using hA0.lt p hp), rfl, bel.frame _, fun h => by cases h⟩
theorem over : Rows.inodeBackRow.holds Try.pinned (OpenSpec.ofChange Rows.inodeBackSpec) :=
  OpenClaim.holds_of_wide 5 Try.f5 rfl rfl rfl rfl rfl rfl rfl ⟨rfl, rfl, rfl, rfl, rfl⟩ rfl rfl rfl rfl rfl (by kernel_rfl) Try.func5 (by kernel_rfl)
    (of_decide_eq_true (by kernel_rfl)) (by unfold Func.isWrapper; first | (rw [if_pos (by decide +kernel)]; kernel_rfl) | (rw [if_neg (by decide +kernel)]; exact ⟨rfl, rfl⟩))
    (fun os started H enc _ => lifted os started H enc)
theorem proved : Rows.InodeBackSaid := over
#print axioms proved
end Go.Proofs.Ytfjkbabeceaelaa.rowInodeBack
namespace Go.Proofs.Ytfjkbabeceaelaa
/-- The row, under a short name, for the claim. -/
theorem inodeBack_holds : Rows.InodeBackSaid := rowInodeBack.proved
end Go.Proofs.Ytfjkbabeceaelaa
