/- WordTextBack: a text that is put is taken as it was, and no other byte changes. No condition. The row of the statement, over the walk of WordLawTextBack. -/
import Derived.Test.YtkajbhkhecoccaaRowKit
import Derived.Test.YtkajbhkhecoccaaRowBytes
import Derived.Test.YtkajbhkhecoccaaWordLawTextBack
import Derived.Lib.SmallJoins
import Derived.WalkKit
import Derived.ShutString
set_option linter.unusedVariables false
set_option linter.unusedSimpArgs false
namespace Go.Proofs.Ytkajbhkhecoccaa.rowWordTextBack
open Go.ChangeShapes Go.WideShapes Go.ChangeAt Go.RowKit Go.Proofs.Ytkajbhkhecoccaa.RowKit Go.Proofs.Ytkajbhkhecoccaa.RowBytes Go.Proofs.Ytkajbhkhecoccaa.K
set_option maxRecDepth 100000 in
theorem lifted (os : Os) (started : os.Started) (H : Type) (enc : TypeId × Value → H) :
    ReturnsInHanded {} Try.checked os 10 .any (Rows.wordTextBackSpec.pre6 enc Try.prog Try.f10 Rows.wordTextBackRow.domain false) (Rows.wordTextBackSpec.post enc Try.prog Try.f10 false true false false) := by
  refine returnsInHanded_of_change_sized (C := Try.checked) own started (by kernel_rfl) Try.func10
    (ChangeSpec.witness6 (enc := enc) (C := Try.checked) false ⟨#[], #[.slice none 0 0, .agg #[.int .i64 0, .int .i64 0], .string ⟨#[]⟩], []⟩ 8 (by kernel_rfl) (by kernel_rfl) (by kernel_rfl) (by kernel_rfl)) ?_
  intro W base args ds gs before hval0 hW hcnd hsz0 _
  have hsz : (DataW.weightsEach Try.prog (Try.f10.params.toList ++ Rows.wordTextBackSpec.plain.varTypes Try.prog) (ds ++ gs)).all (· ≤ reachBytes) = true := hsz0
  have hval : ∀ (j : Nat) t v, Try.f10.params[j]? = some t → args[j]? = some v → Value.okWide Try.prog W .any base t v := hval0
  have hW' := hW
  obtain ⟨p, q, hA0, hV, rfl, hfz, hnd⟩ := hW
  have hA : DataW.TrodAll enc Try.prog W 0 (fun _ => true) true Try.f10.params.toList args.toList ds p := hA0
  have hT : ∀ t ∈ Try.f10.params.toList, t < Try.prog.types.size := by
    rw [Try.params10]
    exact of_decide_eq_true (by kernel_rfl)
  rw [Try.params10] at hA hval hsz
  obtain ⟨v0, vs0, d0, ds0, p0, q0, hargs, rfl, rfl, h0, r0⟩ := trodAll_cons hA
  obtain ⟨v1, vs1, d1, ds1, p1, q1, rfl, rfl, rfl, h1, r1⟩ := trodAll_cons r0
  obtain ⟨v2, vs2, d2, ds2, p2, q2, rfl, rfl, rfl, h2, r2⟩ := trodAll_cons r1
  obtain ⟨rfl, rfl, rfl⟩ := trodAll_nil r2
  obtain rfl : args = #[v0, v1, v2] := by cases args; simp_all
  obtain ⟨rfl, rfl⟩ := trodVars_none hV
  obtain ⟨a0, n0, c0, l0, rfl, hl0, hr0, hc0, hm0, hn0⟩ := open_bytes Try.underlying22 Try.underlying5 (by kernel_rfl) (by kernel_rfl) hsz (j := 0) rfl rfl (hval 0 22 v0 rfl rfl) h0
  obtain ⟨cs1, rfl, hcz1, hcell1⟩ := agg_of Try.underlying50 rfl (show Try.prog.cellTypes Try.prog.depth 50 = some [3, 3] by kernel_rfl) (hval 1 50 v1 rfl rfl)
  obtain ⟨b0, b1, rfl⟩ := Joins.array2 (hcz1.trans (by kernel_rfl))
  obtain ⟨t0, ht0, m0⟩ := hcell1 0 _ rfl
  obtain ⟨t1, ht1, m1⟩ := hcell1 1 _ rfl
  obtain rfl := Option.some.inj ht0
  obtain rfl := Option.some.inj ht1
  obtain ⟨y0, rfl, wy0⟩ := cell_int Try.underlying3 m0
  obtain ⟨y1, rfl, wy1⟩ := cell_int Try.underlying3 m1
  obtain ⟨s2, rfl, -, -, hs2⟩ := Go.ChangeMaps.open_string Try.underlying9 (hval 2 9 v2 rfl rfl) h2
  clear hval0 hsz0 hsz
  refine (calls_below (WordLawTextBack.tback_all a0 n0 c0 y0 y1 s2 l0 W hl0 hr0 hc0 hm0 hn0 hs2)).mono fun e W' ⟨he, bel⟩ => ?_
  subst he
  exact ⟨_, rfl, _, _, _, [], _, [], hW', trodAll_mk1 (shut_bool Try.underlying4 _), args_stay (sp := fun b => decide (b < W.heap.size)) bel hT hA0 (fun p hp => by simpa using hA0.lt p hp), rfl, bel.frame _, fun h => by cases h⟩
theorem over : Rows.wordTextBackRow.holds Try.pinned (OpenSpec.ofChange Rows.wordTextBackSpec) :=
  OpenClaim.holds_of_wide 10 Try.f10 rfl rfl rfl rfl rfl rfl rfl ⟨rfl, rfl, rfl, rfl, rfl⟩ rfl rfl rfl rfl rfl (by kernel_rfl) Try.func10 (by kernel_rfl)
    (of_decide_eq_true (by kernel_rfl)) (by unfold Func.isWrapper; first | (rw [if_pos (by decide +kernel)]; kernel_rfl) | (rw [if_neg (by decide +kernel)]; exact ⟨rfl, rfl⟩))
    (fun os started H enc _ => lifted os started H enc)
theorem proved : Rows.WordTextBackSaid := over
#print axioms proved
end Go.Proofs.Ytkajbhkhecoccaa.rowWordTextBack
namespace Go.Proofs.Ytkajbhkhecoccaa
/-- The row, under a short name, for the claim. -/
theorem wordTextBack_holds : Rows.WordTextBackSaid := rowWordTextBack.proved
end Go.Proofs.Ytkajbhkhecoccaa
