/- PtrBack: what is put, or laid as a node, is taken as it was. The listed variables are laid as the program lays them (tied); no other condition. The card of the statement, over the walk of PtrBackLaw. -/
import Derived.Test.YtjkaenhopkigdaaDoorRowKit
import Derived.Test.YtjkaenhopkigdaaDoorTie
import Derived.Test.YtjkaenhopkigdaaDoorCards
import Derived.Test.YtjkaenhopkigdaaDoorRowBytes
import Derived.Test.YtjkaenhopkigdaaDoorRowArr
import Derived.Test.YtjkaenhopkigdaaDoorRowPtrs
import Derived.Test.YtjkaenhopkigdaaDoorRowPtrBackArr
import Derived.Test.YtjkaenhopkigdaaDoorShaLaid
import Derived.WalkKit
import Derived.ShutString
import Derived.LaidMore
import Derived.Stop.Joined
import Derived.SevenTiedAt
set_option linter.unusedVariables false
set_option linter.unusedSimpArgs false
namespace Go.Proofs.YtjkaenhopkigdaaDoor.rowPtrBack
open Go.ChangeShapes Go.WideShapes Go.ChangeAt Go.RowKit Go.Proofs.YtjkaenhopkigdaaDoor.RowKit Go.Proofs.YtjkaenhopkigdaaDoor.RowBytes Go.Proofs.YtjkaenhopkigdaaDoor.K Go.Proofs.YtjkaenhopkigdaaDoor.ShaLaid Go.Proofs.YtjkaenhopkigdaaDoor.ShaStep Go.Proofs.YtjkaenhopkigdaaDoor.ShaRot Go.Proofs.YtjkaenhopkigdaaDoor.RowArr Go.Proofs.YtjkaenhopkigdaaDoor.PtrKit
set_option maxHeartbeats 1000000 in
set_option maxRecDepth 100000 in
theorem lifted (os : Os) (started : os.Started) (H : Type) (enc : TypeId × Value → H) :
    ReturnsInHanded {} Tryd.checked os 8 .any (fun w args => (Rows.ptrBackSpec.pre enc Tryd.prog Tryd.f8 [] false w args ∧ laidMetH Tryd.prog Go.Proofs.YtjkaenhopkigdaaDoor.ShaLaid.laid2 w) ∧ sizedMet enc Tryd.prog Tryd.f8 (OpenSpec.ofChange Rows.ptrBackSpec) false w args)
      (Rows.ptrBackSpec.post enc Tryd.prog Tryd.f8 false true false false) := by
  refine returnsInHanded_of_change_and (C := Tryd.checked) (X := fun w _ => laidMetH Tryd.prog Go.Proofs.YtjkaenhopkigdaaDoor.ShaLaid.laid2 w) (fun _ _ _ hh h => h.of_heap hh) own started (by kernel_rfl) Tryd.func8
    (ChangeSpec.witness_shaped (enc := enc) (C := Tryd.checked) (os := os) (X := fun w _ => laidMetH Tryd.prog Go.Proofs.YtjkaenhopkigdaaDoor.ShaLaid.laid2 w) false (World.doorLaid Tryd.prog 400 os) #[.slice none 0 0, .slice none 0 0, .int .i64 0] 8 rfl (World.shaped_of_RefB (by kernel_rfl) (by kernel_rfl)) (by kernel_rfl) (by kernel_rfl) (by kernel_rfl) (door_met os _)) ?_
  intro W base args ds gs before hval0 hW hcnd hsz0 hL _
  have hsz : (DataW.weightsEach Tryd.prog (Tryd.f8.params.toList ++ Rows.ptrBackSpec.plain.varTypes Tryd.prog) (ds ++ gs)).all (· ≤ reachBytes) = true := hsz0
  have hval : ∀ (j : Nat) t v, Tryd.f8.params[j]? = some t → args[j]? = some v → Value.okWide Tryd.prog W .any base t v := hval0
  have hW' := hW
  obtain ⟨p, q, hA0, hV, rfl, hfz, hnd⟩ := hW
  have hA : DataW.TrodAll enc Tryd.prog W 0 (fun _ => true) true Tryd.f8.params.toList args.toList ds p := hA0
  have hT : ∀ t ∈ Tryd.f8.params.toList, t < Tryd.prog.types.size := by
    rw [Tryd.params8]
    exact of_decide_eq_true (by kernel_rfl)
  rw [Tryd.params8] at hA hval hsz
  obtain ⟨⟨tk, hK⟩, ⟨tb, hB⟩⟩ := of_laid hL
  obtain ⟨v0, vs0, d0, ds0, p0, q0, hargs, rfl, rfl, h0, r0⟩ := trodAll_cons hA
  obtain ⟨v1, vs1, d1, ds1, p1, q1, rfl, rfl, rfl, h1, r1⟩ := trodAll_cons r0
  obtain ⟨v2, vs2, d2, ds2, p2, q2, rfl, rfl, rfl, h2, r2⟩ := trodAll_cons r1
  obtain ⟨rfl, rfl, rfl⟩ := trodAll_nil r2
  obtain rfl : args = #[v0, v1, v2] := by cases args; simp_all
  obtain ⟨rfl, rfl⟩ := trodVars_none hV
  obtain ⟨a0, n0, c0, l0, rfl, hl0, hrd0, hok0, hc0, hcm0, hn0⟩ := RowPtrs.open_ptrs hsz (j := 0) rfl rfl (hval 0 42 v0 rfl rfl) h0
  obtain ⟨a1, n1, c1, l1, rfl, hl1, hrd1, hc1, hcm1, hn1⟩ := open_bytes Tryd.underlying35 Tryd.underlying5 (by kernel_rfl) (by kernel_rfl) hsz (j := 1) rfl rfl (hval 1 35 v1 rfl rfl) h1
  obtain ⟨x2, rfl, rfl, rfl, wx2⟩ := open_int Tryd.underlying3 (hval 2 3 v2 rfl rfl) h2
  clear hval0 hsz0 hsz
  refine (Go.Proofs.YtjkaenhopkigdaaDoor.RowPtrBackArr.back_ints a0 n0 c0 l0 hl0 hok0 hc0 hcm0 hn0 a1 n1 c1 l1 hl1 hn1 x2 W hrd0 hrd1 hK hB).mono fun e W' ⟨he, bel⟩ => ?_
  subst he
  exact ⟨_, rfl, _, _, _, [], _, [], hW', trodAll_mk1 (shut_bool Tryd.underlying4 _), args_stay (sp := fun b => decide (b < W.heap.size)) bel hT hA0 (fun p hp => by simpa using hA0.lt p hp), rfl, bel.frame _, fun h => by cases h⟩
theorem over : Rows.ptrBackRow.holds Tryd.pinned (OpenSpec.ofChange Rows.ptrBackSpec) :=
  OpenClaim.holds_of_wide 8 Tryd.f8 rfl rfl rfl rfl rfl rfl rfl ⟨rfl, rfl, rfl, rfl, rfl⟩ rfl rfl rfl rfl rfl (by kernel_rfl) Tryd.func8 (by kernel_rfl)
    (of_decide_eq_true (by kernel_rfl)) (by unfold Func.isWrapper; first | (rw [if_pos (by decide +kernel)]; kernel_rfl) | (rw [if_neg (by decide +kernel)]; exact ⟨rfl, rfl⟩))
    (fun os started H enc _ => lifted os started H enc)
theorem proved : Rows.PtrBackCardSaid :=
  Claim7.holds_tied_plain_at .later [] [.data, .data] true (true, "ebd169995baf294ca40cdabd3f957bbcb67c6dc6c6fef1d3f28b48cbb1e7589a") false
    over (fun _ h => by cases h) (by kernel_rfl) (fun _ h => by cases h) ptrBack_row_tie rfl ⟨rfl, rfl⟩ (by kernel_rfl) rfl
    (fun f fn hf hfn => by
      obtain rfl : f = 8 := Option.some.inj ((show Tryd.prog.funcNamed "lazaret/lazaretlaw05.PtrBack" = some 8 by kernel_rfl).symm.trans hf) |>.symm
      obtain rfl : fn = Tryd.f8 := (Option.some.inj (Tryd.func8.symm.trans hfn)).symm
      exact ⟨by kernel_rfl, fun j t ht => by
        rw [Tryd.params8] at ht
        have hm : t ∈ [42, 35, 3] := by simpa using Array.mem_of_getElem? ht
        have hall : ([42, 35, 3].all fun u => !Tryd.prog.wantsStandIn u) = true := by kernel_rfl
        exact (show Tryd.prog.wantsStandIn t = false by simpa using List.all_eq_true.1 hall t hm)⟩)
    (by kernel_rfl)
#print axioms proved
end Go.Proofs.YtjkaenhopkigdaaDoor.rowPtrBack
namespace Go.Proofs.YtjkaenhopkigdaaDoor
/-- The row's card, under a short name, for the claim. -/
theorem ptrBack_holds : Rows.PtrBackCardSaid := rowPtrBack.proved
end Go.Proofs.YtjkaenhopkigdaaDoor
