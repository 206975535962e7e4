/- ShaSums: the sum of any bytes of up to 65,536 is the reference's, and they stay. The listed variables are laid as the program lays them (tied); no other condition. The card of the statement, over the walk of ShaLaws. -/
import Derived.Test.YtbgajegcihhhcaaDoorRowKit
import Derived.Test.YtbgajegcihhhcaaDoorTie
import Derived.Test.YtbgajegcihhhcaaDoorCards
import Derived.Test.YtbgajegcihhhcaaDoorRowBytes
import Derived.Test.YtbgajegcihhhcaaDoorShaLaws
import Derived.Test.YtbgajegcihhhcaaDoorShaLaid
import Derived.WalkKit
import Derived.ShutString
import Derived.LaidMore
import Derived.Stop.Joined
import Derived.SevenTiedAt
set_option linter.unusedVariables false
set_option linter.unusedSimpArgs false
namespace Go.Proofs.YtbgajegcihhhcaaDoor.rowShaSums
open Go.ChangeShapes Go.WideShapes Go.ChangeAt Go.RowKit Go.Proofs.YtbgajegcihhhcaaDoor.RowKit Go.Proofs.YtbgajegcihhhcaaDoor.RowBytes Go.Proofs.YtbgajegcihhhcaaDoor.K Go.Proofs.YtbgajegcihhhcaaDoor.ShaLaid Go.Proofs.YtbgajegcihhhcaaDoor.ShaStep Go.Proofs.YtbgajegcihhhcaaDoor.ShaRot
set_option maxRecDepth 100000 in
theorem lifted (os : Os) (started : os.Started) (H : Type) (enc : TypeId × Value → H) :
    ReturnsInHanded {} Tryd.checked os 5 .any (fun w args => (Rows.shaSumsSpec.pre enc Tryd.prog Tryd.f5 [] false w args ∧ laidMetH Tryd.prog Go.Proofs.YtbgajegcihhhcaaDoor.ShaLaid.laid2 w) ∧ sizedMet enc Tryd.prog Tryd.f5 (OpenSpec.ofChange Rows.shaSumsSpec) false w args)
      (Rows.shaSumsSpec.post enc Tryd.prog Tryd.f5 false true false false) := by
  refine returnsInHanded_of_change_and (C := Tryd.checked) (X := fun w _ => laidMetH Tryd.prog Go.Proofs.YtbgajegcihhhcaaDoor.ShaLaid.laid2 w) (fun _ _ _ hh h => h.of_heap hh) own started (by kernel_rfl) Tryd.func5
    (ChangeSpec.witness_shaped (enc := enc) (C := Tryd.checked) (os := os) (X := fun w _ => laidMetH Tryd.prog Go.Proofs.YtbgajegcihhhcaaDoor.ShaLaid.laid2 w) false (World.doorLaid Tryd.prog 400 os) #[.slice none 0 0] 8 rfl (World.shaped_of_RefB (by kernel_rfl) (by kernel_rfl)) (by kernel_rfl) (by kernel_rfl) (by kernel_rfl) (door_met os _)) ?_
  intro W base args ds gs before hval0 hW hcnd hsz0 hL _
  have hsz : (DataW.weightsEach Tryd.prog (Tryd.f5.params.toList ++ Rows.shaSumsSpec.plain.varTypes Tryd.prog) (ds ++ gs)).all (· ≤ reachBytes) = true := hsz0
  have hval : ∀ (j : Nat) t v, Tryd.f5.params[j]? = some t → args[j]? = some v → Value.okWide Tryd.prog W .any base t v := hval0
  have hW' := hW
  obtain ⟨p, q, hA0, hV, rfl, hfz, hnd⟩ := hW
  have hA : DataW.TrodAll enc Tryd.prog W 0 (fun _ => true) true Tryd.f5.params.toList args.toList ds p := hA0
  have hT : ∀ t ∈ Tryd.f5.params.toList, t < Tryd.prog.types.size := by
    rw [Tryd.params5]
    exact of_decide_eq_true (by kernel_rfl)
  rw [Tryd.params5] at hA hval hsz
  obtain ⟨⟨tk, hK⟩, ⟨tb, hB⟩⟩ := of_laid hL
  obtain ⟨v0, vs0, d0, ds0, p0, q0, hargs, rfl, rfl, h0, r0⟩ := trodAll_cons hA
  obtain ⟨rfl, rfl, rfl⟩ := trodAll_nil r0
  obtain rfl : args = #[v0] := by cases args; simp_all
  obtain ⟨rfl, rfl⟩ := trodVars_none hV
  obtain ⟨a0, n0, c0, l0, rfl, hl0, hr0, hc0, hm0, hn0⟩ := open_bytes Tryd.underlying22 Tryd.underlying5 (by kernel_rfl) (by kernel_rfl) hsz (j := 0) rfl rfl (hval 0 22 v0 rfl rfl) h0
  clear hval0 hsz0 hsz
  refine (calls_below (ShaLaws.sums_law a0 n0 c0 l0 W hl0 hr0 hn0 hK hB)).mono fun e W' ⟨he, bel⟩ => ?_
  subst he
  exact ⟨_, rfl, _, _, _, [], _, [], hW', trodAll_mk1 (shut_bool Tryd.underlying4 _), args_stay (sp := fun b => decide (b < W.heap.size)) bel hT hA0 (fun p hp => by simpa using hA0.lt p hp), rfl, bel.frame _, fun h => by cases h⟩
theorem over : Rows.shaSumsRow.holds Tryd.pinned (OpenSpec.ofChange Rows.shaSumsSpec) :=
  OpenClaim.holds_of_wide 5 Tryd.f5 rfl rfl rfl rfl rfl rfl rfl ⟨rfl, rfl, rfl, rfl, rfl⟩ rfl rfl rfl rfl rfl (by kernel_rfl) Tryd.func5 (by kernel_rfl)
    (of_decide_eq_true (by kernel_rfl)) (by unfold Func.isWrapper; first | (rw [if_pos (by decide +kernel)]; kernel_rfl) | (rw [if_neg (by decide +kernel)]; exact ⟨rfl, rfl⟩))
    (fun os started H enc _ => lifted os started H enc)
theorem proved : Rows.ShaSumsCardSaid :=
  Claim7.holds_tied_plain_at .later [] [.data, .data] true (true, "ecb0ac449bc3bc82a807f665be0b4d547a93fb5ae43e9f45f2715fc3c2ac958d") false
    over (fun _ h => by cases h) (by kernel_rfl) (fun _ h => by cases h) shaSums_row_tie rfl ⟨rfl, rfl⟩ (by kernel_rfl) rfl
    (fun f fn hf hfn => by
      obtain rfl : f = 5 := Option.some.inj ((show Tryd.prog.funcNamed "lazaret/lazaretlaw01.ShaSums" = some 5 by kernel_rfl).symm.trans hf) |>.symm
      obtain rfl : fn = Tryd.f5 := (Option.some.inj (Tryd.func5.symm.trans hfn)).symm
      exact ⟨by kernel_rfl, fun j t ht => by
        rw [Tryd.params5] at ht
        have hm : t ∈ [22] := by simpa using Array.mem_of_getElem? ht
        have hall : ([22].all fun u => !Tryd.prog.wantsStandIn u) = true := by kernel_rfl
        exact (show Tryd.prog.wantsStandIn t = false by simpa using List.all_eq_true.1 hall t hm)⟩)
    (by kernel_rfl)
#print axioms proved
end Go.Proofs.YtbgajegcihhhcaaDoor.rowShaSums
namespace Go.Proofs.YtbgajegcihhhcaaDoor
/-- The row's card, under a short name, for the claim. -/
theorem shaSums_holds : Rows.ShaSumsCardSaid := rowShaSums.proved
end Go.Proofs.YtbgajegcihhhcaaDoor
