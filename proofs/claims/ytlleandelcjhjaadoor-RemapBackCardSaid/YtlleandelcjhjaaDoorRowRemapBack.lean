/- RemapBack: a table that is put is taken as it was; what is written is read, and all others read as they did; of disks of up to 100 sectors. The listed variables are laid as the program lays them (tied); no other condition. The card of the statement, over the walk of RmBackLaw. -/
import Derived.Test.YtlleandelcjhjaaDoorRowKit
import Derived.Test.YtlleandelcjhjaaDoorTie
import Derived.Test.YtlleandelcjhjaaDoorCards
import Derived.Test.YtlleandelcjhjaaDoorRowBytes
import Derived.Test.YtlleandelcjhjaaDoorRowDisk
import Derived.Test.YtlleandelcjhjaaDoorRowRm
import Derived.Test.YtlleandelcjhjaaDoorRowLayB
import Derived.Test.YtlleandelcjhjaaDoorRmBackLaw
import Derived.Test.YtlleandelcjhjaaDoorShaLaid
import Derived.WalkKit
import Derived.ShutString
import Derived.LaidMore
import Derived.Stop.Joined
import Derived.SevenTiedAt
set_option linter.unusedVariables false
set_option linter.unusedSimpArgs false
namespace Go.Proofs.YtlleandelcjhjaaDoor.rowRemapBack
open Go.ChangeShapes Go.WideShapes Go.ChangeAt Go.RowKit Go.Proofs.YtlleandelcjhjaaDoor.RowKit Go.Proofs.YtlleandelcjhjaaDoor.RowBytes Go.Proofs.YtlleandelcjhjaaDoor.K Go.Proofs.YtlleandelcjhjaaDoor.ShaLaid Go.Proofs.YtlleandelcjhjaaDoor.RmKit
set_option maxHeartbeats 1000000 in
set_option maxRecDepth 100000 in
theorem lifted (os : Os) (started : os.Started) (H : Type) (enc : TypeId × Value → H) :
    ReturnsInHanded {} Tryd.checked os 7 .any (fun w args => (Rows.remapBackSpec.pre enc Tryd.prog Tryd.f7 [] false w args ∧ laidMetH Tryd.prog Go.Proofs.YtlleandelcjhjaaDoor.ShaLaid.laid2 w) ∧ sizedMet enc Tryd.prog Tryd.f7 (OpenSpec.ofChange Rows.remapBackSpec) false w args)
      (Rows.remapBackSpec.post enc Tryd.prog Tryd.f7 false true false false) := by
  refine returnsInHanded_of_change_and (C := Tryd.checked) (X := fun w _ => laidMetH Tryd.prog Go.Proofs.YtlleandelcjhjaaDoor.ShaLaid.laid2 w) (fun _ _ _ hh h => h.of_heap hh) own started (by kernel_rfl) Tryd.func7
    (ChangeSpec.witness_shaped (enc := enc) (C := Tryd.checked) (os := os) (X := fun w _ => laidMetH Tryd.prog Go.Proofs.YtlleandelcjhjaaDoor.ShaLaid.laid2 w) false (World.doorLaid Tryd.prog 400 os) #[.agg #[.slice none 0 0, .slice none 0 0, .int .i64 0, .bool false], .agg #[.int .i64 0, .slice none 0 0], .agg #[.int .i64 0, .int .u8 0, .int .u8 0, .int .u8 0, .int .u8 0, .int .u8 0, .int .u8 0, .int .u8 0, .int .u8 0, .int .u8 0, .int .u8 0, .int .u8 0, .int .u8 0, .int .u8 0, .int .u8 0, .int .u8 0, .int .u8 0, .int .u8 0, .int .u8 0, .int .u8 0, .int .u8 0, .int .u8 0, .int .u8 0, .int .u8 0, .int .u8 0, .int .u8 0, .int .u8 0, .int .u8 0, .int .u8 0, .int .u8 0, .int .u8 0, .int .u8 0, .int .u8 0, .int .u8 0, .int .u8 0, .int .u8 0, .int .u8 0, .int .u8 0, .int .u8 0, .int .u8 0, .int .u8 0, .int .u8 0, .int .u8 0, .int .u8 0, .int .u8 0, .int .u8 0, .int .u8 0, .int .u8 0, .int .u8 0, .int .u8 0, .int .u8 0, .int .u8 0, .int .u8 0, .int .u8 0, .int .u8 0, .int .u8 0, .int .u8 0, .int .u8 0, .int .u8 0, .int .u8 0, .int .u8 0, .int .u8 0, .int .u8 0, .int .u8 0, .int .u8 0, .int .u8 0, .int .u8 0, .int .u8 0, .int .u8 0, .int .u8 0, .int .u8 0, .int .u8 0, .int .u8 0, .int .u8 0, .int .u8 0, .int .u8 0, .int .u8 0, .int .u8 0, .int .u8 0, .int .u8 0, .int .u8 0, .int .u8 0, .int .u8 0, .int .u8 0, .int .u8 0, .int .u8 0, .int .u8 0, .int .u8 0, .int .u8 0, .int .u8 0, .int .u8 0, .int .u8 0, .int .u8 0, .int .u8 0, .int .u8 0, .int .u8 0, .int .u8 0, .int .u8 0, .int .u8 0, .int .u8 0, .int .u8 0, .int .u8 0, .int .u8 0, .int .u8 0, .int .u8 0, .int .u8 0, .int .u8 0, .int .u8 0, .int .u8 0, .int .u8 0, .int .u8 0, .int .u8 0, .int .u8 0, .int .u8 0, .int .u8 0, .int .u8 0, .int .u8 0, .int .u8 0, .int .u8 0, .int .u8 0, .int .u8 0, .int .u8 0, .int .u8 0, .int .u8 0, .int .u8 0, .int .u8 0, .int .u8 0, .int .u8 0, .int .u8 0]] 8 rfl (World.shaped_of_RefB (by kernel_rfl) (by kernel_rfl)) (by kernel_rfl) (by kernel_rfl) (by kernel_rfl) (door_met os _)) ?_
  intro W base args ds gs before hval0 hW hcnd hsz0 hL _
  have hsz : (DataW.weightsEach Tryd.prog (Tryd.f7.params.toList ++ Rows.remapBackSpec.plain.varTypes Tryd.prog) (ds ++ gs)).all (· ≤ reachBytes) = true := hsz0
  have hval : ∀ (j : Nat) t v, Tryd.f7.params[j]? = some t → args[j]? = some v → Value.okWide Tryd.prog W .any base t v := hval0
  have hW' := hW
  obtain ⟨p, q, hA0, hV, rfl, hfz, hnd⟩ := hW
  have hA : DataW.TrodAll enc Tryd.prog W 0 (fun _ => true) true Tryd.f7.params.toList args.toList ds p := hA0
  have hT : ∀ t ∈ Tryd.f7.params.toList, t < Tryd.prog.types.size := by
    rw [Tryd.params7]
    exact of_decide_eq_true (by kernel_rfl)
  rw [Tryd.params7] at hA hval hsz
  obtain ⟨⟨tk, hK⟩, ⟨tb, hB⟩⟩ := of_laid hL
  obtain ⟨v0, vs0, d0, ds0, p0, q0, hargs, rfl, rfl, h0, r0⟩ := trodAll_cons hA
  obtain ⟨v1, vs1, d1, ds1, p1, q1, rfl, rfl, rfl, h1, r1⟩ := trodAll_cons r0
  obtain ⟨v2, vs2, d2, ds2, p2, q2, rfl, rfl, rfl, h2, r2⟩ := trodAll_cons r1
  obtain ⟨rfl, rfl, rfl⟩ := trodAll_nil r2
  obtain rfl : args = #[v0, v1, v2] := by cases args; simp_all
  obtain ⟨rfl, rfl⟩ := trodVars_none hV
  obtain ⟨k0, sa0, sc0, ca0, cc0, rfl, ho0, hv0, hS0, hC0⟩ := RowDisk.open_disk hsz (j := 0) rfl rfl (hval 0 39 _ rfl rfl) h0
  obtain ⟨m1, a1, c1, rfl, ho1, hv1, hl1⟩ := RowRm.open_rm hsz (j := 1) rfl rfl (hval 1 24 _ rfl rfl) h1
  obtain ⟨n2, b2, rfl, hb2, w2⟩ := RowLayB.open_lay (hval 2 47 _ rfl rfl) h2
  clear hval0 hsz0 hsz
  refine (calls_below (RmBackLaw.back_all m1 a1 c1 k0 sa0 sc0 ca0 cc0 n2 b2 W ho0 hv0 (by omega) (by omega) ho1 hv1 (by omega) w2 hb2 ⟨⟨tk, hK⟩, ⟨tb, hB⟩⟩)).mono fun e W' ⟨he, bel⟩ => ?_
  subst he
  exact ⟨_, rfl, _, _, _, [], _, [], hW', trodAll_mk1 (shut_bool Tryd.underlying4 _), args_stay (sp := fun b => decide (b < W.heap.size)) bel hT hA0 (fun p hp => by simpa using hA0.lt p hp), rfl, bel.frame _, fun h => by cases h⟩
theorem over : Rows.remapBackRow.holds Tryd.pinned (OpenSpec.ofChange Rows.remapBackSpec) :=
  OpenClaim.holds_of_wide 7 Tryd.f7 rfl rfl rfl rfl rfl rfl rfl ⟨rfl, rfl, rfl, rfl, rfl⟩ rfl rfl rfl rfl rfl (by kernel_rfl) Tryd.func7 (by kernel_rfl)
    (of_decide_eq_true (by kernel_rfl)) (by unfold Func.isWrapper; first | (rw [if_pos (by decide +kernel)]; kernel_rfl) | (rw [if_neg (by decide +kernel)]; exact ⟨rfl, rfl⟩))
    (fun os started H enc _ => lifted os started H enc)
theorem proved : Rows.RemapBackCardSaid :=
  Claim7.holds_tied_plain_at .later [] [.data, .data] true (true, "e0f112ada32fb6f6ec574bc5d8bcf803913d8d8ffaf99606495f5a5c230ad234") false
    over (fun _ h => by cases h) (by kernel_rfl) (fun _ h => by cases h) remapBack_row_tie rfl ⟨rfl, rfl⟩ (by kernel_rfl) rfl
    (fun f fn hf hfn => by
      obtain rfl : f = 7 := Option.some.inj ((show Tryd.prog.funcNamed "lazaret/lazaretlaw04.RemapBack" = some 7 by kernel_rfl).symm.trans hf) |>.symm
      obtain rfl : fn = Tryd.f7 := (Option.some.inj (Tryd.func7.symm.trans hfn)).symm
      exact ⟨by kernel_rfl, fun j t ht => by
        rw [Tryd.params7] at ht
        have hm : t ∈ [39, 24, 47] := by simpa using Array.mem_of_getElem? ht
        have hall : ([39, 24, 47].all fun u => !Tryd.prog.wantsStandIn u) = true := by kernel_rfl
        exact (show Tryd.prog.wantsStandIn t = false by simpa using List.all_eq_true.1 hall t hm)⟩)
    (by kernel_rfl)
#print axioms proved
end Go.Proofs.YtlleandelcjhjaaDoor.rowRemapBack
namespace Go.Proofs.YtlleandelcjhjaaDoor
/-- The row's card, under a short name, for the claim. -/
theorem remapBack_holds : Rows.RemapBackCardSaid := rowRemapBack.proved
end Go.Proofs.YtlleandelcjhjaaDoor
