/- DittoLooks: all copies of any pointer's block are looked at, and healed, as the document says, or its error. The listed variables are laid as the program lays them (tied); no other condition. The card of the statement, over the walk of DitLooksLaw. -/
import Derived.Test.YtmkmpfnadcmcoaaGreatDoorYbl
import Derived.Test.YtmkmpfnadcmcoaaGreatDoorYbm
import Derived.Test.YtmkmpfnadcmcoaaGreatDoorTie
import Derived.Test.YtmkmpfnadcmcoaaGreatDoorCards
import Derived.WalkKit
import Derived.ShutString
import Derived.LaidMore
import Derived.Stop.Joined
import Derived.SevenTiedAt
set_option linter.unusedVariables false
set_option linter.unusedSimpArgs false
namespace Go.Proofs.YtmkmpfnadcmcoaaGreatDoor.rowDittoLooks
open Go.ChangeShapes Go.WideShapes Go.ChangeAt Go.RowKit Go.Proofs.YtmkmpfnadcmcoaaGreatDoor.RowKit Go.Proofs.YtmkmpfnadcmcoaaGreatDoor.RowBytes Go.Proofs.YtmkmpfnadcmcoaaGreatDoor.K Go.Proofs.YtmkmpfnadcmcoaaGreatDoor.ShaLaid Go.Proofs.YtmkmpfnadcmcoaaGreatDoor.RmKit Go.Proofs.YtmkmpfnadcmcoaaGreatDoor.PtrKit Go.Proofs.YtmkmpfnadcmcoaaGreatDoor.ShaStep Go.Proofs.YtmkmpfnadcmcoaaGreatDoor.RowArr
set_option maxHeartbeats 1000000 in
set_option maxRecDepth 100000 in
theorem lifted (os : Os) (started : os.Started) (H : Type) (enc : TypeId × Value → H) :
    ReturnsInHanded {} Tryz.checked os 4 .any (fun w args => (Rows.dittoLooksSpec.pre enc Tryz.prog Tryz.f4 [] false w args ∧ laidMetH Tryz.prog Go.Proofs.YtmkmpfnadcmcoaaGreatDoor.ShaLaid.laid2 w) ∧ sizedMet enc Tryz.prog Tryz.f4 (OpenSpec.ofChange Rows.dittoLooksSpec) false w args)
      (Rows.dittoLooksSpec.post enc Tryz.prog Tryz.f4 false true false false) := by
  refine returnsInHanded_of_change_and (C := Tryz.checked) (X := fun w _ => laidMetH Tryz.prog Go.Proofs.YtmkmpfnadcmcoaaGreatDoor.ShaLaid.laid2 w) (fun _ _ _ hh h => h.of_heap hh) own started (by kernel_rfl) Tryz.func4
    (ChangeSpec.witness_shaped (enc := enc) (C := Tryz.checked) (os := os) (X := fun w _ => laidMetH Tryz.prog Go.Proofs.YtmkmpfnadcmcoaaGreatDoor.ShaLaid.laid2 w) false (World.doorLaid Tryz.prog 400 os) #[.agg #[.slice none 0 0, .slice none 0 0, .int .i64 0, .bool false], .agg #[.int .i64 0, .slice none 0 0], .agg #[.int .i64 0, .int .i64 0, .int .u8 0, .int .u8 0, .int .u8 0, .int .u8 0, .int .u8 0, .int .u8 0, .int .u8 0, .int .u8 0, .int .u8 0, .int .u8 0, .int .u8 0, .int .u8 0, .int .u8 0, .int .u8 0, .int .u8 0, .int .u8 0, .int .u8 0, .int .u8 0, .int .u8 0, .int .u8 0, .int .u8 0, .int .u8 0, .int .u8 0, .int .u8 0, .int .u8 0, .int .u8 0, .int .u8 0, .int .u8 0, .int .u8 0, .int .u8 0, .int .u8 0, .int .u8 0]] 8 rfl (World.shaped_of_RefB (by kernel_rfl) (by kernel_rfl)) (by kernel_rfl) (by kernel_rfl) (by kernel_rfl) (door_met os _)) ?_
  intro W base args ds gs before hval0 hW hcnd hsz0 hL _
  have hsz : (DataW.weightsEach Tryz.prog (Tryz.f4.params.toList ++ Rows.dittoLooksSpec.plain.varTypes Tryz.prog) (ds ++ gs)).all (· ≤ reachBytes) = true := hsz0
  have hval : ∀ (j : Nat) t v, Tryz.f4.params[j]? = some t → args[j]? = some v → Value.okWide Tryz.prog W .any base t v := hval0
  have hW' := hW
  obtain ⟨p, q, hA0, hV, rfl, hfz, hnd⟩ := hW
  have hA : DataW.TrodAll enc Tryz.prog W 0 (fun _ => true) true Tryz.f4.params.toList args.toList ds p := hA0
  have hT : ∀ t ∈ Tryz.f4.params.toList, t < Tryz.prog.types.size := by
    rw [Tryz.params4]
    exact of_decide_eq_true (by kernel_rfl)
  rw [Tryz.params4] at hA hval hsz
  obtain ⟨⟨tk, hK⟩, ⟨tb, hB⟩⟩ := of_laid hL
  obtain ⟨v0, vs0, d0, ds0, p0, q0, hargs, rfl, rfl, h0, r0⟩ := trodAll_cons hA
  obtain ⟨v1, vs1, d1, ds1, p1, q1, rfl, rfl, rfl, h1, r1⟩ := trodAll_cons r0
  obtain ⟨v2, vs2, d2, ds2, p2, q2, rfl, rfl, rfl, h2, r2⟩ := trodAll_cons r1
  obtain ⟨rfl, rfl, rfl⟩ := trodAll_nil r2
  obtain rfl : args = #[v0, v1, v2] := by cases args; simp_all
  obtain ⟨rfl, rfl⟩ := trodVars_none hV
  obtain ⟨k0, sa0, sc0, ca0, cc0, rfl, ho0, hv0, hS0, hC0⟩ := RowDisk.open_disk hsz (j := 0) rfl rfl (hval 0 25 _ rfl rfl) h0
  obtain ⟨m1, a1, c1, rfl, ho1, hv1, hl1⟩ := RowRm.open_rm hsz (j := 1) rfl rfl (hval 1 28 _ rfl rfl) h1
  obtain ⟨cs2, rfl, hcz2, hcell2⟩ := agg_of Tryz.underlying31 rfl (show Tryz.prog.cellTypes Tryz.prog.depth 31 = some (3 :: 3 :: List.replicate 32 5) by kernel_rfl) (hval 2 31 v2 rfl rfl)
  have hz342 : cs2.size = 34 := by
    have h : Tryz.prog.cellsOf 31 = 34 := by kernel_rfl
    simpa [h] using hcz2
  obtain ⟨pa2, pb2, ps2, rfl, hps2, wpa2, wpb2⟩ := RowPtrVal.ptr_of hz342 (fun j x hx => by
    have hj : j < 34 := by
      have := (Array.getElem?_eq_some_iff.1 hx).1
      omega
    obtain ⟨u, hu, hc⟩ := hcell2 j x hx
    rw [List.length_cons, List.length_cons, List.length_replicate, Nat.mod_eq_of_lt hj] at hu
    refine ⟨fun h2 => ?_, fun h2 => ?_⟩
    · have hu' : u = 3 := by
        rcases (show j = 0 ∨ j = 1 by omega) with rfl | rfl
        · exact (Option.some.inj hu).symm
        · exact (Option.some.inj hu).symm
      subst hu'
      exact cell_int Tryz.underlying3 hc
    · have hu' : u = 5 := by
        obtain ⟨m, rfl⟩ : ∃ m, j = m + 2 := ⟨j - 2, by omega⟩
        rw [List.getElem?_cons_succ, List.getElem?_cons_succ, List.getElem?_replicate] at hu
        split at hu
        · exact (Option.some.inj hu).symm
        · cases hu
      subst hu'
      exact cell_int Tryz.underlying5 hc)
  clear hval0 hsz0 hsz
  refine (calls_below (DitLooksLaw.looks_all m1 a1 c1 k0 sa0 sc0 ca0 cc0 pa2 pb2 ps2 W ho0 hv0 (by omega) (by omega) ho1 hv1 (by omega) wpa2 wpb2 hps2 ⟨⟨tk, hK⟩, ⟨tb, hB⟩⟩)).mono fun e W' ⟨he, bel⟩ => ?_
  subst he
  exact ⟨_, rfl, _, _, _, [], _, [], hW', trodAll_mk1 (shut_bool Tryz.underlying4 _), args_stay (sp := fun b => decide (b < W.heap.size)) bel hT hA0 (fun p hp => by simpa using hA0.lt p hp), rfl, bel.frame _, fun h => by cases h⟩
theorem over : Rows.dittoLooksRow.holds Tryz.pinned (OpenSpec.ofChange Rows.dittoLooksSpec) :=
  OpenClaim.holds_of_wide 4 Tryz.f4 rfl rfl rfl rfl rfl rfl rfl ⟨rfl, rfl, rfl, rfl, rfl⟩ rfl rfl rfl rfl rfl (by kernel_rfl) Tryz.func4 (by kernel_rfl)
    (of_decide_eq_true (by kernel_rfl)) (by unfold Func.isWrapper; first | (rw [if_pos (by decide +kernel)]; kernel_rfl) | (rw [if_neg (by decide +kernel)]; exact ⟨rfl, rfl⟩))
    (fun os started H enc _ => lifted os started H enc)
theorem proved : Rows.DittoLooksCardSaid :=
  Claim7.holds_tied_plain_at .later [] [.data, .data] true (true, "4cf7c6547e5d245b6db15ef7d92ef040f7d61db9d65be33bd21380401b3ca245") false
    over (fun _ h => by cases h) (by kernel_rfl) (fun _ h => by cases h) dittoLooks_row_tie rfl ⟨rfl, rfl⟩ (by kernel_rfl) rfl
    (fun f fn hf hfn => by
      obtain rfl : f = 4 := Option.some.inj ((show Tryz.prog.funcNamed "lazaret/lazaretlaw06.DittoLooks" = some 4 by kernel_rfl).symm.trans hf) |>.symm
      obtain rfl : fn = Tryz.f4 := (Option.some.inj (Tryz.func4.symm.trans hfn)).symm
      exact ⟨by kernel_rfl, fun j t ht => by
        rw [Tryz.params4] at ht
        have hm : t ∈ [25, 28, 31] := by simpa using Array.mem_of_getElem? ht
        have hall : ([25, 28, 31].all fun u => !Tryz.prog.wantsStandIn u) = true := by kernel_rfl
        exact (show Tryz.prog.wantsStandIn t = false by simpa using List.all_eq_true.1 hall t hm)⟩)
    (by kernel_rfl)
#print axioms proved
end Go.Proofs.YtmkmpfnadcmcoaaGreatDoor.rowDittoLooks
namespace Go.Proofs.YtmkmpfnadcmcoaaGreatDoor
/-- The row's card, under a short name, for the claim. -/
theorem dittoLooks_holds : Rows.DittoLooksCardSaid := rowDittoLooks.proved
end Go.Proofs.YtmkmpfnadcmcoaaGreatDoor
